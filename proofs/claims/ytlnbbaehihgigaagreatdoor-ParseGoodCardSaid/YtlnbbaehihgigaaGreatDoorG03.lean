/- Joined for the claim ParseGood: the parser, the lexer and the trees as they are walked, made short by a program of mine. -/
import Derived.Test.YtlnbbaehihgigaaGreatDoorG02
import Derived.Test.YtlnbbaehihgigaaGreatDoorG01
set_option maxHeartbeats 16000000
set_option maxRecDepth 1000000
namespace Go.Proofs.YtlnbbaehihgigaaGreatDoor
variable {l:List Tr} {x:Nd} {w:List UInt8} {a t c y d:Tr} {k:Int} {m:List Nat} {r n:Nat}
theorem zOt {x:UInt16} (h:zM x=true):zA6 x=false:=by
 have h:=zBB.1 h;unfold zA6;have e1:¬97≤x.toNat:=by omega
 have e2:¬65≤x.toNat:=by omega
 have e3:¬x.toNat=95:=by omega
 have e4:¬x.toNat=36:=by omega
 simp[e1,e2,e3,e4]
theorem zFA (n:Nat):∃x r,zU (zBZ n)=x::r∧zM x=true:=by
 have h:=zIU n;have b:=zLe n;cases hq:zU (zBZ n)with
 | nil=>rw[←zGk,hq]at h;simp at h
 | cons x r=>exact⟨x,r,rfl,b x (by rw[hq];simp)⟩
theorem zXm {p:UInt16→Bool}:∀{l r:List UInt16},(∀x∈l,p x=true)→(∀x q,r=x::q→p x=false)→(l++r).takeWhile p=l:=by
 intro l
 induction l with
 | nil=>
  intro r _ b;cases r with
  | nil=>rfl
  | cons x q=>rw[List.nil_append,List.takeWhile_cons_of_neg (by rw[b x q rfl];decide)]
 | cons y l d=>
  intro r c b;rw[List.cons_append,List.takeWhile_cons_of_pos (c y js),d (fun z e=>c z (by simp[e])) b]
theorem zEL (n:Nat) (r:List UInt16) (c:∀x q,r=x::q→zM x=false):zAY false (zU (zBZ n)++r)=zB1 (zU (zBZ n)) r:=by
 obtain⟨x,q,e,b⟩:=zFA n;have h1:zAY false (zU (zBZ n)++r)=zBn (zU (zBZ n)++r):=by
  rw[e,List.cons_append];show(if zA6 x=true then zCp (x::(q++r))else if zM x=true then zBn (x::(q++r))else _)=_;rw[if_neg (by rw[zOt b];decide),if_pos b]
 rw[h1];unfold zBn;rw[zXm (zLe n) c,List.drop_left]
theorem zEM (n:Nat):(zBN 0 (fun x=>x.toNat==48) (zU (zBZ n))&& !decide (zU (zBZ n)=[48]))=false:=by
 have h:=zOo n;obtain⟨x,q,e,b⟩:=zFA n;rw[e]at h⊢;cases q with
 | nil=>
  by_cases b:x=48
  · subst b;rfl
  · have:¬x.toNat=48:=fun h=>b (UInt16.toNat_inj.1 h);simp[zBN,this]
 | cons y q=>
  have c:=h js js;have:¬x.toNat=48:=fun h=>c (UInt16.toNat_inj.1 h);simp[zBN,this]
theorem zSL (h:n≤9007199254740991):zCq (zBZ n)={zq with kind:=2,nn:=(n:Int)}:=by
 unfold zCq;have h1:=zEL n [] (fun x q h=>by cases h);rw[List.append_nil]at h1;rw[h1];unfold zB1;rw[zEM,ji,if_neg (by rw[show zp [110] []=false from rfl];decide),if_neg (by unfold zBN;simp),if_neg (by unfold zBN;simp),zGF,jn]
theorem zXn (m:List Nat):zEk m=zB8 m:=by
 induction m with
 | nil=>rfl
 | cons x r b=>show x+4294967296*zEk r=x+4294967296*zB8 r;rw[b]
theorem zV1:∀(m:List Nat),(∀y∈m,y < 4294967296)→zB8 m < 4294967296^m.length:=by
 intro m
 induction m with
 | nil=>intro _;decide
 | cons x r b=>
  intro h;have h1:=b fun y c=>h y (by simp[c]);have d:=h x js;rw[zB8,List.length_cons,Nat.pow_succ];omega
theorem zJN (h:zBR false m=true) (c:∀y∈m,y < 4294967296):limbs (zEk m)=m∧zEk m < zGR:=by
 unfold zBR at h;rw[Bool.and_eq_true,decide_eq_true_eq]at h;rw[zXn];refine⟨?_,?_⟩
 · unfold limbs;rw[←zD1 9 m jo c];rcases List.eq_nil_or_concat m with rfl | ⟨l,x,rfl⟩
   · rfl
   · rw[List.concat_eq_append]at h⊢;have b:=h.2;rw[List.getLast?_append]at b;exact zFd (by simpa using b) l
 · have h1:=zV1 m c;have b:4294967296^m.length≤4294967296^8:=Nat.pow_le_pow_right jd h.1;unfold zGR;omega
theorem zSM (h:zBR false m=true) (b:∀y∈m,y < 4294967296):zCq (zBZ (zEk m)++[110])={zq with kind:=3,mag:=m}:=by
 obtain⟨h1,d⟩:=zJN h b;unfold zCq;have c:=zEL (zEk m) [110] (fun x q h=>by injection h with h _;rw[←h];decide);rw[zCk,show zU [110]=[110]from rfl,c];unfold zB1;rw[zEM,ji,if_pos jd,zGF];unfold zI1;rw[jn,if_neg (by unfold zBN;simp),h1]
theorem zSN:∀n∈List.range 16,zIE (zCN n).toUInt16=n∧(zCN n).toUInt16≠123:=by decide+kernel
theorem zLf (h:n < 16):zIE (zCN n).toUInt16=n∧(zCN n).toUInt16≠123:=zSN n (List.mem_range.2 h)
theorem zV2 (x:UInt16) (R:List UInt16):zEW (117::(zCN (x.toNat / 4096)).toUInt16::(zCN (x.toNat / 256 % 16)).toUInt16::(zCN (x.toNat / 16 % 16)).toUInt16::(zCN (x.toNat % 16)).toUInt16::R)=(0,x,5):=by
 have d:=x.toNat_lt;obtain⟨a1,a2⟩:=zLf (n:=x.toNat / 4096) jo;obtain⟨b,_⟩:=zLf (n:=x.toNat / 256 % 16) jo;obtain⟨c1,_⟩:=zLf (n:=x.toNat / 16 % 16) jo;obtain⟨d1,_⟩:=zLf (n:=x.toNat % 16) jo;show(if(zB3 117).isSome=true then(0,(zB3 117).getD 0,1)else zRg 117 _)=_;rw[ji];unfold zRg;have hs:∀q,zp [123] ((zCN (x.toNat / 4096)).toUInt16::q)=false:=fun q=>by
  unfold zp;have:¬(123:UInt16)=(zCN (x.toNat / 4096)).toUInt16:=fun e=>a2 e.symm;simp[List.isPrefixOf,this]
 rw[hs,if_neg (by rw[show((117:UInt16).toNat==48)=false from rfl];simp),ji,ji,ji,if_pos jd];unfold zCX;have e:((zCN (x.toNat / 4096)).toUInt16::(zCN (x.toNat / 256 % 16)).toUInt16::(zCN (x.toNat / 16 % 16)).toUInt16::(zCN (x.toNat % 16)).toUInt16::R).take 4=[(zCN (x.toNat / 4096)).toUInt16,(zCN (x.toNat / 256 % 16)).toUInt16,(zCN (x.toNat / 16 % 16)).toUInt16,(zCN (x.toNat % 16)).toUInt16]:=rfl;have c:([(zCN (x.toNat / 4096)).toUInt16,(zCN (x.toNat / 256 % 16)).toUInt16,(zCN (x.toNat / 16 % 16)).toUInt16,(zCN (x.toNat % 16)).toUInt16]:List UInt16).all zEV=true:=by
  simp only[List.all_cons,List.all_nil,zEV,a1,b,c1,d1,Bool.and_eq_true,decide_eq_true_eq,and_true];omega
 have hv:zEa 0 [(zCN (x.toNat / 4096)).toUInt16,(zCN (x.toNat / 256 % 16)).toUInt16,(zCN (x.toNat / 16 % 16)).toUInt16,(zCN (x.toNat % 16)).toUInt16]=x.toNat:=by
  simp only[zEa,a1,b,c1,d1];omega
 rw[e,c,hv,if_pos js];unfold more;rw[if_pos rfl];simp
theorem zMq {x:UInt16} (h:32≤x.toNat∧x.toNat≤126):x.toUInt8.toUInt16=x:=by
 apply UInt16.toNat_inj.1;simp;omega
theorem zOu:∀(u c:List UInt16) (f:Nat),(zU (u.flatMap zGZ++[34])).length < f→zDQ 34 f (zU (u.flatMap zGZ++[34])) c=(0,c++u,(zU (u.flatMap zGZ++[34])).length):=by
 intro u
 induction u with
 | nil=>
  intro c f b;obtain⟨f,rfl⟩:∃g,f=g+1:=⟨f - 1,by omega⟩;rw[List.append_nil];rfl
 | cons x u d=>
  intro c f b;obtain⟨f,rfl⟩:∃g,f=g+1:=⟨f - 1,by omega⟩;rw[List.flatMap_cons,List.append_assoc,zCk]at b⊢;obtain⟨R,j⟩:=jx (zU (u.flatMap zGZ++[34]));rw[j]at b d⊢;unfold zGZ at b⊢
  by_cases h:32≤x.toNat∧x.toNat≤126∧x.toNat≠34∧x.toNat≠92
  · rw[if_pos h]at b⊢;have e:zU [x.toUInt8]++R=x::R:=by
     show x.toUInt8.toUInt16::R=_;rw[zMq ⟨h.1,h.2.1⟩]
    rw[e]at b⊢;have r:=d (c++[x]) f (by simp at b;omega);have e1:¬zAI x=true:=by unfold zAI;simp;omega
    have e2:¬x=34:=fun e=>h.2.2.1 (by rw[e];rfl);unfold zDQ;rw[if_neg e1,if_neg e2,if_neg h.2.2.2,r];simp only[List.append_assoc,List.singleton_append,List.length_cons,Prod.mk.injEq,true_and];omega
  · rw[if_neg h]at b⊢;have e:zU [92,117,zCN (x.toNat / 4096),zCN (x.toNat / 256 % 16),zCN (x.toNat / 16 % 16),zCN (x.toNat % 16)]++R=92::(117::(zCN (x.toNat / 4096)).toUInt16::(zCN (x.toNat / 256 % 16)).toUInt16::(zCN (x.toNat / 16 % 16)).toUInt16::(zCN (x.toNat % 16)).toUInt16::R):=rfl;rw[e]at b⊢;have r:=d (c++[x]) f (by simp at b;omega);unfold zDQ;rw[ji,ji,if_pos jd,zV2,if_neg js];dsimp only;rw[show(117::(zCN (x.toNat / 4096)).toUInt16::(zCN (x.toNat / 256 % 16)).toUInt16::(zCN (x.toNat / 16 % 16)).toUInt16::(zCN (x.toNat % 16)).toUInt16::R).drop 5=R from rfl,r];simp only[List.append_assoc,List.singleton_append,List.length_cons,Prod.mk.injEq,true_and];omega
theorem zLg {u:List UInt16} (_h:u.length≤4096):zCq (zFw u)={zq with kind:=4,str:=u}:=by
 unfold zCq;have e:zU (zFw u)=34::zU (u.flatMap zGZ++[34]):=rfl;have h1:zAY false (34::zU (u.flatMap zGZ++[34]))=zA3 34 (zU (u.flatMap zGZ++[34])):=rfl;rw[e,h1];unfold zA3 zKS;rw[zOu u [] _ (yAF _),if_neg js];rfl
section
variable {L:List Tok} {i j:Nat} {b:Tks} {s:List UInt8}
theorem Std.eq (h:Std L i (s::b)):zZx (zCq s) (zG L i):=h.1.1
theorem zJO (h:zAv x.kind l=true) (b:zl x.kind l.length=([],0)):l=[]:=by
 unfold zAv at h;rw[b]at h;simp only[Bool.and_eq_true]at h;cases l with
 | nil=>rfl
 | cons t r=>
  have:=h.1.2;unfold zAb at this;simp[zC7,zx]at this
theorem zSO (h1:30≤k) (b:k≤37) (n:Nat):zl k n=([],0):=by
 unfold zl
 repeat rw[jn]
theorem zCc (h:goodT (.mk x l)=true):zK x=true∧zAv x.kind l=true∧∀t∈l,goodT t=true:=by
 rw[zIO,Bool.and_eq_true,Bool.and_eq_true]at h;exact⟨h.1.1,h.1.2,zJF.1 h.2⟩
structure Lone (t:Tok) (k:Int):Prop where
 k0:t.kind≠0
 pre:zOk t
 new_:isT t [110,101,119]=false
 open_ : isT t [40] = false
 name:t.kind=1→k=33
 close:isT t [41]=false
 sq:isT t [93]=false
theorem zOv {t:Tok} (b:t.kind≠0) (c:t.kind≠5) (h6:t.kind≠6) (h1:t.kind=1→k=33):Lone t k:=by
 have e5:(t.kind==5)=false:=yA.2 c;have e6:(t.kind==6)=false:=yA.2 h6;exact⟨b,⟨fun h=>by omega,fun h=>by omega⟩,by unfold isT;rw[e5,e6];simp,by unfold isT;rw[e5,e6];simp,h1,by unfold isT;rw[e5,e6];simp,by unfold isT;rw[e5,e6];simp⟩
theorem zBe (b:Lst L) (hi:i≤L.length - 1):zE L .primary (pl i)=zD L (zE L) .primary (pl i):=zV b ⟨hi,trivial⟩
theorem zGH (e:Lst L) (c:(w=[116,114,117,101]∧k=34)∨(w=[102,97,108,115,101]∧k=35)∨(w=[110,117,108,108]∧k=36)∨(w=[116,104,105,115]∧k=37)) (h:Std L i (w::b)):Rn L .primary i (trK k []) (i+1)∧Lone (zG L i) k:=by
 have d:w∈zAF:=by rcases c with h | h | h | h<;>(rw[h.1];decide)
 obtain⟨g1,g2⟩:=h.word d;have hi:=Nat.le_of_lt h.lt;refine⟨?_,⟨by omega,⟨?_,?_⟩,?_,?_,fun h=>by omega,?_,?_⟩⟩
 · unfold Rn;rw[zBe e hi];unfold zD;dsimp only;rw[g1,ji,ji,ji,ji,ji,g2];rcases c with⟨rfl,rfl⟩ | ⟨rfl,rfl⟩ | ⟨rfl,rfl⟩ | ⟨rfl,rfl⟩
   · rfl
   · rfl
   · rfl
   · rfl
 · rw[g2];rcases c with h | h | h | h<;>(rw[h.1];exact fun h=>absurd h.2 jd)
 · rw[g2];rcases c with h | h | h | h<;>(rw[h.1];exact fun h=>absurd h.2 jd)
 · rw[h.is (List.mem_append_right _ d)];rcases c with h | h | h | h<;>(rw[h.1];rfl)
 · rw[h.is (List.mem_append_right _ d)];rcases c with h | h | h | h<;>(rw[h.1];rfl)
 · rw[h.is (List.mem_append_right _ d)];rcases c with h | h | h | h<;>(rw[h.1];rfl)
 · rw[h.is (List.mem_append_right _ d)];rcases c with h | h | h | h<;>(rw[h.1];rfl)
theorem zIV (d:Lst L) (h:Std L i (s::b)) (c:((zCq s).kind=2∧x={zBo with kind:=30,nk:=(zCq s).nk,nn:=(zCq s).nn})∨((zCq s).kind=3∧x={zBo with kind:=31,mag:=(zCq s).mag})∨((zCq s).kind=4∧x={zBo with kind:=32,str:=(zCq s).str})∨((zCq s).kind=1∧x={zBo with kind:=33,name:=(zCq s).text})):Rn L .primary i (.mk x []) (i+1)∧Lone (zG L i) x.kind:=by
 obtain⟨e1,e2,e3,e4,e5,e6⟩:=h.eq;have hi:=Nat.le_of_lt h.lt;refine⟨?_,zOv jo jo jo (fun h1=>?_)⟩
 · unfold Rn;rw[zBe d hi];unfold zD;dsimp only;rw[←e1,←e2,←e3,←e4,←e5,←e6];rcases c with⟨hk,rfl⟩ | ⟨hk,rfl⟩ | ⟨hk,rfl⟩ | ⟨hk,rfl⟩
   · rw[jn,if_pos hk];rfl
   · rw[jn,jn,if_pos hk];rfl
   · rw[jn,jn,jn,if_pos hk];rfl
   · rw[jn,jn,jn,jn,if_pos hk];rfl
 · rcases c with⟨hk,rfl⟩ | ⟨hk,rfl⟩ | ⟨hk,rfl⟩ | ⟨hk,rfl⟩
   · omega
   · omega
   · omega
   · rfl
theorem zKd (d:Lst L) (hg:goodT (.mk x l)=true) (h1:30≤x.kind) (o:x.kind≤37) (hs:Short x):∃s,prT (.mk x l)=[s]∧∀i b,Std L i (s::b)→Rn L .primary i (bareT (.mk x l)) (i+1)∧Lone (zG L i) x.kind:=by
 obtain⟨c,hk,_⟩:=zCc hg;obtain rfl:=zJO hk (zSO h1 o _);rw[zAR,zZ,zCY,zd];unfold zAn;rw[jn]
 by_cases c4:34≤x.kind
 · have p:x.kind∈zHk∧(x.kind≠12∧x.kind≠13∧x.kind≠17):=by
    refine⟨?_,by omega⟩;have:x.kind=34∨x.kind=35∨x.kind=36∨x.kind=37:=by omega
    rcases this with h | h | h | h<;>(rw[h];decide)
   have hb:=(zBp (l:=[]) c p.1 p.2).1;rw[zCY,zd]at hb;rw[hb];have:x.kind=34∨x.kind=35∨x.kind=36∨x.kind=37:=by omega
   unfold zh;rcases this with h | h | h | h
   · rw[h];exact⟨_,rfl,fun i b h=>zGH d (.inl ⟨rfl,rfl⟩) h⟩
   · rw[h];exact⟨_,rfl,fun i b h=>zGH d (.inr (.inl ⟨rfl,rfl⟩)) h⟩
   · rw[h];exact⟨_,rfl,fun i b h=>zGH d (.inr (.inr (.inl ⟨rfl,rfl⟩))) h⟩
   · rw[h];exact⟨_,rfl,fun i b h=>zGH d (.inr (.inr (.inr ⟨rfl,rfl⟩))) h⟩
 by_cases c3:x.kind=33
 · have hN:=zCT c jo jo jo jo;rw[hN.1];have q:zBi x.name=true:=by
    have:=hN.2.1;rwa[c3]at this
   have e:zh x []=[x.name]:=by unfold zh;rw[c3];rfl
   refine⟨_,e,fun i b h=>?_⟩;have:=zIV d (x:={zBo with kind:=x.kind,name:=x.name}) h (.inr (.inr (.inr ⟨(zE4 q).1,by rw[(zE4 q).2,c3]⟩)));exact this
 obtain⟨k,n,u,nk,nn,g,m,ks⟩:=x;simp only at h1 o c4 c3;unfold zK at c;simp only at c;split at c
 · cases c
 split at c
 · cases c
 split at c
 · cases c
 split at c
 · cases c
 rename_i a0 a1 a2 a3
 have r:k=30∨k=31∨k=32:=by omega
 rcases r with rfl | rfl | rfl
 · simp at a1 a3 c;obtain rfl:=a1;obtain⟨rfl,rfl⟩:=a3;obtain⟨⟨⟨rfl,rfl⟩,j⟩,v⟩:=c;unfold zDd at j;simp at j;have f:=zSL (n:=nn.toNat) jo;refine⟨zBZ nn.toNat,rfl,fun i b h=>zIV d h (.inl ⟨by rw[f],?_⟩)⟩;rw[f];simp[zBo,zq];omega
 · simp at a1 a2 c;obtain rfl:=a1;obtain⟨rfl,rfl⟩:=a2;obtain⟨⟨rfl,j⟩,rfl⟩:=c;have f:=zSM j hs.limb;refine⟨zBZ (zEk m)++[110],rfl,fun i b h=>zIV d h (.inr (.inl ⟨by rw[f],?_⟩))⟩;rw[f];rfl
 · simp at a2 a3 c;obtain⟨rfl,rfl⟩:=a2;obtain⟨rfl,rfl⟩:=a3;obtain⟨rfl,t⟩:=c;have f:=zLg t;refine⟨zFw u,rfl,fun i b h=>zIV d h (.inr (.inr (.inl ⟨by rw[f],?_⟩)))⟩;rw[f];rfl
end
structure First (L:List Tok) (i:Nat) (k:Int):Prop where
 k0:(zG L i).kind≠0
 close:isT (zG L i) [41]=false
 name:(zG L i).kind=1→k=33∨(isT (zG L (i+1)) [44]=false∧isT (zG L (i+1)) [41]=false∧isT (zG L (i+1)) [61,62]=false)
def ExA (L:List Tok) (t:Tr):Prop:=∀i b,Std L i (prT t++b)→End (zG L (i+(prT t).length))→Rn L .assign i (bareT t) (i+(prT t).length)
def ExF (L:List Tok) (t:Tr):Prop:=∀i b,Std L i (prT t++b)→First L i t.nd.kind
structure Part (L:List Tok) (i j:Nat):Prop where
 k0:(zG L i).kind≠0
 pre:zOk (zG L i)
 new_:isT (zG L i) [110,101,119]=false
 close:isT (zG L i) [41]=false
 sq:isT (zG L i) [93]=false
 next:i < j
 arr:isT (zG L j) [61,62]=false→zOl L i
 name:(zG L i).kind=1→j=i+1
section
variable {L:List Tok} {i j:Nat} {b:Tks}
theorem zJP (h:isT (zG L i) w=false) (b:w=[40]):¬zAh L (pl i)=true:=by
 subst b;unfold zAh;have:onP L [40] (pl i)=false:=h;rw[this];simp
theorem zSP (g:Lst L) (h1:isT (zG L (i+1)) [41]=false) (j:(zG L (i+1)).kind=1→isT (zG L (i+2)) [44]=false∧(isT (zG L (i+2)) [41]=true→isT (zG L (i+3)) [61,62]=false)):¬zAh L (pl i)=true:=by
 unfold zAh;rw[Bool.and_eq_true];rintro⟨_,h⟩;have m:=g.pos;obtain⟨f,l⟩:∃f,L.length=f+1:=⟨L.length - 1,by omega⟩;rw[if_neg (by show¬isT (zG L (i+1)) [41]=true;rw[h1];decide),l]at h;unfold zEd at h
 by_cases c:(zG L (i+1)).kind=1
 · obtain⟨g1,g2⟩:=j c;have d:(zG L ((pl i).k+1)).kind=1:=c;have e:isT (zG L ((pl i).k+1+1)) [44]=false:=g1;rw[if_pos d,if_neg (by rw[e];decide)]at h;have b:zBy L (i+2)=true:=h;unfold zBy at b;rw[Bool.and_eq_true]at b;rw[g2 b.1]at b;cases b.2
 · have d:¬(zG L ((pl i).k+1)).kind=1:=c;rw[if_neg d]at h;cases h
theorem zLh (f:Lst L) (A:ExA L t) (F:ExF L t) (h:Std L i (inP (prT t)++b)) (r:0 < (prT t).length) (g:t.nd.kind=33→(prT t).length=1):Rn L .primary i (bareT t) (i+(inP (prT t)).length)∧Part L i (i+(inP (prT t)).length):=by
 unfold inP at h⊢;rw[List.cons_append,List.append_assoc]at h;have h1:Std L (i+1) (prT t++([[41]]++b)):=h.2;have c:Std L (i+1+(prT t).length) ([41]::b):=h1.right;have j:=A (i+1) _ h1 (zDg c jd);obtain⟨k1,t1⟩:=h.sign jd;obtain⟨k2,t2⟩:=c.sign jd;have l:=F (i+1) _ h1;have e:([40]::(prT t++[[41]])).length=(prT t).length+2:=by simp
 rw[e];have hi:=Nat.le_of_lt h.lt;refine⟨?_,⟨by omega,⟨?_,?_⟩,?_,?_,?_,by omega,fun m=>⟨fun o=>by omega,?_⟩,fun o=>by omega⟩⟩
 · unfold Rn at j⊢;rw[zBe f hi];unfold zD;dsimp only;rw[k1,ji,ji,ji,ji,ji,t1,ji,ji,ji,ji,ji,ji,ji,if_pos rfl];rw[show zB (pl i)=pl (i+1)from rfl,j];dsimp only;unfold zL onP isT;rw[show(pl (i+1+(prT t).length)).k=i+1+(prT t).length from rfl,k2,t2,if_pos jd];unfold zB;simp only[Prod.mk.injEq,Ps.mk.injEq,true_and,and_true];omega
 · rw[t1];exact fun h=>absurd h.2 jd
 · rw[t1];exact fun h=>absurd h.2 jd
 · rw[h.is jd];rfl
 · rw[h.is jd];rfl
 · rw[h.is jd];rfl
 · refine zSP f l.close (fun hk=>?_);rcases l.name hk with d | d
   · have p:=g d;rw[p]at c m;refine⟨by rw[show i+2=i+1+1 by omega,c.is jd];rfl,fun _=>?_⟩;exact m
   · refine⟨d.1,fun q=>?_⟩;have:isT (zG L (i+1+1)) [41]=true:=q;rw[d.2.1]at this;cases this
theorem zFB (h:Lone (zG L i) k):Part L i (i+1):=
 ⟨h.k0,h.pre,h.new_,h.close,h.sq,by omega,fun c=>⟨fun b=>by rw[c]at b;exact absurd b.2 jd,zJP h.open_ rfl⟩,fun _=>rfl⟩
theorem zGl (hg:goodT t=true) (hs:ShortT t) (b:Lst L) (h:t.nd.kind=33):(prT t).length=1:=by
 cases t with
 | mk x l=>
  rw[zCF]at hs;obtain⟨s,h1,_⟩:=zKd b hg (by have:x.kind=33:=h;omega) (by have:x.kind=33:=h;omega) hs.1;rw[h1];rfl
theorem zSQ (c:Lst L) (hg:goodT t=true) (hs:ShortT t) (g:zBf t.nd.kind=true) (A:ExA L t) (F:ExF L t) (d:0 < (prT t).length) (h:Std L i (ze (t.nd.kind,prT t)++b)):Rn L .primary i (bareT t) (i+(ze (t.nd.kind,prT t)).length)∧Part L i (i+(ze (t.nd.kind,prT t)).length):=by
 by_cases hk:30≤t.nd.kind∧t.nd.kind≤37
 · have e:ze (t.nd.kind,prT t)=prT t:=by unfold ze;rw[if_pos hk]
   rw[e]at h⊢;cases t with
   | mk x l=>
    rw[zCF]at hs;obtain⟨s,h1,f⟩:=zKd c hg hk.1 hk.2 hs.1;rw[h1]at h⊢;obtain⟨g1,g2⟩:=f i b h;exact⟨g1,zFB g2⟩
 · have e:ze (t.nd.kind,prT t)=inP (prT t):=by unfold ze;rw[if_neg hk]
   rw[e]at h⊢;exact zLh c A F h d (fun h=>by omega)
theorem Part.calls (b:Lst L) (hi:i≤L.length - 1) (c:j≤L.length - 1) (h:Rn L .primary i y j) (p:Part L i j) (d:EndM (zG L j)):Rn L .calls i y j:=zE5 b hi (zGi b hi h p.new_) (zDB b c d)
theorem Part.unary (b:Lst L) (hi:i≤L.length - 1) (c:j≤L.length - 1) (h:Rn L .primary i y j) (p:Part L i j) (d:EndM (zG L j)) (e:¬((zG L j).kind=5∧(zG L j).text∈zDO∧(zG L j).nl=false)):Rn L .unary i y j:=zEJ b hi (p.calls b hi c h d) p.pre e
theorem Part.all (c:Lst L) (hi:i≤L.length - 1) (d:j≤L.length - 1) (h:Rn L .primary i y j) (p:Part L i j) (b:End (zG L j)):Rn L .assign i y j:=zCj c hi d (p.unary c hi d h b.m b.post) b (p.arr (b.words _ jd))
end
theorem zAN {s:List Nat} (h:zAv k l=true) (e:zl k l.length=(s,r)):s.length≤l.length∧zC7 s r (zAb l)=true:=by
 unfold zAv at h;rw[e]at h;simp only[Bool.and_eq_true]at h;exact⟨of_decide_eq_true h.1.1.2,h.1.2⟩
theorem zCG (h:zC7 [] 0 (zAb l)=true):l=[]:=by
 cases l with
 | nil=>rfl
 | cons t r=>unfold zAb at h;simp[zC7,zx]at h
theorem zCH (h:zC7 [] r (zAb l)=true):∀t∈l,zx r t.nd.kind=true:=by
 rw[zLY]at h;intro t b;exact List.all_eq_true.1 h _ (List.mem_map_of_mem b)
theorem zAz {a:Nat} {s:List Nat} (c:(a::s).length≤l.length) (h:zC7 (a::s) r (zAb l)=true):∃t q,l=t::q∧zx a t.nd.kind=true∧s.length≤q.length∧zC7 s r (zAb q)=true:=by
 cases l with
 | nil=>simp at c
 | cons t q=>
  have b:(zx a t.nd.kind&&zC7 s r (zAb q))=true:=h;rw[Bool.and_eq_true]at b;exact⟨t,q,rfl,b.1,by simpa using c,b.2⟩
theorem zOw {a:Nat} (h:zAv k l=true) (e:zl k l.length=([a],0)):∃t,l=[t]∧zx a t.nd.kind=true:=by
 obtain⟨h1,b⟩:=zAN h e;obtain⟨t,q,rfl,c,_,d⟩:=zAz h1 b;obtain rfl:=zCG d;exact⟨t,rfl,c⟩
theorem zXc {a b:Nat} (h:zAv k l=true) (e:zl k l.length=([a,b],0)):∃t u,l=[t,u]∧zx a t.nd.kind=true∧zx b u.nd.kind=true:=by
 obtain⟨h1,c⟩:=zAN h e;obtain⟨t,q,rfl,d,f,g⟩:=zAz h1 c;obtain⟨u,q,rfl,h6,_,j⟩:=zAz f g;obtain rfl:=zCG j;exact⟨t,u,rfl,d,h6⟩
theorem zYj {a b c:Nat} (h:zAv k l=true) (e:zl k l.length=([a,b,c],0)):∃t u v,l=[t,u,v]∧zx a t.nd.kind=true∧zx b u.nd.kind=true∧zx c v.nd.kind=true:=by
 obtain⟨h1,f⟩:=zAN h e;obtain⟨t,q,rfl,g,j,m⟩:=zAz h1 f;obtain⟨u,q,rfl,h6,o,p⟩:=zAz j m;obtain⟨v,q,rfl,r,_,d⟩:=zAz o p;obtain rfl:=zCG d;exact⟨t,u,v,rfl,g,h6,r⟩
theorem zZ4 {a b c d:Nat} (h:zAv k l=true) (e:zl k l.length=([a,b,c,d],0)):∃t u v x,l=[t,u,v,x]∧zx a t.nd.kind=true∧zx b u.nd.kind=true∧zx c v.nd.kind=true∧zx d x.nd.kind=true:=by
 obtain⟨h1,o⟩:=zAN h e;obtain⟨t,q,rfl,p,r,s⟩:=zAz h1 o;obtain⟨u,q,rfl,h6,y,z⟩:=zAz r s;obtain⟨v,q,rfl,A,f,g⟩:=zAz y z;obtain⟨x,q,rfl,j,_,m⟩:=zAz f g;obtain rfl:=zCG m;exact⟨t,u,v,x,rfl,p,h6,A,j⟩
theorem zFe (h:zBf k=true):30≤k∧k≤53∧k≠40:=by
 unfold zBf at h;simp only[Bool.and_eq_true,decide_eq_true_eq,Bool.not_eq_true',yA]at h;exact⟨h.1.1,h.1.2,h.2⟩
structure ExK (L:List Tok) (t:Tr):Prop where
 good:goodT t=true
 short:ShortT t
 expr:zBf t.nd.kind=true
 all:ExA L t
 first:ExF L t
 pos:0 < (prT t).length
section
variable {L:List Tok} {i j:Nat} {b:Tks}
def zO (t:Tr):Tks:=ze (t.nd.kind,prT t)
theorem ExK.part (c:Lst L) (h:ExK L t) (hs:Std L i (zO t++b)):Rn L .primary i (bareT t) (i+(zO t).length)∧Part L i (i+(zO t).length):=zSQ c h.good h.short h.expr h.all h.first h.pos hs
theorem Std.mid {a:Tks} (h:Std L i (a++b)):i+a.length≤L.length - 1:=h.left.le
theorem ExK.whole (c:Lst L) (h:ExK L t) (hs:Std L i (zO t++b)) (d:End (zG L (i+(zO t).length))):Rn L .assign i (bareT t) (i+(zO t).length):=by
 obtain⟨g1,g2⟩:=h.part c hs;exact g2.all c (by have:=hs.mid;omega) hs.mid g1 d
theorem ExK.brack (c:Lst L) (h:ExK L t) (hs:Std L i (inP (prT t)++b)):Rn L .primary i (bareT t) (i+(inP (prT t)).length)∧Part L i (i+(inP (prT t)).length):=zLh c h.all h.first hs h.pos (zGl h.good h.short c)
theorem ExK.brackA (c:Lst L) (h:ExK L t) (hs:Std L i (inP (prT t)++b)) (d:End (zG L (i+(inP (prT t)).length))):Rn L .assign i (bareT t) (i+(inP (prT t)).length):=by
 obtain⟨g1,g2⟩:=h.brack c hs;exact g2.all c (by have:=hs.mid;omega) hs.mid g1 d
theorem zOx (k:Lst L) (m:w=[41]∨w=[93]):∀(r:List Tr) (t:Tr) (c:List Tr) (i:Nat) (b:Tks),(∀x∈t::r,ExK L x)→Std L i (zAW ze (prs (t::r))++(w::b))→Rn L (.listL w c) i (trK 0 (c++bareL (t::r))) (i+(zAW ze (prs (t::r))).length+1):=by
 intro r
 induction r with
 | nil=>
  intro t c i b l hs;have e:zAW ze (prs [t])=zO t++[]:=by rw[zI,zZ];rfl
  rw[e,List.append_nil]at hs⊢;have d:Std L (i+(zO t).length) (w::b):=hs.right;have f:=(l t js).whole k hs (zDg d (by rcases m with rfl | rfl<;>decide));have hi:i≤L.length - 1:=by have:=hs.mid;omega
  have g:onP L w (pl (i+(zO t).length))=true:=by
   show isT (zG L (i+(zO t).length)) w=true;rw[d.is (by rcases m with rfl | rfl<;>decide)];simp
  unfold Rn at f⊢;rw[zV k ⟨hi,trivial⟩];unfold zD;dsimp only;rw[f];dsimp only;rw[if_neg js,if_pos g,zP,zd];rfl
 | cons u r q=>
  intro t c i b l hs;have e:zAW ze (prs (t::u::r))=zO t++([44]::zAW ze (prs (u::r))):=by rw[zI,zI];rfl
  rw[e,List.append_assoc,List.cons_append]at hs;rw[e];have d:Std L (i+(zO t).length) ([44]::(zAW ze (prs (u::r))++(w::b))):=hs.right;have s:Std L (i+(zO t).length+1) (zAW ze (prs (u::r))++(w::b)):=d.2;have f:=(l t js).whole k hs (zDg d jd);have hi:i≤L.length - 1:=by have:=hs.mid;omega
  have o:¬onP L w (pl (i+(zO t).length))=true:=by
   show¬isT (zG L (i+(zO t).length)) w=true;rw[d.is jd];rcases m with rfl | rfl<;>decide
  have g:onP L [44] (pl (i+(zO t).length))=true:=by
   show isT (zG L (i+(zO t).length)) [44]=true;rw[d.is jd];rfl
  have j:=q u (c++[bareT t]) _ b (fun x p=>l x (List.mem_cons_of_mem _ p)) s;unfold Rn at f j⊢;rw[zV k ⟨hi,trivial⟩];unfold zD;dsimp only;rw[f];dsimp only;rw[if_neg js,if_neg o];unfold zL;rw[if_pos g];show zE L (.listL w (c++[bareT t])) (pl (i+(zO t).length+1))=_;rw[j,zP t];simp only[List.append_assoc,List.singleton_append,Prod.mk.injEq,Ps.mk.injEq,true_and,and_true,List.length_append,List.length_cons];omega
theorem zLi (c:Lst L) (d:w=[41]∨w=[93]) (l:List Tr) (g:∀x∈l,ExK L x) (hs:Std L i (zAW ze (prs l)++(w::b))):Rn L (.list w) i (trK 0 (bareL l)) (i+(zAW ze (prs l)).length+1):=by
 have hi:i≤L.length - 1:=by have:=hs.mid;omega
 have j:w∈zv++zAF:=by rcases d with rfl | rfl<;>decide
 cases l with
 | nil=>
  have e:zAW ze (prs [])=[]:=by rw[zZ];rfl
  rw[e,List.nil_append]at hs;rw[e];unfold Rn;rw[zV c ⟨hi,trivial⟩];unfold zD;dsimp only;rw[if_pos (by show isT (zG L i) w=true;rw[hs.is j];simp),zd];rfl
 | cons t r=>
  have f:=zOx c d r t [] i b g hs;rw[List.nil_append]at f;have k:isT (zG L i) w=false:=by
   have m:Std L i (zO t++(zGY ze (prs r)++(w::b))):=by
    rw[zI]at hs;have:zAW ze ((t.nd.kind,prT t)::prs r)=zO t++zGY ze (prs r):=rfl;rw[this,List.append_assoc]at hs;exact hs
   obtain⟨_,g2⟩:=(g t js).part c m;rcases d with rfl | rfl
   · exact g2.close
   · exact g2.sq
  unfold Rn at f⊢;rw[zV c ⟨hi,trivial⟩];unfold zD;dsimp only;rw[if_neg (by show¬isT (zG L i) w=true;rw[k];decide)];exact f
end
def zSR (L:List Tok) (t:Tr):Prop:=∀i b,Std L i (prT t++b)→EndM (zG L (i+(prT t).length))→isT (zG L (i+(prT t).length)) [61,62]=false→Rn L .calls i (bareT t) (i+(prT t).length)∧zOk (zG L i)∧zOl L i
section
variable {L:List Tok} {i j:Nat} {b:Tks}
theorem zCd (p:Part L i j) (h:∀w∈([[44],[41],[61,62]]:List (List UInt8)),isT (zG L j) w=false):First L i k:=
 ⟨p.k0,p.close,fun hk=>by
  have e:=p.name hk;subst e;exact .inr ⟨h _ jd,h _ jd,h _ jd⟩⟩
theorem zDD {s:List UInt8} (h:Std L i (s::b)) (hs:s∈zv++zAF) (h1:s≠[41]):First L i k:=by
 have hk:(zG L i).kind=5∨(zG L i).kind=6:=by
  rcases List.mem_append.1 hs with g | g
  · exact .inl (h.sign g).1
  · exact .inr (h.word g).1
 exact⟨by omega,by rw[h.is hs];exact yAI h1,fun h=>by omega⟩
theorem zEN {s:List UInt8} (h:Std L i (s::b)) (hs:s∈zv++zAF) (h1:s≠[40]):zOl L i:=by
 have hk:(zG L i).kind=5∨(zG L i).kind=6:=by
  rcases List.mem_append.1 hs with g | g
  · exact .inl (h.sign g).1
  · exact .inr (h.word g).1
 exact⟨fun h=>by omega,zJP (by rw[h.is hs];exact yAI h1) rfl⟩
theorem Std.text2 {s:List UInt8} (h:Std L i (s::b)) (hs:s∈zv++zAF):(zG L i).text=s∧((zG L i).kind=5∨(zG L i).kind=6):=by
 rcases List.mem_append.1 hs with g | g
 · exact⟨(h.sign g).2,.inl (h.sign g).1⟩
 · exact⟨(h.word g).2,.inr (h.word g).1⟩
theorem zOy {s:List UInt8} (h:Std L i (s::b)) (hs:s∈zv++zAF) (c:s≠[40]∧s≠[46]∧s≠[91]):EndM (zG L i):=
 ⟨by rw[h.is hs];exact yAI c.1,by rw[h.is hs];exact yAI c.2.1,by rw[h.is hs];exact yAI c.2.2⟩
theorem zV3:∀s∈zHK,s∈zv++zAF∧s≠[40]∧s≠[41]:=by decide+kernel
theorem zOz:∀s∈zDO,s∈zv++zAF∧s∈zv∧s≠[40]∧s≠[41]∧s∉zHK∧s≠[46]∧s≠[91]∧s≠[61,62]∧s≠[44]:=by decide+kernel
theorem zV4:∀s∈zIF,s∈zv∧s∉zDO∧zEe s=9∧s≠[105,110]∧(∀w∈onW,s≠w)∧s≠[44]∧s≠[41]:=by decide+kernel
theorem zV5:∀s∈zU8,s∈zv++zAF∧zEe s < 8∧s∉zDO∧(∀w∈onW,s≠w)∧s≠[44]∧s≠[41]∧(s∈zv∨s=[105,110]):=by decide+kernel
structure ExO (L:List Tok) (t:Tr):Prop where
 all:ExA L t
 first:ExF L t
 pos:0 < (prT t).length
theorem zZ5 (e:Lst L) (hk:x.kind=43) (j:zK x=true) (l:ExK L a):ExO L (.mk x [a]):=by
 have hN:=zCT j jo jo jo jo;have f:x.name∈zHK:=by
  have:=hN.2.1;rw[hk]at this;exact of_decide_eq_true this
 obtain⟨q1,q2,q3⟩:=zV3 _ f;have hb:bareT (.mk x [a])=trN 43 x.name [bareT a]:=by rw[zDf j jo jo jo jo,hk,zP,zd]
 have g:prT (.mk x [a])=x.name::zO a:=by rw[zAR,zI,zZ];unfold zAn zh;rw[hk];rfl
 refine⟨fun i b hs c=>?_,fun i b hs=>?_,by rw[g];simp⟩
 · rw[g]at hs c⊢;rw[hb];rw[List.cons_append]at hs;obtain⟨t1,t2⟩:=hs.text2 q1;have d:Std L (i+1) (zO a++b):=hs.2;obtain⟨g1,g2⟩:=l.part e d;have o:i+(x.name::zO a).length=i+1+(zO a).length:=by simp;omega
   rw[o]at c⊢;have k:=g2.unary e (by have:=d.mid;omega) d.mid g1 c.m c.post;refine zCj e (by have:=d.mid;omega) d.mid ?_ c (zEN hs q1 q2);unfold Rn at k⊢;rw[zV e ⟨Nat.le_of_lt hs.lt,trivial⟩];unfold zD;dsimp only;rw[t1,if_pos ⟨t2,f⟩];show(trN 43 x.name [(zE L .unary (pl (i+1))).1],(zE L .unary (pl (i+1))).2)=_;rw[k]
 · rw[g,List.cons_append]at hs;exact zDD hs q1 q3
theorem zZ6 (f:Lst L) (hk:x.kind=44) (j:zK x=true) (l:zAB a.nd.kind=true) (o:zSR L a):ExO L (.mk x [a]):=by
 have hN:=zCT j jo jo jo jo;have e:x.name∈zDO:=by
  have:=hN.2.1;rw[hk]at this;exact of_decide_eq_true this
 obtain⟨q1,q2,q3,q4,q5,q6,q7,q8,q⟩:=zOz _ e;have hb:bareT (.mk x [a])=trN 44 x.name [bareT a]:=by rw[zDf j jo jo jo jo,hk,zP,zd]
 have g:prT (.mk x [a])=x.name::prT a:=by rw[zAR,zI,zZ];unfold zAn zh;rw[hk];rfl
 refine⟨fun i b hs c=>?_,fun i b hs=>?_,by rw[g];simp⟩
 · rw[g]at hs c⊢;rw[hb];rw[List.cons_append]at hs;obtain⟨t1,t2⟩:=hs.text2 q1;have d:Std L (i+1) (prT a++b):=hs.2;have p:i+(x.name::prT a).length=i+1+(prT a).length:=by simp;omega
   rw[p]at c⊢;obtain⟨g1,g2,r⟩:=o (i+1) b d c.m (c.words _ jd);have k:=zEJ f (by have:=d.mid;omega) g1 g2 c.post;refine zCj f (by have:=d.mid;omega) d.mid ?_ c (zEN hs q1 q3);unfold Rn at k⊢;rw[zV f ⟨Nat.le_of_lt hs.lt,trivial⟩];unfold zD;dsimp only;rw[t1,if_neg (fun h=>q5 h.2),if_pos ⟨t2,e⟩];show(trN 44 x.name [(zE L .unary (pl (i+1))).1],if(zE L .unary (pl (i+1))).2.bad=0∧zAB (zE L .unary (pl (i+1))).1.nd.kind=false then za L (zE L .unary (pl (i+1))).2 else(zE L .unary (pl (i+1))).2)=_;rw[k];dsimp only;rw[zGh,l,if_neg js]
 · rw[g,List.cons_append]at hs;exact zDD hs q1 q4
theorem zZ7 (j:Lst L) (hk:x.kind=45) (k:zK x=true) (q:zAB a.nd.kind=true) (r:zSR L a) (l:∀i b,Std L i (prT a++b)→First L i a.nd.kind) (m:0 < (prT a).length) (o:a.nd.kind=33→(prT a).length=1):ExO L (.mk x [a]):=by
 have hN:=zCT k jo jo jo jo;have e:x.name∈zDO:=by
  have:=hN.2.1;rw[hk]at this;exact of_decide_eq_true this
 obtain⟨q1,q2,q3,q4,q5,q6,q7,q8,s⟩:=zOz _ e;have hb:bareT (.mk x [a])=trN 45 x.name [bareT a]:=by rw[zDf k jo jo jo jo,hk,zP,zd]
 have f:prT (.mk x [a])=prT a++[x.name]:=by rw[zAR,zI,zZ];unfold zAn zh;rw[hk];rfl
 refine⟨fun i b hs g=>?_,fun i b hs=>?_,by rw[f];simp⟩
 · rw[f]at hs g⊢;rw[hb];rw[List.append_assoc]at hs;have c:Std L (i+(prT a).length) (x.name::b):=hs.right;have t:i+(prT a++[x.name]).length=i+(prT a).length+1:=by simp;omega
   rw[t]at g⊢;obtain⟨k1,t1⟩:=c.sign q2;obtain⟨g1,g2,u⟩:=r i _ hs (zOy c q1 ⟨q3,q6,q7⟩) (by rw[c.is q1];exact yAI q8);refine zCj j (by have:=hs.mid;omega) c.lt ?_ g u;unfold Rn at g1⊢;rw[zV j ⟨by have:=hs.mid;show i≤_;omega,trivial⟩];unfold zD;dsimp only;rw[if_neg g2.1,if_neg g2.2,g1];dsimp only;rw[t1,if_pos ⟨k1,e,c.nl⟩,zGh,q,if_neg js];rfl
 · rw[f,List.append_assoc]at hs;have c:Std L (i+(prT a).length) (x.name::b):=hs.right;have d:=l i _ hs;refine⟨d.k0,d.close,fun p=>?_⟩;rcases d.name p with h | h
   · have m:=o h;rw[m]at c;exact .inr ⟨by rw[c.is q1];exact yAI s,by rw[c.is q1];exact yAI q4,by rw[c.is q1];exact yAI q8⟩
   · exact .inr h
theorem zZ8 (f:Lst L) (hk:x.kind=49) (o:zK x=true) (y:zAB a.nd.kind=true) (z:zSR L a) (p:∀i b,Std L i (prT a++b)→First L i a.nd.kind) (q:a.nd.kind=33→(prT a).length=1) (A:ExK L c):ExO L (.mk x [a,c]):=by
 have hN:=zCT o jo jo jo jo;have j:x.name∈zIF:=by
  have:=hN.2.1;rw[hk]at this;exact of_decide_eq_true this
 obtain⟨q2,q3,q4,q5,q6,q7,q8⟩:=zV4 _ j;have q1:x.name∈zv++zAF:=List.mem_append_left _ q2;have hb:bareT (.mk x [a,c])=trN 49 x.name [bareT a,bareT c]:=by rw[zDf o jo jo jo jo,hk,zP,zP,zd]
 have l:prT (.mk x [a,c])=prT a++(x.name::zO c):=by rw[zAR,zI,zI,zZ];unfold zAn zh;rw[hk];rfl
 refine⟨fun i b hs m=>?_,fun i b hs=>?_,by rw[l];simp;omega⟩
 · rw[l]at hs m⊢;rw[hb];rw[List.append_assoc,List.cons_append]at hs;have e:Std L (i+(prT a).length) (x.name::(zO c++b)):=hs.right;have B:Std L (i+(prT a).length+1) (zO c++b):=e.2;have C:i+(prT a++(x.name::zO c)).length=i+(prT a).length+1+(zO c).length:=by simp;omega
   rw[C]at m⊢;obtain⟨k1,t1⟩:=e.sign q2;have hi:i≤L.length - 1:=by have:=hs.mid;omega
   have r:=Nat.le_of_lt e.lt;have d:∀w∈onW,isT (zG L (i+(prT a).length)) w=false:=fun w d=>by rw[e.is q1];exact yAI (q6 w d)
   obtain⟨g1,g2,s⟩:=z i _ hs ⟨d _ jd,d _ jd,d _ jd⟩ (d _ jd);have D:=zEJ f hi g1 g2 (by rw[t1];exact fun h=>q3 h.2.1);have t:zBE (zG L (i+(prT a).length))=9:=by
    unfold zBE;rw[t1,q4];split<;>rfl
   have k:=zIT f hi (zE6 f hi r (zLd f hi r (yAC _) (zJK f hi D) t) (d _ jd) (d _ jd) (d _ jd)) (d _ jd);have u:=A.whole f B m;unfold Rn at k u⊢;rw[zV f ⟨hi,trivial⟩];unfold zD;dsimp only;rw[if_neg (fun h=>s.1 ⟨h.1,h.2.1⟩),if_neg s.2,k];dsimp only;rw[t1,if_neg (by rw[k1];simp[j]),zGh,y,if_neg js];show(trN 49 x.name [bareT a,(zE L .assign (pl (i+(prT a).length+1))).1],(zE L .assign (pl (i+(prT a).length+1))).2)=_;rw[u]
 · rw[l,List.append_assoc,List.cons_append]at hs;have e:Std L (i+(prT a).length) (x.name::(zO c++b)):=hs.right;have g:=p i _ hs;refine⟨g.k0,g.close,fun v=>?_⟩;rcases g.name v with h | h
   · have E:=q h;rw[E]at e;exact .inr ⟨by rw[e.is q1];exact yAI q7,by rw[e.is q1];exact yAI q8,by rw[e.is q1];exact yAI (q6 _ jd)⟩
   · exact .inr h
theorem zZ9 (d:Lst L) (hk:x.kind=46) (q:zK x=true) (r:ExK L a) (C:ExK L c):ExO L (.mk x [a,c]):=by
 have hN:=zCT q jo jo jo jo;have s:x.name∈zU8:=by
  have:=hN.2.1;rw[hk]at this;exact of_decide_eq_true this
 obtain⟨q1,q2,q3,q4,q5,q6,q7⟩:=zV5 _ s;have hb:bareT (.mk x [a,c])=trN 46 x.name [bareT a,bareT c]:=by rw[zDf q jo jo jo jo,hk,zP,zP,zd]
 have o:prT (.mk x [a,c])=zO a++(x.name::zO c):=by rw[zAR,zI,zI,zZ];unfold zAn zh;rw[hk];rfl
 refine⟨fun i b hs e=>?_,fun i b hs=>?_,by rw[o];simp;omega⟩
 · rw[o]at hs e⊢;rw[hb];rw[List.append_assoc,List.cons_append]at hs;have f:Std L (i+(zO a).length) (x.name::(zO c++b)):=hs.right;have j:Std L (i+(zO a).length+1) (zO c++b):=f.2;have D:i+(zO a++(x.name::zO c)).length=i+(zO a).length+1+(zO c).length:=by simp;omega
   rw[D]at e⊢;obtain⟨t1,k1⟩:=f.text2 q1;have hi:i≤L.length - 1:=by have:=hs.mid;omega
   have p:=Nat.le_of_lt f.lt;have k:=f.lt;have g:∀w∈onW,isT (zG L (i+(zO a).length)) w=false:=fun w g=>by rw[f.is q1];exact yAI (q4 w g)
   obtain⟨g1,g2⟩:=r.part d hs;obtain⟨E,F⟩:=C.part d j;obtain⟨n,t⟩:=jx (zEe x.name);rw[t]at q2;have l:zBE (zG L (i+(zO a).length))=n:=by
    unfold zBE;rw[t1,t,if_pos];rcases q7 with h | h
    · exact .inl (f.sign h).1
    · right;rw[f.is q1];exact decide_eq_true h
   have G:=g2.unary d hi p g1 ⟨g _ jd,g _ jd,g _ jd⟩ (by rw[t1];exact fun h=>q3 h.2.1);have u:=F.unary d k j.mid E e.m e.post;have v:Rn L (.level (n+1)) i (bareT a) (i+(zO a).length):=zIS d hi p (7 - n) (n+1) jo (by rw[show n+1+(7 - n)=8 by omega];exact zJK d hi G) (fun m _ _=>by rw[l];omega);have z:Rn L (.level (n+1)) (i+(zO a).length+1) (bareT c) (i+(zO a).length+1+(zO c).length):=zIS d k j.mid (7 - n) (n+1) jo (by rw[show n+1+(7 - n)=8 by omega];exact zJK d k u) (fun m _ _=>by rw[e.binds];omega);have A:Rn L (.levelL n (bareT a)) (i+(zO a).length) (trN 46 x.name [bareT a,bareT c]) (i+(zO a).length+1+(zO c).length):=by
    have B:=zHm (y:=trN 46 x.name [bareT a,bareT c]) d j.mid q2 (by rw[e.binds];omega);unfold Rn at z B⊢;rw[zV d ⟨p,q2⟩];unfold zD;dsimp only;rw[if_pos l,t1];show zE L (.levelL n (trN 46 x.name [bareT a,(zE L (.level (n+1)) (pl (i+(zO a).length+1))).1])) (zE L (.level (n+1)) (pl (i+(zO a).length+1))).2=_;rw[z];exact B
   have H:Rn L (.level n) i (trN 46 x.name [bareT a,bareT c]) (i+(zO a).length+1+(zO c).length):=by
    unfold Rn at v A⊢;rw[zV d ⟨hi,by show n≤8;omega⟩];unfold zD;dsimp only;rw[jn,v];exact A
   have I:=zLd d hi j.mid jo H e.binds;exact zE7 d hi (zIT d hi (zE6 d hi j.mid I (e.words _ jd) (e.words _ jd) (e.words _ jd)) (e.words _ jd)) (g2.arr (g _ jd)) e.asgn
 · rw[o,List.append_assoc,List.cons_append]at hs;have f:Std L (i+(zO a).length) (x.name::(zO c++b)):=hs.right;obtain⟨_,g2⟩:=r.part d hs;refine zCd g2 (fun w g=>?_);rw[f.is q1];simp only[List.mem_cons,List.not_mem_nil,or_false]at g;rcases g with rfl | rfl | rfl
   · exact yAI q5
   · exact yAI q6
   · exact yAI (q4 _ jd)
end
section
variable {L:List Tok} {i j:Nat} {b:Tks}
theorem zV6:∀s∈zVU,s∈zv∧zEe s=9∧s∉zDO∧s≠[40]∧s≠[46]∧s≠[91]∧s≠[61,62]∧s≠[44]∧s≠[41]:=by decide+kernel
theorem zEp (b:Lst L) (hi:i≤L.length - 1) (c:j≤L.length - 1) (h:Rn L .primary i y j) (p:Part L i j) (d:EndM (zG L j)) (e:¬((zG L j).kind=5∧(zG L j).text∈zDO∧(zG L j).nl=false)) (hb:zBE (zG L j)=9):Rn L (.level 0) i y j:=
 zLd b hi c (yAC _) (zJK b hi (p.unary b hi c h d e)) hb
theorem zaA (d:Lst L) (hk:x.kind=47) (t:zK x=true) (u:ExK L a) (J:ExK L c):ExO L (.mk x [a,c]):=by
 have hN:=zCT t jo jo jo jo;have o:x.name∈zVU:=by
  have:=hN.2.1;rw[hk]at this;exact of_decide_eq_true this
 obtain⟨q2,q3,q4,q5,q6,q7,q8,M,v⟩:=zV6 _ o;have q1:x.name∈zv++zAF:=List.mem_append_left _ q2;have hb:bareT (.mk x [a,c])=trN 47 x.name [bareT a,bareT c]:=by rw[zDf t jo jo jo jo,hk,zP,zP,zd]
 have s:prT (.mk x [a,c])=zO a++(x.name::zO c):=by rw[zAR,zI,zI,zZ];unfold zAn zh;rw[hk];rfl
 refine⟨fun i b hs e=>?_,fun i b hs=>?_,by rw[s];simp;omega⟩
 · rw[s]at hs e⊢;rw[hb];rw[List.append_assoc,List.cons_append]at hs;have k:Std L (i+(zO a).length) (x.name::(zO c++b)):=hs.right;have z:Std L (i+(zO a).length+1) (zO c++b):=k.2;have N:i+(zO a++(x.name::zO c)).length=i+(zO a).length+1+(zO c).length:=by simp;omega
   rw[N]at e⊢;obtain⟨k1,t1⟩:=k.sign q2;have hi:i≤L.length - 1:=by have:=hs.mid;omega
   have p:=Nat.le_of_lt k.lt;have A:=k.lt;have j:=z.mid;obtain⟨g1,g2⟩:=u.part d hs;obtain⟨O,P⟩:=J.part d z;have B:zBE (zG L (i+(zO a).length))=9:=by
    unfold zBE;rw[t1,q3];split<;>rfl
   have C:=zEp d hi p g1 g2 (zOy k q1 ⟨q5,q6,q7⟩) (by rw[t1];exact fun h=>q4 h.2.1) B;have l:=zEp d A j O P e.m e.post e.binds;have g:∀w,isT (zG L (i+(zO a).length)) w=decide (x.name=w):=fun w=>k.is q1 w;have fin:Rn L .either i (trN 47 x.name [bareT a,bareT c]) (i+(zO a).length+1+(zO c).length)→Rn L .assign i (trN 47 x.name [bareT a,bareT c]) (i+(zO a).length+1+(zO c).length):=fun h=>
    zE7 d hi (zIT d hi h (e.words _ jd)) (g2.arr (by rw[g];exact yAI q8)) e.asgn
   apply fin;have f:x.name=[38,38]∨x.name=[124,124]∨x.name=[63,63]:=by
    unfold zVU at o;simpa using o
   unfold Rn at C⊢;rw[zV d ⟨hi,trivial⟩];unfold zD;dsimp only;rw[C];dsimp only;rcases f with f | f | f
   · -- &&:within both
     have q:Rn L (.both (bareT a)) (i+(zO a).length) (trN 47 x.name [bareT a,bareT c]) (i+(zO a).length+1+(zO c).length):=by
      have D:=zGE (y:=trN 47 x.name [bareT a,bareT c]) d j (e.words [38,38] jd);unfold Rn at l D⊢;rw[zV d ⟨p,trivial⟩];unfold zD;dsimp only;rw[if_pos (show onP L [38,38] (pl (i+(zO a).length))=true from by show isT _ _=true;rw[g,f];rfl)];show zE L (.both (trN 47 [38,38] [bareT a,(zE L (.level 0) (pl (i+(zO a).length+1))).1])) (zE L (.level 0) (pl (i+(zO a).length+1))).2=_;rw[l,←f];exact D
     have r:=zKa (y:=trN 47 x.name [bareT a,bareT c]) d j (e.words [124,124] jd);unfold Rn at q r;rw[if_neg (show¬onP L [63,63] (pl (i+(zO a).length))=true from by show¬isT _ _=true;rw[g,f];decide),q];dsimp only;rw[r];dsimp only;rw[if_neg (zCi (e.words [63,63] jd) rfl)]
   · have q:=zGE (y:=bareT a) d p (by rw[g,f];rfl);have E:=zGE (y:=bareT c) d j (e.words [38,38] jd);have r:=zKa (y:=trN 47 x.name [bareT a,bareT c]) d j (e.words [124,124] jd);have F:Rn L (.orL (bareT a)) (i+(zO a).length) (trN 47 x.name [bareT a,bareT c]) (i+(zO a).length+1+(zO c).length):=by
      unfold Rn at l E r⊢;rw[zV d ⟨p,trivial⟩];unfold zD;dsimp only;rw[if_pos (show onP L [124,124] (pl (i+(zO a).length))=true from by show isT _ _=true;rw[g,f];rfl)];show zE L (.orL (trN 47 [124,124] [bareT a,(zE L (.both (zE L (.level 0) (pl (i+(zO a).length+1))).1) (zE L (.level 0) (pl (i+(zO a).length+1))).2).1])) (zE L (.both (zE L (.level 0) (pl (i+(zO a).length+1))).1) (zE L (.level 0) (pl (i+(zO a).length+1))).2).2=_;rw[l];dsimp only;rw[E,←f];exact r
     unfold Rn at q F;rw[if_neg (show¬onP L [63,63] (pl (i+(zO a).length))=true from by show¬isT _ _=true;rw[g,f];decide),q];dsimp only;rw[F];dsimp only;rw[if_neg (zCi (e.words [63,63] jd) rfl)]
   · have G:Rn L (.nullL (bareT a)) (i+(zO a).length) (trN 47 x.name [bareT a,bareT c]) (i+(zO a).length+1+(zO c).length):=by
      have H:Rn L (.nullL (trN 47 x.name [bareT a,bareT c])) (i+(zO a).length+1+(zO c).length) (trN 47 x.name [bareT a,bareT c]) (i+(zO a).length+1+(zO c).length):=by
       unfold Rn;rw[zV d ⟨j,trivial⟩];unfold zD;dsimp only;rw[if_neg (zCi (e.words [63,63] jd) rfl)]
      unfold Rn at l H⊢;rw[zV d ⟨p,trivial⟩];unfold zD;dsimp only;rw[if_pos (show onP L [63,63] (pl (i+(zO a).length))=true from by show isT _ _=true;rw[g,f];rfl)];show zE L (.nullL (trN 47 [63,63] [bareT a,(zE L (.level 0) (pl (i+(zO a).length+1))).1])) (zE L (.level 0) (pl (i+(zO a).length+1))).2=_;rw[l,←f];exact H
     unfold Rn at G;rw[if_pos (show onP L [63,63] (pl (i+(zO a).length))=true from by show isT _ _=true;rw[g,f];rfl),G];dsimp only;have w1:onP L [124,124] (pl (i+(zO a).length+1+(zO c).length))=false:=e.words [124,124] jd;have w2:onP L [38,38] (pl (i+(zO a).length+1+(zO c).length))=false:=e.words [38,38] jd;rw[w1,w2,ji]
 · rw[s,List.append_assoc,List.cons_append]at hs;have k:Std L (i+(zO a).length) (x.name::(zO c++b)):=hs.right;obtain⟨_,g2⟩:=u.part d hs;refine zCd g2 (fun w I=>?_);rw[k.is q1];simp only[List.mem_cons,List.not_mem_nil,or_false]at I;rcases I with rfl | rfl | rfl
   · exact yAI M
   · exact yAI v
   · exact yAI q8
theorem zLj {s:List UInt8} (h:Std L i (s::b)) (hs:s=[58]∨s=[93]∨s=[41]∨s=[44]):End (zG L i):=zDg h (by rcases hs with rfl | rfl | rfl | rfl<;>decide)
theorem zaB (f:Lst L) (hk:x.kind=48) (s:zK x=true) (l:ExK L a) (t:ExK L c) (u:ExK L d):ExO L (.mk x [a,c,d]):=by
 have hb:bareT (.mk x [a,c,d])=trK 48 [bareT a,bareT c,bareT d]:=by rw[(zBp s (by rw[hk];decide) jo).1,hk,zP,zP,zP,zd]
 have j:prT (.mk x [a,c,d])=zO a++([63]::(zO c++([58]::zO d))):=by rw[zAR,zI,zI,zI,zZ];unfold zAn zh;rw[hk];rfl
 refine⟨fun i b hs g=>?_,fun i b hs=>?_,by rw[j];simp;omega⟩
 · rw[j]at hs g⊢;rw[hb];simp only[List.append_assoc,List.cons_append]at hs;have e:Std L (i+(zO a).length) ([63]::(zO c++([58]::(zO d++b)))):=hs.right;have m:Std L (i+(zO a).length+1) (zO c++([58]::(zO d++b))):=e.2;have k:Std L (i+(zO a).length+1+(zO c).length) ([58]::(zO d++b)):=m.right;have v:Std L (i+(zO a).length+1+(zO c).length+1) (zO d++b):=k.2;have y:i+(zO a++([63]::(zO c++([58]::zO d)))).length=i+(zO a).length+1+(zO c).length+1+(zO d).length:=by simp;omega
   rw[y]at g⊢;obtain⟨k1,t1⟩:=e.sign jd;have hi:i≤L.length - 1:=by have:=hs.mid;omega
   have o:=Nat.le_of_lt e.lt;obtain⟨g1,g2⟩:=l.part f hs;have p:zBE (zG L (i+(zO a).length))=9:=by
    unfold zBE;rw[t1];split<;>rfl
   have z:=zEp f hi o g1 g2 (zOy e jd jd) (by rw[t1];exact fun h=>absurd h.2.1 jd) p;have q:=t.whole f m (zLj k (.inl rfl));have r:=u.whole f v g;have e1:=zE6 f hi o z (by rw[e.is jd];rfl) (by rw[e.is jd];rfl) (by rw[e.is jd];rfl);refine zE7 f hi ?_ (g2.arr (by rw[e.is jd];rfl)) g.asgn;unfold Rn at e1 q r⊢;rw[zV f ⟨hi,trivial⟩];unfold zD;dsimp only;rw[e1];dsimp only;rw[if_pos (show onP L [63] (pl (i+(zO a).length))=true from by show isT _ _=true;rw[e.is jd];rfl)];rw[show zB (pl (i+(zO a).length))=pl (i+(zO a).length+1)from rfl,q];dsimp only;have A:zL L [58] (pl (i+(zO a).length+1+(zO c).length))=pl (i+(zO a).length+1+(zO c).length+1):=by
    unfold zL;rw[if_pos (show onP L [58] (pl (i+(zO a).length+1+(zO c).length))=true from by show isT _ _=true;rw[k.is jd];rfl)];rfl
   rw[A,r]
 · rw[j]at hs;simp only[List.append_assoc,List.cons_append]at hs;have e:Std L (i+(zO a).length) ([63]::(zO c++([58]::(zO d++b)))):=hs.right;obtain⟨_,g2⟩:=l.part f hs;refine zCd g2 (fun w B=>?_);rw[e.is jd];revert w;decide
theorem zLk (c:Lst L) (l:List Tr) (e:∀x∈l,ExK L x) (hs:Std L i ([40]::(zAW ze (prs l)++([41]::b)))):Rn L .args i (trK 0 (bareL l)) (i+(zAW ze (prs l)).length+2):=by
 have f:Std L (i+1) (zAW ze (prs l)++([41]::b)):=hs.2;have d:=zLi c (.inl rfl) l e f;unfold Rn at d⊢;rw[zV c ⟨Nat.le_of_lt hs.lt,hs.lt⟩];unfold zD;dsimp only;have g:zL L [40] (pl i)=pl (i+1):=by
  unfold zL;rw[if_pos (show onP L [40] (pl i)=true from by show isT _ _=true;rw[hs.is jd];rfl)];rfl
 rw[g,d];simp only[Prod.mk.injEq,Ps.mk.injEq,true_and,and_true];omega
theorem zaC (c:Lst L) (hk:x.kind=50) (p:zK x=true) (j:ExK L a) (q:∀t∈l,ExK L t):ExO L (.mk x (a::l)):=by
 have hb:bareT (.mk x (a::l))=trK 50 (bareT a::bareL l):=by rw[(zBp p (by rw[hk];decide) jo).1,hk,zP]
 have g:prT (.mk x (a::l))=zO a++([40]::(zAW ze (prs l)++[[41]])):=by rw[zAR,zI];unfold zAn zh;rw[hk];rfl
 refine⟨fun i b hs e=>?_,fun i b hs=>?_,by rw[g];simp;omega⟩
 · rw[g]at hs e⊢;rw[hb];simp only[List.append_assoc,List.cons_append,List.nil_append]at hs;have d:Std L (i+(zO a).length) ([40]::(zAW ze (prs l)++([41]::b))):=hs.right;have r:i+(zO a++([40]::(zAW ze (prs l)++[[41]]))).length=i+(zO a).length+(zAW ze (prs l)).length+2:=by simp;omega
   rw[r]at e⊢;have hi:i≤L.length - 1:=by have:=hs.mid;omega
   have s:=Nat.le_of_lt d.lt;have f:i+(zO a).length+(zAW ze (prs l)).length+2≤L.length - 1:=by
    have:=d.le;simp only[List.length_cons,List.length_append]at this;omega
   obtain⟨g1,g2⟩:=j.part c hs;have k:=zLk c l q d;have o:=zDB (y:=trK 50 (bareT a::bareL l)) c f e.m;have c1:Rn L (.callsL (bareT a)) (i+(zO a).length) (trK 50 (bareT a::bareL l)) (i+(zO a).length+(zAW ze (prs l)).length+2):=by
    unfold Rn at k o⊢;rw[zV c ⟨s,trivial⟩];unfold zD;dsimp only;rw[if_pos (show onP L [40] (pl (i+(zO a).length))=true from by show isT _ _=true;rw[d.is jd];rfl),k];exact o
   refine zCj c hi f (zEJ c hi (zE5 c hi (zGi c hi g1 g2.new_) c1) g2.pre e.post) e (g2.arr (by rw[d.is jd];rfl))
 · rw[g]at hs;simp only[List.append_assoc,List.cons_append]at hs;have d:Std L (i+(zO a).length) ([40]::(zAW ze (prs l)++(([41]::[])++b))):=hs.right;obtain⟨_,g2⟩:=j.part c hs;refine zCd g2 (fun w u=>?_);rw[d.is jd];revert w;decide
theorem zaD (c:Lst L) (hk:x.kind=51) (p:zK x=true) (q:ExK L a) (r:∀t∈l,ExK L t):ExO L (.mk x (a::l)):=by
 have hb:bareT (.mk x (a::l))=trK 51 (bareT a::bareL l):=by rw[(zBp p (by rw[hk];decide) jo).1,hk,zP]
 have g:prT (.mk x (a::l))=[110,101,119]::(zO a++([40]::(zAW ze (prs l)++[[41]]))):=by rw[zAR,zI];unfold zAn zh;rw[hk];rfl
 refine⟨fun i b hs e=>?_,fun i b hs=>?_,by rw[g];simp⟩
 · rw[g]at hs e⊢;rw[hb];simp only[List.append_assoc,List.cons_append,List.nil_append]at hs;have h1:Std L (i+1) (zO a++([40]::(zAW ze (prs l)++([41]::b)))):=hs.2;have d:Std L (i+1+(zO a).length) ([40]::(zAW ze (prs l)++([41]::b))):=h1.right;have s:i+([110,101,119]::(zO a++([40]::(zAW ze (prs l)++[[41]])))).length=i+1+(zO a).length+(zAW ze (prs l)).length+2:=by simp;omega
   rw[s]at e⊢;have hi:=Nat.le_of_lt hs.lt;have j:=hs.lt;have u:=Nat.le_of_lt d.lt;have f:i+1+(zO a).length+(zAW ze (prs l)).length+2≤L.length - 1:=by
    have:=d.le;simp only[List.length_cons,List.length_append]at this;omega
   obtain⟨k0,v⟩:=hs.word jd;obtain⟨g1,g2⟩:=q.part c h1;have k:=zGi c j g1 g2.new_;have o:=zLk c l r d;have m1:Rn L (.headL (bareT a)) (i+1+(zO a).length) (bareT a) (i+1+(zO a).length):=by
    unfold Rn;rw[zV c ⟨u,trivial⟩];unfold zD;dsimp only;rw[if_neg (show¬onP L [46] (pl (i+1+(zO a).length))=true from by show¬isT _ _=true;rw[d.is jd];decide),if_neg (show¬onP L [91] (pl (i+1+(zO a).length))=true from by show¬isT _ _=true;rw[d.is jd];decide)]
   have z:Rn L .head i (trK 51 (bareT a::bareL l)) (i+1+(zO a).length+(zAW ze (prs l)).length+2):=by
    unfold Rn at k o m1⊢;rw[zV c ⟨hi,trivial⟩];unfold zD;dsimp only;rw[if_pos (show onP L [110,101,119] (pl i)=true from by show isT _ _=true;rw[hs.is jd];rfl)];rw[show zB (pl i)=pl (i+1)from rfl,k];dsimp only;rw[m1];dsimp only;rw[if_pos (show onP L [40] (pl (i+1+(zO a).length))=true from by show isT _ _=true;rw[d.is jd];rfl),o];rfl
   have A:=zDB (y:=trK 51 (bareT a::bareL l)) c f e.m;refine zCj c hi f (zEJ c hi (zE5 c hi z A) ?_ e.post) e (zEN hs jd jd);unfold zOk;rw[v];exact⟨fun h=>absurd h.2 jd,fun h=>absurd h.2 jd⟩
 · rw[g,List.cons_append]at hs;exact zDD hs jd jd
theorem zaE (d:Lst L) (hk:x.kind=52) (m:zK x=true) (o:ExK L a):zSR L (.mk x [a])∧ExF L (.mk x [a])∧0 < (prT (.mk x [a])).length:=by
 have hN:=zCT m jo jo jo jo;have p:zFv x.name=true:=by
  have:=hN.2.1;rwa[hk]at this
 have hb:bareT (.mk x [a])=trN 52 x.name [bareT a]:=by rw[zDf m jo jo jo jo,hk,zP,zd]
 have f:prT (.mk x [a])=zO a++([46]::[x.name]):=by rw[zAR,zI,zZ];unfold zAn zh;rw[hk];rfl
 refine⟨fun i b hs g e=>?_,fun i b hs=>?_,by rw[f];simp⟩
 · rw[f]at hs g e⊢;rw[hb];simp only[List.append_assoc,List.cons_append,List.nil_append]at hs;have c:Std L (i+(zO a).length) ([46]::(x.name::b)):=hs.right;have j:Std L (i+(zO a).length+1) (x.name::b):=c.2;have r:i+(zO a++([46]::[x.name])).length=i+(zO a).length+1+1:=by simp;omega
   rw[r]at g e⊢;have hi:i≤L.length - 1:=by have:=hs.mid;omega
   have s:=Nat.le_of_lt c.lt;have l:=j.lt;obtain⟨k3,t3⟩:=zSG p;obtain⟨g1,g2⟩:=o.part d hs;have q:=zDB (y:=trN 52 x.name [bareT a]) d l g;have c1:Rn L (.callsL (bareT a)) (i+(zO a).length) (trN 52 x.name [bareT a]) (i+(zO a).length+1+1):=by
    unfold Rn at q⊢;rw[zV d ⟨s,trivial⟩];unfold zD;dsimp only;rw[if_neg (show¬onP L [40] (pl (i+(zO a).length))=true from by show¬isT _ _=true;rw[c.is jd];decide),if_pos (show onP L [46] (pl (i+(zO a).length))=true from by show isT _ _=true;rw[c.is jd];rfl)];rw[show zB (pl (i+(zO a).length))=pl (i+(zO a).length+1)from rfl];rw[show(pl (i+(zO a).length+1)).k=i+(zO a).length+1 from rfl,j.kind,j.text,t3,jn];exact q
   exact⟨zE5 d hi (zGi d hi g1 g2.new_) c1,g2.pre,g2.arr (by rw[c.is jd];rfl)⟩
 · rw[f]at hs;simp only[List.append_assoc,List.cons_append,List.nil_append]at hs;have c:Std L (i+(zO a).length) ([46]::(x.name::b)):=hs.right;obtain⟨_,g2⟩:=o.part d hs;refine zCd g2 (fun w t=>?_);rw[c.is jd];revert w;decide
theorem zaF (e:Lst L) (hk:x.kind=53) (r:zK x=true) (m:ExK L a) (s:ExK L c):zSR L (.mk x [a,c])∧ExF L (.mk x [a,c])∧0 < (prT (.mk x [a,c])).length:=by
 have hb:bareT (.mk x [a,c])=trK 53 [bareT a,bareT c]:=by rw[(zBp r (by rw[hk];decide) jo).1,hk,zP,zP,zd]
 have g:prT (.mk x [a,c])=zO a++([91]::(zO c++[[93]])):=by rw[zAR,zI,zI,zZ];unfold zAn zh;rw[hk];rfl
 refine⟨fun i b hs j f=>?_,fun i b hs=>?_,by rw[g];simp;omega⟩
 · rw[g]at hs j f⊢;rw[hb];simp only[List.append_assoc,List.cons_append,List.nil_append]at hs;have d:Std L (i+(zO a).length) ([91]::(zO c++([93]::b))):=hs.right;have o:Std L (i+(zO a).length+1) (zO c++([93]::b)):=d.2;have k:Std L (i+(zO a).length+1+(zO c).length) ([93]::b):=o.right;have t:i+(zO a++([91]::(zO c++[[93]]))).length=i+(zO a).length+1+(zO c).length+1:=by simp;omega
   rw[t]at j f⊢;have hi:i≤L.length - 1:=by have:=hs.mid;omega
   have u:=Nat.le_of_lt d.lt;have l:=k.lt;obtain⟨g1,g2⟩:=m.part e hs;have p:=s.whole e o (zLj k (.inr (.inl rfl)));have q:=zDB (y:=trK 53 [bareT a,bareT c]) e l j;have c1:Rn L (.callsL (bareT a)) (i+(zO a).length) (trK 53 [bareT a,bareT c]) (i+(zO a).length+1+(zO c).length+1):=by
    unfold Rn at p q⊢;rw[zV e ⟨u,trivial⟩];unfold zD;dsimp only;rw[if_neg (show¬onP L [40] (pl (i+(zO a).length))=true from by show¬isT _ _=true;rw[d.is jd];decide),if_neg (show¬onP L [46] (pl (i+(zO a).length))=true from by show¬isT _ _=true;rw[d.is jd];decide),if_pos (show onP L [91] (pl (i+(zO a).length))=true from by show isT _ _=true;rw[d.is jd];rfl)];rw[show zB (pl (i+(zO a).length))=pl (i+(zO a).length+1)from rfl,p];dsimp only;have v:zL L [93] (pl (i+(zO a).length+1+(zO c).length))=pl (i+(zO a).length+1+(zO c).length+1):=by
     unfold zL;rw[if_pos (show onP L [93] (pl (i+(zO a).length+1+(zO c).length))=true from by show isT _ _=true;rw[k.is jd];rfl)];rfl
    rw[v];exact q
   exact⟨zE5 e hi (zGi e hi g1 g2.new_) c1,g2.pre,g2.arr (by rw[d.is jd];rfl)⟩
 · rw[g]at hs;simp only[List.append_assoc,List.cons_append,List.nil_append]at hs;have d:Std L (i+(zO a).length) ([91]::(zO c++([93]::b))):=hs.right;obtain⟨_,g2⟩:=m.part e hs;refine zCd g2 (fun w z=>?_);rw[d.is jd];revert w;decide
theorem zMr (d:Lst L) (h:zSR L t) (f:0 < (prT t).length):ExA L t:=fun i b hs c=>by
 obtain⟨g1,g2,e⟩:=h i b hs c.m (c.words _ jd);have hi:i≤L.length - 1:=by have:=hs.mid;omega
 exact zCj d hi hs.mid (zEJ d hi g1 g2 c.post) c e
theorem zXo (f:Lst L) (hg:goodT (.mk x l)=true) (h1:30≤x.kind) (j:x.kind≤37) (hs:Short x):ExO L (.mk x l)∧(x.kind=33→zSR L (.mk x l)):=by
 obtain⟨s,e,g⟩:=zKd f hg h1 j hs;refine⟨⟨fun i b hs c=>?_,fun i b hs=>?_,by rw[e];simp⟩,fun k i b hs c d=>?_⟩
 · rw[e]at hs c⊢;obtain⟨g1,g2⟩:=g i b hs;exact(zFB g2).all f (Nat.le_of_lt hs.lt) hs.lt g1 c
 · rw[e]at hs;obtain⟨g1,g2⟩:=g i b hs;exact⟨g2.k0,g2.close,fun h=>.inl (g2.name h)⟩
 · rw[e]at hs c d⊢;obtain⟨g1,g2⟩:=g i b hs;exact⟨(zFB g2).calls f (Nat.le_of_lt hs.lt) hs.lt g1 c,g2.pre,(zFB g2).arr d⟩
end
structure NxT (t:Tok) (d:Bool):Prop where
 fin:isT t [102,105,110,97,108,108,121]=false
 cat:isT t [99,97,116,99,104]=false
 els:d=true→isT t [101,108,115,101]=false
structure StK (L:List Tok) (t:Tr):Prop where
 run:∀i b,Std L i (prT t++b)→NxT (zG L (i+(prT t).length)) (dangT t)→Rn L .item i (bareT t) (i+(prT t).length)∧(zCM t.nd.kind=true→Rn L .statement i (bareT t) (i+(prT t).length))
 first:∀i b,Std L i (prT t++b)→(zG L i).kind≠0∧NxT (zG L i) true∧isT (zG L i) [125]=false
 pos:0 < (prT t).length
def zO0 (L:List Tok) (t:Tr):Prop:=∀i b,Std L i (prT t++b)→Rn L .block i (bareT t) (i+(prT t).length)
section
variable {L:List Tok} {i j:Nat} {b:Tks}
theorem zIW {s:List UInt8} {d:Bool} (h:Std L i (s::b)) (hs:s∈zv++zAF) (h1:s≠[102,105,110,97,108,108,121]) (c:s≠[99,97,116,99,104]) (e:s≠[101,108,115,101]):NxT (zG L i) d:=
 ⟨by rw[h.is hs];exact yAI h1,by rw[h.is hs];exact yAI c,fun _=>by rw[h.is hs];exact yAI e⟩
theorem NxT.any {t:Tok} (h:NxT t true) (d:Bool):NxT t d:=⟨h.fin,h.cat,fun _=>h.els rfl⟩
theorem zBz (h:Std L i (w::b)) (c:w∈zv++zAF):zL L w (pl i)=pl (i+1):=by
 unfold zL;rw[if_pos (show onP L w (pl i)=true from by show isT _ _=true;rw[h.is c];simp)];rfl
theorem zFf {v:List UInt8} (h:Std L i (w::b)) (c:w∈zv++zAF):onP L v (pl i)=decide (w=v):=by
 show isT _ _=_;exact h.is c v
theorem zEq (h:Std L i ([59]::b)):zEY L (pl i)=pl (i+1):=by
 unfold zEY;rw[zFf h jd,if_pos jd];rfl
theorem zD2 {s:List UInt8} (h:Std L i (s::b)) (c:zBi s=true):zc L (pl i)=(s,pl (i+1)):=by
 obtain⟨k1,t1⟩:=h.name c;unfold zc;rw[show(pl i).k=i from rfl,if_pos k1,t1];rfl
theorem zCm (t:Tr) (l:List Tr):(prs (t::l)).flatMap (·.2)=prT t++(prs l).flatMap (·.2):=by rw[zI,List.flatMap_cons]
theorem zMs (j:Lst L):∀(l:List Tr) (c:List Tr) (i:Nat) (b:Tks),(∀t∈l,StK L t)→Std L i ((prs l).flatMap (·.2)++([125]::b))→Rn L (.blockL c) i (trK 4 (c++bareL l)) (i+((prs l).flatMap (·.2)).length+1):=by
 intro l
 induction l with
 | nil=>
  intro c i b _ hs;rw[zZ]at hs⊢;have g:Std L i ([125]::b):=hs;unfold Rn;rw[zV j ⟨Nat.le_of_lt g.lt,trivial⟩];unfold zD;dsimp only;rw[if_neg js,zFf g jd,if_pos jd,zd,List.append_nil];rfl
 | cons t l o=>
  intro c i b f hs;rw[zCm,List.append_assoc]at hs;have d:Std L (i+(prT t).length) ((prs l).flatMap (·.2)++([125]::b)):=hs.right;have k:NxT (zG L (i+(prT t).length)) true:=by
   cases l with
   | nil=>rw[zZ]at d;exact zIW (show Std L _ ([125]::b)from d) jd jd jd jd
   | cons u l=>
    rw[zCm,List.append_assoc]at d;exact((f u js).first _ _ d).2.1
  have m:=((f t js).run i _ hs (k.any _)).1;have e:=o (c++[bareT t]) _ b (fun u p=>f u (List.mem_cons_of_mem _ p)) d;have q:=(f t js).first i _ hs;have hi:i≤L.length - 1:=by have:=hs.mid;omega
  unfold Rn at m e⊢;rw[zV j ⟨hi,trivial⟩];unfold zD;dsimp only;rw[if_neg js,if_neg (zCi q.2.2 rfl),m];dsimp only;rw[e,zCm,zP];simp only[List.append_assoc,List.singleton_append,Prod.mk.injEq,Ps.mk.injEq,true_and,and_true,List.length_append];omega
theorem zXp (c:Lst L) (hk:x.kind=4) (e:zK x=true) (f:∀t∈l,StK L t):zO0 L (.mk x l):=by
 intro i b hs;have hb:bareT (.mk x l)=trK 4 (bareL l):=by rw[(zBp e (by rw[hk];decide) jo).1,hk]
 have g:prT (.mk x l)=[123]::((prs l).flatMap (·.2)++[[125]]):=by rw[zAR];unfold zAn zj;rw[hk];rfl
 rw[g]at hs⊢;rw[hb];simp only[List.append_assoc,List.cons_append,List.nil_append]at hs;have j:Std L (i+1) ((prs l).flatMap (·.2)++([125]::b)):=hs.2;have d:=zMs c l [] (i+1) b f j;unfold Rn at d⊢;rw[zV c ⟨Nat.le_of_lt hs.lt,trivial⟩];unfold zD;dsimp only;rw[zBz hs jd,d];simp only[List.nil_append,Prod.mk.injEq,Ps.mk.injEq,true_and,and_true,List.length_cons,List.length_append,List.length_nil];omega
structure PrmK (t:Tr):Prop where
 name:zBi t.nd.name=true
 bare:bareT t=trN 20 t.nd.name []
 pr:prT t=[t.nd.name]
theorem zSS (hg:goodT t=true) (hk:t.nd.kind=20):PrmK t:=by
 cases t with
 | mk x l=>
  have b:x.kind=20:=hk;obtain⟨c,d,_⟩:=zCc hg;have hN:=zCT c jo jo jo jo;obtain rfl:=zJO d (by rw[b];rfl);have h1:zBi x.name=true:=by
   have:=hN.2.1;rwa[b]at this
  refine⟨h1,?_,?_⟩
  · rw[zDf c jo jo jo jo,b,zd];rfl
  · rw[zAR];unfold zAn zj;rw[b];rfl
theorem zV7 (l:Lst L):∀(r:List Tr) (t:Tr) (d:List Tr) (i:Nat) (b:Tks),(∀x∈t::r,PrmK x)→Std L i (zAW (·.2) (prs (t::r))++([41]::b))→Rn L (.paramL d) i (trK 0 (d++bareL (t::r))) (i+(zAW (·.2) (prs (t::r))).length+1):=by
 intro r
 induction r with
 | nil=>
  intro t d i b k hs;have f:=k t js;have e:zAW (·.2) (prs [t])=[t.nd.name]:=by rw[zI,zZ,f.pr];rfl
  rw[e]at hs⊢;have c:Std L i (t.nd.name::([41]::b)):=hs;have g:Std L (i+1) ([41]::b):=c.2;unfold Rn;rw[zV l ⟨Nat.le_of_lt c.lt,trivial⟩];unfold zD;dsimp only;rw[zD2 c f.name];dsimp only;rw[if_neg js,zFf g jd,if_pos jd,zP,zd,f.bare];rfl
 | cons u r o=>
  intro t d i b k hs;have f:=k t js;have e:zAW (·.2) (prs (t::u::r))=t.nd.name::([44]::zAW (·.2) (prs (u::r))):=by rw[zI,f.pr,zI];rfl
  rw[e]at hs⊢;have c:Std L i (t.nd.name::([44]::(zAW (·.2) (prs (u::r))++([41]::b)))):=hs;have g:Std L (i+1) ([44]::(zAW (·.2) (prs (u::r))++([41]::b))):=c.2;have p:Std L (i+1+1) (zAW (·.2) (prs (u::r))++([41]::b)):=g.2;have j:=o u (d++[trN 20 t.nd.name []]) _ b (fun x m=>k x (List.mem_cons_of_mem _ m)) p;unfold Rn at j⊢;rw[zV l ⟨Nat.le_of_lt c.lt,trivial⟩];unfold zD;dsimp only;rw[zD2 c f.name];dsimp only;rw[if_neg js,zFf g jd,ji,zBz g jd,j,zP t,f.bare];simp only[List.append_assoc,List.singleton_append,Prod.mk.injEq,Ps.mk.injEq,true_and,and_true,List.length_cons];omega
theorem zHq (d:Lst L) (l:List Tr) (f:∀x∈l,PrmK x) (hs:Std L i (zt (prs l)++b)):Rn L .params i (trK 0 (bareL l)) (i+(zt (prs l)).length):=by
 unfold zt at hs⊢;simp only[List.append_assoc,List.cons_append,List.nil_append]at hs;have c:Std L (i+1) (zAW (·.2) (prs l)++([41]::b)):=hs.2;unfold Rn;rw[zV d ⟨Nat.le_of_lt hs.lt,trivial⟩];unfold zD;dsimp only;rw[zBz hs jd];cases l with
 | nil=>
  have m:Std L (i+1) ([41]::b):=by rw[zZ]at c;exact c
  rw[zFf m jd,if_pos jd,zZ,zd];rfl
 | cons t r=>
  have g:=zV7 d r t [] (i+1) b f c;have j:onP L [41] (pl (i+1))=false:=by
   have k:=f t js;have e:∃q,zAW (·.2) (prs (t::r))=t.nd.name::q:=by rw[zI,k.pr];exact⟨_,rfl⟩
   obtain⟨q,o⟩:=e;rw[o]at c;obtain⟨k1,_⟩:=(show Std L (i+1) (t.nd.name::(q++([41]::b)))from c).name k.name;show isT (zG L (i+1)) [41]=false;unfold isT;rw[k1];simp
  unfold Rn at g;rw[j,ji,g];simp only[List.nil_append,Prod.mk.injEq,Ps.mk.injEq,true_and,and_true,List.length_cons,List.length_append,List.length_nil];omega
theorem zIX (d:Lst L) {n:List UInt8} (e:∀x∈l,PrmK x) (f:zO0 L c) (hs:Std L i (zt (prs l)++(prT c++b))):Rn L (.func k n) i (trN k n (bareL l++[bareT c])) (i+(zt (prs l)).length+(prT c).length):=by
 have g:Std L (i+(zt (prs l)).length) (prT c++b):=hs.right;have r1:=zHq d l e hs;have r2:=f _ _ g;have hi:i≤L.length - 1:=by have:=hs.mid;omega
 unfold Rn at r1 r2⊢;rw[zV d ⟨hi,trivial⟩];unfold zD;dsimp only;rw[r1];dsimp only;rw[r2];rfl
theorem zDE (l:List Tr) (c:Tr):(prs (l++[c])).dropLast=prs l∧(kd (prs (l++[c])) ((prs (l++[c])).length - 1))=(c.nd.kind,prT c):=by
 have e:prs (l++[c])=prs l++[(c.nd.kind,prT c)]:=by rw[zB7,zB7,List.map_append];rfl
 rw[e];refine⟨by simp,?_⟩;unfold kd;simp
theorem zMt:∀(r:List Tr) (t:Tr) (i:Nat) (b:Tks) (f:Nat),(∀x∈t::r,PrmK x)→Std L i (zAW (·.2) (prs (t::r))++([41]::b))→r.length < f→zEd L f i=some (i+(zAW (·.2) (prs (t::r))).length):=by
 intro r
 induction r with
 | nil=>
  intro t i b f j hs k;obtain⟨f,rfl⟩:∃g,f=g+1:=⟨f - 1,by simp at k;omega⟩;have d:=j t js;have e:zAW (·.2) (prs [t])=[t.nd.name]:=by rw[zI,zZ,d.pr];rfl
  rw[e]at hs⊢;have c:Std L i (t.nd.name::([41]::b)):=hs;have l:Std L (i+1) ([41]::b):=c.2;unfold zEd;rw[if_pos (c.name d.name).1,l.is jd,ji];rfl
 | cons u r p=>
  intro t i b f j hs k;obtain⟨f,rfl⟩:∃g,f=g+1:=⟨f - 1,by simp at k;omega⟩;have d:=j t js;have e:zAW (·.2) (prs (t::u::r))=t.nd.name::([44]::zAW (·.2) (prs (u::r))):=by rw[zI,d.pr,zI];rfl
  rw[e]at hs⊢;have c:Std L i (t.nd.name::([44]::(zAW (·.2) (prs (u::r))++([41]::b)))):=hs;have l:Std L (i+1) ([44]::(zAW (·.2) (prs (u::r))++([41]::b))):=c.2;have q:Std L (i+2) (zAW (·.2) (prs (u::r))++([41]::b)):=l.2;have m:=p u (i+2) b f (fun x o=>j x (List.mem_cons_of_mem _ o)) q (by simp at k;omega);unfold zEd;rw[if_pos (c.name d.name).1,l.is jd,if_pos jd,m];simp only[List.length_cons,Option.some.injEq];omega
theorem zO1:∀(r:List Tr) (t:Tr),(∀x∈t::r,PrmK x)→r.length < (zAW (·.2) (prs (t::r))).length:=by
 intro r
 induction r with
 | nil=>intro t b;rw[zI,zZ,(b t js).pr];simp[zAW,zGY]
 | cons u r d=>
  intro t b;have:=d u (fun x c=>b x (List.mem_cons_of_mem _ c));have e:zAW (·.2) (prs (t::u::r))=t.nd.name::([44]::zAW (·.2) (prs (u::r))):=by rw[zI,(b t js).pr,zI];rfl
  rw[e];simp only[List.length_cons]at this⊢;omega
theorem zMu (f:∀x∈l,PrmK x) (hs:Std L i (zt (prs l)++([61,62]::b))):zAh L (pl i)=true:=by
 unfold zt at hs;simp only[List.append_assoc,List.cons_append,List.nil_append]at hs;have c:Std L (i+1) (zAW (·.2) (prs l)++([41]::([61,62]::b))):=hs.2;unfold zAh;rw[zFf hs jd];rw[show(pl i).k+1=i+1 from rfl];cases l with
 | nil=>
  have d:Std L (i+1) ([41]::([61,62]::b)):=by rw[zZ]at c;exact c
  have g:Std L (i+1+1) ([61,62]::b):=d.2;rw[d.is jd,if_pos jd];unfold zBy;rw[d.is jd,g.is jd];rfl
 | cons t r=>
  have j:=f t js;have d:Std L (i+1+(zAW (·.2) (prs (t::r))).length) ([41]::([61,62]::b)):=c.right;have g:Std L (i+1+(zAW (·.2) (prs (t::r))).length+1) ([61,62]::b):=d.2;have s:=c.mid;have o:=zO1 r t f;have hN:=zMt r t (i+1) _ L.length f c jo;have m:isT (zG L (i+1)) [41]=false:=by
   have e:∃q,zAW (·.2) (prs (t::r))=t.nd.name::q:=by rw[zI,j.pr];exact⟨_,rfl⟩
   obtain⟨q,p⟩:=e;rw[p]at c;obtain⟨k1,_⟩:=(show Std L (i+1) (t.nd.name::(q++_))from c).name j.name;unfold isT;rw[k1];simp
  rw[m,ji,hN];unfold zBy;dsimp only;rw[d.is jd,g.is jd];rfl
end
section
variable {L:List Tok} {i j:Nat} {b:Tks}
theorem zO2 {s:List UInt8} (h:Std L i (s::b)) (hs:s∈zv++zAF) (d:s∉zHK∧s∉zDO) (c:s≠[110,101,119]∧s≠[41]∧s≠[93]∧s≠[40]) (e:i < j):Part L i j:=by
 obtain⟨t1,t2⟩:=h.text2 hs;exact⟨by omega,⟨fun h=>d.1 (by rw[←t1];exact h.2),fun h=>d.2 (by rw[←t1];exact h.2)⟩,by rw[h.is hs];exact yAI c.1,by rw[h.is hs];exact yAI c.2.1,by rw[h.is hs];exact yAI c.2.2.1,e,fun _=>zEN h hs c.2.2.2,fun h=>by omega⟩
theorem zO3 (g:Lst L) {s:List UInt8} {r:Tks} (e:prT t=s::r) (hs:s∈zv++zAF) (j:s∉zHK∧s∉zDO) (f:s≠[110,101,119]∧s≠[41]∧s≠[93]∧s≠[40]) (h:∀i b,Std L i (prT t++b)→Rn L .primary i (bareT t) (i+(prT t).length)):ExO L t:=by
 have k:0 < (prT t).length:=by rw[e];simp
 refine⟨fun i b c l=>?_,fun i b c=>?_,k⟩
 · have d:=c;rw[e,List.cons_append]at d;exact(zO2 d hs j f jo).all g (Nat.le_of_lt d.lt) c.mid (h i b c) l
 · rw[e,List.cons_append]at c;exact zDD c hs f.2.1
theorem zST (h:Std L i ([91]::b)):zD L (zE L) .primary (pl i)=(trK 38 (zE L (.list [93]) (pl (i+1))).1.subs,(zE L (.list [93]) (pl (i+1))).2):=by
 obtain⟨k1,t1⟩:=h.sign jd;unfold zD;dsimp only;rw[k1,ji,ji,ji,ji,ji,t1,ji,ji,ji,ji,if_pos rfl];rfl
theorem zSU (h:Std L i ([123]::b)):zD L (zE L) .primary (pl i)=zE L .object (pl (i+1)):=by
 obtain⟨k1,t1⟩:=h.sign jd;unfold zD;dsimp only;rw[k1,ji,ji,ji,ji,ji,t1,ji,ji,ji,ji,ji,if_pos rfl];rfl
theorem zSV (h:Std L i ([102,117,110,99,116,105,111,110]::b)):zD L (zE L) .primary (pl i)=(if(zG L (i+1)).kind=1 then zE L (.func 41 (zc L (pl (i+1))).1) (zc L (pl (i+1))).2 else zE L (.func 41 []) (pl (i+1))):=by
 obtain⟨k1,t1⟩:=h.word jd;unfold zD;dsimp only;rw[k1,ji,ji,ji,ji,ji,t1,ji,ji,ji,ji,ji,ji,if_pos rfl];rfl
theorem zaG (c:Lst L) (hk:x.kind=38) (e:zK x=true) (f:∀t∈l,ExK L t):ExO L (.mk x l):=by
 have hb:bareT (.mk x l)=trK 38 (bareL l):=by rw[(zBp e (by rw[hk];decide) jo).1,hk]
 have d:prT (.mk x l)=[91]::(zAW ze (prs l)++[[93]]):=by rw[zAR];unfold zAn zh;rw[hk];rfl
 refine zO3 c d jd jd jd fun i b hs=>?_;rw[d]at hs⊢;rw[hb];simp only[List.append_assoc,List.cons_append,List.nil_append]at hs;have r:=zLi c (.inr rfl) l f (show Std L (i+1) (zAW ze (prs l)++([93]::b))from hs.2);unfold Rn at r⊢;rw[zBe c (Nat.le_of_lt hs.lt),zST hs,r];simp only[List.length_cons,List.length_append,List.length_nil,Prod.mk.injEq,Ps.mk.injEq,and_true];exact⟨rfl,by omega⟩
structure PrpK (L:List Tok) (t:Tr):Prop where
 run:∀i b,Std L i (prT t++b)→End (zG L (i+(prT t).length))→Rn L .prop i (bareT t) (i+(prT t).length)
 first:∀i b,Std L i (prT t++b)→isT (zG L i) [125]=false
theorem zV8 (h:zK x=true) (hk:x.kind=40):({x with kids:=[]}:Nd)={zBo with kind:=40,str:=x.str}∧x.str.length≤4096:=by
 obtain⟨k,n,u,nk,nn,g,m,ks⟩:=x;simp only at hk;subst hk;unfold zK at h;simp only at h;split at h
 · cases h
 split at h
 · cases h
 split at h
 · cases h
 split at h
 · cases h
 rename_i a0 a1 a2 a3
 simp at a2 a3 h;obtain⟨rfl,rfl⟩:=a2;obtain⟨rfl,rfl⟩:=a3;obtain⟨rfl,b⟩:=h;exact⟨rfl,b⟩
theorem zaH (d:Lst L) (hk:x.kind=40) (g:zK x=true) (j:ExK L a):PrpK L (.mk x [a]):=by
 obtain⟨f1,k⟩:=zV8 g hk;have hb:bareT (.mk x [a])=.mk {zBo with kind:=40,str:=x.str} [bareT a]:=by rw[zCY,f1,zP,zd]
 have e:prT (.mk x [a])=zFw x.str::[58]::zO a:=by rw[zAR,zI,zZ];unfold zAn zh;rw[hk];rfl
 have l:=zLg k;have tok:∀{i:Nat} {r:Tks},Std L i (zFw x.str::r)→(zG L i).kind=4∧(zG L i).str=x.str:=by
  intro i r h;obtain⟨e1,_,e3,_,_,_⟩:=h.eq;rw[l]at e1 e3;exact⟨e1.symm,e3.symm⟩
 refine⟨fun i b hs c=>?_,fun i b hs=>?_⟩
 · rw[e]at hs c⊢;rw[hb];simp only[List.cons_append]at hs;have f:Std L (i+1) ([58]::(zO a++b)):=hs.2;have m:Std L (i+1+1) (zO a++b):=f.2;have o:i+(zFw x.str::[58]::zO a).length=i+1+1+(zO a).length:=by simp;omega
   rw[o]at c⊢;have r:=j.whole d m c;obtain⟨t1,t2⟩:=tok hs;unfold Rn at r⊢;rw[zV d ⟨Nat.le_of_lt hs.lt,trivial⟩];unfold zD;dsimp only;unfold zBJ;rw[if_pos t1,t2];dsimp only;rw[if_neg (fun h=>by omega),zAq,zBz f jd,r]
 · rw[e,List.cons_append]at hs;obtain⟨t1,_⟩:=tok hs;unfold isT;rw[t1];simp
theorem zSW (k:Lst L):∀(r:List Tr) (t:Tr) (c:List Tr) (i:Nat) (b:Tks),(∀x∈t::r,PrpK L x)→Std L i (zAW (·.2) (prs (t::r))++([125]::b))→Rn L (.objL c) i (trK 39 (c++bareL (t::r))) (i+(zAW (·.2) (prs (t::r))).length+1):=by
 intro r
 induction r with
 | nil=>
  intro t c i b j hs;have e:zAW (·.2) (prs [t])=prT t:=by rw[zI,zZ];show prT t++[]=_;rw[List.append_nil]
  rw[e]at hs⊢;have d:Std L (i+(prT t).length) ([125]::b):=hs.right;have f:=(j t js).run i _ hs (zDg d jd);have hi:i≤L.length - 1:=by have:=hs.mid;omega
  unfold Rn at f⊢;rw[zV k ⟨hi,trivial⟩];unfold zD;dsimp only;rw[f];dsimp only;rw[if_neg js,zFf d jd,if_pos jd,zP,zd];rfl
 | cons u r m=>
  intro t c i b j hs;have e:zAW (·.2) (prs (t::u::r))=prT t++([44]::zAW (·.2) (prs (u::r))):=by rw[zI,zI];rfl
  rw[e,List.append_assoc,List.cons_append]at hs;rw[e];have d:Std L (i+(prT t).length) ([44]::(zAW (·.2) (prs (u::r))++([125]::b))):=hs.right;have f:=(j t js).run i _ hs (zDg d jd);have hi:i≤L.length - 1:=by have:=hs.mid;omega
  have g:=m u (c++[bareT t]) _ b (fun x l=>j x (List.mem_cons_of_mem _ l)) d.2;unfold Rn at f g⊢;rw[zV k ⟨hi,trivial⟩];unfold zD;dsimp only;rw[f];dsimp only;rw[if_neg js,zFf d jd,ji,zBz d jd,g,zP t];simp only[List.append_assoc,List.singleton_append,Prod.mk.injEq,Ps.mk.injEq,true_and,and_true,List.length_append,List.length_cons];omega
theorem zaI (d:Lst L) (hk:x.kind=39) (m:zK x=true) (e:∀t∈l,PrpK L t):ExO L (.mk x l):=by
 have hb:bareT (.mk x l)=trK 39 (bareL l):=by rw[(zBp m (by rw[hk];decide) jo).1,hk]
 have f:prT (.mk x l)=[123]::(zAW (·.2) (prs l)++[[125]]):=by rw[zAR];unfold zAn zh;rw[hk];rfl
 refine zO3 d f jd jd jd fun i b hs=>?_;rw[f]at hs⊢;rw[hb];simp only[List.append_assoc,List.cons_append,List.nil_append]at hs;have c:Std L (i+1) (zAW (·.2) (prs l)++([125]::b)):=hs.2;have g:i+1≤L.length - 1:=by have:=c.mid;omega
 unfold Rn;rw[zBe d (Nat.le_of_lt hs.lt),zSU hs,zV d ⟨g,trivial⟩];unfold zD;dsimp only;cases l with
 | nil=>
  rw[zZ]at c;rw[zFf (show Std L (i+1) ([125]::b)from c) jd,if_pos jd,zd,zZ];rfl
 | cons t r=>
  have j:=zSW d r t [] (i+1) b e c;have k:¬onP L [125] (pl (i+1))=true:=by
   have o:Std L (i+1) (prT t++(zGY (·.2) (prs r)++([125]::b))):=by
    rw[zI]at c;have:zAW (·.2) ((t.nd.kind,prT t)::prs r)=prT t++zGY (·.2) (prs r):=rfl;rw[this,List.append_assoc]at c;exact c
   exact zCi ((e t js).first _ _ o) rfl
  unfold Rn at j;rw[if_neg k,j];simp only[List.nil_append,List.length_cons,List.length_append,List.length_nil,Prod.mk.injEq,Ps.mk.injEq,true_and,and_true];omega
theorem zV9:∀(m:Nat) (l:List Tr) (a:Nat),(List.replicate m 6++[a]).length≤l.length→zC7 (List.replicate m 6++[a]) 0 (zAb l)=true→∃ps c,l=ps++[c]∧(∀t∈ps,t.nd.kind=20)∧zx a c.nd.kind=true:=by
 intro m
 induction m with
 | zero=>
  intro l a b h;obtain⟨t,q,rfl,d,_,e⟩:=zAz b h;obtain rfl:=zCG e;exact⟨[],t,rfl,fun t h=>(by cases h),d⟩
 | succ m g=>
  intro l a b h;rw[List.replicate_succ,List.cons_append]at b h;obtain⟨t,q,rfl,d,j,e⟩:=zAz b h;obtain⟨ps,c,rfl,h6,k⟩:=g q a j e;refine⟨t::ps,c,rfl,fun u f=>?_,k⟩;rcases List.mem_cons.1 f with rfl | f
  · unfold zx at d;simpa using d
  · exact h6 u f
theorem zaJ (g:Lst L) (hk:x.kind=41) (o:zK x=true) (p:∀t∈l,PrmK t) (q:zO0 L c):ExO L (.mk x (l++[c])):=by
 have hN:=zCT o jo jo jo jo;have s:x.name=[]∨zBi x.name=true:=by
  have:=hN.2.1;rw[hk]at this;unfold zAe at this;rw[ji,if_pos jd,Bool.or_eq_true]at this;exact this.imp of_decide_eq_true id
 have hb:bareT (.mk x (l++[c]))=trN 41 x.name (bareL l++[bareT c]):=by rw[zDf o jo jo jo jo,hk,zGg,zP,zd]
 have r:prT (.mk x (l++[c]))=[102,117,110,99,116,105,111,110]::(zAs x.name++(zt (prs l)++prT c)):=by
  rw[zAR];unfold zAn zh;rw[hk];show zFZ x (prs (l++[c]))=_;unfold zFZ;rw[(zDE l c).1,(zDE l c).2]
 refine zO3 g r jd jd jd fun i b hs=>?_;rw[r]at hs⊢;rw[hb];simp only[List.append_assoc,List.cons_append]at hs;unfold Rn;rw[zBe g (Nat.le_of_lt hs.lt),zSV hs]
 by_cases j:x.name=[]
 · have d:Std L (i+1) (zt (prs l)++(prT c++b)):=by
    have h:=hs.2;rw[j]at h;exact h
   have u:Std L (i+1) ([40]::(zAW (·.2) (prs l)++[[41]]++(prT c++b))):=d;have f:=zIX g (k:=41) (n:=[]) p q d;obtain⟨k1,_⟩:=u.sign jd;unfold Rn at f;rw[jn,f,j];simp only[zAs,if_true,List.nil_append,List.length_cons,List.length_append,Prod.mk.injEq,Ps.mk.injEq,true_and,and_true];omega
 · have m:=s.resolve_left j;have e:zAs x.name=[x.name]:=by unfold zAs;rw[if_neg j]
   have d:Std L (i+1) (x.name::(zt (prs l)++(prT c++b))):=by
    have h:=hs.2;rw[e]at h;exact h
   have f:=zIX g (k:=41) (n:=x.name) p q (show Std L (i+1+1) (zt (prs l)++(prT c++b))from d.2);obtain⟨k1,_⟩:=d.name m;unfold Rn at f;rw[if_pos k1,zD2 d m];dsimp only;rw[f,e];simp only[List.length_cons,List.length_append,List.singleton_append,Prod.mk.injEq,Ps.mk.injEq,true_and,and_true];omega
theorem zaK (f:Lst L) (hk:x.kind=42) (y:zK x=true) (p:∀t∈l,PrmK t) (z:(c.nd.kind=4∧zO0 L c∧∃r,prT c=[123]::r)∨(c.nd.kind≠4∧ExK L c)):ExO L (.mk x (l++[c])):=by
 have hb:bareT (.mk x (l++[c]))=trK 42 (bareL l++[bareT c]):=by rw[(zBp y (by rw[hk];decide) jo).1,hk,zGg,zP,zd]
 obtain⟨q,d⟩:=jx ((if c.nd.kind=4 then prT c else inP (prT c)));have k:prT (.mk x (l++[c]))=zt (prs l)++([61,62]::q):=by
  rw[zAR];unfold zAn zh;rw[hk];show zE3 (prs (l++[c]))=_;unfold zE3;rw[(zDE l c).1,(zDE l c).2,←d]
 refine⟨fun i b hs m=>?_,fun i b hs=>?_,by rw[k];simp;omega⟩
 · rw[k]at hs m⊢;rw[hb];simp only[List.append_assoc,List.cons_append]at hs;have s:Std L i ([40]::(zAW (·.2) (prs l)++[[41]]++([61,62]::(q++b)))):=hs;have g:Std L (i+(zt (prs l)).length) ([61,62]::(q++b)):=hs.right;have e:Std L (i+(zt (prs l)).length+1) (q++b):=g.2;have A:i+(zt (prs l)++[61,62]::q).length=i+(zt (prs l)).length+1+q.length:=by simp;omega
   rw[A]at m⊢;have r1:=zHq f l p hs;have B:=zMu p hs;obtain⟨k1,_⟩:=s.sign jd;have j:zE L (.body (bareL l)) (pl (i+(zt (prs l)).length))=(trK 42 (bareL l++[bareT c]),pl (i+(zt (prs l)).length+1+q.length)):=by
    rw[zV f ⟨Nat.le_of_lt g.lt,trivial⟩];unfold zD;dsimp only;rw[g.nl];simp only[Bool.false_eq_true,if_false];rw[zBz g jd];rcases z with⟨c4,C,r,D⟩ | ⟨c4,E⟩
    · rw[if_pos c4]at d;subst d;have u:=C _ _ e;have o:Std L (i+(zt (prs l)).length+1) ([123]::(r++b)):=by rw[D]at e;exact e
      unfold Rn at u;rw[zFf o jd,if_pos jd,u]
    · rw[if_neg c4]at d;subst d;have v:=E.brackA f e m;have o:Std L (i+(zt (prs l)).length+1) ([40]::(prT c++[[41]]++b)):=e;unfold Rn at v;rw[zFf o jd,ji,v]
   unfold Rn at r1⊢;rw[zV f ⟨Nat.le_of_lt s.lt,trivial⟩];unfold zD;dsimp only;rw[if_neg (fun h=>by omega),if_pos B,r1];exact j
 · rw[k]at hs;exact zDD (show Std L i ([40]::(zAW (·.2) (prs l)++[[41]]++([61,62]::q)++b))from by simpa [zt]using hs) jd jd
end
section
variable {L:List Tok} {i j:Nat} {b:Tks}
theorem zDi {v:List UInt8} (h:Std L i (w::b)) (d:w∈zv++zAF) (c:w≠v):onP L v (pl i)=false:=by
 rw[zFf h d];exact yAI c
theorem zCx (h:Std L i (w::b)) (c:w∈zv++zAF):onP L w (pl i)=true:=by
 rw[zFf h c];exact decide_eq_true rfl
theorem zO4 (b:Lst L) (hi:i≤L.length - 1) (h1:onP L [108,101,116] (pl i)=false) (c:onP L [99,111,110,115,116] (pl i)=false) (d:onP L [102,117,110,99,116,105,111,110] (pl i)=false) (r:Rn L .statement i y j):Rn L .item i y j:=by
 unfold Rn at r⊢;rw[zV b ⟨hi,trivial⟩];unfold zD;dsimp only;rw[h1,c,d,ji,ji,r]
theorem zF6 (k:Lst L) {s:List UInt8} {r:Tks} (f:prT t=s::r) (hs:s∈zv++zAF) (j:s≠[108,101,116]∧s≠[99,111,110,115,116]∧s≠[102,117,110,99,116,105,111,110]) (d:s≠[102,105,110,97,108,108,121]∧s≠[99,97,116,99,104]∧s≠[101,108,115,101]∧s≠[125])
 (h:∀i b,Std L i (s::(r++b))→NxT (zG L (i+(s::r).length)) (dangT t)→Rn L .statement i (bareT t) (i+(s::r).length)):StK L t:=by
 refine⟨fun i b c e=>?_,fun i b c=>?_,by rw[f];simp⟩
 · rw[f]at c e⊢;rw[List.cons_append]at c;have g:=h i b c e;exact⟨zO4 k (Nat.le_of_lt c.lt) (zDi c hs j.1) (zDi c hs j.2.1) (zDi c hs j.2.2) g,fun _=>g⟩
 · rw[f,List.cons_append]at c;obtain⟨_,t2⟩:=c.text2 hs;exact⟨by omega,zIW c hs d.1 d.2.1 d.2.2.1,by rw[c.is hs];exact yAI d.2.2.2⟩
theorem zDU (c:Lst L) (h:Std L i (w::b)) (d:w∈zAF) (r:zE L (.word w) (pl i)=(y,pl j)):Rn L .statement i y j:=by
 obtain⟨k1,t1⟩:=h.word d;unfold Rn;rw[zV c ⟨Nat.le_of_lt h.lt,trivial⟩];unfold zD;dsimp only;rw[if_neg (fun h=>by omega),if_pos k1,t1,r]
theorem zDV (c:Lst L) (h:Std L i (w::b)):zE L (.word w) (pl i)=zD L (zE L) (.word w) (pl i):=zV c ⟨Nat.le_of_lt h.lt,h.lt⟩
theorem zaL (c:Lst L) (hk:x.kind=2) (d:zK x=true) (e:l=[]):StK L (.mk x l):=by
 subst e;have hb:bareT (.mk x [])=trK 2 []:=by rw[(zBp d (by rw[hk];decide) jo).1,hk,zd]
 have f:prT (.mk x [])=[59]::[]:=by rw[zAR];unfold zAn zj;rw[hk];rfl
 refine zF6 c f jd jd jd fun i b hs _=>?_;rw[hb];obtain⟨k1,_⟩:=hs.sign jd;unfold Rn;rw[zV c ⟨Nat.le_of_lt hs.lt,trivial⟩];unfold zD;dsimp only;rw[if_neg (fun h=>by omega),jn,zCx hs jd,if_pos rfl];rfl
theorem zaM (c:Lst L) (hk:x.kind=3) (f:zK x=true) (g:ExK L a):StK L (.mk x [a]):=by
 have hb:bareT (.mk x [a])=trK 3 [bareT a]:=by rw[(zBp f (by rw[hk];decide) jo).1,hk,zP,zd]
 have j:prT (.mk x [a])=[40]::(prT a++[[41],[59]]):=by
  rw[zAR,zI,zZ];unfold zAn zj;rw[hk];show inP (prT a)++[[59]]=_;unfold inP;simp
 refine zF6 c j jd jd jd fun i b hs _=>?_;rw[hb];have d:Std L i (inP (prT a)++([59]::b)):=by unfold inP;simpa using hs
 have e:Std L (i+(inP (prT a)).length) ([59]::b):=d.right;have r:=g.brackA c d (zDg e jd);obtain⟨k1,_⟩:=hs.sign jd;unfold Rn at r⊢;rw[zV c ⟨Nat.le_of_lt hs.lt,trivial⟩];unfold zD;dsimp only;rw[if_neg (fun h=>by omega),jn,zDi hs jd jd,zDi hs jd jd,ji,ji,zV c ⟨Nat.le_of_lt hs.lt,trivial⟩];unfold zD;dsimp only;rw[r];dsimp only;rw[zEq e];simp only[inP,List.length_cons,List.length_append,List.length_nil,Prod.mk.injEq,Ps.mk.injEq,true_and,and_true];omega
theorem zLl (hk:x.kind=4):prT (.mk x l)=[123]::((prs l).flatMap (·.2)++[[125]]):=by
 rw[zAR];unfold zAn zj;rw[hk];rfl
theorem zaN (c:Lst L) (hk:x.kind=4) (h:zO0 L (.mk x l)):StK L (.mk x l):=by
 refine zF6 c (zLl hk) jd jd jd fun i b hs _=>?_;have r:=h i b (by rw[zLl hk];exact hs);rw[zLl hk]at r;obtain⟨k1,_⟩:=hs.sign jd;unfold Rn at r⊢;rw[zV c ⟨Nat.le_of_lt hs.lt,trivial⟩];unfold zD;dsimp only;rw[if_neg (fun h=>by omega),jn,zDi hs jd jd,zCx hs jd,ji,if_pos rfl,r]
structure DclK (L:List Tok) (t:Tr):Prop where
 run:∀i b w,Std L i (prT t++(w::b))→w=[44]∨w=[59]→(let n:=zc L (pl i);if onP L [61] n.2=true then(trN 7 n.1 [(zE L .assign (zB n.2)).1],(zE L .assign (zB n.2)).2)else(trN 7 n.1 [],n.2))=(bareT t,pl (i+(prT t).length))
theorem d_7 (k:Lst L) (hk:x.kind=7) (f:zK x=true) (m:l=[]∨∃a,l=[a]∧ExK L a):DclK L (.mk x l):=by
 have hN:=zCT f jo jo jo jo;have g:zBi x.name=true:=by
  have:=hN.2.1;rwa[hk]at this
 have hb:bareT (.mk x l)=trN 7 x.name (bareL l):=by rw[zDf f jo jo jo jo,hk]
 refine⟨fun i b w hs o=>?_⟩;rw[hb];have c:w∈zYU∧w∈zv++zAF∧w≠[61]:=by rcases o with rfl | rfl<;>decide
 rcases m with rfl | ⟨a,rfl,p⟩
 · have e:prT (.mk x [])=[x.name]:=by rw[zAR,zZ];unfold zAn zj;rw[hk];rfl
   rw[e]at hs⊢;have h1:Std L i (x.name::(w::b)):=hs;have d:Std L (i+1) (w::b):=h1.2;rw[zD2 h1 g];dsimp only;rw[zDi d c.2.1 c.2.2,ji,zd];rfl
 · have e:prT (.mk x [a])=x.name::[61]::inP (prT a):=by rw[zAR,zI,zZ];unfold zAn zj;rw[hk];rfl
   rw[e]at hs⊢;have h1:Std L i (x.name::([61]::(inP (prT a)++(w::b)))):=hs;have d:Std L (i+1) ([61]::(inP (prT a)++(w::b))):=h1.2;have j:Std L (i+1+1) (inP (prT a)++(w::b)):=d.2;have q:Std L (i+1+1+(inP (prT a)).length) (w::b):=j.right;have r:=p.brackA k j (zDg q c.1);unfold Rn at r;rw[zD2 h1 g];dsimp only;rw[zCx d jd,if_pos rfl,zAq,r,zP,zd];simp only[List.length_cons,Prod.mk.injEq,Ps.mk.injEq,true_and,and_true];omega
theorem zJQ (l:Lst L):∀(r:List Tr) (t:Tr) (c:List Tr) (i:Nat) (b:Tks),(∀x∈t::r,DclK L x)→Std L i (zAW (·.2) (prs (t::r))++([59]::b))→Rn L (.declL k c) i (trK k (c++bareL (t::r))) (i+(zAW (·.2) (prs (t::r))).length):=by
 intro r
 induction r with
 | nil=>
  intro t c i b g hs;have e:zAW (·.2) (prs [t])=prT t:=by rw[zI,zZ];show prT t++[]=_;rw[List.append_nil]
  rw[e]at hs⊢;have j:Std L (i+(prT t).length) ([59]::b):=hs.right;have d:=(g t js).run i _ _ hs (.inr rfl);have hi:i≤L.length - 1:=by have:=hs.mid;omega
  dsimp only at d;unfold Rn;rw[zV l ⟨hi,trivial⟩];unfold zD;dsimp only;rw[d];dsimp only;rw[if_neg js,zDi j jd jd,ji,zP,zd]
 | cons u r o=>
  intro t c i b g hs;have e:zAW (·.2) (prs (t::u::r))=prT t++([44]::zAW (·.2) (prs (u::r))):=by rw[zI,zI];rfl
  rw[e,List.append_assoc,List.cons_append]at hs;rw[e];have j:Std L (i+(prT t).length) ([44]::(zAW (·.2) (prs (u::r))++([59]::b))):=hs.right;have d:=(g t js).run i _ _ hs (.inl rfl);have hi:i≤L.length - 1:=by have:=hs.mid;omega
  have f:=o u (c++[bareT t]) _ b (fun x m=>g x (List.mem_cons_of_mem _ m)) j.2;dsimp only at d;unfold Rn at f⊢;rw[zV l ⟨hi,trivial⟩];unfold zD;dsimp only;rw[d];dsimp only;rw[if_neg js,zCx j jd,if_pos rfl,zAq,f,zP t];simp only[List.append_assoc,List.singleton_append,Prod.mk.injEq,Ps.mk.injEq,true_and,and_true,List.length_append,List.length_cons];omega
theorem zFy (c:Lst L) (hk:x.kind=5∨x.kind=6) (d:∀u∈t::l,DclK L u) (hs:Std L i (zBS x (prs (t::l))++([59]::b))):Rn L .declares i (trK x.kind (bareL (t::l))) (i+(zBS x (prs (t::l))).length)∧(onP L [108,101,116] (pl i) || onP L [99,111,110,115,116] (pl i))=true:=by
 unfold zBS at hs⊢;rcases hk with hk | hk
 · rw[hk,ji]at hs⊢;have h1:Std L i ([108,101,116]::(zAW (·.2) (prs (t::l))++([59]::b))):=hs;have r:=zJQ c (k:=5) l t [] (i+1) b d h1.2;unfold Rn at r⊢;refine⟨?_,by rw[zCx h1 jd];rfl⟩;rw[zV c ⟨Nat.le_of_lt h1.lt,trivial⟩];unfold zD;dsimp only;rw[zDi h1 jd jd,ji,zBz h1 jd,r];simp only[List.nil_append,List.length_cons,Prod.mk.injEq,Ps.mk.injEq,true_and,and_true];omega
 · rw[hk,if_pos rfl]at hs⊢;have h1:Std L i ([99,111,110,115,116]::(zAW (·.2) (prs (t::l))++([59]::b))):=hs;have r:=zJQ c (k:=6) l t [] (i+1) b d h1.2;unfold Rn at r⊢;refine⟨?_,by rw[zCx h1 jd];simp⟩;rw[zV c ⟨Nat.le_of_lt h1.lt,trivial⟩];unfold zD;dsimp only;rw[zCx h1 jd,if_pos rfl,zAq,r];simp only[List.nil_append,List.length_cons,Prod.mk.injEq,Ps.mk.injEq,true_and,and_true];omega
theorem zSX (x:Nd) (ks:List Kd):∃w r,zBS x ks=w::r∧(w=[108,101,116]∨w=[99,111,110,115,116]):=by
 unfold zBS
 by_cases h:x.kind=6
 · rw[if_pos h];exact⟨_,_,rfl,.inr rfl⟩
 · rw[if_neg h];exact⟨_,_,rfl,.inl rfl⟩
theorem zZ0 (f:Lst L) (hk:x.kind=5∨x.kind=6) (k:zK x=true) (m:∀u∈t::l,DclK L u):StK L (.mk x (t::l))∧bareT (.mk x (t::l))=trK x.kind (bareL (t::l))∧prT (.mk x (t::l))=zBS x (prs (t::l))++[[59]]:=by
 have hb:bareT (.mk x (t::l))=trK x.kind (bareL (t::l)):=(zBp k (by rcases hk with h | h<;>(rw[h];decide)) jo).1;have d:prT (.mk x (t::l))=zBS x (prs (t::l))++[[59]]:=by
  rw[zAR];unfold zAn zj;rcases hk with h | h
  · rw[h,if_pos jd,ji,ji,ji,ji,if_pos jd]
  · rw[h,if_pos jd,ji,ji,ji,ji,if_pos jd]
 refine⟨⟨fun i b hs _=>⟨?_,fun h=>?_⟩,fun i b hs=>?_,by rw[d];simp⟩,hb,d⟩
 · rw[d]at hs⊢;rw[hb];rw[List.append_assoc]at hs;have o:Std L (i+(zBS x (prs (t::l))).length) ([59]::b):=hs.right;obtain⟨r,g⟩:=zFy f hk m hs;have hi:i≤L.length - 1:=by have:=hs.mid;omega
   unfold Rn at r⊢;rw[zV f ⟨hi,trivial⟩];unfold zD;dsimp only;rw[g,if_pos rfl,r];dsimp only;rw[zEq o];simp only[List.length_append,List.length_cons,List.length_nil,Prod.mk.injEq,Ps.mk.injEq,true_and,and_true];omega
 · exfalso;have j:zCM x.kind=true:=h;rcases hk with e | e<;>(rw[e]at j;revert j;decide)
 · rw[d]at hs;obtain⟨w,r,e,p⟩:=zSX x (prs (t::l));rw[e]at hs;have h1:Std L i (w::(r++[[59]]++b)):=by simpa using hs
   have c:w∈zv++zAF∧w≠[102,105,110,97,108,108,121]∧w≠[99,97,116,99,104]∧w≠[101,108,115,101]∧w≠[125]:=by rcases p with rfl | rfl<;>decide
   obtain⟨_,t2⟩:=h1.text2 c.1;exact⟨by omega,zIW h1 c.1 c.2.1 c.2.2.1 c.2.2.2.1,by rw[h1.is c.1];exact yAI c.2.2.2.2⟩
end
section
variable {L:List Tok} {i j:Nat} {b:Tks}
theorem zFg (e:Lst L) (f:ExK L a) (hs:Std L i (inP (prT a)++b)):Rn L .within i (bareT a) (i+(inP (prT a)).length):=by
 have h1:Std L i ([40]::(prT a++([41]::b))):=by unfold inP at hs;simpa using hs
 have c:Std L (i+1) (prT a++([41]::b)):=h1.2;have d:Std L (i+1+(prT a).length) ([41]::b):=c.right;have r:=f.all _ _ c (zDg d jd);unfold Rn at r⊢;rw[zV e ⟨Nat.le_of_lt h1.lt,trivial⟩];unfold zD;dsimp only;rw[zBz h1 jd,r];dsimp only;rw[zBz d jd];simp only[inP,List.length_cons,List.length_append,List.length_nil,Prod.mk.injEq,Ps.mk.injEq,true_and,and_true];omega
theorem zSY (hk:x.kind=8):dangT (.mk x [a,c])=true:=by rw[zCw,if_pos ⟨hk,rfl⟩]
theorem zFC (hk:x.kind=8∧l.length≠1∨x.kind=9∨x.kind=10∨x.kind=18):dangT (.mk x (l++[t]))=dangT t:=by
 have e:dangL (l++[t])=dangT t:=by rw[zHj];simp
 rw[zCw,e,if_neg,if_pos jo];rintro⟨h1,b⟩;simp at b;omega
theorem zZ1 (e:Lst L) (hk:x.kind=8) (t:zK x=true) (p:ExK L a) (q:StK L c) (r:zCM c.nd.kind=true) (u:l=[]∨∃d,l=[d]∧StK L d∧zCM d.nd.kind=true∧dangT c=false):StK L (.mk x (a::c::l)):=by
 have hb:bareT (.mk x (a::c::l))=trK 8 (bareT a::bareT c::bareL l):=by rw[(zBp t (by rw[hk];decide) jo).1,hk,zP,zP]
 rcases u with rfl | ⟨d,rfl,v,y,z⟩
 · have m:prT (.mk x [a,c])=[105,102]::(inP (prT a)++prT c):=by
    rw[zAR,zI,zI,zZ];unfold zAn zj;rw[hk];show [105,102]::(inP (prT a)++(prT c++[]))=_;rw[List.append_nil]
   refine zF6 e m jd jd jd fun i b hs f=>?_;rw[hb,zd];rw[zSY hk]at f;rw[List.append_assoc]at hs;have g:Std L (i+1) (inP (prT a)++(prT c++b)):=hs.2;have j:Std L (i+1+(inP (prT a)).length) (prT c++b):=g.right;have o:i+([105,102]::(inP (prT a)++prT c)).length=i+1+(inP (prT a)).length+(prT c).length:=by simp;omega
   rw[o]at f⊢;have r1:=zFg e p g;have r2:=((q.run _ _ j (f.any _)).2 r);refine zDU e hs jd ?_;unfold Rn at r1 r2;rw[zDV e hs];unfold zD;dsimp only;rw[if_pos rfl,zAq,r1];dsimp only;rw[r2];dsimp only;rw[if_neg (zCi (f.els rfl) rfl)]
 · have m:prT (.mk x [a,c,d])=[105,102]::(inP (prT a)++(prT c++([101,108,115,101]::prT d))):=by
    rw[zAR,zI,zI,zI,zZ];unfold zAn zj;rw[hk];rfl
   refine zF6 e m jd jd jd fun i b hs f=>?_;rw[hb,zP,zd];rw[show [a,c,d]=[a,c]++[d]from rfl,zFC (.inl ⟨hk,by simp⟩)]at f;simp only[List.append_assoc,List.cons_append]at hs;have g:Std L (i+1) (inP (prT a)++(prT c++([101,108,115,101]::(prT d++b)))):=hs.2;have j:Std L (i+1+(inP (prT a)).length) (prT c++([101,108,115,101]::(prT d++b))):=g.right;have k:Std L (i+1+(inP (prT a)).length+(prT c).length) ([101,108,115,101]::(prT d++b)):=j.right;have A:Std L (i+1+(inP (prT a)).length+(prT c).length+1) (prT d++b):=k.2;have o:i+([105,102]::(inP (prT a)++(prT c++([101,108,115,101]::prT d)))).length=i+1+(inP (prT a)).length+(prT c).length+1+(prT d).length:=by simp;omega
   rw[o]at f⊢;have r1:=zFg e p g;have s:NxT (zG L (i+1+(inP (prT a)).length+(prT c).length)) (dangT c):=⟨by rw[k.is jd];rfl,by rw[k.is jd];rfl,fun h=>by rw[z]at h;cases h⟩;have r2:=((q.run _ _ j s).2 r);have r3:=((v.run _ _ A f).2 y);refine zDU e hs jd ?_;unfold Rn at r1 r2 r3;rw[zDV e hs];unfold zD;dsimp only;rw[if_pos rfl,zAq,r1];dsimp only;rw[r2];dsimp only;rw[zCx k jd,if_pos rfl,zAq,r3]
theorem zaO (d:Lst L) (hk:x.kind=9) (g:zK x=true) (j:ExK L a) (k:StK L c) (l:zCM c.nd.kind=true):StK L (.mk x [a,c]):=by
 have hb:bareT (.mk x [a,c])=trK 9 [bareT a,bareT c]:=by rw[(zBp g (by rw[hk];decide) jo).1,hk,zP,zP,zd]
 have m:prT (.mk x [a,c])=[119,104,105,108,101]::(inP (prT a)++prT c):=by
  rw[zAR,zI,zI,zZ];unfold zAn zj;rw[hk];rfl
 refine zF6 d m jd jd jd fun i b hs e=>?_;rw[hb];rw[show [a,c]=[a]++[c]from rfl,zFC (.inr (.inl hk))]at e;rw[List.append_assoc]at hs;have f:Std L (i+1) (inP (prT a)++(prT c++b)):=hs.2;have o:Std L (i+1+(inP (prT a)).length) (prT c++b):=f.right;have p:i+([119,104,105,108,101]::(inP (prT a)++prT c)).length=i+1+(inP (prT a)).length+(prT c).length:=by simp;omega
 rw[p]at e⊢;have r1:=zFg d j f;have r2:=((k.run _ _ o e).2 l);refine zDU d hs jd ?_;unfold Rn at r1 r2;rw[zDV d hs];unfold zD;dsimp only;rw[ji,if_pos rfl,zAq,r1];dsimp only;rw[r2]
def zWA (L:List Tok) (t:Tr):Prop:=∀i b w,(w=[59]∨w=[41])→Std L i (zn (t.nd.kind,prT t)++(w::b))→Rn L (.clause w) i (bareT t) (i+(zn (t.nd.kind,prT t)).length+1)
theorem zaP (f:Lst L) (hk:x.kind=11) (g:zK x=true) (j:l=[]):zWA L (.mk x l)∧bareT (.mk x l)=trK 11 []∧prT (.mk x l)=[]:=by
 subst j;have hb:bareT (.mk x [])=trK 11 []:=by rw[(zBp g (by rw[hk];decide) jo).1,hk,zd]
 have d:prT (.mk x [])=[]:=by rw[zAR];unfold zAn zj;rw[hk];rfl
 refine⟨fun i b w k hs=>?_,hb,d⟩;have e:zn ((Tr.mk x []).nd.kind,prT (.mk x []))=[]:=by rw[d];show zn (x.kind,[])=[];rw[hk];rfl
 rw[e]at hs⊢;have h1:Std L i (w::b):=hs;have c:w∈zv++zAF:=by rcases k with rfl | rfl<;>decide
 rw[hb];unfold Rn;rw[zV f ⟨Nat.le_of_lt h1.lt,trivial⟩];unfold zD;dsimp only;rw[zCx h1 c,if_pos rfl,zBz h1 c];rfl
theorem zXq (d:Lst L) (h:ExK L t):zWA L t∧zn (t.nd.kind,prT t)=inP (prT t):=by
 have hk:=zFe h.expr;have e:zn (t.nd.kind,prT t)=inP (prT t):=by unfold zn;rw[jn,jn]
 refine⟨fun i b w g hs=>?_,e⟩;rw[e]at hs⊢;have h1:Std L i ([40]::(prT t++[[41]]++(w::b))):=hs;have f:Std L (i+(inP (prT t)).length) (w::b):=hs.right;have c:w∈zv++zAF∧w∈zYU∧[40]≠w:=by rcases g with rfl | rfl<;>decide
 have r:=h.brackA d hs (zDg f c.2.1);unfold Rn at r⊢;rw[zV d ⟨Nat.le_of_lt h1.lt,trivial⟩];unfold zD;dsimp only;rw[zDi h1 jd c.2.2,ji,r];dsimp only;rw[zBz f c.1]
def zWB (L:List Tok) (t:Tr):Prop:=∀i b,Std L i (zn (t.nd.kind,prT t)++([59]::b))→(if(onP L [108,101,116] (pl i) || onP L [99,111,110,115,116] (pl i))=true then((zE L .declares (pl i)).1,zL L [59] (zE L .declares (pl i)).2)else zE L (.clause [59]) (pl i))=(bareT t,pl (i+(zn (t.nd.kind,prT t)).length+1))
theorem zSZ (c:Lst L) (hk:x.kind=5∨x.kind=6) (g:zK x=true) (d:∀u∈t::l,DclK L u):zWB L (.mk x (t::l)):=by
 intro i b hs;obtain⟨_,hb,j⟩:=zZ0 c hk g d;have e:zn ((Tr.mk x (t::l)).nd.kind,prT (.mk x (t::l)))=zBS x (prs (t::l)):=by
  unfold zn;refine(if_pos (show x.kind=5∨x.kind=6 from hk)).trans ?_;show(prT (.mk x (t::l))).dropLast=_;rw[j];simp
 rw[e]at hs⊢;obtain⟨r,f⟩:=zFy c hk d hs;have k:Std L (i+(zBS x (prs (t::l))).length) ([59]::b):=hs.right;unfold Rn at r;rw[f,if_pos rfl,r,hb];dsimp only;rw[zBz k jd]
theorem zSa (d:zWA L t) (f:zn (t.nd.kind,prT t)=[]∨zn (t.nd.kind,prT t)=inP (prT t)):zWB L t:=by
 intro i b hs;have r:=d i b _ (.inl rfl) hs;have g:∃w q,Std L i (w::q)∧(w=[59]∨w=[40]):=by
  rcases f with e | e
  · rw[e]at hs;exact⟨_,_,hs,.inl rfl⟩
  · rw[e]at hs;exact⟨_,_,(show Std L i ([40]::(prT t++[[41]]++([59]::b)))from hs),.inr rfl⟩
 obtain⟨w,q,h1,j⟩:=g;have c:w∈zv++zAF∧w≠[108,101,116]∧w≠[99,111,110,115,116]:=by rcases j with rfl | rfl<;>decide
 unfold Rn at r;rw[zDi h1 c.1 c.2.1,zDi h1 c.1 c.2.2,ji,r]
theorem zYk (f:Lst L) {e:Tr} (hk:x.kind=10) (q:zK x=true) (r:zWB L a) (s:zWA L c) (t:zWA L d) (u:StK L e) (v:zCM e.nd.kind=true):StK L (.mk x [a,c,d,e]):=by
 have hb:bareT (.mk x [a,c,d,e])=trK 10 [bareT a,bareT c,bareT d,bareT e]:=by rw[(zBp q (by rw[hk];decide) jo).1,hk,zP,zP,zP,zP,zd]
 obtain⟨A,g⟩:=jx (zn (a.nd.kind,prT a));obtain⟨C,j⟩:=jx (zn (c.nd.kind,prT c));obtain⟨D,k⟩:=jx (zn (d.nd.kind,prT d));have y:prT (.mk x [a,c,d,e])=[102,111,114]::[40]::(A++([59]::(C++([59]::(D++([41]::prT e)))))):=by
  rw[zAR,zI,zI,zI,zI,zZ,←g,←j,←k];unfold zAn zj;rw[hk];rfl
 refine zF6 f y jd jd jd fun i b hs l=>?_;rw[hb];rw[show [a,c,d,e]=[a,c,d]++[e]from rfl,zFC (.inr (.inr (.inl hk)))]at l;simp only[List.append_assoc,List.cons_append]at hs;have h1:Std L (i+1) ([40]::(A++([59]::(C++([59]::(D++([41]::(prT e++b)))))))):=hs.2;have m:Std L (i+1+1) (A++([59]::(C++([59]::(D++([41]::(prT e++b))))))):=h1.2;have o:Std L (i+1+1+A.length+1) (C++([59]::(D++([41]::(prT e++b))))):=(show Std L (i+1+1+A.length) ([59]::_)from m.right).2;have p:Std L (i+1+1+A.length+1+C.length+1) (D++([41]::(prT e++b))):=(show Std L (i+1+1+A.length+1+C.length) ([59]::_)from o.right).2;have z:Std L (i+1+1+A.length+1+C.length+1+D.length+1) (prT e++b):=(show Std L (i+1+1+A.length+1+C.length+1+D.length) ([41]::_)from p.right).2;have B:i+([102,111,114]::[40]::(A++([59]::(C++([59]::(D++([41]::prT e))))))).length=i+1+1+A.length+1+C.length+1+D.length+1+(prT e).length:=by simp;omega
 rw[B]at l⊢;have r1:=r (i+1+1) _ (by rw[g];exact m);have r2:=s _ _ _ (.inl rfl) (by rw[j];exact o);have r3:=t _ _ _ (.inr rfl) (by rw[k];exact p);have r4:=((u.run _ _ z l).2 v);rw[g]at r1;rw[j]at r2;rw[k]at r3;refine zDU f hs jd ?_;unfold Rn at r2 r3 r4;rw[zDV f hs];unfold zD;dsimp only;rw[ji,ji,if_pos rfl,zV f ⟨Nat.le_of_lt hs.lt,hs.lt⟩];unfold zD;dsimp only;rw[zAq,zBz h1 jd,r1];dsimp only;rw[r2];dsimp only;rw[r3];dsimp only;rw[r4]
theorem zJR (b:zK x=true) (hk:x.kind=12∨x.kind=13∨x.kind=17):(x.name=[]∨zBi x.name=true)∧∀l,bareT (.mk x l)=trN x.kind x.name (bareL l):=by
 have hN:=zCT b jo jo jo jo;refine⟨?_,fun l=>zDf b jo jo jo jo⟩;have h:=hN.2.1;unfold zAe at h;rw[jn,if_pos jo,Bool.or_eq_true]at h;exact h.imp of_decide_eq_true id
theorem zWC (f:Lst L) (hk:x.kind=12∨x.kind=13) (o:zK x=true) (p:l=[]):StK L (.mk x l):=by
 subst p;obtain⟨q,hb⟩:=zJR o jo;have hb:=hb [];rw[zd]at hb;obtain⟨w,r,k⟩:∃w,(if x.kind=13 then [99,111,110,116,105,110,117,101]else [98,114,101,97,107]:List UInt8)=w∧(x.kind=12∧w=[98,114,101,97,107]∨x.kind=13∧w=[99,111,110,116,105,110,117,101]):=by
  rcases hk with h | h
  · exact⟨_,rfl,.inl ⟨h,by rw[h];rfl⟩⟩
  · exact⟨_,rfl,.inr ⟨h,by rw[h];rfl⟩⟩
 have s:prT (.mk x [])=w::(zAs x.name++[[59]]):=by
  rw[zAR,←r];unfold zAn zj;rcases hk with h | h
  · rw[h];rfl
  · rw[h];rfl
 have d:w∈zAF∧w∈zv++zAF∧(w≠[108,101,116]∧w≠[99,111,110,115,116]∧w≠[102,117,110,99,116,105,111,110])∧(w≠[102,105,110,97,108,108,121]∧w≠[99,97,116,99,104]∧w≠[101,108,115,101]∧w≠[125]):=by
  rcases k with⟨_,rfl⟩ | ⟨_,rfl⟩<;>decide
 refine zF6 f s d.2.1 d.2.2.1 d.2.2.2 fun i b hs _=>?_;rw[hb];rw[List.append_assoc]at hs;have g:zE L (.jump x.kind) (pl i)=(trN x.kind x.name [],pl (i+(w::(zAs x.name++[[59]])).length)):=by
  rw[zV f ⟨Nat.le_of_lt hs.lt,hs.lt⟩];unfold zD;dsimp only;rw[zAq]
  by_cases j:x.name=[]
  · have e:zAs x.name=[]:=by unfold zAs;rw[if_pos j]
    rw[e]at hs⊢;have c:Std L (i+1) ([59]::b):=hs.2;obtain⟨k1,_⟩:=c.sign jd;rw[if_neg (fun h=>absurd (h.1.symm.trans k1) jd),zEq c,j];rfl
  · have e:zAs x.name=[x.name]:=by unfold zAs;rw[if_neg j]
    have m:=q.resolve_left j;rw[e]at hs⊢;have c:Std L (i+1) (x.name::([59]::b)):=hs.2;have t:Std L (i+1+1) ([59]::b):=c.2;rw[if_pos ⟨(c.name m).1,c.nl⟩,zD2 c m];dsimp only;rw[zEq t];rfl
 refine zDU f hs d.1 ?_;rw[zDV f hs];unfold zD;dsimp only;rcases k with⟨h,rfl⟩ | ⟨h,rfl⟩
 · rw[h]at g⊢;rw[ji,ji,ji,if_pos rfl,g]
 · rw[h]at g⊢;rw[ji,ji,ji,ji,if_pos rfl,g]
theorem zYl (c:Lst L) (hk:x.kind=14) (m:zK x=true) (o:l=[]∨∃a,l=[a]∧ExK L a):StK L (.mk x l):=by
 have hb:bareT (.mk x l)=trK 14 (bareL l):=by rw[(zBp m (by rw[hk];decide) jo).1,hk]
 rcases o with rfl | ⟨a,rfl,p⟩
 · have f:prT (.mk x [])=[114,101,116,117,114,110]::[[59]]:=by rw[zAR,zZ];unfold zAn zj;rw[hk];rfl
   refine zF6 c f jd jd jd fun i b hs _=>?_;rw[hb,zd];have e:Std L (i+1) ([59]::b):=hs.2;refine zDU c hs jd ?_;rw[zDV c hs];unfold zD;dsimp only;have g:zDe L (pl (i+1))=true:=by unfold zDe;rw[zCx e jd];simp
   rw[ji,ji,ji,ji,ji,if_pos rfl,zAq,g,if_pos rfl,zEq e];rfl
 · have f:prT (.mk x [a])=[114,101,116,117,114,110]::(inP (prT a)++[[59]]):=by rw[zAR,zI,zZ];unfold zAn zj;rw[hk];rfl
   refine zF6 c f jd jd jd fun i b hs _=>?_;rw[hb,zP,zd];rw[List.append_assoc]at hs;have e:Std L (i+1) (inP (prT a)++([59]::b)):=hs.2;have d:Std L (i+1) ([40]::(prT a++[[41]]++([59]::b))):=e;have j:Std L (i+1+(inP (prT a)).length) ([59]::b):=e.right;have r:=p.brackA c e (zDg j jd);obtain⟨k1,_⟩:=d.sign jd;refine zDU c hs jd ?_;unfold Rn at r;rw[zDV c hs];unfold zD;dsimp only;have g:¬zDe L (pl (i+1))=true:=by
    unfold zDe;rw[zDi d jd jd,zDi d jd jd,show(pl (i+1)).k=i+1 from rfl,d.nl,k1];decide
   rw[ji,ji,ji,ji,ji,if_pos rfl,zAq,if_neg g,r];dsimp only;rw[zEq j];simp only[List.length_cons,List.length_append,List.length_nil,Prod.mk.injEq,Ps.mk.injEq,true_and,and_true];omega
theorem zYm (c:Lst L) (hk:x.kind=15) (g:zK x=true) (j:ExK L a):StK L (.mk x [a]):=by
 have hb:bareT (.mk x [a])=trK 15 [bareT a]:=by rw[(zBp g (by rw[hk];decide) jo).1,hk,zP,zd]
 have k:prT (.mk x [a])=[116,104,114,111,119]::(inP (prT a)++[[59]]):=by rw[zAR,zI,zZ];unfold zAn zj;rw[hk];rfl
 refine zF6 c k jd jd jd fun i b hs _=>?_;rw[hb];rw[List.append_assoc]at hs;have d:Std L (i+1) (inP (prT a)++([59]::b)):=hs.2;have e:Std L (i+1) ([40]::(prT a++[[41]]++([59]::b))):=d;have f:Std L (i+1+(inP (prT a)).length) ([59]::b):=d.right;have r:=j.brackA c d (zDg f jd);refine zDU c hs jd ?_;unfold Rn at r;rw[zDV c hs];unfold zD;dsimp only;rw[ji,ji,ji,ji,ji,ji,if_pos rfl,zAq,e.nl];simp only[Bool.false_eq_true,if_false];rw[r];dsimp only;rw[zEq f];simp only[List.length_cons,List.length_append,List.length_nil,Prod.mk.injEq,Ps.mk.injEq,true_and,and_true];omega
end
section
variable {L:List Tok} {i j:Nat} {b:Tks}
theorem zEr {s:List UInt8} (h:Std L i (s::b)) (c:zBi s=true):isT (zG L i) w=false:=by
 unfold isT;rw[(h.name c).1];simp
theorem zHr (b:zK x=true) (hk:x.kind=18∨x.kind=19):zBi x.name=true∧∀l,bareT (.mk x l)=trN x.kind x.name (bareL l):=by
 have hN:=zCT b jo jo jo jo;refine⟨?_,fun l=>zDf b jo jo jo jo⟩;have h:=hN.2.1;unfold zAe at h;rw[if_pos jo]at h;exact h
theorem zYn (j:Lst L) (hk:x.kind=18) (l:zK x=true) (m:StK L c) (o:zCM c.nd.kind=true):StK L (.mk x [c]):=by
 obtain⟨d,hb⟩:=zHr l (.inl hk);have hb:=hb [c];rw[hk,zP,zd]at hb;have f:prT (.mk x [c])=x.name::[58]::prT c:=by rw[zAR,zI,zZ];unfold zAn zj;rw[hk];rfl
 refine⟨fun i b hs e=>?_,fun i b hs=>?_,by rw[f];simp⟩
 · rw[f]at hs e⊢;rw[hb];rw[show [c]=[]++[c]from rfl,zFC (.inr (.inr (.inr hk)))]at e;have h1:Std L i (x.name::([58]::(prT c++b))):=hs;have k:Std L (i+1) ([58]::(prT c++b)):=h1.2;have p:Std L (i+1+1) (prT c++b):=k.2;have q:i+(x.name::[58]::prT c).length=i+1+1+(prT c).length:=by simp;omega
   rw[q]at e⊢;have r:=(m.run _ _ p e).2 o;obtain⟨k1,t1⟩:=h1.name d;have g:Rn L .statement i (trN 18 x.name [bareT c]) (i+1+1+(prT c).length):=by
    unfold Rn at r⊢;rw[zV j ⟨Nat.le_of_lt h1.lt,trivial⟩];unfold zD;dsimp only;rw[if_pos ⟨k1,by show isT (zG L (i+1)) [58]=true;rw[k.is jd];rfl⟩,t1,zAq,zAq,r]
   exact⟨zO4 j (Nat.le_of_lt h1.lt) (zEr h1 d) (zEr h1 d) (zEr h1 d) g,fun _=>g⟩
 · rw[f]at hs;have h1:Std L i (x.name::([58]::(prT c++b))):=hs;exact⟨by rw[(h1.name d).1];decide,⟨zEr h1 d,zEr h1 d,fun _=>zEr h1 d⟩,zEr h1 d⟩
theorem zYo (f:Lst L) (hk:x.kind=19) (o:zK x=true) (p:∀t∈l,PrmK t) (q:zO0 L c):StK L (.mk x (l++[c])):=by
 obtain⟨d,hb⟩:=zHr o (.inr hk);have hb:=hb (l++[c]);rw[hk,zGg,zP,zd]at hb;have g:x.name≠[]:=by intro h;rw[h]at d;revert d;decide
 have e:prT (.mk x (l++[c]))=[102,117,110,99,116,105,111,110]::(x.name::(zt (prs l)++prT c)):=by
  rw[zAR];unfold zAn zj;rw[hk];show zFZ x (prs (l++[c]))=_;unfold zFZ;rw[(zDE l c).1,(zDE l c).2];unfold zAs;rw[if_neg g];rfl
 refine⟨fun i b hs _=>⟨?_,fun h=>?_⟩,fun i b hs=>?_,by rw[e];simp⟩
 · rw[e]at hs⊢;rw[hb];simp only[List.append_assoc,List.cons_append]at hs;have j:Std L (i+1) (x.name::(zt (prs l)++(prT c++b))):=hs.2;have r:=zIX f (k:=19) (n:=x.name) p q (show Std L (i+1+1) (zt (prs l)++(prT c++b))from j.2);unfold Rn at r⊢;rw[zV f ⟨Nat.le_of_lt hs.lt,trivial⟩];unfold zD;dsimp only;rw[zDi hs jd jd,zDi hs jd jd,ji,zCx hs jd,if_pos rfl,zAq,zD2 j d];dsimp only;rw[r];simp only[List.length_cons,List.length_append,Prod.mk.injEq,Ps.mk.injEq,true_and,and_true];omega
 · exfalso;have m:zCM x.kind=true:=h;rw[hk]at m;revert m;decide
 · rw[e,List.cons_append]at hs;obtain⟨k1,_⟩:=hs.word jd;exact⟨by omega,zIW hs jd jd jd jd,by rw[hs.is jd];rfl⟩
theorem zYp (p:Lst L) (hk:x.kind=16) (Q:zK x=true) (R:zO0 L a)
 (u:(c.nd.kind≠17∧bareT c=trK 11 []∧prT c=[])∨(c.nd.kind=17∧∃y e,c=.mk y [e]∧zK y=true∧zO0 L e∧∃r,prT e=[123]::r))
 (S:(d.nd.kind=4∧zO0 L d)∨(d.nd.kind≠4∧bareT d=trK 11 [])) (s:c.nd.kind=17∨d.nd.kind=4):StK L (.mk x [a,c,d]):=by
 have hb:bareT (.mk x [a,c,d])=trK 16 [bareT a,bareT c,bareT d]:=by rw[(zBp Q (by rw[hk];decide) jo).1,hk,zP,zP,zP,zd]
 obtain⟨D,f⟩:∃D:Tks,(if d.nd.kind=4 then [102,105,110,97,108,108,121]::prT d else [])=D:=⟨_,rfl⟩;have T:prT (.mk x [a,c,d])=[116,114,121]::(prT a++(prT c++D)):=by
  rw[zAR,zI,zI,zI,zZ,←f];unfold zAn zj;rw[hk];rfl
 refine zF6 p T jd jd jd fun i b hs A=>?_;rw[hb];simp only[List.append_assoc]at hs;have B:Std L (i+1) (prT a++(prT c++(D++b))):=hs.2;have g:Std L (i+1+(prT a).length) (prT c++(D++b)):=B.right;have C:Std L (i+1+(prT a).length+(prT c).length) (D++b):=g.right;have U:i+([116,114,121]::(prT a++(prT c++D))).length=i+1+(prT a).length+(prT c).length+D.length:=by simp;omega
 rw[U]at A⊢;have E:=R _ _ B;have k:onP L [102,105,110,97,108,108,121] (pl (i+1+(prT a).length+(prT c).length))=decide (d.nd.kind=4):=by
  by_cases h:d.nd.kind=4
  · rw[if_pos h]at f;subst f;rw[zCx (show Std L _ ([102,105,110,97,108,108,121]::(prT d++b))from C) jd,decide_eq_true h]
  · rw[if_neg h]at f;subst f;rw[yAI h];exact A.fin
 have l:onP L [99,97,116,99,104] (pl (i+1+(prT a).length))=decide (c.nd.kind=17):=by
  rcases u with⟨c1,_,c3⟩ | ⟨c1,y,e,rfl,_,_,_⟩
  · rw[yAI c1];have j:=s.resolve_left c1;rw[if_pos j]at f;subst f;rw[c3]at g;exact zDi (show Std L _ ([102,105,110,97,108,108,121]::(prT d++b))from g) jd jd
  · rw[decide_eq_true c1];have F:∃r,prT (.mk y [e])=[99,97,116,99,104]::r:=by
     rw[zAR];unfold zAn zj;have m:y.kind=17:=c1;rw[m];exact⟨_,rfl⟩
    obtain⟨r,v⟩:=F;rw[v]at g;exact zCx (show Std L _ ([99,97,116,99,104]::(r++(D++b)))from g) jd
 have z:(onP L [99,97,116,99,104] (pl (i+1+(prT a).length)) || onP L [102,105,110,97,108,108,121] (pl (i+1+(prT a).length)))=true:=by
  rw[l];rcases s with h | h
  · rw[decide_eq_true h];rfl
  · rcases u with⟨c1,_,c3⟩ | ⟨c1,_⟩
    · have t:=k;rw[c3,decide_eq_true h]at t;rw[show(pl (i+1+(prT a).length))=pl (i+1+(prT a).length+([]:Tks).length)from rfl,t];simp
    · rw[decide_eq_true c1];rfl
 have G:(if onP L [99,97,116,99,104] (pl (i+1+(prT a).length))=true then
  (let n:=if onP L [40] (zB (pl (i+1+(prT a).length)))=true then((zc L (zB (zB (pl (i+1+(prT a).length))))).1,zL L [41] (zc L (zB (zB (pl (i+1+(prT a).length))))).2)else([],zB (pl (i+1+(prT a).length)))
   (trN 17 n.1 [(zE L .block n.2).1],(zE L .block n.2).2))
  else(trK 11 [],pl (i+1+(prT a).length)))=(bareT c,pl (i+1+(prT a).length+(prT c).length)):=by
  rw[l];rcases u with⟨c1,c2,c3⟩ | ⟨c1,y,e,rfl,H,I,r,v⟩
  · rw[yAI c1,ji,c2,c3];rfl
  · rw[decide_eq_true c1,if_pos rfl];have m:y.kind=17:=c1;obtain⟨J,M⟩:=zJR H (.inr (.inr m));rw[M,m,zP,zd];have N:prT (.mk y [e])=[99,97,116,99,104]::((if y.name=[]then []else [[40],y.name,[41]])++prT e):=by
     rw[zAR,zI,zZ];unfold zAn zj;rw[m];rfl
    rw[N]at g⊢;simp only[List.cons_append,List.append_assoc]at g;rw[zAq]
    by_cases q:y.name=[]
    · rw[if_pos q]at g⊢;have j:Std L (i+1+(prT a).length+1) (prT e++(D++b)):=g.2;have o:=I _ _ j;have O:onP L [40] (pl (i+1+(prT a).length+1))=false:=by
       rw[v]at j;exact zDi (show Std L _ ([123]::(r++(D++b)))from j) jd jd
      unfold Rn at o;dsimp only;rw[O,ji,o,q];simp only[List.nil_append,List.length_cons,Prod.mk.injEq,Ps.mk.injEq,true_and,and_true];omega
    · rw[if_neg q]at g⊢;have j:Std L (i+1+(prT a).length+1) ([40]::(y.name::([41]::(prT e++(D++b))))):=g.2;have h6:Std L (i+1+(prT a).length+1+1) (y.name::([41]::(prT e++(D++b)))):=j.2;have P:Std L (i+1+(prT a).length+1+1+1) ([41]::(prT e++(D++b))):=h6.2;have o:=I _ _ (show Std L (i+1+(prT a).length+1+1+1+1) (prT e++(D++b))from P.2);unfold Rn at o;dsimp only;rw[zCx j jd,if_pos rfl,zAq,zD2 h6 (J.resolve_left q)];dsimp only;rw[zBz P jd,o];simp only[List.length_cons,List.length_append,List.length_nil,Prod.mk.injEq,Ps.mk.injEq,true_and,and_true];omega
 refine zDU p hs jd ?_;unfold Rn at E;rw[zDV p hs];unfold zD;dsimp only;rw[ji,ji,ji,ji,ji,ji,ji,if_pos rfl,zV p ⟨Nat.le_of_lt hs.lt,hs.lt⟩];unfold zD;dsimp only;rw[zAq,E];dsimp only;rw[z];simp only[if_true];rw[G];dsimp only;rw[k];rcases S with⟨d1,d2⟩ | ⟨d1,d2⟩
 · rw[decide_eq_true d1,if_pos rfl];rw[if_pos d1]at f;subst f;have j:Std L (i+1+(prT a).length+(prT c).length+1) (prT d++b):=(show Std L _ ([102,105,110,97,108,108,121]::(prT d++b))from C).2;have rd:=d2 _ _ j;unfold Rn at rd;rw[zAq,rd];simp only[List.length_cons,Prod.mk.injEq,Ps.mk.injEq,true_and,and_true];omega
 · rw[yAI d1,ji,d2];rw[if_neg d1]at f;subst f;rfl
end
end Go.Proofs.YtlnbbaehihgigaaGreatDoor
