/- Joined for the claim EarlySame: the parser, the lexer and the trees as they are walked, made short by a program of mine. -/
import Derived.Test.YtjlfhidpmdgloaaGreatDoorH11
import Derived.Test.YtjlfhidpmdgloaaGreatDoorH06
import Derived.Test.YtjlfhidpmdgloaaGreatDoorH04
import Derived.Test.YtjlfhidpmdgloaaGreatDoorH01
set_option maxHeartbeats 16000000
set_option maxRecDepth 1000000
namespace Go.Proofs.YtjlfhidpmdgloaaGreatDoor
variable {l:List Tr} {x:Nd} {a t c y d:Tr} {k:Int} {w:jE} {m:List Nat} {r n:Nat}
theorem zRX {x:UInt16} (h:zJ x=true):zAx x=false:=by
 have h:=zA2.1 h;unfold zAx;have e1:¬97≤x.toNat:=by omega
 have e2:¬65≤x.toNat:=by omega
 have e3:¬x.toNat=95:=by omega
 have e4:¬x.toNat=36:=by omega
 simp[e1,e2,e3,e4]
theorem zFG (n:Nat):∃x r,zV (zBQ n)=x::r∧zJ x=true:=by
 have h:=zIW n;have b:=zMI n;cases hq:zV (zBQ n)with
 | nil=>rw[←zGx,hq]at h;simp at h
 | cons x r=>exact⟨x,r,rfl,b x (by rw[hq];simp)⟩
theorem zYp {p:UInt16→Bool}:∀{l r:jH},(∀x∈l,p x=true)→(∀x q,r=x::q→p x=false)→(l++r).takeWhile p=l:=by
 intro l
 induction l with
 | nil=>
  intro r _ b;cases r with
  | nil=>rfl
  | cons x q=>rw[yAY,List.takeWhile_cons_of_neg (by rw[b x q rfl];decide)]
 | cons y l d=>
  intro r c b;rw[yAP,yBY (c y js),d (fun z e=>c z (by simp[e])) b]
theorem zEC (n:Nat) (r:jH) (c:∀x q,r=x::q→zJ x=false):zAU false (zV (zBQ n)++r)=zBx (zV (zBQ n)) r:=by
 obtain⟨x,q,e,b⟩:=zFG n;have h1:zAU false (zV (zBQ n)++r)=zBf (zV (zBQ n)++r):=by
  rw[e,yAP];show(if zAx x=true then zCm (x::(q++r))else if zJ x=true then zBf (x::(q++r))else _)=_;rw[if_neg (by rw[zRX b];decide),if_pos b]
 rw[h1];unfold zBf;rw[zYp (zMI n) c,List.drop_left]
theorem zED (n:Nat):(zBE 0 (fun x=>x.toNat==48) (zV (zBQ n))&& !decide (zV (zBQ n)=[48]))=false:=by
 have h:=zQX n;obtain⟨x,q,e,b⟩:=zFG n;rw[e]at h⊢;cases q with
 | nil=>
  by_cases b:x=48
  · subst b;rfl
  · have:¬x.toNat=48:=fun h=>b (yBS.1 h);simp[zBE,this]
 | cons y q=>
  have c:=h js js;have:¬x.toNat=48:=fun h=>c (yBS.1 h);simp[zBE,this]
theorem zU3 (h:n≤9007199254740991):zCw (zBQ n)={zh with kind:=2,nn:=(n:Int)}:=by
 unfold zCw;have h1:=zEC n [] (fun x q h=>by cases h);rw[yAS]at h1;rw[h1];unfold zBx;rw[zED,ji,if_neg (by rw[show zg [110] []=false from rfl];decide),if_neg (by unfold zBE;simp),if_neg (by unfold zBE;simp),zGC,jn]
theorem zYq (m:List Nat):zEW m=zB4 m:=by
 induction m with
 | nil=>rfl
 | cons x r b=>show x+4294967296*zEW r=x+4294967296*zB4 r;rw[b]
theorem zXe:∀(m:List Nat),(∀y∈m,y < 4294967296)→zB4 m < 4294967296^m.length:=by
 intro m
 induction m with
 | nil=>intro _;decide
 | cons x r b=>
  intro h;have h1:=b fun y c=>h y (by simp[c]);have d:=h x js;rw[zB4,yAO,yCP];omega
theorem zJ7 (h:zBL false m=true) (c:∀y∈m,y < 4294967296):limbs (zEW m)=m∧zEW m < zGM:=by
 unfold zBL at h;rw[yAQ,yBG]at h;rw[zYq];refine⟨?_,?_⟩
 · unfold limbs;rw[←zDo 9 m jo c];rcases List.eq_nil_or_concat m with rfl | ⟨l,x,rfl⟩
   · rfl
   · rw[List.concat_eq_append]at h⊢;have b:=h.2;rw[List.getLast?_append]at b;exact zFc (by simpa using b) l
 · have h1:=zXe m c;have b:4294967296^m.length≤4294967296^8:=Nat.pow_le_pow_right jd h.1;unfold zGM;omega
theorem zU4 (h:zBL false m=true) (b:∀y∈m,y < 4294967296):zCw (zBQ (zEW m)++[110])={zh with kind:=3,mag:=m}:=by
 obtain⟨h1,d⟩:=zJ7 h b;unfold zCw;have c:=zEC (zEW m) [110] (fun x q h=>by injection h with h _;rw[←h];decide);rw[zCh,show zV [110]=[110]from rfl,c];unfold zBx;rw[zED,ji,if_pos jd,zGC];unfold zIy;rw[jn,if_neg (by unfold zBE;simp),h1]
theorem zU5:∀n∈List.range 16,zIB (zCJ n).toUInt16=n∧(zCJ n).toUInt16≠123:=by decide+kernel
theorem zMg (h:n < 16):zIB (zCJ n).toUInt16=n∧(zCJ n).toUInt16≠123:=zU5 n (List.mem_range.2 h)
theorem zXf (x:UInt16) (R:jH):zEI (117::(zCJ (x.toNat / 4096)).toUInt16::(zCJ (x.toNat / 256 % 16)).toUInt16::(zCJ (x.toNat / 16 % 16)).toUInt16::(zCJ (x.toNat % 16)).toUInt16::R)=(0,x,5):=by
 have d:=x.toNat_lt;obtain⟨a1,a2⟩:=zMg (n:=x.toNat / 4096) jo;obtain⟨b,_⟩:=zMg (n:=x.toNat / 256 % 16) jo;obtain⟨c1,_⟩:=zMg (n:=x.toNat / 16 % 16) jo;obtain⟨d1,_⟩:=zMg (n:=x.toNat % 16) jo;show(if(zBz 117).isSome=true then(0,(zBz 117).getD 0,1)else zSL 117 _)=_;rw[ji];unfold zSL;have hs:∀q,zg [123] ((zCJ (x.toNat / 4096)).toUInt16::q)=false:=fun q=>by
  unfold zg;have:¬(123:UInt16)=(zCJ (x.toNat / 4096)).toUInt16:=fun e=>a2 e.symm;simp[List.isPrefixOf,this]
 rw[hs,if_neg (by rw[show((117:UInt16).toNat==48)=false from rfl];simp),ji,ji,ji,if_pos jd];unfold zCT;have e:((zCJ (x.toNat / 4096)).toUInt16::(zCJ (x.toNat / 256 % 16)).toUInt16::(zCJ (x.toNat / 16 % 16)).toUInt16::(zCJ (x.toNat % 16)).toUInt16::R).take 4=[(zCJ (x.toNat / 4096)).toUInt16,(zCJ (x.toNat / 256 % 16)).toUInt16,(zCJ (x.toNat / 16 % 16)).toUInt16,(zCJ (x.toNat % 16)).toUInt16]:=rfl;have c:([(zCJ (x.toNat / 4096)).toUInt16,(zCJ (x.toNat / 256 % 16)).toUInt16,(zCJ (x.toNat / 16 % 16)).toUInt16,(zCJ (x.toNat % 16)).toUInt16]:jH).all zEH=true:=by
  simp only[List.all_cons,List.all_nil,zEH,a1,b,c1,d1,yAQ,yBG,and_true];omega
 have hv:zEM 0 [(zCJ (x.toNat / 4096)).toUInt16,(zCJ (x.toNat / 256 % 16)).toUInt16,(zCJ (x.toNat / 16 % 16)).toUInt16,(zCJ (x.toNat % 16)).toUInt16]=x.toNat:=by
  simp only[zEM,a1,b,c1,d1];omega
 rw[e,c,hv,if_pos js];unfold more;rw[if_pos rfl];simp
theorem zON {x:UInt16} (h:32≤x.toNat∧x.toNat≤126):x.toUInt8.toUInt16=x:=by
 apply yBS.1;simp;omega
theorem zRY:∀(u c:jH) (f:Nat),(zV (u.flatMap zGT++[34])).length < f→zDH 34 f (zV (u.flatMap zGT++[34])) c=(0,c++u,(zV (u.flatMap zGT++[34])).length):=by
 intro u
 induction u with
 | nil=>
  intro c f b;obtain⟨f,rfl⟩:∃g,f=g+1:=⟨f - 1,by omega⟩;rw[yAS];rfl
 | cons x u d=>
  intro c f b;obtain⟨f,rfl⟩:∃g,f=g+1:=⟨f - 1,by omega⟩;rw[List.flatMap_cons,yAL,zCh]at b⊢;obtain⟨R,j⟩:=jx (zV (u.flatMap zGT++[34]));rw[j]at b d⊢;unfold zGT at b⊢
  by_cases h:32≤x.toNat∧x.toNat≤126∧x.toNat≠34∧x.toNat≠92
  · rw[if_pos h]at b⊢;have e:zV [x.toUInt8]++R=x::R:=by
     show x.toUInt8.toUInt16::R=_;rw[zON ⟨h.1,h.2.1⟩]
    rw[e]at b⊢;have r:=d (c++[x]) f (by simp at b;omega);have e1:¬zAG x=true:=by unfold zAG;simp;omega
    have e2:¬x=34:=fun e=>h.2.2.1 (by rw[e];rfl);unfold zDH;rw[if_neg e1,if_neg e2,if_neg h.2.2.2,r];simp only[yAL,yCD,yAO,yAU,true_and];omega
  · rw[if_neg h]at b⊢;have e:zV [92,117,zCJ (x.toNat / 4096),zCJ (x.toNat / 256 % 16),zCJ (x.toNat / 16 % 16),zCJ (x.toNat % 16)]++R=92::(117::(zCJ (x.toNat / 4096)).toUInt16::(zCJ (x.toNat / 256 % 16)).toUInt16::(zCJ (x.toNat / 16 % 16)).toUInt16::(zCJ (x.toNat % 16)).toUInt16::R):=rfl;rw[e]at b⊢;have r:=d (c++[x]) f (by simp at b;omega);unfold zDH;rw[ji,ji,if_pos jd,zXf,if_neg js];dsimp only;rw[show(117::(zCJ (x.toNat / 4096)).toUInt16::(zCJ (x.toNat / 256 % 16)).toUInt16::(zCJ (x.toNat / 16 % 16)).toUInt16::(zCJ (x.toNat % 16)).toUInt16::R).drop 5=R from rfl,r];simp only[yAL,yCD,yAO,yAU,true_and];omega
theorem zMh {u:jH} (_h:u.length≤4096):zCw (zFq u)={zh with kind:=4,str:=u}:=by
 unfold zCw;have e:zV (zFq u)=34::zV (u.flatMap zGT++[34]):=rfl;have h1:zAU false (34::zV (u.flatMap zGT++[34]))=zAv 34 (zV (u.flatMap zGT++[34])):=rfl;rw[e,h1];unfold zAv zKU;rw[zRY u [] _ (yAF _),if_neg js];rfl
section
variable {L:List Tok} {i j:Nat} {b:Tks} {s:jE}
theorem zJ8 (h:zDL x.kind l=true) (b:zu x.kind l.length=([],0)):l=[]:=by
 unfold zDL at h;rw[b]at h;simp only[yAQ]at h;cases l with
 | nil=>rfl
 | cons t r=>
  have:=h.1.2;unfold zBy at this;simp[zFz,zAd]at this
theorem zU6 (h1:30≤k) (b:k≤37) (n:Nat):zu k n=([],0):=by
 unfold zu
 repeat rw[jn]
theorem zCa (h:goodT (.mk x l)=true):zL x=true∧zDL x.kind l=true∧∀t∈l,goodT t=true:=by
 rw[zLw,yAQ,yAQ]at h;exact⟨h.1.1,h.1.2,zPN.1 h.2⟩
structure Lone (t:Tok) (k:Int):Prop where
 k0:t.kind≠0
 pre:zRV t
 new_:isT t [110,101,119]=false
 open_ : isT t [40] = false
 name:t.kind=1→k=33
 close:isT t [41]=false
 sq:isT t [93]=false
theorem zRZ {t:Tok} (b:t.kind≠0) (c:t.kind≠5) (h6:t.kind≠6) (h1:t.kind=1→k=33):Lone t k:=by
 have e5:(t.kind==5)=false:=yA.2 c;have e6:(t.kind==6)=false:=yA.2 h6;exact⟨b,⟨fun h=>by omega,fun h=>by omega⟩,by unfold isT;rw[e5,e6];simp,by unfold isT;rw[e5,e6];simp,h1,by unfold isT;rw[e5,e6];simp,by unfold isT;rw[e5,e6];simp⟩
theorem zBW (b:Lst L) (hi:i≤L.length - 1):zE L .primary (pl i)=zD L (zE L) .primary (pl i):=zQ b ⟨hi,trivial⟩
theorem zGH (e:Lst L) (c:(w=[116,114,117,101]∧k=34)∨(w=[102,97,108,115,101]∧k=35)∨(w=[110,117,108,108]∧k=36)∨(w=[116,104,105,115]∧k=37)) (h:Std L i (w::b)):Rn L .primary i (trK k []) (i+1)∧Lone (zH L i) k:=by
 have d:w∈zAB:=by rcases c with h | h | h | h<;>(rw[h.1];decide)
 obtain⟨g1,g2⟩:=h.word d;have hi:=yAM h.lt;refine⟨?_,⟨by omega,⟨?_,?_⟩,?_,?_,fun h=>by omega,?_,?_⟩⟩
 · unfold Rn;rw[zBW e hi];unfold zD;dsimp only;rw[g1,ji,ji,ji,ji,ji,g2];rcases c with⟨rfl,rfl⟩ | ⟨rfl,rfl⟩ | ⟨rfl,rfl⟩ | ⟨rfl,rfl⟩
   · rfl
   · rfl
   · rfl
   · rfl
 · rw[g2];rcases c with h | h | h | h<;>(rw[h.1];exact fun h=>absurd h.2 jd)
 · rw[g2];rcases c with h | h | h | h<;>(rw[h.1];exact fun h=>absurd h.2 jd)
 · rw[h.is (yBX _ d)];rcases c with h | h | h | h<;>(rw[h.1];rfl)
 · rw[h.is (yBX _ d)];rcases c with h | h | h | h<;>(rw[h.1];rfl)
 · rw[h.is (yBX _ d)];rcases c with h | h | h | h<;>(rw[h.1];rfl)
 · rw[h.is (yBX _ d)];rcases c with h | h | h | h<;>(rw[h.1];rfl)
theorem zIp (d:Lst L) (h:Std L i (s::b)) (c:((zCw s).kind=2∧x={zB6 with kind:=30,nk:=(zCw s).nk,nn:=(zCw s).nn})∨((zCw s).kind=3∧x={zB6 with kind:=31,mag:=(zCw s).mag})∨((zCw s).kind=4∧x={zB6 with kind:=32,str:=(zCw s).str})∨((zCw s).kind=1∧x={zB6 with kind:=33,name:=(zCw s).text})):Rn L .primary i (.mk x []) (i+1)∧Lone (zH L i) x.kind:=by
 obtain⟨e1,e2,e3,e4,e5,e6⟩:=h.1.1;have hi:=yAM h.lt;refine⟨?_,zRZ jo jo jo (fun h1=>?_)⟩
 · unfold Rn;rw[zBW d hi];unfold zD;dsimp only;rw[←e1,←e2,←e3,←e4,←e5,←e6];rcases c with⟨hk,rfl⟩ | ⟨hk,rfl⟩ | ⟨hk,rfl⟩ | ⟨hk,rfl⟩
   · rw[jn,if_pos hk];rfl
   · rw[jn,jn,if_pos hk];rfl
   · rw[jn,jn,jn,if_pos hk];rfl
   · rw[jn,jn,jn,jn,if_pos hk];rfl
 · rcases c with⟨hk,rfl⟩ | ⟨hk,rfl⟩ | ⟨hk,rfl⟩ | ⟨hk,rfl⟩
   · omega
   · omega
   · omega
   · rfl
theorem zLS (d:Lst L) (hg:goodT (.mk x l)=true) (h1:30≤x.kind) (o:x.kind≤37) (hs:Short x):∃s,prT (.mk x l)=[s]∧∀i b,Std L i (s::b)→Rn L .primary i (bareT (.mk x l)) (i+1)∧Lone (zH L i) x.kind:=by
 obtain⟨c,hk,_⟩:=zCa hg;obtain rfl:=zJ8 hk (zU6 h1 o _);rw[zAO,zU,zCX,zW];unfold zAh;rw[jn]
 by_cases c4:34≤x.kind
 · have p:x.kind∈zP9∧(x.kind≠12∧x.kind≠13∧x.kind≠17):=by
    refine⟨?_,by omega⟩;have:x.kind=34∨x.kind=35∨x.kind=36∨x.kind=37:=by omega
    rcases this with h | h | h | h<;>(rw[h];decide)
   have hb:=(zBj (l:=[]) c p.1 p.2).1;rw[zCX,zW]at hb;rw[hb];have:x.kind=34∨x.kind=35∨x.kind=36∨x.kind=37:=by omega
   unfold zq;rcases this with h | h | h | h
   · rw[h];exact⟨_,rfl,fun i b h=>zGH d (.inl ⟨rfl,rfl⟩) h⟩
   · rw[h];exact⟨_,rfl,fun i b h=>zGH d (.inr (.inl ⟨rfl,rfl⟩)) h⟩
   · rw[h];exact⟨_,rfl,fun i b h=>zGH d (.inr (.inr (.inl ⟨rfl,rfl⟩))) h⟩
   · rw[h];exact⟨_,rfl,fun i b h=>zGH d (.inr (.inr (.inr ⟨rfl,rfl⟩))) h⟩
 by_cases c3:x.kind=33
 · have hN:=zCQ c jo jo jo jo;rw[hN.1];have q:zBn x.name=true:=by
    have:=hN.2.1;rwa[c3]at this
   have e:zq x []=[x.name]:=by unfold zq;rw[c3];rfl
   refine⟨_,e,fun i b h=>?_⟩;have:=zIp d (x:={zB6 with kind:=x.kind,name:=x.name}) h (.inr (.inr (.inr ⟨(zFC q).1,by rw[(zFC q).2,c3]⟩)));exact this
 obtain⟨k,n,u,nk,nn,g,m,ks⟩:=x;simp only at h1 o c4 c3;unfold zL at c;simp only at c;split at c
 · cases c
 split at c
 · cases c
 split at c
 · cases c
 split at c
 · cases c
 rename_i a0 a1 a2 a3
 have r:k=30∨k=31∨k=32:=by omega
 rcases r with rfl | rfl | rfl
 · simp at a1 a3 c;obtain rfl:=a1;obtain⟨rfl,rfl⟩:=a3;obtain⟨⟨⟨rfl,rfl⟩,j⟩,v⟩:=c;unfold zDg at j;simp at j;have f:=zU3 (n:=nn.toNat) jo;refine⟨zBQ nn.toNat,rfl,fun i b h=>zIp d h (.inl ⟨by rw[f],?_⟩)⟩;rw[f];simp[zB6,zh];omega
 · simp at a1 a2 c;obtain rfl:=a1;obtain⟨rfl,rfl⟩:=a2;obtain⟨⟨rfl,j⟩,rfl⟩:=c;have f:=zU4 j hs.limb;refine⟨zBQ (zEW m)++[110],rfl,fun i b h=>zIp d h (.inr (.inl ⟨by rw[f],?_⟩))⟩;rw[f];rfl
 · simp at a2 a3 c;obtain⟨rfl,rfl⟩:=a2;obtain⟨rfl,rfl⟩:=a3;obtain⟨rfl,t⟩:=c;have f:=zMh t;refine⟨zFq u,rfl,fun i b h=>zIp d h (.inr (.inr (.inl ⟨by rw[f],?_⟩)))⟩;rw[f];rfl
end
structure First (L:List Tok) (i:Nat) (k:Int):Prop where
 k0:(zH L i).kind≠0
 close:isT (zH L i) [41]=false
 name:(zH L i).kind=1→k=33∨(isT (zH L (i+1)) [44]=false∧isT (zH L (i+1)) [41]=false∧isT (zH L (i+1)) [61,62]=false)
def ExA (L:List Tok) (t:Tr):Prop:=∀i b,Std L i (prT t++b)→End (zH L (i+(prT t).length))→Rn L .assign i (bareT t) (i+(prT t).length)
def ExF (L:List Tok) (t:Tr):Prop:=∀i b,Std L i (prT t++b)→First L i t.nd.kind
structure Part (L:List Tok) (i j:Nat):Prop where
 k0:(zH L i).kind≠0
 pre:zRV (zH L i)
 new_:isT (zH L i) [110,101,119]=false
 close:isT (zH L i) [41]=false
 sq:isT (zH L i) [93]=false
 next:i < j
 arr:isT (zH L j) [61,62]=false→zRW L i
 name:(zH L i).kind=1→j=i+1
section
variable {L:List Tok} {i j:Nat} {b:Tks}
theorem zJ9 (h:isT (zH L i) w=false) (b:w=[40]):¬zAb L (pl i)=true:=by
 subst b;unfold zAb;have:onP L [40] (pl i)=false:=h;rw[this];simp
theorem zU7 (g:Lst L) (h1:isT (zH L (i+1)) [41]=false) (j:(zH L (i+1)).kind=1→isT (zH L (i+2)) [44]=false∧(isT (zH L (i+2)) [41]=true→isT (zH L (i+3)) [61,62]=false)):¬zAb L (pl i)=true:=by
 unfold zAb;rw[yAQ];rintro⟨_,h⟩;have m:=g.pos;obtain⟨f,l⟩:∃f,L.length=f+1:=⟨L.length - 1,by omega⟩;rw[if_neg (by show¬isT (zH L (i+1)) [41]=true;rw[h1];decide),l]at h;unfold zEQ at h
 by_cases c:(zH L (i+1)).kind=1
 · obtain⟨g1,g2⟩:=j c;have d:(zH L ((pl i).k+1)).kind=1:=c;have e:isT (zH L ((pl i).k+1+1)) [44]=false:=g1;rw[if_pos d,if_neg (by rw[e];decide)]at h;have b:zBs L (i+2)=true:=h;unfold zBs at b;rw[yAQ]at b;rw[g2 b.1]at b;cases b.2
 · have d:¬(zH L ((pl i).k+1)).kind=1:=c;rw[if_neg d]at h;cases h
theorem zMi (f:Lst L) (A:ExA L t) (F:ExF L t) (h:Std L i (inP (prT t)++b)) (r:0 < (prT t).length) (g:t.nd.kind=33→(prT t).length=1):Rn L .primary i (bareT t) (i+(inP (prT t)).length)∧Part L i (i+(inP (prT t)).length):=by
 unfold inP at h⊢;rw[yAP,yAL]at h;have h1:Std L (i+1) (prT t++([[41]]++b)):=h.2;have c:Std L (i+1+(prT t).length) ([41]::b):=h1.right;have j:=A (i+1) _ h1 (zDW c jd);obtain⟨k1,t1⟩:=h.sign jd;obtain⟨k2,t2⟩:=c.sign jd;have l:=F (i+1) _ h1;have e:([40]::(prT t++[[41]])).length=(prT t).length+2:=by simp
 rw[e];have hi:=yAM h.lt;refine⟨?_,⟨by omega,⟨?_,?_⟩,?_,?_,?_,by omega,fun m=>⟨fun o=>by omega,?_⟩,fun o=>by omega⟩⟩
 · unfold Rn at j⊢;rw[zBW f hi];unfold zD;dsimp only;rw[k1,ji,ji,ji,ji,ji,t1,ji,ji,ji,ji,ji,ji,ji,if_pos rfl];rw[show zB (pl i)=pl (i+1)from rfl,j];dsimp only;unfold zO onP isT;rw[show(pl (i+1+(prT t).length)).k=i+1+(prT t).length from rfl,k2,t2,if_pos jd];unfold zB;simp only[yAU,Ps.mk.injEq,true_and,and_true];omega
 · rw[t1];exact fun h=>absurd h.2 jd
 · rw[t1];exact fun h=>absurd h.2 jd
 · rw[h.is jd];rfl
 · rw[h.is jd];rfl
 · rw[h.is jd];rfl
 · refine zU7 f l.close (fun hk=>?_);rcases l.name hk with d | d
   · have p:=g d;rw[p]at c m;refine⟨by rw[show i+2=i+1+1 by omega,c.is jd];rfl,fun _=>?_⟩;exact m
   · refine⟨d.1,fun q=>?_⟩;have:isT (zH L (i+1+1)) [41]=true:=q;rw[d.2.1]at this;cases this
theorem zFH (h:Lone (zH L i) k):Part L i (i+1):=
 ⟨h.k0,h.pre,h.new_,h.close,h.sq,by omega,fun c=>⟨fun b=>by rw[c]at b;exact absurd b.2 jd,zJ9 h.open_ rfl⟩,fun _=>rfl⟩
theorem zHC (hg:goodT t=true) (hs:ShortT t) (b:Lst L) (h:t.nd.kind=33):(prT t).length=1:=by
 cases t with
 | mk x l=>
  rw[zCB]at hs;obtain⟨s,h1,_⟩:=zLS b hg (by have:x.kind=33:=h;omega) (by have:x.kind=33:=h;omega) hs.1;rw[h1];rfl
theorem zU8 (c:Lst L) (hg:goodT t=true) (hs:ShortT t) (g:zBb t.nd.kind=true) (A:ExA L t) (F:ExF L t) (d:0 < (prT t).length) (h:Std L i (zc (t.nd.kind,prT t)++b)):Rn L .primary i (bareT t) (i+(zc (t.nd.kind,prT t)).length)∧Part L i (i+(zc (t.nd.kind,prT t)).length):=by
 by_cases hk:30≤t.nd.kind∧t.nd.kind≤37
 · have e:zc (t.nd.kind,prT t)=prT t:=by unfold zc;rw[if_pos hk]
   rw[e]at h⊢;cases t with
   | mk x l=>
    rw[zCB]at hs;obtain⟨s,h1,f⟩:=zLS c hg hk.1 hk.2 hs.1;rw[h1]at h⊢;obtain⟨g1,g2⟩:=f i b h;exact⟨g1,zFH g2⟩
 · have e:zc (t.nd.kind,prT t)=inP (prT t):=by unfold zc;rw[if_neg hk]
   rw[e]at h⊢;exact zMi c A F h d (fun h=>by omega)
theorem Part.calls (b:Lst L) (hi:i≤L.length - 1) (c:j≤L.length - 1) (h:Rn L .primary i y j) (p:Part L i j) (d:EndM (zH L j)):Rn L .calls i y j:=zFD b hi (zHB b hi h p.new_) (zDC b c d)
theorem Part.unary (b:Lst L) (hi:i≤L.length - 1) (c:j≤L.length - 1) (h:Rn L .primary i y j) (p:Part L i j) (d:EndM (zH L j)) (e:¬((zH L j).kind=5∧(zH L j).text∈zDa∧(zH L j).nl=false)):Rn L .unary i y j:=zEB b hi (p.calls b hi c h d) p.pre e
theorem Part.all (c:Lst L) (hi:i≤L.length - 1) (d:j≤L.length - 1) (h:Rn L .primary i y j) (p:Part L i j) (b:End (zH L j)):Rn L .assign i y j:=zCk c hi d (p.unary c hi d h b.m b.post) b (p.arr (b.words _ jd))
end
theorem zAK {s:List Nat} (h:zDL k l=true) (e:zu k l.length=(s,r)):s.length≤l.length∧zFz s r (zBy l)=true:=by
 unfold zDL at h;rw[e]at h;simp only[yAQ]at h;exact⟨yBF h.1.1.2,h.1.2⟩
theorem zCG (h:zFz [] 0 (zBy l)=true):l=[]:=by
 cases l with
 | nil=>rfl
 | cons t r=>unfold zBy at h;simp[zFz,zAd]at h
theorem zCH (h:zFz [] r (zBy l)=true):∀t∈l,zAd r t.nd.kind=true:=by
 rw[zTX]at h;intro t b;exact yBH.1 h _ (List.mem_map_of_mem b)
theorem zAs {a:Nat} {s:List Nat} (c:(a::s).length≤l.length) (h:zFz (a::s) r (zBy l)=true):∃t q,l=t::q∧zAd a t.nd.kind=true∧s.length≤q.length∧zFz s r (zBy q)=true:=by
 cases l with
 | nil=>simp at c
 | cons t q=>
  have b:(zAd a t.nd.kind&&zFz s r (zBy q))=true:=h;rw[yAQ]at b;exact⟨t,q,rfl,b.1,by simpa using c,b.2⟩
theorem zRa {a:Nat} (h:zDL k l=true) (e:zu k l.length=([a],0)):∃t,l=[t]∧zAd a t.nd.kind=true:=by
 obtain⟨h1,b⟩:=zAK h e;obtain⟨t,q,rfl,c,_,d⟩:=zAs h1 b;obtain rfl:=zCG d;exact⟨t,rfl,c⟩
theorem zYA {a b:Nat} (h:zDL k l=true) (e:zu k l.length=([a,b],0)):∃t u,l=[t,u]∧zAd a t.nd.kind=true∧zAd b u.nd.kind=true:=by
 obtain⟨h1,c⟩:=zAK h e;obtain⟨t,q,rfl,d,f,g⟩:=zAs h1 c;obtain⟨u,q,rfl,h6,_,j⟩:=zAs f g;obtain rfl:=zCG j;exact⟨t,u,rfl,d,h6⟩
theorem zZW {a b c:Nat} (h:zDL k l=true) (e:zu k l.length=([a,b,c],0)):∃t u v,l=[t,u,v]∧zAd a t.nd.kind=true∧zAd b u.nd.kind=true∧zAd c v.nd.kind=true:=by
 obtain⟨h1,f⟩:=zAK h e;obtain⟨t,q,rfl,g,j,m⟩:=zAs h1 f;obtain⟨u,q,rfl,h6,o,p⟩:=zAs j m;obtain⟨v,q,rfl,r,_,d⟩:=zAs o p;obtain rfl:=zCG d;exact⟨t,u,v,rfl,g,h6,r⟩
theorem zau {a b c d:Nat} (h:zDL k l=true) (e:zu k l.length=([a,b,c,d],0)):∃t u v x,l=[t,u,v,x]∧zAd a t.nd.kind=true∧zAd b u.nd.kind=true∧zAd c v.nd.kind=true∧zAd d x.nd.kind=true:=by
 obtain⟨h1,o⟩:=zAK h e;obtain⟨t,q,rfl,p,r,s⟩:=zAs h1 o;obtain⟨u,q,rfl,h6,y,z⟩:=zAs r s;obtain⟨v,q,rfl,A,f,g⟩:=zAs y z;obtain⟨x,q,rfl,j,_,m⟩:=zAs f g;obtain rfl:=zCG m;exact⟨t,u,v,x,rfl,p,h6,A,j⟩
theorem zFl (h:zBb k=true):30≤k∧k≤53∧k≠40:=by
 unfold zBb at h;simp only[yAQ,yBG,Bool.not_eq_true',yA]at h;exact⟨h.1.1,h.1.2,h.2⟩
structure ExK (L:List Tok) (t:Tr):Prop where
 good:goodT t=true
 short:ShortT t
 expr:zBb t.nd.kind=true
 all:ExA L t
 first:ExF L t
 pos:0 < (prT t).length
section
variable {L:List Tok} {i j:Nat} {b:Tks}
def zK (t:Tr):Tks:=zc (t.nd.kind,prT t)
theorem ExK.part (c:Lst L) (h:ExK L t) (hs:Std L i (zK t++b)):Rn L .primary i (bareT t) (i+(zK t).length)∧Part L i (i+(zK t).length):=zU8 c h.good h.short h.expr h.all h.first h.pos hs
theorem Std.mid {a:Tks} (h:Std L i (a++b)):i+a.length≤L.length - 1:=h.left.le
theorem ExK.whole (c:Lst L) (h:ExK L t) (hs:Std L i (zK t++b)) (d:End (zH L (i+(zK t).length))):Rn L .assign i (bareT t) (i+(zK t).length):=by
 obtain⟨g1,g2⟩:=h.part c hs;exact g2.all c (by have:=hs.mid;omega) hs.mid g1 d
theorem ExK.brack (c:Lst L) (h:ExK L t) (hs:Std L i (inP (prT t)++b)):Rn L .primary i (bareT t) (i+(inP (prT t)).length)∧Part L i (i+(inP (prT t)).length):=zMi c h.all h.first hs h.pos (zHC h.good h.short c)
theorem ExK.brackA (c:Lst L) (h:ExK L t) (hs:Std L i (inP (prT t)++b)) (d:End (zH L (i+(inP (prT t)).length))):Rn L .assign i (bareT t) (i+(inP (prT t)).length):=by
 obtain⟨g1,g2⟩:=h.brack c hs;exact g2.all c (by have:=hs.mid;omega) hs.mid g1 d
theorem zRb (k:Lst L) (m:w=[41]∨w=[93]):∀(r:List Tr) (t:Tr) (c:List Tr) (i:Nat) (b:Tks),(∀x∈t::r,ExK L x)→Std L i (zAS zc (prs (t::r))++(w::b))→Rn L (.listL w c) i (trK 0 (c++bareL (t::r))) (i+(zAS zc (prs (t::r))).length+1):=by
 intro r
 induction r with
 | nil=>
  intro t c i b l hs;have e:zAS zc (prs [t])=zK t++[]:=by rw[zI,zU];rfl
  rw[e,yAS]at hs⊢;have d:Std L (i+(zK t).length) (w::b):=hs.right;have f:=(l t js).whole k hs (zDW d (by rcases m with rfl | rfl<;>decide));have hi:i≤L.length - 1:=by have:=hs.mid;omega
  have g:onP L w (pl (i+(zK t).length))=true:=by
   show isT (zH L (i+(zK t).length)) w=true;rw[d.is (by rcases m with rfl | rfl<;>decide)];simp
  unfold Rn at f⊢;rw[zQ k ⟨hi,trivial⟩];unfold zD;dsimp only;rw[f];dsimp only;rw[if_neg js,if_pos g,zN,zW];rfl
 | cons u r q=>
  intro t c i b l hs;have e:zAS zc (prs (t::u::r))=zK t++([44]::zAS zc (prs (u::r))):=by rw[zI,zI];rfl
  rw[e,yAL,yAP]at hs;rw[e];have d:Std L (i+(zK t).length) ([44]::(zAS zc (prs (u::r))++(w::b))):=hs.right;have s:Std L (i+(zK t).length+1) (zAS zc (prs (u::r))++(w::b)):=d.2;have f:=(l t js).whole k hs (zDW d jd);have hi:i≤L.length - 1:=by have:=hs.mid;omega
  have o:¬onP L w (pl (i+(zK t).length))=true:=by
   show¬isT (zH L (i+(zK t).length)) w=true;rw[d.is jd];rcases m with rfl | rfl<;>decide
  have g:onP L [44] (pl (i+(zK t).length))=true:=by
   show isT (zH L (i+(zK t).length)) [44]=true;rw[d.is jd];rfl
  have j:=q u (c++[bareT t]) _ b (fun x p=>l x (yAV _ p)) s;unfold Rn at f j⊢;rw[zQ k ⟨hi,trivial⟩];unfold zD;dsimp only;rw[f];dsimp only;rw[if_neg js,if_neg o];unfold zO;rw[if_pos g];show zE L (.listL w (c++[bareT t])) (pl (i+(zK t).length+1))=_;rw[j,zN t];simp only[yAL,yCD,yAU,Ps.mk.injEq,true_and,and_true,yAN,yAO];omega
theorem zMj (c:Lst L) (d:w=[41]∨w=[93]) (l:List Tr) (g:∀x∈l,ExK L x) (hs:Std L i (zAS zc (prs l)++(w::b))):Rn L (.list w) i (trK 0 (bareL l)) (i+(zAS zc (prs l)).length+1):=by
 have hi:i≤L.length - 1:=by have:=hs.mid;omega
 have j:w∈zl++zAB:=by rcases d with rfl | rfl<;>decide
 cases l with
 | nil=>
  have e:zAS zc (prs [])=[]:=by rw[zU];rfl
  rw[e,yAY]at hs;rw[e];unfold Rn;rw[zQ c ⟨hi,trivial⟩];unfold zD;dsimp only;rw[if_pos (by show isT (zH L i) w=true;rw[hs.is j];simp),zW];rfl
 | cons t r=>
  have f:=zRb c d r t [] i b g hs;rw[yAY]at f;have k:isT (zH L i) w=false:=by
   have m:Std L i (zK t++(zGS zc (prs r)++(w::b))):=by
    rw[zI]at hs;have:zAS zc ((t.nd.kind,prT t)::prs r)=zK t++zGS zc (prs r):=rfl;rw[this,yAL]at hs;exact hs
   obtain⟨_,g2⟩:=(g t js).part c m;rcases d with rfl | rfl
   · exact g2.close
   · exact g2.sq
  unfold Rn at f⊢;rw[zQ c ⟨hi,trivial⟩];unfold zD;dsimp only;rw[if_neg (by show¬isT (zH L i) w=true;rw[k];decide)];exact f
end
def zU9 (L:List Tok) (t:Tr):Prop:=∀i b,Std L i (prT t++b)→EndM (zH L (i+(prT t).length))→isT (zH L (i+(prT t).length)) [61,62]=false→Rn L .calls i (bareT t) (i+(prT t).length)∧zRV (zH L i)∧zRW L i
section
variable {L:List Tok} {i j:Nat} {b:Tks}
theorem zCb (p:Part L i j) (h:∀w∈([[44],[41],[61,62]]:List jE),isT (zH L j) w=false):First L i k:=
 ⟨p.k0,p.close,fun hk=>by
  have e:=p.name hk;subst e;exact .inr ⟨h _ jd,h _ jd,h _ jd⟩⟩
theorem zDD {s:jE} (h:Std L i (s::b)) (hs:s∈zl++zAB) (h1:s≠[41]):First L i k:=by
 have hk:(zH L i).kind=5∨(zH L i).kind=6:=by
  rcases yBQ.1 hs with g | g
  · exact .inl (h.sign g).1
  · exact .inr (h.word g).1
 exact⟨by omega,by rw[h.is hs];exact yAI h1,fun h=>by omega⟩
theorem zEE {s:jE} (h:Std L i (s::b)) (hs:s∈zl++zAB) (h1:s≠[40]):zRW L i:=by
 have hk:(zH L i).kind=5∨(zH L i).kind=6:=by
  rcases yBQ.1 hs with g | g
  · exact .inl (h.sign g).1
  · exact .inr (h.word g).1
 exact⟨fun h=>by omega,zJ9 (by rw[h.is hs];exact yAI h1) rfl⟩
theorem Std.text2 {s:jE} (h:Std L i (s::b)) (hs:s∈zl++zAB):(zH L i).text=s∧((zH L i).kind=5∨(zH L i).kind=6):=by
 rcases yBQ.1 hs with g | g
 · exact⟨(h.sign g).2,.inl (h.sign g).1⟩
 · exact⟨(h.word g).2,.inr (h.word g).1⟩
theorem zRc {s:jE} (h:Std L i (s::b)) (hs:s∈zl++zAB) (c:s≠[40]∧s≠[46]∧s≠[91]):EndM (zH L i):=
 ⟨by rw[h.is hs];exact yAI c.1,by rw[h.is hs];exact yAI c.2.1,by rw[h.is hs];exact yAI c.2.2⟩
theorem zXg:∀s∈zHe,s∈zl++zAB∧s≠[40]∧s≠[41]:=by decide+kernel
theorem zRd:∀s∈zDa,s∈zl++zAB∧s∈zl∧s≠[40]∧s≠[41]∧s∉zHe∧s≠[46]∧s≠[91]∧s≠[61,62]∧s≠[44]:=by decide+kernel
theorem zXh:∀s∈zKO,s∈zl∧s∉zDa∧zE0 s=9∧s≠[105,110]∧(∀w∈onW,s≠w)∧s≠[44]∧s≠[41]:=by decide+kernel
theorem zXi:∀s∈zX7,s∈zl++zAB∧zE0 s < 8∧s∉zDa∧(∀w∈onW,s≠w)∧s≠[44]∧s≠[41]∧(s∈zl∨s=[105,110]):=by decide+kernel
structure ExO (L:List Tok) (t:Tr):Prop where
 all:ExA L t
 first:ExF L t
 pos:0 < (prT t).length
theorem zav (e:Lst L) (hk:x.kind=43) (j:zL x=true) (l:ExK L a):ExO L (.mk x [a]):=by
 have hN:=zCQ j jo jo jo jo;have f:x.name∈zHe:=by
  have:=hN.2.1;rw[hk]at this;exact yBF this
 obtain⟨q1,q2,q3⟩:=zXg _ f;have hb:bareT (.mk x [a])=trN 43 x.name [bareT a]:=by rw[zDV j jo jo jo jo,hk,zN,zW]
 have g:prT (.mk x [a])=x.name::zK a:=by rw[zAO,zI,zU];unfold zAh zq;rw[hk];rfl
 refine⟨fun i b hs c=>?_,fun i b hs=>?_,by rw[g];simp⟩
 · rw[g]at hs c⊢;rw[hb];rw[yAP]at hs;obtain⟨t1,t2⟩:=hs.text2 q1;have d:Std L (i+1) (zK a++b):=hs.2;obtain⟨g1,g2⟩:=l.part e d;have o:i+(x.name::zK a).length=i+1+(zK a).length:=by simp;omega
   rw[o]at c⊢;have k:=g2.unary e (by have:=d.mid;omega) d.mid g1 c.m c.post;refine zCk e (by have:=d.mid;omega) d.mid ?_ c (zEE hs q1 q2);unfold Rn at k⊢;rw[zQ e ⟨yAM hs.lt,trivial⟩];unfold zD;dsimp only;rw[t1,if_pos ⟨t2,f⟩];show(trN 43 x.name [(zE L .unary (pl (i+1))).1],(zE L .unary (pl (i+1))).2)=_;rw[k]
 · rw[g,yAP]at hs;exact zDD hs q1 q3
theorem zaw (f:Lst L) (hk:x.kind=44) (j:zL x=true) (l:zAN a.nd.kind=true) (o:zU9 L a):ExO L (.mk x [a]):=by
 have hN:=zCQ j jo jo jo jo;have e:x.name∈zDa:=by
  have:=hN.2.1;rw[hk]at this;exact yBF this
 obtain⟨q1,q2,q3,q4,q5,q6,q7,q8,q⟩:=zRd _ e;have hb:bareT (.mk x [a])=trN 44 x.name [bareT a]:=by rw[zDV j jo jo jo jo,hk,zN,zW]
 have g:prT (.mk x [a])=x.name::prT a:=by rw[zAO,zI,zU];unfold zAh zq;rw[hk];rfl
 refine⟨fun i b hs c=>?_,fun i b hs=>?_,by rw[g];simp⟩
 · rw[g]at hs c⊢;rw[hb];rw[yAP]at hs;obtain⟨t1,t2⟩:=hs.text2 q1;have d:Std L (i+1) (prT a++b):=hs.2;have p:i+(x.name::prT a).length=i+1+(prT a).length:=by simp;omega
   rw[p]at c⊢;obtain⟨g1,g2,r⟩:=o (i+1) b d c.m (c.words _ jd);have k:=zEB f (by have:=d.mid;omega) g1 g2 c.post;refine zCk f (by have:=d.mid;omega) d.mid ?_ c (zEE hs q1 q3);unfold Rn at k⊢;rw[zQ f ⟨yAM hs.lt,trivial⟩];unfold zD;dsimp only;rw[t1,if_neg (fun h=>q5 h.2),if_pos ⟨t2,e⟩];show(trN 44 x.name [(zE L .unary (pl (i+1))).1],if(zE L .unary (pl (i+1))).2.bad=0∧zAN (zE L .unary (pl (i+1))).1.nd.kind=false then zb L (zE L .unary (pl (i+1))).2 else(zE L .unary (pl (i+1))).2)=_;rw[k];dsimp only;rw[zHA,l,if_neg js]
 · rw[g,yAP]at hs;exact zDD hs q1 q4
theorem zax (j:Lst L) (hk:x.kind=45) (k:zL x=true) (q:zAN a.nd.kind=true) (r:zU9 L a) (l:∀i b,Std L i (prT a++b)→First L i a.nd.kind) (m:0 < (prT a).length) (o:a.nd.kind=33→(prT a).length=1):ExO L (.mk x [a]):=by
 have hN:=zCQ k jo jo jo jo;have e:x.name∈zDa:=by
  have:=hN.2.1;rw[hk]at this;exact yBF this
 obtain⟨q1,q2,q3,q4,q5,q6,q7,q8,s⟩:=zRd _ e;have hb:bareT (.mk x [a])=trN 45 x.name [bareT a]:=by rw[zDV k jo jo jo jo,hk,zN,zW]
 have f:prT (.mk x [a])=prT a++[x.name]:=by rw[zAO,zI,zU];unfold zAh zq;rw[hk];rfl
 refine⟨fun i b hs g=>?_,fun i b hs=>?_,by rw[f];simp⟩
 · rw[f]at hs g⊢;rw[hb];rw[yAL]at hs;have c:Std L (i+(prT a).length) (x.name::b):=hs.right;have t:i+(prT a++[x.name]).length=i+(prT a).length+1:=by simp;omega
   rw[t]at g⊢;obtain⟨k1,t1⟩:=c.sign q2;obtain⟨g1,g2,u⟩:=r i _ hs (zRc c q1 ⟨q3,q6,q7⟩) (by rw[c.is q1];exact yAI q8);refine zCk j (by have:=hs.mid;omega) c.lt ?_ g u;unfold Rn at g1⊢;rw[zQ j ⟨by have:=hs.mid;show i≤_;omega,trivial⟩];unfold zD;dsimp only;rw[if_neg g2.1,if_neg g2.2,g1];dsimp only;rw[t1,if_pos ⟨k1,e,c.nl⟩,zHA,q,if_neg js];rfl
 · rw[f,yAL]at hs;have c:Std L (i+(prT a).length) (x.name::b):=hs.right;have d:=l i _ hs;refine⟨d.k0,d.close,fun p=>?_⟩;rcases d.name p with h | h
   · have m:=o h;rw[m]at c;exact .inr ⟨by rw[c.is q1];exact yAI s,by rw[c.is q1];exact yAI q4,by rw[c.is q1];exact yAI q8⟩
   · exact .inr h
theorem zay (f:Lst L) (hk:x.kind=49) (o:zL x=true) (y:zAN a.nd.kind=true) (z:zU9 L a) (p:∀i b,Std L i (prT a++b)→First L i a.nd.kind) (q:a.nd.kind=33→(prT a).length=1) (A:ExK L c):ExO L (.mk x [a,c]):=by
 have hN:=zCQ o jo jo jo jo;have j:x.name∈zKO:=by
  have:=hN.2.1;rw[hk]at this;exact yBF this
 obtain⟨q2,q3,q4,q5,q6,q7,q8⟩:=zXh _ j;have q1:x.name∈zl++zAB:=yCJ _ q2;have hb:bareT (.mk x [a,c])=trN 49 x.name [bareT a,bareT c]:=by rw[zDV o jo jo jo jo,hk,zN,zN,zW]
 have l:prT (.mk x [a,c])=prT a++(x.name::zK c):=by rw[zAO,zI,zI,zU];unfold zAh zq;rw[hk];rfl
 refine⟨fun i b hs m=>?_,fun i b hs=>?_,by rw[l];simp;omega⟩
 · rw[l]at hs m⊢;rw[hb];rw[yAL,yAP]at hs;have e:Std L (i+(prT a).length) (x.name::(zK c++b)):=hs.right;have B:Std L (i+(prT a).length+1) (zK c++b):=e.2;have C:i+(prT a++(x.name::zK c)).length=i+(prT a).length+1+(zK c).length:=by simp;omega
   rw[C]at m⊢;obtain⟨k1,t1⟩:=e.sign q2;have hi:i≤L.length - 1:=by have:=hs.mid;omega
   have r:=yAM e.lt;have d:∀w∈onW,isT (zH L (i+(prT a).length)) w=false:=fun w d=>by rw[e.is q1];exact yAI (q6 w d)
   obtain⟨g1,g2,s⟩:=z i _ hs ⟨d _ jd,d _ jd,d _ jd⟩ (d _ jd);have D:=zEB f hi g1 g2 (by rw[t1];exact fun h=>q3 h.2.1);have t:zBJ (zH L (i+(prT a).length))=9:=by
    unfold zBJ;rw[t1,q4];split<;>rfl
   have k:=zIo f hi (zFE f hi r (zMf f hi r (yAC _) (zJ6 f hi D) t) (d _ jd) (d _ jd) (d _ jd)) (d _ jd);have u:=A.whole f B m;unfold Rn at k u⊢;rw[zQ f ⟨hi,trivial⟩];unfold zD;dsimp only;rw[if_neg (fun h=>s.1 ⟨h.1,h.2.1⟩),if_neg s.2,k];dsimp only;rw[t1,if_neg (by rw[k1];simp[j]),zHA,y,if_neg js];show(trN 49 x.name [bareT a,(zE L .assign (pl (i+(prT a).length+1))).1],(zE L .assign (pl (i+(prT a).length+1))).2)=_;rw[u]
 · rw[l,yAL,yAP]at hs;have e:Std L (i+(prT a).length) (x.name::(zK c++b)):=hs.right;have g:=p i _ hs;refine⟨g.k0,g.close,fun v=>?_⟩;rcases g.name v with h | h
   · have E:=q h;rw[E]at e;exact .inr ⟨by rw[e.is q1];exact yAI q7,by rw[e.is q1];exact yAI q8,by rw[e.is q1];exact yAI (q6 _ jd)⟩
   · exact .inr h
theorem zaz (d:Lst L) (hk:x.kind=46) (q:zL x=true) (r:ExK L a) (A:ExK L c):ExO L (.mk x [a,c]):=by
 have hN:=zCQ q jo jo jo jo;have s:x.name∈zX7:=by
  have:=hN.2.1;rw[hk]at this;exact yBF this
 obtain⟨q1,q2,q3,q4,q5,q6,q7⟩:=zXi _ s;have hb:bareT (.mk x [a,c])=trN 46 x.name [bareT a,bareT c]:=by rw[zDV q jo jo jo jo,hk,zN,zN,zW]
 have o:prT (.mk x [a,c])=zK a++(x.name::zK c):=by rw[zAO,zI,zI,zU];unfold zAh zq;rw[hk];rfl
 refine⟨fun i b hs e=>?_,fun i b hs=>?_,by rw[o];simp;omega⟩
 · rw[o]at hs e⊢;rw[hb];rw[yAL,yAP]at hs;have f:Std L (i+(zK a).length) (x.name::(zK c++b)):=hs.right;have j:Std L (i+(zK a).length+1) (zK c++b):=f.2;have B:i+(zK a++(x.name::zK c)).length=i+(zK a).length+1+(zK c).length:=by simp;omega
   rw[B]at e⊢;obtain⟨t1,k1⟩:=f.text2 q1;have hi:i≤L.length - 1:=by have:=hs.mid;omega
   have p:=yAM f.lt;have k:=f.lt;have g:∀w∈onW,isT (zH L (i+(zK a).length)) w=false:=fun w g=>by rw[f.is q1];exact yAI (q4 w g)
   obtain⟨g1,g2⟩:=r.part d hs;obtain⟨C,D⟩:=A.part d j;obtain⟨n,t⟩:=jx (zE0 x.name);rw[t]at q2;have l:zBJ (zH L (i+(zK a).length))=n:=by
    unfold zBJ;rw[t1,t,if_pos];rcases q7 with h | h
    · exact .inl (f.sign h).1
    · right;rw[f.is q1];exact yBE h
   have E:=g2.unary d hi p g1 ⟨g _ jd,g _ jd,g _ jd⟩ (by rw[t1];exact fun h=>q3 h.2.1);have u:=D.unary d k j.mid C e.m e.post;have l1:Rn L (.level (n+1)) i (bareT a) (i+(zK a).length):=zIn d hi p (7 - n) (n+1) jo (by rw[show n+1+(7 - n)=8 by omega];exact zJ6 d hi E) (fun m _ _=>by rw[l];omega);have l2:Rn L (.level (n+1)) (i+(zK a).length+1) (bareT c) (i+(zK a).length+1+(zK c).length):=zIn d k j.mid (7 - n) (n+1) jo (by rw[show n+1+(7 - n)=8 by omega];exact zJ6 d k u) (fun m _ _=>by rw[e.binds];omega);have v:Rn L (.levelL n (bareT a)) (i+(zK a).length) (trN 46 x.name [bareT a,bareT c]) (i+(zK a).length+1+(zK c).length):=by
    have z:=zH1 (y:=trN 46 x.name [bareT a,bareT c]) d j.mid q2 (by rw[e.binds];omega);unfold Rn at l2 z⊢;rw[zQ d ⟨p,q2⟩];unfold zD;dsimp only;rw[if_pos l,t1];show zE L (.levelL n (trN 46 x.name [bareT a,(zE L (.level (n+1)) (pl (i+(zK a).length+1))).1])) (zE L (.level (n+1)) (pl (i+(zK a).length+1))).2=_;rw[l2];exact z
   have F:Rn L (.level n) i (trN 46 x.name [bareT a,bareT c]) (i+(zK a).length+1+(zK c).length):=by
    unfold Rn at l1 v⊢;rw[zQ d ⟨hi,by show n≤8;omega⟩];unfold zD;dsimp only;rw[jn,l1];exact v
   have G:=zMf d hi j.mid jo F e.binds;exact zFF d hi (zIo d hi (zFE d hi j.mid G (e.words _ jd) (e.words _ jd) (e.words _ jd)) (e.words _ jd)) (g2.arr (g _ jd)) e.asgn
 · rw[o,yAL,yAP]at hs;have f:Std L (i+(zK a).length) (x.name::(zK c++b)):=hs.right;obtain⟨_,g2⟩:=r.part d hs;refine zCb g2 (fun w g=>?_);rw[f.is q1];simp only[yAW,List.not_mem_nil,or_false]at g;rcases g with rfl | rfl | rfl
   · exact yAI q5
   · exact yAI q6
   · exact yAI (q4 _ jd)
end
section
variable {L:List Tok} {i j:Nat} {b:Tks}
theorem zXj:∀s∈zV3,s∈zl∧zE0 s=9∧s∉zDa∧s≠[40]∧s≠[46]∧s≠[91]∧s≠[61,62]∧s≠[44]∧s≠[41]:=by decide+kernel
theorem zEi (b:Lst L) (hi:i≤L.length - 1) (c:j≤L.length - 1) (h:Rn L .primary i y j) (p:Part L i j) (d:EndM (zH L j)) (e:¬((zH L j).kind=5∧(zH L j).text∈zDa∧(zH L j).nl=false)) (hb:zBJ (zH L j)=9):Rn L (.level 0) i y j:=
 zMf b hi c (yAC _) (zJ6 b hi (p.unary b hi c h d e)) hb
theorem za0 (d:Lst L) (hk:x.kind=47) (s:zL x=true) (t:ExK L a) (H:ExK L c):ExO L (.mk x [a,c]):=by
 have hN:=zCQ s jo jo jo jo;have l:x.name∈zV3:=by
  have:=hN.2.1;rw[hk]at this;exact yBF this
 obtain⟨q2,q3,q4,q5,q6,q7,q8,I,u⟩:=zXj _ l;have q1:x.name∈zl++zAB:=yCJ _ q2;have hb:bareT (.mk x [a,c])=trN 47 x.name [bareT a,bareT c]:=by rw[zDV s jo jo jo jo,hk,zN,zN,zW]
 have r:prT (.mk x [a,c])=zK a++(x.name::zK c):=by rw[zAO,zI,zI,zU];unfold zAh zq;rw[hk];rfl
 refine⟨fun i b hs e=>?_,fun i b hs=>?_,by rw[r];simp;omega⟩
 · rw[r]at hs e⊢;rw[hb];rw[yAL,yAP]at hs;have k:Std L (i+(zK a).length) (x.name::(zK c++b)):=hs.right;have v:Std L (i+(zK a).length+1) (zK c++b):=k.2;have J:i+(zK a++(x.name::zK c)).length=i+(zK a).length+1+(zK c).length:=by simp;omega
   rw[J]at e⊢;obtain⟨k1,t1⟩:=k.sign q2;have hi:i≤L.length - 1:=by have:=hs.mid;omega
   have o:=yAM k.lt;have z:=k.lt;have j:=v.mid;obtain⟨g1,g2⟩:=t.part d hs;obtain⟨M,N⟩:=H.part d v;have A:zBJ (zH L (i+(zK a).length))=9:=by
    unfold zBJ;rw[t1,q3];split<;>rfl
   have l1:=zEi d hi o g1 g2 (zRc k q1 ⟨q5,q6,q7⟩) (by rw[t1];exact fun h=>q4 h.2.1) A;have l2:=zEi d z j M N e.m e.post e.binds;have g:∀w,isT (zH L (i+(zK a).length)) w=decide (x.name=w):=fun w=>k.is q1 w;have fin:Rn L .either i (trN 47 x.name [bareT a,bareT c]) (i+(zK a).length+1+(zK c).length)→Rn L .assign i (trN 47 x.name [bareT a,bareT c]) (i+(zK a).length+1+(zK c).length):=fun h=>
    zFF d hi (zIo d hi h (e.words _ jd)) (g2.arr (by rw[g];exact yAI q8)) e.asgn
   apply fin;have f:x.name=[38,38]∨x.name=[124,124]∨x.name=[63,63]:=by
    unfold zV3 at l;simpa using l
   unfold Rn at l1⊢;rw[zQ d ⟨hi,trivial⟩];unfold zD;dsimp only;rw[l1];dsimp only;rcases f with f | f | f
   · -- &&:within both
     have p:Rn L (.both (bareT a)) (i+(zK a).length) (trN 47 x.name [bareT a,bareT c]) (i+(zK a).length+1+(zK c).length):=by
      have B:=zGG (y:=trN 47 x.name [bareT a,bareT c]) d j (e.words [38,38] jd);unfold Rn at l2 B⊢;rw[zQ d ⟨o,trivial⟩];unfold zD;dsimp only;rw[if_pos (show onP L [38,38] (pl (i+(zK a).length))=true from by show isT _ _=true;rw[g,f];rfl)];show zE L (.both (trN 47 [38,38] [bareT a,(zE L (.level 0) (pl (i+(zK a).length+1))).1])) (zE L (.level 0) (pl (i+(zK a).length+1))).2=_;rw[l2,←f];exact B
     have q:=zLR (y:=trN 47 x.name [bareT a,bareT c]) d j (e.words [124,124] jd);unfold Rn at p q;rw[if_neg (show¬onP L [63,63] (pl (i+(zK a).length))=true from by show¬isT _ _=true;rw[g,f];decide),p];dsimp only;rw[q];dsimp only;rw[if_neg (zCj (e.words [63,63] jd) rfl)]
   · have p:=zGG (y:=bareT a) d o (by rw[g,f];rfl);have C:=zGG (y:=bareT c) d j (e.words [38,38] jd);have q:=zLR (y:=trN 47 x.name [bareT a,bareT c]) d j (e.words [124,124] jd);have D:Rn L (.orL (bareT a)) (i+(zK a).length) (trN 47 x.name [bareT a,bareT c]) (i+(zK a).length+1+(zK c).length):=by
      unfold Rn at l2 C q⊢;rw[zQ d ⟨o,trivial⟩];unfold zD;dsimp only;rw[if_pos (show onP L [124,124] (pl (i+(zK a).length))=true from by show isT _ _=true;rw[g,f];rfl)];show zE L (.orL (trN 47 [124,124] [bareT a,(zE L (.both (zE L (.level 0) (pl (i+(zK a).length+1))).1) (zE L (.level 0) (pl (i+(zK a).length+1))).2).1])) (zE L (.both (zE L (.level 0) (pl (i+(zK a).length+1))).1) (zE L (.level 0) (pl (i+(zK a).length+1))).2).2=_;rw[l2];dsimp only;rw[C,←f];exact q
     unfold Rn at p D;rw[if_neg (show¬onP L [63,63] (pl (i+(zK a).length))=true from by show¬isT _ _=true;rw[g,f];decide),p];dsimp only;rw[D];dsimp only;rw[if_neg (zCj (e.words [63,63] jd) rfl)]
   · have E:Rn L (.nullL (bareT a)) (i+(zK a).length) (trN 47 x.name [bareT a,bareT c]) (i+(zK a).length+1+(zK c).length):=by
      have F:Rn L (.nullL (trN 47 x.name [bareT a,bareT c])) (i+(zK a).length+1+(zK c).length) (trN 47 x.name [bareT a,bareT c]) (i+(zK a).length+1+(zK c).length):=by
       unfold Rn;rw[zQ d ⟨j,trivial⟩];unfold zD;dsimp only;rw[if_neg (zCj (e.words [63,63] jd) rfl)]
      unfold Rn at l2 F⊢;rw[zQ d ⟨o,trivial⟩];unfold zD;dsimp only;rw[if_pos (show onP L [63,63] (pl (i+(zK a).length))=true from by show isT _ _=true;rw[g,f];rfl)];show zE L (.nullL (trN 47 [63,63] [bareT a,(zE L (.level 0) (pl (i+(zK a).length+1))).1])) (zE L (.level 0) (pl (i+(zK a).length+1))).2=_;rw[l2,←f];exact F
     unfold Rn at E;rw[if_pos (show onP L [63,63] (pl (i+(zK a).length))=true from by show isT _ _=true;rw[g,f];rfl),E];dsimp only;have w1:onP L [124,124] (pl (i+(zK a).length+1+(zK c).length))=false:=e.words [124,124] jd;have w2:onP L [38,38] (pl (i+(zK a).length+1+(zK c).length))=false:=e.words [38,38] jd;rw[w1,w2,ji]
 · rw[r,yAL,yAP]at hs;have k:Std L (i+(zK a).length) (x.name::(zK c++b)):=hs.right;obtain⟨_,g2⟩:=t.part d hs;refine zCb g2 (fun w G=>?_);rw[k.is q1];simp only[yAW,List.not_mem_nil,or_false]at G;rcases G with rfl | rfl | rfl
   · exact yAI I
   · exact yAI u
   · exact yAI q8
theorem zMk {s:jE} (h:Std L i (s::b)) (hs:s=[58]∨s=[93]∨s=[41]∨s=[44]):End (zH L i):=zDW h (by rcases hs with rfl | rfl | rfl | rfl<;>decide)
theorem za1 (f:Lst L) (hk:x.kind=48) (r:zL x=true) (l:ExK L a) (s:ExK L c) (t:ExK L d):ExO L (.mk x [a,c,d]):=by
 have hb:bareT (.mk x [a,c,d])=trK 48 [bareT a,bareT c,bareT d]:=by rw[(zBj r (by rw[hk];decide) jo).1,hk,zN,zN,zN,zW]
 have j:prT (.mk x [a,c,d])=zK a++([63]::(zK c++([58]::zK d))):=by rw[zAO,zI,zI,zI,zU];unfold zAh zq;rw[hk];rfl
 refine⟨fun i b hs g=>?_,fun i b hs=>?_,by rw[j];simp;omega⟩
 · rw[j]at hs g⊢;rw[hb];simp only[yAL,yAP]at hs;have e:Std L (i+(zK a).length) ([63]::(zK c++([58]::(zK d++b)))):=hs.right;have m:Std L (i+(zK a).length+1) (zK c++([58]::(zK d++b))):=e.2;have k:Std L (i+(zK a).length+1+(zK c).length) ([58]::(zK d++b)):=m.right;have u:Std L (i+(zK a).length+1+(zK c).length+1) (zK d++b):=k.2;have v:i+(zK a++([63]::(zK c++([58]::zK d)))).length=i+(zK a).length+1+(zK c).length+1+(zK d).length:=by simp;omega
   rw[v]at g⊢;obtain⟨k1,t1⟩:=e.sign jd;have hi:i≤L.length - 1:=by have:=hs.mid;omega
   have o:=yAM e.lt;obtain⟨g1,g2⟩:=l.part f hs;have p:zBJ (zH L (i+(zK a).length))=9:=by
    unfold zBJ;rw[t1];split<;>rfl
   have l1:=zEi f hi o g1 g2 (zRc e jd jd) (by rw[t1];exact fun h=>absurd h.2.1 jd) p;have l2:=s.whole f m (zMk k (.inl rfl));have q:=t.whole f u g;have e1:=zFE f hi o l1 (by rw[e.is jd];rfl) (by rw[e.is jd];rfl) (by rw[e.is jd];rfl);refine zFF f hi ?_ (g2.arr (by rw[e.is jd];rfl)) g.asgn;unfold Rn at e1 l2 q⊢;rw[zQ f ⟨hi,trivial⟩];unfold zD;dsimp only;rw[e1];dsimp only;rw[if_pos (show onP L [63] (pl (i+(zK a).length))=true from by show isT _ _=true;rw[e.is jd];rfl)];rw[show zB (pl (i+(zK a).length))=pl (i+(zK a).length+1)from rfl,l2];dsimp only;have y:zO L [58] (pl (i+(zK a).length+1+(zK c).length))=pl (i+(zK a).length+1+(zK c).length+1):=by
    unfold zO;rw[if_pos (show onP L [58] (pl (i+(zK a).length+1+(zK c).length))=true from by show isT _ _=true;rw[k.is jd];rfl)];rfl
   rw[y,q]
 · rw[j]at hs;simp only[yAL,yAP]at hs;have e:Std L (i+(zK a).length) ([63]::(zK c++([58]::(zK d++b)))):=hs.right;obtain⟨_,g2⟩:=l.part f hs;refine zCb g2 (fun w z=>?_);rw[e.is jd];revert w;decide
theorem zMl (c:Lst L) (l:List Tr) (d:∀x∈l,ExK L x) (hs:Std L i ([40]::(zAS zc (prs l)++([41]::b)))):Rn L .args i (trK 0 (bareL l)) (i+(zAS zc (prs l)).length+2):=by
 have e:Std L (i+1) (zAS zc (prs l)++([41]::b)):=hs.2;have l1:=zMj c (.inl rfl) l d e;unfold Rn at l1⊢;rw[zQ c ⟨yAM hs.lt,hs.lt⟩];unfold zD;dsimp only;have f:zO L [40] (pl i)=pl (i+1):=by
  unfold zO;rw[if_pos (show onP L [40] (pl i)=true from by show isT _ _=true;rw[hs.is jd];rfl)];rfl
 rw[f,l1];simp only[yAU,Ps.mk.injEq,true_and,and_true];omega
theorem za2 (c:Lst L) (hk:x.kind=50) (k:zL x=true) (j:ExK L a) (o:∀t∈l,ExK L t):ExO L (.mk x (a::l)):=by
 have hb:bareT (.mk x (a::l))=trK 50 (bareT a::bareL l):=by rw[(zBj k (by rw[hk];decide) jo).1,hk,zN]
 have g:prT (.mk x (a::l))=zK a++([40]::(zAS zc (prs l)++[[41]])):=by rw[zAO,zI];unfold zAh zq;rw[hk];rfl
 refine⟨fun i b hs e=>?_,fun i b hs=>?_,by rw[g];simp;omega⟩
 · rw[g]at hs e⊢;rw[hb];simp only[yAL,yAP,yAY]at hs;have d:Std L (i+(zK a).length) ([40]::(zAS zc (prs l)++([41]::b))):=hs.right;have p:i+(zK a++([40]::(zAS zc (prs l)++[[41]]))).length=i+(zK a).length+(zAS zc (prs l)).length+2:=by simp;omega
   rw[p]at e⊢;have hi:i≤L.length - 1:=by have:=hs.mid;omega
   have q:=yAM d.lt;have f:i+(zK a).length+(zAS zc (prs l)).length+2≤L.length - 1:=by
    have:=d.le;simp only[yAO,yAN]at this;omega
   obtain⟨g1,g2⟩:=j.part c hs;have l1:=zMl c l o d;have l2:=zDC (y:=trK 50 (bareT a::bareL l)) c f e.m;have c1:Rn L (.callsL (bareT a)) (i+(zK a).length) (trK 50 (bareT a::bareL l)) (i+(zK a).length+(zAS zc (prs l)).length+2):=by
    unfold Rn at l1 l2⊢;rw[zQ c ⟨q,trivial⟩];unfold zD;dsimp only;rw[if_pos (show onP L [40] (pl (i+(zK a).length))=true from by show isT _ _=true;rw[d.is jd];rfl),l1];exact l2
   refine zCk c hi f (zEB c hi (zFD c hi (zHB c hi g1 g2.new_) c1) g2.pre e.post) e (g2.arr (by rw[d.is jd];rfl))
 · rw[g]at hs;simp only[yAL,yAP]at hs;have d:Std L (i+(zK a).length) ([40]::(zAS zc (prs l)++(([41]::[])++b))):=hs.right;obtain⟨_,g2⟩:=j.part c hs;refine zCb g2 (fun w r=>?_);rw[d.is jd];revert w;decide
theorem za3 (c:Lst L) (hk:x.kind=51) (o:zL x=true) (p:ExK L a) (q:∀t∈l,ExK L t):ExO L (.mk x (a::l)):=by
 have hb:bareT (.mk x (a::l))=trK 51 (bareT a::bareL l):=by rw[(zBj o (by rw[hk];decide) jo).1,hk,zN]
 have g:prT (.mk x (a::l))=[110,101,119]::(zK a++([40]::(zAS zc (prs l)++[[41]]))):=by rw[zAO,zI];unfold zAh zq;rw[hk];rfl
 refine⟨fun i b hs e=>?_,fun i b hs=>?_,by rw[g];simp⟩
 · rw[g]at hs e⊢;rw[hb];simp only[yAL,yAP,yAY]at hs;have h1:Std L (i+1) (zK a++([40]::(zAS zc (prs l)++([41]::b)))):=hs.2;have d:Std L (i+1+(zK a).length) ([40]::(zAS zc (prs l)++([41]::b))):=h1.right;have r:i+([110,101,119]::(zK a++([40]::(zAS zc (prs l)++[[41]])))).length=i+1+(zK a).length+(zAS zc (prs l)).length+2:=by simp;omega
   rw[r]at e⊢;have hi:=yAM hs.lt;have j:=hs.lt;have s:=yAM d.lt;have f:i+1+(zK a).length+(zAS zc (prs l)).length+2≤L.length - 1:=by
    have:=d.le;simp only[yAO,yAN]at this;omega
   obtain⟨k0,u⟩:=hs.word jd;obtain⟨g1,g2⟩:=p.part c h1;have k:=zHB c j g1 g2.new_;have l1:=zMl c l q d;have m1:Rn L (.headL (bareT a)) (i+1+(zK a).length) (bareT a) (i+1+(zK a).length):=by
    unfold Rn;rw[zQ c ⟨s,trivial⟩];unfold zD;dsimp only;rw[if_neg (show¬onP L [46] (pl (i+1+(zK a).length))=true from by show¬isT _ _=true;rw[d.is jd];decide),if_neg (show¬onP L [91] (pl (i+1+(zK a).length))=true from by show¬isT _ _=true;rw[d.is jd];decide)]
   have v:Rn L .head i (trK 51 (bareT a::bareL l)) (i+1+(zK a).length+(zAS zc (prs l)).length+2):=by
    unfold Rn at k l1 m1⊢;rw[zQ c ⟨hi,trivial⟩];unfold zD;dsimp only;rw[if_pos (show onP L [110,101,119] (pl i)=true from by show isT _ _=true;rw[hs.is jd];rfl)];rw[show zB (pl i)=pl (i+1)from rfl,k];dsimp only;rw[m1];dsimp only;rw[if_pos (show onP L [40] (pl (i+1+(zK a).length))=true from by show isT _ _=true;rw[d.is jd];rfl),l1];rfl
   have l2:=zDC (y:=trK 51 (bareT a::bareL l)) c f e.m;refine zCk c hi f (zEB c hi (zFD c hi v l2) ?_ e.post) e (zEE hs jd jd);unfold zRV;rw[u];exact⟨fun h=>absurd h.2 jd,fun h=>absurd h.2 jd⟩
 · rw[g,yAP]at hs;exact zDD hs jd jd
theorem za4 (d:Lst L) (hk:x.kind=52) (m:zL x=true) (o:ExK L a):zU9 L (.mk x [a])∧ExF L (.mk x [a])∧0 < (prT (.mk x [a])).length:=by
 have hN:=zCQ m jo jo jo jo;have p:zGL x.name=true:=by
  have:=hN.2.1;rwa[hk]at this
 have hb:bareT (.mk x [a])=trN 52 x.name [bareT a]:=by rw[zDV m jo jo jo jo,hk,zN,zW]
 have f:prT (.mk x [a])=zK a++([46]::[x.name]):=by rw[zAO,zI,zU];unfold zAh zq;rw[hk];rfl
 refine⟨fun i b hs g e=>?_,fun i b hs=>?_,by rw[f];simp⟩
 · rw[f]at hs g e⊢;rw[hb];simp only[yAL,yAP,yAY]at hs;have c:Std L (i+(zK a).length) ([46]::(x.name::b)):=hs.right;have j:Std L (i+(zK a).length+1) (x.name::b):=c.2;have q:i+(zK a++([46]::[x.name])).length=i+(zK a).length+1+1:=by simp;omega
   rw[q]at g e⊢;have hi:i≤L.length - 1:=by have:=hs.mid;omega
   have r:=yAM c.lt;have l:=j.lt;obtain⟨k3,t3⟩:=zU2 p;obtain⟨g1,g2⟩:=o.part d hs;have l2:=zDC (y:=trN 52 x.name [bareT a]) d l g;have c1:Rn L (.callsL (bareT a)) (i+(zK a).length) (trN 52 x.name [bareT a]) (i+(zK a).length+1+1):=by
    unfold Rn at l2⊢;rw[zQ d ⟨r,trivial⟩];unfold zD;dsimp only;rw[if_neg (show¬onP L [40] (pl (i+(zK a).length))=true from by show¬isT _ _=true;rw[c.is jd];decide),if_pos (show onP L [46] (pl (i+(zK a).length))=true from by show isT _ _=true;rw[c.is jd];rfl)];rw[show zB (pl (i+(zK a).length))=pl (i+(zK a).length+1)from rfl];rw[show(pl (i+(zK a).length+1)).k=i+(zK a).length+1 from rfl,j.kind,j.text,t3,jn];exact l2
   exact⟨zFD d hi (zHB d hi g1 g2.new_) c1,g2.pre,g2.arr (by rw[c.is jd];rfl)⟩
 · rw[f]at hs;simp only[yAL,yAP,yAY]at hs;have c:Std L (i+(zK a).length) ([46]::(x.name::b)):=hs.right;obtain⟨_,g2⟩:=o.part d hs;refine zCb g2 (fun w s=>?_);rw[c.is jd];revert w;decide
theorem za5 (e:Lst L) (hk:x.kind=53) (p:zL x=true) (m:ExK L a) (q:ExK L c):zU9 L (.mk x [a,c])∧ExF L (.mk x [a,c])∧0 < (prT (.mk x [a,c])).length:=by
 have hb:bareT (.mk x [a,c])=trK 53 [bareT a,bareT c]:=by rw[(zBj p (by rw[hk];decide) jo).1,hk,zN,zN,zW]
 have g:prT (.mk x [a,c])=zK a++([91]::(zK c++[[93]])):=by rw[zAO,zI,zI,zU];unfold zAh zq;rw[hk];rfl
 refine⟨fun i b hs j f=>?_,fun i b hs=>?_,by rw[g];simp;omega⟩
 · rw[g]at hs j f⊢;rw[hb];simp only[yAL,yAP,yAY]at hs;have d:Std L (i+(zK a).length) ([91]::(zK c++([93]::b))):=hs.right;have o:Std L (i+(zK a).length+1) (zK c++([93]::b)):=d.2;have k:Std L (i+(zK a).length+1+(zK c).length) ([93]::b):=o.right;have r:i+(zK a++([91]::(zK c++[[93]]))).length=i+(zK a).length+1+(zK c).length+1:=by simp;omega
   rw[r]at j f⊢;have hi:i≤L.length - 1:=by have:=hs.mid;omega
   have s:=yAM d.lt;have l:=k.lt;obtain⟨g1,g2⟩:=m.part e hs;have l1:=q.whole e o (zMk k (.inr (.inl rfl)));have l2:=zDC (y:=trK 53 [bareT a,bareT c]) e l j;have c1:Rn L (.callsL (bareT a)) (i+(zK a).length) (trK 53 [bareT a,bareT c]) (i+(zK a).length+1+(zK c).length+1):=by
    unfold Rn at l1 l2⊢;rw[zQ e ⟨s,trivial⟩];unfold zD;dsimp only;rw[if_neg (show¬onP L [40] (pl (i+(zK a).length))=true from by show¬isT _ _=true;rw[d.is jd];decide),if_neg (show¬onP L [46] (pl (i+(zK a).length))=true from by show¬isT _ _=true;rw[d.is jd];decide),if_pos (show onP L [91] (pl (i+(zK a).length))=true from by show isT _ _=true;rw[d.is jd];rfl)];rw[show zB (pl (i+(zK a).length))=pl (i+(zK a).length+1)from rfl,l1];dsimp only;have t:zO L [93] (pl (i+(zK a).length+1+(zK c).length))=pl (i+(zK a).length+1+(zK c).length+1):=by
     unfold zO;rw[if_pos (show onP L [93] (pl (i+(zK a).length+1+(zK c).length))=true from by show isT _ _=true;rw[k.is jd];rfl)];rfl
    rw[t];exact l2
   exact⟨zFD e hi (zHB e hi g1 g2.new_) c1,g2.pre,g2.arr (by rw[d.is jd];rfl)⟩
 · rw[g]at hs;simp only[yAL,yAP,yAY]at hs;have d:Std L (i+(zK a).length) ([91]::(zK c++([93]::b))):=hs.right;obtain⟨_,g2⟩:=m.part e hs;refine zCb g2 (fun w u=>?_);rw[d.is jd];revert w;decide
theorem zOO (d:Lst L) (h:zU9 L t) (f:0 < (prT t).length):ExA L t:=fun i b hs c=>by
 obtain⟨g1,g2,e⟩:=h i b hs c.m (c.words _ jd);have hi:i≤L.length - 1:=by have:=hs.mid;omega
 exact zCk d hi hs.mid (zEB d hi g1 g2 c.post) c e
theorem zYr (f:Lst L) (hg:goodT (.mk x l)=true) (h1:30≤x.kind) (j:x.kind≤37) (hs:Short x):ExO L (.mk x l)∧(x.kind=33→zU9 L (.mk x l)):=by
 obtain⟨s,e,g⟩:=zLS f hg h1 j hs;refine⟨⟨fun i b hs c=>?_,fun i b hs=>?_,by rw[e];simp⟩,fun k i b hs c d=>?_⟩
 · rw[e]at hs c⊢;obtain⟨g1,g2⟩:=g i b hs;exact(zFH g2).all f (yAM hs.lt) hs.lt g1 c
 · rw[e]at hs;obtain⟨g1,g2⟩:=g i b hs;exact⟨g2.k0,g2.close,fun h=>.inl (g2.name h)⟩
 · rw[e]at hs c d⊢;obtain⟨g1,g2⟩:=g i b hs;exact⟨(zFH g2).calls f (yAM hs.lt) hs.lt g1 c,g2.pre,(zFH g2).arr d⟩
end
structure NxT (t:Tok) (d:Bool):Prop where
 fin:isT t [102,105,110,97,108,108,121]=false
 cat:isT t [99,97,116,99,104]=false
 els:d=true→isT t [101,108,115,101]=false
structure StK (L:List Tok) (t:Tr):Prop where
 run:∀i b,Std L i (prT t++b)→NxT (zH L (i+(prT t).length)) (dangT t)→Rn L .item i (bareT t) (i+(prT t).length)∧(zEJ t.nd.kind=true→Rn L .statement i (bareT t) (i+(prT t).length))
 first:∀i b,Std L i (prT t++b)→(zH L i).kind≠0∧NxT (zH L i) true∧isT (zH L i) [125]=false
 pos:0 < (prT t).length
def zRe (L:List Tok) (t:Tr):Prop:=∀i b,Std L i (prT t++b)→Rn L .block i (bareT t) (i+(prT t).length)
section
variable {L:List Tok} {i j:Nat} {b:Tks}
theorem zIq {s:jE} {d:Bool} (h:Std L i (s::b)) (hs:s∈zl++zAB) (h1:s≠[102,105,110,97,108,108,121]) (c:s≠[99,97,116,99,104]) (e:s≠[101,108,115,101]):NxT (zH L i) d:=
 ⟨by rw[h.is hs];exact yAI h1,by rw[h.is hs];exact yAI c,fun _=>by rw[h.is hs];exact yAI e⟩
theorem NxT.any {t:Tok} (h:NxT t true) (d:Bool):NxT t d:=⟨h.fin,h.cat,fun _=>h.els rfl⟩
theorem zBv (h:Std L i (w::b)) (c:w∈zl++zAB):zO L w (pl i)=pl (i+1):=by
 unfold zO;rw[if_pos (show onP L w (pl i)=true from by show isT _ _=true;rw[h.is c];simp)];rfl
theorem zFm {v:jE} (h:Std L i (w::b)) (c:w∈zl++zAB):onP L v (pl i)=decide (w=v):=by
 show isT _ _=_;exact h.is c v
theorem zEj (h:Std L i ([59]::b)):zEK L (pl i)=pl (i+1):=by
 unfold zEK;rw[zFm h jd,if_pos jd];rfl
theorem zDz {s:jE} (h:Std L i (s::b)) (c:zBn s=true):ze L (pl i)=(s,pl (i+1)):=by
 obtain⟨k1,t1⟩:=h.name c;unfold ze;rw[show(pl i).k=i from rfl,if_pos k1,t1];rfl
theorem zCl (t:Tr) (l:List Tr):(prs (t::l)).flatMap (·.2)=prT t++(prs l).flatMap (·.2):=by rw[zI,List.flatMap_cons]
theorem zOP (j:Lst L):∀(l:List Tr) (c:List Tr) (i:Nat) (b:Tks),(∀t∈l,StK L t)→Std L i ((prs l).flatMap (·.2)++([125]::b))→Rn L (.blockL c) i (trK 4 (c++bareL l)) (i+((prs l).flatMap (·.2)).length+1):=by
 intro l
 induction l with
 | nil=>
  intro c i b _ hs;rw[zU]at hs⊢;have g:Std L i ([125]::b):=hs;unfold Rn;rw[zQ j ⟨yAM g.lt,trivial⟩];unfold zD;dsimp only;rw[if_neg js,zFm g jd,if_pos jd,zW,yAS];rfl
 | cons t l o=>
  intro c i b f hs;rw[zCl,yAL]at hs;have d:Std L (i+(prT t).length) ((prs l).flatMap (·.2)++([125]::b)):=hs.right;have k:NxT (zH L (i+(prT t).length)) true:=by
   cases l with
   | nil=>rw[zU]at d;exact zIq (show Std L _ ([125]::b)from d) jd jd jd jd
   | cons u l=>
    rw[zCl,yAL]at d;exact((f u js).first _ _ d).2.1
  have m:=((f t js).run i _ hs (k.any _)).1;have e:=o (c++[bareT t]) _ b (fun u p=>f u (yAV _ p)) d;have q:=(f t js).first i _ hs;have hi:i≤L.length - 1:=by have:=hs.mid;omega
  unfold Rn at m e⊢;rw[zQ j ⟨hi,trivial⟩];unfold zD;dsimp only;rw[if_neg js,if_neg (zCj q.2.2 rfl),m];dsimp only;rw[e,zCl,zN];simp only[yAL,yCD,yAU,Ps.mk.injEq,true_and,and_true,yAN];omega
theorem zYs (c:Lst L) (hk:x.kind=4) (e:zL x=true) (f:∀t∈l,StK L t):zRe L (.mk x l):=by
 intro i b hs;have hb:bareT (.mk x l)=trK 4 (bareL l):=by rw[(zBj e (by rw[hk];decide) jo).1,hk]
 have g:prT (.mk x l)=[123]::((prs l).flatMap (·.2)++[[125]]):=by rw[zAO];unfold zAh zt;rw[hk];rfl
 rw[g]at hs⊢;rw[hb];simp only[yAL,yAP,yAY]at hs;have j:Std L (i+1) ((prs l).flatMap (·.2)++([125]::b)):=hs.2;have d:=zOP c l [] (i+1) b f j;unfold Rn at d⊢;rw[zQ c ⟨yAM hs.lt,trivial⟩];unfold zD;dsimp only;rw[zBv hs jd,d];simp only[yAY,yAU,Ps.mk.injEq,true_and,and_true,yAO,yAN,yBA];omega
structure PrmK (t:Tr):Prop where
 name:zBn t.nd.name=true
 bare:bareT t=trN 20 t.nd.name []
 pr:prT t=[t.nd.name]
theorem zVA (hg:goodT t=true) (hk:t.nd.kind=20):PrmK t:=by
 cases t with
 | mk x l=>
  have b:x.kind=20:=hk;obtain⟨c,d,_⟩:=zCa hg;have hN:=zCQ c jo jo jo jo;obtain rfl:=zJ8 d (by rw[b];rfl);have h1:zBn x.name=true:=by
   have:=hN.2.1;rwa[b]at this
  refine⟨h1,?_,?_⟩
  · rw[zDV c jo jo jo jo,b,zW];rfl
  · rw[zAO];unfold zAh zt;rw[b];rfl
theorem zXk (l:Lst L):∀(r:List Tr) (t:Tr) (d:List Tr) (i:Nat) (b:Tks),(∀x∈t::r,PrmK x)→Std L i (zAS (·.2) (prs (t::r))++([41]::b))→Rn L (.paramL d) i (trK 0 (d++bareL (t::r))) (i+(zAS (·.2) (prs (t::r))).length+1):=by
 intro r
 induction r with
 | nil=>
  intro t d i b k hs;have f:=k t js;have e:zAS (·.2) (prs [t])=[t.nd.name]:=by rw[zI,zU,f.pr];rfl
  rw[e]at hs⊢;have c:Std L i (t.nd.name::([41]::b)):=hs;have g:Std L (i+1) ([41]::b):=c.2;unfold Rn;rw[zQ l ⟨yAM c.lt,trivial⟩];unfold zD;dsimp only;rw[zDz c f.name];dsimp only;rw[if_neg js,zFm g jd,if_pos jd,zN,zW,f.bare];rfl
 | cons u r o=>
  intro t d i b k hs;have f:=k t js;have e:zAS (·.2) (prs (t::u::r))=t.nd.name::([44]::zAS (·.2) (prs (u::r))):=by rw[zI,f.pr,zI];rfl
  rw[e]at hs⊢;have c:Std L i (t.nd.name::([44]::(zAS (·.2) (prs (u::r))++([41]::b)))):=hs;have g:Std L (i+1) ([44]::(zAS (·.2) (prs (u::r))++([41]::b))):=c.2;have p:Std L (i+1+1) (zAS (·.2) (prs (u::r))++([41]::b)):=g.2;have j:=o u (d++[trN 20 t.nd.name []]) _ b (fun x m=>k x (yAV _ m)) p;unfold Rn at j⊢;rw[zQ l ⟨yAM c.lt,trivial⟩];unfold zD;dsimp only;rw[zDz c f.name];dsimp only;rw[if_neg js,zFm g jd,ji,zBv g jd,j,zN t,f.bare];simp only[yAL,yCD,yAU,Ps.mk.injEq,true_and,and_true,yAO];omega
theorem zH2 (d:Lst L) (l:List Tr) (f:∀x∈l,PrmK x) (hs:Std L i (zp (prs l)++b)):Rn L .params i (trK 0 (bareL l)) (i+(zp (prs l)).length):=by
 unfold zp at hs⊢;simp only[yAL,yAP,yAY]at hs;have c:Std L (i+1) (zAS (·.2) (prs l)++([41]::b)):=hs.2;unfold Rn;rw[zQ d ⟨yAM hs.lt,trivial⟩];unfold zD;dsimp only;rw[zBv hs jd];cases l with
 | nil=>
  have m:Std L (i+1) ([41]::b):=by rw[zU]at c;exact c
  rw[zFm m jd,if_pos jd,zU,zW];rfl
 | cons t r=>
  have g:=zXk d r t [] (i+1) b f c;have j:onP L [41] (pl (i+1))=false:=by
   have k:=f t js;have e:∃q,zAS (·.2) (prs (t::r))=t.nd.name::q:=by rw[zI,k.pr];exact⟨_,rfl⟩
   obtain⟨q,o⟩:=e;rw[o]at c;obtain⟨k1,_⟩:=(show Std L (i+1) (t.nd.name::(q++([41]::b)))from c).name k.name;show isT (zH L (i+1)) [41]=false;unfold isT;rw[k1];simp
  unfold Rn at g;rw[j,ji,g];simp only[yAY,yAU,Ps.mk.injEq,true_and,and_true,yAO,yAN,yBA];omega
theorem zIr (d:Lst L) {n:jE} (e:∀x∈l,PrmK x) (f:zRe L c) (hs:Std L i (zp (prs l)++(prT c++b))):Rn L (.func k n) i (trN k n (bareL l++[bareT c])) (i+(zp (prs l)).length+(prT c).length):=by
 have g:Std L (i+(zp (prs l)).length) (prT c++b):=hs.right;have r1:=zH2 d l e hs;have r2:=f _ _ g;have hi:i≤L.length - 1:=by have:=hs.mid;omega
 unfold Rn at r1 r2⊢;rw[zQ d ⟨hi,trivial⟩];unfold zD;dsimp only;rw[r1];dsimp only;rw[r2];rfl
theorem zDE (l:List Tr) (c:Tr):(prs (l++[c])).dropLast=prs l∧(kd (prs (l++[c])) ((prs (l++[c])).length - 1))=(c.nd.kind,prT c):=by
 have e:prs (l++[c])=prs l++[(c.nd.kind,prT c)]:=by rw[zCK,zCK,yCR];rfl
 rw[e];refine⟨by simp,?_⟩;unfold kd;simp
theorem zOQ:∀(r:List Tr) (t:Tr) (i:Nat) (b:Tks) (f:Nat),(∀x∈t::r,PrmK x)→Std L i (zAS (·.2) (prs (t::r))++([41]::b))→r.length < f→zEQ L f i=some (i+(zAS (·.2) (prs (t::r))).length):=by
 intro r
 induction r with
 | nil=>
  intro t i b f j hs k;obtain⟨f,rfl⟩:∃g,f=g+1:=⟨f - 1,by simp at k;omega⟩;have d:=j t js;have e:zAS (·.2) (prs [t])=[t.nd.name]:=by rw[zI,zU,d.pr];rfl
  rw[e]at hs⊢;have c:Std L i (t.nd.name::([41]::b)):=hs;have l:Std L (i+1) ([41]::b):=c.2;unfold zEQ;rw[if_pos (c.name d.name).1,l.is jd,ji];rfl
 | cons u r p=>
  intro t i b f j hs k;obtain⟨f,rfl⟩:∃g,f=g+1:=⟨f - 1,by simp at k;omega⟩;have d:=j t js;have e:zAS (·.2) (prs (t::u::r))=t.nd.name::([44]::zAS (·.2) (prs (u::r))):=by rw[zI,d.pr,zI];rfl
  rw[e]at hs⊢;have c:Std L i (t.nd.name::([44]::(zAS (·.2) (prs (u::r))++([41]::b)))):=hs;have l:Std L (i+1) ([44]::(zAS (·.2) (prs (u::r))++([41]::b))):=c.2;have q:Std L (i+2) (zAS (·.2) (prs (u::r))++([41]::b)):=l.2;have m:=p u (i+2) b f (fun x o=>j x (yAV _ o)) q (by simp at k;omega);unfold zEQ;rw[if_pos (c.name d.name).1,l.is jd,if_pos jd,m];simp only[yAO,yCE];omega
theorem zRf:∀(r:List Tr) (t:Tr),(∀x∈t::r,PrmK x)→r.length < (zAS (·.2) (prs (t::r))).length:=by
 intro r
 induction r with
 | nil=>intro t b;rw[zI,zU,(b t js).pr];simp[zAS,zGS]
 | cons u r d=>
  intro t b;have:=d u (fun x c=>b x (yAV _ c));have e:zAS (·.2) (prs (t::u::r))=t.nd.name::([44]::zAS (·.2) (prs (u::r))):=by rw[zI,(b t js).pr,zI];rfl
  rw[e];simp only[yAO]at this⊢;omega
theorem zOR (f:∀x∈l,PrmK x) (hs:Std L i (zp (prs l)++([61,62]::b))):zAb L (pl i)=true:=by
 unfold zp at hs;simp only[yAL,yAP,yAY]at hs;have c:Std L (i+1) (zAS (·.2) (prs l)++([41]::([61,62]::b))):=hs.2;unfold zAb;rw[zFm hs jd];rw[show(pl i).k+1=i+1 from rfl];cases l with
 | nil=>
  have d:Std L (i+1) ([41]::([61,62]::b)):=by rw[zU]at c;exact c
  have g:Std L (i+1+1) ([61,62]::b):=d.2;rw[d.is jd,if_pos jd];unfold zBs;rw[d.is jd,g.is jd];rfl
 | cons t r=>
  have j:=f t js;have d:Std L (i+1+(zAS (·.2) (prs (t::r))).length) ([41]::([61,62]::b)):=c.right;have g:Std L (i+1+(zAS (·.2) (prs (t::r))).length+1) ([61,62]::b):=d.2;have s:=c.mid;have o:=zRf r t f;have hN:=zOQ r t (i+1) _ L.length f c jo;have m:isT (zH L (i+1)) [41]=false:=by
   have e:∃q,zAS (·.2) (prs (t::r))=t.nd.name::q:=by rw[zI,j.pr];exact⟨_,rfl⟩
   obtain⟨q,p⟩:=e;rw[p]at c;obtain⟨k1,_⟩:=(show Std L (i+1) (t.nd.name::(q++_))from c).name j.name;unfold isT;rw[k1];simp
  rw[m,ji,hN];unfold zBs;dsimp only;rw[d.is jd,g.is jd];rfl
end
section
variable {L:List Tok} {i j:Nat} {b:Tks}
theorem zRg {s:jE} (h:Std L i (s::b)) (hs:s∈zl++zAB) (d:s∉zHe∧s∉zDa) (c:s≠[110,101,119]∧s≠[41]∧s≠[93]∧s≠[40]) (e:i < j):Part L i j:=by
 obtain⟨t1,t2⟩:=h.text2 hs;exact⟨by omega,⟨fun h=>d.1 (by rw[←t1];exact h.2),fun h=>d.2 (by rw[←t1];exact h.2)⟩,by rw[h.is hs];exact yAI c.1,by rw[h.is hs];exact yAI c.2.1,by rw[h.is hs];exact yAI c.2.2.1,e,fun _=>zEE h hs c.2.2.2,fun h=>by omega⟩
theorem zRh (g:Lst L) {s:jE} {r:Tks} (e:prT t=s::r) (hs:s∈zl++zAB) (j:s∉zHe∧s∉zDa) (f:s≠[110,101,119]∧s≠[41]∧s≠[93]∧s≠[40]) (h:∀i b,Std L i (prT t++b)→Rn L .primary i (bareT t) (i+(prT t).length)):ExO L t:=by
 have k:0 < (prT t).length:=by rw[e];simp
 refine⟨fun i b c l=>?_,fun i b c=>?_,k⟩
 · have d:=c;rw[e,yAP]at d;exact(zRg d hs j f jo).all g (yAM d.lt) c.mid (h i b c) l
 · rw[e,yAP]at c;exact zDD c hs f.2.1
theorem zVB (h:Std L i ([91]::b)):zD L (zE L) .primary (pl i)=(trK 38 (zE L (.list [93]) (pl (i+1))).1.subs,(zE L (.list [93]) (pl (i+1))).2):=by
 obtain⟨k1,t1⟩:=h.sign jd;unfold zD;dsimp only;rw[k1,ji,ji,ji,ji,ji,t1,ji,ji,ji,ji,if_pos rfl];rfl
theorem zVC (h:Std L i ([123]::b)):zD L (zE L) .primary (pl i)=zE L .object (pl (i+1)):=by
 obtain⟨k1,t1⟩:=h.sign jd;unfold zD;dsimp only;rw[k1,ji,ji,ji,ji,ji,t1,ji,ji,ji,ji,ji,if_pos rfl];rfl
theorem zVD (h:Std L i ([102,117,110,99,116,105,111,110]::b)):zD L (zE L) .primary (pl i)=(if(zH L (i+1)).kind=1 then zE L (.func 41 (ze L (pl (i+1))).1) (ze L (pl (i+1))).2 else zE L (.func 41 []) (pl (i+1))):=by
 obtain⟨k1,t1⟩:=h.word jd;unfold zD;dsimp only;rw[k1,ji,ji,ji,ji,ji,t1,ji,ji,ji,ji,ji,ji,if_pos rfl];rfl
theorem za6 (c:Lst L) (hk:x.kind=38) (e:zL x=true) (f:∀t∈l,ExK L t):ExO L (.mk x l):=by
 have hb:bareT (.mk x l)=trK 38 (bareL l):=by rw[(zBj e (by rw[hk];decide) jo).1,hk]
 have d:prT (.mk x l)=[91]::(zAS zc (prs l)++[[93]]):=by rw[zAO];unfold zAh zq;rw[hk];rfl
 refine zRh c d jd jd jd fun i b hs=>?_;rw[d]at hs⊢;rw[hb];simp only[yAL,yAP,yAY]at hs;have r:=zMj c (.inr rfl) l f (show Std L (i+1) (zAS zc (prs l)++([93]::b))from hs.2);unfold Rn at r⊢;rw[zBW c (yAM hs.lt),zVB hs,r];simp only[yAO,yAN,yBA,yAU,Ps.mk.injEq,and_true];exact⟨rfl,by omega⟩
structure PrpK (L:List Tok) (t:Tr):Prop where
 run:∀i b,Std L i (prT t++b)→End (zH L (i+(prT t).length))→Rn L .prop i (bareT t) (i+(prT t).length)
 first:∀i b,Std L i (prT t++b)→isT (zH L i) [125]=false
theorem zXl (h:zL x=true) (hk:x.kind=40):({x with kids:=[]}:Nd)={zB6 with kind:=40,str:=x.str}∧x.str.length≤4096:=by
 obtain⟨k,n,u,nk,nn,g,m,ks⟩:=x;simp only at hk;subst hk;unfold zL at h;simp only at h;split at h
 · cases h
 split at h
 · cases h
 split at h
 · cases h
 split at h
 · cases h
 rename_i a0 a1 a2 a3
 simp at a2 a3 h;obtain⟨rfl,rfl⟩:=a2;obtain⟨rfl,rfl⟩:=a3;obtain⟨rfl,b⟩:=h;exact⟨rfl,b⟩
theorem za7 (d:Lst L) (hk:x.kind=40) (g:zL x=true) (j:ExK L a):PrpK L (.mk x [a]):=by
 obtain⟨f1,k⟩:=zXl g hk;have hb:bareT (.mk x [a])=.mk {zB6 with kind:=40,str:=x.str} [bareT a]:=by rw[zCX,f1,zN,zW]
 have e:prT (.mk x [a])=zFq x.str::[58]::zK a:=by rw[zAO,zI,zU];unfold zAh zq;rw[hk];rfl
 have l:=zMh k;have tok:∀{i:Nat} {r:Tks},Std L i (zFq x.str::r)→(zH L i).kind=4∧(zH L i).str=x.str:=by
  intro i r h;obtain⟨e1,_,e3,_,_,_⟩:=h.1.1;rw[l]at e1 e3;exact⟨e1.symm,e3.symm⟩
 refine⟨fun i b hs c=>?_,fun i b hs=>?_⟩
 · rw[e]at hs c⊢;rw[hb];simp only[yAP]at hs;have f:Std L (i+1) ([58]::(zK a++b)):=hs.2;have m:Std L (i+1+1) (zK a++b):=f.2;have o:i+(zFq x.str::[58]::zK a).length=i+1+1+(zK a).length:=by simp;omega
   rw[o]at c⊢;have r:=j.whole d m c;obtain⟨t1,t2⟩:=tok hs;unfold Rn at r⊢;rw[zQ d ⟨yAM hs.lt,trivial⟩];unfold zD;dsimp only;unfold zBS;rw[if_pos t1,t2];dsimp only;rw[if_neg (fun h=>by omega),zAj,zBv f jd,r]
 · rw[e,yAP]at hs;obtain⟨t1,_⟩:=tok hs;unfold isT;rw[t1];simp
theorem zVE (k:Lst L):∀(r:List Tr) (t:Tr) (c:List Tr) (i:Nat) (b:Tks),(∀x∈t::r,PrpK L x)→Std L i (zAS (·.2) (prs (t::r))++([125]::b))→Rn L (.objL c) i (trK 39 (c++bareL (t::r))) (i+(zAS (·.2) (prs (t::r))).length+1):=by
 intro r
 induction r with
 | nil=>
  intro t c i b j hs;have e:zAS (·.2) (prs [t])=prT t:=by rw[zI,zU];show prT t++[]=_;rw[yAS]
  rw[e]at hs⊢;have d:Std L (i+(prT t).length) ([125]::b):=hs.right;have f:=(j t js).run i _ hs (zDW d jd);have hi:i≤L.length - 1:=by have:=hs.mid;omega
  unfold Rn at f⊢;rw[zQ k ⟨hi,trivial⟩];unfold zD;dsimp only;rw[f];dsimp only;rw[if_neg js,zFm d jd,if_pos jd,zN,zW];rfl
 | cons u r m=>
  intro t c i b j hs;have e:zAS (·.2) (prs (t::u::r))=prT t++([44]::zAS (·.2) (prs (u::r))):=by rw[zI,zI];rfl
  rw[e,yAL,yAP]at hs;rw[e];have d:Std L (i+(prT t).length) ([44]::(zAS (·.2) (prs (u::r))++([125]::b))):=hs.right;have f:=(j t js).run i _ hs (zDW d jd);have hi:i≤L.length - 1:=by have:=hs.mid;omega
  have g:=m u (c++[bareT t]) _ b (fun x l=>j x (yAV _ l)) d.2;unfold Rn at f g⊢;rw[zQ k ⟨hi,trivial⟩];unfold zD;dsimp only;rw[f];dsimp only;rw[if_neg js,zFm d jd,ji,zBv d jd,g,zN t];simp only[yAL,yCD,yAU,Ps.mk.injEq,true_and,and_true,yAN,yAO];omega
theorem za8 (d:Lst L) (hk:x.kind=39) (m:zL x=true) (e:∀t∈l,PrpK L t):ExO L (.mk x l):=by
 have hb:bareT (.mk x l)=trK 39 (bareL l):=by rw[(zBj m (by rw[hk];decide) jo).1,hk]
 have f:prT (.mk x l)=[123]::(zAS (·.2) (prs l)++[[125]]):=by rw[zAO];unfold zAh zq;rw[hk];rfl
 refine zRh d f jd jd jd fun i b hs=>?_;rw[f]at hs⊢;rw[hb];simp only[yAL,yAP,yAY]at hs;have c:Std L (i+1) (zAS (·.2) (prs l)++([125]::b)):=hs.2;have g:i+1≤L.length - 1:=by have:=c.mid;omega
 unfold Rn;rw[zBW d (yAM hs.lt),zVC hs,zQ d ⟨g,trivial⟩];unfold zD;dsimp only;cases l with
 | nil=>
  rw[zU]at c;rw[zFm (show Std L (i+1) ([125]::b)from c) jd,if_pos jd,zW,zU];rfl
 | cons t r=>
  have j:=zVE d r t [] (i+1) b e c;have k:¬onP L [125] (pl (i+1))=true:=by
   have o:Std L (i+1) (prT t++(zGS (·.2) (prs r)++([125]::b))):=by
    rw[zI]at c;have:zAS (·.2) ((t.nd.kind,prT t)::prs r)=prT t++zGS (·.2) (prs r):=rfl;rw[this,yAL]at c;exact c
   exact zCj ((e t js).first _ _ o) rfl
  unfold Rn at j;rw[if_neg k,j];simp only[yAY,yAO,yAN,yBA,yAU,Ps.mk.injEq,true_and,and_true];omega
theorem zXm:∀(m:Nat) (l:List Tr) (a:Nat),(List.replicate m 6++[a]).length≤l.length→zFz (List.replicate m 6++[a]) 0 (zBy l)=true→∃ps c,l=ps++[c]∧(∀t∈ps,t.nd.kind=20)∧zAd a c.nd.kind=true:=by
 intro m
 induction m with
 | zero=>
  intro l a b h;obtain⟨t,q,rfl,d,_,e⟩:=zAs b h;obtain rfl:=zCG e;exact⟨[],t,rfl,fun t h=>(by cases h),d⟩
 | succ m g=>
  intro l a b h;rw[List.replicate_succ,yAP]at b h;obtain⟨t,q,rfl,d,j,e⟩:=zAs b h;obtain⟨ps,c,rfl,h6,k⟩:=g q a j e;refine⟨t::ps,c,rfl,fun u f=>?_,k⟩;rcases yAW.1 f with rfl | f
  · unfold zAd at d;simpa using d
  · exact h6 u f
theorem za9 (g:Lst L) (hk:x.kind=41) (o:zL x=true) (p:∀t∈l,PrmK t) (q:zRe L c):ExO L (.mk x (l++[c])):=by
 have hN:=zCQ o jo jo jo jo;have s:x.name=[]∨zBn x.name=true:=by
  have:=hN.2.1;rw[hk]at this;unfold zC4 at this;rw[ji,if_pos jd,yBU]at this;exact this.imp yBF id
 have hb:bareT (.mk x (l++[c]))=trN 41 x.name (bareL l++[bareT c]):=by rw[zDV o jo jo jo jo,hk,zG9,zN,zW]
 have r:prT (.mk x (l++[c]))=[102,117,110,99,116,105,111,110]::(zAl x.name++(zp (prs l)++prT c)):=by
  rw[zAO];unfold zAh zq;rw[hk];show zFS x (prs (l++[c]))=_;unfold zFS;rw[(zDE l c).1,(zDE l c).2]
 refine zRh g r jd jd jd fun i b hs=>?_;rw[r]at hs⊢;rw[hb];simp only[yAL,yAP]at hs;unfold Rn;rw[zBW g (yAM hs.lt),zVD hs]
 by_cases j:x.name=[]
 · have d:Std L (i+1) (zp (prs l)++(prT c++b)):=by
    have h:=hs.2;rw[j]at h;exact h
   have u:Std L (i+1) ([40]::(zAS (·.2) (prs l)++[[41]]++(prT c++b))):=d;have f:=zIr g (k:=41) (n:=[]) p q d;obtain⟨k1,_⟩:=u.sign jd;unfold Rn at f;rw[jn,f,j];simp only[zAl,if_true,yAY,yAO,yAN,yAU,Ps.mk.injEq,true_and,and_true];omega
 · have m:=s.resolve_left j;have e:zAl x.name=[x.name]:=by unfold zAl;rw[if_neg j]
   have d:Std L (i+1) (x.name::(zp (prs l)++(prT c++b))):=by
    have h:=hs.2;rw[e]at h;exact h
   have f:=zIr g (k:=41) (n:=x.name) p q (show Std L (i+1+1) (zp (prs l)++(prT c++b))from d.2);obtain⟨k1,_⟩:=d.name m;unfold Rn at f;rw[if_pos k1,zDz d m];dsimp only;rw[f,e];simp only[yAO,yAN,yCD,yAU,Ps.mk.injEq,true_and,and_true];omega
theorem zbA (f:Lst L) (hk:x.kind=42) (y:zL x=true) (p:∀t∈l,PrmK t) (z:(c.nd.kind=4∧zRe L c∧∃r,prT c=[123]::r)∨(c.nd.kind≠4∧ExK L c)):ExO L (.mk x (l++[c])):=by
 have hb:bareT (.mk x (l++[c]))=trK 42 (bareL l++[bareT c]):=by rw[(zBj y (by rw[hk];decide) jo).1,hk,zG9,zN,zW]
 obtain⟨q,d⟩:=jx ((if c.nd.kind=4 then prT c else inP (prT c)));have k:prT (.mk x (l++[c]))=zp (prs l)++([61,62]::q):=by
  rw[zAO];unfold zAh zq;rw[hk];show zEo (prs (l++[c]))=_;unfold zEo;rw[(zDE l c).1,(zDE l c).2,←d]
 refine⟨fun i b hs m=>?_,fun i b hs=>?_,by rw[k];simp;omega⟩
 · rw[k]at hs m⊢;rw[hb];simp only[yAL,yAP]at hs;have s:Std L i ([40]::(zAS (·.2) (prs l)++[[41]]++([61,62]::(q++b)))):=hs;have g:Std L (i+(zp (prs l)).length) ([61,62]::(q++b)):=hs.right;have e:Std L (i+(zp (prs l)).length+1) (q++b):=g.2;have A:i+(zp (prs l)++[61,62]::q).length=i+(zp (prs l)).length+1+q.length:=by simp;omega
   rw[A]at m⊢;have r1:=zH2 f l p hs;have B:=zOR p hs;obtain⟨k1,_⟩:=s.sign jd;have j:zE L (.body (bareL l)) (pl (i+(zp (prs l)).length))=(trK 42 (bareL l++[bareT c]),pl (i+(zp (prs l)).length+1+q.length)):=by
    rw[zQ f ⟨yAM g.lt,trivial⟩];unfold zD;dsimp only;rw[g.nl];simp only[yCF,if_false];rw[zBv g jd];rcases z with⟨c4,C,r,D⟩ | ⟨c4,E⟩
    · rw[if_pos c4]at d;subst d;have u:=C _ _ e;have o:Std L (i+(zp (prs l)).length+1) ([123]::(r++b)):=by rw[D]at e;exact e
      unfold Rn at u;rw[zFm o jd,if_pos jd,u]
    · rw[if_neg c4]at d;subst d;have v:=E.brackA f e m;have o:Std L (i+(zp (prs l)).length+1) ([40]::(prT c++[[41]]++b)):=e;unfold Rn at v;rw[zFm o jd,ji,v]
   unfold Rn at r1⊢;rw[zQ f ⟨yAM s.lt,trivial⟩];unfold zD;dsimp only;rw[if_neg (fun h=>by omega),if_pos B,r1];exact j
 · rw[k]at hs;exact zDD (show Std L i ([40]::(zAS (·.2) (prs l)++[[41]]++([61,62]::q)++b))from by simpa [zp]using hs) jd jd
end
section
variable {L:List Tok} {i j:Nat} {b:Tks}
theorem zDZ {v:jE} (h:Std L i (w::b)) (d:w∈zl++zAB) (c:w≠v):onP L v (pl i)=false:=by
 rw[zFm h d];exact yAI c
theorem zCx (h:Std L i (w::b)) (c:w∈zl++zAB):onP L w (pl i)=true:=by
 rw[zFm h c];exact yBE rfl
theorem zRi (b:Lst L) (hi:i≤L.length - 1) (h1:onP L [108,101,116] (pl i)=false) (c:onP L [99,111,110,115,116] (pl i)=false) (d:onP L [102,117,110,99,116,105,111,110] (pl i)=false) (r:Rn L .statement i y j):Rn L .item i y j:=by
 unfold Rn at r⊢;rw[zQ b ⟨hi,trivial⟩];unfold zD;dsimp only;rw[h1,c,d,ji,ji,r]
theorem zF2 (k:Lst L) {s:jE} {r:Tks} (f:prT t=s::r) (hs:s∈zl++zAB) (j:s≠[108,101,116]∧s≠[99,111,110,115,116]∧s≠[102,117,110,99,116,105,111,110]) (d:s≠[102,105,110,97,108,108,121]∧s≠[99,97,116,99,104]∧s≠[101,108,115,101]∧s≠[125])
 (h:∀i b,Std L i (s::(r++b))→NxT (zH L (i+(s::r).length)) (dangT t)→Rn L .statement i (bareT t) (i+(s::r).length)):StK L t:=by
 refine⟨fun i b c e=>?_,fun i b c=>?_,by rw[f];simp⟩
 · rw[f]at c e⊢;rw[yAP]at c;have g:=h i b c e;exact⟨zRi k (yAM c.lt) (zDZ c hs j.1) (zDZ c hs j.2.1) (zDZ c hs j.2.2) g,fun _=>g⟩
 · rw[f,yAP]at c;obtain⟨_,t2⟩:=c.text2 hs;exact⟨by omega,zIq c hs d.1 d.2.1 d.2.2.1,by rw[c.is hs];exact yAI d.2.2.2⟩
theorem zDR (c:Lst L) (h:Std L i (w::b)) (d:w∈zAB) (r:zE L (.word w) (pl i)=(y,pl j)):Rn L .statement i y j:=by
 obtain⟨k1,t1⟩:=h.word d;unfold Rn;rw[zQ c ⟨yAM h.lt,trivial⟩];unfold zD;dsimp only;rw[if_neg (fun h=>by omega),if_pos k1,t1,r]
theorem zDS (c:Lst L) (h:Std L i (w::b)):zE L (.word w) (pl i)=zD L (zE L) (.word w) (pl i):=zQ c ⟨yAM h.lt,h.lt⟩
theorem zbB (c:Lst L) (hk:x.kind=2) (d:zL x=true) (e:l=[]):StK L (.mk x l):=by
 subst e;have hb:bareT (.mk x [])=trK 2 []:=by rw[(zBj d (by rw[hk];decide) jo).1,hk,zW]
 have f:prT (.mk x [])=[59]::[]:=by rw[zAO];unfold zAh zt;rw[hk];rfl
 refine zF2 c f jd jd jd fun i b hs _=>?_;rw[hb];obtain⟨k1,_⟩:=hs.sign jd;unfold Rn;rw[zQ c ⟨yAM hs.lt,trivial⟩];unfold zD;dsimp only;rw[if_neg (fun h=>by omega),jn,zCx hs jd,if_pos rfl];rfl
theorem zbC (c:Lst L) (hk:x.kind=3) (f:zL x=true) (g:ExK L a):StK L (.mk x [a]):=by
 have hb:bareT (.mk x [a])=trK 3 [bareT a]:=by rw[(zBj f (by rw[hk];decide) jo).1,hk,zN,zW]
 have j:prT (.mk x [a])=[40]::(prT a++[[41],[59]]):=by
  rw[zAO,zI,zU];unfold zAh zt;rw[hk];show inP (prT a)++[[59]]=_;unfold inP;simp
 refine zF2 c j jd jd jd fun i b hs _=>?_;rw[hb];have d:Std L i (inP (prT a)++([59]::b)):=by unfold inP;simpa using hs
 have e:Std L (i+(inP (prT a)).length) ([59]::b):=d.right;have r:=g.brackA c d (zDW e jd);obtain⟨k1,_⟩:=hs.sign jd;unfold Rn at r⊢;rw[zQ c ⟨yAM hs.lt,trivial⟩];unfold zD;dsimp only;rw[if_neg (fun h=>by omega),jn,zDZ hs jd jd,zDZ hs jd jd,ji,ji,zQ c ⟨yAM hs.lt,trivial⟩];unfold zD;dsimp only;rw[r];dsimp only;rw[zEj e];simp only[inP,yAO,yAN,yBA,yAU,Ps.mk.injEq,true_and,and_true];omega
theorem zMm (hk:x.kind=4):prT (.mk x l)=[123]::((prs l).flatMap (·.2)++[[125]]):=by
 rw[zAO];unfold zAh zt;rw[hk];rfl
theorem zbD (c:Lst L) (hk:x.kind=4) (h:zRe L (.mk x l)):StK L (.mk x l):=by
 refine zF2 c (zMm hk) jd jd jd fun i b hs _=>?_;have r:=h i b (by rw[zMm hk];exact hs);rw[zMm hk]at r;obtain⟨k1,_⟩:=hs.sign jd;unfold Rn at r⊢;rw[zQ c ⟨yAM hs.lt,trivial⟩];unfold zD;dsimp only;rw[if_neg (fun h=>by omega),jn,zDZ hs jd jd,zCx hs jd,ji,if_pos rfl,r]
structure DclK (L:List Tok) (t:Tr):Prop where
 run:∀i b w,Std L i (prT t++(w::b))→w=[44]∨w=[59]→(let n:=ze L (pl i);if onP L [61] n.2=true then(trN 7 n.1 [(zE L .assign (zB n.2)).1],(zE L .assign (zB n.2)).2)else(trN 7 n.1 [],n.2))=(bareT t,pl (i+(prT t).length))
theorem d_7 (k:Lst L) (hk:x.kind=7) (f:zL x=true) (m:l=[]∨∃a,l=[a]∧ExK L a):DclK L (.mk x l):=by
 have hN:=zCQ f jo jo jo jo;have g:zBn x.name=true:=by
  have:=hN.2.1;rwa[hk]at this
 have hb:bareT (.mk x l)=trN 7 x.name (bareL l):=by rw[zDV f jo jo jo jo,hk]
 refine⟨fun i b w hs o=>?_⟩;rw[hb];have c:w∈zZC∧w∈zl++zAB∧w≠[61]:=by rcases o with rfl | rfl<;>decide
 rcases m with rfl | ⟨a,rfl,p⟩
 · have e:prT (.mk x [])=[x.name]:=by rw[zAO,zU];unfold zAh zt;rw[hk];rfl
   rw[e]at hs⊢;have h1:Std L i (x.name::(w::b)):=hs;have d:Std L (i+1) (w::b):=h1.2;rw[zDz h1 g];dsimp only;rw[zDZ d c.2.1 c.2.2,ji,zW];rfl
 · have e:prT (.mk x [a])=x.name::[61]::inP (prT a):=by rw[zAO,zI,zU];unfold zAh zt;rw[hk];rfl
   rw[e]at hs⊢;have h1:Std L i (x.name::([61]::(inP (prT a)++(w::b)))):=hs;have d:Std L (i+1) ([61]::(inP (prT a)++(w::b))):=h1.2;have j:Std L (i+1+1) (inP (prT a)++(w::b)):=d.2;have q:Std L (i+1+1+(inP (prT a)).length) (w::b):=j.right;have r:=p.brackA k j (zDW q c.1);unfold Rn at r;rw[zDz h1 g];dsimp only;rw[zCx d jd,if_pos rfl,zAj,r,zN,zW];simp only[yAO,yAU,Ps.mk.injEq,true_and,and_true];omega
theorem zKA (l:Lst L):∀(r:List Tr) (t:Tr) (c:List Tr) (i:Nat) (b:Tks),(∀x∈t::r,DclK L x)→Std L i (zAS (·.2) (prs (t::r))++([59]::b))→Rn L (.declL k c) i (trK k (c++bareL (t::r))) (i+(zAS (·.2) (prs (t::r))).length):=by
 intro r
 induction r with
 | nil=>
  intro t c i b g hs;have e:zAS (·.2) (prs [t])=prT t:=by rw[zI,zU];show prT t++[]=_;rw[yAS]
  rw[e]at hs⊢;have j:Std L (i+(prT t).length) ([59]::b):=hs.right;have d:=(g t js).run i _ _ hs (.inr rfl);have hi:i≤L.length - 1:=by have:=hs.mid;omega
  dsimp only at d;unfold Rn;rw[zQ l ⟨hi,trivial⟩];unfold zD;dsimp only;rw[d];dsimp only;rw[if_neg js,zDZ j jd jd,ji,zN,zW]
 | cons u r o=>
  intro t c i b g hs;have e:zAS (·.2) (prs (t::u::r))=prT t++([44]::zAS (·.2) (prs (u::r))):=by rw[zI,zI];rfl
  rw[e,yAL,yAP]at hs;rw[e];have j:Std L (i+(prT t).length) ([44]::(zAS (·.2) (prs (u::r))++([59]::b))):=hs.right;have d:=(g t js).run i _ _ hs (.inl rfl);have hi:i≤L.length - 1:=by have:=hs.mid;omega
  have f:=o u (c++[bareT t]) _ b (fun x m=>g x (yAV _ m)) j.2;dsimp only at d;unfold Rn at f⊢;rw[zQ l ⟨hi,trivial⟩];unfold zD;dsimp only;rw[d];dsimp only;rw[if_neg js,zCx j jd,if_pos rfl,zAj,f,zN t];simp only[yAL,yCD,yAU,Ps.mk.injEq,true_and,and_true,yAN,yAO];omega
theorem zFw (c:Lst L) (hk:x.kind=5∨x.kind=6) (d:∀u∈t::l,DclK L u) (hs:Std L i (zBI x (prs (t::l))++([59]::b))):Rn L .declares i (trK x.kind (bareL (t::l))) (i+(zBI x (prs (t::l))).length)∧(onP L [108,101,116] (pl i) || onP L [99,111,110,115,116] (pl i))=true:=by
 unfold zBI at hs⊢;rcases hk with hk | hk
 · rw[hk,ji]at hs⊢;have h1:Std L i ([108,101,116]::(zAS (·.2) (prs (t::l))++([59]::b))):=hs;have r:=zKA c (k:=5) l t [] (i+1) b d h1.2;unfold Rn at r⊢;refine⟨?_,by rw[zCx h1 jd];rfl⟩;rw[zQ c ⟨yAM h1.lt,trivial⟩];unfold zD;dsimp only;rw[zDZ h1 jd jd,ji,zBv h1 jd,r];simp only[yAY,yAO,yAU,Ps.mk.injEq,true_and,and_true];omega
 · rw[hk,if_pos rfl]at hs⊢;have h1:Std L i ([99,111,110,115,116]::(zAS (·.2) (prs (t::l))++([59]::b))):=hs;have r:=zKA c (k:=6) l t [] (i+1) b d h1.2;unfold Rn at r⊢;refine⟨?_,by rw[zCx h1 jd];simp⟩;rw[zQ c ⟨yAM h1.lt,trivial⟩];unfold zD;dsimp only;rw[zCx h1 jd,if_pos rfl,zAj,r];simp only[yAY,yAO,yAU,Ps.mk.injEq,true_and,and_true];omega
theorem zVF (x:Nd) (ks:List Kd):∃w r,zBI x ks=w::r∧(w=[108,101,116]∨w=[99,111,110,115,116]):=by
 unfold zBI
 by_cases h:x.kind=6
 · rw[if_pos h];exact⟨_,_,rfl,.inr rfl⟩
 · rw[if_neg h];exact⟨_,_,rfl,.inl rfl⟩
theorem zad (f:Lst L) (hk:x.kind=5∨x.kind=6) (k:zL x=true) (m:∀u∈t::l,DclK L u):StK L (.mk x (t::l))∧bareT (.mk x (t::l))=trK x.kind (bareL (t::l))∧prT (.mk x (t::l))=zBI x (prs (t::l))++[[59]]:=by
 have hb:bareT (.mk x (t::l))=trK x.kind (bareL (t::l)):=(zBj k (by rcases hk with h | h<;>(rw[h];decide)) jo).1;have d:prT (.mk x (t::l))=zBI x (prs (t::l))++[[59]]:=by
  rw[zAO];unfold zAh zt;rcases hk with h | h
  · rw[h,if_pos jd,ji,ji,ji,ji,if_pos jd]
  · rw[h,if_pos jd,ji,ji,ji,ji,if_pos jd]
 refine⟨⟨fun i b hs _=>⟨?_,fun h=>?_⟩,fun i b hs=>?_,by rw[d];simp⟩,hb,d⟩
 · rw[d]at hs⊢;rw[hb];rw[yAL]at hs;have o:Std L (i+(zBI x (prs (t::l))).length) ([59]::b):=hs.right;obtain⟨r,g⟩:=zFw f hk m hs;have hi:i≤L.length - 1:=by have:=hs.mid;omega
   unfold Rn at r⊢;rw[zQ f ⟨hi,trivial⟩];unfold zD;dsimp only;rw[g,if_pos rfl,r];dsimp only;rw[zEj o];simp only[yAN,yAO,yBA,yAU,Ps.mk.injEq,true_and,and_true];omega
 · exfalso;have j:zEJ x.kind=true:=h;rcases hk with e | e<;>(rw[e]at j;revert j;decide)
 · rw[d]at hs;obtain⟨w,r,e,p⟩:=zVF x (prs (t::l));rw[e]at hs;have h1:Std L i (w::(r++[[59]]++b)):=by simpa using hs
   have c:w∈zl++zAB∧w≠[102,105,110,97,108,108,121]∧w≠[99,97,116,99,104]∧w≠[101,108,115,101]∧w≠[125]:=by rcases p with rfl | rfl<;>decide
   obtain⟨_,t2⟩:=h1.text2 c.1;exact⟨by omega,zIq h1 c.1 c.2.1 c.2.2.1 c.2.2.2.1,by rw[h1.is c.1];exact yAI c.2.2.2.2⟩
end
section
variable {L:List Tok} {i j:Nat} {b:Tks}
theorem zFn (e:Lst L) (f:ExK L a) (hs:Std L i (inP (prT a)++b)):Rn L .within i (bareT a) (i+(inP (prT a)).length):=by
 have h1:Std L i ([40]::(prT a++([41]::b))):=by unfold inP at hs;simpa using hs
 have c:Std L (i+1) (prT a++([41]::b)):=h1.2;have d:Std L (i+1+(prT a).length) ([41]::b):=c.right;have r:=f.all _ _ c (zDW d jd);unfold Rn at r⊢;rw[zQ e ⟨yAM h1.lt,trivial⟩];unfold zD;dsimp only;rw[zBv h1 jd,r];dsimp only;rw[zBv d jd];simp only[inP,yAO,yAN,yBA,yAU,Ps.mk.injEq,true_and,and_true];omega
theorem zVG (hk:x.kind=8):dangT (.mk x [a,c])=true:=by rw[zIN,if_pos ⟨hk,rfl⟩]
theorem zFI (hk:x.kind=8∧l.length≠1∨x.kind=9∨x.kind=10∨x.kind=18):dangT (.mk x (l++[t]))=dangT t:=by
 have e:dangL (l++[t])=dangT t:=by rw[zHi];simp
 rw[zIN,e,if_neg,if_pos jo];rintro⟨h1,b⟩;simp at b;omega
theorem zae (e:Lst L) (hk:x.kind=8) (t:zL x=true) (p:ExK L a) (q:StK L c) (r:zEJ c.nd.kind=true) (u:l=[]∨∃d,l=[d]∧StK L d∧zEJ d.nd.kind=true∧dangT c=false):StK L (.mk x (a::c::l)):=by
 have hb:bareT (.mk x (a::c::l))=trK 8 (bareT a::bareT c::bareL l):=by rw[(zBj t (by rw[hk];decide) jo).1,hk,zN,zN]
 rcases u with rfl | ⟨d,rfl,v,y,z⟩
 · have m:prT (.mk x [a,c])=[105,102]::(inP (prT a)++prT c):=by
    rw[zAO,zI,zI,zU];unfold zAh zt;rw[hk];show [105,102]::(inP (prT a)++(prT c++[]))=_;rw[yAS]
   refine zF2 e m jd jd jd fun i b hs f=>?_;rw[hb,zW];rw[zVG hk]at f;rw[yAL]at hs;have g:Std L (i+1) (inP (prT a)++(prT c++b)):=hs.2;have j:Std L (i+1+(inP (prT a)).length) (prT c++b):=g.right;have o:i+([105,102]::(inP (prT a)++prT c)).length=i+1+(inP (prT a)).length+(prT c).length:=by simp;omega
   rw[o]at f⊢;have r1:=zFn e p g;have r2:=((q.run _ _ j (f.any _)).2 r);refine zDR e hs jd ?_;unfold Rn at r1 r2;rw[zDS e hs];unfold zD;dsimp only;rw[if_pos rfl,zAj,r1];dsimp only;rw[r2];dsimp only;rw[if_neg (zCj (f.els rfl) rfl)]
 · have m:prT (.mk x [a,c,d])=[105,102]::(inP (prT a)++(prT c++([101,108,115,101]::prT d))):=by
    rw[zAO,zI,zI,zI,zU];unfold zAh zt;rw[hk];rfl
   refine zF2 e m jd jd jd fun i b hs f=>?_;rw[hb,zN,zW];rw[show [a,c,d]=[a,c]++[d]from rfl,zFI (.inl ⟨hk,by simp⟩)]at f;simp only[yAL,yAP]at hs;have g:Std L (i+1) (inP (prT a)++(prT c++([101,108,115,101]::(prT d++b)))):=hs.2;have j:Std L (i+1+(inP (prT a)).length) (prT c++([101,108,115,101]::(prT d++b))):=g.right;have k:Std L (i+1+(inP (prT a)).length+(prT c).length) ([101,108,115,101]::(prT d++b)):=j.right;have A:Std L (i+1+(inP (prT a)).length+(prT c).length+1) (prT d++b):=k.2;have o:i+([105,102]::(inP (prT a)++(prT c++([101,108,115,101]::prT d)))).length=i+1+(inP (prT a)).length+(prT c).length+1+(prT d).length:=by simp;omega
   rw[o]at f⊢;have r1:=zFn e p g;have s:NxT (zH L (i+1+(inP (prT a)).length+(prT c).length)) (dangT c):=⟨by rw[k.is jd];rfl,by rw[k.is jd];rfl,fun h=>by rw[z]at h;cases h⟩;have r2:=((q.run _ _ j s).2 r);have r3:=((v.run _ _ A f).2 y);refine zDR e hs jd ?_;unfold Rn at r1 r2 r3;rw[zDS e hs];unfold zD;dsimp only;rw[if_pos rfl,zAj,r1];dsimp only;rw[r2];dsimp only;rw[zCx k jd,if_pos rfl,zAj,r3]
theorem zbE (d:Lst L) (hk:x.kind=9) (g:zL x=true) (j:ExK L a) (k:StK L c) (l:zEJ c.nd.kind=true):StK L (.mk x [a,c]):=by
 have hb:bareT (.mk x [a,c])=trK 9 [bareT a,bareT c]:=by rw[(zBj g (by rw[hk];decide) jo).1,hk,zN,zN,zW]
 have m:prT (.mk x [a,c])=[119,104,105,108,101]::(inP (prT a)++prT c):=by
  rw[zAO,zI,zI,zU];unfold zAh zt;rw[hk];rfl
 refine zF2 d m jd jd jd fun i b hs e=>?_;rw[hb];rw[show [a,c]=[a]++[c]from rfl,zFI (.inr (.inl hk))]at e;rw[yAL]at hs;have f:Std L (i+1) (inP (prT a)++(prT c++b)):=hs.2;have o:Std L (i+1+(inP (prT a)).length) (prT c++b):=f.right;have p:i+([119,104,105,108,101]::(inP (prT a)++prT c)).length=i+1+(inP (prT a)).length+(prT c).length:=by simp;omega
 rw[p]at e⊢;have r1:=zFn d j f;have r2:=((k.run _ _ o e).2 l);refine zDR d hs jd ?_;unfold Rn at r1 r2;rw[zDS d hs];unfold zD;dsimp only;rw[ji,if_pos rfl,zAj,r1];dsimp only;rw[r2]
def zXn (L:List Tok) (t:Tr):Prop:=∀i b w,(w=[59]∨w=[41])→Std L i (zr (t.nd.kind,prT t)++(w::b))→Rn L (.clause w) i (bareT t) (i+(zr (t.nd.kind,prT t)).length+1)
theorem zbF (f:Lst L) (hk:x.kind=11) (g:zL x=true) (j:l=[]):zXn L (.mk x l)∧bareT (.mk x l)=trK 11 []∧prT (.mk x l)=[]:=by
 subst j;have hb:bareT (.mk x [])=trK 11 []:=by rw[(zBj g (by rw[hk];decide) jo).1,hk,zW]
 have d:prT (.mk x [])=[]:=by rw[zAO];unfold zAh zt;rw[hk];rfl
 refine⟨fun i b w k hs=>?_,hb,d⟩;have e:zr ((Tr.mk x []).nd.kind,prT (.mk x []))=[]:=by rw[d];show zr (x.kind,[])=[];rw[hk];rfl
 rw[e]at hs⊢;have h1:Std L i (w::b):=hs;have c:w∈zl++zAB:=by rcases k with rfl | rfl<;>decide
 rw[hb];unfold Rn;rw[zQ f ⟨yAM h1.lt,trivial⟩];unfold zD;dsimp only;rw[zCx h1 c,if_pos rfl,zBv h1 c];rfl
theorem zYt (d:Lst L) (h:ExK L t):zXn L t∧zr (t.nd.kind,prT t)=inP (prT t):=by
 have hk:=zFl h.expr;have e:zr (t.nd.kind,prT t)=inP (prT t):=by unfold zr;rw[jn,jn]
 refine⟨fun i b w g hs=>?_,e⟩;rw[e]at hs⊢;have h1:Std L i ([40]::(prT t++[[41]]++(w::b))):=hs;have f:Std L (i+(inP (prT t)).length) (w::b):=hs.right;have c:w∈zl++zAB∧w∈zZC∧[40]≠w:=by rcases g with rfl | rfl<;>decide
 have r:=h.brackA d hs (zDW f c.2.1);unfold Rn at r⊢;rw[zQ d ⟨yAM h1.lt,trivial⟩];unfold zD;dsimp only;rw[zDZ h1 jd c.2.2,ji,r];dsimp only;rw[zBv f c.1]
def zXo (L:List Tok) (t:Tr):Prop:=∀i b,Std L i (zr (t.nd.kind,prT t)++([59]::b))→(if(onP L [108,101,116] (pl i) || onP L [99,111,110,115,116] (pl i))=true then((zE L .declares (pl i)).1,zO L [59] (zE L .declares (pl i)).2)else zE L (.clause [59]) (pl i))=(bareT t,pl (i+(zr (t.nd.kind,prT t)).length+1))
theorem zVH (c:Lst L) (hk:x.kind=5∨x.kind=6) (g:zL x=true) (d:∀u∈t::l,DclK L u):zXo L (.mk x (t::l)):=by
 intro i b hs;obtain⟨_,hb,j⟩:=zad c hk g d;have e:zr ((Tr.mk x (t::l)).nd.kind,prT (.mk x (t::l)))=zBI x (prs (t::l)):=by
  unfold zr;refine(if_pos (show x.kind=5∨x.kind=6 from hk)).trans ?_;show(prT (.mk x (t::l))).dropLast=_;rw[j];simp
 rw[e]at hs⊢;obtain⟨r,f⟩:=zFw c hk d hs;have k:Std L (i+(zBI x (prs (t::l))).length) ([59]::b):=hs.right;unfold Rn at r;rw[f,if_pos rfl,r,hb];dsimp only;rw[zBv k jd]
theorem zVI (d:zXn L t) (f:zr (t.nd.kind,prT t)=[]∨zr (t.nd.kind,prT t)=inP (prT t)):zXo L t:=by
 intro i b hs;have r:=d i b _ (.inl rfl) hs;have g:∃w q,Std L i (w::q)∧(w=[59]∨w=[40]):=by
  rcases f with e | e
  · rw[e]at hs;exact⟨_,_,hs,.inl rfl⟩
  · rw[e]at hs;exact⟨_,_,(show Std L i ([40]::(prT t++[[41]]++([59]::b)))from hs),.inr rfl⟩
 obtain⟨w,q,h1,j⟩:=g;have c:w∈zl++zAB∧w≠[108,101,116]∧w≠[99,111,110,115,116]:=by rcases j with rfl | rfl<;>decide
 unfold Rn at r;rw[zDZ h1 c.1 c.2.1,zDZ h1 c.1 c.2.2,ji,r]
theorem zZX (f:Lst L) {e:Tr} (hk:x.kind=10) (q:zL x=true) (r:zXo L a) (s:zXn L c) (t:zXn L d) (u:StK L e) (v:zEJ e.nd.kind=true):StK L (.mk x [a,c,d,e]):=by
 have hb:bareT (.mk x [a,c,d,e])=trK 10 [bareT a,bareT c,bareT d,bareT e]:=by rw[(zBj q (by rw[hk];decide) jo).1,hk,zN,zN,zN,zN,zW]
 obtain⟨A,g⟩:=jx (zr (a.nd.kind,prT a));obtain⟨C,j⟩:=jx (zr (c.nd.kind,prT c));obtain⟨D,k⟩:=jx (zr (d.nd.kind,prT d));have y:prT (.mk x [a,c,d,e])=[102,111,114]::[40]::(A++([59]::(C++([59]::(D++([41]::prT e)))))):=by
  rw[zAO,zI,zI,zI,zI,zU,←g,←j,←k];unfold zAh zt;rw[hk];rfl
 refine zF2 f y jd jd jd fun i b hs l=>?_;rw[hb];rw[show [a,c,d,e]=[a,c,d]++[e]from rfl,zFI (.inr (.inr (.inl hk)))]at l;simp only[yAL,yAP]at hs;have h1:Std L (i+1) ([40]::(A++([59]::(C++([59]::(D++([41]::(prT e++b)))))))):=hs.2;have m:Std L (i+1+1) (A++([59]::(C++([59]::(D++([41]::(prT e++b))))))):=h1.2;have o:Std L (i+1+1+A.length+1) (C++([59]::(D++([41]::(prT e++b))))):=(show Std L (i+1+1+A.length) ([59]::_)from m.right).2;have p:Std L (i+1+1+A.length+1+C.length+1) (D++([41]::(prT e++b))):=(show Std L (i+1+1+A.length+1+C.length) ([59]::_)from o.right).2;have z:Std L (i+1+1+A.length+1+C.length+1+D.length+1) (prT e++b):=(show Std L (i+1+1+A.length+1+C.length+1+D.length) ([41]::_)from p.right).2;have B:i+([102,111,114]::[40]::(A++([59]::(C++([59]::(D++([41]::prT e))))))).length=i+1+1+A.length+1+C.length+1+D.length+1+(prT e).length:=by simp;omega
 rw[B]at l⊢;have r1:=r (i+1+1) _ (by rw[g];exact m);have r2:=s _ _ _ (.inl rfl) (by rw[j];exact o);have r3:=t _ _ _ (.inr rfl) (by rw[k];exact p);have r4:=((u.run _ _ z l).2 v);rw[g]at r1;rw[j]at r2;rw[k]at r3;refine zDR f hs jd ?_;unfold Rn at r2 r3 r4;rw[zDS f hs];unfold zD;dsimp only;rw[ji,ji,if_pos rfl,zQ f ⟨yAM hs.lt,hs.lt⟩];unfold zD;dsimp only;rw[zAj,zBv h1 jd,r1];dsimp only;rw[r2];dsimp only;rw[r3];dsimp only;rw[r4]
theorem zKB (b:zL x=true) (hk:x.kind=12∨x.kind=13∨x.kind=17):(x.name=[]∨zBn x.name=true)∧∀l,bareT (.mk x l)=trN x.kind x.name (bareL l):=by
 have hN:=zCQ b jo jo jo jo;refine⟨?_,fun l=>zDV b jo jo jo jo⟩;have h:=hN.2.1;unfold zC4 at h;rw[jn,if_pos jo,yBU]at h;exact h.imp yBF id
theorem zXp (f:Lst L) (hk:x.kind=12∨x.kind=13) (o:zL x=true) (p:l=[]):StK L (.mk x l):=by
 subst p;obtain⟨q,hb⟩:=zKB o jo;have hb:=hb [];rw[zW]at hb;obtain⟨w,r,k⟩:∃w,(if x.kind=13 then [99,111,110,116,105,110,117,101]else [98,114,101,97,107]:jE)=w∧(x.kind=12∧w=[98,114,101,97,107]∨x.kind=13∧w=[99,111,110,116,105,110,117,101]):=by
  rcases hk with h | h
  · exact⟨_,rfl,.inl ⟨h,by rw[h];rfl⟩⟩
  · exact⟨_,rfl,.inr ⟨h,by rw[h];rfl⟩⟩
 have s:prT (.mk x [])=w::(zAl x.name++[[59]]):=by
  rw[zAO,←r];unfold zAh zt;rcases hk with h | h
  · rw[h];rfl
  · rw[h];rfl
 have d:w∈zAB∧w∈zl++zAB∧(w≠[108,101,116]∧w≠[99,111,110,115,116]∧w≠[102,117,110,99,116,105,111,110])∧(w≠[102,105,110,97,108,108,121]∧w≠[99,97,116,99,104]∧w≠[101,108,115,101]∧w≠[125]):=by
  rcases k with⟨_,rfl⟩ | ⟨_,rfl⟩<;>decide
 refine zF2 f s d.2.1 d.2.2.1 d.2.2.2 fun i b hs _=>?_;rw[hb];rw[yAL]at hs;have g:zE L (.jump x.kind) (pl i)=(trN x.kind x.name [],pl (i+(w::(zAl x.name++[[59]])).length)):=by
  rw[zQ f ⟨yAM hs.lt,hs.lt⟩];unfold zD;dsimp only;rw[zAj]
  by_cases j:x.name=[]
  · have e:zAl x.name=[]:=by unfold zAl;rw[if_pos j]
    rw[e]at hs⊢;have c:Std L (i+1) ([59]::b):=hs.2;obtain⟨k1,_⟩:=c.sign jd;rw[if_neg (fun h=>absurd (h.1.symm.trans k1) jd),zEj c,j];rfl
  · have e:zAl x.name=[x.name]:=by unfold zAl;rw[if_neg j]
    have m:=q.resolve_left j;rw[e]at hs⊢;have c:Std L (i+1) (x.name::([59]::b)):=hs.2;have t:Std L (i+1+1) ([59]::b):=c.2;rw[if_pos ⟨(c.name m).1,c.nl⟩,zDz c m];dsimp only;rw[zEj t];rfl
 refine zDR f hs d.1 ?_;rw[zDS f hs];unfold zD;dsimp only;rcases k with⟨h,rfl⟩ | ⟨h,rfl⟩
 · rw[h]at g⊢;rw[ji,ji,ji,if_pos rfl,g]
 · rw[h]at g⊢;rw[ji,ji,ji,ji,if_pos rfl,g]
theorem zZY (c:Lst L) (hk:x.kind=14) (m:zL x=true) (o:l=[]∨∃a,l=[a]∧ExK L a):StK L (.mk x l):=by
 have hb:bareT (.mk x l)=trK 14 (bareL l):=by rw[(zBj m (by rw[hk];decide) jo).1,hk]
 rcases o with rfl | ⟨a,rfl,p⟩
 · have f:prT (.mk x [])=[114,101,116,117,114,110]::[[59]]:=by rw[zAO,zU];unfold zAh zt;rw[hk];rfl
   refine zF2 c f jd jd jd fun i b hs _=>?_;rw[hb,zW];have e:Std L (i+1) ([59]::b):=hs.2;refine zDR c hs jd ?_;rw[zDS c hs];unfold zD;dsimp only;have g:zDm L (pl (i+1))=true:=by unfold zDm;rw[zCx e jd];simp
   rw[ji,ji,ji,ji,ji,if_pos rfl,zAj,g,if_pos rfl,zEj e];rfl
 · have f:prT (.mk x [a])=[114,101,116,117,114,110]::(inP (prT a)++[[59]]):=by rw[zAO,zI,zU];unfold zAh zt;rw[hk];rfl
   refine zF2 c f jd jd jd fun i b hs _=>?_;rw[hb,zN,zW];rw[yAL]at hs;have e:Std L (i+1) (inP (prT a)++([59]::b)):=hs.2;have d:Std L (i+1) ([40]::(prT a++[[41]]++([59]::b))):=e;have j:Std L (i+1+(inP (prT a)).length) ([59]::b):=e.right;have r:=p.brackA c e (zDW j jd);obtain⟨k1,_⟩:=d.sign jd;refine zDR c hs jd ?_;unfold Rn at r;rw[zDS c hs];unfold zD;dsimp only;have g:¬zDm L (pl (i+1))=true:=by
    unfold zDm;rw[zDZ d jd jd,zDZ d jd jd,show(pl (i+1)).k=i+1 from rfl,d.nl,k1];decide
   rw[ji,ji,ji,ji,ji,if_pos rfl,zAj,if_neg g,r];dsimp only;rw[zEj j];simp only[yAO,yAN,yBA,yAU,Ps.mk.injEq,true_and,and_true];omega
theorem zZZ (c:Lst L) (hk:x.kind=15) (g:zL x=true) (j:ExK L a):StK L (.mk x [a]):=by
 have hb:bareT (.mk x [a])=trK 15 [bareT a]:=by rw[(zBj g (by rw[hk];decide) jo).1,hk,zN,zW]
 have k:prT (.mk x [a])=[116,104,114,111,119]::(inP (prT a)++[[59]]):=by rw[zAO,zI,zU];unfold zAh zt;rw[hk];rfl
 refine zF2 c k jd jd jd fun i b hs _=>?_;rw[hb];rw[yAL]at hs;have d:Std L (i+1) (inP (prT a)++([59]::b)):=hs.2;have e:Std L (i+1) ([40]::(prT a++[[41]]++([59]::b))):=d;have f:Std L (i+1+(inP (prT a)).length) ([59]::b):=d.right;have r:=j.brackA c d (zDW f jd);refine zDR c hs jd ?_;unfold Rn at r;rw[zDS c hs];unfold zD;dsimp only;rw[ji,ji,ji,ji,ji,ji,if_pos rfl,zAj,e.nl];simp only[yCF,if_false];rw[r];dsimp only;rw[zEj f];simp only[yAO,yAN,yBA,yAU,Ps.mk.injEq,true_and,and_true];omega
end
section
variable {L:List Tok} {i j:Nat} {b:Tks}
theorem zEk {s:jE} (h:Std L i (s::b)) (c:zBn s=true):isT (zH L i) w=false:=by
 unfold isT;rw[(h.name c).1];simp
theorem zH3 (b:zL x=true) (hk:x.kind=18∨x.kind=19):zBn x.name=true∧∀l,bareT (.mk x l)=trN x.kind x.name (bareL l):=by
 have hN:=zCQ b jo jo jo jo;refine⟨?_,fun l=>zDV b jo jo jo jo⟩;have h:=hN.2.1;unfold zC4 at h;rw[if_pos jo]at h;exact h
theorem zZa (j:Lst L) (hk:x.kind=18) (l:zL x=true) (m:StK L c) (o:zEJ c.nd.kind=true):StK L (.mk x [c]):=by
 obtain⟨d,hb⟩:=zH3 l (.inl hk);have hb:=hb [c];rw[hk,zN,zW]at hb;have f:prT (.mk x [c])=x.name::[58]::prT c:=by rw[zAO,zI,zU];unfold zAh zt;rw[hk];rfl
 refine⟨fun i b hs e=>?_,fun i b hs=>?_,by rw[f];simp⟩
 · rw[f]at hs e⊢;rw[hb];rw[show [c]=[]++[c]from rfl,zFI (.inr (.inr (.inr hk)))]at e;have h1:Std L i (x.name::([58]::(prT c++b))):=hs;have k:Std L (i+1) ([58]::(prT c++b)):=h1.2;have p:Std L (i+1+1) (prT c++b):=k.2;have q:i+(x.name::[58]::prT c).length=i+1+1+(prT c).length:=by simp;omega
   rw[q]at e⊢;have r:=(m.run _ _ p e).2 o;obtain⟨k1,t1⟩:=h1.name d;have g:Rn L .statement i (trN 18 x.name [bareT c]) (i+1+1+(prT c).length):=by
    unfold Rn at r⊢;rw[zQ j ⟨yAM h1.lt,trivial⟩];unfold zD;dsimp only;rw[if_pos ⟨k1,by show isT (zH L (i+1)) [58]=true;rw[k.is jd];rfl⟩,t1,zAj,zAj,r]
   exact⟨zRi j (yAM h1.lt) (zEk h1 d) (zEk h1 d) (zEk h1 d) g,fun _=>g⟩
 · rw[f]at hs;have h1:Std L i (x.name::([58]::(prT c++b))):=hs;exact⟨by rw[(h1.name d).1];decide,⟨zEk h1 d,zEk h1 d,fun _=>zEk h1 d⟩,zEk h1 d⟩
theorem zZb (f:Lst L) (hk:x.kind=19) (o:zL x=true) (p:∀t∈l,PrmK t) (q:zRe L c):StK L (.mk x (l++[c])):=by
 obtain⟨d,hb⟩:=zH3 o (.inr hk);have hb:=hb (l++[c]);rw[hk,zG9,zN,zW]at hb;have g:x.name≠[]:=by intro h;rw[h]at d;revert d;decide
 have e:prT (.mk x (l++[c]))=[102,117,110,99,116,105,111,110]::(x.name::(zp (prs l)++prT c)):=by
  rw[zAO];unfold zAh zt;rw[hk];show zFS x (prs (l++[c]))=_;unfold zFS;rw[(zDE l c).1,(zDE l c).2];unfold zAl;rw[if_neg g];rfl
 refine⟨fun i b hs _=>⟨?_,fun h=>?_⟩,fun i b hs=>?_,by rw[e];simp⟩
 · rw[e]at hs⊢;rw[hb];simp only[yAL,yAP]at hs;have j:Std L (i+1) (x.name::(zp (prs l)++(prT c++b))):=hs.2;have r:=zIr f (k:=19) (n:=x.name) p q (show Std L (i+1+1) (zp (prs l)++(prT c++b))from j.2);unfold Rn at r⊢;rw[zQ f ⟨yAM hs.lt,trivial⟩];unfold zD;dsimp only;rw[zDZ hs jd jd,zDZ hs jd jd,ji,zCx hs jd,if_pos rfl,zAj,zDz j d];dsimp only;rw[r];simp only[yAO,yAN,yAU,Ps.mk.injEq,true_and,and_true];omega
 · exfalso;have m:zEJ x.kind=true:=h;rw[hk]at m;revert m;decide
 · rw[e,yAP]at hs;obtain⟨k1,_⟩:=hs.word jd;exact⟨by omega,zIq hs jd jd jd jd,by rw[hs.is jd];rfl⟩
theorem zZc (p:Lst L) (hk:x.kind=16) (Q:zL x=true) (R:zRe L a)
 (u:(c.nd.kind≠17∧bareT c=trK 11 []∧prT c=[])∨(c.nd.kind=17∧∃y e,c=.mk y [e]∧zL y=true∧zRe L e∧∃r,prT e=[123]::r))
 (S:(d.nd.kind=4∧zRe L d)∨(d.nd.kind≠4∧bareT d=trK 11 [])) (s:c.nd.kind=17∨d.nd.kind=4):StK L (.mk x [a,c,d]):=by
 have hb:bareT (.mk x [a,c,d])=trK 16 [bareT a,bareT c,bareT d]:=by rw[(zBj Q (by rw[hk];decide) jo).1,hk,zN,zN,zN,zW]
 obtain⟨D,f⟩:∃D:Tks,(if d.nd.kind=4 then [102,105,110,97,108,108,121]::prT d else [])=D:=⟨_,rfl⟩;have T:prT (.mk x [a,c,d])=[116,114,121]::(prT a++(prT c++D)):=by
  rw[zAO,zI,zI,zI,zU,←f];unfold zAh zt;rw[hk];rfl
 refine zF2 p T jd jd jd fun i b hs A=>?_;rw[hb];simp only[yAL]at hs;have B:Std L (i+1) (prT a++(prT c++(D++b))):=hs.2;have g:Std L (i+1+(prT a).length) (prT c++(D++b)):=B.right;have C:Std L (i+1+(prT a).length+(prT c).length) (D++b):=g.right;have U:i+([116,114,121]::(prT a++(prT c++D))).length=i+1+(prT a).length+(prT c).length+D.length:=by simp;omega
 rw[U]at A⊢;have E:=R _ _ B;have k:onP L [102,105,110,97,108,108,121] (pl (i+1+(prT a).length+(prT c).length))=decide (d.nd.kind=4):=by
  by_cases h:d.nd.kind=4
  · rw[if_pos h]at f;subst f;rw[zCx (show Std L _ ([102,105,110,97,108,108,121]::(prT d++b))from C) jd,yBE h]
  · rw[if_neg h]at f;subst f;rw[yAI h];exact A.fin
 have l:onP L [99,97,116,99,104] (pl (i+1+(prT a).length))=decide (c.nd.kind=17):=by
  rcases u with⟨c1,_,c3⟩ | ⟨c1,y,e,rfl,_,_,_⟩
  · rw[yAI c1];have j:=s.resolve_left c1;rw[if_pos j]at f;subst f;rw[c3]at g;exact zDZ (show Std L _ ([102,105,110,97,108,108,121]::(prT d++b))from g) jd jd
  · rw[yBE c1];have F:∃r,prT (.mk y [e])=[99,97,116,99,104]::r:=by
     rw[zAO];unfold zAh zt;have m:y.kind=17:=c1;rw[m];exact⟨_,rfl⟩
    obtain⟨r,v⟩:=F;rw[v]at g;exact zCx (show Std L _ ([99,97,116,99,104]::(r++(D++b)))from g) jd
 have z:(onP L [99,97,116,99,104] (pl (i+1+(prT a).length)) || onP L [102,105,110,97,108,108,121] (pl (i+1+(prT a).length)))=true:=by
  rw[l];rcases s with h | h
  · rw[yBE h];rfl
  · rcases u with⟨c1,_,c3⟩ | ⟨c1,_⟩
    · have t:=k;rw[c3,yBE h]at t;rw[show(pl (i+1+(prT a).length))=pl (i+1+(prT a).length+([]:Tks).length)from rfl,t];simp
    · rw[yBE c1];rfl
 have G:(if onP L [99,97,116,99,104] (pl (i+1+(prT a).length))=true then
  (let n:=if onP L [40] (zB (pl (i+1+(prT a).length)))=true then((ze L (zB (zB (pl (i+1+(prT a).length))))).1,zO L [41] (ze L (zB (zB (pl (i+1+(prT a).length))))).2)else([],zB (pl (i+1+(prT a).length)))
   (trN 17 n.1 [(zE L .block n.2).1],(zE L .block n.2).2))
  else(trK 11 [],pl (i+1+(prT a).length)))=(bareT c,pl (i+1+(prT a).length+(prT c).length)):=by
  rw[l];rcases u with⟨c1,c2,c3⟩ | ⟨c1,y,e,rfl,H,I,r,v⟩
  · rw[yAI c1,ji,c2,c3];rfl
  · rw[yBE c1,if_pos rfl];have m:y.kind=17:=c1;obtain⟨J,M⟩:=zKB H (.inr (.inr m));rw[M,m,zN,zW];have N:prT (.mk y [e])=[99,97,116,99,104]::((if y.name=[]then []else [[40],y.name,[41]])++prT e):=by
     rw[zAO,zI,zU];unfold zAh zt;rw[m];rfl
    rw[N]at g⊢;simp only[yAP,yAL]at g;rw[zAj]
    by_cases q:y.name=[]
    · rw[if_pos q]at g⊢;have j:Std L (i+1+(prT a).length+1) (prT e++(D++b)):=g.2;have o:=I _ _ j;have O:onP L [40] (pl (i+1+(prT a).length+1))=false:=by
       rw[v]at j;exact zDZ (show Std L _ ([123]::(r++(D++b)))from j) jd jd
      unfold Rn at o;dsimp only;rw[O,ji,o,q];simp only[yAY,yAO,yAU,Ps.mk.injEq,true_and,and_true];omega
    · rw[if_neg q]at g⊢;have j:Std L (i+1+(prT a).length+1) ([40]::(y.name::([41]::(prT e++(D++b))))):=g.2;have h6:Std L (i+1+(prT a).length+1+1) (y.name::([41]::(prT e++(D++b)))):=j.2;have P:Std L (i+1+(prT a).length+1+1+1) ([41]::(prT e++(D++b))):=h6.2;have o:=I _ _ (show Std L (i+1+(prT a).length+1+1+1+1) (prT e++(D++b))from P.2);unfold Rn at o;dsimp only;rw[zCx j jd,if_pos rfl,zAj,zDz h6 (J.resolve_left q)];dsimp only;rw[zBv P jd,o];simp only[yAO,yAN,yBA,yAU,Ps.mk.injEq,true_and,and_true];omega
 refine zDR p hs jd ?_;unfold Rn at E;rw[zDS p hs];unfold zD;dsimp only;rw[ji,ji,ji,ji,ji,ji,ji,if_pos rfl,zQ p ⟨yAM hs.lt,hs.lt⟩];unfold zD;dsimp only;rw[zAj,E];dsimp only;rw[z];simp only[if_true];rw[G];dsimp only;rw[k];rcases S with⟨d1,d2⟩ | ⟨d1,d2⟩
 · rw[yBE d1,if_pos rfl];rw[if_pos d1]at f;subst f;have j:Std L (i+1+(prT a).length+(prT c).length+1) (prT d++b):=(show Std L _ ([102,105,110,97,108,108,121]::(prT d++b))from C).2;have rd:=d2 _ _ j;unfold Rn at rd;rw[zAj,rd];simp only[yAO,yAU,Ps.mk.injEq,true_and,and_true];omega
 · rw[yAI d1,ji,d2];rw[if_neg d1]at f;subst f;rfl
end
end Go.Proofs.YtjlfhidpmdgloaaGreatDoor
