/- Joined for the claim ParseBack: the parser, the lexer and the trees as they are walked, made short by a program of mine. -/
import Derived.Test.YtlnbbaehihgigaaGreatDoorB02
import Derived.Test.YtlnbbaehihgigaaGreatDoorB01
set_option maxHeartbeats 16000000
set_option maxRecDepth 1000000
namespace Go.Proofs.YtlnbbaehihgigaaGreatDoor
variable {l:List Tr} {x:Nd} {w:List UInt8} {a t c y d:Tr} {k:Int} {r:Nat}
section
variable {L:List Tok} {i j:Nat} {b:Tks} {s:List UInt8}
theorem Std.eq (h:Std L i (s::b)):zYt (zCg s) (zI L i):=h.1.1
theorem zI2 (h:zDG x.kind l=true) (b:zy x.kind l.length=([],0)):l=[]:=by
 unfold zDG at h;rw[b]at h;simp only[Bool.and_eq_true]at h;cases l with
 | nil=>rfl
 | cons t r=>
  have:=h.1.2;unfold zBv at this;simp[zFp,zAj]at this
theorem zRw (h1:30≤k) (b:k≤37) (n:Nat):zy k n=([],0):=by
 unfold zy
 repeat rw[jn]
theorem zCU (h:goodT (.mk x l)=true):zN x=true∧zDG x.kind l=true∧∀t∈l,goodT t=true:=by
 rw[zLC,Bool.and_eq_true,Bool.and_eq_true]at h;exact⟨h.1.1,h.1.2,zOS.1 h.2⟩
structure Lone (t:Tok) (k:Int):Prop where
 k0:t.kind≠0
 pre:zOW t
 new_:isT t [110,101,119]=false
 open_ : isT t [40] = false
 name:t.kind=1→k=33
 close:isT t [41]=false
 sq:isT t [93]=false
theorem zOh {t:Tok} (b:t.kind≠0) (c:t.kind≠5) (h6:t.kind≠6) (h1:t.kind=1→k=33):Lone t k:=by
 have e5:(t.kind==5)=false:=yA.2 c;have e6:(t.kind==6)=false:=yA.2 h6;exact⟨b,⟨fun h=>by omega,fun h=>by omega⟩,by unfold isT;rw[e5,e6];simp,by unfold isT;rw[e5,e6];simp,h1,by unfold isT;rw[e5,e6];simp,by unfold isT;rw[e5,e6];simp⟩
theorem zBX (b:Lst L) (hi:i≤L.length - 1):zE L .primary (pl i)=zD L (zE L) .primary (pl i):=zS b ⟨hi,trivial⟩
theorem zF1 (e:Lst L) (c:(w=[116,114,117,101]∧k=34)∨(w=[102,97,108,115,101]∧k=35)∨(w=[110,117,108,108]∧k=36)∨(w=[116,104,105,115]∧k=37)) (h:Std L i (w::b)):Rn L .primary i (trK k []) (i+1)∧Lone (zI L i) k:=by
 have d:w∈zAF:=by rcases c with h | h | h | h<;>(rw[h.1];decide)
 obtain⟨g1,g2⟩:=h.word d;have hi:=Nat.le_of_lt h.lt;refine⟨?_,⟨by omega,⟨?_,?_⟩,?_,?_,fun h=>by omega,?_,?_⟩⟩
 · unfold Rn;rw[zBX e hi];unfold zD;dsimp only;rw[g1,ji,ji,ji,ji,ji,g2];rcases c with⟨rfl,rfl⟩ | ⟨rfl,rfl⟩ | ⟨rfl,rfl⟩ | ⟨rfl,rfl⟩
   · rfl
   · rfl
   · rfl
   · rfl
 · rw[g2];rcases c with h | h | h | h<;>(rw[h.1];exact fun h=>absurd h.2 jd)
 · rw[g2];rcases c with h | h | h | h<;>(rw[h.1];exact fun h=>absurd h.2 jd)
 · rw[h.is (List.mem_append_right _ d)];rcases c with h | h | h | h<;>(rw[h.1];rfl)
 · rw[h.is (List.mem_append_right _ d)];rcases c with h | h | h | h<;>(rw[h.1];rfl)
 · rw[h.is (List.mem_append_right _ d)];rcases c with h | h | h | h<;>(rw[h.1];rfl)
 · rw[h.is (List.mem_append_right _ d)];rcases c with h | h | h | h<;>(rw[h.1];rfl)
theorem zH8 (d:Lst L) (h:Std L i (s::b)) (c:((zCg s).kind=2∧x={zB9 with kind:=30,nk:=(zCg s).nk,nn:=(zCg s).nn})∨((zCg s).kind=3∧x={zB9 with kind:=31,mag:=(zCg s).mag})∨((zCg s).kind=4∧x={zB9 with kind:=32,str:=(zCg s).str})∨((zCg s).kind=1∧x={zB9 with kind:=33,name:=(zCg s).text})):Rn L .primary i (.mk x []) (i+1)∧Lone (zI L i) x.kind:=by
 obtain⟨e1,e2,e3,e4,e5,e6⟩:=h.eq;have hi:=Nat.le_of_lt h.lt;refine⟨?_,zOh jo jo jo (fun h1=>?_)⟩
 · unfold Rn;rw[zBX d hi];unfold zD;dsimp only;rw[←e1,←e2,←e3,←e4,←e5,←e6];rcases c with⟨hk,rfl⟩ | ⟨hk,rfl⟩ | ⟨hk,rfl⟩ | ⟨hk,rfl⟩
   · rw[jn,if_pos hk];rfl
   · rw[jn,jn,if_pos hk];rfl
   · rw[jn,jn,jn,if_pos hk];rfl
   · rw[jn,jn,jn,jn,if_pos hk];rfl
 · rcases c with⟨hk,rfl⟩ | ⟨hk,rfl⟩ | ⟨hk,rfl⟩ | ⟨hk,rfl⟩
   · omega
   · omega
   · omega
   · rfl
theorem zKG (d:Lst L) (hg:goodT (.mk x l)=true) (h1:30≤x.kind) (o:x.kind≤37) (hs:Short x):∃s,prT (.mk x l)=[s]∧∀i b,Std L i (s::b)→Rn L .primary i (bareT (.mk x l)) (i+1)∧Lone (zI L i) x.kind:=by
 obtain⟨c,hk,_⟩:=zCU hg;obtain rfl:=zI2 hk (zRw h1 o _);rw[zAS,zY,zCQ,za];unfold zAk;rw[jn]
 by_cases c4:34≤x.kind
 · have p:x.kind∈zOV∧(x.kind≠12∧x.kind≠13∧x.kind≠17):=by
    refine⟨?_,by omega⟩;have:x.kind=34∨x.kind=35∨x.kind=36∨x.kind=37:=by omega
    rcases this with h | h | h | h<;>(rw[h];decide)
   have hb:=(zBh (l:=[]) c p.1 p.2).1;rw[zCQ,za]at hb;rw[hb];have:x.kind=34∨x.kind=35∨x.kind=36∨x.kind=37:=by omega
   unfold zg;rcases this with h | h | h | h
   · rw[h];exact⟨_,rfl,fun i b h=>zF1 d (.inl ⟨rfl,rfl⟩) h⟩
   · rw[h];exact⟨_,rfl,fun i b h=>zF1 d (.inr (.inl ⟨rfl,rfl⟩)) h⟩
   · rw[h];exact⟨_,rfl,fun i b h=>zF1 d (.inr (.inr (.inl ⟨rfl,rfl⟩))) h⟩
   · rw[h];exact⟨_,rfl,fun i b h=>zF1 d (.inr (.inr (.inr ⟨rfl,rfl⟩))) h⟩
 by_cases c3:x.kind=33
 · have hN:=zCM c jo jo jo jo;rw[hN.1];have q:zBn x.name=true:=by
    have:=hN.2.1;rwa[c3]at this
   have e:zg x []=[x.name]:=by unfold zg;rw[c3];rfl
   refine⟨_,e,fun i b h=>?_⟩;have:=zH8 d (x:={zB9 with kind:=x.kind,name:=x.name}) h (.inr (.inr (.inr ⟨(zEo q).1,by rw[(zEo q).2,c3]⟩)));exact this
 obtain⟨k,n,u,nk,nn,g,m,ks⟩:=x;simp only at h1 o c4 c3;unfold zN at c;simp only at c;split at c
 · cases c
 split at c
 · cases c
 split at c
 · cases c
 split at c
 · cases c
 rename_i a0 a1 a2 a3
 have r:k=30∨k=31∨k=32:=by omega
 rcases r with rfl | rfl | rfl
 · simp at a1 a3 c;obtain rfl:=a1;obtain⟨rfl,rfl⟩:=a3;obtain⟨⟨⟨rfl,rfl⟩,j⟩,v⟩:=c;unfold zDa at j;simp at j;have f:=zRt (n:=nn.toNat) jo;refine⟨zBR nn.toNat,rfl,fun i b h=>zH8 d h (.inl ⟨by rw[f],?_⟩)⟩;rw[f];simp[zB9,zr];omega
 · simp at a1 a2 c;obtain rfl:=a1;obtain⟨rfl,rfl⟩:=a2;obtain⟨⟨rfl,j⟩,rfl⟩:=c;have f:=zRu j hs.limb;refine⟨zBR (zEQ m)++[110],rfl,fun i b h=>zH8 d h (.inr (.inl ⟨by rw[f],?_⟩))⟩;rw[f];rfl
 · simp at a2 a3 c;obtain⟨rfl,rfl⟩:=a2;obtain⟨rfl,rfl⟩:=a3;obtain⟨rfl,t⟩:=c;have f:=zLK t;refine⟨zFg u,rfl,fun i b h=>zH8 d h (.inr (.inr (.inl ⟨by rw[f],?_⟩)))⟩;rw[f];rfl
end
structure First (L:List Tok) (i:Nat) (k:Int):Prop where
 k0:(zI L i).kind≠0
 close:isT (zI L i) [41]=false
 name:(zI L i).kind=1→k=33∨(isT (zI L (i+1)) [44]=false∧isT (zI L (i+1)) [41]=false∧isT (zI L (i+1)) [61,62]=false)
def ExA (L:List Tok) (t:Tr):Prop:=∀i b,Std L i (prT t++b)→End (zI L (i+(prT t).length))→Rn L .assign i (bareT t) (i+(prT t).length)
def ExF (L:List Tok) (t:Tr):Prop:=∀i b,Std L i (prT t++b)→First L i t.nd.kind
structure Part (L:List Tok) (i j:Nat):Prop where
 k0:(zI L i).kind≠0
 pre:zOW (zI L i)
 new_:isT (zI L i) [110,101,119]=false
 close:isT (zI L i) [41]=false
 sq:isT (zI L i) [93]=false
 next:i < j
 arr:isT (zI L j) [61,62]=false→zOX L i
 name:(zI L i).kind=1→j=i+1
section
variable {L:List Tok} {i j:Nat} {b:Tks}
theorem zI3 (h:isT (zI L i) w=false) (b:w=[40]):¬zAg L (pl i)=true:=by
 subst b;unfold zAg;have:onP L [40] (pl i)=false:=h;rw[this];simp
theorem zRx (g:Lst L) (h1:isT (zI L (i+1)) [41]=false) (j:(zI L (i+1)).kind=1→isT (zI L (i+2)) [44]=false∧(isT (zI L (i+2)) [41]=true→isT (zI L (i+3)) [61,62]=false)):¬zAg L (pl i)=true:=by
 unfold zAg;rw[Bool.and_eq_true];rintro⟨_,h⟩;have m:=g.pos;obtain⟨f,l⟩:∃f,L.length=f+1:=⟨L.length - 1,by omega⟩;rw[if_neg (by show¬isT (zI L (i+1)) [41]=true;rw[h1];decide),l]at h;unfold zEJ at h
 by_cases c:(zI L (i+1)).kind=1
 · obtain⟨g1,g2⟩:=j c;have d:(zI L ((pl i).k+1)).kind=1:=c;have e:isT (zI L ((pl i).k+1+1)) [44]=false:=g1;rw[if_pos d,if_neg (by rw[e];decide)]at h;have b:zBr L (i+2)=true:=h;unfold zBr at b;rw[Bool.and_eq_true]at b;rw[g2 b.1]at b;cases b.2
 · have d:¬(zI L ((pl i).k+1)).kind=1:=c;rw[if_neg d]at h;cases h
theorem zLL (f:Lst L) (A:ExA L t) (F:ExF L t) (h:Std L i (inP (prT t)++b)) (r:0 < (prT t).length) (g:t.nd.kind=33→(prT t).length=1):Rn L .primary i (bareT t) (i+(inP (prT t)).length)∧Part L i (i+(inP (prT t)).length):=by
 unfold inP at h⊢;rw[List.cons_append,List.append_assoc]at h;have h1:Std L (i+1) (prT t++([[41]]++b)):=h.2;have c:Std L (i+1+(prT t).length) ([41]::b):=h1.right;have j:=A (i+1) _ h1 (zDP c jd);obtain⟨k1,t1⟩:=h.sign jd;obtain⟨k2,t2⟩:=c.sign jd;have l:=F (i+1) _ h1;have e:([40]::(prT t++[[41]])).length=(prT t).length+2:=by simp
 rw[e];have hi:=Nat.le_of_lt h.lt;refine⟨?_,⟨by omega,⟨?_,?_⟩,?_,?_,?_,by omega,fun m=>⟨fun o=>by omega,?_⟩,fun o=>by omega⟩⟩
 · unfold Rn at j⊢;rw[zBX f hi];unfold zD;dsimp only;rw[k1,ji,ji,ji,ji,ji,t1,ji,ji,ji,ji,ji,ji,ji,if_pos rfl];rw[show zB (pl i)=pl (i+1)from rfl,j];dsimp only;unfold zP onP isT;rw[show(pl (i+1+(prT t).length)).k=i+1+(prT t).length from rfl,k2,t2,if_pos jd];unfold zB;simp only[Prod.mk.injEq,Ps.mk.injEq,true_and,and_true];omega
 · rw[t1];exact fun h=>absurd h.2 jd
 · rw[t1];exact fun h=>absurd h.2 jd
 · rw[h.is jd];rfl
 · rw[h.is jd];rfl
 · rw[h.is jd];rfl
 · refine zRx f l.close (fun hk=>?_);rcases l.name hk with d | d
   · have p:=g d;rw[p]at c m;refine⟨by rw[show i+2=i+1+1 by omega,c.is jd];rfl,fun _=>?_⟩;exact m
   · refine⟨d.1,fun q=>?_⟩;have:isT (zI L (i+1+1)) [41]=true:=q;rw[d.2.1]at this;cases this
theorem zEv (h:Lone (zI L i) k):Part L i (i+1):=
 ⟨h.k0,h.pre,h.new_,h.close,h.sq,by omega,fun c=>⟨fun b=>by rw[c]at b;exact absurd b.2 jd,zI3 h.open_ rfl⟩,fun _=>rfl⟩
theorem zGT (hg:goodT t=true) (hs:ShortT t) (b:Lst L) (h:t.nd.kind=33):(prT t).length=1:=by
 cases t with
 | mk x l=>
  rw[zCA]at hs;obtain⟨s,h1,_⟩:=zKG b hg (by have:x.kind=33:=h;omega) (by have:x.kind=33:=h;omega) hs.1;rw[h1];rfl
theorem zRy (c:Lst L) (hg:goodT t=true) (hs:ShortT t) (g:zBf t.nd.kind=true) (A:ExA L t) (F:ExF L t) (d:0 < (prT t).length) (h:Std L i (zb (t.nd.kind,prT t)++b)):Rn L .primary i (bareT t) (i+(zb (t.nd.kind,prT t)).length)∧Part L i (i+(zb (t.nd.kind,prT t)).length):=by
 by_cases hk:30≤t.nd.kind∧t.nd.kind≤37
 · have e:zb (t.nd.kind,prT t)=prT t:=by unfold zb;rw[if_pos hk]
   rw[e]at h⊢;cases t with
   | mk x l=>
    rw[zCA]at hs;obtain⟨s,h1,f⟩:=zKG c hg hk.1 hk.2 hs.1;rw[h1]at h⊢;obtain⟨g1,g2⟩:=f i b h;exact⟨g1,zEv g2⟩
 · have e:zb (t.nd.kind,prT t)=inP (prT t):=by unfold zb;rw[if_neg hk]
   rw[e]at h⊢;exact zLL c A F h d (fun h=>by omega)
theorem Part.calls (b:Lst L) (hi:i≤L.length - 1) (c:j≤L.length - 1) (h:Rn L .primary i y j) (p:Part L i j) (d:EndM (zI L j)):Rn L .calls i y j:=zEp b hi (zGQ b hi h p.new_) (zCy b c d)
theorem Part.unary (b:Lst L) (hi:i≤L.length - 1) (c:j≤L.length - 1) (h:Rn L .primary i y j) (p:Part L i j) (d:EndM (zI L j)) (e:¬((zI L j).kind=5∧(zI L j).text∈zDT∧(zI L j).nl=false)):Rn L .unary i y j:=zD0 b hi (p.calls b hi c h d) p.pre e
theorem Part.all (c:Lst L) (hi:i≤L.length - 1) (d:j≤L.length - 1) (h:Rn L .primary i y j) (p:Part L i j) (b:End (zI L j)):Rn L .assign i y j:=zCa c hi d (p.unary c hi d h b.m b.post) b (p.arr (b.words _ jd))
end
theorem zAM {s:List Nat} (h:zDG k l=true) (e:zy k l.length=(s,r)):s.length≤l.length∧zFp s r (zBv l)=true:=by
 unfold zDG at h;rw[e]at h;simp only[Bool.and_eq_true]at h;exact⟨of_decide_eq_true h.1.1.2,h.1.2⟩
theorem zCB (h:zFp [] 0 (zBv l)=true):l=[]:=by
 cases l with
 | nil=>rfl
 | cons t r=>unfold zBv at h;simp[zFp,zAj]at h
theorem zCC (h:zFp [] r (zBv l)=true):∀t∈l,zAj r t.nd.kind=true:=by
 rw[zRm]at h;intro t b;exact List.all_eq_true.1 h _ (List.mem_map_of_mem b)
theorem zAu {a:Nat} {s:List Nat} (c:(a::s).length≤l.length) (h:zFp (a::s) r (zBv l)=true):∃t q,l=t::q∧zAj a t.nd.kind=true∧s.length≤q.length∧zFp s r (zBv q)=true:=by
 cases l with
 | nil=>simp at c
 | cons t q=>
  have b:(zAj a t.nd.kind&&zFp s r (zBv q))=true:=h;rw[Bool.and_eq_true]at b;exact⟨t,q,rfl,b.1,by simpa using c,b.2⟩
theorem zOi {a:Nat} (h:zDG k l=true) (e:zy k l.length=([a],0)):∃t,l=[t]∧zAj a t.nd.kind=true:=by
 obtain⟨h1,b⟩:=zAM h e;obtain⟨t,q,rfl,c,_,d⟩:=zAu h1 b;obtain rfl:=zCB d;exact⟨t,rfl,c⟩
theorem zWf {a b:Nat} (h:zDG k l=true) (e:zy k l.length=([a,b],0)):∃t u,l=[t,u]∧zAj a t.nd.kind=true∧zAj b u.nd.kind=true:=by
 obtain⟨h1,c⟩:=zAM h e;obtain⟨t,q,rfl,d,f,g⟩:=zAu h1 c;obtain⟨u,q,rfl,h6,_,j⟩:=zAu f g;obtain rfl:=zCB j;exact⟨t,u,rfl,d,h6⟩
theorem zXf {a b c:Nat} (h:zDG k l=true) (e:zy k l.length=([a,b,c],0)):∃t u v,l=[t,u,v]∧zAj a t.nd.kind=true∧zAj b u.nd.kind=true∧zAj c v.nd.kind=true:=by
 obtain⟨h1,f⟩:=zAM h e;obtain⟨t,q,rfl,g,j,m⟩:=zAu h1 f;obtain⟨u,q,rfl,h6,o,p⟩:=zAu j m;obtain⟨v,q,rfl,r,_,d⟩:=zAu o p;obtain rfl:=zCB d;exact⟨t,u,v,rfl,g,h6,r⟩
theorem zY0 {a b c d:Nat} (h:zDG k l=true) (e:zy k l.length=([a,b,c,d],0)):∃t u v x,l=[t,u,v,x]∧zAj a t.nd.kind=true∧zAj b u.nd.kind=true∧zAj c v.nd.kind=true∧zAj d x.nd.kind=true:=by
 obtain⟨h1,o⟩:=zAM h e;obtain⟨t,q,rfl,p,r,s⟩:=zAu h1 o;obtain⟨u,q,rfl,h6,y,z⟩:=zAu r s;obtain⟨v,q,rfl,A,f,g⟩:=zAu y z;obtain⟨x,q,rfl,j,_,m⟩:=zAu f g;obtain rfl:=zCB m;exact⟨t,u,v,x,rfl,p,h6,A,j⟩
theorem zFQ (h:zBf k=true):30≤k∧k≤53∧k≠40:=by
 unfold zBf at h;simp only[Bool.and_eq_true,decide_eq_true_eq,Bool.not_eq_true',yA]at h;exact⟨h.1.1,h.1.2,h.2⟩
structure ExK (L:List Tok) (t:Tr):Prop where
 good:goodT t=true
 short:ShortT t
 expr:zBf t.nd.kind=true
 all:ExA L t
 first:ExF L t
 pos:0 < (prT t).length
section
variable {L:List Tok} {i j:Nat} {b:Tks}
def zM (t:Tr):Tks:=zb (t.nd.kind,prT t)
theorem ExK.part (c:Lst L) (h:ExK L t) (hs:Std L i (zM t++b)):Rn L .primary i (bareT t) (i+(zM t).length)∧Part L i (i+(zM t).length):=zRy c h.good h.short h.expr h.all h.first h.pos hs
theorem Std.mid {a:Tks} (h:Std L i (a++b)):i+a.length≤L.length - 1:=h.left.le
theorem ExK.whole (c:Lst L) (h:ExK L t) (hs:Std L i (zM t++b)) (d:End (zI L (i+(zM t).length))):Rn L .assign i (bareT t) (i+(zM t).length):=by
 obtain⟨g1,g2⟩:=h.part c hs;exact g2.all c (by have:=hs.mid;omega) hs.mid g1 d
theorem ExK.brack (c:Lst L) (h:ExK L t) (hs:Std L i (inP (prT t)++b)):Rn L .primary i (bareT t) (i+(inP (prT t)).length)∧Part L i (i+(inP (prT t)).length):=zLL c h.all h.first hs h.pos (zGT h.good h.short c)
theorem ExK.brackA (c:Lst L) (h:ExK L t) (hs:Std L i (inP (prT t)++b)) (d:End (zI L (i+(inP (prT t)).length))):Rn L .assign i (bareT t) (i+(inP (prT t)).length):=by
 obtain⟨g1,g2⟩:=h.brack c hs;exact g2.all c (by have:=hs.mid;omega) hs.mid g1 d
theorem zOj (k:Lst L) (m:w=[41]∨w=[93]):∀(r:List Tr) (t:Tr) (c:List Tr) (i:Nat) (b:Tks),(∀x∈t::r,ExK L x)→Std L i (zAW zb (prs (t::r))++(w::b))→Rn L (.listL w c) i (trK 0 (c++bareL (t::r))) (i+(zAW zb (prs (t::r))).length+1):=by
 intro r
 induction r with
 | nil=>
  intro t c i b l hs;have e:zAW zb (prs [t])=zM t++[]:=by rw[zH,zY];rfl
  rw[e,List.append_nil]at hs⊢;have d:Std L (i+(zM t).length) (w::b):=hs.right;have f:=(l t js).whole k hs (zDP d (by rcases m with rfl | rfl<;>decide));have hi:i≤L.length - 1:=by have:=hs.mid;omega
  have g:onP L w (pl (i+(zM t).length))=true:=by
   show isT (zI L (i+(zM t).length)) w=true;rw[d.is (by rcases m with rfl | rfl<;>decide)];simp
  unfold Rn at f⊢;rw[zS k ⟨hi,trivial⟩];unfold zD;dsimp only;rw[f];dsimp only;rw[if_neg js,if_pos g,zO,za];rfl
 | cons u r q=>
  intro t c i b l hs;have e:zAW zb (prs (t::u::r))=zM t++([44]::zAW zb (prs (u::r))):=by rw[zH,zH];rfl
  rw[e,List.append_assoc,List.cons_append]at hs;rw[e];have d:Std L (i+(zM t).length) ([44]::(zAW zb (prs (u::r))++(w::b))):=hs.right;have s:Std L (i+(zM t).length+1) (zAW zb (prs (u::r))++(w::b)):=d.2;have f:=(l t js).whole k hs (zDP d jd);have hi:i≤L.length - 1:=by have:=hs.mid;omega
  have o:¬onP L w (pl (i+(zM t).length))=true:=by
   show¬isT (zI L (i+(zM t).length)) w=true;rw[d.is jd];rcases m with rfl | rfl<;>decide
  have g:onP L [44] (pl (i+(zM t).length))=true:=by
   show isT (zI L (i+(zM t).length)) [44]=true;rw[d.is jd];rfl
  have j:=q u (c++[bareT t]) _ b (fun x p=>l x (List.mem_cons_of_mem _ p)) s;unfold Rn at f j⊢;rw[zS k ⟨hi,trivial⟩];unfold zD;dsimp only;rw[f];dsimp only;rw[if_neg js,if_neg o];unfold zP;rw[if_pos g];show zE L (.listL w (c++[bareT t])) (pl (i+(zM t).length+1))=_;rw[j,zO t];simp only[List.append_assoc,List.singleton_append,Prod.mk.injEq,Ps.mk.injEq,true_and,and_true,List.length_append,List.length_cons];omega
theorem zLM (c:Lst L) (d:w=[41]∨w=[93]) (l:List Tr) (g:∀x∈l,ExK L x) (hs:Std L i (zAW zb (prs l)++(w::b))):Rn L (.list w) i (trK 0 (bareL l)) (i+(zAW zb (prs l)).length+1):=by
 have hi:i≤L.length - 1:=by have:=hs.mid;omega
 have j:w∈zw++zAF:=by rcases d with rfl | rfl<;>decide
 cases l with
 | nil=>
  have e:zAW zb (prs [])=[]:=by rw[zY];rfl
  rw[e,List.nil_append]at hs;rw[e];unfold Rn;rw[zS c ⟨hi,trivial⟩];unfold zD;dsimp only;rw[if_pos (by show isT (zI L i) w=true;rw[hs.is j];simp),za];rfl
 | cons t r=>
  have f:=zOj c d r t [] i b g hs;rw[List.nil_append]at f;have k:isT (zI L i) w=false:=by
   have m:Std L i (zM t++(zGH zb (prs r)++(w::b))):=by
    rw[zH]at hs;have:zAW zb ((t.nd.kind,prT t)::prs r)=zM t++zGH zb (prs r):=rfl;rw[this,List.append_assoc]at hs;exact hs
   obtain⟨_,g2⟩:=(g t js).part c m;rcases d with rfl | rfl
   · exact g2.close
   · exact g2.sq
  unfold Rn at f⊢;rw[zS c ⟨hi,trivial⟩];unfold zD;dsimp only;rw[if_neg (by show¬isT (zI L i) w=true;rw[k];decide)];exact f
end
def zRz (L:List Tok) (t:Tr):Prop:=∀i b,Std L i (prT t++b)→EndM (zI L (i+(prT t).length))→isT (zI L (i+(prT t).length)) [61,62]=false→Rn L .calls i (bareT t) (i+(prT t).length)∧zOW (zI L i)∧zOX L i
section
variable {L:List Tok} {i j:Nat} {b:Tks}
theorem zCV (p:Part L i j) (h:∀w∈([[44],[41],[61,62]]:List (List UInt8)),isT (zI L j) w=false):First L i k:=
 ⟨p.k0,p.close,fun hk=>by
  have e:=p.name hk;subst e;exact .inr ⟨h _ jd,h _ jd,h _ jd⟩⟩
theorem zC0 {s:List UInt8} (h:Std L i (s::b)) (hs:s∈zw++zAF) (h1:s≠[41]):First L i k:=by
 have hk:(zI L i).kind=5∨(zI L i).kind=6:=by
  rcases List.mem_append.1 hs with g | g
  · exact .inl (h.sign g).1
  · exact .inr (h.word g).1
 exact⟨by omega,by rw[h.is hs];exact yAI h1,fun h=>by omega⟩
theorem zD4 {s:List UInt8} (h:Std L i (s::b)) (hs:s∈zw++zAF) (h1:s≠[40]):zOX L i:=by
 have hk:(zI L i).kind=5∨(zI L i).kind=6:=by
  rcases List.mem_append.1 hs with g | g
  · exact .inl (h.sign g).1
  · exact .inr (h.word g).1
 exact⟨fun h=>by omega,zI3 (by rw[h.is hs];exact yAI h1) rfl⟩
theorem Std.text2 {s:List UInt8} (h:Std L i (s::b)) (hs:s∈zw++zAF):(zI L i).text=s∧((zI L i).kind=5∨(zI L i).kind=6):=by
 rcases List.mem_append.1 hs with g | g
 · exact⟨(h.sign g).2,.inl (h.sign g).1⟩
 · exact⟨(h.word g).2,.inr (h.word g).1⟩
theorem zOk {s:List UInt8} (h:Std L i (s::b)) (hs:s∈zw++zAF) (c:s≠[40]∧s≠[46]∧s≠[91]):EndM (zI L i):=
 ⟨by rw[h.is hs];exact yAI c.1,by rw[h.is hs];exact yAI c.2.1,by rw[h.is hs];exact yAI c.2.2⟩
theorem zVG:∀s∈zHN,s∈zw++zAF∧s≠[40]∧s≠[41]:=by decide+kernel
theorem zOl:∀s∈zDT,s∈zw++zAF∧s∈zw∧s≠[40]∧s≠[41]∧s∉zHN∧s≠[46]∧s≠[91]∧s≠[61,62]∧s≠[44]:=by decide+kernel
theorem zVH:∀s∈zJ1,s∈zw∧s∉zDT∧zEn s=9∧s≠[105,110]∧(∀w∈onW,s≠w)∧s≠[44]∧s≠[41]:=by decide+kernel
theorem zVI:∀s∈zWe,s∈zw++zAF∧zEn s < 8∧s∉zDT∧(∀w∈onW,s≠w)∧s≠[44]∧s≠[41]∧(s∈zw∨s=[105,110]):=by decide+kernel
structure ExO (L:List Tok) (t:Tr):Prop where
 all:ExA L t
 first:ExF L t
 pos:0 < (prT t).length
theorem zY1 (e:Lst L) (hk:x.kind=43) (j:zN x=true) (l:ExK L a):ExO L (.mk x [a]):=by
 have hN:=zCM j jo jo jo jo;have f:x.name∈zHN:=by
  have:=hN.2.1;rw[hk]at this;exact of_decide_eq_true this
 obtain⟨q1,q2,q3⟩:=zVG _ f;have hb:bareT (.mk x [a])=trN 43 x.name [bareT a]:=by rw[zDO j jo jo jo jo,hk,zO,za]
 have g:prT (.mk x [a])=x.name::zM a:=by rw[zAS,zH,zY];unfold zAk zg;rw[hk];rfl
 refine⟨fun i b hs c=>?_,fun i b hs=>?_,by rw[g];simp⟩
 · rw[g]at hs c⊢;rw[hb];rw[List.cons_append]at hs;obtain⟨t1,t2⟩:=hs.text2 q1;have d:Std L (i+1) (zM a++b):=hs.2;obtain⟨g1,g2⟩:=l.part e d;have o:i+(x.name::zM a).length=i+1+(zM a).length:=by simp;omega
   rw[o]at c⊢;have k:=g2.unary e (by have:=d.mid;omega) d.mid g1 c.m c.post;refine zCa e (by have:=d.mid;omega) d.mid ?_ c (zD4 hs q1 q2);unfold Rn at k⊢;rw[zS e ⟨Nat.le_of_lt hs.lt,trivial⟩];unfold zD;dsimp only;rw[t1,if_pos ⟨t2,f⟩];show(trN 43 x.name [(zE L .unary (pl (i+1))).1],(zE L .unary (pl (i+1))).2)=_;rw[k]
 · rw[g,List.cons_append]at hs;exact zC0 hs q1 q3
theorem zY2 (f:Lst L) (hk:x.kind=44) (j:zN x=true) (l:zAR a.nd.kind=true) (o:zRz L a):ExO L (.mk x [a]):=by
 have hN:=zCM j jo jo jo jo;have e:x.name∈zDT:=by
  have:=hN.2.1;rw[hk]at this;exact of_decide_eq_true this
 obtain⟨q1,q2,q3,q4,q5,q6,q7,q8,q⟩:=zOl _ e;have hb:bareT (.mk x [a])=trN 44 x.name [bareT a]:=by rw[zDO j jo jo jo jo,hk,zO,za]
 have g:prT (.mk x [a])=x.name::prT a:=by rw[zAS,zH,zY];unfold zAk zg;rw[hk];rfl
 refine⟨fun i b hs c=>?_,fun i b hs=>?_,by rw[g];simp⟩
 · rw[g]at hs c⊢;rw[hb];rw[List.cons_append]at hs;obtain⟨t1,t2⟩:=hs.text2 q1;have d:Std L (i+1) (prT a++b):=hs.2;have p:i+(x.name::prT a).length=i+1+(prT a).length:=by simp;omega
   rw[p]at c⊢;obtain⟨g1,g2,r⟩:=o (i+1) b d c.m (c.words _ jd);have k:=zD0 f (by have:=d.mid;omega) g1 g2 c.post;refine zCa f (by have:=d.mid;omega) d.mid ?_ c (zD4 hs q1 q3);unfold Rn at k⊢;rw[zS f ⟨Nat.le_of_lt hs.lt,trivial⟩];unfold zD;dsimp only;rw[t1,if_neg (fun h=>q5 h.2),if_pos ⟨t2,e⟩];show(trN 44 x.name [(zE L .unary (pl (i+1))).1],if(zE L .unary (pl (i+1))).2.bad=0∧zAR (zE L .unary (pl (i+1))).1.nd.kind=false then ze L (zE L .unary (pl (i+1))).2 else(zE L .unary (pl (i+1))).2)=_;rw[k];dsimp only;rw[zGP,l,if_neg js]
 · rw[g,List.cons_append]at hs;exact zC0 hs q1 q4
theorem zY3 (j:Lst L) (hk:x.kind=45) (k:zN x=true) (q:zAR a.nd.kind=true) (r:zRz L a) (l:∀i b,Std L i (prT a++b)→First L i a.nd.kind) (m:0 < (prT a).length) (o:a.nd.kind=33→(prT a).length=1):ExO L (.mk x [a]):=by
 have hN:=zCM k jo jo jo jo;have e:x.name∈zDT:=by
  have:=hN.2.1;rw[hk]at this;exact of_decide_eq_true this
 obtain⟨q1,q2,q3,q4,q5,q6,q7,q8,s⟩:=zOl _ e;have hb:bareT (.mk x [a])=trN 45 x.name [bareT a]:=by rw[zDO k jo jo jo jo,hk,zO,za]
 have f:prT (.mk x [a])=prT a++[x.name]:=by rw[zAS,zH,zY];unfold zAk zg;rw[hk];rfl
 refine⟨fun i b hs g=>?_,fun i b hs=>?_,by rw[f];simp⟩
 · rw[f]at hs g⊢;rw[hb];rw[List.append_assoc]at hs;have c:Std L (i+(prT a).length) (x.name::b):=hs.right;have t:i+(prT a++[x.name]).length=i+(prT a).length+1:=by simp;omega
   rw[t]at g⊢;obtain⟨k1,t1⟩:=c.sign q2;obtain⟨g1,g2,u⟩:=r i _ hs (zOk c q1 ⟨q3,q6,q7⟩) (by rw[c.is q1];exact yAI q8);refine zCa j (by have:=hs.mid;omega) c.lt ?_ g u;unfold Rn at g1⊢;rw[zS j ⟨by have:=hs.mid;show i≤_;omega,trivial⟩];unfold zD;dsimp only;rw[if_neg g2.1,if_neg g2.2,g1];dsimp only;rw[t1,if_pos ⟨k1,e,c.nl⟩,zGP,q,if_neg js];rfl
 · rw[f,List.append_assoc]at hs;have c:Std L (i+(prT a).length) (x.name::b):=hs.right;have d:=l i _ hs;refine⟨d.k0,d.close,fun p=>?_⟩;rcases d.name p with h | h
   · have m:=o h;rw[m]at c;exact .inr ⟨by rw[c.is q1];exact yAI s,by rw[c.is q1];exact yAI q4,by rw[c.is q1];exact yAI q8⟩
   · exact .inr h
theorem zY4 (f:Lst L) (hk:x.kind=49) (o:zN x=true) (y:zAR a.nd.kind=true) (z:zRz L a) (p:∀i b,Std L i (prT a++b)→First L i a.nd.kind) (q:a.nd.kind=33→(prT a).length=1) (A:ExK L c):ExO L (.mk x [a,c]):=by
 have hN:=zCM o jo jo jo jo;have j:x.name∈zJ1:=by
  have:=hN.2.1;rw[hk]at this;exact of_decide_eq_true this
 obtain⟨q2,q3,q4,q5,q6,q7,q8⟩:=zVH _ j;have q1:x.name∈zw++zAF:=List.mem_append_left _ q2;have hb:bareT (.mk x [a,c])=trN 49 x.name [bareT a,bareT c]:=by rw[zDO o jo jo jo jo,hk,zO,zO,za]
 have l:prT (.mk x [a,c])=prT a++(x.name::zM c):=by rw[zAS,zH,zH,zY];unfold zAk zg;rw[hk];rfl
 refine⟨fun i b hs m=>?_,fun i b hs=>?_,by rw[l];simp;omega⟩
 · rw[l]at hs m⊢;rw[hb];rw[List.append_assoc,List.cons_append]at hs;have e:Std L (i+(prT a).length) (x.name::(zM c++b)):=hs.right;have B:Std L (i+(prT a).length+1) (zM c++b):=e.2;have C:i+(prT a++(x.name::zM c)).length=i+(prT a).length+1+(zM c).length:=by simp;omega
   rw[C]at m⊢;obtain⟨k1,t1⟩:=e.sign q2;have hi:i≤L.length - 1:=by have:=hs.mid;omega
   have r:=Nat.le_of_lt e.lt;have d:∀w∈onW,isT (zI L (i+(prT a).length)) w=false:=fun w d=>by rw[e.is q1];exact yAI (q6 w d)
   obtain⟨g1,g2,s⟩:=z i _ hs ⟨d _ jd,d _ jd,d _ jd⟩ (d _ jd);have D:=zD0 f hi g1 g2 (by rw[t1];exact fun h=>q3 h.2.1);have t:zBK (zI L (i+(prT a).length))=9:=by
    unfold zBK;rw[t1,q4];split<;>rfl
   have k:=zH6 f hi (zEq f hi r (zLH f hi r (yAC _) (zIy f hi D) t) (d _ jd) (d _ jd) (d _ jd)) (d _ jd);have u:=A.whole f B m;unfold Rn at k u⊢;rw[zS f ⟨hi,trivial⟩];unfold zD;dsimp only;rw[if_neg (fun h=>s.1 ⟨h.1,h.2.1⟩),if_neg s.2,k];dsimp only;rw[t1,if_neg (by rw[k1];simp[j]),zGP,y,if_neg js];show(trN 49 x.name [bareT a,(zE L .assign (pl (i+(prT a).length+1))).1],(zE L .assign (pl (i+(prT a).length+1))).2)=_;rw[u]
 · rw[l,List.append_assoc,List.cons_append]at hs;have e:Std L (i+(prT a).length) (x.name::(zM c++b)):=hs.right;have g:=p i _ hs;refine⟨g.k0,g.close,fun v=>?_⟩;rcases g.name v with h | h
   · have E:=q h;rw[E]at e;exact .inr ⟨by rw[e.is q1];exact yAI q7,by rw[e.is q1];exact yAI q8,by rw[e.is q1];exact yAI (q6 _ jd)⟩
   · exact .inr h
theorem zY5 (d:Lst L) (hk:x.kind=46) (q:zN x=true) (r:ExK L a) (C:ExK L c):ExO L (.mk x [a,c]):=by
 have hN:=zCM q jo jo jo jo;have s:x.name∈zWe:=by
  have:=hN.2.1;rw[hk]at this;exact of_decide_eq_true this
 obtain⟨q1,q2,q3,q4,q5,q6,q7⟩:=zVI _ s;have hb:bareT (.mk x [a,c])=trN 46 x.name [bareT a,bareT c]:=by rw[zDO q jo jo jo jo,hk,zO,zO,za]
 have o:prT (.mk x [a,c])=zM a++(x.name::zM c):=by rw[zAS,zH,zH,zY];unfold zAk zg;rw[hk];rfl
 refine⟨fun i b hs e=>?_,fun i b hs=>?_,by rw[o];simp;omega⟩
 · rw[o]at hs e⊢;rw[hb];rw[List.append_assoc,List.cons_append]at hs;have f:Std L (i+(zM a).length) (x.name::(zM c++b)):=hs.right;have j:Std L (i+(zM a).length+1) (zM c++b):=f.2;have D:i+(zM a++(x.name::zM c)).length=i+(zM a).length+1+(zM c).length:=by simp;omega
   rw[D]at e⊢;obtain⟨t1,k1⟩:=f.text2 q1;have hi:i≤L.length - 1:=by have:=hs.mid;omega
   have p:=Nat.le_of_lt f.lt;have k:=f.lt;have g:∀w∈onW,isT (zI L (i+(zM a).length)) w=false:=fun w g=>by rw[f.is q1];exact yAI (q4 w g)
   obtain⟨g1,g2⟩:=r.part d hs;obtain⟨E,F⟩:=C.part d j;obtain⟨n,t⟩:=jx (zEn x.name);rw[t]at q2;have l:zBK (zI L (i+(zM a).length))=n:=by
    unfold zBK;rw[t1,t,if_pos];rcases q7 with h | h
    · exact .inl (f.sign h).1
    · right;rw[f.is q1];exact decide_eq_true h
   have G:=g2.unary d hi p g1 ⟨g _ jd,g _ jd,g _ jd⟩ (by rw[t1];exact fun h=>q3 h.2.1);have u:=F.unary d k j.mid E e.m e.post;have v:Rn L (.level (n+1)) i (bareT a) (i+(zM a).length):=zH5 d hi p (7 - n) (n+1) jo (by rw[show n+1+(7 - n)=8 by omega];exact zIy d hi G) (fun m _ _=>by rw[l];omega);have z:Rn L (.level (n+1)) (i+(zM a).length+1) (bareT c) (i+(zM a).length+1+(zM c).length):=zH5 d k j.mid (7 - n) (n+1) jo (by rw[show n+1+(7 - n)=8 by omega];exact zIy d k u) (fun m _ _=>by rw[e.binds];omega);have A:Rn L (.levelL n (bareT a)) (i+(zM a).length) (trN 46 x.name [bareT a,bareT c]) (i+(zM a).length+1+(zM c).length):=by
    have B:=zHV (y:=trN 46 x.name [bareT a,bareT c]) d j.mid q2 (by rw[e.binds];omega);unfold Rn at z B⊢;rw[zS d ⟨p,q2⟩];unfold zD;dsimp only;rw[if_pos l,t1];show zE L (.levelL n (trN 46 x.name [bareT a,(zE L (.level (n+1)) (pl (i+(zM a).length+1))).1])) (zE L (.level (n+1)) (pl (i+(zM a).length+1))).2=_;rw[z];exact B
   have H:Rn L (.level n) i (trN 46 x.name [bareT a,bareT c]) (i+(zM a).length+1+(zM c).length):=by
    unfold Rn at v A⊢;rw[zS d ⟨hi,by show n≤8;omega⟩];unfold zD;dsimp only;rw[jn,v];exact A
   have I:=zLH d hi j.mid jo H e.binds;exact zEr d hi (zH6 d hi (zEq d hi j.mid I (e.words _ jd) (e.words _ jd) (e.words _ jd)) (e.words _ jd)) (g2.arr (g _ jd)) e.asgn
 · rw[o,List.append_assoc,List.cons_append]at hs;have f:Std L (i+(zM a).length) (x.name::(zM c++b)):=hs.right;obtain⟨_,g2⟩:=r.part d hs;refine zCV g2 (fun w g=>?_);rw[f.is q1];simp only[List.mem_cons,List.not_mem_nil,or_false]at g;rcases g with rfl | rfl | rfl
   · exact yAI q5
   · exact yAI q6
   · exact yAI (q4 _ jd)
end
section
variable {L:List Tok} {i j:Nat} {b:Tks}
theorem zVJ:∀s∈zUn,s∈zw∧zEn s=9∧s∉zDT∧s≠[40]∧s≠[46]∧s≠[91]∧s≠[61,62]∧s≠[44]∧s≠[41]:=by decide+kernel
theorem zEV (b:Lst L) (hi:i≤L.length - 1) (c:j≤L.length - 1) (h:Rn L .primary i y j) (p:Part L i j) (d:EndM (zI L j)) (e:¬((zI L j).kind=5∧(zI L j).text∈zDT∧(zI L j).nl=false)) (hb:zBK (zI L j)=9):Rn L (.level 0) i y j:=
 zLH b hi c (yAC _) (zIy b hi (p.unary b hi c h d e)) hb
theorem zY6 (d:Lst L) (hk:x.kind=47) (t:zN x=true) (u:ExK L a) (J:ExK L c):ExO L (.mk x [a,c]):=by
 have hN:=zCM t jo jo jo jo;have o:x.name∈zUn:=by
  have:=hN.2.1;rw[hk]at this;exact of_decide_eq_true this
 obtain⟨q2,q3,q4,q5,q6,q7,q8,M,v⟩:=zVJ _ o;have q1:x.name∈zw++zAF:=List.mem_append_left _ q2;have hb:bareT (.mk x [a,c])=trN 47 x.name [bareT a,bareT c]:=by rw[zDO t jo jo jo jo,hk,zO,zO,za]
 have s:prT (.mk x [a,c])=zM a++(x.name::zM c):=by rw[zAS,zH,zH,zY];unfold zAk zg;rw[hk];rfl
 refine⟨fun i b hs e=>?_,fun i b hs=>?_,by rw[s];simp;omega⟩
 · rw[s]at hs e⊢;rw[hb];rw[List.append_assoc,List.cons_append]at hs;have k:Std L (i+(zM a).length) (x.name::(zM c++b)):=hs.right;have z:Std L (i+(zM a).length+1) (zM c++b):=k.2;have N:i+(zM a++(x.name::zM c)).length=i+(zM a).length+1+(zM c).length:=by simp;omega
   rw[N]at e⊢;obtain⟨k1,t1⟩:=k.sign q2;have hi:i≤L.length - 1:=by have:=hs.mid;omega
   have p:=Nat.le_of_lt k.lt;have A:=k.lt;have j:=z.mid;obtain⟨g1,g2⟩:=u.part d hs;obtain⟨O,P⟩:=J.part d z;have B:zBK (zI L (i+(zM a).length))=9:=by
    unfold zBK;rw[t1,q3];split<;>rfl
   have C:=zEV d hi p g1 g2 (zOk k q1 ⟨q5,q6,q7⟩) (by rw[t1];exact fun h=>q4 h.2.1) B;have l:=zEV d A j O P e.m e.post e.binds;have g:∀w,isT (zI L (i+(zM a).length)) w=decide (x.name=w):=fun w=>k.is q1 w;have fin:Rn L .either i (trN 47 x.name [bareT a,bareT c]) (i+(zM a).length+1+(zM c).length)→Rn L .assign i (trN 47 x.name [bareT a,bareT c]) (i+(zM a).length+1+(zM c).length):=fun h=>
    zEr d hi (zH6 d hi h (e.words _ jd)) (g2.arr (by rw[g];exact yAI q8)) e.asgn
   apply fin;have f:x.name=[38,38]∨x.name=[124,124]∨x.name=[63,63]:=by
    unfold zUn at o;simpa using o
   unfold Rn at C⊢;rw[zS d ⟨hi,trivial⟩];unfold zD;dsimp only;rw[C];dsimp only;rcases f with f | f | f
   · -- &&:within both
     have q:Rn L (.both (bareT a)) (i+(zM a).length) (trN 47 x.name [bareT a,bareT c]) (i+(zM a).length+1+(zM c).length):=by
      have D:=zFy (y:=trN 47 x.name [bareT a,bareT c]) d j (e.words [38,38] jd);unfold Rn at l D⊢;rw[zS d ⟨p,trivial⟩];unfold zD;dsimp only;rw[if_pos (show onP L [38,38] (pl (i+(zM a).length))=true from by show isT _ _=true;rw[g,f];rfl)];show zE L (.both (trN 47 [38,38] [bareT a,(zE L (.level 0) (pl (i+(zM a).length+1))).1])) (zE L (.level 0) (pl (i+(zM a).length+1))).2=_;rw[l,←f];exact D
     have r:=zKD (y:=trN 47 x.name [bareT a,bareT c]) d j (e.words [124,124] jd);unfold Rn at q r;rw[if_neg (show¬onP L [63,63] (pl (i+(zM a).length))=true from by show¬isT _ _=true;rw[g,f];decide),q];dsimp only;rw[r];dsimp only;rw[if_neg (zCZ (e.words [63,63] jd) rfl)]
   · have q:=zFy (y:=bareT a) d p (by rw[g,f];rfl);have E:=zFy (y:=bareT c) d j (e.words [38,38] jd);have r:=zKD (y:=trN 47 x.name [bareT a,bareT c]) d j (e.words [124,124] jd);have F:Rn L (.orL (bareT a)) (i+(zM a).length) (trN 47 x.name [bareT a,bareT c]) (i+(zM a).length+1+(zM c).length):=by
      unfold Rn at l E r⊢;rw[zS d ⟨p,trivial⟩];unfold zD;dsimp only;rw[if_pos (show onP L [124,124] (pl (i+(zM a).length))=true from by show isT _ _=true;rw[g,f];rfl)];show zE L (.orL (trN 47 [124,124] [bareT a,(zE L (.both (zE L (.level 0) (pl (i+(zM a).length+1))).1) (zE L (.level 0) (pl (i+(zM a).length+1))).2).1])) (zE L (.both (zE L (.level 0) (pl (i+(zM a).length+1))).1) (zE L (.level 0) (pl (i+(zM a).length+1))).2).2=_;rw[l];dsimp only;rw[E,←f];exact r
     unfold Rn at q F;rw[if_neg (show¬onP L [63,63] (pl (i+(zM a).length))=true from by show¬isT _ _=true;rw[g,f];decide),q];dsimp only;rw[F];dsimp only;rw[if_neg (zCZ (e.words [63,63] jd) rfl)]
   · have G:Rn L (.nullL (bareT a)) (i+(zM a).length) (trN 47 x.name [bareT a,bareT c]) (i+(zM a).length+1+(zM c).length):=by
      have H:Rn L (.nullL (trN 47 x.name [bareT a,bareT c])) (i+(zM a).length+1+(zM c).length) (trN 47 x.name [bareT a,bareT c]) (i+(zM a).length+1+(zM c).length):=by
       unfold Rn;rw[zS d ⟨j,trivial⟩];unfold zD;dsimp only;rw[if_neg (zCZ (e.words [63,63] jd) rfl)]
      unfold Rn at l H⊢;rw[zS d ⟨p,trivial⟩];unfold zD;dsimp only;rw[if_pos (show onP L [63,63] (pl (i+(zM a).length))=true from by show isT _ _=true;rw[g,f];rfl)];show zE L (.nullL (trN 47 [63,63] [bareT a,(zE L (.level 0) (pl (i+(zM a).length+1))).1])) (zE L (.level 0) (pl (i+(zM a).length+1))).2=_;rw[l,←f];exact H
     unfold Rn at G;rw[if_pos (show onP L [63,63] (pl (i+(zM a).length))=true from by show isT _ _=true;rw[g,f];rfl),G];dsimp only;have w1:onP L [124,124] (pl (i+(zM a).length+1+(zM c).length))=false:=e.words [124,124] jd;have w2:onP L [38,38] (pl (i+(zM a).length+1+(zM c).length))=false:=e.words [38,38] jd;rw[w1,w2,ji]
 · rw[s,List.append_assoc,List.cons_append]at hs;have k:Std L (i+(zM a).length) (x.name::(zM c++b)):=hs.right;obtain⟨_,g2⟩:=u.part d hs;refine zCV g2 (fun w I=>?_);rw[k.is q1];simp only[List.mem_cons,List.not_mem_nil,or_false]at I;rcases I with rfl | rfl | rfl
   · exact yAI M
   · exact yAI v
   · exact yAI q8
theorem zLN {s:List UInt8} (h:Std L i (s::b)) (hs:s=[58]∨s=[93]∨s=[41]∨s=[44]):End (zI L i):=zDP h (by rcases hs with rfl | rfl | rfl | rfl<;>decide)
theorem zY7 (f:Lst L) (hk:x.kind=48) (s:zN x=true) (l:ExK L a) (t:ExK L c) (u:ExK L d):ExO L (.mk x [a,c,d]):=by
 have hb:bareT (.mk x [a,c,d])=trK 48 [bareT a,bareT c,bareT d]:=by rw[(zBh s (by rw[hk];decide) jo).1,hk,zO,zO,zO,za]
 have j:prT (.mk x [a,c,d])=zM a++([63]::(zM c++([58]::zM d))):=by rw[zAS,zH,zH,zH,zY];unfold zAk zg;rw[hk];rfl
 refine⟨fun i b hs g=>?_,fun i b hs=>?_,by rw[j];simp;omega⟩
 · rw[j]at hs g⊢;rw[hb];simp only[List.append_assoc,List.cons_append]at hs;have e:Std L (i+(zM a).length) ([63]::(zM c++([58]::(zM d++b)))):=hs.right;have m:Std L (i+(zM a).length+1) (zM c++([58]::(zM d++b))):=e.2;have k:Std L (i+(zM a).length+1+(zM c).length) ([58]::(zM d++b)):=m.right;have v:Std L (i+(zM a).length+1+(zM c).length+1) (zM d++b):=k.2;have y:i+(zM a++([63]::(zM c++([58]::zM d)))).length=i+(zM a).length+1+(zM c).length+1+(zM d).length:=by simp;omega
   rw[y]at g⊢;obtain⟨k1,t1⟩:=e.sign jd;have hi:i≤L.length - 1:=by have:=hs.mid;omega
   have o:=Nat.le_of_lt e.lt;obtain⟨g1,g2⟩:=l.part f hs;have p:zBK (zI L (i+(zM a).length))=9:=by
    unfold zBK;rw[t1];split<;>rfl
   have z:=zEV f hi o g1 g2 (zOk e jd jd) (by rw[t1];exact fun h=>absurd h.2.1 jd) p;have q:=t.whole f m (zLN k (.inl rfl));have r:=u.whole f v g;have e1:=zEq f hi o z (by rw[e.is jd];rfl) (by rw[e.is jd];rfl) (by rw[e.is jd];rfl);refine zEr f hi ?_ (g2.arr (by rw[e.is jd];rfl)) g.asgn;unfold Rn at e1 q r⊢;rw[zS f ⟨hi,trivial⟩];unfold zD;dsimp only;rw[e1];dsimp only;rw[if_pos (show onP L [63] (pl (i+(zM a).length))=true from by show isT _ _=true;rw[e.is jd];rfl)];rw[show zB (pl (i+(zM a).length))=pl (i+(zM a).length+1)from rfl,q];dsimp only;have A:zP L [58] (pl (i+(zM a).length+1+(zM c).length))=pl (i+(zM a).length+1+(zM c).length+1):=by
    unfold zP;rw[if_pos (show onP L [58] (pl (i+(zM a).length+1+(zM c).length))=true from by show isT _ _=true;rw[k.is jd];rfl)];rfl
   rw[A,r]
 · rw[j]at hs;simp only[List.append_assoc,List.cons_append]at hs;have e:Std L (i+(zM a).length) ([63]::(zM c++([58]::(zM d++b)))):=hs.right;obtain⟨_,g2⟩:=l.part f hs;refine zCV g2 (fun w B=>?_);rw[e.is jd];revert w;decide
theorem zLO (c:Lst L) (l:List Tr) (e:∀x∈l,ExK L x) (hs:Std L i ([40]::(zAW zb (prs l)++([41]::b)))):Rn L .args i (trK 0 (bareL l)) (i+(zAW zb (prs l)).length+2):=by
 have f:Std L (i+1) (zAW zb (prs l)++([41]::b)):=hs.2;have d:=zLM c (.inl rfl) l e f;unfold Rn at d⊢;rw[zS c ⟨Nat.le_of_lt hs.lt,hs.lt⟩];unfold zD;dsimp only;have g:zP L [40] (pl i)=pl (i+1):=by
  unfold zP;rw[if_pos (show onP L [40] (pl i)=true from by show isT _ _=true;rw[hs.is jd];rfl)];rfl
 rw[g,d];simp only[Prod.mk.injEq,Ps.mk.injEq,true_and,and_true];omega
theorem zY8 (c:Lst L) (hk:x.kind=50) (p:zN x=true) (j:ExK L a) (q:∀t∈l,ExK L t):ExO L (.mk x (a::l)):=by
 have hb:bareT (.mk x (a::l))=trK 50 (bareT a::bareL l):=by rw[(zBh p (by rw[hk];decide) jo).1,hk,zO]
 have g:prT (.mk x (a::l))=zM a++([40]::(zAW zb (prs l)++[[41]])):=by rw[zAS,zH];unfold zAk zg;rw[hk];rfl
 refine⟨fun i b hs e=>?_,fun i b hs=>?_,by rw[g];simp;omega⟩
 · rw[g]at hs e⊢;rw[hb];simp only[List.append_assoc,List.cons_append,List.nil_append]at hs;have d:Std L (i+(zM a).length) ([40]::(zAW zb (prs l)++([41]::b))):=hs.right;have r:i+(zM a++([40]::(zAW zb (prs l)++[[41]]))).length=i+(zM a).length+(zAW zb (prs l)).length+2:=by simp;omega
   rw[r]at e⊢;have hi:i≤L.length - 1:=by have:=hs.mid;omega
   have s:=Nat.le_of_lt d.lt;have f:i+(zM a).length+(zAW zb (prs l)).length+2≤L.length - 1:=by
    have:=d.le;simp only[List.length_cons,List.length_append]at this;omega
   obtain⟨g1,g2⟩:=j.part c hs;have k:=zLO c l q d;have o:=zCy (y:=trK 50 (bareT a::bareL l)) c f e.m;have c1:Rn L (.callsL (bareT a)) (i+(zM a).length) (trK 50 (bareT a::bareL l)) (i+(zM a).length+(zAW zb (prs l)).length+2):=by
    unfold Rn at k o⊢;rw[zS c ⟨s,trivial⟩];unfold zD;dsimp only;rw[if_pos (show onP L [40] (pl (i+(zM a).length))=true from by show isT _ _=true;rw[d.is jd];rfl),k];exact o
   refine zCa c hi f (zD0 c hi (zEp c hi (zGQ c hi g1 g2.new_) c1) g2.pre e.post) e (g2.arr (by rw[d.is jd];rfl))
 · rw[g]at hs;simp only[List.append_assoc,List.cons_append]at hs;have d:Std L (i+(zM a).length) ([40]::(zAW zb (prs l)++(([41]::[])++b))):=hs.right;obtain⟨_,g2⟩:=j.part c hs;refine zCV g2 (fun w u=>?_);rw[d.is jd];revert w;decide
theorem zY9 (c:Lst L) (hk:x.kind=51) (p:zN x=true) (q:ExK L a) (r:∀t∈l,ExK L t):ExO L (.mk x (a::l)):=by
 have hb:bareT (.mk x (a::l))=trK 51 (bareT a::bareL l):=by rw[(zBh p (by rw[hk];decide) jo).1,hk,zO]
 have g:prT (.mk x (a::l))=[110,101,119]::(zM a++([40]::(zAW zb (prs l)++[[41]]))):=by rw[zAS,zH];unfold zAk zg;rw[hk];rfl
 refine⟨fun i b hs e=>?_,fun i b hs=>?_,by rw[g];simp⟩
 · rw[g]at hs e⊢;rw[hb];simp only[List.append_assoc,List.cons_append,List.nil_append]at hs;have h1:Std L (i+1) (zM a++([40]::(zAW zb (prs l)++([41]::b)))):=hs.2;have d:Std L (i+1+(zM a).length) ([40]::(zAW zb (prs l)++([41]::b))):=h1.right;have s:i+([110,101,119]::(zM a++([40]::(zAW zb (prs l)++[[41]])))).length=i+1+(zM a).length+(zAW zb (prs l)).length+2:=by simp;omega
   rw[s]at e⊢;have hi:=Nat.le_of_lt hs.lt;have j:=hs.lt;have u:=Nat.le_of_lt d.lt;have f:i+1+(zM a).length+(zAW zb (prs l)).length+2≤L.length - 1:=by
    have:=d.le;simp only[List.length_cons,List.length_append]at this;omega
   obtain⟨k0,v⟩:=hs.word jd;obtain⟨g1,g2⟩:=q.part c h1;have k:=zGQ c j g1 g2.new_;have o:=zLO c l r d;have m1:Rn L (.headL (bareT a)) (i+1+(zM a).length) (bareT a) (i+1+(zM a).length):=by
    unfold Rn;rw[zS c ⟨u,trivial⟩];unfold zD;dsimp only;rw[if_neg (show¬onP L [46] (pl (i+1+(zM a).length))=true from by show¬isT _ _=true;rw[d.is jd];decide),if_neg (show¬onP L [91] (pl (i+1+(zM a).length))=true from by show¬isT _ _=true;rw[d.is jd];decide)]
   have z:Rn L .head i (trK 51 (bareT a::bareL l)) (i+1+(zM a).length+(zAW zb (prs l)).length+2):=by
    unfold Rn at k o m1⊢;rw[zS c ⟨hi,trivial⟩];unfold zD;dsimp only;rw[if_pos (show onP L [110,101,119] (pl i)=true from by show isT _ _=true;rw[hs.is jd];rfl)];rw[show zB (pl i)=pl (i+1)from rfl,k];dsimp only;rw[m1];dsimp only;rw[if_pos (show onP L [40] (pl (i+1+(zM a).length))=true from by show isT _ _=true;rw[d.is jd];rfl),o];rfl
   have A:=zCy (y:=trK 51 (bareT a::bareL l)) c f e.m;refine zCa c hi f (zD0 c hi (zEp c hi z A) ?_ e.post) e (zD4 hs jd jd);unfold zOW;rw[v];exact⟨fun h=>absurd h.2 jd,fun h=>absurd h.2 jd⟩
 · rw[g,List.cons_append]at hs;exact zC0 hs jd jd
theorem zZA (d:Lst L) (hk:x.kind=52) (m:zN x=true) (o:ExK L a):zRz L (.mk x [a])∧ExF L (.mk x [a])∧0 < (prT (.mk x [a])).length:=by
 have hN:=zCM m jo jo jo jo;have p:zF9 x.name=true:=by
  have:=hN.2.1;rwa[hk]at this
 have hb:bareT (.mk x [a])=trN 52 x.name [bareT a]:=by rw[zDO m jo jo jo jo,hk,zO,za]
 have f:prT (.mk x [a])=zM a++([46]::[x.name]):=by rw[zAS,zH,zY];unfold zAk zg;rw[hk];rfl
 refine⟨fun i b hs g e=>?_,fun i b hs=>?_,by rw[f];simp⟩
 · rw[f]at hs g e⊢;rw[hb];simp only[List.append_assoc,List.cons_append,List.nil_append]at hs;have c:Std L (i+(zM a).length) ([46]::(x.name::b)):=hs.right;have j:Std L (i+(zM a).length+1) (x.name::b):=c.2;have r:i+(zM a++([46]::[x.name])).length=i+(zM a).length+1+1:=by simp;omega
   rw[r]at g e⊢;have hi:i≤L.length - 1:=by have:=hs.mid;omega
   have s:=Nat.le_of_lt c.lt;have l:=j.lt;obtain⟨k3,t3⟩:=zRo p;obtain⟨g1,g2⟩:=o.part d hs;have q:=zCy (y:=trN 52 x.name [bareT a]) d l g;have c1:Rn L (.callsL (bareT a)) (i+(zM a).length) (trN 52 x.name [bareT a]) (i+(zM a).length+1+1):=by
    unfold Rn at q⊢;rw[zS d ⟨s,trivial⟩];unfold zD;dsimp only;rw[if_neg (show¬onP L [40] (pl (i+(zM a).length))=true from by show¬isT _ _=true;rw[c.is jd];decide),if_pos (show onP L [46] (pl (i+(zM a).length))=true from by show isT _ _=true;rw[c.is jd];rfl)];rw[show zB (pl (i+(zM a).length))=pl (i+(zM a).length+1)from rfl];rw[show(pl (i+(zM a).length+1)).k=i+(zM a).length+1 from rfl,j.kind,j.text,t3,jn];exact q
   exact⟨zEp d hi (zGQ d hi g1 g2.new_) c1,g2.pre,g2.arr (by rw[c.is jd];rfl)⟩
 · rw[f]at hs;simp only[List.append_assoc,List.cons_append,List.nil_append]at hs;have c:Std L (i+(zM a).length) ([46]::(x.name::b)):=hs.right;obtain⟨_,g2⟩:=o.part d hs;refine zCV g2 (fun w t=>?_);rw[c.is jd];revert w;decide
theorem zZB (e:Lst L) (hk:x.kind=53) (r:zN x=true) (m:ExK L a) (s:ExK L c):zRz L (.mk x [a,c])∧ExF L (.mk x [a,c])∧0 < (prT (.mk x [a,c])).length:=by
 have hb:bareT (.mk x [a,c])=trK 53 [bareT a,bareT c]:=by rw[(zBh r (by rw[hk];decide) jo).1,hk,zO,zO,za]
 have g:prT (.mk x [a,c])=zM a++([91]::(zM c++[[93]])):=by rw[zAS,zH,zH,zY];unfold zAk zg;rw[hk];rfl
 refine⟨fun i b hs j f=>?_,fun i b hs=>?_,by rw[g];simp;omega⟩
 · rw[g]at hs j f⊢;rw[hb];simp only[List.append_assoc,List.cons_append,List.nil_append]at hs;have d:Std L (i+(zM a).length) ([91]::(zM c++([93]::b))):=hs.right;have o:Std L (i+(zM a).length+1) (zM c++([93]::b)):=d.2;have k:Std L (i+(zM a).length+1+(zM c).length) ([93]::b):=o.right;have t:i+(zM a++([91]::(zM c++[[93]]))).length=i+(zM a).length+1+(zM c).length+1:=by simp;omega
   rw[t]at j f⊢;have hi:i≤L.length - 1:=by have:=hs.mid;omega
   have u:=Nat.le_of_lt d.lt;have l:=k.lt;obtain⟨g1,g2⟩:=m.part e hs;have p:=s.whole e o (zLN k (.inr (.inl rfl)));have q:=zCy (y:=trK 53 [bareT a,bareT c]) e l j;have c1:Rn L (.callsL (bareT a)) (i+(zM a).length) (trK 53 [bareT a,bareT c]) (i+(zM a).length+1+(zM c).length+1):=by
    unfold Rn at p q⊢;rw[zS e ⟨u,trivial⟩];unfold zD;dsimp only;rw[if_neg (show¬onP L [40] (pl (i+(zM a).length))=true from by show¬isT _ _=true;rw[d.is jd];decide),if_neg (show¬onP L [46] (pl (i+(zM a).length))=true from by show¬isT _ _=true;rw[d.is jd];decide),if_pos (show onP L [91] (pl (i+(zM a).length))=true from by show isT _ _=true;rw[d.is jd];rfl)];rw[show zB (pl (i+(zM a).length))=pl (i+(zM a).length+1)from rfl,p];dsimp only;have v:zP L [93] (pl (i+(zM a).length+1+(zM c).length))=pl (i+(zM a).length+1+(zM c).length+1):=by
     unfold zP;rw[if_pos (show onP L [93] (pl (i+(zM a).length+1+(zM c).length))=true from by show isT _ _=true;rw[k.is jd];rfl)];rfl
    rw[v];exact q
   exact⟨zEp e hi (zGQ e hi g1 g2.new_) c1,g2.pre,g2.arr (by rw[d.is jd];rfl)⟩
 · rw[g]at hs;simp only[List.append_assoc,List.cons_append,List.nil_append]at hs;have d:Std L (i+(zM a).length) ([91]::(zM c++([93]::b))):=hs.right;obtain⟨_,g2⟩:=m.part e hs;refine zCV g2 (fun w z=>?_);rw[d.is jd];revert w;decide
theorem zMY (d:Lst L) (h:zRz L t) (f:0 < (prT t).length):ExA L t:=fun i b hs c=>by
 obtain⟨g1,g2,e⟩:=h i b hs c.m (c.words _ jd);have hi:i≤L.length - 1:=by have:=hs.mid;omega
 exact zCa d hi hs.mid (zD0 d hi g1 g2 c.post) c e
theorem zWp (f:Lst L) (hg:goodT (.mk x l)=true) (h1:30≤x.kind) (j:x.kind≤37) (hs:Short x):ExO L (.mk x l)∧(x.kind=33→zRz L (.mk x l)):=by
 obtain⟨s,e,g⟩:=zKG f hg h1 j hs;refine⟨⟨fun i b hs c=>?_,fun i b hs=>?_,by rw[e];simp⟩,fun k i b hs c d=>?_⟩
 · rw[e]at hs c⊢;obtain⟨g1,g2⟩:=g i b hs;exact(zEv g2).all f (Nat.le_of_lt hs.lt) hs.lt g1 c
 · rw[e]at hs;obtain⟨g1,g2⟩:=g i b hs;exact⟨g2.k0,g2.close,fun h=>.inl (g2.name h)⟩
 · rw[e]at hs c d⊢;obtain⟨g1,g2⟩:=g i b hs;exact⟨(zEv g2).calls f (Nat.le_of_lt hs.lt) hs.lt g1 c,g2.pre,(zEv g2).arr d⟩
end
structure NxT (t:Tok) (d:Bool):Prop where
 fin:isT t [102,105,110,97,108,108,121]=false
 cat:isT t [99,97,116,99,104]=false
 els:d=true→isT t [101,108,115,101]=false
structure StK (L:List Tok) (t:Tr):Prop where
 run:∀i b,Std L i (prT t++b)→NxT (zI L (i+(prT t).length)) (dangT t)→Rn L .item i (bareT t) (i+(prT t).length)∧(zEP t.nd.kind=true→Rn L .statement i (bareT t) (i+(prT t).length))
 first:∀i b,Std L i (prT t++b)→(zI L i).kind≠0∧NxT (zI L i) true∧isT (zI L i) [125]=false
 pos:0 < (prT t).length
def zOm (L:List Tok) (t:Tr):Prop:=∀i b,Std L i (prT t++b)→Rn L .block i (bareT t) (i+(prT t).length)
section
variable {L:List Tok} {i j:Nat} {b:Tks}
theorem zH9 {s:List UInt8} {d:Bool} (h:Std L i (s::b)) (hs:s∈zw++zAF) (h1:s≠[102,105,110,97,108,108,121]) (c:s≠[99,97,116,99,104]) (e:s≠[101,108,115,101]):NxT (zI L i) d:=
 ⟨by rw[h.is hs];exact yAI h1,by rw[h.is hs];exact yAI c,fun _=>by rw[h.is hs];exact yAI e⟩
theorem NxT.any {t:Tok} (h:NxT t true) (d:Bool):NxT t d:=⟨h.fin,h.cat,fun _=>h.els rfl⟩
theorem zBs (h:Std L i (w::b)) (c:w∈zw++zAF):zP L w (pl i)=pl (i+1):=by
 unfold zP;rw[if_pos (show onP L w (pl i)=true from by show isT _ _=true;rw[h.is c];simp)];rfl
theorem zFR {v:List UInt8} (h:Std L i (w::b)) (c:w∈zw++zAF):onP L v (pl i)=decide (w=v):=by
 show isT _ _=_;exact h.is c v
theorem zEW (h:Std L i ([59]::b)):zEF L (pl i)=pl (i+1):=by
 unfold zEF;rw[zFR h jd,if_pos jd];rfl
theorem zDk {s:List UInt8} (h:Std L i (s::b)) (c:zBn s=true):zo L (pl i)=(s,pl (i+1)):=by
 obtain⟨k1,t1⟩:=h.name c;unfold zo;rw[show(pl i).k=i from rfl,if_pos k1,t1];rfl
theorem zCd (t:Tr) (l:List Tr):(prs (t::l)).flatMap (·.2)=prT t++(prs l).flatMap (·.2):=by rw[zH,List.flatMap_cons]
theorem zMZ (j:Lst L):∀(l:List Tr) (c:List Tr) (i:Nat) (b:Tks),(∀t∈l,StK L t)→Std L i ((prs l).flatMap (·.2)++([125]::b))→Rn L (.blockL c) i (trK 4 (c++bareL l)) (i+((prs l).flatMap (·.2)).length+1):=by
 intro l
 induction l with
 | nil=>
  intro c i b _ hs;rw[zY]at hs⊢;have g:Std L i ([125]::b):=hs;unfold Rn;rw[zS j ⟨Nat.le_of_lt g.lt,trivial⟩];unfold zD;dsimp only;rw[if_neg js,zFR g jd,if_pos jd,za,List.append_nil];rfl
 | cons t l o=>
  intro c i b f hs;rw[zCd,List.append_assoc]at hs;have d:Std L (i+(prT t).length) ((prs l).flatMap (·.2)++([125]::b)):=hs.right;have k:NxT (zI L (i+(prT t).length)) true:=by
   cases l with
   | nil=>rw[zY]at d;exact zH9 (show Std L _ ([125]::b)from d) jd jd jd jd
   | cons u l=>
    rw[zCd,List.append_assoc]at d;exact((f u js).first _ _ d).2.1
  have m:=((f t js).run i _ hs (k.any _)).1;have e:=o (c++[bareT t]) _ b (fun u p=>f u (List.mem_cons_of_mem _ p)) d;have q:=(f t js).first i _ hs;have hi:i≤L.length - 1:=by have:=hs.mid;omega
  unfold Rn at m e⊢;rw[zS j ⟨hi,trivial⟩];unfold zD;dsimp only;rw[if_neg js,if_neg (zCZ q.2.2 rfl),m];dsimp only;rw[e,zCd,zO];simp only[List.append_assoc,List.singleton_append,Prod.mk.injEq,Ps.mk.injEq,true_and,and_true,List.length_append];omega
theorem zWq (c:Lst L) (hk:x.kind=4) (e:zN x=true) (f:∀t∈l,StK L t):zOm L (.mk x l):=by
 intro i b hs;have hb:bareT (.mk x l)=trK 4 (bareL l):=by rw[(zBh e (by rw[hk];decide) jo).1,hk]
 have g:prT (.mk x l)=[123]::((prs l).flatMap (·.2)++[[125]]):=by rw[zAS];unfold zAk zi;rw[hk];rfl
 rw[g]at hs⊢;rw[hb];simp only[List.append_assoc,List.cons_append,List.nil_append]at hs;have j:Std L (i+1) ((prs l).flatMap (·.2)++([125]::b)):=hs.2;have d:=zMZ c l [] (i+1) b f j;unfold Rn at d⊢;rw[zS c ⟨Nat.le_of_lt hs.lt,trivial⟩];unfold zD;dsimp only;rw[zBs hs jd,d];simp only[List.nil_append,Prod.mk.injEq,Ps.mk.injEq,true_and,and_true,List.length_cons,List.length_append,List.length_nil];omega
structure PrmK (t:Tr):Prop where
 name:zBn t.nd.name=true
 bare:bareT t=trN 20 t.nd.name []
 pr:prT t=[t.nd.name]
theorem zR0 (hg:goodT t=true) (hk:t.nd.kind=20):PrmK t:=by
 cases t with
 | mk x l=>
  have b:x.kind=20:=hk;obtain⟨c,d,_⟩:=zCU hg;have hN:=zCM c jo jo jo jo;obtain rfl:=zI2 d (by rw[b];rfl);have h1:zBn x.name=true:=by
   have:=hN.2.1;rwa[b]at this
  refine⟨h1,?_,?_⟩
  · rw[zDO c jo jo jo jo,b,za];rfl
  · rw[zAS];unfold zAk zi;rw[b];rfl
theorem zVK (l:Lst L):∀(r:List Tr) (t:Tr) (d:List Tr) (i:Nat) (b:Tks),(∀x∈t::r,PrmK x)→Std L i (zAW (·.2) (prs (t::r))++([41]::b))→Rn L (.paramL d) i (trK 0 (d++bareL (t::r))) (i+(zAW (·.2) (prs (t::r))).length+1):=by
 intro r
 induction r with
 | nil=>
  intro t d i b k hs;have f:=k t js;have e:zAW (·.2) (prs [t])=[t.nd.name]:=by rw[zH,zY,f.pr];rfl
  rw[e]at hs⊢;have c:Std L i (t.nd.name::([41]::b)):=hs;have g:Std L (i+1) ([41]::b):=c.2;unfold Rn;rw[zS l ⟨Nat.le_of_lt c.lt,trivial⟩];unfold zD;dsimp only;rw[zDk c f.name];dsimp only;rw[if_neg js,zFR g jd,if_pos jd,zO,za,f.bare];rfl
 | cons u r o=>
  intro t d i b k hs;have f:=k t js;have e:zAW (·.2) (prs (t::u::r))=t.nd.name::([44]::zAW (·.2) (prs (u::r))):=by rw[zH,f.pr,zH];rfl
  rw[e]at hs⊢;have c:Std L i (t.nd.name::([44]::(zAW (·.2) (prs (u::r))++([41]::b)))):=hs;have g:Std L (i+1) ([44]::(zAW (·.2) (prs (u::r))++([41]::b))):=c.2;have p:Std L (i+1+1) (zAW (·.2) (prs (u::r))++([41]::b)):=g.2;have j:=o u (d++[trN 20 t.nd.name []]) _ b (fun x m=>k x (List.mem_cons_of_mem _ m)) p;unfold Rn at j⊢;rw[zS l ⟨Nat.le_of_lt c.lt,trivial⟩];unfold zD;dsimp only;rw[zDk c f.name];dsimp only;rw[if_neg js,zFR g jd,ji,zBs g jd,j,zO t,f.bare];simp only[List.append_assoc,List.singleton_append,Prod.mk.injEq,Ps.mk.injEq,true_and,and_true,List.length_cons];omega
theorem zHZ (d:Lst L) (l:List Tr) (f:∀x∈l,PrmK x) (hs:Std L i (zu (prs l)++b)):Rn L .params i (trK 0 (bareL l)) (i+(zu (prs l)).length):=by
 unfold zu at hs⊢;simp only[List.append_assoc,List.cons_append,List.nil_append]at hs;have c:Std L (i+1) (zAW (·.2) (prs l)++([41]::b)):=hs.2;unfold Rn;rw[zS d ⟨Nat.le_of_lt hs.lt,trivial⟩];unfold zD;dsimp only;rw[zBs hs jd];cases l with
 | nil=>
  have m:Std L (i+1) ([41]::b):=by rw[zY]at c;exact c
  rw[zFR m jd,if_pos jd,zY,za];rfl
 | cons t r=>
  have g:=zVK d r t [] (i+1) b f c;have j:onP L [41] (pl (i+1))=false:=by
   have k:=f t js;have e:∃q,zAW (·.2) (prs (t::r))=t.nd.name::q:=by rw[zH,k.pr];exact⟨_,rfl⟩
   obtain⟨q,o⟩:=e;rw[o]at c;obtain⟨k1,_⟩:=(show Std L (i+1) (t.nd.name::(q++([41]::b)))from c).name k.name;show isT (zI L (i+1)) [41]=false;unfold isT;rw[k1];simp
  unfold Rn at g;rw[j,ji,g];simp only[List.nil_append,Prod.mk.injEq,Ps.mk.injEq,true_and,and_true,List.length_cons,List.length_append,List.length_nil];omega
theorem zIA (d:Lst L) {n:List UInt8} (e:∀x∈l,PrmK x) (f:zOm L c) (hs:Std L i (zu (prs l)++(prT c++b))):Rn L (.func k n) i (trN k n (bareL l++[bareT c])) (i+(zu (prs l)).length+(prT c).length):=by
 have g:Std L (i+(zu (prs l)).length) (prT c++b):=hs.right;have r1:=zHZ d l e hs;have r2:=f _ _ g;have hi:i≤L.length - 1:=by have:=hs.mid;omega
 unfold Rn at r1 r2⊢;rw[zS d ⟨hi,trivial⟩];unfold zD;dsimp only;rw[r1];dsimp only;rw[r2];rfl
theorem zC1 (l:List Tr) (c:Tr):(prs (l++[c])).dropLast=prs l∧(kd (prs (l++[c])) ((prs (l++[c])).length - 1))=(c.nd.kind,prT c):=by
 have e:prs (l++[c])=prs l++[(c.nd.kind,prT c)]:=by rw[zB0,zB0,List.map_append];rfl
 rw[e];refine⟨by simp,?_⟩;unfold kd;simp
theorem zMa:∀(r:List Tr) (t:Tr) (i:Nat) (b:Tks) (f:Nat),(∀x∈t::r,PrmK x)→Std L i (zAW (·.2) (prs (t::r))++([41]::b))→r.length < f→zEJ L f i=some (i+(zAW (·.2) (prs (t::r))).length):=by
 intro r
 induction r with
 | nil=>
  intro t i b f j hs k;obtain⟨f,rfl⟩:∃g,f=g+1:=⟨f - 1,by simp at k;omega⟩;have d:=j t js;have e:zAW (·.2) (prs [t])=[t.nd.name]:=by rw[zH,zY,d.pr];rfl
  rw[e]at hs⊢;have c:Std L i (t.nd.name::([41]::b)):=hs;have l:Std L (i+1) ([41]::b):=c.2;unfold zEJ;rw[if_pos (c.name d.name).1,l.is jd,ji];rfl
 | cons u r p=>
  intro t i b f j hs k;obtain⟨f,rfl⟩:∃g,f=g+1:=⟨f - 1,by simp at k;omega⟩;have d:=j t js;have e:zAW (·.2) (prs (t::u::r))=t.nd.name::([44]::zAW (·.2) (prs (u::r))):=by rw[zH,d.pr,zH];rfl
  rw[e]at hs⊢;have c:Std L i (t.nd.name::([44]::(zAW (·.2) (prs (u::r))++([41]::b)))):=hs;have l:Std L (i+1) ([44]::(zAW (·.2) (prs (u::r))++([41]::b))):=c.2;have q:Std L (i+2) (zAW (·.2) (prs (u::r))++([41]::b)):=l.2;have m:=p u (i+2) b f (fun x o=>j x (List.mem_cons_of_mem _ o)) q (by simp at k;omega);unfold zEJ;rw[if_pos (c.name d.name).1,l.is jd,if_pos jd,m];simp only[List.length_cons,Option.some.injEq];omega
theorem zOn:∀(r:List Tr) (t:Tr),(∀x∈t::r,PrmK x)→r.length < (zAW (·.2) (prs (t::r))).length:=by
 intro r
 induction r with
 | nil=>intro t b;rw[zH,zY,(b t js).pr];simp[zAW,zGH]
 | cons u r d=>
  intro t b;have:=d u (fun x c=>b x (List.mem_cons_of_mem _ c));have e:zAW (·.2) (prs (t::u::r))=t.nd.name::([44]::zAW (·.2) (prs (u::r))):=by rw[zH,(b t js).pr,zH];rfl
  rw[e];simp only[List.length_cons]at this⊢;omega
theorem zMb (f:∀x∈l,PrmK x) (hs:Std L i (zu (prs l)++([61,62]::b))):zAg L (pl i)=true:=by
 unfold zu at hs;simp only[List.append_assoc,List.cons_append,List.nil_append]at hs;have c:Std L (i+1) (zAW (·.2) (prs l)++([41]::([61,62]::b))):=hs.2;unfold zAg;rw[zFR hs jd];rw[show(pl i).k+1=i+1 from rfl];cases l with
 | nil=>
  have d:Std L (i+1) ([41]::([61,62]::b)):=by rw[zY]at c;exact c
  have g:Std L (i+1+1) ([61,62]::b):=d.2;rw[d.is jd,if_pos jd];unfold zBr;rw[d.is jd,g.is jd];rfl
 | cons t r=>
  have j:=f t js;have d:Std L (i+1+(zAW (·.2) (prs (t::r))).length) ([41]::([61,62]::b)):=c.right;have g:Std L (i+1+(zAW (·.2) (prs (t::r))).length+1) ([61,62]::b):=d.2;have s:=c.mid;have o:=zOn r t f;have hN:=zMa r t (i+1) _ L.length f c jo;have m:isT (zI L (i+1)) [41]=false:=by
   have e:∃q,zAW (·.2) (prs (t::r))=t.nd.name::q:=by rw[zH,j.pr];exact⟨_,rfl⟩
   obtain⟨q,p⟩:=e;rw[p]at c;obtain⟨k1,_⟩:=(show Std L (i+1) (t.nd.name::(q++_))from c).name j.name;unfold isT;rw[k1];simp
  rw[m,ji,hN];unfold zBr;dsimp only;rw[d.is jd,g.is jd];rfl
end
section
variable {L:List Tok} {i j:Nat} {b:Tks}
theorem zOo {s:List UInt8} (h:Std L i (s::b)) (hs:s∈zw++zAF) (d:s∉zHN∧s∉zDT) (c:s≠[110,101,119]∧s≠[41]∧s≠[93]∧s≠[40]) (e:i < j):Part L i j:=by
 obtain⟨t1,t2⟩:=h.text2 hs;exact⟨by omega,⟨fun h=>d.1 (by rw[←t1];exact h.2),fun h=>d.2 (by rw[←t1];exact h.2)⟩,by rw[h.is hs];exact yAI c.1,by rw[h.is hs];exact yAI c.2.1,by rw[h.is hs];exact yAI c.2.2.1,e,fun _=>zD4 h hs c.2.2.2,fun h=>by omega⟩
theorem zOp (g:Lst L) {s:List UInt8} {r:Tks} (e:prT t=s::r) (hs:s∈zw++zAF) (j:s∉zHN∧s∉zDT) (f:s≠[110,101,119]∧s≠[41]∧s≠[93]∧s≠[40]) (h:∀i b,Std L i (prT t++b)→Rn L .primary i (bareT t) (i+(prT t).length)):ExO L t:=by
 have k:0 < (prT t).length:=by rw[e];simp
 refine⟨fun i b c l=>?_,fun i b c=>?_,k⟩
 · have d:=c;rw[e,List.cons_append]at d;exact(zOo d hs j f jo).all g (Nat.le_of_lt d.lt) c.mid (h i b c) l
 · rw[e,List.cons_append]at c;exact zC0 c hs f.2.1
theorem zR1 (h:Std L i ([91]::b)):zD L (zE L) .primary (pl i)=(trK 38 (zE L (.list [93]) (pl (i+1))).1.subs,(zE L (.list [93]) (pl (i+1))).2):=by
 obtain⟨k1,t1⟩:=h.sign jd;unfold zD;dsimp only;rw[k1,ji,ji,ji,ji,ji,t1,ji,ji,ji,ji,if_pos rfl];rfl
theorem zR2 (h:Std L i ([123]::b)):zD L (zE L) .primary (pl i)=zE L .object (pl (i+1)):=by
 obtain⟨k1,t1⟩:=h.sign jd;unfold zD;dsimp only;rw[k1,ji,ji,ji,ji,ji,t1,ji,ji,ji,ji,ji,if_pos rfl];rfl
theorem zR3 (h:Std L i ([102,117,110,99,116,105,111,110]::b)):zD L (zE L) .primary (pl i)=(if(zI L (i+1)).kind=1 then zE L (.func 41 (zo L (pl (i+1))).1) (zo L (pl (i+1))).2 else zE L (.func 41 []) (pl (i+1))):=by
 obtain⟨k1,t1⟩:=h.word jd;unfold zD;dsimp only;rw[k1,ji,ji,ji,ji,ji,t1,ji,ji,ji,ji,ji,ji,if_pos rfl];rfl
theorem zZC (c:Lst L) (hk:x.kind=38) (e:zN x=true) (f:∀t∈l,ExK L t):ExO L (.mk x l):=by
 have hb:bareT (.mk x l)=trK 38 (bareL l):=by rw[(zBh e (by rw[hk];decide) jo).1,hk]
 have d:prT (.mk x l)=[91]::(zAW zb (prs l)++[[93]]):=by rw[zAS];unfold zAk zg;rw[hk];rfl
 refine zOp c d jd jd jd fun i b hs=>?_;rw[d]at hs⊢;rw[hb];simp only[List.append_assoc,List.cons_append,List.nil_append]at hs;have r:=zLM c (.inr rfl) l f (show Std L (i+1) (zAW zb (prs l)++([93]::b))from hs.2);unfold Rn at r⊢;rw[zBX c (Nat.le_of_lt hs.lt),zR1 hs,r];simp only[List.length_cons,List.length_append,List.length_nil,Prod.mk.injEq,Ps.mk.injEq,and_true];exact⟨rfl,by omega⟩
structure PrpK (L:List Tok) (t:Tr):Prop where
 run:∀i b,Std L i (prT t++b)→End (zI L (i+(prT t).length))→Rn L .prop i (bareT t) (i+(prT t).length)
 first:∀i b,Std L i (prT t++b)→isT (zI L i) [125]=false
theorem zVL (h:zN x=true) (hk:x.kind=40):({x with kids:=[]}:Nd)={zB9 with kind:=40,str:=x.str}∧x.str.length≤4096:=by
 obtain⟨k,n,u,nk,nn,g,m,ks⟩:=x;simp only at hk;subst hk;unfold zN at h;simp only at h;split at h
 · cases h
 split at h
 · cases h
 split at h
 · cases h
 split at h
 · cases h
 rename_i a0 a1 a2 a3
 simp at a2 a3 h;obtain⟨rfl,rfl⟩:=a2;obtain⟨rfl,rfl⟩:=a3;obtain⟨rfl,b⟩:=h;exact⟨rfl,b⟩
theorem zZD (d:Lst L) (hk:x.kind=40) (g:zN x=true) (j:ExK L a):PrpK L (.mk x [a]):=by
 obtain⟨f1,k⟩:=zVL g hk;have hb:bareT (.mk x [a])=.mk {zB9 with kind:=40,str:=x.str} [bareT a]:=by rw[zCQ,f1,zO,za]
 have e:prT (.mk x [a])=zFg x.str::[58]::zM a:=by rw[zAS,zH,zY];unfold zAk zg;rw[hk];rfl
 have l:=zLK k;have tok:∀{i:Nat} {r:Tks},Std L i (zFg x.str::r)→(zI L i).kind=4∧(zI L i).str=x.str:=by
  intro i r h;obtain⟨e1,_,e3,_,_,_⟩:=h.eq;rw[l]at e1 e3;exact⟨e1.symm,e3.symm⟩
 refine⟨fun i b hs c=>?_,fun i b hs=>?_⟩
 · rw[e]at hs c⊢;rw[hb];simp only[List.cons_append]at hs;have f:Std L (i+1) ([58]::(zM a++b)):=hs.2;have m:Std L (i+1+1) (zM a++b):=f.2;have o:i+(zFg x.str::[58]::zM a).length=i+1+1+(zM a).length:=by simp;omega
   rw[o]at c⊢;have r:=j.whole d m c;obtain⟨t1,t2⟩:=tok hs;unfold Rn at r⊢;rw[zS d ⟨Nat.le_of_lt hs.lt,trivial⟩];unfold zD;dsimp only;unfold zBS;rw[if_pos t1,t2];dsimp only;rw[if_neg (fun h=>by omega),zAm,zBs f jd,r]
 · rw[e,List.cons_append]at hs;obtain⟨t1,_⟩:=tok hs;unfold isT;rw[t1];simp
theorem zR4 (k:Lst L):∀(r:List Tr) (t:Tr) (c:List Tr) (i:Nat) (b:Tks),(∀x∈t::r,PrpK L x)→Std L i (zAW (·.2) (prs (t::r))++([125]::b))→Rn L (.objL c) i (trK 39 (c++bareL (t::r))) (i+(zAW (·.2) (prs (t::r))).length+1):=by
 intro r
 induction r with
 | nil=>
  intro t c i b j hs;have e:zAW (·.2) (prs [t])=prT t:=by rw[zH,zY];show prT t++[]=_;rw[List.append_nil]
  rw[e]at hs⊢;have d:Std L (i+(prT t).length) ([125]::b):=hs.right;have f:=(j t js).run i _ hs (zDP d jd);have hi:i≤L.length - 1:=by have:=hs.mid;omega
  unfold Rn at f⊢;rw[zS k ⟨hi,trivial⟩];unfold zD;dsimp only;rw[f];dsimp only;rw[if_neg js,zFR d jd,if_pos jd,zO,za];rfl
 | cons u r m=>
  intro t c i b j hs;have e:zAW (·.2) (prs (t::u::r))=prT t++([44]::zAW (·.2) (prs (u::r))):=by rw[zH,zH];rfl
  rw[e,List.append_assoc,List.cons_append]at hs;rw[e];have d:Std L (i+(prT t).length) ([44]::(zAW (·.2) (prs (u::r))++([125]::b))):=hs.right;have f:=(j t js).run i _ hs (zDP d jd);have hi:i≤L.length - 1:=by have:=hs.mid;omega
  have g:=m u (c++[bareT t]) _ b (fun x l=>j x (List.mem_cons_of_mem _ l)) d.2;unfold Rn at f g⊢;rw[zS k ⟨hi,trivial⟩];unfold zD;dsimp only;rw[f];dsimp only;rw[if_neg js,zFR d jd,ji,zBs d jd,g,zO t];simp only[List.append_assoc,List.singleton_append,Prod.mk.injEq,Ps.mk.injEq,true_and,and_true,List.length_append,List.length_cons];omega
theorem zZE (d:Lst L) (hk:x.kind=39) (m:zN x=true) (e:∀t∈l,PrpK L t):ExO L (.mk x l):=by
 have hb:bareT (.mk x l)=trK 39 (bareL l):=by rw[(zBh m (by rw[hk];decide) jo).1,hk]
 have f:prT (.mk x l)=[123]::(zAW (·.2) (prs l)++[[125]]):=by rw[zAS];unfold zAk zg;rw[hk];rfl
 refine zOp d f jd jd jd fun i b hs=>?_;rw[f]at hs⊢;rw[hb];simp only[List.append_assoc,List.cons_append,List.nil_append]at hs;have c:Std L (i+1) (zAW (·.2) (prs l)++([125]::b)):=hs.2;have g:i+1≤L.length - 1:=by have:=c.mid;omega
 unfold Rn;rw[zBX d (Nat.le_of_lt hs.lt),zR2 hs,zS d ⟨g,trivial⟩];unfold zD;dsimp only;cases l with
 | nil=>
  rw[zY]at c;rw[zFR (show Std L (i+1) ([125]::b)from c) jd,if_pos jd,za,zY];rfl
 | cons t r=>
  have j:=zR4 d r t [] (i+1) b e c;have k:¬onP L [125] (pl (i+1))=true:=by
   have o:Std L (i+1) (prT t++(zGH (·.2) (prs r)++([125]::b))):=by
    rw[zH]at c;have:zAW (·.2) ((t.nd.kind,prT t)::prs r)=prT t++zGH (·.2) (prs r):=rfl;rw[this,List.append_assoc]at c;exact c
   exact zCZ ((e t js).first _ _ o) rfl
  unfold Rn at j;rw[if_neg k,j];simp only[List.nil_append,List.length_cons,List.length_append,List.length_nil,Prod.mk.injEq,Ps.mk.injEq,true_and,and_true];omega
theorem zVM:∀(m:Nat) (l:List Tr) (a:Nat),(List.replicate m 6++[a]).length≤l.length→zFp (List.replicate m 6++[a]) 0 (zBv l)=true→∃ps c,l=ps++[c]∧(∀t∈ps,t.nd.kind=20)∧zAj a c.nd.kind=true:=by
 intro m
 induction m with
 | zero=>
  intro l a b h;obtain⟨t,q,rfl,d,_,e⟩:=zAu b h;obtain rfl:=zCB e;exact⟨[],t,rfl,fun t h=>(by cases h),d⟩
 | succ m g=>
  intro l a b h;rw[List.replicate_succ,List.cons_append]at b h;obtain⟨t,q,rfl,d,j,e⟩:=zAu b h;obtain⟨ps,c,rfl,h6,k⟩:=g q a j e;refine⟨t::ps,c,rfl,fun u f=>?_,k⟩;rcases List.mem_cons.1 f with rfl | f
  · unfold zAj at d;simpa using d
  · exact h6 u f
theorem zZF (g:Lst L) (hk:x.kind=41) (o:zN x=true) (p:∀t∈l,PrmK t) (q:zOm L c):ExO L (.mk x (l++[c])):=by
 have hN:=zCM o jo jo jo jo;have s:x.name=[]∨zBn x.name=true:=by
  have:=hN.2.1;rw[hk]at this;unfold zCv at this;rw[ji,if_pos jd,Bool.or_eq_true]at this;exact this.imp of_decide_eq_true id
 have hb:bareT (.mk x (l++[c]))=trN 41 x.name (bareL l++[bareT c]):=by rw[zDO o jo jo jo jo,hk,zGO,zO,za]
 have r:prT (.mk x (l++[c]))=[102,117,110,99,116,105,111,110]::(zAo x.name++(zu (prs l)++prT c)):=by
  rw[zAS];unfold zAk zg;rw[hk];show zFL x (prs (l++[c]))=_;unfold zFL;rw[(zC1 l c).1,(zC1 l c).2]
 refine zOp g r jd jd jd fun i b hs=>?_;rw[r]at hs⊢;rw[hb];simp only[List.append_assoc,List.cons_append]at hs;unfold Rn;rw[zBX g (Nat.le_of_lt hs.lt),zR3 hs]
 by_cases j:x.name=[]
 · have d:Std L (i+1) (zu (prs l)++(prT c++b)):=by
    have h:=hs.2;rw[j]at h;exact h
   have u:Std L (i+1) ([40]::(zAW (·.2) (prs l)++[[41]]++(prT c++b))):=d;have f:=zIA g (k:=41) (n:=[]) p q d;obtain⟨k1,_⟩:=u.sign jd;unfold Rn at f;rw[jn,f,j];simp only[zAo,if_true,List.nil_append,List.length_cons,List.length_append,Prod.mk.injEq,Ps.mk.injEq,true_and,and_true];omega
 · have m:=s.resolve_left j;have e:zAo x.name=[x.name]:=by unfold zAo;rw[if_neg j]
   have d:Std L (i+1) (x.name::(zu (prs l)++(prT c++b))):=by
    have h:=hs.2;rw[e]at h;exact h
   have f:=zIA g (k:=41) (n:=x.name) p q (show Std L (i+1+1) (zu (prs l)++(prT c++b))from d.2);obtain⟨k1,_⟩:=d.name m;unfold Rn at f;rw[if_pos k1,zDk d m];dsimp only;rw[f,e];simp only[List.length_cons,List.length_append,List.singleton_append,Prod.mk.injEq,Ps.mk.injEq,true_and,and_true];omega
theorem zZG (f:Lst L) (hk:x.kind=42) (y:zN x=true) (p:∀t∈l,PrmK t) (z:(c.nd.kind=4∧zOm L c∧∃r,prT c=[123]::r)∨(c.nd.kind≠4∧ExK L c)):ExO L (.mk x (l++[c])):=by
 have hb:bareT (.mk x (l++[c]))=trK 42 (bareL l++[bareT c]):=by rw[(zBh y (by rw[hk];decide) jo).1,hk,zGO,zO,za]
 obtain⟨q,d⟩:=jx ((if c.nd.kind=4 then prT c else inP (prT c)));have k:prT (.mk x (l++[c]))=zu (prs l)++([61,62]::q):=by
  rw[zAS];unfold zAk zg;rw[hk];show zEm (prs (l++[c]))=_;unfold zEm;rw[(zC1 l c).1,(zC1 l c).2,←d]
 refine⟨fun i b hs m=>?_,fun i b hs=>?_,by rw[k];simp;omega⟩
 · rw[k]at hs m⊢;rw[hb];simp only[List.append_assoc,List.cons_append]at hs;have s:Std L i ([40]::(zAW (·.2) (prs l)++[[41]]++([61,62]::(q++b)))):=hs;have g:Std L (i+(zu (prs l)).length) ([61,62]::(q++b)):=hs.right;have e:Std L (i+(zu (prs l)).length+1) (q++b):=g.2;have A:i+(zu (prs l)++[61,62]::q).length=i+(zu (prs l)).length+1+q.length:=by simp;omega
   rw[A]at m⊢;have r1:=zHZ f l p hs;have B:=zMb p hs;obtain⟨k1,_⟩:=s.sign jd;have j:zE L (.body (bareL l)) (pl (i+(zu (prs l)).length))=(trK 42 (bareL l++[bareT c]),pl (i+(zu (prs l)).length+1+q.length)):=by
    rw[zS f ⟨Nat.le_of_lt g.lt,trivial⟩];unfold zD;dsimp only;rw[g.nl];simp only[Bool.false_eq_true,if_false];rw[zBs g jd];rcases z with⟨c4,C,r,D⟩ | ⟨c4,E⟩
    · rw[if_pos c4]at d;subst d;have u:=C _ _ e;have o:Std L (i+(zu (prs l)).length+1) ([123]::(r++b)):=by rw[D]at e;exact e
      unfold Rn at u;rw[zFR o jd,if_pos jd,u]
    · rw[if_neg c4]at d;subst d;have v:=E.brackA f e m;have o:Std L (i+(zu (prs l)).length+1) ([40]::(prT c++[[41]]++b)):=e;unfold Rn at v;rw[zFR o jd,ji,v]
   unfold Rn at r1⊢;rw[zS f ⟨Nat.le_of_lt s.lt,trivial⟩];unfold zD;dsimp only;rw[if_neg (fun h=>by omega),if_pos B,r1];exact j
 · rw[k]at hs;exact zC0 (show Std L i ([40]::(zAW (·.2) (prs l)++[[41]]++([61,62]::q)++b))from by simpa [zu]using hs) jd jd
end
section
variable {L:List Tok} {i j:Nat} {b:Tks}
theorem zDR {v:List UInt8} (h:Std L i (w::b)) (d:w∈zw++zAF) (c:w≠v):onP L v (pl i)=false:=by
 rw[zFR h d];exact yAI c
theorem zCm (h:Std L i (w::b)) (c:w∈zw++zAF):onP L w (pl i)=true:=by
 rw[zFR h c];exact decide_eq_true rfl
theorem zOq (b:Lst L) (hi:i≤L.length - 1) (h1:onP L [108,101,116] (pl i)=false) (c:onP L [99,111,110,115,116] (pl i)=false) (d:onP L [102,117,110,99,116,105,111,110] (pl i)=false) (r:Rn L .statement i y j):Rn L .item i y j:=by
 unfold Rn at r⊢;rw[zS b ⟨hi,trivial⟩];unfold zD;dsimp only;rw[h1,c,d,ji,ji,r]
theorem zFq (k:Lst L) {s:List UInt8} {r:Tks} (f:prT t=s::r) (hs:s∈zw++zAF) (j:s≠[108,101,116]∧s≠[99,111,110,115,116]∧s≠[102,117,110,99,116,105,111,110]) (d:s≠[102,105,110,97,108,108,121]∧s≠[99,97,116,99,104]∧s≠[101,108,115,101]∧s≠[125])
 (h:∀i b,Std L i (s::(r++b))→NxT (zI L (i+(s::r).length)) (dangT t)→Rn L .statement i (bareT t) (i+(s::r).length)):StK L t:=by
 refine⟨fun i b c e=>?_,fun i b c=>?_,by rw[f];simp⟩
 · rw[f]at c e⊢;rw[List.cons_append]at c;have g:=h i b c e;exact⟨zOq k (Nat.le_of_lt c.lt) (zDR c hs j.1) (zDR c hs j.2.1) (zDR c hs j.2.2) g,fun _=>g⟩
 · rw[f,List.cons_append]at c;obtain⟨_,t2⟩:=c.text2 hs;exact⟨by omega,zH9 c hs d.1 d.2.1 d.2.2.1,by rw[c.is hs];exact yAI d.2.2.2⟩
theorem zDH (c:Lst L) (h:Std L i (w::b)) (d:w∈zAF) (r:zE L (.word w) (pl i)=(y,pl j)):Rn L .statement i y j:=by
 obtain⟨k1,t1⟩:=h.word d;unfold Rn;rw[zS c ⟨Nat.le_of_lt h.lt,trivial⟩];unfold zD;dsimp only;rw[if_neg (fun h=>by omega),if_pos k1,t1,r]
theorem zDI (c:Lst L) (h:Std L i (w::b)):zE L (.word w) (pl i)=zD L (zE L) (.word w) (pl i):=zS c ⟨Nat.le_of_lt h.lt,h.lt⟩
theorem zZH (c:Lst L) (hk:x.kind=2) (d:zN x=true) (e:l=[]):StK L (.mk x l):=by
 subst e;have hb:bareT (.mk x [])=trK 2 []:=by rw[(zBh d (by rw[hk];decide) jo).1,hk,za]
 have f:prT (.mk x [])=[59]::[]:=by rw[zAS];unfold zAk zi;rw[hk];rfl
 refine zFq c f jd jd jd fun i b hs _=>?_;rw[hb];obtain⟨k1,_⟩:=hs.sign jd;unfold Rn;rw[zS c ⟨Nat.le_of_lt hs.lt,trivial⟩];unfold zD;dsimp only;rw[if_neg (fun h=>by omega),jn,zCm hs jd,if_pos rfl];rfl
theorem zZI (c:Lst L) (hk:x.kind=3) (f:zN x=true) (g:ExK L a):StK L (.mk x [a]):=by
 have hb:bareT (.mk x [a])=trK 3 [bareT a]:=by rw[(zBh f (by rw[hk];decide) jo).1,hk,zO,za]
 have j:prT (.mk x [a])=[40]::(prT a++[[41],[59]]):=by
  rw[zAS,zH,zY];unfold zAk zi;rw[hk];show inP (prT a)++[[59]]=_;unfold inP;simp
 refine zFq c j jd jd jd fun i b hs _=>?_;rw[hb];have d:Std L i (inP (prT a)++([59]::b)):=by unfold inP;simpa using hs
 have e:Std L (i+(inP (prT a)).length) ([59]::b):=d.right;have r:=g.brackA c d (zDP e jd);obtain⟨k1,_⟩:=hs.sign jd;unfold Rn at r⊢;rw[zS c ⟨Nat.le_of_lt hs.lt,trivial⟩];unfold zD;dsimp only;rw[if_neg (fun h=>by omega),jn,zDR hs jd jd,zDR hs jd jd,ji,ji,zS c ⟨Nat.le_of_lt hs.lt,trivial⟩];unfold zD;dsimp only;rw[r];dsimp only;rw[zEW e];simp only[inP,List.length_cons,List.length_append,List.length_nil,Prod.mk.injEq,Ps.mk.injEq,true_and,and_true];omega
theorem zLP (hk:x.kind=4):prT (.mk x l)=[123]::((prs l).flatMap (·.2)++[[125]]):=by
 rw[zAS];unfold zAk zi;rw[hk];rfl
theorem zZJ (c:Lst L) (hk:x.kind=4) (h:zOm L (.mk x l)):StK L (.mk x l):=by
 refine zFq c (zLP hk) jd jd jd fun i b hs _=>?_;have r:=h i b (by rw[zLP hk];exact hs);rw[zLP hk]at r;obtain⟨k1,_⟩:=hs.sign jd;unfold Rn at r⊢;rw[zS c ⟨Nat.le_of_lt hs.lt,trivial⟩];unfold zD;dsimp only;rw[if_neg (fun h=>by omega),jn,zDR hs jd jd,zCm hs jd,ji,if_pos rfl,r]
structure DclK (L:List Tok) (t:Tr):Prop where
 run:∀i b w,Std L i (prT t++(w::b))→w=[44]∨w=[59]→(let n:=zo L (pl i);if onP L [61] n.2=true then(trN 7 n.1 [(zE L .assign (zB n.2)).1],(zE L .assign (zB n.2)).2)else(trN 7 n.1 [],n.2))=(bareT t,pl (i+(prT t).length))
theorem d_7 (k:Lst L) (hk:x.kind=7) (f:zN x=true) (m:l=[]∨∃a,l=[a]∧ExK L a):DclK L (.mk x l):=by
 have hN:=zCM f jo jo jo jo;have g:zBn x.name=true:=by
  have:=hN.2.1;rwa[hk]at this
 have hb:bareT (.mk x l)=trN 7 x.name (bareL l):=by rw[zDO f jo jo jo jo,hk]
 refine⟨fun i b w hs o=>?_⟩;rw[hb];have c:w∈zXW∧w∈zw++zAF∧w≠[61]:=by rcases o with rfl | rfl<;>decide
 rcases m with rfl | ⟨a,rfl,p⟩
 · have e:prT (.mk x [])=[x.name]:=by rw[zAS,zY];unfold zAk zi;rw[hk];rfl
   rw[e]at hs⊢;have h1:Std L i (x.name::(w::b)):=hs;have d:Std L (i+1) (w::b):=h1.2;rw[zDk h1 g];dsimp only;rw[zDR d c.2.1 c.2.2,ji,za];rfl
 · have e:prT (.mk x [a])=x.name::[61]::inP (prT a):=by rw[zAS,zH,zY];unfold zAk zi;rw[hk];rfl
   rw[e]at hs⊢;have h1:Std L i (x.name::([61]::(inP (prT a)++(w::b)))):=hs;have d:Std L (i+1) ([61]::(inP (prT a)++(w::b))):=h1.2;have j:Std L (i+1+1) (inP (prT a)++(w::b)):=d.2;have q:Std L (i+1+1+(inP (prT a)).length) (w::b):=j.right;have r:=p.brackA k j (zDP q c.1);unfold Rn at r;rw[zDk h1 g];dsimp only;rw[zCm d jd,if_pos rfl,zAm,r,zO,za];simp only[List.length_cons,Prod.mk.injEq,Ps.mk.injEq,true_and,and_true];omega
theorem zI4 (l:Lst L):∀(r:List Tr) (t:Tr) (c:List Tr) (i:Nat) (b:Tks),(∀x∈t::r,DclK L x)→Std L i (zAW (·.2) (prs (t::r))++([59]::b))→Rn L (.declL k c) i (trK k (c++bareL (t::r))) (i+(zAW (·.2) (prs (t::r))).length):=by
 intro r
 induction r with
 | nil=>
  intro t c i b g hs;have e:zAW (·.2) (prs [t])=prT t:=by rw[zH,zY];show prT t++[]=_;rw[List.append_nil]
  rw[e]at hs⊢;have j:Std L (i+(prT t).length) ([59]::b):=hs.right;have d:=(g t js).run i _ _ hs (.inr rfl);have hi:i≤L.length - 1:=by have:=hs.mid;omega
  dsimp only at d;unfold Rn;rw[zS l ⟨hi,trivial⟩];unfold zD;dsimp only;rw[d];dsimp only;rw[if_neg js,zDR j jd jd,ji,zO,za]
 | cons u r o=>
  intro t c i b g hs;have e:zAW (·.2) (prs (t::u::r))=prT t++([44]::zAW (·.2) (prs (u::r))):=by rw[zH,zH];rfl
  rw[e,List.append_assoc,List.cons_append]at hs;rw[e];have j:Std L (i+(prT t).length) ([44]::(zAW (·.2) (prs (u::r))++([59]::b))):=hs.right;have d:=(g t js).run i _ _ hs (.inl rfl);have hi:i≤L.length - 1:=by have:=hs.mid;omega
  have f:=o u (c++[bareT t]) _ b (fun x m=>g x (List.mem_cons_of_mem _ m)) j.2;dsimp only at d;unfold Rn at f⊢;rw[zS l ⟨hi,trivial⟩];unfold zD;dsimp only;rw[d];dsimp only;rw[if_neg js,zCm j jd,if_pos rfl,zAm,f,zO t];simp only[List.append_assoc,List.singleton_append,Prod.mk.injEq,Ps.mk.injEq,true_and,and_true,List.length_append,List.length_cons];omega
theorem zFi (c:Lst L) (hk:x.kind=5∨x.kind=6) (d:∀u∈t::l,DclK L u) (hs:Std L i (zBJ x (prs (t::l))++([59]::b))):Rn L .declares i (trK x.kind (bareL (t::l))) (i+(zBJ x (prs (t::l))).length)∧(onP L [108,101,116] (pl i) || onP L [99,111,110,115,116] (pl i))=true:=by
 unfold zBJ at hs⊢;rcases hk with hk | hk
 · rw[hk,ji]at hs⊢;have h1:Std L i ([108,101,116]::(zAW (·.2) (prs (t::l))++([59]::b))):=hs;have r:=zI4 c (k:=5) l t [] (i+1) b d h1.2;unfold Rn at r⊢;refine⟨?_,by rw[zCm h1 jd];rfl⟩;rw[zS c ⟨Nat.le_of_lt h1.lt,trivial⟩];unfold zD;dsimp only;rw[zDR h1 jd jd,ji,zBs h1 jd,r];simp only[List.nil_append,List.length_cons,Prod.mk.injEq,Ps.mk.injEq,true_and,and_true];omega
 · rw[hk,if_pos rfl]at hs⊢;have h1:Std L i ([99,111,110,115,116]::(zAW (·.2) (prs (t::l))++([59]::b))):=hs;have r:=zI4 c (k:=6) l t [] (i+1) b d h1.2;unfold Rn at r⊢;refine⟨?_,by rw[zCm h1 jd];simp⟩;rw[zS c ⟨Nat.le_of_lt h1.lt,trivial⟩];unfold zD;dsimp only;rw[zCm h1 jd,if_pos rfl,zAm,r];simp only[List.nil_append,List.length_cons,Prod.mk.injEq,Ps.mk.injEq,true_and,and_true];omega
theorem zR5 (x:Nd) (ks:List Kd):∃w r,zBJ x ks=w::r∧(w=[108,101,116]∨w=[99,111,110,115,116]):=by
 unfold zBJ
 by_cases h:x.kind=6
 · rw[if_pos h];exact⟨_,_,rfl,.inr rfl⟩
 · rw[if_neg h];exact⟨_,_,rfl,.inl rfl⟩
theorem zYv (f:Lst L) (hk:x.kind=5∨x.kind=6) (k:zN x=true) (m:∀u∈t::l,DclK L u):StK L (.mk x (t::l))∧bareT (.mk x (t::l))=trK x.kind (bareL (t::l))∧prT (.mk x (t::l))=zBJ x (prs (t::l))++[[59]]:=by
 have hb:bareT (.mk x (t::l))=trK x.kind (bareL (t::l)):=(zBh k (by rcases hk with h | h<;>(rw[h];decide)) jo).1;have d:prT (.mk x (t::l))=zBJ x (prs (t::l))++[[59]]:=by
  rw[zAS];unfold zAk zi;rcases hk with h | h
  · rw[h,if_pos jd,ji,ji,ji,ji,if_pos jd]
  · rw[h,if_pos jd,ji,ji,ji,ji,if_pos jd]
 refine⟨⟨fun i b hs _=>⟨?_,fun h=>?_⟩,fun i b hs=>?_,by rw[d];simp⟩,hb,d⟩
 · rw[d]at hs⊢;rw[hb];rw[List.append_assoc]at hs;have o:Std L (i+(zBJ x (prs (t::l))).length) ([59]::b):=hs.right;obtain⟨r,g⟩:=zFi f hk m hs;have hi:i≤L.length - 1:=by have:=hs.mid;omega
   unfold Rn at r⊢;rw[zS f ⟨hi,trivial⟩];unfold zD;dsimp only;rw[g,if_pos rfl,r];dsimp only;rw[zEW o];simp only[List.length_append,List.length_cons,List.length_nil,Prod.mk.injEq,Ps.mk.injEq,true_and,and_true];omega
 · exfalso;have j:zEP x.kind=true:=h;rcases hk with e | e<;>(rw[e]at j;revert j;decide)
 · rw[d]at hs;obtain⟨w,r,e,p⟩:=zR5 x (prs (t::l));rw[e]at hs;have h1:Std L i (w::(r++[[59]]++b)):=by simpa using hs
   have c:w∈zw++zAF∧w≠[102,105,110,97,108,108,121]∧w≠[99,97,116,99,104]∧w≠[101,108,115,101]∧w≠[125]:=by rcases p with rfl | rfl<;>decide
   obtain⟨_,t2⟩:=h1.text2 c.1;exact⟨by omega,zH9 h1 c.1 c.2.1 c.2.2.1 c.2.2.2.1,by rw[h1.is c.1];exact yAI c.2.2.2.2⟩
end
section
variable {L:List Tok} {i j:Nat} {b:Tks}
theorem zFS (e:Lst L) (f:ExK L a) (hs:Std L i (inP (prT a)++b)):Rn L .within i (bareT a) (i+(inP (prT a)).length):=by
 have h1:Std L i ([40]::(prT a++([41]::b))):=by unfold inP at hs;simpa using hs
 have c:Std L (i+1) (prT a++([41]::b)):=h1.2;have d:Std L (i+1+(prT a).length) ([41]::b):=c.right;have r:=f.all _ _ c (zDP d jd);unfold Rn at r⊢;rw[zS e ⟨Nat.le_of_lt h1.lt,trivial⟩];unfold zD;dsimp only;rw[zBs h1 jd,r];dsimp only;rw[zBs d jd];simp only[inP,List.length_cons,List.length_append,List.length_nil,Prod.mk.injEq,Ps.mk.injEq,true_and,and_true];omega
theorem zR6 (hk:x.kind=8):dangT (.mk x [a,c])=true:=by rw[zH4,if_pos ⟨hk,rfl⟩]
theorem zEw (hk:x.kind=8∧l.length≠1∨x.kind=9∨x.kind=10∨x.kind=18):dangT (.mk x (l++[t]))=dangT t:=by
 have e:dangL (l++[t])=dangT t:=by rw[zHU];simp
 rw[zH4,e,if_neg,if_pos jo];rintro⟨h1,b⟩;simp at b;omega
theorem zYw (e:Lst L) (hk:x.kind=8) (t:zN x=true) (p:ExK L a) (q:StK L c) (r:zEP c.nd.kind=true) (u:l=[]∨∃d,l=[d]∧StK L d∧zEP d.nd.kind=true∧dangT c=false):StK L (.mk x (a::c::l)):=by
 have hb:bareT (.mk x (a::c::l))=trK 8 (bareT a::bareT c::bareL l):=by rw[(zBh t (by rw[hk];decide) jo).1,hk,zO,zO]
 rcases u with rfl | ⟨d,rfl,v,y,z⟩
 · have m:prT (.mk x [a,c])=[105,102]::(inP (prT a)++prT c):=by
    rw[zAS,zH,zH,zY];unfold zAk zi;rw[hk];show [105,102]::(inP (prT a)++(prT c++[]))=_;rw[List.append_nil]
   refine zFq e m jd jd jd fun i b hs f=>?_;rw[hb,za];rw[zR6 hk]at f;rw[List.append_assoc]at hs;have g:Std L (i+1) (inP (prT a)++(prT c++b)):=hs.2;have j:Std L (i+1+(inP (prT a)).length) (prT c++b):=g.right;have o:i+([105,102]::(inP (prT a)++prT c)).length=i+1+(inP (prT a)).length+(prT c).length:=by simp;omega
   rw[o]at f⊢;have r1:=zFS e p g;have r2:=((q.run _ _ j (f.any _)).2 r);refine zDH e hs jd ?_;unfold Rn at r1 r2;rw[zDI e hs];unfold zD;dsimp only;rw[if_pos rfl,zAm,r1];dsimp only;rw[r2];dsimp only;rw[if_neg (zCZ (f.els rfl) rfl)]
 · have m:prT (.mk x [a,c,d])=[105,102]::(inP (prT a)++(prT c++([101,108,115,101]::prT d))):=by
    rw[zAS,zH,zH,zH,zY];unfold zAk zi;rw[hk];rfl
   refine zFq e m jd jd jd fun i b hs f=>?_;rw[hb,zO,za];rw[show [a,c,d]=[a,c]++[d]from rfl,zEw (.inl ⟨hk,by simp⟩)]at f;simp only[List.append_assoc,List.cons_append]at hs;have g:Std L (i+1) (inP (prT a)++(prT c++([101,108,115,101]::(prT d++b)))):=hs.2;have j:Std L (i+1+(inP (prT a)).length) (prT c++([101,108,115,101]::(prT d++b))):=g.right;have k:Std L (i+1+(inP (prT a)).length+(prT c).length) ([101,108,115,101]::(prT d++b)):=j.right;have A:Std L (i+1+(inP (prT a)).length+(prT c).length+1) (prT d++b):=k.2;have o:i+([105,102]::(inP (prT a)++(prT c++([101,108,115,101]::prT d)))).length=i+1+(inP (prT a)).length+(prT c).length+1+(prT d).length:=by simp;omega
   rw[o]at f⊢;have r1:=zFS e p g;have s:NxT (zI L (i+1+(inP (prT a)).length+(prT c).length)) (dangT c):=⟨by rw[k.is jd];rfl,by rw[k.is jd];rfl,fun h=>by rw[z]at h;cases h⟩;have r2:=((q.run _ _ j s).2 r);have r3:=((v.run _ _ A f).2 y);refine zDH e hs jd ?_;unfold Rn at r1 r2 r3;rw[zDI e hs];unfold zD;dsimp only;rw[if_pos rfl,zAm,r1];dsimp only;rw[r2];dsimp only;rw[zCm k jd,if_pos rfl,zAm,r3]
theorem zZK (d:Lst L) (hk:x.kind=9) (g:zN x=true) (j:ExK L a) (k:StK L c) (l:zEP c.nd.kind=true):StK L (.mk x [a,c]):=by
 have hb:bareT (.mk x [a,c])=trK 9 [bareT a,bareT c]:=by rw[(zBh g (by rw[hk];decide) jo).1,hk,zO,zO,za]
 have m:prT (.mk x [a,c])=[119,104,105,108,101]::(inP (prT a)++prT c):=by
  rw[zAS,zH,zH,zY];unfold zAk zi;rw[hk];rfl
 refine zFq d m jd jd jd fun i b hs e=>?_;rw[hb];rw[show [a,c]=[a]++[c]from rfl,zEw (.inr (.inl hk))]at e;rw[List.append_assoc]at hs;have f:Std L (i+1) (inP (prT a)++(prT c++b)):=hs.2;have o:Std L (i+1+(inP (prT a)).length) (prT c++b):=f.right;have p:i+([119,104,105,108,101]::(inP (prT a)++prT c)).length=i+1+(inP (prT a)).length+(prT c).length:=by simp;omega
 rw[p]at e⊢;have r1:=zFS d j f;have r2:=((k.run _ _ o e).2 l);refine zDH d hs jd ?_;unfold Rn at r1 r2;rw[zDI d hs];unfold zD;dsimp only;rw[ji,if_pos rfl,zAm,r1];dsimp only;rw[r2]
def zVN (L:List Tok) (t:Tr):Prop:=∀i b w,(w=[59]∨w=[41])→Std L i (zn (t.nd.kind,prT t)++(w::b))→Rn L (.clause w) i (bareT t) (i+(zn (t.nd.kind,prT t)).length+1)
theorem zZL (f:Lst L) (hk:x.kind=11) (g:zN x=true) (j:l=[]):zVN L (.mk x l)∧bareT (.mk x l)=trK 11 []∧prT (.mk x l)=[]:=by
 subst j;have hb:bareT (.mk x [])=trK 11 []:=by rw[(zBh g (by rw[hk];decide) jo).1,hk,za]
 have d:prT (.mk x [])=[]:=by rw[zAS];unfold zAk zi;rw[hk];rfl
 refine⟨fun i b w k hs=>?_,hb,d⟩;have e:zn ((Tr.mk x []).nd.kind,prT (.mk x []))=[]:=by rw[d];show zn (x.kind,[])=[];rw[hk];rfl
 rw[e]at hs⊢;have h1:Std L i (w::b):=hs;have c:w∈zw++zAF:=by rcases k with rfl | rfl<;>decide
 rw[hb];unfold Rn;rw[zS f ⟨Nat.le_of_lt h1.lt,trivial⟩];unfold zD;dsimp only;rw[zCm h1 c,if_pos rfl,zBs h1 c];rfl
theorem zWr (d:Lst L) (h:ExK L t):zVN L t∧zn (t.nd.kind,prT t)=inP (prT t):=by
 have hk:=zFQ h.expr;have e:zn (t.nd.kind,prT t)=inP (prT t):=by unfold zn;rw[jn,jn]
 refine⟨fun i b w g hs=>?_,e⟩;rw[e]at hs⊢;have h1:Std L i ([40]::(prT t++[[41]]++(w::b))):=hs;have f:Std L (i+(inP (prT t)).length) (w::b):=hs.right;have c:w∈zw++zAF∧w∈zXW∧[40]≠w:=by rcases g with rfl | rfl<;>decide
 have r:=h.brackA d hs (zDP f c.2.1);unfold Rn at r⊢;rw[zS d ⟨Nat.le_of_lt h1.lt,trivial⟩];unfold zD;dsimp only;rw[zDR h1 jd c.2.2,ji,r];dsimp only;rw[zBs f c.1]
def zVO (L:List Tok) (t:Tr):Prop:=∀i b,Std L i (zn (t.nd.kind,prT t)++([59]::b))→(if(onP L [108,101,116] (pl i) || onP L [99,111,110,115,116] (pl i))=true then((zE L .declares (pl i)).1,zP L [59] (zE L .declares (pl i)).2)else zE L (.clause [59]) (pl i))=(bareT t,pl (i+(zn (t.nd.kind,prT t)).length+1))
theorem zR7 (c:Lst L) (hk:x.kind=5∨x.kind=6) (g:zN x=true) (d:∀u∈t::l,DclK L u):zVO L (.mk x (t::l)):=by
 intro i b hs;obtain⟨_,hb,j⟩:=zYv c hk g d;have e:zn ((Tr.mk x (t::l)).nd.kind,prT (.mk x (t::l)))=zBJ x (prs (t::l)):=by
  unfold zn;refine(if_pos (show x.kind=5∨x.kind=6 from hk)).trans ?_;show(prT (.mk x (t::l))).dropLast=_;rw[j];simp
 rw[e]at hs⊢;obtain⟨r,f⟩:=zFi c hk d hs;have k:Std L (i+(zBJ x (prs (t::l))).length) ([59]::b):=hs.right;unfold Rn at r;rw[f,if_pos rfl,r,hb];dsimp only;rw[zBs k jd]
theorem zR8 (d:zVN L t) (f:zn (t.nd.kind,prT t)=[]∨zn (t.nd.kind,prT t)=inP (prT t)):zVO L t:=by
 intro i b hs;have r:=d i b _ (.inl rfl) hs;have g:∃w q,Std L i (w::q)∧(w=[59]∨w=[40]):=by
  rcases f with e | e
  · rw[e]at hs;exact⟨_,_,hs,.inl rfl⟩
  · rw[e]at hs;exact⟨_,_,(show Std L i ([40]::(prT t++[[41]]++([59]::b)))from hs),.inr rfl⟩
 obtain⟨w,q,h1,j⟩:=g;have c:w∈zw++zAF∧w≠[108,101,116]∧w≠[99,111,110,115,116]:=by rcases j with rfl | rfl<;>decide
 unfold Rn at r;rw[zDR h1 c.1 c.2.1,zDR h1 c.1 c.2.2,ji,r]
theorem zXg (f:Lst L) {e:Tr} (hk:x.kind=10) (q:zN x=true) (r:zVO L a) (s:zVN L c) (t:zVN L d) (u:StK L e) (v:zEP e.nd.kind=true):StK L (.mk x [a,c,d,e]):=by
 have hb:bareT (.mk x [a,c,d,e])=trK 10 [bareT a,bareT c,bareT d,bareT e]:=by rw[(zBh q (by rw[hk];decide) jo).1,hk,zO,zO,zO,zO,za]
 obtain⟨A,g⟩:=jx (zn (a.nd.kind,prT a));obtain⟨C,j⟩:=jx (zn (c.nd.kind,prT c));obtain⟨D,k⟩:=jx (zn (d.nd.kind,prT d));have y:prT (.mk x [a,c,d,e])=[102,111,114]::[40]::(A++([59]::(C++([59]::(D++([41]::prT e)))))):=by
  rw[zAS,zH,zH,zH,zH,zY,←g,←j,←k];unfold zAk zi;rw[hk];rfl
 refine zFq f y jd jd jd fun i b hs l=>?_;rw[hb];rw[show [a,c,d,e]=[a,c,d]++[e]from rfl,zEw (.inr (.inr (.inl hk)))]at l;simp only[List.append_assoc,List.cons_append]at hs;have h1:Std L (i+1) ([40]::(A++([59]::(C++([59]::(D++([41]::(prT e++b)))))))):=hs.2;have m:Std L (i+1+1) (A++([59]::(C++([59]::(D++([41]::(prT e++b))))))):=h1.2;have o:Std L (i+1+1+A.length+1) (C++([59]::(D++([41]::(prT e++b))))):=(show Std L (i+1+1+A.length) ([59]::_)from m.right).2;have p:Std L (i+1+1+A.length+1+C.length+1) (D++([41]::(prT e++b))):=(show Std L (i+1+1+A.length+1+C.length) ([59]::_)from o.right).2;have z:Std L (i+1+1+A.length+1+C.length+1+D.length+1) (prT e++b):=(show Std L (i+1+1+A.length+1+C.length+1+D.length) ([41]::_)from p.right).2;have B:i+([102,111,114]::[40]::(A++([59]::(C++([59]::(D++([41]::prT e))))))).length=i+1+1+A.length+1+C.length+1+D.length+1+(prT e).length:=by simp;omega
 rw[B]at l⊢;have r1:=r (i+1+1) _ (by rw[g];exact m);have r2:=s _ _ _ (.inl rfl) (by rw[j];exact o);have r3:=t _ _ _ (.inr rfl) (by rw[k];exact p);have r4:=((u.run _ _ z l).2 v);rw[g]at r1;rw[j]at r2;rw[k]at r3;refine zDH f hs jd ?_;unfold Rn at r2 r3 r4;rw[zDI f hs];unfold zD;dsimp only;rw[ji,ji,if_pos rfl,zS f ⟨Nat.le_of_lt hs.lt,hs.lt⟩];unfold zD;dsimp only;rw[zAm,zBs h1 jd,r1];dsimp only;rw[r2];dsimp only;rw[r3];dsimp only;rw[r4]
theorem zI5 (b:zN x=true) (hk:x.kind=12∨x.kind=13∨x.kind=17):(x.name=[]∨zBn x.name=true)∧∀l,bareT (.mk x l)=trN x.kind x.name (bareL l):=by
 have hN:=zCM b jo jo jo jo;refine⟨?_,fun l=>zDO b jo jo jo jo⟩;have h:=hN.2.1;unfold zCv at h;rw[jn,if_pos jo,Bool.or_eq_true]at h;exact h.imp of_decide_eq_true id
theorem zVP (f:Lst L) (hk:x.kind=12∨x.kind=13) (o:zN x=true) (p:l=[]):StK L (.mk x l):=by
 subst p;obtain⟨q,hb⟩:=zI5 o jo;have hb:=hb [];rw[za]at hb;obtain⟨w,r,k⟩:∃w,(if x.kind=13 then [99,111,110,116,105,110,117,101]else [98,114,101,97,107]:List UInt8)=w∧(x.kind=12∧w=[98,114,101,97,107]∨x.kind=13∧w=[99,111,110,116,105,110,117,101]):=by
  rcases hk with h | h
  · exact⟨_,rfl,.inl ⟨h,by rw[h];rfl⟩⟩
  · exact⟨_,rfl,.inr ⟨h,by rw[h];rfl⟩⟩
 have s:prT (.mk x [])=w::(zAo x.name++[[59]]):=by
  rw[zAS,←r];unfold zAk zi;rcases hk with h | h
  · rw[h];rfl
  · rw[h];rfl
 have d:w∈zAF∧w∈zw++zAF∧(w≠[108,101,116]∧w≠[99,111,110,115,116]∧w≠[102,117,110,99,116,105,111,110])∧(w≠[102,105,110,97,108,108,121]∧w≠[99,97,116,99,104]∧w≠[101,108,115,101]∧w≠[125]):=by
  rcases k with⟨_,rfl⟩ | ⟨_,rfl⟩<;>decide
 refine zFq f s d.2.1 d.2.2.1 d.2.2.2 fun i b hs _=>?_;rw[hb];rw[List.append_assoc]at hs;have g:zE L (.jump x.kind) (pl i)=(trN x.kind x.name [],pl (i+(w::(zAo x.name++[[59]])).length)):=by
  rw[zS f ⟨Nat.le_of_lt hs.lt,hs.lt⟩];unfold zD;dsimp only;rw[zAm]
  by_cases j:x.name=[]
  · have e:zAo x.name=[]:=by unfold zAo;rw[if_pos j]
    rw[e]at hs⊢;have c:Std L (i+1) ([59]::b):=hs.2;obtain⟨k1,_⟩:=c.sign jd;rw[if_neg (fun h=>absurd (h.1.symm.trans k1) jd),zEW c,j];rfl
  · have e:zAo x.name=[x.name]:=by unfold zAo;rw[if_neg j]
    have m:=q.resolve_left j;rw[e]at hs⊢;have c:Std L (i+1) (x.name::([59]::b)):=hs.2;have t:Std L (i+1+1) ([59]::b):=c.2;rw[if_pos ⟨(c.name m).1,c.nl⟩,zDk c m];dsimp only;rw[zEW t];rfl
 refine zDH f hs d.1 ?_;rw[zDI f hs];unfold zD;dsimp only;rcases k with⟨h,rfl⟩ | ⟨h,rfl⟩
 · rw[h]at g⊢;rw[ji,ji,ji,if_pos rfl,g]
 · rw[h]at g⊢;rw[ji,ji,ji,ji,if_pos rfl,g]
theorem zXh (c:Lst L) (hk:x.kind=14) (m:zN x=true) (o:l=[]∨∃a,l=[a]∧ExK L a):StK L (.mk x l):=by
 have hb:bareT (.mk x l)=trK 14 (bareL l):=by rw[(zBh m (by rw[hk];decide) jo).1,hk]
 rcases o with rfl | ⟨a,rfl,p⟩
 · have f:prT (.mk x [])=[114,101,116,117,114,110]::[[59]]:=by rw[zAS,zY];unfold zAk zi;rw[hk];rfl
   refine zFq c f jd jd jd fun i b hs _=>?_;rw[hb,za];have e:Std L (i+1) ([59]::b):=hs.2;refine zDH c hs jd ?_;rw[zDI c hs];unfold zD;dsimp only;have g:zDe L (pl (i+1))=true:=by unfold zDe;rw[zCm e jd];simp
   rw[ji,ji,ji,ji,ji,if_pos rfl,zAm,g,if_pos rfl,zEW e];rfl
 · have f:prT (.mk x [a])=[114,101,116,117,114,110]::(inP (prT a)++[[59]]):=by rw[zAS,zH,zY];unfold zAk zi;rw[hk];rfl
   refine zFq c f jd jd jd fun i b hs _=>?_;rw[hb,zO,za];rw[List.append_assoc]at hs;have e:Std L (i+1) (inP (prT a)++([59]::b)):=hs.2;have d:Std L (i+1) ([40]::(prT a++[[41]]++([59]::b))):=e;have j:Std L (i+1+(inP (prT a)).length) ([59]::b):=e.right;have r:=p.brackA c e (zDP j jd);obtain⟨k1,_⟩:=d.sign jd;refine zDH c hs jd ?_;unfold Rn at r;rw[zDI c hs];unfold zD;dsimp only;have g:¬zDe L (pl (i+1))=true:=by
    unfold zDe;rw[zDR d jd jd,zDR d jd jd,show(pl (i+1)).k=i+1 from rfl,d.nl,k1];decide
   rw[ji,ji,ji,ji,ji,if_pos rfl,zAm,if_neg g,r];dsimp only;rw[zEW j];simp only[List.length_cons,List.length_append,List.length_nil,Prod.mk.injEq,Ps.mk.injEq,true_and,and_true];omega
theorem zXi (c:Lst L) (hk:x.kind=15) (g:zN x=true) (j:ExK L a):StK L (.mk x [a]):=by
 have hb:bareT (.mk x [a])=trK 15 [bareT a]:=by rw[(zBh g (by rw[hk];decide) jo).1,hk,zO,za]
 have k:prT (.mk x [a])=[116,104,114,111,119]::(inP (prT a)++[[59]]):=by rw[zAS,zH,zY];unfold zAk zi;rw[hk];rfl
 refine zFq c k jd jd jd fun i b hs _=>?_;rw[hb];rw[List.append_assoc]at hs;have d:Std L (i+1) (inP (prT a)++([59]::b)):=hs.2;have e:Std L (i+1) ([40]::(prT a++[[41]]++([59]::b))):=d;have f:Std L (i+1+(inP (prT a)).length) ([59]::b):=d.right;have r:=j.brackA c d (zDP f jd);refine zDH c hs jd ?_;unfold Rn at r;rw[zDI c hs];unfold zD;dsimp only;rw[ji,ji,ji,ji,ji,ji,if_pos rfl,zAm,e.nl];simp only[Bool.false_eq_true,if_false];rw[r];dsimp only;rw[zEW f];simp only[List.length_cons,List.length_append,List.length_nil,Prod.mk.injEq,Ps.mk.injEq,true_and,and_true];omega
end
section
variable {L:List Tok} {i j:Nat} {b:Tks}
theorem zEX {s:List UInt8} (h:Std L i (s::b)) (c:zBn s=true):isT (zI L i) w=false:=by
 unfold isT;rw[(h.name c).1];simp
theorem zHa (b:zN x=true) (hk:x.kind=18∨x.kind=19):zBn x.name=true∧∀l,bareT (.mk x l)=trN x.kind x.name (bareL l):=by
 have hN:=zCM b jo jo jo jo;refine⟨?_,fun l=>zDO b jo jo jo jo⟩;have h:=hN.2.1;unfold zCv at h;rw[if_pos jo]at h;exact h
theorem zXj (j:Lst L) (hk:x.kind=18) (l:zN x=true) (m:StK L c) (o:zEP c.nd.kind=true):StK L (.mk x [c]):=by
 obtain⟨d,hb⟩:=zHa l (.inl hk);have hb:=hb [c];rw[hk,zO,za]at hb;have f:prT (.mk x [c])=x.name::[58]::prT c:=by rw[zAS,zH,zY];unfold zAk zi;rw[hk];rfl
 refine⟨fun i b hs e=>?_,fun i b hs=>?_,by rw[f];simp⟩
 · rw[f]at hs e⊢;rw[hb];rw[show [c]=[]++[c]from rfl,zEw (.inr (.inr (.inr hk)))]at e;have h1:Std L i (x.name::([58]::(prT c++b))):=hs;have k:Std L (i+1) ([58]::(prT c++b)):=h1.2;have p:Std L (i+1+1) (prT c++b):=k.2;have q:i+(x.name::[58]::prT c).length=i+1+1+(prT c).length:=by simp;omega
   rw[q]at e⊢;have r:=(m.run _ _ p e).2 o;obtain⟨k1,t1⟩:=h1.name d;have g:Rn L .statement i (trN 18 x.name [bareT c]) (i+1+1+(prT c).length):=by
    unfold Rn at r⊢;rw[zS j ⟨Nat.le_of_lt h1.lt,trivial⟩];unfold zD;dsimp only;rw[if_pos ⟨k1,by show isT (zI L (i+1)) [58]=true;rw[k.is jd];rfl⟩,t1,zAm,zAm,r]
   exact⟨zOq j (Nat.le_of_lt h1.lt) (zEX h1 d) (zEX h1 d) (zEX h1 d) g,fun _=>g⟩
 · rw[f]at hs;have h1:Std L i (x.name::([58]::(prT c++b))):=hs;exact⟨by rw[(h1.name d).1];decide,⟨zEX h1 d,zEX h1 d,fun _=>zEX h1 d⟩,zEX h1 d⟩
theorem zXk (f:Lst L) (hk:x.kind=19) (o:zN x=true) (p:∀t∈l,PrmK t) (q:zOm L c):StK L (.mk x (l++[c])):=by
 obtain⟨d,hb⟩:=zHa o (.inr hk);have hb:=hb (l++[c]);rw[hk,zGO,zO,za]at hb;have g:x.name≠[]:=by intro h;rw[h]at d;revert d;decide
 have e:prT (.mk x (l++[c]))=[102,117,110,99,116,105,111,110]::(x.name::(zu (prs l)++prT c)):=by
  rw[zAS];unfold zAk zi;rw[hk];show zFL x (prs (l++[c]))=_;unfold zFL;rw[(zC1 l c).1,(zC1 l c).2];unfold zAo;rw[if_neg g];rfl
 refine⟨fun i b hs _=>⟨?_,fun h=>?_⟩,fun i b hs=>?_,by rw[e];simp⟩
 · rw[e]at hs⊢;rw[hb];simp only[List.append_assoc,List.cons_append]at hs;have j:Std L (i+1) (x.name::(zu (prs l)++(prT c++b))):=hs.2;have r:=zIA f (k:=19) (n:=x.name) p q (show Std L (i+1+1) (zu (prs l)++(prT c++b))from j.2);unfold Rn at r⊢;rw[zS f ⟨Nat.le_of_lt hs.lt,trivial⟩];unfold zD;dsimp only;rw[zDR hs jd jd,zDR hs jd jd,ji,zCm hs jd,if_pos rfl,zAm,zDk j d];dsimp only;rw[r];simp only[List.length_cons,List.length_append,Prod.mk.injEq,Ps.mk.injEq,true_and,and_true];omega
 · exfalso;have m:zEP x.kind=true:=h;rw[hk]at m;revert m;decide
 · rw[e,List.cons_append]at hs;obtain⟨k1,_⟩:=hs.word jd;exact⟨by omega,zH9 hs jd jd jd jd,by rw[hs.is jd];rfl⟩
theorem zXl (p:Lst L) (hk:x.kind=16) (Q:zN x=true) (R:zOm L a)
 (u:(c.nd.kind≠17∧bareT c=trK 11 []∧prT c=[])∨(c.nd.kind=17∧∃y e,c=.mk y [e]∧zN y=true∧zOm L e∧∃r,prT e=[123]::r))
 (S:(d.nd.kind=4∧zOm L d)∨(d.nd.kind≠4∧bareT d=trK 11 [])) (s:c.nd.kind=17∨d.nd.kind=4):StK L (.mk x [a,c,d]):=by
 have hb:bareT (.mk x [a,c,d])=trK 16 [bareT a,bareT c,bareT d]:=by rw[(zBh Q (by rw[hk];decide) jo).1,hk,zO,zO,zO,za]
 obtain⟨D,f⟩:∃D:Tks,(if d.nd.kind=4 then [102,105,110,97,108,108,121]::prT d else [])=D:=⟨_,rfl⟩;have T:prT (.mk x [a,c,d])=[116,114,121]::(prT a++(prT c++D)):=by
  rw[zAS,zH,zH,zH,zY,←f];unfold zAk zi;rw[hk];rfl
 refine zFq p T jd jd jd fun i b hs A=>?_;rw[hb];simp only[List.append_assoc]at hs;have B:Std L (i+1) (prT a++(prT c++(D++b))):=hs.2;have g:Std L (i+1+(prT a).length) (prT c++(D++b)):=B.right;have C:Std L (i+1+(prT a).length+(prT c).length) (D++b):=g.right;have U:i+([116,114,121]::(prT a++(prT c++D))).length=i+1+(prT a).length+(prT c).length+D.length:=by simp;omega
 rw[U]at A⊢;have E:=R _ _ B;have k:onP L [102,105,110,97,108,108,121] (pl (i+1+(prT a).length+(prT c).length))=decide (d.nd.kind=4):=by
  by_cases h:d.nd.kind=4
  · rw[if_pos h]at f;subst f;rw[zCm (show Std L _ ([102,105,110,97,108,108,121]::(prT d++b))from C) jd,decide_eq_true h]
  · rw[if_neg h]at f;subst f;rw[yAI h];exact A.fin
 have l:onP L [99,97,116,99,104] (pl (i+1+(prT a).length))=decide (c.nd.kind=17):=by
  rcases u with⟨c1,_,c3⟩ | ⟨c1,y,e,rfl,_,_,_⟩
  · rw[yAI c1];have j:=s.resolve_left c1;rw[if_pos j]at f;subst f;rw[c3]at g;exact zDR (show Std L _ ([102,105,110,97,108,108,121]::(prT d++b))from g) jd jd
  · rw[decide_eq_true c1];have F:∃r,prT (.mk y [e])=[99,97,116,99,104]::r:=by
     rw[zAS];unfold zAk zi;have m:y.kind=17:=c1;rw[m];exact⟨_,rfl⟩
    obtain⟨r,v⟩:=F;rw[v]at g;exact zCm (show Std L _ ([99,97,116,99,104]::(r++(D++b)))from g) jd
 have z:(onP L [99,97,116,99,104] (pl (i+1+(prT a).length)) || onP L [102,105,110,97,108,108,121] (pl (i+1+(prT a).length)))=true:=by
  rw[l];rcases s with h | h
  · rw[decide_eq_true h];rfl
  · rcases u with⟨c1,_,c3⟩ | ⟨c1,_⟩
    · have t:=k;rw[c3,decide_eq_true h]at t;rw[show(pl (i+1+(prT a).length))=pl (i+1+(prT a).length+([]:Tks).length)from rfl,t];simp
    · rw[decide_eq_true c1];rfl
 have G:(if onP L [99,97,116,99,104] (pl (i+1+(prT a).length))=true then
  (let n:=if onP L [40] (zB (pl (i+1+(prT a).length)))=true then((zo L (zB (zB (pl (i+1+(prT a).length))))).1,zP L [41] (zo L (zB (zB (pl (i+1+(prT a).length))))).2)else([],zB (pl (i+1+(prT a).length)))
   (trN 17 n.1 [(zE L .block n.2).1],(zE L .block n.2).2))
  else(trK 11 [],pl (i+1+(prT a).length)))=(bareT c,pl (i+1+(prT a).length+(prT c).length)):=by
  rw[l];rcases u with⟨c1,c2,c3⟩ | ⟨c1,y,e,rfl,H,I,r,v⟩
  · rw[yAI c1,ji,c2,c3];rfl
  · rw[decide_eq_true c1,if_pos rfl];have m:y.kind=17:=c1;obtain⟨J,M⟩:=zI5 H (.inr (.inr m));rw[M,m,zO,za];have N:prT (.mk y [e])=[99,97,116,99,104]::((if y.name=[]then []else [[40],y.name,[41]])++prT e):=by
     rw[zAS,zH,zY];unfold zAk zi;rw[m];rfl
    rw[N]at g⊢;simp only[List.cons_append,List.append_assoc]at g;rw[zAm]
    by_cases q:y.name=[]
    · rw[if_pos q]at g⊢;have j:Std L (i+1+(prT a).length+1) (prT e++(D++b)):=g.2;have o:=I _ _ j;have O:onP L [40] (pl (i+1+(prT a).length+1))=false:=by
       rw[v]at j;exact zDR (show Std L _ ([123]::(r++(D++b)))from j) jd jd
      unfold Rn at o;dsimp only;rw[O,ji,o,q];simp only[List.nil_append,List.length_cons,Prod.mk.injEq,Ps.mk.injEq,true_and,and_true];omega
    · rw[if_neg q]at g⊢;have j:Std L (i+1+(prT a).length+1) ([40]::(y.name::([41]::(prT e++(D++b))))):=g.2;have h6:Std L (i+1+(prT a).length+1+1) (y.name::([41]::(prT e++(D++b)))):=j.2;have P:Std L (i+1+(prT a).length+1+1+1) ([41]::(prT e++(D++b))):=h6.2;have o:=I _ _ (show Std L (i+1+(prT a).length+1+1+1+1) (prT e++(D++b))from P.2);unfold Rn at o;dsimp only;rw[zCm j jd,if_pos rfl,zAm,zDk h6 (J.resolve_left q)];dsimp only;rw[zBs P jd,o];simp only[List.length_cons,List.length_append,List.length_nil,Prod.mk.injEq,Ps.mk.injEq,true_and,and_true];omega
 refine zDH p hs jd ?_;unfold Rn at E;rw[zDI p hs];unfold zD;dsimp only;rw[ji,ji,ji,ji,ji,ji,ji,if_pos rfl,zS p ⟨Nat.le_of_lt hs.lt,hs.lt⟩];unfold zD;dsimp only;rw[zAm,E];dsimp only;rw[z];simp only[if_true];rw[G];dsimp only;rw[k];rcases S with⟨d1,d2⟩ | ⟨d1,d2⟩
 · rw[decide_eq_true d1,if_pos rfl];rw[if_pos d1]at f;subst f;have j:Std L (i+1+(prT a).length+(prT c).length+1) (prT d++b):=(show Std L _ ([102,105,110,97,108,108,121]::(prT d++b))from C).2;have rd:=d2 _ _ j;unfold Rn at rd;rw[zAm,rd];simp only[List.length_cons,Prod.mk.injEq,Ps.mk.injEq,true_and,and_true];omega
 · rw[yAI d1,ji,d2];rw[if_neg d1]at f;subst f;rfl
end
end Go.Proofs.YtlnbbaehihgigaaGreatDoor
