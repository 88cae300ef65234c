/- Joined for the claim EarlySame: the parser, the lexer and the trees as they are walked, made short by a program of mine. -/
import Derived.Test.YtjlfhidpmdgloaaGreatDoorH01
import Derived.Deep.CutBlock
import Derived.Deep.DeepCutAuto
import Derived.Deep.LoopGhost
import Derived.Deep.RegionHeld3
import Derived.Deep.RegionLaw
set_option maxHeartbeats 16000000
set_option maxRecDepth 1000000
namespace Go.Proofs.YtjlfhidpmdgloaaGreatDoor
open Go.Proofs.Tryz
variable {ts:List Nd} {n k j B m i N:Nat} {x:Nd} {l r:jH} {q:Bool} {s:ByteArray} {t:Tr} {A:jQ} {α:Type} {xs:List jE} {w':World} {v:Value}
theorem zKX:∀(r:List Nd) (m:Nat),zB0 ts m r=true→∀n x,r[n]? =some x→zL x=true∧zCz ts x=true∧(0 < m+n→x.kind≠1):=by
 intro r
 induction r with
 | nil=>intro m _ n x h;cases h
 | cons y r d=>
  intro m h n x b;unfold zB0 at h;simp only[yAQ,Bool.not_eq_true',Bool.and_eq_false_iff,decide_eq_false_iff_not,yA]at h;cases n with
  | zero=>
   obtain rfl:y=x:=yBI b;exact⟨h.1.1.2,h.1.2,fun c=>by rcases h.1.1.1 with h1 | h1;exact absurd c h1;exact h1⟩
  | succ n=>
   have:=d (m+1) h.2 n x b;exact⟨this.1,this.2.1,fun c=>this.2.2 jo⟩
structure May (ts:List Nd) (t:Tr):Prop where
 flat:ts=flatT 0 t
 len:ts.length≤4096
 each:zB0 ts 0 ts=true
 nest:depT t≤48
 kind:t.nd.kind=1
theorem zBr (n:Nat) (t:Tr):(t.laid n).kind=t.nd.kind:=by cases t;rfl
theorem zLl (h:zI1 ts=true):∃t,May ts t:=by
 unfold zI1 at h;cases ts with
 | nil=>cases h
 | cons x r=>
  simp only[yAQ,yBG,yBL]at h;obtain⟨⟨⟨⟨h1,e⟩,f⟩,g⟩,d⟩:=h;obtain⟨t,c⟩:=zHf f;have b:=zD2 0 t;rw[←c]at b;have b:x=t.laid 0:=yBI b;rw[c,zGR]at d;exact⟨t,c,h1,g,d,by rw[←zBr 0 t,←b];exact e⟩
theorem zYE (h:May ts t):zI1 ts=true:=by
 have b:=zD2 0 t;rw[←h.flat]at b;unfold zI1;cases ts with
 | nil=>cases b
 | cons x r=>
  have b:x=t.laid 0:=yBI b;simp only[yAQ,yBG,yBL];refine⟨⟨⟨⟨h.len,by rw[b,zBr];exact h.kind⟩,?_⟩,h.each⟩,?_⟩
  · rw[h.flat];exact zFQ t
  · rw[h.flat,zGR];exact h.nest
theorem May.at_ (h:May ts t):At ts 0 t:=by rw[h.flat];exact At.whole t
theorem zI6 (h:At ts n t):atN ts (n:Int)=t.laid n:=by
 unfold atN;rw[yAG,Int.toNat_natCast,h.get];rfl
theorem zKY:∀(ks:List Int) (l:List Nat),zBo ts l 0 ks=true→ks.length≤l.length:=by
 intro ks
 induction ks with
 | nil=>intro l _;simp
 | cons k r b=>
  intro l h;cases l with
  | nil=>
   unfold zBo at h;simp[zAd]at h
  | cons s l=>
   unfold zBo at h;rw[yAQ]at h;have:=b l h.2;simp only[yAO];omega
theorem zSg (h:zCz ts x=true):(zu x.kind x.kids.length).1.length≤x.kids.length∧((zu x.kind x.kids.length).2=0→x.kids.length=(zu x.kind x.kids.length).1.length):=by
 unfold zCz at h;simp only[yAQ,yBG]at h;obtain⟨⟨⟨_,h1⟩,b⟩,_⟩:=h;refine⟨h1,fun c=>Nat.le_antisymm ?_ h1⟩;rw[c]at b;exact zKY _ _ b
structure Cnt (k:Int) (n:Nat):Prop where
 one:k=3∨k=15∨k=40∨k=43∨k=52∨k=17∨k=18∨k=44∨k=45→n=1
 two:k=9∨k=46∨k=47∨k=53∨k=49→n=2
 opt:k=7∨k=14→n≤1
 three:k=16∨k=48→n=3
 if_:k=8→n=2∨n=3
 four:k=10→n=4
 some_:k=5∨k=6∨k=19∨k=41∨k=42∨k=50∨k=51→1≤n
 none_:k=2∨k=11∨k=12∨k=13∨k=20∨(30≤k∧k≤37)→n=0
theorem zFT (n last:Nat):(zBA n last).length=n - 1+1:=by simp[zBA]
theorem zLm (h:zCz ts x=true):Cnt x.kind x.kids.length:=by
 obtain⟨h1,b⟩:=zSg h;obtain⟨n,d⟩:=jx x.kids.length;obtain⟨k,hk⟩:=jx x.kind;rw[hk,d]at h1 b⊢;constructor
 · rintro(rfl | rfl | rfl | rfl | rfl | rfl | rfl | rfl | rfl)<;>exact b rfl
 · rintro(rfl | rfl | rfl | rfl | rfl)<;>exact b rfl
 · rintro(rfl | rfl)
   all_goals
    have:=b rfl;have e:([3].take (min n 1):List Nat).length≤1:=by rw[yBK];simp;omega
    exact yAD (Nat.le_of_eq this) e
 · rintro(rfl | rfl)<;>exact b rfl
 · rintro rfl;have c:=b rfl;have e:([3,2,2].take (min (max n 2) 3):List Nat).length=min (max n 2) 3:=by rw[yBK];simp
   have f:n=min (max n 2) 3:=c.trans e;omega
 · rintro rfl;exact b rfl
 · rintro(rfl | rfl | rfl | rfl | rfl | rfl | rfl)
   · exact h1
   · exact h1
   · have:n=(zBA n 8).length:=b rfl;rw[zFT]at this;omega
   · have:n=(zBA n 8).length:=b rfl;rw[zFT]at this;omega
   · have:n=(zBA n 13).length:=b rfl;rw[zFT]at this;omega
   · exact h1
   · exact h1
 · intro c;have e:zu k n=([],0):=by
    unfold zu;rw[jn,jn,jn,jn,jn,jn,jn,jn,jn,jn,jn,jn,jn,jn,jn,jn,jn,jn,jn]
   rw[e]at b;exact b rfl
theorem At.cnt {l:List Tr} (c:zB0 ts 0 ts=true) (h:At ts n (.mk x l)):Cnt x.kind l.length:=by
 have h1:=(zKX ts 0 c n _ h.get).2.1;have b:=zLm h1;have e:((Tr.mk x l).laid n).kids.length=l.length:=zBV (n+1) l;rw[e]at b;exact b
theorem zCq (h:zL x=true) (g:∀y∈x.mag,y < 4294967296):Short x:=by
 unfold zL at h
 by_cases h1:4096 < x.name.length
 · rw[if_pos h1]at h;cases h
 rw[if_neg h1]at h
 by_cases j:(!(x.kind==32)&& !(x.kind==40)&& !x.str.isEmpty)=true
 · rw[if_pos j]at h;cases h
 rw[if_neg j]at h
 by_cases k:(!(x.kind==30)&& !(x.nk==0&&x.nn==0))=true
 · rw[if_pos k]at h;cases h
 rw[if_neg k]at h
 by_cases d:(!(x.kind==31)&&(x.neg || !x.mag.isEmpty))=true
 · rw[if_pos d]at h;cases h
 rw[if_neg d]at h;have hs:x.kind≠32∧x.kind≠40→x.str=[]:=by
  rintro⟨a,b⟩;have e:(x.kind==32)=false:=yA.2 a;have o:(x.kind==40)=false:=yA.2 b;rw[e,o]at j;simpa using j
 have l:x.kind≠30→x.nk=0∧x.nn=0:=by
  intro a;have e:(x.kind==30)=false:=yA.2 a;rw[e]at k;simpa using k
 have m:x.kind≠31→x.mag=[]:=by
  intro a;have e:(x.kind==31)=false:=yA.2 a;rw[e]at d;simp only[Bool.not_false,yC,yBU,Bool.not_eq_true',not_or,Bool.not_eq_true]at d;simpa using d.2
 by_cases k1:x.kind=32∨x.kind=40
 · rw[if_pos k1]at h;simp only[yAQ,yBG]at h;exact⟨by omega,h.2,by rw[m jo];simp,g,by rw[(l jo).2];omega⟩
 rw[if_neg k1]at h;have f:x.str=[]:=hs jo
 by_cases k2:x.kind=30
 · rw[if_pos k2]at h;simp only[yAQ,yBG,yBL]at h;have c:=h.1.2;unfold zDg at c;rw[if_pos h.1.1.2]at c;simp only[yAQ,yBG]at c;exact⟨by omega,by rw[f];simp,by rw[m jo];simp,g,c.2⟩
 rw[if_neg k2]at h
 by_cases k3:x.kind=31
 · rw[if_pos k3]at h;simp only[yAQ,yBG]at h;have c:=h.1.2;unfold zBL at c;simp only[yAQ,yBG]at c;exact⟨by omega,by rw[f];simp,c.1,g,by rw[(l k2).2];omega⟩
 · exact⟨by omega,by rw[f];simp,by rw[m k3];simp,g,by rw[(l k2).2];omega⟩
theorem Short.laid {ks:List Int} (h:Short {x with kids:=ks}):Short x:=⟨h.name,h.str,h.mag,h.limb,h.nn⟩
mutual
theorem shortT_flat (n:Nat) (t:Tr) (h:∀x∈flatT n t,Short x):ShortT t:=by
 cases t with
 | mk x l=>
  rw[zAz]at h;rw[zCB];exact⟨(h _ (yBN ..)).laid,shortL_flat (n+1) l fun y hy=>h y (yAV _ hy)⟩
theorem shortL_flat (n:Nat) (l:List Tr) (h:∀x∈flatL n l,Short x):ShortL l:=by
 cases l with
 | nil=>rw[ShortL];trivial
 | cons t r=>
  rw[zAP]at h;rw[zEY];exact⟨shortT_flat n t fun y hy=>h y (yCJ _ hy),shortL_flat (n+t.size) r fun y hy=>h y (yBX _ hy)⟩
end
theorem zLn (b:zB0 ts 0 ts=true) (c:x∈ts):zL x=true∧zCz ts x=true:=by
 obtain⟨n,d,rfl⟩:=List.getElem_of_mem c;have:=zKX ts 0 b n ts[n] (yAB d);exact⟨this.1,this.2.1⟩
theorem May.short (h:May ts t) (c:∀x∈ts,∀y∈x.mag,y < 4294967296):ShortT t:=by
 refine shortT_flat 0 t fun x b=>?_;rw[←h.flat]at b;exact zCq (zLn h.each b).1 (c x b)
theorem May.few (h:May ts t) (b:∀x∈ts,∀y∈x.mag,y < 4294967296):zBZ (prT t)≤122920960:=by
 have h1:=prT_len t (h.short b);have c:t.size=ts.length:=by rw[h.flat,flatT_len]
 have d:=h.len;omega
def zSh (k:Int):Bool:=k==5 || k==6
def zOi (k:Int):Bool:=k==19 || k==41 || k==42
def zX8 (k:Int):Bool:=k==9 || k==10
def nmN (ts:List Nd) (k:Int):jE:=(atN ts k).name
def knK (ts:List Nd) (k:Int):Int:=(atN ts k).kind
def zO8 (x:Nd):Int:=x.kids.headD 0
def zGY (ts:List Nd) (n:Int):List jE:=(atN ts n).kids.map (nmN ts)
def zKP (ts:List Nd) (k:Int):List jE:=if zSh (knK ts k)=true then zGY ts k else if knK ts k=19 then [nmN ts k]else []
def zKQ (ts:List Nd) (k:Int):List jE:=if knK ts k=20 then [nmN ts k]else []
def zA5 (ts:List Nd) (n:Int):List jE:=
 if knK ts n=1∨knK ts n=4 then(atN ts n).kids.flatMap (zKP ts)
 else if knK ts n=10∧zSh (knK ts (zO8 (atN ts n)))=true then zGY ts (zO8 (atN ts n))
 else if knK ts n=17∧nmN ts n≠[]then [nmN ts n]
 else if zOi (knK ts n)=true then(atN ts n).kids.flatMap (zKQ ts)
 else []
def upK (n:Nat) (l:List Int) (ks:List Int):List Int:=ks.foldl (fun l k=>l.set k.toNat (n:Int)) l
def zIJ (ts:List Nd):Nat→List Int
 | 0=>(List.replicate ts.length 0).set 0 (-1)
 | n+1=>upK n (zIJ ts n) (atN ts (n:Int)).kids
def upN (ts:List Nd):List Int:=zIJ ts ts.length
def upA (l:List Int) (n:Int):Int:=l.getD n.toNat 0
def zLo (ts:List Nd) (up:List Int):Nat→Int→List Int×Int
 | 0,_=>([], -1)
 | f+1,n=>if upA up n < 0 then([], -1)else if zOi (knK ts (upA up n))=true then([],upA up n)else(upA up n::(zLo ts up f (upA up n)).1,(zLo ts up f (upA up n)).2)
def arN (ts:List Nd) (up:List Int) (n:Int):List Int×Int:=zLo ts up (n.toNat+1) n
def zSi (ts:List Nd):Nat→Int→Int
 | 0,n=>knK ts n
 | f+1,n=>if knK ts n=18 then zSi ts f (zO8 (atN ts n))else knK ts n
def laN (ts:List Nd) (n:Int):Int:=zSi ts ts.length n
def juN (ts:List Nd) (x:Nd):List Int→Bool
 | []=>false
 | n::r=>if x.name=[]∧zX8 (knK ts n)=true then true else if x.name≠[]∧knK ts n=18∧nmN ts n=x.name then(x.kind==12 || zX8 (laN ts n))else juN ts x r
def zY3 (a:List jE):List jE→Bool
 | []=>false
 | s::r=>decide (s∈a) || zY3 (a++[s]) r
def twN (l:List jE):Bool:=zY3 [] l
def hiN (ts:List Nd) (n p:Int):Bool:=
 if p < 0∨knK ts n≠4∨(zOi (knK ts p)=false∧knK ts p≠17)then false else(zA5 ts n).any fun s=>decide (s∈zA5 ts p)
def wrN (ts:List Nd) (up:List Int) (n:Int):Bool:=
 if(twN (zA5 ts n) || hiN ts n (upA up n))=true then true
 else if knK ts n=7 then(knK ts (upA up n)==6&&decide ((atN ts n).kids=[]))
 else if knK ts n=18 then(arN ts up n).1.any fun k=>knK ts k==18&&decide (nmN ts k=nmN ts n)
 else if knK ts n=12∨knK ts n=13 then !juN ts (atN ts n) (arN ts up n).1
 else if knK ts n=14 then decide ((arN ts up n).2 < 0)
 else false
def zYF (ts:List Nd) (up:List Int):Nat→Nat→Nat×Nat
 | 0,_=>(0,0)
 | f+1,n=>if wrN ts up (n:Int)=true then(n,5)else zYF ts up f (n+1)
def chN (ts:List Nd):Nat×Nat:=if zI1 ts=true then zYF ts (upN ts) ts.length 0 else(0,2)
theorem zO9 (n:Nat):∀(ks l:List Int),(upK n l ks).length=l.length:=by
 intro ks
 induction ks with
 | nil=>intro l;rfl
 | cons k r b=>intro l;show(upK n (l.set k.toNat n) r).length=_;rw[b,List.length_set]
theorem zLp (ts:List Nd):∀n,(zIJ ts n).length=ts.length:=by
 intro n
 induction n with
 | zero=>simp[zIJ]
 | succ n b=>rw[zIJ,zO9,b]
theorem zWD (ts:List Nd):(upN ts).length=ts.length:=zLp ts _
def UpOk (l:List Int):Prop:=∀(i:Nat) (v:Int),l[i]? =some v→ -1≤v∧v < i∧(0 < i→0≤v)
theorem UpOk.set {l:List Int} (h:UpOk l) {k:Int} (hk:(n:Int) < k):UpOk (l.set k.toNat (n:Int)):=by
 intro i v hv;rw[yCQ]at hv;split at hv
 · split at hv
   · cases hv;exact⟨by omega,by omega,fun _=>by omega⟩
   · cases hv
 · exact h i v hv
theorem zWE (n:Nat) (l ks:List Int) (k:Int):upK n l (ks++[k])=(upK n l ks).set k.toNat (n:Int):=by
 unfold upK;rw[List.foldl_append];rfl
theorem zYG (n:Nat):∀(ks l:List Int),(∀k∈ks,(n:Int) < k)→UpOk l→UpOk (upK n l ks):=by
 intro ks
 induction ks with
 | nil=>intro l _ h;exact h
 | cons k r b=>intro l hk h;exact b _ (fun j c=>hk j (yAV _ c)) (h.set (hk k yBN))
theorem zWF (hk:∀m:Nat,m < ts.length→∀k∈(atN ts (m:Int)).kids,(m:Int) < k):∀n,n≤ts.length→UpOk (zIJ ts n):=by
 intro n
 induction n with
 | zero=>
  intro _ i v h;unfold zIJ at h;rw[yCQ]at h;split at h
  · split at h
    · cases h;exact⟨by omega,by omega,fun _=>by omega⟩
    · cases h
  · rw[List.getElem?_replicate]at h;split at h
    · cases h;exact⟨by omega,by omega,fun _=>by omega⟩
    · cases h
 | succ n b=>
  intro c;rw[zIJ];exact zYG n _ _ (hk n c) (b jo)
theorem UpOk.get3 {l:List Int} (h:UpOk l) (b:n < l.length): -1≤upA l (n:Int)∧upA l (n:Int) < n∧(0 < n→0≤upA l (n:Int)):=by
 refine h n (upA l n) ?_;unfold upA;rw[yAG,Int.toNat_natCast,yAB b];rfl
theorem UpOk.get {l:List Int} (h:UpOk l) (b:n < l.length): -1≤upA l (n:Int)∧upA l (n:Int) < n:=⟨(h.get3 b).1,(h.get3 b).2.1⟩
theorem zC6 {s:jE} (h:zg s l=true):s.length≤l.length:=by
 unfold zg at h;rw[List.isPrefixOf_iff_prefix]at h;simpa using h.length_le
theorem zYH (c:Bool):∀(l:jH) (nl b:Bool),(zDe c l nl b).1≤l.length:=by
 intro l
 induction l with
 | nil=>intro nl b;simp[zDe]
 | cons x r d=>
  intro nl b;unfold zDe;split
  · rename_i h
    have:=zC6 (yAQ _ _▸h).2;simpa using this
  · split
    · simp
    · have:=d (nl || zAG x) (b || zH9 x);simp only[zF3,yAO];omega
theorem zEp (h:2≤l.length):2≤(zAq l).1∧(zAq l).1≤l.length:=by
 have:=zYH (zg [47,42] l) (l.drop 2) false false;rw[yAR]at this;simp only[zAq,zF3];omega
theorem zD4 (h:(zg [47,47] l || zg [47,42] l)=true):2≤l.length:=by
 rw[yBU]at h;rcases h with h | h
 · exact zC6 h
 · exact zC6 h
theorem zSj:∀(f:Nat) (l:jH) (nl:Bool),(zEl f l nl).1≤l.length:=by
 intro f
 induction f with
 | zero=>intro l nl;simp[zEl]
 | succ f b=>
  intro l nl;cases l with
  | nil=>simp[zEl]
  | cons x r=>
   unfold zEl;split
   · have:=b r (nl || zAG x);simp only[zF3,yAO];omega
   · split
     · rename_i h
       have c:=zEp (zD4 h);split
       · simp
       · have:=b ((x::r).drop (zAq (x::r)).1) (nl || (zAq (x::r)).2.1);rw[yAR]at this;simp only[zF3];omega
     · simp
theorem zIK (l:jH):(zAM l).1≤l.length:=zSj _ _ _
theorem zNB:∀(f g:Nat) (l:jH) (nl:Bool),l.length≤f→l.length≤g→zEl f l nl=zEl g l nl:=by
 intro f
 induction f with
 | zero=>
  intro g l nl b _;have:l=[]:=yBB jo;subst this;cases g<;>rfl
 | succ f c=>
  intro g l nl b hg;cases l with
  | nil=>cases g<;>rfl
  | cons x r=>
   obtain⟨g,rfl⟩:∃k,g=k+1:=⟨g - 1,by simp at hg;omega⟩;simp only[yAO]at b hg;unfold zEl;rw[c g r (nl || zAG x) jo jo];split
   · rfl
   · split
     · rename_i h
       have d:=zEp (zD4 h);rw[c g ((x::r).drop (zAq (x::r)).1) _ (by rw[yAR,yAO];omega) (by rw[yAR,yAO];omega)]
     · rfl
def zC7 (l:jH) (nl:Bool):Nat×Bool×Nat:=zEl l.length l nl
theorem zPA (nl:Bool):zC7 [] nl=(0,nl,0):=rfl
theorem zGZ {x:UInt16} (h:(zHd x || zAG x)=true) (nl:Bool):zC7 (x::r) nl=zF3 1 (zC7 r (nl || zAG x)):=by
 unfold zC7;rw[yAO,zEl,if_pos h]
theorem zFr {x:UInt16} (h:(zHd x || zAG x)=false) (b:(zg [47,47] (x::r) || zg [47,42] (x::r))=true) (nl:Bool):
 zC7 (x::r) nl=if(zAq (x::r)).2.2≠0 then(0,false,(zAq (x::r)).2.2)else zF3 (zAq (x::r)).1 (zC7 ((x::r).drop (zAq (x::r)).1) (nl || (zAq (x::r)).2.1)):=by
 have c:=zEp (zD4 b);unfold zC7;rw[yAO,zEl,if_neg (by rw[h];simp),if_pos b];rw[zNB r.length ((x::r).drop (zAq (x::r)).1).length _ _ (by rw[yAR,yAO];omega) (yAC _)]
theorem zFU {x:UInt16} (h:(zHd x || zAG x)=false) (b:(zg [47,47] (x::r) || zg [47,42] (x::r))=false) (nl:Bool):zC7 (x::r) nl=(0,nl,0):=by
 unfold zC7;rw[yAO,zEl,if_neg (by rw[h];simp),if_neg (by rw[b];simp)]
theorem zBR (p:α→Bool) (l:List α):(l.takeWhile p).length≤l.length:=(List.takeWhile_sublist p).length_le
theorem zLq (h:(zCT n l).1=0):(zCT n l).2.2=n∧n≤l.length:=by
 unfold zCT at h⊢;split
 · rename_i b
   simp only[yAQ,yBG]at b;exact⟨rfl,b.1⟩
 · rename_i b
   rw[if_neg b]at h;cases h
theorem zEq (x:UInt16) (r:jH):zEI (x::r)=if(zBz x).isSome=true then(0,(zBz x).getD 0,1)else zSL x r:=rfl
theorem zA3 (z:Bool) (x:UInt16) (r:jH):zAU z (x::r)=if zAx x=true then zCm (x::r)else if zJ x=true then zBf (x::r)else if(x.toNat==39 || x.toNat==34)=true then zAv x r
 else if(x.toNat==46&&zBE 0 zJ r)=true then bad 6 else zCI z (x::r):=rfl
theorem zFV (h:(zEI l).1=0):1≤(zEI l).2.2∧(zEI l).2.2≤l.length:=by
 cases l with
 | nil=>simp[zEI]at h
 | cons x r=>
  rw[zEq]at h⊢;have c:∀k,(more 1 (zCT k r)).1=0→1≤(more 1 (zCT k r)).2.2∧(more 1 (zCT k r)).2.2≤(x::r).length:=by
   intro k hk;unfold more at hk⊢;split
   · rename_i b
     have:=zLq b;simp only[yAO];omega
   · rename_i b
     rw[if_neg b]at hk;exact absurd hk b
  split
  · simp
  · rename_i hs
    rw[if_neg hs]at h;unfold zSL at h⊢
    by_cases h1:(x.toNat==48&& !zBE 0 zJ r)=true
    · rw[if_pos h1];simp
    rw[if_neg h1]at h⊢
    by_cases d:zJ x=true
    · rw[if_pos d]at h;cases h
    rw[if_neg d]at h⊢
    by_cases b:(zAG x || zH9 x || (x.toNat==117&&zg [123] r))=true
    · rw[if_pos b]at h;cases h
    rw[if_neg b]at h⊢
    by_cases e:x.toNat=120
    · rw[if_pos e]at h⊢;exact c 2 h
    rw[if_neg e]at h⊢
    by_cases f:x.toNat=117
    · rw[if_pos f]at h⊢;exact c 4 h
    rw[if_neg f];simp
theorem zWG (q:UInt16):∀(f:Nat) (l:jH) (b:jH),(zDH q f l b).1=0→1≤(zDH q f l b).2.2∧(zDH q f l b).2.2≤l.length:=by
 intro f
 induction f with
 | zero=>intro l b h;simp[zDH]at h
 | succ f d=>
  intro l b h;cases l with
  | nil=>simp[zDH]at h
  | cons x r=>
   unfold zDH at h⊢
   by_cases h1:zAG x=true
   · rw[if_pos h1]at h;cases h
   rw[if_neg h1]at h⊢
   by_cases e:x=q
   · rw[if_pos e];simp
   rw[if_neg e]at h⊢
   by_cases g:x.toNat=92
   · rw[if_pos g]at h⊢
     by_cases c:(zEI r).1≠0
     · rw[if_pos c]at h;exact absurd h c
     · rw[if_neg c]at h⊢;have j:=zFV (Decidable.not_not.1 c);have h6:=d _ _ h;rw[yAR]at h6;simp only[yAO];omega
   · rw[if_neg g]at h⊢;have h6:=d _ _ h;simp only[yAO];omega
theorem zFW:∀{m n:Nat},zBa l m=some n→1≤n∧n≤m∧zAy l n≠0:=by
 intro m
 induction m with
 | zero=>intro n h;simp[zBa]at h
 | succ m b=>
  intro n h;unfold zBa at h;split at h
  · injection h with h;subst h;exact⟨by omega,by omega,by assumption⟩
  · have:=b h;exact⟨this.1,by omega,this.2.2⟩
theorem zFX (h:zAy l n≠0):n≤l.length:=by
 unfold zAy at h;split at h
 · rename_i b
   simp only[yAQ,yBG]at b;exact b.1.1
 · exact absurd rfl h
theorem zEr {p:α→Bool} {x:α} {r:List α} (h:p x=true):1≤((x::r).takeWhile p).length:=by
 rw[yBY h];simp
theorem zSk {d:jH} (h:(zBx d r).1=0) (j:1≤d.length):1≤(zBx d r).2.2∧(zBx d r).2.2≤d.length+r.length:=by
 unfold zBx at h⊢;split
 · rename_i h1;rw[if_pos h1]at h;cases h
 · rename_i h1
   rw[if_neg h1]at h;split
   · rename_i e
     rw[if_pos e]at h;have f:=zC6 e;unfold zIy at h⊢;split
     · rename_i b;rw[if_pos b]at h;cases h
     · rename_i b
       rw[if_neg b]at h;split
       · rename_i c;rw[if_pos c]at h;cases h
       · simp at f;show 1≤d.length+1∧d.length+1≤_;omega
   · rename_i e
     rw[if_neg e]at h;split
     · rename_i b;rw[if_pos b]at h;cases h
     · rename_i b
       rw[if_neg b]at h;split
       · rename_i c;rw[if_pos c]at h;cases h
       · rename_i c
         rw[if_neg c]at h;split
         · rename_i g;rw[if_pos g]at h;cases h
         · show 1≤d.length∧d.length≤_;omega
theorem zI7 {z:Bool} (h:(zAU z l).1=0):1≤(zAU z l).2.2∧(zAU z l).2.2≤l.length:=by
 cases l with
 | nil=>cases h
 | cons x r=>
  rw[zA3]at h⊢
  by_cases h1:zAx x=true
  · rw[if_pos h1]at h⊢;unfold zCm at h⊢;split
    · rename_i c;rw[if_pos c]at h;cases h
    · exact⟨zEr (by simp[zAu,h1]),zBR _ _⟩
  rw[if_neg h1]at h⊢
  by_cases c:zJ x=true
  · rw[if_pos c]at h⊢;unfold zBf at h⊢;have:=zSk h (zEr c);have d:=zBR zJ (x::r);rw[yAR]at this;omega
  rw[if_neg c]at h⊢
  by_cases d:(x.toNat==39 || x.toNat==34)=true
  · rw[if_pos d]at h⊢;unfold zAv at h⊢;split
    · rename_i b;rw[if_pos b]at h;exact absurd h b
    · rename_i b
      have:=zWG x _ _ _ (Decidable.not_not.1 b);simp only[yAO,zKU];omega
  rw[if_neg d]at h⊢
  by_cases b:(x.toNat==46&&zBE 0 zJ r)=true
  · rw[if_pos b]at h;cases h
  rw[if_neg b]at h⊢;unfold zCI at h⊢;cases hs:zBa (x::r) 4 with
  | none=>
   rw[hs]at h;simp only at h;split at h<;>cases h
  | some n=>
   rw[hs]at h;have e:=zFW hs;have h6:=zFX e.2.2;simp only at h⊢;split
   · rename_i f;rw[if_pos f]at h;cases h
   · exact⟨e.1,h6⟩
theorem zEs (h:(zA6 k l).1=0):1≤(zA6 k l).2.2∧(zAM l).1+(zA6 k l).2.2≤l.length:=by
 have h1:=zI7 h;have b:=zIK l;rw[yAR]at h1;unfold zA6;omega
theorem zPB:∀(f g k:Nat) (l:jH),l.length < f→l.length < g→zFJ f k l=zFJ g k l:=by
 intro f
 induction f with
 | zero=>intro g k l b _;omega
 | succ f c=>
  intro g k l b hg;obtain⟨g,rfl⟩:∃m,g=m+1:=⟨g - 1,by omega⟩;unfold zFJ;split
  · rfl
  · split
    · rfl
    · split
      · rfl
      · rename_i d
        have e:=zEs (Decidable.not_not.1 d);rw[c g _ (l.drop ((zAM l).1+(zA6 k l).2.2)) (by rw[yAR];omega) (by rw[yAR];omega)]
def zGa (k:Nat) (l:jH):List Tok×Nat×Nat:=zFJ (l.length+1) k l
theorem zI8 (h:(zAM l).2.2≠0):zGa k l=([],k+(zAM l).1,(zAM l).2.2):=by
 unfold zGa;rw[zFJ,if_pos h]
theorem zIL (h:(zAM l).2.2=0) (b:l.drop (zAM l).1=[]):zGa k l=([setAt zh (k+(zAM l).1) (zAM l).2.1],0,0):=by
 unfold zGa;rw[zFJ,if_neg (by rw[h];simp),if_pos b]
theorem zLr (h:(zAM l).2.2=0) (b:l.drop (zAM l).1≠[]) (c:(zA6 k l).1≠0):zGa k l=([],k+(zAM l).1,(zA6 k l).1):=by
 unfold zGa;rw[zFJ,if_neg (by rw[h];simp),if_neg b,if_pos c]
theorem zEt (h:(zAM l).2.2=0) (c:l.drop (zAM l).1≠[]) (b:(zA6 k l).1=0):
 zGa k l=zFy (setAt (zA6 k l).2.1 (k+(zAM l).1) (zAM l).2.1) (zGa (k+(zAM l).1+(zA6 k l).2.2) (l.drop ((zAM l).1+(zA6 k l).2.2))):=by
 have d:=zEs b;unfold zGa;rw[zFJ,if_neg (by rw[h];simp),if_neg c,if_neg (by rw[b];simp)];rw[zPB l.length ((l.drop ((zAM l).1+(zA6 k l).2.2)).length+1) _ _ (by rw[yAR];omega) jo]
theorem zB2 {u:jH} (h:¬4096 < u.length):zDX u=zGa 0 u:=by unfold zDX zGa;rw[if_neg h]
open Go.RowKit
theorem zA4 (x:UInt16) (w:World):Calls prog 69 #[.int .u16 (x.toNat:Int)] w fun e w'=>e=.returned (zAx x)∧w=w':=by
 have h1:=x.toNat_lt;go_enter func69,ntmps69;go_wp2
 all_goals go_ret
 all_goals refine⟨zF ?_,rfl⟩
 all_goals (rw[yBJ];simp only[zAx,yAQ,yBU,yBL,yBG,true_iff];omega)
theorem zAF (x:UInt16) (w:World):Calls prog 71 #[.int .u16 (x.toNat:Int)] w fun e w'=>e=.returned (zJ x)∧w=w':=by
 have h1:=x.toNat_lt;go_enter func71,ntmps71;go_wp2
 all_goals go_ret
 all_goals refine⟨zF ?_,rfl⟩
 all_goals (rw[yBJ];simp only[zJ,yAQ,yBG,yCF,false_iff];omega)
theorem zB3 (x:UInt16) (w:World):Calls prog 65 #[.int .u16 (x.toNat:Int)] w fun e w'=>e=.returned (zHd x)∧w=w':=by
 have h1:=x.toNat_lt;go_enter func65,ntmps65;go_wp2
 all_goals go_ret
 all_goals refine⟨zF ?_,rfl⟩
 all_goals (rw[yBJ];simp[zHd];omega)
theorem zAQ (x:UInt16) (w:World):Calls prog 66 #[.int .u16 (x.toNat:Int)] w fun e w'=>e=.returned (zAG x)∧w=w':=by
 have h1:=x.toNat_lt;go_enter func66,ntmps66;go_wp2
 all_goals go_ret
 all_goals refine⟨zF ?_,rfl⟩
 all_goals (rw[yBJ];simp[zAG];omega)
theorem zBB (x:UInt16) (w:World):Calls prog 110 #[.int .u16 (x.toNat:Int)] w fun e w'=>e=.returned (zH9 x)∧w=w':=by
 have h1:=x.toNat_lt;go_enter func110,ntmps110;go_wp2
 all_goals go_ret
 all_goals refine⟨zF ?_,rfl⟩
 all_goals (rw[yBJ];simp[zH9];omega)
theorem zGb (b:Bool) (w:World):Calls prog 109 #[b] w fun e w'=>e=.returned (.int .i64 (zIA b:Nat))∧w=w':=by
 cases b
 all_goals
  go_enter func109,ntmps109;go_wp2;go_ret;exact⟨rfl,rfl⟩
theorem zPC (x:UInt16) (w:World):Calls prog 112 #[.int .u16 (x.toNat:Int)] w fun e w'=>e=.returned (zAu x)∧w=w':=by
 cases hl:zAx x with
 | true=>
  have b:=zA (show zAu x=true by simp[zAu,hl]);go_enter func112,ntmps112;go_wp2_with (go_at_call 69;refine(zA4 _ _).mono ?_;rintro e w' ⟨rfl,rfl⟩);go_ret;exact⟨zF b.out.symm,rfl⟩
 | false=>
  have b:=zA (show zAu x=zJ x by simp[zAu,hl]);go_enter func112,ntmps112;go_wp2_with (first | (go_at_call 69;refine(zA4 _ _).mono ?_;rintro e w' ⟨rfl,rfl⟩) | (go_at_call 71;refine(zAF _ _).mono ?_;rintro e w' ⟨rfl,rfl⟩));go_ret;exact⟨zF b.out.symm,rfl⟩
theorem zLs (x:UInt16) (w:World):Calls prog 170 #[.int .u16 (x.toNat:Int)] w fun e w'=>e=.returned (.int .u16 (zIB x:Nat))∧w=w':=by
 have h1:=x.toNat_lt;cases hd:zJ x with
 | true=>
  have j:=zA2.1 hd;have b:=zA (show zIB x=x.toNat - 48 by rw[zIB,if_pos hd]);go_enter func170,ntmps170;go_wp2_with (go_at_call 71;refine(zAF _ _).mono ?_;rintro e w' ⟨rfl,rfl⟩);go_ret;exact⟨zFL (by rw[b.out];omega),rfl⟩
 | false=>
  by_cases c:97≤x.toNat∧x.toNat≤102
  · have b:=zA (show zIB x=x.toNat - 87 by rw[zIB,if_neg (by rw[hd];simp),if_pos c]);obtain⟨c,d⟩:=c;go_enter func170,ntmps170;go_wp2_with (go_at_call 71;refine(zAF _ _).mono ?_;rintro e w' ⟨rfl,rfl⟩);go_ret;exact⟨zFL (by rw[b.out];omega),rfl⟩
  · by_cases d:65≤x.toNat∧x.toNat≤70
    · have b:=zA (show zIB x=x.toNat - 55 by rw[zIB,if_neg (by rw[hd];simp),if_neg c,if_pos d]);obtain⟨d,m⟩:=d;have o:¬(97:Int)≤(x.toNat:Int):=by omega
      clear c;go_enter func170,ntmps170;go_wp2_with (go_at_call 71;refine(zAF _ _).mono ?_;rintro e w' ⟨rfl,rfl⟩);go_ret;exact⟨zFL (by rw[b.out];omega),rfl⟩
    · have b:=zA (show zIB x=16 by rw[zIB,if_neg (by rw[hd];simp),if_neg c,if_neg d]);have g:¬(97:Int)≤(x.toNat:Int)∨((97:Int)≤(x.toNat:Int)∧¬(x.toNat:Int)≤102):=by omega
      have f:¬(65:Int)≤(x.toNat:Int)∨((65:Int)≤(x.toNat:Int)∧¬(x.toNat:Int)≤70):=by omega
      clear c d;rcases g with r1 | ⟨r1,k⟩
      all_goals rcases f with r2 | ⟨r2,l⟩
      all_goals first
       | (exfalso;omega)
       | (
        go_enter func170,ntmps170;go_wp2_with (go_at_call 71;refine(zAF _ _).mono ?_;rintro e w' ⟨rfl,rfl⟩);go_ret;exact⟨zFL (by rw[b.out];rfl),rfl⟩)
theorem zNC (x:UInt16) (w:World):Calls prog 169 #[.int .u16 (x.toNat:Int)] w fun e w'=>e=.returned (zEH x)∧w=w':=by
 go_enter func169,ntmps169;go_wp2_with (go_at_call 170;refine(zLs _ _).mono ?_;rintro e w' ⟨rfl,rfl⟩);go_ret;exact⟨zF (by unfold zEH;exact decide_eq_decide.2 jo),rfl⟩
theorem zPD (s:ByteArray) (l:jE):(s.toList==l)=decide (s.data.toList=l):=by
 rw[yBJ,yBG,yBL,ByteArray.toList_eq]
theorem zLt {l:jE} (h:s.data.toList=l):s=⟨l.toArray⟩:=by
 cases s with
 | mk d=>simp only at h;subst h;simp
theorem zS {l:List jE} (h:s.data.toList∉l) (x:jE) (b:x∈l):(s.toList==x)=false:=by
 rw[zPD];exact yAI fun e=>h (e▸b)
theorem zND (h1:s.data.toList∉zAB) (b:s.data.toList∉zD1) (w:World):Calls prog 113 #[.string s] w fun e w'=>e=.returned (0:Int)∧w=w':=by
 have N:=zS h1 [98,114,101,97,107] jd;have O:=zS h1 [99,97,116,99,104] jd;have P:=zS h1 [99,111,110,115,116] jd;have Q:=zS h1 [99,111,110,116,105,110,117,101] jd;have R:=zS h1 [101,108,115,101] jd;have S:=zS h1 [102,97,108,115,101] jd;have T:=zS h1 [102,105,110,97,108,108,121] jd;have U:=zS h1 [102,111,114] jd;have V:=zS h1 [102,117,110,99,116,105,111,110] jd;have W:=zS h1 [105,102] jd;have c:=zS h1 [105,110] jd;have d:=zS h1 [108,101,116] jd;have f:=zS h1 [110,101,119] jd;have g:=zS h1 [110,117,108,108] jd;have j:=zS h1 [114,101,116,117,114,110] jd;have k:=zS h1 [116,104,105,115] jd;have l:=zS h1 [116,104,114,111,119] jd;have m:=zS h1 [116,114,117,101] jd;have o:=zS h1 [116,114,121] jd;have p:=zS h1 [116,121,112,101,111,102] jd;have q:=zS h1 [118,111,105,100] jd;have r:=zS h1 [119,104,105,108,101] jd;have X:=zS b [97,114,103,117,109,101,110,116,115] jd;have Y:=zS b [97,115,121,110,99] jd;have a0:=zS b [97,119,97,105,116] jd;have a1:=zS b [99,97,115,101] jd;have a2:=zS b [99,108,97,115,115] jd;have a3:=zS b [100,101,98,117,103,103,101,114] jd;have a4:=zS b [100,101,102,97,117,108,116] jd;have a5:=zS b [100,101,108,101,116,101] jd;have a6:=zS b [100,111] jd;have a7:=zS b [101,110,117,109] jd;have t:=zS b [101,118,97,108] jd;have u:=zS b [101,120,112,111,114,116] jd;have v:=zS b [101,120,116,101,110,100,115] jd;have y:=zS b [105,109,112,108,101,109,101,110,116,115] jd;have z:=zS b [105,109,112,111,114,116] jd;have A:=zS b [105,110,115,116,97,110,99,101,111,102] jd;have B:=zS b [105,110,116,101,114,102,97,99,101] jd;have C:=zS b [112,97,99,107,97,103,101] jd;have D:=zS b [112,114,105,118,97,116,101] jd;have E:=zS b [112,114,111,116,101,99,116,101,100] jd;have F:=zS b [112,117,98,108,105,99] jd;have G:=zS b [115,116,97,116,105,99] jd;have H:=zS b [115,117,112,101,114] jd;have I:=zS b [115,119,105,116,99,104] jd;have J:=zS b [118,97,114] jd;have L:=zS b [119,105,116,104] jd;have M:=zS b [121,105,101,108,100] jd;clear h1 b;go_enter func113,ntmps113;go_wp2;go_ret;exact⟨rfl,rfl⟩
theorem zDl (s:ByteArray) (w:World):Calls prog 113 #[.string s] w fun e w'=>e=.returned (.int .i64 (zCS s.data.toList:Nat))∧w=w':=by
 by_cases h1:s.data.toList∈zAB
 · rw[show zCS s.data.toList=1 from if_pos h1];simp only[zAB,yAW,yBV,or_false]at h1;rcases h1 with h | h | h | h | h | h | h | h | h | h | h | h | h | h | h | h | h | h | h | h | h | h
   all_goals
    rw[zLt h];clear h;go_enter func113,ntmps113;go_wp2;go_ret;exact⟨rfl,rfl⟩
 · by_cases b:s.data.toList∈zD1
   · rw[show zCS s.data.toList=2 by unfold zCS;rw[if_neg h1,if_pos b]];simp only[zD1,yAW,yBV,or_false]at b;rcases b with h | h | h | h | h | h | h | h | h | h | h | h | h | h | h | h | h | h | h | h | h | h | h | h | h | h | h
     all_goals
      rw[zLt h];clear h;go_enter func113,ntmps113;go_wp2;go_ret;exact⟨rfl,rfl⟩
   · rw[show zCS s.data.toList=0 by unfold zCS;rw[if_neg h1,if_neg b]];exact zND h1 b w
theorem zNE (h1:s.data.toList∉zl) (b:s.data.toList∉zCn) (w:World):Calls prog 119 #[.string s] w fun e w'=>e=.returned (0:Int)∧w=w':=by
 have Y:=zS h1 [123] jd;have a0:=zS h1 [125] jd;have a1:=zS h1 [40] jd;have a2:=zS h1 [41] jd;have a3:=zS h1 [91] jd;have a4:=zS h1 [93] jd;have a5:=zS h1 [59] jd;have a6:=zS h1 [44] jd;have a7:=zS h1 [46] jd;have a8:=zS h1 [63] jd;have c:=zS h1 [58] jd;have d:=zS h1 [126] jd;have f:=zS h1 [60] jd;have g:=zS h1 [62] jd;have j:=zS h1 [60,61] jd;have k:=zS h1 [62,61] jd;have l:=zS h1 [61,61] jd;have m:=zS h1 [33,61] jd;have o:=zS h1 [61,61,61] jd;have p:=zS h1 [33,61,61] jd;have q:=zS h1 [43] jd;have r:=zS h1 [45] jd;have t:=zS h1 [42] jd;have u:=zS h1 [47] jd;have v:=zS h1 [37] jd;have y:=zS h1 [38] jd;have z:=zS h1 [124] jd;have A:=zS h1 [94] jd;have B:=zS h1 [33] jd;have C:=zS h1 [38,38] jd;have D:=zS h1 [124,124] jd;have E:=zS h1 [63,63] jd;have F:=zS h1 [61] jd;have G:=zS h1 [43,61] jd;have H:=zS h1 [45,61] jd;have I:=zS h1 [42,61] jd;have J:=zS h1 [47,61] jd;have L:=zS h1 [37,61] jd;have M:=zS h1 [38,61] jd;have N:=zS h1 [124,61] jd;have O:=zS h1 [94,61] jd;have P:=zS h1 [60,60,61] jd;have Q:=zS h1 [62,62,61] jd;have R:=zS h1 [62,62,62,61] jd;have S:=zS h1 [43,43] jd;have T:=zS h1 [45,45] jd;have U:=zS h1 [60,60] jd;have V:=zS h1 [62,62] jd;have W:=zS h1 [62,62,62] jd;have X:=zS h1 [61,62] jd;have a9:=zS b [46,46,46] jd;have b0:=zS b [63,46] jd;have b1:=zS b [42,42] jd;have b2:=zS b [42,42,61] jd;have b3:=zS b [38,38,61] jd;have b4:=zS b [124,124,61] jd;have b5:=zS b [63,63,61] jd;clear h1 b;go_enter func119,ntmps119;go_wp2;go_ret;exact⟨rfl,rfl⟩
theorem zPE (s:ByteArray) (w:World):Calls prog 119 #[.string s] w fun e w'=>e=.returned (.int .i64 (zCA s.data.toList:Nat))∧w=w':=by
 by_cases h1:s.data.toList∈zl
 · rw[show zCA s.data.toList=1 from if_pos h1];simp only[zl,yAW,yBV,or_false]at h1;rcases h1 with h | h | h | h | h | h | h | h | h | h | h | h | h | h | h | h | h | h | h | h | h | h | h | h | h | h | h | h | h | h | h | h | h | h | h | h | h | h | h | h | h | h | h | h | h | h | h | h | h | h
   all_goals
    rw[zLt h];clear h;go_enter func119,ntmps119;go_wp2;go_ret;exact⟨rfl,rfl⟩
 · by_cases b:s.data.toList∈zCn
   · rw[show zCA s.data.toList=2 by unfold zCA;rw[if_neg h1,if_pos b]];simp only[zCn,yAW,yBV,or_false]at b;rcases b with h | h | h | h | h | h | h
     all_goals
      rw[zLt h];clear h;go_enter func119,ntmps119;go_wp2;go_ret;exact⟨rfl,rfl⟩
   · rw[show zCA s.data.toList=0 by unfold zCA;rw[if_neg h1,if_neg b]];exact zNE h1 b w
theorem zEu {c:UInt8} (h:zAx c.toUInt16=q) (w:World):Calls prog 69 #[.int .u16 (c.toNat:Int)] w fun e w'=>e=.returned q∧w=w':=by
 subst h;have:=zA4 c.toUInt16 w;rwa [UInt8.toNat_toUInt16]at this
theorem zF5 {c:UInt8} (h:zJ c.toUInt16=q) (w:World):Calls prog 71 #[.int .u16 (c.toNat:Int)] w fun e w'=>e=.returned q∧w=w':=by
 subst h;have:=zAF c.toUInt16 w;rwa [UInt8.toNat_toUInt16]at this
def zKZ (l:jE) (k:Nat):Prop:=∀j (h:j < l.length),j < k→(if j=0 then zAx l[j].toUInt16 else zAu l[j].toUInt16)=true
theorem zNF (l:jE):zKZ l 0:=fun _ _ h=>absurd h jo
theorem zNG {l:jE} (h:zKZ l k) (hk:k < l.length) (b:(if k=0 then zAx l[k].toUInt16 else zAu l[k].toUInt16)=true):zKZ l (k+1):=by
 intro j c d
 by_cases e:j=k
 · subst e;exact b
 · exact h j c jo
theorem zPF {l:jE} (h:zKZ l l.length) (d:l≠[]):zGL l=true:=by
 cases l with
 | nil=>exact absurd rfl d
 | cons b r=>
  have h1:=h 0 js js;simp only[if_true,yCB]at h1;unfold zGL;simp only[h1,yC];rw[yBH];intro x e;obtain⟨j,c,rfl⟩:=List.getElem_of_mem e;have:=h (j+1) (by simpa using c) (by simpa using c);simpa using this
theorem zSl {l:jE} (hk:k < l.length) (c:(if k=0 then zAx l[k].toUInt16 else zAu l[k].toUInt16)=false):zGL l=false:=by
 cases l with
 | nil=>rfl
 | cons b r=>
  unfold zGL
  by_cases d:k=0
  · subst d;simp only[if_true,yCB]at c;simp[c]
  · obtain⟨j,rfl⟩:∃j,k=j+1:=⟨k - 1,by omega⟩;simp only[d,if_false,List.getElem_cons_succ]at c;rw[Bool.and_eq_false_iff];right;rw[←Bool.not_eq_true,yBH];intro h;have:=h _ (yAZ (by simpa using hk:j < r.length));rw[c]at this;cases this
theorem zPG (s:ByteArray) (k:Nat) (_h:k < s.size) (b:k < s.data.toList.length):s.data.toList[k]=s[k]:=rfl
theorem zGc (s:ByteArray) (w:World) (hs:s.size≤8192) (D:zGL s.data.toList=q):
 Calls prog 91 #[.string s] w fun e w'=>e=.returned q∧w=w':=by
 have z:=zA D;have v:s.data.toList.length=s.size:=by simp
 have o:=zA v;clear D v;go_enter func91,ntmps91;go_wp2_with fail
 go_loop [7] (fun i=>∃k:Nat,k≤s.size∧i=.int .i64 k∧Hid (zKZ s.data.toList k)) (fun i=>s.size - (intOf i).toNat)
 case atStart=>exact⟨0,yAE _,rfl,zNF _⟩
 case round=>
  obtain⟨k,hk,rfl,y⟩:=hrel
  by_cases g:k < s.size
  · have hb:=s[k].toNat_lt;obtain⟨c,A⟩:=jx (s[k]);have E:=zA A;have H:(s[k].toNat:Int)=(c.toNat:Int):=by rw[A]
    have j:=zA (show(if k=0 then zAx c.toUInt16 else zAu c.toUInt16)=true→zKZ s.data.toList (k+1)from fun h=>zNG y (by rw[o.out];exact g) (by rw[zPG s k g,E.out];exact h));have p:=zA (show(if k=0 then zAx c.toUInt16 else zAu c.toUInt16)=false→false=q from fun h=>by rw[←z.out,zSl (l:=s.data.toList) (k:=k) (by rw[o.out];exact g) (by rw[zPG s k g,E.out];exact h)]);clear A;obtain⟨F,r⟩:=jx (zAx c.toUInt16);obtain⟨G,t⟩:=jx (zJ c.toUInt16);have m:=zA r;have u:=zA t;have B:=zA (show zAu c.toUInt16=(F || G) by unfold zAu;rw[r,t]);clear r t;cases F with
    | true=>
     have b:=zA (j.out (by split;exact m.out;rw[B.out];rfl));go_wp2_with (first | (go_at_call 69;refine(zEu m.out w).mono ?_;rintro e w' ⟨rfl,rfl⟩) | (go_at_call 71;refine(zF5 u.out w).mono ?_;rintro e w' ⟨rfl,rfl⟩));go_round
     case rel=>exact⟨k+1,by omega,by go_num,b⟩
     case measure=>simp[intOf];omega
    | false=>
     by_cases f:k=0
     · have e0:((k:Int)==0)=true:=by rw[f];rfl
       have b:=zA (p.out (by rw[if_pos f];exact m.out));clear f;go_wp2_with (first | (go_at_call 69;refine(zEu m.out w).mono ?_;rintro e w' ⟨rfl,rfl⟩) | (go_at_call 71;refine(zF5 u.out w).mono ?_;rintro e w' ⟨rfl,rfl⟩))
       (try rw[Exit.noGoto_ret])
       go_ret;exact⟨zF b,rfl⟩
     · have e0:((k:Int)==0)=false:=yA.2 jo;cases G with
       | true=>
        have b:=zA (j.out (by rw[if_neg f,B.out];rfl));clear f;go_wp2_with (first | (go_at_call 69;refine(zEu m.out w).mono ?_;rintro e w' ⟨rfl,rfl⟩) | (go_at_call 71;refine(zF5 u.out w).mono ?_;rintro e w' ⟨rfl,rfl⟩));go_round
        case rel=>exact⟨k+1,by omega,by go_num,b⟩
        case measure=>simp[intOf];omega
       | false=>
        have b:=zA (p.out (by rw[if_neg f,B.out];rfl));clear f;go_wp2_with (first | (go_at_call 69;refine(zEu m.out w).mono ?_;rintro e w' ⟨rfl,rfl⟩) | (go_at_call 71;refine(zF5 u.out w).mono ?_;rintro e w' ⟨rfl,rfl⟩))
        (try rw[Exit.noGoto_ret])
        go_ret;exact⟨zF b,rfl⟩
  · have C:=zA (show zKZ s.data.toList s.data.toList.length by rw[o.out,show s.size=k by omega];exact y.out)
    by_cases d:s.data.toList=[]
    · have e1:s.toList=[]:=by rw[ByteArray.toList_eq];exact d
      have b:=zA (show false=q by rw[←z.out,d];rfl);have e2:(s.toList==[])=true:=by rw[e1];rfl
      have e3:s.toList.isEmpty=true:=by rw[e1];rfl
      clear d e1;go_wp2_with fail;go_ret;exact⟨zF b,rfl⟩
    · have e1:s.toList≠[]:=by rw[ByteArray.toList_eq];exact d
      have b:=zA (show true=q by rw[←z.out,zPF C.out d]);have e2:(s.toList==[])=false:=yA.2 e1;have e3:s.toList.isEmpty=false:=by rw[List.isEmpty_eq_false_iff];exact e1
      clear d e1;go_wp2_with fail;go_ret;exact⟨zF b,rfl⟩
theorem zI9 (s:ByteArray) (w:World) (hs:s.size≤8192) (b:zBn s.data.toList=q):
 Calls prog 90 #[.string s] w fun e w'=>e=.returned q∧w=w':=by
 cases hr:zGL s.data.toList with
 | false=>
  obtain rfl:q=false:=by rw[←b];unfold zBn;rw[hr];rfl
  have c:=zA hr;clear hr b;go_enter func90,ntmps90;go_wp2_with (go_at_call 91;refine(zGc s w hs c.out).mono ?_;rintro e w' ⟨rfl,rfl⟩);go_ret;exact⟨rfl,rfl⟩
 | true=>
  obtain⟨n,d⟩:=jx (zCS s.data.toList);have f:=zA (show(n==0)=q by rw[←b,←d];unfold zBn;rw[hr];rfl);have c:=zA hr;have g:=zA (show∀w:World,Calls prog 113 #[.string s] w fun e w'=>e=.returned n∧w=w' from fun w=>by have:=zDl s w;rwa [d]at this);clear hr b d;go_enter func90,ntmps90;go_wp2_with (first | (go_at_call 91;refine(zGc s w hs c.out).mono ?_;rintro e w' ⟨rfl,rfl⟩) | (go_at_call 113;refine(g.out w).mono ?_;rintro e w' ⟨rfl,rfl⟩));go_ret;refine⟨zF ?_,rfl⟩;rw[←f.out,yBJ,yBL,yBL];omega
def zEv (l:List Nat):List Value:=l.map fun n:Nat=>Value.int .i64 (n:Int)
theorem zLu (l:List Nat):(zEv l).length=l.length:=by simp[zEv]
def zCC (w:World) (q:List Nat×Nat) (e:Ending) (w':World):Prop:=
 ∃A c,e=.returned (.tuple #[.slice A q.1.length c,q.2])∧q.1.length≤c∧Reads w' w'.heap.size 1 A q.1.length (zEv q.1)∧jY w w'
theorem zEw (w:World) (r:Nat) {q:List Nat×Nat} (b:q=([],r)):zCC w q (.returned (.tuple #[(),r])) w:=by
 subst b;exact⟨none,0,rfl,yAC _,Reads.none_,Below.refl _ _⟩
theorem zJA (w:World) (cs:List Value) (T:TypeId):Reads (w.alloc (.cells cs.toArray T)) (w.heap.size+1) 1 (some ⟨w.heap.size,0,none⟩) cs.length cs:=by
 refine⟨by simp,fun _=>⟨_,rfl,by show w.heap.size < _;omega,fun j u b=>?_⟩⟩;rw[Addr.add_lit,yBR _ _ _ _ rfl];simpa using b
theorem zAW (w:World) (l:List Nat) (r m:Nat) {T:TypeId} {q:List Nat×Nat} (c:q=(l.take m,r)) (d:m≤l.length):zCC w q (.returned (.tuple #[.slice (some ⟨w.heap.size,0,none⟩) m l.length,r])) (w.alloc (.cells (zEv l).toArray T)):=by
 subst c;have b:(l.take m).length=m:=by rw[yBK];omega
 refine⟨some ⟨w.heap.size,0,none⟩,l.length,by show _=Ending.returned (.tuple #[.slice _ (l.take m).length _,_]);rw[b],by show(l.take m).length≤_;omega,?_,ja⟩;have h:=(zJA w (zEv l) T);rw[zLu]at h;have f:=h.take (k:=m) d;show Reads _ _ 1 _ (l.take m).length (zEv (l.take m));rw[b];have e:zEv (l.take m)=(zEv l).take (m*1):=by rw[Nat.mul_one];simp[zEv]
 rw[e];exact f.more js
def zah (w:World) (l:List Nat) (e:Ending) (w':World):Prop:=
 ∃A c,e=.returned (.slice A l.length c)∧l.length≤c∧Reads w' w'.heap.size 1 A l.length (zEv l)∧jY w w'
structure PrS (w wr:World) (v:Value) (l:List Nat):Prop where
 own:wr.ownsRow w.heap.size 3 1 v l.length (zEv l)
 below:jY w wr
theorem zFY (n last:Nat) (z:n≤1000000) (w:World):Calls prog 93 #[n,last] w (zah w (zBA n last)):=by
 obtain⟨q,hi,b,d,f⟩:=info_parts Tryz.info_int;have s:=zA (And.intro hi (And.intro b (And.intro d f)));clear hi b d f;go_enter func93,ntmps93;go_wp2_with fail
 go_loopw [5,8] (fun v i wr=>∃k:Nat,k≤n - 1∧i=.int .i64 k∧Hid (PrS w wr v (List.replicate k 6))) (fun _ i _=>n - (intOf i).toNat)
 case atStart=>exact⟨0,yAE _,rfl,⟨yAJ _ _ _ _,Below.refl _ _⟩⟩
 case round=>
  obtain⟨k,hk,rfl,g⟩:=hrel;obtain⟨hi,b,d,f⟩:=s.out
  by_cases r:k < n - 1
  · have e0:(k:Int) < (n:Int) - 1:=by omega
    go_wp2_with (at_builtin;refine zDI rfl _ _ 56 rfl w.heap.size 3 q (.int .i64 0) 1 8 underlying56 hi b d f rfl jd u5 _ _ rfl (by exact g.out.own) g.out.below.size [(6:Int)] 1 1 rfl rfl rfl (by rw[List.length_replicate];omega) jd ?_;intro v' w' j l);have p:=zA j;have t:=zA l;clear j l hi b d f;go_wp2_with fail
    go_roundw
    case rel=>
     refine⟨k+1,by omega,by go_num,⟨?_,g.out.below.trans (t.out.below (zLa g.out.own) g.out.below.size)⟩⟩;have:=p.out;rw[show zEv (List.replicate k 6)++[Value.int .i64 6]=zEv (List.replicate (k+1) 6) by rw[List.replicate_succ'];simp[zEv]]at this;simpa using this
    case measure=>simp[intOf];omega
  · have e0:¬(k:Int) < (n:Int) - 1:=by omega
    obtain rfl:k=n - 1:=by omega
    obtain⟨K,o⟩:=jx (n - 1);rw[o]at g e0;rw[o];have m:=zA o;clear o hk r;go_wp2_with (at_builtin;refine zDI rfl _ _ 56 rfl w.heap.size 3 q (.int .i64 0) 1 8 underlying56 hi b d f rfl jd u5 _ _ rfl (by exact g.out.own) g.out.below.size [last] 1 1 rfl rfl rfl (by rw[List.length_replicate];have:=m.out;omega) jd ?_;intro v' w' j l);have e:zEv (List.replicate K 6)++[Value.int .i64 (last:Int)]=zEv (zBA n last):=by unfold zBA;rw[m.out];simp[zEv]
    have e2:(List.replicate K 6).length+1=(zBA n last).length:=by unfold zBA;rw[m.out];simp
    rw[e,e2]at j;have u:=zA (g.out.below.trans (l.below (zLa g.out.own) g.out.below.size));obtain⟨A,c,rfl,y,_⟩:=zP j;have p:=zA (Reads.of_own j);clear j l e e2 hi b d f;go_wp2_with fail;go_ret;exact⟨A,c,rfl,y,p,u⟩
theorem zNH (k:Int) (h:k∈([1,3,4,5,6,9,10,15,16,17,18,38,39,40,43,44,45,46,47,48,49,50,51,52,53]:List Int)) (n:Nat) (w:World):Calls prog 48 #[k,n] w (zCC w (zu k n)):=by
 simp only[yAW,yBV,or_false]at h;rcases h with rfl | rfl | rfl | rfl | rfl | rfl | rfl | rfl | rfl | rfl | rfl | rfl | rfl | rfl | rfl | rfl | rfl | rfl | rfl | rfl | rfl | rfl | rfl | rfl | rfl
 all_goals
  go_enter func48,ntmps48;go_wp2_with fail
  go_ret2
  first
  | exact zAW w [3] 0 1 rfl jd
  | exact zAW w [3,2] 0 2 rfl jd
  | exact zAW w [10,9,9,2] 0 4 rfl jd
  | exact zAW w [8,11,12] 0 3 rfl jd
  | exact zAW w [8] 0 1 rfl jd
  | exact zAW w [2] 0 1 rfl jd
  | exact zAW w [4] 0 1 rfl jd
  | exact zAW w [3,3] 0 2 rfl jd
  | exact zAW w [3,3,3] 0 3 rfl jd
  | exact zAW w [4,3] 0 2 rfl jd
  | exact zAW w [5] 5 1 rfl jd
  | exact zAW w [3] 3 1 rfl jd
  | exact zEw w 1 rfl
  | exact zEw w 3 rfl
  | exact zEw w 7 rfl
theorem zNI (n:Nat) (h:n≤1) (w:World):Calls prog 48 #[(7:Int),n] w (zCC w (zu 7 n)):=by
 have e:(n:Int)≤1:=by omega
 have m1:min (n:Int) 1=n:=by omega
 go_enter func48,ntmps48;go_wp2_with fail
 go_ret2
 exact zAW w [3] 0 n (q:=zu 7 n) (by show([3].take (min n 1),0)=_;rw[show min n 1=n by omega]) (by show n≤1;omega)
theorem zNJ (n:Nat) (h:2≤n) (w:World):Calls prog 48 #[(7:Int),n] w (zCC w (zu 7 n)):=by
 have e:¬(n:Int)≤1:=by omega
 have m1:min (n:Int) 1=1:=by omega
 go_enter func48,ntmps48;go_wp2_with fail
 go_ret2
 exact zAW w [3] 0 1 (q:=zu 7 n) (by show([3].take (min n 1),0)=_;rw[show min n 1=1 by omega]) jd
theorem zKa (n:Nat) (h:n≤1) (w:World):Calls prog 48 #[(14:Int),n] w (zCC w (zu 14 n)):=by
 have e:(n:Int)≤1:=by omega
 have m1:min (n:Int) 1=n:=by omega
 go_enter func48,ntmps48;go_wp2_with fail
 go_ret2
 exact zAW w [3] 0 n (q:=zu 14 n) (by show([3].take (min n 1),0)=_;rw[show min n 1=n by omega]) (by show n≤1;omega)
theorem zKb (n:Nat) (h:2≤n) (w:World):Calls prog 48 #[(14:Int),n] w (zCC w (zu 14 n)):=by
 have e:¬(n:Int)≤1:=by omega
 have m1:min (n:Int) 1=1:=by omega
 go_enter func48,ntmps48;go_wp2_with fail
 go_ret2
 exact zAW w [3] 0 1 (q:=zu 14 n) (by show([3].take (min n 1),0)=_;rw[show min n 1=1 by omega]) jd
theorem zKc (n:Nat) (h:n≤1) (w:World):Calls prog 48 #[(8:Int),n] w (zCC w (zu 8 n)):=by
 have m1:max (n:Int) 2=2:=by omega
 have m2:min (2:Int) 3=2:=by omega
 have e:(n:Int)≤2:=by omega
 have e2:¬2≤(n:Int):=by omega
 go_enter func48,ntmps48;go_wp2_with fail
 go_ret2
 exact zAW w [3,2,2] 0 2 (q:=zu 8 n) (by show([3,2,2].take (min (max n 2) 3),0)=_;rw[show min (max n 2) 3=2 by omega]) jd
theorem zKd (n:Nat) (h:n=2) (w:World):Calls prog 48 #[(8:Int),n] w (zCC w (zu 8 n)):=by
 have m1:max (n:Int) 2=n:=by omega
 have m2:min (n:Int) 3=n:=by omega
 have e:(n:Int)≤2:=by omega
 have e2:2≤(n:Int):=by omega
 have e3:(n:Int)≤3:=by omega
 have H:=zA h;clear h;go_enter func48,ntmps48;go_wp2_with fail
 go_ret2
 exact zAW w [3,2,2] 0 n (q:=zu 8 n) (by show([3,2,2].take (min (max n 2) 3),0)=_;rw[show min (max n 2) 3=n by have:=H.out;omega]) (by have:=H.out;show n≤3;omega)
theorem zIM (n:Nat) (h:n=3) (w:World):Calls prog 48 #[(8:Int),n] w (zCC w (zu 8 n)):=by
 have m1:max (n:Int) 2=n:=by omega
 have m2:min (n:Int) 3=n:=by omega
 have e:¬(n:Int)≤2:=by omega
 have e2:(n:Int)≤3:=by omega
 have H:=zA h;clear h;go_enter func48,ntmps48;go_wp2_with fail
 go_ret2
 exact zAW w [3,2,2] 0 n (q:=zu 8 n) (by show([3,2,2].take (min (max n 2) 3),0)=_;rw[show min (max n 2) 3=n by omega]) (by show n≤3;omega)
theorem zJB (n:Nat) (h:4≤n) (w:World):Calls prog 48 #[(8:Int),n] w (zCC w (zu 8 n)):=by
 have m1:max (n:Int) 2=n:=by omega
 have m2:min (n:Int) 3=3:=by omega
 have e:¬(n:Int)≤2:=by omega
 have e2:¬(n:Int)≤3:=by omega
 go_enter func48,ntmps48;go_wp2_with fail
 go_ret2
 exact zAW w [3,2,2] 0 3 (q:=zu 8 n) (by show([3,2,2].take (min (max n 2) 3),0)=_;rw[show min (max n 2) 3=3 by omega]) jd
theorem zSm (n:Nat) (h:n≤1000000) (w:World):Calls prog 48 #[(19:Int),n] w (zCC w (zu 19 n)):=by
 go_enter func48,ntmps48;go_wp2_with (go_at_call 93;refine(zFY n 8 h w).mono ?_;rintro e w' ⟨A,c,rfl,b,d,hb⟩)
 go_ret2
 exact⟨A,c,rfl,b,d,hb⟩
theorem zSn (n:Nat) (h:n≤1000000) (w:World):Calls prog 48 #[(41:Int),n] w (zCC w (zu 41 n)):=by
 go_enter func48,ntmps48;go_wp2_with (go_at_call 93;refine(zFY n 8 h w).mono ?_;rintro e w' ⟨A,c,rfl,b,d,hb⟩)
 go_ret2
 exact⟨A,c,rfl,b,d,hb⟩
theorem zSo (n:Nat) (h:n≤1000000) (w:World):Calls prog 48 #[(42:Int),n] w (zCC w (zu 42 n)):=by
 go_enter func48,ntmps48;go_wp2_with (go_at_call 93;refine(zFY n 13 h w).mono ?_;rintro e w' ⟨A,c,rfl,b,d,hb⟩)
 go_ret2
 exact⟨A,c,rfl,b,d,hb⟩
theorem zNK (k:Int) (n:Nat) (h:∀j∈([1,3,4,5,6,7,8,9,10,14,15,16,17,18,19,38,39,40,41,42,43,44,45,46,47,48,49,50,51,52,53]:List Int),k≠j) (w:World):Calls prog 48 #[k,n] w (zCC w (zu k n)):=by
 have e1:(k==1)=false:=yA.2 (h 1 jd);have e3:(k==3)=false:=yA.2 (h 3 jd);have e4:(k==4)=false:=yA.2 (h 4 jd);have e5:(k==5)=false:=yA.2 (h 5 jd);have e6:(k==6)=false:=yA.2 (h 6 jd);have e7:(k==7)=false:=yA.2 (h 7 jd);have e8:(k==8)=false:=yA.2 (h 8 jd);have L:(k==9)=false:=yA.2 (h 9 jd);have e:(k==10)=false:=yA.2 (h 10 jd);have f:(k==14)=false:=yA.2 (h 14 jd);have l:(k==15)=false:=yA.2 (h 15 jd);have m:(k==16)=false:=yA.2 (h 16 jd);have o:(k==17)=false:=yA.2 (h 17 jd);have q:(k==18)=false:=yA.2 (h 18 jd);have r:(k==19)=false:=yA.2 (h 19 jd);have s:(k==38)=false:=yA.2 (h 38 jd);have t:(k==39)=false:=yA.2 (h 39 jd);have u:(k==40)=false:=yA.2 (h 40 jd);have v:(k==41)=false:=yA.2 (h 41 jd);have y:(k==42)=false:=yA.2 (h 42 jd);have z:(k==43)=false:=yA.2 (h 43 jd);have A:(k==44)=false:=yA.2 (h 44 jd);have B:(k==45)=false:=yA.2 (h 45 jd);have C:(k==46)=false:=yA.2 (h 46 jd);have D:(k==47)=false:=yA.2 (h 47 jd);have E:(k==48)=false:=yA.2 (h 48 jd);have F:(k==49)=false:=yA.2 (h 49 jd);have G:(k==50)=false:=yA.2 (h 50 jd);have H:(k==51)=false:=yA.2 (h 51 jd);have I:(k==52)=false:=yA.2 (h 52 jd);have J:(k==53)=false:=yA.2 (h 53 jd);have d:Hid (zu k n=([],0)):=by
  have c:∀{p:Prop} [Decidable p] {a b:List Nat×Nat},¬p→b=([],0)→(if p then a else b)=([],0):=fun h1 c=>by rw[if_neg h1,c]
  have g:k≠1∧k≠3∧k≠4∧k≠5∧k≠6∧k≠7∧k≠8∧k≠9∧k≠10∧k≠14∧k≠15∧k≠16∧k≠17∧k≠18∧k≠19∧k≠38∧k≠39∧k≠40∧k≠41∧k≠42∧k≠43∧k≠44∧k≠45∧k≠46∧k≠47∧k≠48∧k≠49∧k≠50∧k≠51∧k≠52∧k≠53:=by refine⟨h 1 jd,h 3 jd,h 4 jd,h 5 jd,h 6 jd,h 7 jd,h 8 jd,h 9 jd,h 10 jd,h 14 jd,h 15 jd,h 16 jd,h 17 jd,h 18 jd,h 19 jd,h 38 jd,h 39 jd,h 40 jd,h 41 jd,h 42 jd,h 43 jd,h 44 jd,h 45 jd,h 46 jd,h 47 jd,h 48 jd,h 49 jd,h 50 jd,h 51 jd,h 52 jd,h 53 jd⟩
  clear h;unfold zu
  repeat' refine c jo ?_
  rfl
 clear h;go_enter func48,ntmps48;go_wp2_with fail
 go_ret2
 exact zEw w 0 d
theorem zPH (k:Int) (n:Nat) (b:n≤1000000) (w:World):Calls prog 48 #[k,n] w (zCC w (zu k n)):=by
 by_cases c:k∈([1,3,4,5,6,9,10,15,16,17,18,38,39,40,43,44,45,46,47,48,49,50,51,52,53]:List Int)
 · exact zNH k c n w
 simp only[yAW,yBV,or_false,not_or]at c
 by_cases l:k=7
 · subst l
   by_cases h:n≤1
   · exact zNI n h w
   · exact zNJ n jo w
 by_cases m:k=8
 · subst m
   by_cases o:n≤1
   · exact zKc n o w
   by_cases h:n=2
   · exact zKd n h w
   · by_cases p:n=3
     · exact zIM n p w
     · exact zJB n jo w
 by_cases d:k=14
 · subst d
   by_cases h:n≤1
   · exact zKa n h w
   · exact zKb n jo w
 by_cases e:k=19
 · subst e;exact zSm n b w
 by_cases f:k=41
 · subst f;exact zSn n b w
 by_cases g:k=42
 · subst g;exact zSo n b w
 exact zNK k n (fun j q=>by simp only[yAW,yBV,or_false]at q;omega) w
def zBk (l:List jE):List Value:=l.map fun s=>Value.string ⟨s.toArray⟩
theorem zEx (l:List jE):(zBk l).length=l.length:=by simp[zBk]
def zai (s:jE) (xs:List jE) (w:World) (e:Ending) (w':World):Prop:=∃r:Int,e=.returned r∧w=w'∧decide (0≤r)=decide (s∈xs)∧ -1≤r∧r≤4096
theorem zPI {c:Nat} (s:ByteArray) {w:World} (o:xs.length=n) (p:Reads w B 1 A n (zBk xs)) (E:n≤4096):
 Calls prog 131 #[.slice A n c,.string s] w (zai s.data.toList xs w):=by
 have q:=zA o;have D:=zA p;clear o p;go_enter func131,ntmps131;go_wp2_with fail
 go_loop [8] (fun i=>∃k:Nat,k≤n∧i=.int .i64 k∧Hid (s.data.toList∉xs.take k)) (fun i=>n - (intOf i).toNat)
 case atStart=>exact⟨0,yAE _,rfl,by simp[Hid]⟩
 case round=>
  obtain⟨k,hk,rfl,j⟩:=hrel
  by_cases r:k < n
  · have g:k < xs.length:=by rw[q.out];exact r
    obtain⟨b,off,rfl,_,e⟩:=D.out.spotR jo;have f:=e k (.string ⟨xs[k].toArray⟩) (by simp[zBk,yAB g]);have t:=zA (show xs[k]∈xs from yAZ g);have u:=zA (show xs.take (k+1)=xs.take k++[xs[k]]from yAK g);obtain⟨x,l⟩:=jx (xs[k]);rw[l]at f t u;clear e l g
    by_cases d:x=s.data.toList
    · have v:(⟨x.toArray⟩:ByteArray)=s:=by rw[d]
      have m:=zA (show decide (s.data.toList∈xs)=true from yBE (by rw[←d];exact t.out));rw[v]at f;clear d v;go_wp2_with fail
      (try rw[Exit.noGoto_ret])
      go_ret;exact⟨_,rfl,rfl,by rw[m.out];exact yBE jo,by omega,by omega⟩
    · have e1:((⟨x.toArray⟩:ByteArray).toList==s.toList)=false:=by
       rw[yA,ByteArray.toList_eq,ByteArray.toList_eq];exact d
      have e2:(s.toList==(⟨x.toArray⟩:ByteArray).toList)=false:=by
       rw[yA,ByteArray.toList_eq,ByteArray.toList_eq];exact fun h=>d h.symm
      have z:=zA (show s.data.toList∉xs.take (k+1) by
       rw[u.out,yBQ,yBT];rintro(h | h)
       · exact j.out h
       · exact d h.symm)
      obtain⟨y,C⟩:∃y:ByteArray,⟨x.toArray⟩=y:=⟨_,rfl⟩;rw[C]at f e1 e2;clear d C;go_wp2_with fail;go_round
      case rel=>exact⟨k+1,by omega,by go_num,z⟩
      case measure=>simp[intOf];omega
  · have m:=zA (show decide (s.data.toList∈xs)=false from yAI (by
     have:=j.out;rwa [yB (by rw[q.out];omega)]at this))
    go_wp2_with fail;go_ret;exact⟨_,rfl,rfl,by rw[m.out];rfl,by omega,by omega⟩
theorem zFs {c:Nat} (s:ByteArray) {w:World} (d:xs.length=n) (b:Reads w B 1 A n (zBk xs)) (g:n≤4096) (f:decide (s.data.toList∈xs)=q):
 Calls prog 83 #[.slice A n c,.string s] w fun e w'=>e=.returned q∧w=w':=by
 have H:=zA (fun w (b:Reads w B 1 A n (zBk xs))=>zPI (c:=c) s d b g);have j:=zA b;have k:=zA f;clear d b f;go_enter func83,ntmps83;go_wp2_with (go_at_call 131;refine(H.out w j.out).mono ?_;rintro e w' ⟨r,rfl,rfl,l,m,o⟩);go_ret;exact⟨zF (by rw[←k.out,←l]),rfl⟩
def zaa (w:World) (l:List jE) (e:Ending) (w':World):Prop:=∃ad c,e=.returned (.slice (some ad) l.length c)∧Reads w' w'.heap.size 1 (some ad) l.length (zBk l)∧jY w w'
theorem zGd (w:World) (l:List jE) (T:TypeId) (n m:Nat) (h1:l.length=n):zaa w l (.returned (.slice (some ⟨w.heap.size,0,none⟩) n m)) (w.alloc (.cells (zBk l).toArray T)):=by
 subst h1;have h:=zJA w (zBk l) T;rw[zEx]at h;exact⟨_,_,rfl,h.more js,ja⟩
theorem zPJ (k:Int) (h:k=43∨k=44∨k=45∨k=46∨k=47∨k=49) (w:World):Calls prog 92 #[k] w (zaa w (zOh k)):=by
 rcases h with rfl | rfl | rfl | rfl | rfl | rfl
 all_goals
  go_enter func92,ntmps92;go_wp2_with fail;go_ret
  first | exact zGd w zHe _ _ _ rfl | exact zGd w zDa _ _ _ rfl | exact zGd w zX7 _ _ _ rfl | exact zGd w zV3 _ _ _ rfl | exact zGd w zKO _ _ _ rfl
theorem zLv (k:Int) (h:∀j∈([43,44,45,46,47,49]:List Int),k≠j) (w:World):Calls prog 92 #[k] w fun e w'=>e=.returned ()∧w=w':=by
 have b:(k==43)=false:=yA.2 (h 43 jd);have c:(k==44)=false:=yA.2 (h 44 jd);have d:(k==45)=false:=yA.2 (h 45 jd);have f:(k==46)=false:=yA.2 (h 46 jd);have g:(k==47)=false:=yA.2 (h 47 jd);have l:(k==49)=false:=yA.2 (h 49 jd);clear h;go_enter func92,ntmps92;go_wp2_with fail;go_ret;exact⟨rfl,rfl⟩
section
variable {P:Program} (w:World)
theorem zFZ (base:Nat) (t j e:TypeId) (i:TypeInfo) (size:Nat) (d:P.underlying t=some (.slice e)) (hi:P.info? e=some i)
 (v:Value) (n:Nat) (xs:List Value) (b:w.ownsRow base e size v n xs) (c:Nat):(Builtin.append_ #[t,t] j #[v,.slice none 0 c]).run P w=.ok v w:=by
 rcases b.2 with⟨rfl,rfl⟩ | ⟨g,cap,k,rfl,_,_,f,_⟩
 · simp[Builtin.append_,run_underlying d,sizeOf,typeInfo,hi,Builtin.lenOf,Builtin.firstCells]
 · simp[Builtin.append_,run_underlying d,sizeOf,typeInfo,hi,Builtin.lenOf,Builtin.firstCells,f,storeCells]
theorem zEP (base:Nat) (t q e:TypeId) (i:TypeInfo) (z:Value) (size bytes:Nat) (C:P.underlying t=some (.slice e)) (hi:P.info? e=some i) (I:i.zero=some z)
 (o:i.size=size) (D:i.bytes=bytes) (E:z.cells.size=size) (F:0 < size)
 (v:Value) (n:Nat) (xs:List Value) (d:w.ownsRow base e size v n xs)
 (B:Nat) (A:jQ) (m c:Nat) (b:List Value) (g:Reads w B size A m b) (h1:∀u∈b,u.oneCell'=true)
 (G:n+m≤maxLen) (k:(n+m)*bytes≤140737488355328) (p:base≤w.heap.size):
 ∃v' w',(Builtin.append_ #[t,t] q #[v,.slice A m c]).run P w=.ok v' w'∧w'.ownsRow base e size v' (n+m) (xs++b)∧w.grownBy w' v.ownBlock∧
  (v'.ownBlock=v.ownBlock∨v'.ownBlock=some w.heap.size):=by
 rcases A with _ | r
 · have J:m=0:=by
    rcases yCN m with f | f
    · exact f
    · obtain⟨r,h,_⟩:=g.2 f;cases h
   subst J;have s:b=[]:=yBB (by simpa using g.1);subst s;exact⟨v,w,zFZ w base t q e i size C hi v n xs d c,by simpa using d,World.grownBy.refl w _,.inl rfl⟩
 · have l:∀j u,b[j]? =some u→w.cell? (r.add j)=some u:=by
    intro j u H;rcases yCN m with f | f
    · subst f;have s:b=[]:=yBB (by simpa using g.1);subst s;simp at H
    · obtain⟨Q,h,_,L⟩:=g.2 f;injection h with h;subst h;exact L j u H
   obtain⟨v',w',y,M,N,_,O⟩:=run_append_own_at (P:=P) w base t q e i z size bytes C hi I o D E F v n xs d r m c b g.1 l h1 G k p;exact⟨v',w',y,M,N,O⟩
end
theorem Made.empty (w:World) (e:TypeId):Made w (w.alloc (.cells #[] e)) e (.slice (some ⟨w.heap.size,0,none⟩) 0 0) []:=
 ⟨World.ownsRow_made w #[] 0 (yAC _) (yAE _) rfl,ja⟩
theorem Made.lit (w:World) (e:TypeId) (cs:List Value) (h:cs.length≤maxLen):Made w (w.alloc (.cells cs.toArray e)) e (.slice (some ⟨w.heap.size,0,none⟩) cs.length cs.length) cs:=
 ⟨⟨by simp,.inr ⟨w.heap.size,cs.length,cs.toArray,rfl,yAC _,heap_alloc_new w _,yAC _,h,by simp,by simp⟩⟩,ja⟩
mutual
def dangT:Tr→Bool
 | .mk x l=>if x.kind=8∧l.length=2 then true else if x.kind=8∨x.kind=9∨x.kind=10∨x.kind=18 then dangL l else false
def dangL:List Tr→Bool
 | []=>false
 | t::r=>match r with | []=>dangT t | _::_=>dangL r
end
theorem zIN (x:Nd) (l:List Tr):dangT (.mk x l)=if x.kind=8∧l.length=2 then true else if x.kind=8∨x.kind=9∨x.kind=10∨x.kind=18 then dangL l else false:=by rw[dangT]
theorem zPK:dangL []=false:=by rw[dangL]
theorem zPL (t:Tr):dangL [t]=dangT t:=by rw[dangL]
theorem zPM (t s:Tr) (r:List Tr):dangL (t::s::r)=dangL (s::r):=by rw[dangL]
def zBy (l:List Tr):List Int:=l.map (·.nd.kind)
def zFz:List Nat→Nat→List Int→Bool
 | _,_,[]=>true
 | [],r,k::ks=>zAd r k&&zFz [] r ks
 | s::l,r,k::ks=>zAd s k&&zFz l r ks
def zY4 (l:List Tr) (i:Nat):Int:=(zBy l).getD i 0
def zWH (l:List Tr) (i:Nat):Bool:=match l[i]? with | none=>false | some t=>dangT t
def zDL (k:Int) (l:List Tr):Bool:=
 zC3 k&&decide ((zu k l.length).1.length≤l.length)
 &&zFz (zu k l.length).1 (zu k l.length).2 (zBy l)
 &&(if k=16 then(zY4 l 1==17 || zY4 l 2==4)else if k=8∧l.length=3 then !(zWH l 1)else true)
mutual
def goodT:Tr→Bool
 | .mk x l=>zL x&&zDL x.kind l&&goodL l
def goodL:List Tr→Bool
 | []=>true
 | t::r=>goodT t&&goodL r
end
theorem zLw (x:Nd) (l:List Tr):goodT (.mk x l)=(zL x&&zDL x.kind l&&goodL l):=by rw[goodT]
theorem zJC:goodL []=true:=by rw[goodL]
theorem zHh (t:Tr) (r:List Tr):goodL (t::r)=(goodT t&&goodL r):=by rw[goodL]
theorem zPN {l:List Tr}:goodL l=true↔∀t∈l,goodT t=true:=by
 induction l with
 | nil=>rw[zJC];simp
 | cons t r b=>rw[zHh,yAQ,b];simp
theorem zHi:∀(l:List Tr),dangL l=match l.getLast? with | none=>false | some t=>dangT t:=by
 intro l
 induction l with
 | nil=>rw[zPK];rfl
 | cons t r b=>
  cases r with
  | nil=>rw[zPL];rfl
  | cons s r=>rw[zPM,b,List.getLast?_cons_cons]
theorem zKe:∀{ts:List Nd} {l:List Tr} {n:Nat} (_:AtL ts n l),(l=[]∧(zx n l).getLast? =none)∨∃(p:Nat) (t:Tr),(zx n l).getLast? =some (p:Int)∧l.getLast? =some t∧At ts p t∧t.size≤sizes l:=by
 intro ts l
 induction l with
 | nil=>intro n _;exact .inl ⟨rfl,rfl⟩
 | cons t r d=>
  intro n h;right;rcases d h.tail with⟨e,_⟩ | ⟨p,s,h1,c,f,g⟩
  · subst e;exact⟨n,t,rfl,rfl,h.head,by rw[zY];omega⟩
  · cases r with
    | nil=>cases c
    | cons s' b=>
     refine⟨p,s,?_,by rw[List.getLast?_cons_cons];exact c,f,by rw[zY];omega⟩;show((n:Int)::zx (n+t.size) (s'::b)).getLast? =_;rw[show zx (n+t.size) (s'::b)=((n+t.size:Nat):Int)::zx (n+t.size+s'.size) b from rfl]at h1⊢;rw[List.getLast?_cons_cons];exact h1
theorem zWI:∀(f:Nat) (n:Nat) (t:Tr),At ts n t→t.size≤f→zM1 f ts (n:Int)=dangT t:=by
 intro f
 induction f with
 | zero=>intro n t _ h;have:=zBF t;omega
 | succ f b=>
  intro n t h c;cases t with
  | mk x l=>
   rw[zAk]at c;rw[zIN];unfold zM1;have e1:(atN ts (n:Int)).kind=x.kind:=by rw[zI6 h];rfl
   have e2:(atN ts (n:Int)).kids=zx (n+1) l:=by rw[zI6 h];rfl
   rw[e1,e2,zBV];congr 1;congr 1;rw[zHi];rcases zKe h.subs with⟨d,h1⟩ | ⟨p,s,h1,e,g,j⟩
   · rw[h1,d];rfl
   · rw[h1,e];exact b p s g jo
theorem zPO (h:At ts n t):zDf ts (n:Int)=dangT t:=zWI _ n t h (by have:=h.le;omega)
theorem zYI:∀(l:List Tr) (n:Nat) (s:List Nat) (r:Nat),AtL ts n l→zBo ts s r (zx n l)=zFz s r (zBy l):=by
 intro l
 induction l with
 | nil=>intro n s r _;cases s<;>rfl
 | cons t l b=>
  intro n s r h;have h1:(atN ts (n:Int)).kind=t.nd.kind:=by rw[zI6 h.head,zBr]
  cases s with
  | nil=>
   show(zAd r (atN ts (n:Int)).kind&&zBo ts [] r (zx (n+t.size) l))=(zAd r t.nd.kind&&zFz [] r (zBy l));rw[h1,b _ _ _ h.tail]
  | cons a s=>
   show(zAd a (atN ts (n:Int)).kind&&zBo ts s r (zx (n+t.size) l))=(zAd a t.nd.kind&&zFz s r (zBy l));rw[h1,b _ _ _ h.tail]
theorem zSp:∀(ks:List Int) (l:List Nat),zFz l 0 ks=true→ks.length≤l.length:=by
 intro ks
 induction ks with
 | nil=>intro l _;simp
 | cons k r b=>
  intro l h;cases l with
  | nil=>
   unfold zFz at h;simp[zAd]at h
  | cons s l=>
   unfold zFz at h;rw[yAQ]at h;have:=b l h.2;simp only[yAO];omega
theorem zEZ {l:List Tr} (h:AtL ts n l) (hi:i < l.length):∃p:Nat,(zx n l).getD i 0=(p:Int)∧At ts p l[i]:=by
 obtain⟨p,h1,b,_⟩:=h.kid i hi;exact⟨p,by rw[yAG,h1];rfl,b⟩
theorem zPP {l:List Tr} (hi:i < l.length):zY4 l i=l[i].nd.kind:=by
 unfold zY4 zBy;rw[yAG,yCH,yAB hi];rfl
theorem zWJ {l:List Tr} (h:At ts n (.mk x l)):zCz ts ((Tr.mk x l).laid n)=zDL x.kind l:=by
 have hk:((Tr.mk x l).laid n).kind=x.kind:=rfl;have hs:((Tr.mk x l).laid n).kids=zx (n+1) l:=rfl;unfold zCz zDL;rw[hk,hs,zBV,zYI l (n+1) _ _ h.subs]
 by_cases h1:decide ((zu x.kind l.length).1.length≤l.length)=true
 · rw[h1]
   by_cases c:zFz (zu x.kind l.length).1 (zu x.kind l.length).2 (zBy l)=true
   · rw[c];congr 1
     by_cases b:x.kind=16
     · rw[if_pos b,if_pos b];have g:l.length=3:=by
        rw[b]at h1 c;have f:3≤l.length:=yBF h1;have e:=zSp _ _ c;unfold zBy at e;rw[List.length_map]at e;exact Nat.le_antisymm e f
       obtain⟨p,e1,a1⟩:=zEZ h.subs (i:=1) jo;obtain⟨q,e2,a2⟩:=zEZ h.subs (i:=2) jo;rw[e1,e2,zI6 a1,zI6 a2,zBr,zBr,zPP jo,zPP jo]
     · rw[if_neg b,if_neg b]
       by_cases d:x.kind=8∧l.length=3
       · rw[if_pos d,if_pos d];obtain⟨p,e1,a1⟩:=zEZ h.subs (i:=1) jo;rw[e1,zPO a1];unfold zWH;rw[yAB jo]
       · rw[if_neg d,if_neg d]
   · rw[Bool.not_eq_true]at c;rw[c];simp
 · rw[Bool.not_eq_true]at h1;rw[h1];simp
theorem zSq (a b:List Nd) (n:Nat):zB0 ts n (a++b)=(zB0 ts n a&&zB0 ts (n+a.length) b):=by
 induction a generalizing n with
 | nil=>simp[zB0]
 | cons x r c=>
  show(_&&zB0 ts (n+1) (r++b))=_;rw[c];show _=((_&&zB0 ts (n+1) r)&&zB0 ts (n+(r.length+1)) b);rw[show n+1+r.length=n+(r.length+1) by omega];simp only[Bool.and_assoc]
theorem zJD (x:Nd) (ks:List Int):zL {x with kids:=ks}=zL x:=rfl
theorem zLx (s:Nat):zAd s 1=false:=by
 have f:∀{p:Prop} [Decidable p] {a b:Bool},a=false→b=false→(if p then a else b)=false:=fun h1 c=>by split<;>assumption
 unfold zAd
 repeat' refine f ?_ ?_
 all_goals rfl
theorem zSr:∀(ks:List Int) (s:List Nat) (r:Nat),zFz s r ks=true→∀k∈ks,k≠1:=by
 intro ks
 induction ks with
 | nil=>intro s r _ k hk;cases hk
 | cons a ks c=>
  intro s r h k hk;cases s with
  | nil=>
   unfold zFz at h;rw[yAQ]at h;rcases yAW.1 hk with rfl | hk
   · intro e;rw[e,zLx]at h;cases h.1
   · exact c _ _ h.2 k hk
  | cons b s=>
   unfold zFz at h;rw[yAQ]at h;rcases yAW.1 hk with rfl | hk
   · intro e;rw[e,zLx]at h;cases h.1
   · exact c _ _ h.2 k hk
mutual
theorem eachT {ts:List Nd} (n:Nat) (t:Tr) (h:At ts n t) (h1:n=0∨t.nd.kind≠1):zB0 ts n (flatT n t)=goodT t:=by
 cases t with
 | mk x l=>
  rw[zAz,zLw];show(!(decide (0 < n)&&x.kind==1)&&zL {x with kids:=zx (n+1) l}&&zCz ts ((Tr.mk x l).laid n)&&zB0 ts (n+1) (flatL (n+1) l))=_;have e:(decide (0 < n)&&x.kind==1)=false:=by
   rcases h1 with h1 | h1
   · subst h1;rfl
   · have:(x.kind==1)=false:=yA.2 h1;rw[this,Bool.and_false]
  rw[e,zJD,zWJ h,Bool.not_false,yC]
  by_cases h2:zDL x.kind l=true
  · rw[eachL (n+1) l h.subs jo (by
     unfold zDL at h2;simp only[yAQ]at h2;intro t ht;exact zSr _ _ _ h2.1.2 _ (List.mem_map_of_mem ht))]
  · rw[Bool.not_eq_true]at h2;rw[h2];simp
theorem eachL {ts:List Nd} (n:Nat) (l:List Tr) (h:AtL ts n l) (h0:0 < n) (h1:∀t∈l,t.nd.kind≠1):zB0 ts n (flatL n l)=goodL l:=by
 cases l with
 | nil=>rw[zA0,zJC];rfl
 | cons t r=>
  rw[zAP,zHh,zSq,flatT_len,eachT n t h.head (.inr (h1 t (yBN ..))),eachL (n+t.size) r h.tail jo fun s hs=>h1 s (yAV _ hs)]
end
structure Good (t:Tr):Prop where
 size:t.size≤4096
 kind:t.nd.kind=1
 good:goodT t=true
 nest:depT t≤48
theorem zSs:May (flatT 0 t) t↔Good t:=by
 have b:=eachT (ts:=flatT 0 t) 0 t (At.whole t) (.inl rfl);constructor
 · intro h;exact⟨by have:=h.len;rwa[flatT_len]at this,h.kind,by rw[←b];exact h.each,h.nest⟩
 · intro h;exact⟨rfl,by rw[flatT_len];exact h.size,by rw[b];exact h.good,h.nest,h.kind⟩
theorem zLy (h:May ts t):Good t:=by
 have e:=h.flat
 subst e;exact zSs.1 h
def zAR (ts:List Nd):List Int:=ts.flatMap (·.kids)
theorem zCr (x:Nd) (r:List Nd):zAR (x::r)=x.kids++zAR r:=rfl
theorem zDM (a b:List Nd):zAR (a++b)=zAR a++zAR b:=List.flatMap_append ..
mutual
theorem countT (n:Nat) (t:Tr) (i:Nat):(zAR (flatT n t)).count (i:Int)=if n < i∧i < n+t.size then 1 else 0:=by
 cases t with
 | mk x l=>
  rw[zAz,zCr,List.count_append,zAk];have:=countL (n+1) l i;show(zx (n+1) l).count (i:Int)+_=_;rw[this];congr 1;rw[eq_iff_iff];omega
theorem countL (n:Nat) (l:List Tr) (i:Nat):(zx n l).count (i:Int)+(zAR (flatL n l)).count (i:Int)=if n≤i∧i < n+sizes l then 1 else 0:=by
 cases l with
 | nil=>
  rw[zA0,zo,jn];rfl
 | cons t r=>
  rw[zAP,zDM,List.count_append,zY];have h1:=countT n t i;have h2:=countL (n+t.size) r i;have h3:=zBF t;show((n:Int)::zx (n+t.size) r).count (i:Int)+_=_;rw[List.count_cons,h1]
  by_cases e:i=n
  · subst e;have h4:¬(i+t.size≤i∧i < i+t.size+sizes r):=by omega
    rw[if_neg h4]at h2;rw[if_pos js,jn,if_pos jo];omega
  · have h5:((n:Int)==(i:Int))=false:=yA.2 jo;rw[h5,if_neg js]
    by_cases h6:n < i∧i < n+t.size
    · rw[jn]at h2;rw[if_pos h6,if_pos jo];omega
    · by_cases h7:n+t.size≤i∧i < n+t.size+sizes r
      · rw[if_pos h7]at h2;rw[if_neg h6,if_pos jo];omega
      · rw[if_neg h7]at h2;rw[if_neg h6,jn];omega
end
theorem zPQ (v:Nat):∀(l:List Tr) (n k:Nat),(k:Int)∈zx n l→(depsL v l)[k - n]? =some v:=by
 intro l
 induction l with
 | nil=>intro n k h;cases h
 | cons t r b=>
  intro n k h;have c:=zBF t;rw[zC5];rcases yAW.1 h with h | h
  · obtain rfl:k=n:=by omega
    rw[yCS,yBD (by rw[depsT_len];omega)];cases t;rw[zDK];rfl
  · have d:=zBp h;rw[yAX (by rw[depsT_len];omega),depsT_len,Nat.sub_sub];exact b (n+t.size) k h
mutual
theorem kidsT (n v:Nat) (t:Tr) (i:Nat) (x:Nd) (h:(flatT n t)[i]? =some x):
 (∀k∈x.kids,((n+i:Nat):Int) < k∧k < ((n+t.size:Nat):Int))∧(∀k,x.kids[0]? =some k→k=((n+i+1:Nat):Int))∧(∀k:Nat,(k:Int)∈x.kids→∃d,(depsT v t)[i]? =some d∧(depsT v t)[k - n]? =some (d+1)):=by
 cases t with
 | mk y l=>
  rw[zAz]at h;rw[zDK,zAk];cases i with
  | zero=>
   obtain rfl:{y with kids:=zx (n+1) l}=x:=yBI h;refine⟨fun k hk=>by have:=zBp hk;omega,fun k hk=>?_,fun k hk=>⟨v,rfl,?_⟩⟩
   · cases l with
     | nil=>cases hk
     | cons t r=>obtain rfl:((n+1:Nat):Int)=k:=yBI hk;omega
   · have h2:=zBp hk;rw[show k - n=(k - (n+1))+1 by omega,List.getElem?_cons_succ];exact zPQ (v+1) l (n+1) k hk
  | succ i=>
   rw[List.getElem?_cons_succ]at h;obtain⟨h1,h2,h3⟩:=kidsL (n+1) (v+1) l i x h;refine⟨fun k hk=>by have:=h1 k hk;omega,fun k hk=>by have:=h2 k hk;omega,fun k hk=>?_⟩;obtain⟨d,h4,h5⟩:=h3 k hk;have:=(h1 k hk).1;exact⟨d,by rw[List.getElem?_cons_succ];exact h4,by rw[show k - n=(k - (n+1))+1 by omega,List.getElem?_cons_succ];exact h5⟩
theorem kidsL (n v:Nat) (l:List Tr) (i:Nat) (x:Nd) (h:(flatL n l)[i]? =some x):
 (∀k∈x.kids,((n+i:Nat):Int) < k∧k < ((n+sizes l:Nat):Int))∧(∀k,x.kids[0]? =some k→k=((n+i+1:Nat):Int))∧(∀k:Nat,(k:Int)∈x.kids→∃d,(depsL v l)[i]? =some d∧(depsL v l)[k - n]? =some (d+1)):=by
 cases l with
 | nil=>rw[zA0]at h;cases h
 | cons t r=>
  rw[zAP]at h;rw[zC5,zY]
  by_cases hi:i < t.size
  · rw[yBD (by rw[flatT_len];exact hi)]at h;obtain⟨h1,h2,h3⟩:=kidsT n v t i x h;refine⟨fun k hk=>by have:=h1 k hk;omega,h2,fun k hk=>?_⟩;obtain⟨d,h4,h5⟩:=h3 k hk;have:=h1 k hk;exact⟨d,by rw[yBD (by rw[depsT_len];omega)];exact h4,by rw[yBD (by rw[depsT_len];omega)];exact h5⟩
  · rw[yAX (by rw[flatT_len];omega),flatT_len]at h;obtain⟨h1,h2,h3⟩:=kidsL (n+t.size) v r (i - t.size) x h;refine⟨fun k hk=>by have:=h1 k hk;omega,fun k hk=>by have:=h2 k hk;omega,fun k hk=>?_⟩;obtain⟨d,h4,h5⟩:=h3 k hk;have:=h1 k hk;exact⟨d,by rw[yAX (by rw[depsT_len];omega),depsT_len];exact h4,by rw[yAX (by rw[depsT_len];omega),depsT_len,Nat.sub_sub];exact h5⟩
end
structure Ordered (ts:List Nd) (D:List Nat):Prop where
 len:D.length=ts.length
 head:D[0]? =some 1
 lo:∀(n:Nat) (h:n < ts.length),∀k∈ts[n].kids,(n:Int) < k∧k < (ts.length:Int)
 first:∀(n:Nat) (h:n < ts.length) (k:Int),ts[n].kids[0]? =some k→k=(n:Int)+1
 deep:∀(n:Nat) (h:n < ts.length) (k:Nat),(k:Int)∈ts[n].kids→∃d,D[n]? =some d∧D[k]? =some (d+1)
 once:∀k:Nat,1≤k→k < ts.length→(zAR ts).count (k:Int)=1
theorem zJE (t:Tr):Ordered (flatT 0 t) (depsT 1 t):=by
 have b:=flatT_len 0 t;refine⟨by rw[depsT_len,b],by cases t;rw[zDK];rfl,fun n h k hk=>?_,fun n h k hk=>?_,fun n h k hk=>?_,fun k h1 c=>?_⟩
 · have:=(kidsT 0 1 t n _ (yAB h)).1 k hk;rw[b];omega
 · have:=(kidsT 0 1 t n _ (yAB h)).2.1 k hk;omega
 · have:=(kidsT 0 1 t n _ (yAB h)).2.2 k hk;simpa using this
 · rw[countT,if_pos jo]
def Fwd (ts:List Nd):Prop:=∀(n:Nat) (x:Nd),ts[n]? =some x→∀k∈x.kids,(n:Int) < k∧k < (ts.length:Int)
theorem zGe (h:zCP ts=true):Fwd ts:=by
 obtain⟨t,rfl⟩:=zHf h;intro n x b k hk;obtain⟨c,rfl⟩:=yAT.1 b;exact(zJE t).lo n c k hk
theorem zLz (h:ts[m]? =some x):atN ts (m:Int)=x:=by
 unfold atN;rw[yAG,Int.toNat_natCast,h];rfl
def DanAt (ts:List Nd) (n m:Nat) (q:Bool):Prop:=∃f,n - m≤f∧zM1 f ts (m:Int)=q
theorem DanAt.step (h:DanAt ts n m q) (l:m < n) (d:ts[m]? =some x):
 (if x.kind=8∧x.kids.length=2 then true=q else if x.kind=8∨x.kind=9∨x.kind=10∨x.kind=18 then(x.kids=[]→false=q)∧(∀k:Nat,x.kids.getLast? =some (k:Int)→m < k→DanAt ts n k q)else false=q):=by
 obtain⟨f,o,b⟩:=h;obtain⟨g,rfl⟩:∃g,f=g+1:=⟨f - 1,by omega⟩;unfold zM1 at b;rw[zLz d]at b;split
 · rename_i h1;rw[if_pos h1]at b;exact b
 · rename_i h1
   rw[if_neg h1]at b;split
   · rename_i c
     rw[if_pos c]at b;refine⟨fun e=>by rw[e]at b;exact b,fun k hk j=>?_⟩;rw[hk]at b;exact⟨g,by omega,b⟩
   · rename_i c;rw[if_neg c]at b;exact b
theorem zGf {c:Nat} {w:World} (hN:NdsR w B A n ts) (hB:B≤w.heap.size) (X:Fwd ts) (r:∀x∈ts,x.kids.length≤1000000) (O:m < n) (Y:zDf ts (m:Int)=q):
 Calls prog 51 #[.agg #[.slice A n c],m] w fun e w'=>e=.returned q∧jY w w':=by
 obtain⟨W,F⟩:=jx (w.alloc (.cells #[.slice A n c] 24));have G:jY w W:=jb F;have b5:W.heap.size=w.heap.size+1:=by rw[←F];simp
 have a0:=zA ((hN.below (G.mono hB)));have a1:W.cell? w.heap.size=some (.slice A n c):=jc F;have HD:=zA (show DanAt ts n m q from⟨ts.length,by rw[hN.1];omega,Y⟩);have H:=zA G;have HF:=zA X;have a2:=zA r;have a3:=zA hN.1;have HB:=zA hB;clear Y G hN X r;go_enter func51,ntmps51;go_upto_region 1 with(fail);have HW:=zA F;clear F
 go_loopw [1] (fun v wr=>∃k:Nat,k < n∧v=.int .i64 k∧Hid (DanAt ts n k q)∧Hid (jY W wr)) (fun v _=>n - (intOf v).toNat)
 case atStart=>exact⟨m,O,rfl,HD,Below.refl _ _⟩
 case round=>
  obtain⟨k,hk,rfl,hd,D⟩:=hrel;obtain⟨b,o,x,s,rfl,b6,N,hC,hR⟩:=(a0.out.below (D.out.mono jo)).get hk;obtain⟨P,a4,a5,a6,a7,a8,a9,b0⟩:=hC;have b1:wr.cell? w.heap.size=some (.slice (some ⟨b,o,none⟩) n c):=(D.out.cell (p:=w.heap.size) (show w.heap.size < W.heap.size by omega)).trans a1;have d:=hd.out.step hk N;have g:=HF.out k x N;have b2:=a2.out x (yCG N);rw[a3.out]at g;have b3:=D.out.size;obtain⟨K,hK⟩:=jx x.kind;rw[hK]at P d;clear N hd hK O;go_upto_region 2 with(fail);obtain⟨C,f⟩:=jx (wr.alloc (.cells #[K,x.name,.slice s.As x.str.length s.cs,x.nk,x.nn,x.neg,.slice s.Am x.mag.length s.cm,.slice s.Ak x.kids.length s.ck] 58));rw[f];have Q:jY W C:=by rw[←f];exact D.out.alloc b3 _
  have b7:C.heap.size=wr.heap.size+1:=by rw[←f];simp
  have p0:C.cell? wr.heap.size=some (.int .i64 K):=jc f;have p7:C.cell? ⟨wr.heap.size,7,none⟩=some (.slice s.Ak x.kids.length s.ck):=jc f;have l:NdR C B x s:=hR.below (by rw[←f];exact(Below.refl _ _).alloc jo _);have t:=zA Q;clear f Q P a4 a5 a6 a7 a8 a9 b0 b1 hR
  by_cases h1:K=8∧x.kids.length=2
  · rw[if_pos h1]at d;have I:=zA d;obtain⟨h8,u⟩:=h1;subst h8;rw[u]at p7;clear d g l u;go_wp2_with fail
    (try rw[Exit.noGoto_ret])
    go_ret;exact⟨zF I,H.out.trans (t.out.mono jo)⟩
  · rw[if_neg h1]at d
    by_cases u:K=8∨K=9∨K=10∨K=18
    · rw[if_pos u]at d;obtain⟨U,hb⟩:=d;have E:K=8→((x.kids.length:Int)==2)=false:=fun e=>yA.2 (fun e2=>h1 ⟨e,by omega⟩)
      by_cases z:x.kids=[]
      · have I:=zA (U z);rw[z]at p7 E;clear U hb g l h1 z;rcases u with rfl | rfl | rfl | rfl
        all_goals
         clear E;go_wp2_with fail
         (try rw[Exit.noGoto_ret])
         go_ret;exact⟨zF I,H.out.trans (t.out.mono jo)⟩
      · obtain⟨L,V⟩:∃L,x.kids.length=L+1:=⟨x.kids.length - 1,by have:=yCL.2 z;omega⟩;obtain⟨bk,ok,R,b8,S⟩:=l.kids.spotK jo;have b4:=S L jo;have r:=g x.kids[L] (yAZ jo);have J:=l.ck;have M:x.kids.getLast? =some x.kids[L]:=by
         rw[List.getLast?_eq_getElem?,show x.kids.length - 1=L by omega,yAB jo]
        obtain⟨y,hy⟩:=jx (x.kids[L]' jo);rw[hy]at b4 r M;obtain⟨j,rfl⟩:∃j:Nat,y=(j:Int):=⟨y.toNat,by omega⟩;have HN:=zA (hb j M jo);rw[R,V]at p7;rw[V]at E J;have b9:L+1≤1000000:=by omega
        have T:j < n:=by omega
        have c0:k < j:=by omega
        clear U hb g l h1 z R S V M hy J r b2;rcases u with rfl | rfl | rfl | rfl
        · have h4:=E rfl;clear E;go_wp2_with fail
          go_roundw
          case rel=>exact⟨j,T,rfl,HN,t⟩
          case measure=>simp[intOf];omega
        all_goals
         clear E;go_wp2_with fail
         go_roundw
         case rel=>exact⟨j,T,rfl,HN,t⟩
         case measure=>simp[intOf];omega
    · rw[if_neg u]at d;have I:=zA d;have e1:(K==8)=false:=yA.2 jo;have e2:(K==9)=false:=yA.2 jo;have e3:(K==10)=false:=yA.2 jo;have e4:(K==18)=false:=yA.2 jo;clear d g l h1 u;go_wp2_with fail
      (try rw[Exit.noGoto_ret])
      go_ret;exact⟨zF I,H.out.trans (t.out.mono jo)⟩
theorem Tryz.info_strE:(prog.info? 9).map (fun i=>(i.zero,i.size,i.bytes))=some (some (.string ⟨#[]⟩),1,16):=by kernel_rfl
section
variable {P:Program} {w0 w:World} {ops:Array Oper} {rest:List Oper} {o:Oper} {a:Act} {Q:Exit→Act→World→Prop}
theorem zPR (f:o.guard=none) (s x:Operand) (t:TypeId)
 (g:o.op=.call {callee:=.builtin .append,args:=#[s,x],argTypes:=#[t,t]})
 (e:TypeId) (i:TypeInfo) (z:Value) (bytes:Nat) (ht:P.underlying t=some (.slice e)) (hi:P.info? e=some i) (hz:i.zero=some z)
 (hsize:i.size=1) (hby:i.bytes=bytes) (hzs:z.cells.size=1)
 (v:Value) (xs:List Value) (hs:a.eval s=v) (hm:Made w0 w e v xs)
 (B:Nat) (A:jQ) (m c:Nat) (news:List Value) (hx:a.eval x=.slice A m c) (hr:Reads w B 1 A m news) (h1:∀u∈news,u.oneCell'=true)
 (hsz:xs.length+m≤1099511627776) (hb2:bytes≤16)
 (h:∀v' w',Made w0 w' e v' (xs++news)→wpList P ops Q rest (a.put o.dst v') w'):wpList P ops Q (o::rest) a w:=by
 have j:news.length=m:=by have:=hr.1;omega
 subst j;have b:(xs.length+news.length)*bytes≤140737488355328:=by
  calc (xs.length+news.length)*bytes≤1099511627776*16:=Nat.mul_le_mul hsz hb2
   _≤140737488355328:=by omega
 obtain⟨v',w',d,l,p,_⟩:=zEP (P:=P) w w0.heap.size t o.type e i z 1 bytes ht hi hz hsize hby hzs jo v xs.length xs hm.own B A news.length c news hr h1 (by unfold maxLen;omega) b hm.below.size;refine wpList_plain f fun K q=>?_;unfold Oper.wp execOp;simp only[g,resolve,invoke,builtin,Sem.run_bind,Sem.run_pure,Result.andThen_ok,List.map_toArray,List.map_cons,List.map_nil,hs,hx,d];refine q _ _ (h v' w' ⟨by rw[yAN];exact l,hm.below.grown p hm.below.size (fun k hk=>(hm.own.lt k hk).1)⟩)
theorem zIO (b:o.guard=none) (s x:Operand) (t:TypeId)
 (c:o.op=.call {callee:=.builtin .append,args:=#[s,x],argTypes:=#[t,t]})
 (e:TypeId) (i:TypeInfo) (z:Value) (bytes:Nat) (ht:P.underlying t=some (.slice e)) (hi:P.info? e=some i) (hz:i.zero=some z)
 (hsize:i.size=1) (hby:i.bytes=bytes) (hzs:z.cells.size=1)
 (v:Value) (xs:List Value) (hs:a.eval s=v) (hm:Made w0 w e v xs) (u:Value) (hx:a.eval x=.slice (some ⟨w.heap.size,0,none⟩) 1 1) (h1:u.oneCell'=true)
 (hsz:xs.length+1≤1099511627776) (hb2:bytes≤16)
 (h:∀v' w',Made w0 w' e v' (xs++[u])→wpList P ops Q rest (a.put o.dst v') w'):wpList P ops Q (o::rest) a (w.alloc (.cells #[u] e)):=
 zPR b s x t c e i z bytes ht hi hz hsize hby hzs v xs hs (hm.alloc _) _ _ 1 1 [u] hx (Reads.of_own (Made.lit w e [u] (by simp[maxLen])).own) (by simpa using h1) hsz hb2 h
end
def MadeS (w w':World) (v:Value) (l:List jE):Prop:=Made w w' 9 v (zBk l)
theorem MadeS.form {w:World} {l:List jE} (h:MadeS w w' v l):∃A c,v=.slice A l.length c∧l.length≤c∧c≤maxLen∧Reads w' w'.heap.size 1 A l.length (zBk l):=by
 have h1:=h.own;rw[zEx]at h1;obtain⟨A,c,rfl,b,d⟩:=zP h1;exact⟨A,c,rfl,b,d,.of_own h1⟩
theorem zIP (a b:List jE):zBk (a++b)=zBk a++zBk b:=by simp[zBk]
theorem zSt (l:List jE):∀u∈zBk l,u.oneCell'=true:=by
 intro u b;obtain⟨s,_,rfl⟩:=List.mem_map.1 b;rfl
theorem zL0 (k:Int) (w:World):Calls prog 41 #[k] w fun e w'=>e=.returned (zSh k)∧w=w':=by
 go_enter func41,ntmps41;go_wp2_with fail
 all_goals
  go_ret;exact⟨zF (by first | rfl | simp_all [zSh]),rfl⟩
theorem zEy (k:Int) (w:World):Calls prog 43 #[k] w fun e w'=>e=.returned (zOi k)∧w=w':=by
 go_enter func43,ntmps43;go_wp2_with fail
 all_goals
  go_ret;exact⟨zF (by first | rfl | simp_all [zOi]),rfl⟩
theorem zL1 (k:Int) (w:World):Calls prog 87 #[k] w fun e w'=>e=.returned (zX8 k)∧w=w':=by
 go_enter func87,ntmps87;go_wp2_with fail
 all_goals
  go_ret;exact⟨zF (by first | rfl | simp_all [zX8]),rfl⟩
structure EOk (ts:List Nd):Prop where
 fwd:Fwd ts
 len:ts.length≤4096
 many:∀x∈ts,x.kids.length≤4096
 first:∀x∈ts,x.kind=10∨x.kind=18→x.kids≠[]
theorem Made.back {w W:World} {e:TypeId} {xs:List Value} (h:Made W w' e v xs) (hb:jY w W):Made w w' e v xs:=⟨zAY h.own hb.size,hb.trans (h.below.mono hb.size)⟩
theorem Fwd.kid (h:Fwd ts) (b:ts[j]? =some x) {q:Nat} (c:q < x.kids.length):∃m:Nat,x.kids[q]=(m:Int)∧j < m∧m < ts.length:=by
 have:=h j x b x.kids[q] (yAZ c);exact⟨x.kids[q].toNat,by omega,by omega,by omega⟩
theorem zBX (b:ts[j]? =some x):atN ts (j:Int)=x:=by
 unfold atN;rw[yAG,Int.toNat_natCast,b];rfl
theorem zFa {w:World} {b o:Nat} (c:∀i v,(zBw x.kids)[i]? =some v→w.cell? ⟨b,o+i,none⟩=some v) {q:Nat} (d:q < x.kids.length):w.cell? ⟨b,o+q,none⟩=some (.int .i64 x.kids[q]):=
 c q _ (by simp[zBw,yAB d])
theorem zPS {c:Nat} {w:World} (hN:NdsR w B A n ts) (hB:B≤w.heap.size) (G:EOk ts) (hj:j < n):
 Calls prog 42 #[.agg #[.slice A n c],j] w fun e w'=>∃v,e=.returned v∧MadeS w w' v (zGY ts (j:Int)):=by
 obtain⟨W,m⟩:=jx (w.alloc (.cells #[.slice A n c] 24));have H:jY w W:=jb m;have sW:W.heap.size=w.heap.size+1:=by rw[←m];simp
 obtain⟨X,N⟩:=jx w.heap.size;have a0:W.cell? X=some (.slice A n c):=by rw[←m,←N,yBR _ _ _ _ rfl];rfl
 have O:X < W.heap.size:=by omega
 have P:=zA a0;have g:=zA (hN.below (H.mono hB));have s:B≤W.heap.size:=by omega
 have Q:=zA H;have HE:=zA G;obtain⟨b,o,x,⟨As,Am,Ak,cs,cm,ck⟩,rfl,a7,I,R,S⟩:=g.out.get hj;have k7:=R.k7;obtain⟨i0,T,U,V,Y⟩:=info_parts Tryz.info_strE;have t:=zA I;have hL:x.kids.length≤4096:=G.many x (yCG I);have HK:=zA (show Reads W B 1 Ak x.kids.length (zBw x.kids)from S.kids);have a2:=zA g.out.1;obtain⟨L,k⟩:=jx x.kids.length;have J:=zA k;rw[k]at k7 hL;clear hN G hB I R S k H;go_enter func42,ntmps42;go_upto_region 1 with(fail);clear m N;have M0:=zA (Made.nil W 9);go_wp2_with fail
 go_loopw [5,15] (fun v i wr=>∃q:Nat,q≤L∧i=.int .i64 (q:Int)∧Hid (Made W wr 9 v (zBk ((x.kids.take q).map (nmN ts))))) (fun _ i _=>L - (intOf i).toNat)
 case atStart=>exact⟨0,yAE _,rfl,M0⟩
 case round=>
  obtain⟨q,hq,rfl,f⟩:=hrel
  by_cases a3:q < L
  · have d:q < x.kids.length:=by rw[J.out];exact a3
    obtain⟨mk,l,a4,u⟩:=HE.out.fwd.kid t d;obtain⟨bk,ok,rfl,_,z⟩:=(HK.out.below (f.out.below.mono s)).spotR (by rw[J.out];omega);have a5:=zFa z d;rw[l]at a5;rw[a2.out]at u;obtain⟨b',o',y,r,C,M,hy,D,_⟩:=(g.out.below (f.out.below.mono s)).get u;simp only[yCE,Addr.mk.injEq,and_true]at C;obtain⟨rfl,rfl⟩:=C;have k1:=D.k1;have a1:=(f.out.below.cell (p:=X) O).trans P;have a8:=(f.out.below.cell (p:=⟨b,o+j*8+7,none⟩) (show b < W.heap.size by omega)).trans k7;have E:zBk ((x.kids.take q).map (nmN ts))++[Value.string ⟨y.name.toArray⟩]=zBk ((x.kids.take (q+1)).map (nmN ts)):=by
     rw[yAK d,yCR,zIP,l];simp[zBk,nmN,zBX hy]
    have a6:=zA E;have a9:(zBk ((x.kids.take q).map (nmN ts))).length≤4096:=by rw[zEx,List.length_map,yBK];omega
    clear z d l a4 hy D E M;go_wp2_with (at_builtin;refine zIO rfl _ _ 36 rfl 9 i0 _ 16 underlying36 T U V Y rfl u5 _ rfl f.out _ rfl rfl jo jo ?_;intro v7 w7 F;have H7:=zA (F.cells a6.out);clear F)
    go_roundw
    case rel=>exact⟨q+1,by omega,by go_num,H7⟩
    case measure=>simp[intOf];omega
  · obtain rfl:q=L:=by omega
    go_wp2_with fail;go_ret;refine⟨_,rfl,?_⟩;have:=f.out.back Q;rw[yB (by rw[J.out];exact yAC _)]at this;unfold MadeS zGY;rw[zBX t.out];exact this
def X8 (w:World) (N:Nat) (x:Nd) (s:NdSl):Prop:=NdC w N 0 x s
theorem X8.below {w:World} {D:Nat} {s:NdSl} (h:X8 w N x s) (hb:Below D w w') (b:N < D):X8 w' N x s:=NdC.below h hb b
theorem X8.new (w:World) (x:Nd) (s:NdSl):X8 (w.alloc (.cells #[x.kind,x.name,.slice s.As x.str.length s.cs,x.nk,x.nn,x.neg,.slice s.Am x.mag.length s.cm,.slice s.Ak x.kids.length s.ck] 58)) w.heap.size x s:=by
 refine⟨?_,?_,?_,?_,?_,?_,?_,?_⟩
 all_goals
  rw[yBR _ _ _ _ rfl];rfl
theorem X8.c {w:World} {s:NdSl} (h:X8 w N x s):w.cell? N=some (.int .i64 x.kind)∧w.cell? ⟨N,1,none⟩=some (.string ⟨x.name.toArray⟩)∧w.cell? ⟨N,2,none⟩=some (.slice s.As x.str.length s.cs)∧w.cell? ⟨N,3,none⟩=some (.int .i64 x.nk)∧w.cell? ⟨N,4,none⟩=some (.int .i64 x.nn)∧w.cell? ⟨N,5,none⟩=some (.bool x.neg)∧w.cell? ⟨N,6,none⟩=some (.slice s.Am x.mag.length s.cm)∧w.cell? ⟨N,7,none⟩=some (.slice s.Ak x.kids.length s.ck):=⟨h.k0,h.k1,h.k2,h.k3,h.k4,h.k5,h.k6,h.k7⟩
theorem zF6 {β:Type} (f:α→List β) (h:∀a,(f a).length≤4096):∀l:List α,(l.flatMap f).length≤l.length*4096:=by
 intro l
 induction l with
 | nil=>simp
 | cons a r b=>
  rw[List.flatMap_cons,yAN,yAO];have:=h a;omega
theorem EOk.at_ (h:EOk ts) (k:Int):(atN ts k).kids.length≤4096:=by
 unfold atN;rw[yAG];cases hk:ts[k.toNat]? with
 | none=>simp[zB6]
 | some x=>exact h.many x (yCG hk)
theorem EOk.blk (h:EOk ts) (k:Int):(zKP ts k).length≤4096:=by
 unfold zKP zGY;split
 · rw[List.length_map];exact h.at_ k
 · split<;>simp
theorem EOk.par (_h:EOk ts) (k:Int):(zKQ ts k).length≤4096:=by
 unfold zKQ;split<;>simp
theorem zJF {β:Type} (f:α→List β) {l:List α} {q:Nat} (b:q < l.length):(l.take (q+1)).flatMap f=(l.take q).flatMap f++f l[q]:=by
 rw[yAK b,List.flatMap_append];simp
theorem zFb {c:Nat} {w:World} (hN:NdsR w B A n ts) (hB:B≤w.heap.size) (hE:EOk ts) (hj:j < n):
 Calls prog 22 #[.agg #[.slice A n c],j] w fun e w'=>∃v,e=.returned v∧MadeS w w' v (zA5 ts (j:Int)):=by
 obtain⟨b,o,x,⟨As,Am,Ak,cs,cm,ck⟩,rfl,g3,hx,f2,f3⟩:=hN.get hj;obtain⟨V,hV⟩:=jx (w.alloc (.cells #[.slice (some ⟨b,o,none⟩) n c] 24));obtain⟨W,hW⟩:=jx (V.alloc (.cells #[x.kind,x.name,.slice As x.str.length cs,x.nk,x.nn,x.neg,.slice Am x.mag.length cm,.slice Ak x.kids.length ck] 58));have bV:jY w V:=jb hV;have bW:jY V W:=jb hW;have sV:V.heap.size=w.heap.size+1:=by rw[←hV];simp
 have sW:W.heap.size=V.heap.size+1:=by rw[←hW];simp
 obtain⟨X,hX⟩:=jx w.heap.size;obtain⟨Y,hY⟩:=jx V.heap.size;have a0:V.cell? X=some (.slice (some ⟨b,o,none⟩) n c):=by rw[←hV,←hX,yBR _ _ _ _ rfl];rfl
 have f4:X < W.heap.size:=by omega
 have j1:Y < W.heap.size:=by omega
 have b4:=zA ((bW.cell (p:=X) (show X < V.heap.size by omega)).trans a0);have g4:=zA (show X8 W Y x ⟨As,Am,Ak,cs,cm,ck⟩ by rw[←hW,←hY];exact X8.new V x ⟨As,Am,Ak,cs,cm,ck⟩);have bw:jY w W:=bV.trans (bW.mono bV.size);have b6:=zA (hN.below (bw.mono hB));have a3:B≤W.heap.size:=by omega
 have j2:=zA bw;have HE:=zA hE;have b7:=zA hx;have hL:x.kids.length≤4096:=hE.many x (yCG hx);have HK:=zA (show Reads W B 1 Ak x.kids.length (zBw x.kids)from f3.kids.below (bw.mono hB));have c8:=zA hN.1;have f5:zA5 ts (j:Int)=if x.kind=1∨x.kind=4 then x.kids.flatMap (zKP ts)
  else if x.kind=10∧zSh (knK ts (zO8 x))=true then zGY ts (zO8 x)
  else if x.kind=17∧x.name≠[]then [x.name]
  else if zOi x.kind=true then x.kids.flatMap (zKQ ts)else []:=by
  unfold zA5 knK nmN;rw[zBX hx]
 have a6:=zA f5;have HM:=zA (fun v w' (h:MadeS W w' v (zA5 ts (j:Int)))=>(show MadeS w w' v (zA5 ts (j:Int))from Made.back h bw));have C0:=(f2.below (bV.mono hB) g3);obtain⟨c9,d0,d1,d2,d3,d4,d5,d6⟩:=C0;obtain⟨i0,d7,d8,d9,e0⟩:=info_parts Tryz.info_strE;have CD:=zA (fun(wr:World) (hb:jY W wr) (m:Nat) (R:m < n)=>zPS (c:=c) (w:=wr) (b6.out.below (hb.mono a3)) (yAD a3 hb.size) hE R);have M0:=zA (Made.nil W 9);clear hN hB hE hx f2 f3 bV bW bw f5 sW sV;go_enter func22,ntmps22;go_upto_region 1 with(fail);clear hV hX;go_upto_region 2 with(fail);clear hW hY a0 c9 d0 d1 d2 d3 d4 d5 d6;obtain⟨K,hK⟩:=jx x.kind;have g5:=zA hK;obtain⟨L,e5⟩:=jx x.kids.length;have HL:=zA e5;obtain⟨p0,p1,p2,p3,p4,p5,p6,p7⟩:=g4.out.c;simp only at p7;have P0:=zA p0;have P1:=zA p1;have P7:=zA p7;rw[hK]at p0 P0 a6;rw[e5]at p7 P7 hL;clear hK e5 p2 p3 p4 p5 p6
 by_cases a4:K=1∨K=4
 · have G:=zA (show zA5 ts (j:Int)=x.kids.flatMap (zKP ts) by rw[a6.out,if_pos a4]);clear a6;rcases a4 with rfl | rfl
   all_goals
    have a0:=b4.out;go_wp2_with fail
    go_loopw [6,29] (fun v i wr=>∃q:Nat,q≤L∧i=.int .i64 (q:Int)∧Hid (Made W wr 9 v (zBk ((x.kids.take q).flatMap (zKP ts))))) (fun _ i _=>L - (intOf i).toNat)
    case atStart=>exact⟨0,yAE _,rfl,M0⟩
    case round=>
     obtain⟨q,hq,rfl,R⟩:=hrel;have z:=R.out.below;have g6:=zA z
     by_cases e6:q < L
     · have F:q < x.kids.length:=by rw[HL.out];exact e6
       obtain⟨mk,u,a7,C⟩:=HE.out.fwd.kid b7 F;obtain⟨bk,ok,rfl,_,J⟩:=(HK.out.below (z.mono a3)).spotR (by rw[HL.out];omega);have M:=zFa J F;rw[u]at M;rw[c8.out]at C;obtain⟨b',o',y,r,N,S,hy,O,_⟩:=(b6.out.below (z.mono a3)).get C;simp only[yCE,Addr.mk.injEq,and_true]at N;obtain⟨rfl,rfl⟩:=N;obtain⟨c9,d0,d1,d2,d3,d4,d5,d6⟩:=O;have a1:=(z.cell (p:=X) f4).trans b4;have g:=zJF (zKP ts) F;rw[u]at g;have h8:=zA g;have b3:(zBk ((x.kids.take q).flatMap (zKP ts))).length≤16777216:=by
        rw[zEx];have h1:=zF6 (zKP ts) HE.out.blk (x.kids.take q);have h2:(x.kids.take q).length≤4096:=by rw[yBK];omega
        have h3:(x.kids.take q).length*4096≤4096*4096:=Nat.mul_le_mul_right _ h2;omega
       obtain⟨b8,E⟩:=jx (zBk ((x.kids.take q).flatMap (zKP ts)));have H:zKP ts (mk:Int)=if zSh y.kind=true then zGY ts (mk:Int)else if y.kind=19 then [y.name]else []:=by
        unfold zKP knK nmN;rw[zBX hy]
       have f:=zA (fun(l:List jE) (hl:zKP ts (mk:Int)=l)=>(show b8++zBk l=zBk ((x.kids.take (q+1)).flatMap (zKP ts)) by rw[g,hl,zIP,E]));have I:=zA H;have e7:=zA C;rw[E]at R b3;clear g H E hy J F u a7 S z;go_upto_region 7 with(fail);obtain⟨W1,b9⟩:=jx (wr.alloc (.cells #[y.kind,y.name,.slice r.As y.str.length r.cs,y.nk,y.nn,y.neg,.slice r.Am y.mag.length r.cm,.slice r.Ak y.kids.length r.ck] 58));have b1:jY wr W1:=jb b9;obtain⟨Z,hZ⟩:=jx wr.heap.size;have g7:=zA (show X8 W1 Z y r by rw[←b9,←hZ];exact X8.new wr y r);have c0:=zA (show Made W W1 9 u6 b8 by rw[←b9];exact R.out.alloc _);have a2:=(b1.cell (p:=X) (show X < wr.heap.size by have:=g6.out.size;omega)).trans a1;go_upto_region 8 with(fail);clear b9 hZ c9 d0 d1 d2 d3 d4 d5 d6 a1 b1 M;obtain⟨z0,z1,_,_,_,_,_,_⟩:=g7.out.c;obtain⟨t,D⟩:=jx y.kind;have e8:=zA D;rw[D]at z0;obtain⟨U,T⟩:=jx (zSh t);have CE:=zA (fun(k:World)=>(show Calls prog 41 #[t] k fun e w'=>e=.returned U∧k=w' by rw[←T];exact zL0 t k));have e9:=zA T;clear D T;go_wp2_with fail;refine(CE.out _).mono ?_;rintro e2 w2 ⟨rfl,rfl⟩;cases U with
       | true=>
        have CK:=zA (CD.out W1 c0.out.below mk e7);have HT:=zA (f.out _ (by rw[I.out,e8.out,if_pos e9.out]));have j3:(zGY ts (mk:Int)).length≤4096:=by unfold zGY;rw[List.length_map];exact HE.out.at_ _
        clear CE f;go_wp2_with fail;refine CK.out.mono ?_;rintro e3 w3 ⟨v3,rfl,a8⟩;obtain⟨A3,c3,rfl,j4,j5,f6⟩:=MadeS.form a8;have g8:=zA (c0.out.call a8.below);have g9:=zA f6;clear a8 f6;go_wp2_with (at_builtin;refine zPR rfl _ _ 36 rfl 9 i0 _ 16 underlying36 d7 d8 d9 e0 rfl u6 _ rfl g8.out _ _ _ _ _ rfl g9.out (zSt _) jo jo ?_;intro v7 w7 Q;have H7:=zA (Q.cells HT.out);clear Q)
        go_roundw
        case rel=>exact⟨q+1,by omega,by go_num,H7⟩
        case measure=>simp[intOf];omega
       | false=>
        by_cases a9:t=19
        · have HT:=zA (f.out [y.name] (by rw[I.out,e8.out,if_neg (by rw[e9.out];decide),if_pos a9]));subst a9;clear CE f;go_wp2_with (at_builtin;refine zIO rfl _ _ 36 rfl 9 i0 _ 16 underlying36 d7 d8 d9 e0 rfl u6 _ rfl c0.out _ rfl rfl jo jo ?_;intro v7 w7 Q;have H7:=zA (Q.cells HT.out);clear Q)
          go_roundw
          case rel=>exact⟨q+1,by omega,by go_num,H7⟩
          case measure=>simp[intOf];omega
        · have HT:=zA (f.out [] (by rw[I.out,e8.out,if_neg (by rw[e9.out];decide),if_neg a9]));have j6:(t==19)=false:=yA.2 a9;clear CE f a9;have H7:=zA (show Made W W1 9 u6 (zBk ((x.kids.take (q+1)).flatMap (zKP ts)))from c0.out.cells (by have:=HT.out;rwa[show zBk []=[]from rfl,yAS]at this));go_wp2_with fail
          go_roundw
          case rel=>exact⟨q+1,by omega,by go_num,H7⟩
          case measure=>simp[intOf];omega
     · obtain rfl:q=L:=by omega
       go_wp2_with fail;go_ret;refine⟨_,rfl,HM.out _ _ ?_⟩;have:=R.out;rw[yB (by rw[HL.out];exact yAC _)]at this;unfold MadeS;rw[G.out];exact this
 have e1:(K==1)=false:=yA.2 (fun h=>a4 (.inl h));have e4:(K==4)=false:=yA.2 (fun h=>a4 (.inr h));have a0:=b4.out;have c1:=zA (a6.out.trans (if_neg a4));clear a4 a6
 by_cases c2:K=10
 · subst c2;have f7:x.kids≠[]:=HE.out.first x (yCG b7) (.inl g5);have a5:0 < x.kids.length:=yCL.2 f7;have h9:0 < L:=by rw[←HL.out];exact a5
   obtain⟨mk,u,a7,C⟩:=HE.out.fwd.kid b7 a5;obtain⟨bk,ok,rfl,_,J⟩:=HK.out.spotR a5;have M:=zFa J a5;rw[u,Nat.add_zero]at M;have f0:zO8 x=(mk:Int):=by
    unfold zO8;rw[List.headD_eq_head?_getD,List.head?_eq_getElem?,yAB a5,u];rfl
   rw[c8.out]at C;obtain⟨b',o',y,r,N,S,hy,O,_⟩:=b6.out.get C;simp only[yCE,Addr.mk.injEq,and_true]at N;obtain⟨rfl,rfl⟩:=N;have c4:=O.k0;obtain⟨t,D⟩:=jx y.kind;rw[D]at c4;obtain⟨U,T⟩:=jx (zSh t);have CE:=zA (fun(k:World)=>(show Calls prog 41 #[t] k fun e w'=>e=.returned U∧k=w' by rw[←T];exact zL0 t k));have f8:zSh (knK ts (zO8 x))=U:=by rw[f0];unfold knK;rw[zBX hy,D,T]
   have f9:=zA f8;have h0:=zA f0;have e7:=zA C;clear f7 a5 u a7 J f0 hy O D T f8 S;go_upto_region 13 with(fail)
   go_quiet (first | (go_at_call 41;refine Calls.quiet_of_same ((CE.out _).mono fun _ _ h=>⟨h.1,h.2.symm⟩)))
   obtain⟨s,d⟩:=jx (W.drewN nq);rw[d];have b5:jY W s:=by rw[←d];exact zv (Below.refl _ _) _
   have h4:s.cell? Y=some (.int .i64 10):=by rw[←d];exact p0
   have g0:s.cell? ⟨Y,1,none⟩=some (.string ⟨x.name.toArray⟩):=by rw[←d];exact p1
   have h5:s.cell? ⟨Y,7,none⟩=some (.slice (some ⟨bk,ok,none⟩) L ck):=by rw[←d];exact p7
   have h6:s.cell? X=some (.slice (some ⟨b,o,none⟩) n c):=by rw[←d];exact a0
   have B5:=zA b5;have j0:s.cell? ⟨bk,ok,none⟩=some (.int .i64 (mk:Int)):=by rw[←d];exact M
   clear d b5 p0 p1 p7 a0 M c4 CE;cases U with
   | true=>
    have CK:=zA (CD.out s.drew (B5.out.drew) mk e7);have G:=zA (show zA5 ts (j:Int)=zGY ts (mk:Int) by rw[c1.out,if_pos ⟨rfl,f9.out⟩,h0.out]);go_upto_region 14 with(fail);go_region_law (go_simp;go_at_call 42;(with_reducible refine CK.out.mono ?_);rintro e3 w3 ⟨v3,rfl,a8⟩)
    all_goals
     go_wp2_with fail;go_ret;refine⟨_,rfl,HM.out _ _ ?_⟩;rw[G.out];exact Made.back a8 B5.out.drew
   | false=>
    have CF:=zA (fun(k:World)=>(show Calls prog 43 #[(10:Int)] k fun e w'=>e=.returned false∧k=w' from zEy 10 k));have G:=zA (show zA5 ts (j:Int)=[] by rw[c1.out,if_neg (fun h=>by rw[f9.out]at h;exact absurd h.2 jd),if_neg (fun h=>absurd h.1 jd),ji]);go_wp2_with fail;refine(CF.out _).mono ?_;rintro e3 w3 ⟨rfl,rfl⟩;go_wp2_with fail;go_ret;refine⟨_,rfl,HM.out _ _ ?_⟩;rw[G.out];exact Made.of_below B5 _
 have j7:(K==10)=false:=yA.2 c2;go_upto_region 13 with(fail)
 go_quiet (fail)
 obtain⟨s,d⟩:=jx (W.drewN nq);rw[d];have b5:jY W s:=by rw[←d];exact zv (Below.refl _ _) _
 have h4:s.cell? Y=some (.int .i64 K):=by rw[←d];exact p0
 have g0:s.cell? ⟨Y,1,none⟩=some (.string ⟨x.name.toArray⟩):=by rw[←d];exact p1
 have h5:s.cell? ⟨Y,7,none⟩=some (.slice Ak L ck):=by rw[←d];exact p7
 have h6:s.cell? X=some (.slice (some ⟨b,o,none⟩) n c):=by rw[←d];exact a0
 have B5:=zA b5;clear d b5 p0 p1 p7 a0;have c5:=zA (c1.out.trans (if_neg (fun h=>c2 h.1)));clear c2 c1
 by_cases c6:K=17
 · subst c6;obtain⟨sv,b0⟩:∃sv:ByteArray,(⟨x.name.toArray⟩:ByteArray)=sv:=⟨_,rfl⟩;have c7:sv.toList=x.name:=by rw[←b0,ByteArray.toList_eq]
   rw[b0]at g0
   by_cases hs:sv.toList=[]
   · have es:(sv.toList !=[])=false:=by rw[hs];rfl
     have h7:(sv.toList==[])=true:=by rw[hs];rfl
     have G:=zA (show zA5 ts (j:Int)=[] by rw[c5.out,if_neg (fun h=>h.2 (by rw[←c7,hs])),ji]);have CF:=zA (fun(k:World)=>(show Calls prog 43 #[(17:Int)] k fun e w'=>e=.returned false∧k=w' from zEy 17 k));clear hs c7 b0;go_wp2_with fail;refine(CF.out _).mono ?_;rintro e3 w3 ⟨rfl,rfl⟩;go_wp2_with fail;go_ret;refine⟨_,rfl,HM.out _ _ ?_⟩;rw[G.out];exact Made.of_below B5 _
   · have es:(sv.toList !=[])=true:=by rw[yBM];exact hs
     have h7:(sv.toList==[])=false:=by rw[yA];exact hs
     have G:=zA (show zBk (zA5 ts (j:Int))=[Value.string sv] by
      rw[c5.out,if_pos ⟨rfl,fun h=>hs (by rw[c7,h])⟩,←b0];rfl)
     have ML:=zA (Made.lit s 9 [.string sv] (by simp[maxLen]));clear hs c7 b0;go_wp2_with fail;go_ret;refine⟨_,rfl,HM.out _ _ ?_⟩;unfold MadeS;rw[G.out];exact Made.back ML B5
 have j8:(K==17)=false:=yA.2 c6;have g1:=zA (c5.out.trans (if_neg (fun h=>c6 h.1)));obtain⟨bf,f1⟩:=jx (zOi K);have CF:=zA (fun(k:World)=>(show Calls prog 43 #[K] k fun e w'=>e=.returned bf∧k=w' by rw[←f1];exact zEy K k));have g2:=zA f1;clear c6 c5 f1;go_wp2_with fail;refine(CF.out _).mono ?_;rintro e3 w3 ⟨rfl,rfl⟩;cases bf with
 | false=>
  have G:=zA (show zA5 ts (j:Int)=[] by rw[g1.out,if_neg (by rw[g2.out];decide)]);go_wp2_with fail;go_ret;refine⟨_,rfl,HM.out _ _ ?_⟩;rw[G.out];exact Made.of_below B5 _
 | true=>
  have G:=zA (show zA5 ts (j:Int)=x.kids.flatMap (zKQ ts) by rw[g1.out,if_pos g2.out]);have M5:=zA (show Made W s 9 (.slice none 0 0) (zBk [])from Made.of_below B5 _);go_wp2_with fail
  go_loopw [6,98] (fun v i wr=>∃q:Nat,q≤L∧i=.int .i64 (q:Int)∧Hid (Made W wr 9 v (zBk ((x.kids.take q).flatMap (zKQ ts))))) (fun _ i _=>L - (intOf i).toNat)
  case atStart=>exact⟨0,yAE _,rfl,M5⟩
  case round=>
   obtain⟨q,hq,rfl,R⟩:=hrel;have z:=R.out.below
   by_cases e6:q < L
   · have F:q < x.kids.length:=by rw[HL.out];exact e6
     obtain⟨mk,u,a7,C⟩:=HE.out.fwd.kid b7 F;obtain⟨bk,ok,rfl,_,J⟩:=(HK.out.below (z.mono a3)).spotR (by rw[HL.out];omega);have M:=zFa J F;rw[u]at M;rw[c8.out]at C;obtain⟨b',o',y,r,N,S,hy,O,_⟩:=(b6.out.below (z.mono a3)).get C;simp only[yCE,Addr.mk.injEq,and_true]at N;obtain⟨rfl,rfl⟩:=N;have c4:=O.k0;have j9:=O.k1;have a1:=(z.cell (p:=X) f4).trans b4;have g:=zJF (zKQ ts) F;rw[u]at g;have b3:(zBk ((x.kids.take q).flatMap (zKQ ts))).length≤16777216:=by
      rw[zEx];have h1:=zF6 (zKQ ts) HE.out.par (x.kids.take q);have h2:(x.kids.take q).length≤4096:=by rw[yBK];omega
      have h3:(x.kids.take q).length*4096≤4096*4096:=Nat.mul_le_mul_right _ h2;omega
     obtain⟨b8,E⟩:=jx (zBk ((x.kids.take q).flatMap (zKQ ts)));have f:=zA (fun(l:List jE) (hl:zKQ ts (mk:Int)=l)=>(show b8++zBk l=zBk ((x.kids.take (q+1)).flatMap (zKQ ts)) by rw[g,hl,zIP,E]));have H:zKQ ts (mk:Int)=if y.kind=20 then [y.name]else []:=by
      unfold zKQ knK nmN;rw[zBX hy]
     obtain⟨t,D⟩:=jx y.kind;rw[D]at H c4;have I:=zA H;rw[E]at R b3;clear g H E hy J F u a7 S z O D
     by_cases b2:t=20
     · have HT:=zA (f.out [y.name] (by rw[I.out,if_pos b2]));subst b2;clear f;go_wp2_with (at_builtin;refine zIO rfl _ _ 36 rfl 9 i0 _ 16 underlying36 d7 d8 d9 e0 rfl u6 _ rfl R.out _ rfl rfl jo jo ?_;intro v7 w7 Q;have H7:=zA (Q.cells HT.out);clear Q)
       go_roundw
       case rel=>exact⟨q+1,by omega,by go_num,H7⟩
       case measure=>simp[intOf];omega
     · have HT:=zA (f.out [] (by rw[I.out,if_neg b2]));have k2:(t==20)=false:=yA.2 b2;clear f b2;have H7:=zA (show Made W wr 9 u6 (zBk ((x.kids.take (q+1)).flatMap (zKQ ts)))from R.out.cells (by have:=HT.out;rwa[show zBk []=[]from rfl,yAS]at this));go_wp2_with fail
       go_roundw
       case rel=>exact⟨q+1,by omega,by go_num,H7⟩
       case measure=>simp[intOf];omega
   · obtain rfl:q=L:=by omega
     go_wp2_with fail;go_ret;refine⟨_,rfl,HM.out _ _ ?_⟩;have:=R.out;rw[yB (by rw[HL.out];exact yAC _)]at this;unfold MadeS;rw[G.out];exact this
theorem zPT (c:EOk ts) (d:ts[j]? =some x) (hk:x.kind=10∨x.kind=18):∃m:Nat,zO8 x=(m:Int)∧j < m∧m < ts.length∧∃h:0 < x.kids.length,x.kids[0]=(m:Int):=by
 have b:0 < x.kids.length:=yCL.2 (c.first x (yCG d) hk);obtain⟨m,h1,e,f⟩:=c.fwd.kid d b;refine⟨m,?_,e,f,b,h1⟩;unfold zO8;rw[List.headD_eq_head?_getD,List.head?_eq_getElem?,yAB b,h1];rfl
theorem zJG (d:EOk ts):∀(f g p:Nat),p < ts.length→ts.length - p≤f→ts.length - p≤g→zSi ts f (p:Int)=zSi ts g (p:Int):=by
 intro f
 induction f with
 | zero=>intro g p h b;omega
 | succ f e=>
  intro g p j o hg;obtain⟨g,rfl⟩:∃k,g=k+1:=⟨g - 1,by omega⟩;rw[zSi,zSi]
  by_cases h:knK ts (p:Int)=18
  · rw[if_pos h,if_pos h];have c:=yAB j;unfold knK at h;rw[zBX c]at h⊢;obtain⟨m,l,h1,b,_⟩:=zPT d c (.inr h);rw[l,e g m b jo jo]
  · rw[if_neg h,if_neg h]
theorem zWK {c:Nat} {w:World} (hN:NdsR w B A n ts) (hB:B≤w.heap.size) (C:EOk ts) (H:j < n):
 Calls prog 88 #[.agg #[.slice A n c],j] w fun e w'=>e=.returned (.int .i64 (laN ts (j:Int)))∧jY w w':=by
 obtain⟨W,r⟩:=jx (w.alloc (.cells #[.slice A n c] 24));have D:jY w W:=jb r;have S:W.heap.size=w.heap.size+1:=by rw[←r];simp
 obtain⟨X,I⟩:=jx w.heap.size;have a0:W.cell? X=some (.slice A n c):=by rw[←r,←I,yBR _ _ _ _ rfl];rfl
 have J:=zA (hN.below (D.mono hB));have k:=zA hN.1;have L:=zA D;have M:=zA C;have T:=zA (show laN ts (j:Int)=zSi ts (n - j) (j:Int) by
  unfold laN;rw[hN.1];exact zJG C _ _ j (by rw[hN.1];exact H) (by rw[hN.1];omega) (by rw[hN.1];exact yAC _))
 clear hN C hB D S;go_enter func88,ntmps88;go_upto_region 1 with(fail);clear r I
 go_loop [1] (fun i=>∃p:Nat,p < n∧i=.int .i64 (p:Int)∧Hid (laN ts (j:Int)=zSi ts (n - p) (p:Int))) (fun i=>n - (intOf i).toNat)
 case atStart=>exact⟨j,H,rfl,T⟩
 case round=>
  obtain⟨p,U,rfl,s⟩:=hrel;obtain⟨b',o',y,⟨As,Am,Ak,cs,cm,ck⟩,rfl,V,E,l,t⟩:=J.out.get U;have N:=l.k0;have a1:=l.k7;have O:=zA E;have Y:=zA (show Reads W B 1 Ak y.kids.length (zBw y.kids)from t.kids);obtain⟨o,g⟩:=jx y.kind;have u:knK ts (p:Int)=o:=by unfold knK;rw[zBX E,g]
  obtain⟨f,hf⟩:∃f,n - p=f+1:=⟨n - p - 1,by omega⟩;have b:=s.out;rw[hf,zSi,u]at b;have P:=zA g;rw[g]at N;clear l t E g u s
  by_cases d:o=18
  · obtain⟨m,Q,a2,q,F,v⟩:=zPT M O (.inr (P.out.trans d));rw[if_pos d,zBX O.out,Q,zJG M.out f (n - m) m q (by rw[k.out];omega) (by rw[k.out];exact yAC _)]at b;rw[k.out]at q;obtain⟨bk,ok,rfl,_,z⟩:=Y.out.spotR F;have R:=zFa z F;rw[v,Nat.add_zero]at R;have a3:(0:Int) < (y.kids.length:Int):=by omega
    have G:=zA b;subst d;clear b Q z v F;go_wp2_with fail;go_round
    case rel=>exact⟨m,q,by go_num,G⟩
    case measure=>simp[intOf];omega
  · have a4:(o==18)=false:=yA.2 d;rw[if_neg d]at b;have G:=zA b;clear b d;go_wp2_with fail;go_ret;exact⟨zFL (by rw[G.out]),L⟩
theorem zL2 {w:World} {b o:Nat} {l:List Int} (c:∀i v,(zBw l)[i]? =some v→w.cell? ⟨b,o+i,none⟩=some v) {q:Nat} (d:q < l.length):w.cell? ⟨b,o+q,none⟩=some (.int .i64 l[q]):=
 c q _ (by simp[zBw,yAB d])
theorem zWL {Al:jQ} {c cl D L:Nat} {s:NdSl} {l:List Int} {w:World} (hN:NdsR w B A n ts) (hB:B≤w.heap.size) (hE:EOk ts) (hl:l.length=L) (hL:L≤4096) (hR:Reads w D 1 Al L (zBw l)) (hD:D≤w.heap.size) (a4:∀k∈l,∃m:Nat,k=(m:Int)∧m < n):
 Calls prog 40 #[.agg #[.slice A n c],.agg #[x.kind,x.name,.slice s.As x.str.length s.cs,x.nk,x.nn,x.neg,.slice s.Am x.mag.length s.cm,.slice s.Ak x.kids.length s.ck],.slice Al L cl] w fun e w'=>e=.returned (juN ts x l)∧jY w w':=by
 obtain⟨V,N⟩:=jx (w.alloc (.cells #[.slice A n c] 24));obtain⟨W,O⟩:=jx (V.alloc (.cells #[x.kind,x.name,.slice s.As x.str.length s.cs,x.nk,x.nn,x.neg,.slice s.Am x.mag.length s.cm,.slice s.Ak x.kids.length s.ck] 58));have bV:jY w V:=jb N;have bW:jY V W:=jb O;have sV:V.heap.size=w.heap.size+1:=by rw[←N];simp
 have sW:W.heap.size=V.heap.size+1:=by rw[←O];simp
 obtain⟨X,hX⟩:=jx w.heap.size;have a0:V.cell? X=some (.slice A n c):=by rw[←N,←hX,yBR _ _ _ _ rfl];rfl
 have b9:X < W.heap.size:=by omega
 have a5:X+1 < W.heap.size:=by omega
 have c0:=zA ((bW.cell (p:=X) (show X < V.heap.size by omega)).trans a0);have c1:=zA (show X8 W (X+1) x s by rw[←O,←hX,←sV];exact X8.new V x s);have c2:(w.alloc (.cells #[.slice A n c] 24)).alloc (.cells #[x.kind,x.name,.slice s.As x.str.length s.cs,x.nk,x.nn,x.neg,.slice s.Am x.mag.length s.cm,.slice s.Ak x.kids.length s.ck] 58)=W:=by rw[N,O]
 have bw:jY w W:=bV.trans (bW.mono bV.size);have a6:=zA (hN.below (bw.mono hB));have P:B≤W.heap.size:=by omega
 have c3:D≤W.heap.size:=by omega
 have c4:=zA (hR.below (bw.mono hD));have d:=zA bw;have HE:=zA hE;have HL:=zA hl;have c5:=zA a4;have c6:=zA (Below.refl W.heap.size W);clear hN hB hE hl hR hD a4 bV bW bw a0 N O sV sW;go_enter func40,ntmps40;go_upto_region 1 with(fail);clear c2 hX;go_wp2_with fail
 go_loopw [12] (fun i wr=>∃q:Nat,q≤L∧i=.int .i64 (q:Int)∧Hid (juN ts x l=juN ts x (l.drop q))∧Hid (jY W wr)) (fun i _=>L - (intOf i).toNat)
 case atStart=>exact⟨0,yAE _,rfl,rfl,c6⟩
 case round=>
  obtain⟨q,hq,rfl,Q,f⟩:=hrel
  by_cases c7:q < L
  · have H:q < l.length:=by rw[HL.out];exact c7
    obtain⟨mk,R,a7⟩:=c5.out l[q] (yAZ H);obtain⟨bk,ok,rfl,_,a8⟩:=(c4.out.below (f.out.mono c3)).spotR jo;have a9:=zL2 a8 H;rw[R]at a9;obtain⟨b',o',y,r,rfl,b8,hy,c8,_⟩:=(a6.out.below (f.out.mono P)).get a7;obtain⟨c9,d0,d1,d2,d3,d4,d5,d6⟩:=c8;have a1:=(f.out.cell (p:=X) b9).trans c0;have u:=Q.out;rw[yAH H,R,juN]at u;unfold knK nmN at u;rw[zBX hy]at u;have E:=zA u;have CL:=zA (fun(F:World) (hb:jY W F)=>zWK (c:=c) (a6.out.below (hb.mono P)) (yAD P hb.size) HE a7);clear u Q H R a8 hy b8;go_upto_region 4 with(fail);go_upto_region 5 with(fail);obtain⟨v,I⟩:=jx (wr.alloc (.cells #[y.kind,y.name,.slice r.As y.str.length r.cs,y.nk,y.nn,y.neg,.slice r.Am y.mag.length r.cm,.slice r.Ak y.kids.length r.ck] 58));rw[I];have b1:jY wr v:=jb I;have b0:=zA (show X8 v wr.heap.size y r by rw[←I];exact X8.new wr y r);have b:=zA (f.out.trans (b1.mono f.out.size));have d7:X+1 < wr.heap.size:=yAA a5 f.out.size;have a2:=(b1.cell (p:=X) (show X < wr.heap.size by omega)).trans a1;have HP:=zA (c1.out.below b a5);obtain⟨Z,hZ⟩:=jx wr.heap.size;rw[hZ]at b0⊢;clear I b1 hZ c9 d0 d1 d2 d3 d4 d5 d6 a1 f a9 d7;obtain⟨z0,z1,_,_,_,_,_,_⟩:=b0.out.c;obtain⟨p0,p1,_,_,_,_,_,_⟩:=HP.out.c;obtain⟨G,b2⟩:=jx y.kind;obtain⟨K,hK⟩:=jx x.kind;obtain⟨t,S⟩:∃sv:ByteArray,(⟨x.name.toArray⟩:ByteArray)=sv:=⟨_,rfl⟩;obtain⟨sy,T⟩:∃sv:ByteArray,(⟨y.name.toArray⟩:ByteArray)=sv:=⟨_,rfl⟩;have b3:t.toList=x.name:=by rw[←S,ByteArray.toList_eq]
    have b4:sy.toList=y.name:=by rw[←T,ByteArray.toList_eq]
    rw[b2]at z0 E;rw[hK]at p0 E;rw[S]at p1;rw[T]at z1;have J:=zA b3;have b5:=zA b4;have e2:=zA hK;clear b2 hK S T b3 b4
    by_cases hs:t.toList=[]
    · have es:(t.toList==[])=true:=by rw[hs];rfl
      have d8:(t.toList !=[])=false:=by rw[hs];rfl
      have C:x.name=[]:=by rw[←J.out,hs]
      obtain⟨bq,U⟩:=jx (zX8 G);have CE:=zA (fun(F:World)=>(show Calls prog 87 #[G] F fun e w'=>e=.returned bq∧F=w' by rw[←U];exact zL1 G F));have b6:=zA U;have j:=zA C;clear hs U C;go_wp2_with fail;refine(CE.out _).mono ?_;rintro e3 w3 ⟨rfl,rfl⟩;cases bq with
      | true=>
       have g:=zA (show juN ts x l=true by rw[E.out,if_pos ⟨j.out,b6.out⟩]);go_wp2_with fail;go_ret;exact⟨zF g.out.symm,d.out.trans (b.out.mono d.out.size)⟩
      | false=>
       have g:=zA (show juN ts x l=juN ts x (l.drop (q+1)) by rw[E.out,if_neg (fun h=>by rw[b6.out]at h;exact absurd h.2 jd),if_neg (fun h=>h.1 j.out)]);go_wp2_with fail
       go_roundw
       case rel=>exact⟨q+1,by omega,by go_num,g,b⟩
       case measure=>simp[intOf];omega
    have es:(t.toList==[])=false:=by rw[yA];exact hs
    have d8:(t.toList !=[])=true:=by rw[yBM];exact hs
    have C:x.name≠[]:=fun h=>hs (by rw[J.out,h]);have j:=zA C;clear hs C
    by_cases o:G=18
    · by_cases M:sy.toList=t.toList
      · have en:(sy.toList==t.toList)=true:=by rw[M,beq_self_eq_true]
        have hF:juN ts x l=(K==12 || zX8 (laN ts (mk:Int))):=by rw[E.out,if_neg (fun h=>j.out h.1),if_pos ⟨j.out,o,by rw[←J.out,←b5.out,M]⟩]
        have g:=zA hF;subst o;clear M hF
        by_cases Y:K=12
        · subst Y;go_wp2_with fail;go_ret;exact⟨zF (by rw[g.out];rfl),d.out.trans (b.out.mono d.out.size)⟩
        · have d9:(K==12)=false:=yA.2 Y;obtain⟨la,a3⟩:=jx (laN ts (mk:Int));have CK:=zA (show Calls prog 88 #[.agg #[.slice (some ⟨b',o',none⟩) n c],mk] v fun e w'=>e=.returned la∧jY v w' by rw[←a3];exact CL.out v b);have e0:=zA a3;have CE:=zA (fun(F:World)=>zL1 la F);clear Y a3;go_wp2_with fail;refine CK.out.mono ?_;rintro e4 w4 ⟨rfl,b7⟩;have e1:=zA (b.out.trans (b7.mono b.out.size));clear b7;go_wp2_with fail;refine(CE.out _).mono ?_;rintro e5 w5 ⟨rfl,rfl⟩;go_wp2_with fail;go_ret;exact⟨zF (by rw[g.out,e0.out,d9];simp),d.out.trans (e1.out.mono d.out.size)⟩
      · have en:(sy.toList==t.toList)=false:=by rw[yA];exact M
        have g:=zA (show juN ts x l=juN ts x (l.drop (q+1)) by rw[E.out,if_neg (fun h=>j.out h.1),if_neg (fun h=>M (by rw[J.out,b5.out,h.2.2]))]);subst o;clear M;go_wp2_with fail
        go_roundw
        case rel=>exact⟨q+1,by omega,by go_num,g,b⟩
        case measure=>simp[intOf];omega
    · have e6:(G==18)=false:=yA.2 o;have g:=zA (show juN ts x l=juN ts x (l.drop (q+1)) by rw[E.out,if_neg (fun h=>j.out h.1),if_neg (fun h=>o h.2.1)]);clear o;go_wp2_with fail
      go_roundw
      case rel=>exact⟨q+1,by omega,by go_num,g,b⟩
      case measure=>simp[intOf];omega
  · obtain rfl:q=L:=by omega
    have g:=zA (show juN ts x l=false by
     have:=Q.out;rw[yCA (by rw[HL.out];exact yAC _)]at this;exact this)
    go_wp2_with fail;go_ret;exact⟨zF g.out.symm,d.out.trans (f.out.mono d.out.size)⟩
end Go.Proofs.YtjlfhidpmdgloaaGreatDoor
