/- Joined for the claim EarlyRoot: the parser, the lexer and the trees as they are walked, made short by a program of mine. -/
import Derived.Lib.DecodeN
import Derived.Test.YtlohaclgbfhijaaGreatDoorProg
import Derived.WalkKit
import Derived.WalkSpells
import Derived.WalkLawsBesides
import Derived.Deep.AppendLies
import Derived.Deep.Draws
import Derived.Deep.QuietTactic
import Derived.BigQuiet
import Derived.Maps.AppendAt
import Derived.RegionTactic
import Derived.Lib.Hide
import Derived.Handy
set_option maxHeartbeats 16000000
set_option maxRecDepth 1000000
namespace Go.Proofs.YtlohaclgbfhijaaGreatDoor
open Go.Proofs.Tryz
abbrev yA:=@beq_eq_false_iff_ne
abbrev yAA:=@Nat.lt_of_lt_of_le
abbrev yAB:=@List.getElem?_eq_getElem
abbrev yAC:=@Nat.le_refl
abbrev yAD:=@Nat.le_trans
abbrev yAE:=@Nat.zero_le
abbrev yAF:=@Nat.lt_succ_self
abbrev yAG:=@List.getD_eq_getElem?_getD
abbrev yAH:=@List.drop_eq_getElem_cons
abbrev yAI:=@decide_eq_false
abbrev yAJ:=@World.ownsRow_nil
abbrev yAK:=@List.take_succ_eq_append_getElem
def zO (x:UInt16):Bool:=decide (48≤x.toNat)&&decide (x.toNat≤57)
def zAQ (x:UInt16):Bool:=x.toNat==32 || x.toNat==9 || x.toNat==10 || x.toNat==13
theorem zA4 {x:UInt16}:zO x=true↔48≤x.toNat∧x.toNat≤57:=by simp[zO]
def zG1 (n:Nat):List UInt16→Nat
 | []=>n
 | x::r=>zG1 (10*n+(x.toNat - 48)) r
def zg (l:List UInt16):Nat:=zG1 0 l
theorem zDb (n:Nat) (l r:List UInt16):zG1 n (l++r)=zG1 (zG1 n l) r:=by
 induction l generalizing n with
 | nil=>rfl
 | cons x l ih=>exact ih _
theorem zD2 (l:List UInt16) (x:UInt16):zg (l++[x])=10*zg l+(x.toNat - 48):=by
 unfold zg;rw[zDb];rfl
theorem zMX (n:Nat) (l:List UInt16):n≤zG1 n l:=by
 induction l generalizing n with
 | nil=>exact yAC _
 | cons x l ih=>exact yAD (by omega) (ih _)
theorem zFx (l r:List UInt16):zg (l++r)=zG1 (zg l) r:=zDb 0 l r
theorem zCf (l:List UInt16) (k:Nat):zg (l.take k)≤zg l:=by
 conv=>rhs;rw[←List.take_append_drop k l]
 rw[zFx];exact zMX _ _
theorem zEm (l:List UInt16) (k:Nat) (h:k < l.length):10*zg (l.take k)≤zg l:=by
 have h1:=zCf l (k+1);rw[yAK h,zD2]at h1;omega
theorem zB8 (l:List UInt16) (k:Nat) (h:k < l.length):zg (l.take (k+1))=10*zg (l.take k)+(l[k].toNat - 48):=by
 rw[yAK h,zD2]
def zB0:List UInt16:=[120,88,111,79,46,43,45,95]
def zBZ (x:UInt16):Bool:=zO x || (decide (97≤x.toNat)&&decide (x.toNat≤102)) || (decide (65≤x.toNat)&&decide (x.toNat≤70)) || decide (x∈zB0)
def zA8 (u:List UInt16):Bool:=u.all zBZ&&u.any zO
theorem zFy {x:UInt16} (h:zO x=true):zBZ x=true:=by simp[zBZ,h]
structure Nm where
 kind:Int
 n:Int
deriving DecidableEq
def zD3 (u:List UInt16):List UInt16:=(u.reverse.dropWhile zAQ).reverse
def zJ6 (u:List UInt16):List UInt16:=zD3 (u.dropWhile zAQ)
def zAr:List UInt16:=[73,110,102,105,110,105,116,121]
def zBa (t:List UInt16):Bool:=t.headD 0==45
def zz (t:List UInt16):List UInt16:=if t.headD 0=45∨t.headD 0=43 then t.tail else t
def zDJ (t:List UInt16):Nm×Bool:=
 if zz t=zAr then(⟨3,0⟩,true)
 else if zz t≠[]∧(zz t).all zO=true then
  (if zg (zz t)≤9007199254740991 then(⟨0,zg (zz t)⟩,true)else(⟨2,0⟩,false))
 else(⟨2,0⟩, !zA8 t)
def zDK (a:Nm):Nm:=if a.kind=2 then a else if a.kind=3 then⟨4,0⟩else if a.n=0 then⟨1,0⟩else⟨0, -a.n⟩
def zMY (t:List UInt16):Nm×Bool:=
 if t=[]then(⟨0,0⟩,true)else(if zBa t=true then zDK (zDJ t).1 else(zDJ t).1,(zDJ t).2)
theorem zG2 {t:List UInt16} (h:zz t=zAr):zA8 t=false:=by
 have hm:(73:UInt16)∈t:=by
  have h1:(73:UInt16)∈zz t:=by rw[h];decide
  unfold zz at h1;split at h1
  · exact List.mem_of_mem_tail h1
  · exact h1
 have:t.all zBZ=false:=List.all_eq_false.2 ⟨73,hm,by decide⟩;simp[zA8,this]
def zJ7 (u:List UInt16):Nm×Bool:=zMY (zJ6 u)
structure Tok where
 kind:Nat
 text:List UInt8
 str:List UInt16
 nk:Int
 nn:Int
 mag:List Nat
 pos:Nat
 nl:Bool
deriving DecidableEq
def zj:Tok:=⟨0,[],[],0,0,[],0,false⟩
def zAs (x:UInt16):Bool:=(decide (97≤x.toNat)&&decide (x.toNat≤122)) || (decide (65≤x.toNat)&&decide (x.toNat≤90)) || x.toNat==95 || x.toNat==36
def zIh (x:UInt16):Bool:=x.toNat==9 || x.toNat==11 || x.toNat==12 || x.toNat==32
def zAJ (x:UInt16):Bool:=x.toNat==10 || x.toNat==13
def zFz (x:UInt16):Bool:=x.toNat==8232 || x.toNat==8233
def zAe (x:UInt16):Bool:=zAs x || zO x
def zAy (k:Nat) (p:UInt16→Bool) (l:List UInt16):Bool:=(l[k]?).any p
def zq (s:List UInt8) (l:List UInt16):Bool:=(s.map (·.toUInt16)).isPrefixOf l
def asc (l:List UInt16):List UInt8:=l.map (·.toUInt8)
def zDr (n:Nat) (p:Nat×Bool×Nat):Nat×Bool×Nat:=(n+p.1,p.2)
def zFS (st:Bool):Nat:=if st=true then 6 else 0
def zCC (long:Bool):List UInt16→Bool→Bool→Nat×Bool×Nat
 | [],_,st=>(0,false,if long=true then 5 else zFS st)
 | x::r,nl,st=>
  if(long&&zq [42,47] (x::r))=true then(2,nl,zFS st)
  else if(!long &&zAJ x)=true then(0,false,zFS st)
  else zDr 1 (zCC long r (nl || zAJ x) (st || zFz x))
def zAR (l:List UInt16):Nat×Bool×Nat:=zDr 2 (zCC (zq [47,42] l) (l.drop 2) false false)
def zCu:Nat→List UInt16→Bool→Nat×Bool×Nat
 | 0,_,nl=>(0,nl,0)
 | _+1,[],nl=>(0,nl,0)
 | f+1,x::r,nl=>
  if(zIh x || zAJ x)=true then zDr 1 (zCu f r (nl || zAJ x))
  else if(zq [47,47] (x::r) || zq [47,42] (x::r))=true then
   (if(zAR (x::r)).2.2≠0 then(0,false,(zAR (x::r)).2.2)
    else zDr (zAR (x::r)).1 (zCu f ((x::r).drop (zAR (x::r)).1) (nl || (zAR (x::r)).2.1)))
  else(0,nl,0)
def zAB (l:List UInt16):Nat×Bool×Nat:=zCu l.length l false
def zDL:List (List UInt8):=[[98,114,101,97,107],[99,97,116,99,104],[99,111,110,115,116],[99,111,110,116,105,110,117,101],[101,108,115,101],[102,97,108,115,101],[102,105,110,97,108,108,121],[102,111,114],[102,117,110,99,116,105,111,110],[105,102],[105,110],[108,101,116],[110,101,119],[110,117,108,108],[114,101,116,117,114,110],[116,104,105,115],[116,104,114,111,119],[116,114,117,101],[116,114,121],[116,121,112,101,111,102],[118,111,105,100],[119,104,105,108,101]]
def zCU:List (List UInt8):=[[97,114,103,117,109,101,110,116,115],[97,115,121,110,99],[97,119,97,105,116],[99,97,115,101],[99,108,97,115,115],[100,101,98,117,103,103,101,114],[100,101,102,97,117,108,116],[100,101,108,101,116,101],[100,111],[101,110,117,109],[101,118,97,108],[101,120,112,111,114,116],[101,120,116,101,110,100,115],[105,109,112,108,101,109,101,110,116,115],[105,109,112,111,114,116],[105,110,115,116,97,110,99,101,111,102],[105,110,116,101,114,102,97,99,101],[112,97,99,107,97,103,101],[112,114,105,118,97,116,101],[112,114,111,116,101,99,116,101,100],[112,117,98,108,105,99],[115,116,97,116,105,99],[115,117,112,101,114],[115,119,105,116,99,104],[118,97,114],[119,105,116,104],[121,105,101,108,100]]
def zCk:List (List UInt8):=[[123],[125],[40],[41],[91],[93],[59],[44],[46],[63],[58],[126],[60],[62],[60,61],[62,61],[61,61],[33,61],[61,61,61],[33,61,61],[43],[45],[42],[47],[37],[38],[124],[94],[33],[38,38],[124,124],[63,63],[61],[43,61],[45,61],[42,61],[47,61],[37,61],[38,61],[124,61],[94,61],[60,60,61],[62,62,61],[62,62,62,61],[43,43],[45,45],[60,60],[62,62],[62,62,62],[61,62]]
def zCv:List (List UInt8):=[[46,46,46],[63,46],[42,42],[42,42,61],[38,38,61],[124,124,61],[63,63,61]]
def zBf (s:List UInt8):Nat:=if s∈zDL then 1 else if s∈zCU then 2 else 0
def zBV (s:List UInt8):Nat:=if s∈zCk then 1 else if s∈zCv then 2 else 0
def zG3 (s:List UInt8):Bool:=match s with | []=>false | b::r=>zAs b.toUInt16&&r.all fun c=>zAe c.toUInt16
def zCl (s:List UInt8):Bool:=zG3 s&&zBf s==0
abbrev Ans:=Nat×Tok×Nat
def bad (e:Nat):Ans:=(e,zj,0)
def zDm (l:List UInt16):Ans:=
 if zq [92] (l.drop (l.takeWhile zAe).length)=true then bad 6
 else(0,{zj with kind:=if 0 < zBf (asc (l.takeWhile zAe))then 6 else 1,text:=asc (l.takeWhile zAe)},(l.takeWhile zAe).length)
def zAh:Nat→Nat→List Nat
 | 0,_=>[]
 | f+1,v=>if v=0 then []else v % 4294967296::zAh f (v / 4294967296)
def zAz (v:Nat):List Nat:=zAh 9 v
def zEn:Nat:=4294967296^8
def zl (zero:Bool) (x:UInt16):Bool:=
 x.toNat==46 || x.toNat==101 || x.toNat==69 || x.toNat==95 || (zero&&(x.toNat==120 || x.toNat==88 || x.toNat==111 || x.toNat==79 || x.toNat==98 || x.toNat==66))
def zIi (v n:Nat) (r:List UInt16):Ans:=
 if zEn≤v then bad 6
 else if(zAy 0 zAs r || zAy 0 zO r)=true then bad 5
 else(0,{zj with kind:=3,mag:=zAz v},n+1)
def zBt (d r:List UInt16):Ans:=
 if(zAy 0 (fun x=>x.toNat==48) d&& !decide (d=[48]))=true then bad 5
 else if zq [110] r=true then zIi (zg d) d.length (r.drop 1)
 else if zAy 0 (zl (decide (d=[48]))) r=true then bad 6
 else if zAy 0 zAs r=true then bad 5
 else if 9007199254740991 < zg d then bad 6
 else(0,{zj with kind:=2,nn:=zg d},d.length)
def zB1 (l:List UInt16):Ans:=zBt (l.takeWhile zO) (l.drop (l.takeWhile zO).length)
def zF0 (x:UInt16):Nat:=
 if zO x=true then x.toNat - 48 else if 97≤x.toNat∧x.toNat≤102 then x.toNat - 87 else if 65≤x.toNat∧x.toNat≤70 then x.toNat - 55 else 16
def zDc (v:Nat):List UInt16→Nat
 | []=>v
 | x::r=>zDc (16*v+zF0 x) r
def zCw (x:UInt16):Bool:=decide (zF0 x < 16)
def zCd (n:Nat) (l:List UInt16):Nat×UInt16×Nat:=
 if(decide (n≤l.length)&&(l.take n).all zCw)=true then(0,UInt16.ofNat (zDc 0 (l.take n)),n)else(5,0,0)
def zBr (x:UInt16):Option UInt16:=
 if x=110 then some 10 else if x=116 then some 9 else if x=114 then some 13 else if x=98 then some 8 else if x=118 then some 11 else if x=102 then some 12 else none
def more (n:Nat) (p:Nat×UInt16×Nat):Nat×UInt16×Nat:=if p.1=0 then(0,p.2.1,n+p.2.2)else p
def zQl (x:UInt16) (r:List UInt16):Nat×UInt16×Nat:=
 if(x.toNat==48&& !zAy 0 zO r)=true then(0,0,1)
 else if zO x=true then(5,0,0)
 else if(zAJ x || zFz x || (x.toNat==117&&zq [123] r))=true then(6,0,0)
 else if x.toNat=120 then more 1 (zCd 2 r)
 else if x.toNat=117 then more 1 (zCd 4 r)
 else(0,x,1)
def zDM:List UInt16→Nat×UInt16×Nat
 | []=>(5,0,0)
 | x::r=>if(zBr x).isSome=true then(0,(zBr x).getD 0,1)else zQl x r
def zDd (q:UInt16):Nat→List UInt16→List UInt16→Nat×List UInt16×Nat
 | 0,_,_=>(5,[],0)
 | _+1,[],_=>(5,[],0)
 | f+1,x::r,acc=>
  if zAJ x=true then(5,[],0)
  else if x=q then(0,acc,1)
  else if x.toNat=92 then
   (if(zDM r).1≠0 then((zDM r).1,[],0)
    else((zDd q f (r.drop (zDM r).2.2) (acc++[(zDM r).2.1])).1,(zDd q f (r.drop (zDM r).2.2) (acc++[(zDM r).2.1])).2.1,1+(zDM r).2.2+(zDd q f (r.drop (zDM r).2.2) (acc++[(zDM r).2.1])).2.2))
  else((zDd q f r (acc++[x])).1,(zDd q f r (acc++[x])).2.1,1+(zDd q f r (acc++[x])).2.2)
def zO1 (q:UInt16) (l:List UInt16):Nat×List UInt16×Nat:=zDd q (l.length+1) l []
def zBD (q:UInt16) (r:List UInt16):Ans:=
 if(zO1 q r).1≠0 then bad (zO1 q r).1 else(0,{zj with kind:=4,str:=(zO1 q r).2.1},1+(zO1 q r).2.2)
def zAq (l:List UInt16) (n:Nat):Nat:=
 if(decide (n≤l.length)&&(l.take n).all (fun x=>decide (x.toNat≤127))&& !(decide (asc (l.take n)=[63,46])&&zAy 2 zO l))=true then zBV (asc (l.take n))else 0
def zBE (l:List UInt16):Nat→Option Nat
 | 0=>none
 | n+1=>if zAq l (n+1)≠0 then some (n+1)else zBE l n
def zCA (z:Bool) (l:List UInt16):Ans:=
 match zBE l 4 with
 | some n=>if zAq l n=2 then bad 6 else(0,{zj with kind:=5,text:=asc (l.take n)},n)
 | none=>if(zAy 0 (fun x=>decide (128≤x.toNat) || x.toNat==96 || x.toNat==92) l || (z&&zq [35,33] l))=true then bad 6 else bad 5
def zA9 (z:Bool):List UInt16→Ans
 | []=>bad 5
 | x::r=>
  if zAs x=true then zDm (x::r)
  else if zO x=true then zB1 (x::r)
  else if(x.toNat==39 || x.toNat==34)=true then zBD x r
  else if(x.toNat==46&&zAy 0 zO r)=true then bad 6
  else zCA z (x::r)
def zDn (t:Tok) (p:List Tok×Nat×Nat):List Tok×Nat×Nat:=if p.2.2≠0 then([],p.2)else(t::p.1,0,0)
def zAi (k:Nat) (l:List UInt16):Ans:=zA9 (k+(zAB l).1==0) (l.drop (zAB l).1)
def setAt (t:Tok) (k:Nat) (nl:Bool):Tok:={t with pos:=k,nl:=nl}
def zDI:Nat→Nat→List UInt16→List Tok×Nat×Nat
 | 0,_,_=>([],0,0)
 | f+1,k,l=>
  if(zAB l).2.2≠0 then([],k+(zAB l).1,(zAB l).2.2)
  else if l.drop (zAB l).1=[]then([setAt zj (k+(zAB l).1) (zAB l).2.1],0,0)
  else if(zAi k l).1≠0 then([],k+(zAB l).1,(zAi k l).1)
  else zDn (setAt (zAi k l).2.1 (k+(zAB l).1) (zAB l).2.1) (zDI f (k+(zAB l).1+(zAi k l).2.2) (l.drop ((zAB l).1+(zAi k l).2.2)))
def zCD (u:List UInt16):List Tok×Nat×Nat:=if 4096 < u.length then([],0,3)else zDI (u.length+1) 0 u
structure Nd where
 kind:Int
 name:List UInt8
 str:List UInt16
 nk:Int
 nn:Int
 neg:Bool
 mag:List Nat
 kids:List Int
deriving DecidableEq
def zBg:Nd:=⟨0,[],[],0,0,false,[],[]⟩
def zF1 (k:Int):Bool:=decide (2≤k)&&decide (k≤19)&& !(k==7)&& !(k==11)&& !(k==17)
def zMZ (k:Int):Bool:=zF1 k&& !(k==5)&& !(k==6)&& !(k==19)
def zD4 (k:Int):Bool:=decide (30≤k)&&decide (k≤53)&& !(k==40)
def zAf (k:Int):Bool:=k==33 || k==52 || k==53
def zD5 (k:Int):Bool:=(decide (1≤k)&&decide (k≤20)) || (decide (30≤k)&&decide (k≤53))
def zD6 (s:Nat) (k:Int):Bool:=
 if s=1 then zF1 k else if s=2 then zMZ k else if s=3 then zD4 k else if s=4 then zAf k
 else if s=5 then k==7 else if s=6 then k==20 else if s=7 then k==40 else if s=8 then k==4
 else if s=9 then k==11 || zD4 k else if s=10 then k==11 || k==5 || k==6 || zD4 k
 else if s=11 then k==11 || k==17 else if s=12 then k==11 || k==4 else if s=13 then k==4 || zD4 k else false
def zA5 (n last:Nat):List Nat:=List.replicate (n - 1) 6++[last]
def zAA (k:Int) (n:Nat):List Nat×Nat:=
 if k=1∨k=4 then([],1)
 else if k=3∨k=15∨k=40∨k=43∨k=52 then([3],0)
 else if k=5∨k=6 then([5],5)
 else if k=7∨k=14 then([3].take (min n 1),0)
 else if k=8 then([3,2,2].take (min (max n 2) 3),0)
 else if k=9 then([3,2],0)
 else if k=10 then([10,9,9,2],0)
 else if k=16 then([8,11,12],0)
 else if k=17 then([8],0)
 else if k=18 then([2],0)
 else if k=19∨k=41 then(zA5 n 8,0)
 else if k=42 then(zA5 n 13,0)
 else if k=38 then([],3)
 else if k=39 then([],7)
 else if k=44∨k=45 then([4],0)
 else if k=46∨k=47∨k=53 then([3,3],0)
 else if k=48 then([3,3,3],0)
 else if k=49 then([4,3],0)
 else if k=50∨k=51 then([3],3)
 else([],0)
def atN (ts:List Nd) (k:Int):Nd:=ts.getD k.toNat zBg
def zBT (ts:List Nd):List Nat→Nat→List Int→Bool
 | _,_,[]=>true
 | [],r,k::ks=>zD6 r (atN ts k).kind&&zBT ts [] r ks
 | s::l,r,k::ks=>zD6 s (atN ts k).kind&&zBT ts l r ks
def zMa:Nat→List Nd→Int→Bool
 | 0,_,_=>false
 | f+1,ts,n=>
  if(atN ts n).kind=8∧(atN ts n).kids.length=2 then true
  else if(atN ts n).kind=8∨(atN ts n).kind=9∨(atN ts n).kind=10∨(atN ts n).kind=18 then
   (match (atN ts n).kids.getLast? with | none=>false | some k=>zMa f ts k)
  else false
def zCm (ts:List Nd) (n:Int):Bool:=zMa ts.length ts n
def zCE (ts:List Nd) (x:Nd):Bool:=
 zD5 x.kind&&decide ((zAA x.kind x.kids.length).1.length≤x.kids.length)
 &&zBT ts (zAA x.kind x.kids.length).1 (zAA x.kind x.kids.length).2 x.kids
 &&(if x.kind=16 then((atN ts (x.kids.getD 1 0)).kind==17 || (atN ts (x.kids.getD 2 0)).kind==4)
  else if x.kind=8∧x.kids.length=3 then !(zCm ts (x.kids.getD 1 0))else true)
def zJ4:List (List UInt8):=[[45],[43],[33],[126],[116,121,112,101,111,102],[118,111,105,100]]
def zFT:List (List UInt8):=[[43,43],[45,45]]
def zRp:List (List UInt8):=[[43],[45],[42],[47],[37],[38],[124],[94],[60,60],[62,62],[62,62,62],[60],[62],[60,61],[62,61],[61,61],[33,61],[61,61,61],[33,61,61],[105,110]]
def zRq:List (List UInt8):=[[38,38],[124,124],[63,63]]
def zO2:List (List UInt8):=[[61],[43,61],[45,61],[42,61],[47,61],[37,61],[38,61],[124,61],[94,61],[60,60,61],[62,62,61],[62,62,62,61]]
def zMU (k:Int):List (List UInt8):=
 if k=43 then zJ4 else if k=44∨k=45 then zFT else if k=46 then zRp else if k=47 then zRq else if k=49 then zO2 else []
def zF2 (k:Int) (s:List UInt8):Bool:=
 if k=7∨k=18∨k=19∨k=20∨k=33 then zCl s
 else if k=12∨k=13∨k=17∨k=41 then decide (s=[]) || zCl s
 else if k=52 then zG3 s
 else if zMU k≠[]then decide (s∈zMU k)else decide (s=[])
def zD7 (k n:Int):Bool:=if k=0 then decide (-9007199254740991≤n)&&decide (n≤9007199254740991)else decide (1≤k)&&decide (k≤4)&&n==0
def zCg (neg:Bool) (m:List Nat):Bool:=decide (m.length≤8)&&(match m.getLast? with | none=> !neg | some x=> !(x==0))
def zh (x:Nd):Bool:=
 if 4096 < x.name.length then false
 else if(!(x.kind==32)&& !(x.kind==40)&& !x.str.isEmpty)=true then false
 else if(!(x.kind==30)&& !(x.nk==0&&x.nn==0))=true then false
 else if(!(x.kind==31)&&(x.neg || !x.mag.isEmpty))=true then false
 else if x.kind=32∨x.kind=40 then decide (x.name=[])&&decide (x.str.length≤4096)
 else if x.kind=30 then decide (x.name=[])&&x.nk==0&&zD7 x.nk x.nn&&decide (0≤x.nn)
 else if x.kind=31 then decide (x.name=[])&&zCg x.neg x.mag&& !x.neg
 else zF2 x.kind x.name
def zBh (N n:Nat) (ks:List Int):Bool:=ks.all fun k=>decide ((n:Int) < k)&&decide (k < (N:Int))
def zAl (N:Nat):Nat→List Nd→List Int→Bool
 | _,[],st=>st.isEmpty
 | _,_::_,[]=>false
 | n,x::r,s::st=>s==(n:Int)&&zBh N n x.kids&&zAl N (n+1) r (x.kids++st)
def zBU (ts:List Nd):Bool:=zAl ts.length 0 ts [0]
def zCh (d:List Nat) (v:Nat):List Int→List Nat
 | []=>d
 | k::ks=>zCh (d.set k.toNat v) v ks
def zCF:Nat→List Nd→List Nat→List Nat
 | _,[],d=>d
 | n,x::r,d=>zCF (n+1) r (zCh (d.set n (max (d.getD n 0) 1)) (max (d.getD n 0) 1+1) x.kids)
def zG4 (ts:List Nd):List Nat:=zCF 0 ts (List.replicate ts.length 0)
def zD8:List Nat→Nat
 | []=>0
 | x::r=>max x (zD8 r)
def zIj (ts:List Nd):Nat:=zD8 (zG4 ts)
def zCx (ts:List Nd):Nat→List Nd→Bool
 | _,[]=>true
 | n,x::r=> !(decide (0 < n)&&x.kind==1)&&zh x&&zCE ts x&&zCx ts (n+1) r
def zO3 (ts:List Nd):Bool:=
 match ts with
 | []=>false
 | x::_=>decide (ts.length≤4096)&&x.kind==1&&zBU ts&&zCx ts 0 ts&&decide (zIj ts≤48)
inductive Tr where
 | mk (x:Nd) (l:List Tr)
mutual
def Tr.size:Tr→Nat
 | .mk _ l=>1+sizes l
def sizes:List Tr→Nat
 | []=>0
 | t::r=>t.size+sizes r
end
def Tr.nd:Tr→Nd | .mk x _=>x
def Tr.subs:Tr→List Tr | .mk _ l=>l
def zAM (n:Nat):List Tr→List Int
 | []=>[]
 | t::r=>(n:Int)::zAM (n+t.size) r
mutual
def flatT (n:Nat):Tr→List Nd
 | .mk x l=>{x with kids:=zAM (n+1) l}::flatL (n+1) l
def flatL (n:Nat):List Tr→List Nd
 | []=>[]
 | t::r=>flatT n t++flatL (n+t.size) r
end
theorem zb (x:Nd) (l:List Tr):(Tr.mk x l).size=1+sizes l:=by rw[Tr.size]
theorem zJ:sizes []=0:=by rw[sizes]
theorem zI (t:Tr) (r:List Tr):sizes (t::r)=t.size+sizes r:=by rw[sizes]
theorem zBi (t:Tr):1≤t.size:=by cases t;rw[zb];omega
theorem zA2 (n:Nat) (x:Nd) (l:List Tr):flatT n (.mk x l)={x with kids:=zAM (n+1) l}::flatL (n+1) l:=by rw[flatT]
theorem zAb (n:Nat):flatL n []=[]:=by rw[flatL]
theorem zAU (n:Nat) (t:Tr) (r:List Tr):flatL n (t::r)=flatT n t++flatL (n+t.size) r:=by rw[flatL]
mutual
theorem flatT_len (n:Nat) (t:Tr):(flatT n t).length=t.size:=by
 cases t with
 | mk x l=>rw[zA2,zb,List.length_cons,flatL_len (n+1) l];omega
theorem flatL_len (n:Nat) (l:List Tr):(flatL n l).length=sizes l:=by
 cases l with
 | nil=>rw[zAb,zJ];rfl
 | cons t r=>rw[zAU,zI,List.length_append,flatT_len n t,flatL_len (n+t.size) r]
end
theorem zDN (n:Nat) (l:List Tr):(zAM n l).length=l.length:=by
 induction l generalizing n with
 | nil=>rfl
 | cons t r ih=>simp[zAM,ih]
theorem zBA {n:Nat} {l:List Tr} {p:Int} (h:p∈zAM n l):(n:Int)≤p∧p < ((n+sizes l:Nat):Int):=by
 induction l generalizing n with
 | nil=>cases h
 | cons t r ih=>
  have:=zBi t;rw[zI];rcases List.mem_cons.1 h with h | h
  · omega
  · have:=ih h;omega
def Tr.laid (n:Nat):Tr→Nd | .mk x l=>{x with kids:=zAM (n+1) l}
theorem zE4 (n:Nat) (t:Tr):(flatT n t)[0]? =some (t.laid n):=by cases t;rw[zA2];rfl
theorem zBj (N n:Nat) (x:Nd) (r:List Nd) (s:Int) (st:List Int):zAl N n (x::r) (s::st)=(s==(n:Int)&&zBh N n x.kids&&zAl N (n+1) r (x.kids++st)):=rfl
theorem zD9 (n:Nat) (x:Nd) (r:List Nd) (d:List Nat):zCF n (x::r) d=zCF (n+1) r (zCh (d.set n (max (d.getD n 0) 1)) (max (d.getD n 0) 1+1) x.kids):=rfl
theorem zIk {N m:Nat} (ih:∀n r k st,r.length < m→zAl N n r (k::st)=true→∃t r',k=(n:Int)∧r=flatT n t++r'∧zAl N (n+t.size) r' st=true):
 ∀(ks:List Int) (n:Nat) (r:List Nd) (st:List Int),r.length < m→zAl N n r (ks++st)=true→∃l r',ks=zAM n l∧r=flatL n l++r'∧zAl N (n+sizes l) r' st=true:=by
 intro ks
 induction ks with
 | nil=>intro n r st _ h;exact⟨[],r,rfl,by rw[zAb];rfl,by rw[zJ];exact h⟩
 | cons k ks ihk=>
  intro n r st hm h;obtain⟨t,r',hk,hr,h2⟩:=ih n r k (ks++st) hm h;have hl:r'.length < m:=by
   have:=congrArg List.length hr;rw[List.length_append]at this;omega
  obtain⟨l,r'',hks,hr',h3⟩:=ihk (n+t.size) r' st hl h2;refine⟨t::l,r'',by rw[hk,hks];rfl,by rw[hr,hr',zAU,List.append_assoc],?_⟩;rw[zI,←Nat.add_assoc];exact h3
theorem zJ8 (N:Nat):∀(m n:Nat) (r:List Nd) (k:Int) (st:List Int),r.length < m→zAl N n r (k::st)=true→∃t r',k=(n:Int)∧r=flatT n t++r'∧zAl N (n+t.size) r' st=true:=by
 intro m
 induction m with
 | zero=>intro n r k st h;omega
 | succ m ih=>
  intro n r k st hm h;cases r with
  | nil=>cases h
  | cons x r=>
   unfold zAl at h;simp only[Bool.and_eq_true,beq_iff_eq]at h;obtain⟨⟨hk,_⟩,h⟩:=h;obtain⟨l,r',h1,h2,h3⟩:=zIk (m:=m) ih x.kids (n+1) r st (by simp at hm;omega) h;refine⟨.mk x l,r',hk,?_,?_⟩
   · rw[zA2,←h1,h2];rfl
   · rw[zb,←Nat.add_assoc];exact h3
theorem zE5 {ts:List Nd} (h:zBU ts=true):∃t,ts=flatT 0 t:=by
 obtain⟨t,r',_,h1,h2⟩:=zJ8 ts.length (ts.length+1) 0 ts 0 [] (by omega) h;cases r' with
 | nil=>exact⟨t,by rw[h1];simp⟩
 | cons x r=>cases h2
mutual
theorem order_flatT (N:Nat) (t:Tr) (n:Nat) (r:List Nd) (st:List Int) (h:n+t.size≤N):zAl N n (flatT n t++r) ((n:Int)::st)=zAl N (n+t.size) r st:=by
 cases t with
 | mk x l=>
  rw[zb]at h⊢;rw[zA2,List.cons_append];have hk:zBh N n (zAM (n+1) l)=true:=by
   unfold zBh;rw[List.all_eq_true];intro p hp;have:=zBA hp;simp only[Bool.and_eq_true,decide_eq_true_eq];omega
  rw[zBj];simp only[beq_self_eq_true,hk,Bool.true_and];rw[order_flatL N l (n+1) r st (by omega),Nat.add_assoc]
theorem order_flatL (N:Nat) (l:List Tr) (n:Nat) (r:List Nd) (st:List Int) (h:n+sizes l≤N):zAl N n (flatL n l++r) (zAM n l++st)=zAl N (n+sizes l) r st:=by
 cases l with
 | nil=>rw[zAb,zJ];rfl
 | cons t l=>
  rw[zI]at h⊢;rw[zAU,List.append_assoc];show zAl N n (flatT n t++(flatL (n+t.size) l++r)) ((n:Int)::(zAM (n+t.size) l++st))=_;rw[order_flatT N t n _ _ (by omega),order_flatL N l (n+t.size) r st (by omega),Nat.add_assoc]
end
theorem zE6 (t:Tr):zBU (flatT 0 t)=true:=by
 have h:=order_flatT t.size t 0 [] [] (by omega);rw[List.append_nil]at h;unfold zBU;rw[flatT_len];exact h.trans rfl
mutual
def depsT (v:Nat):Tr→List Nat
 | .mk _ l=>v::depsL (v+1) l
def depsL (v:Nat):List Tr→List Nat
 | []=>[]
 | t::r=>depsT v t++depsL v r
end
theorem zB2 (v:Nat) (x:Nd) (l:List Tr):depsT v (.mk x l)=v::depsL (v+1) l:=by rw[depsT]
theorem zCy (v:Nat):depsL v []=[]:=by rw[depsL]
theorem zBu (v:Nat) (t:Tr) (r:List Tr):depsL v (t::r)=depsT v t++depsL v r:=by rw[depsL]
mutual
theorem depsT_len (v:Nat) (t:Tr):(depsT v t).length=t.size:=by
 cases t with
 | mk x l=>rw[zB2,zb,List.length_cons,depsL_len (v+1) l];omega
theorem depsL_len (v:Nat) (l:List Tr):(depsL v l).length=sizes l:=by
 cases l with
 | nil=>rw[zCy,zJ];rfl
 | cons t r=>rw[zBu,zI,List.length_append,depsT_len v t,depsL_len v r]
end
def over (d:List Nat) (n:Nat) (e:List Nat):List Nat:=d.take n++e++d.drop (n+e.length)
theorem zMb {d e:List Nat} {n:Nat} (h:n+e.length≤d.length):(over d n e).length=d.length:=by
 unfold over;simp only[List.length_append,List.length_take,List.length_drop];omega
theorem zCV {d e:List Nat} {n i:Nat} (h:n+e.length≤d.length):(over d n e)[i]? =if n≤i∧i < n+e.length then e[i - n]? else d[i]? :=by
 unfold over
 by_cases h1:i < n
 · rw[if_neg (by omega),List.append_assoc,List.getElem?_append_left (by rw[List.length_take];omega),List.getElem?_take_of_lt h1]
 · by_cases h2:i < n+e.length
   · rw[if_pos ⟨by omega,h2⟩,List.append_assoc,List.getElem?_append_right (by rw[List.length_take];omega),List.length_take,Nat.min_eq_left (by omega),List.getElem?_append_left (by omega)]
   · rw[if_neg (by omega),List.getElem?_append_right (by rw[List.length_append,List.length_take];omega),List.getElem?_drop,List.length_append,List.length_take,Nat.min_eq_left (by omega)];congr 1;omega
theorem zDO {v:Nat}:∀(ks:List Int) (d:List Nat) (i:Nat),(∀k∈ks,0≤k)→(zCh d v ks)[i]? =if(i:Int)∈ks∧i < d.length then some v else d[i]? :=by
 intro ks
 induction ks with
 | nil=>intro d i _;simp[zCh]
 | cons k ks ih=>
  intro d i h;unfold zCh;rw[ih _ _ (fun k hk=>h k (List.mem_cons_of_mem _ hk)),List.length_set];have hk:=h k (List.mem_cons_self ..)
  by_cases h1:(i:Int)∈ks∧i < d.length
  · rw[if_pos h1,if_pos ⟨List.mem_cons_of_mem _ h1.1,h1.2⟩]
  · rw[if_neg h1,List.getElem?_set]
    by_cases h2:k.toNat=i
    · subst h2;have h3:((k.toNat:Nat):Int)=k:=Int.toNat_of_nonneg hk;rw[if_pos rfl]
      by_cases h4:k.toNat < d.length
      · rw[if_pos h4,if_pos ⟨by rw[h3];exact List.mem_cons_self ..,h4⟩]
      · rw[if_neg h4,if_neg (fun hh=>h4 hh.2),List.getElem?_eq_none (by omega)]
    · rw[if_neg h2,if_neg];rintro⟨h5,h6⟩;rcases List.mem_cons.1 h5 with h5 | h5
      · exact h2 (by omega)
      · exact h1 ⟨h5,h6⟩
theorem zIl {v:Nat}:∀(ks:List Int) (d:List Nat),(zCh d v ks).length=d.length:=by
 intro ks
 induction ks with
 | nil=>intro d;rfl
 | cons k ks ih=>intro d;unfold zCh;rw[ih,List.length_set]
theorem zEA:∀{l:List Tr} {n:Nat},∀p∈zAM n l,(0:Int)≤p:=by
 intro l n p hp;have:=zBA hp;omega
mutual
theorem deep_flatT (t:Tr) (n v:Nat) (r:List Nd) (d:List Nat) (hv:1≤v) (hd:n+t.size≤d.length) (h:max (d.getD n 0) 1=v):zCF n (flatT n t++r) d=zCF (n+t.size) r (over d n (depsT v t)):=by
 cases t with
 | mk x l=>
  rw[zb]at hd⊢;rw[zA2,List.cons_append];rw[zD9,h];have hlen:(zCh (d.set n v) (v+1) (zAM (n+1) l)).length=d.length:=by rw[zIl,List.length_set]
  rw[deep_flatL l (n+1) (v+1) r _ (by omega) (by rw[hlen];omega) (fun p hp=>by
   have:=zBA hp;rw[zDO _ _ _ (fun k hk=>zEA k hk),if_pos ⟨hp,by rw[List.length_set];omega⟩])]
  rw[Nat.add_assoc];congr 1;apply List.ext_getElem?;intro i;have e1:(depsT v (.mk x l)).length=1+sizes l:=by rw[depsT_len,zb]
  have e2:=depsL_len (v+1) l;rw[zCV (by rw[e2,hlen];omega),zCV (by rw[e1];omega),e1,e2]
  by_cases h1:n+1≤i∧i < n+1+sizes l
  · rw[if_pos h1,if_pos (by omega),zB2,show i - n=(i - (n+1))+1 by omega,List.getElem?_cons_succ]
  · rw[if_neg h1]
    by_cases h2:i=n
    · subst h2;rw[if_pos (by omega),Nat.sub_self,zB2,zDO _ _ _ (fun k hk=>zEA k hk),if_neg (fun hh=>by have:=zBA hh.1;omega),List.getElem?_set_self (by omega)];rfl
    · rw[if_neg (by omega),zDO _ _ _ (fun k hk=>zEA k hk),if_neg (fun hh=>by have:=zBA hh.1;omega),List.getElem?_set_ne (by omega)]
theorem deep_flatL (l:List Tr) (n v:Nat) (r:List Nd) (d:List Nat) (hv:1≤v) (hd:n+sizes l≤d.length) (h:∀p:Nat,(p:Int)∈zAM n l→d[p]? =some v):zCF n (flatL n l++r) d=zCF (n+sizes l) r (over d n (depsL v l)):=by
 cases l with
 | nil=>
  rw[zAb,zJ,zCy];have:over d n []=d:=by unfold over;simp
  rw[this];rfl
 | cons t l=>
  rw[zI]at hd⊢;have e1:=depsT_len v t;have e2:=depsL_len v l;have hn:d[n]? =some v:=h n (List.mem_cons_self ..);rw[zAU,List.append_assoc,deep_flatT t n v _ d hv (by omega) (by rw[yAG,hn];simp only[Option.getD_some];omega)];have hol:(over d n (depsT v t)).length=d.length:=zMb (by rw[e1];omega);rw[deep_flatL l (n+t.size) v r _ hv (by rw[hol];omega) (fun p hp=>by
   have:=zBA hp;rw[zCV (by rw[e1];omega),e1,if_neg (by omega)];exact h p (List.mem_cons_of_mem _ hp))]
  rw[Nat.add_assoc];congr 1;apply List.ext_getElem?;intro i;rw[zCV (by rw[e2,hol];omega),zCV (by rw[e1];omega),zCV (by rw[depsL_len,zI];omega),e1,e2,depsL_len,zI,zBu]
  by_cases h1:n+t.size≤i∧i < n+t.size+sizes l
  · rw[if_pos h1,if_pos (by omega),List.getElem?_append_right (by omega),e1];congr 1;omega
  · rw[if_neg h1]
    by_cases h2:n≤i∧i < n+t.size
    · rw[if_pos h2,if_pos (by omega),List.getElem?_append_left (by omega)]
    · rw[if_neg h2,if_neg (by omega)]
end
theorem zJ9 (t:Tr):zG4 (flatT 0 t)=depsT 1 t:=by
 have h:=deep_flatT t 0 1 [] (List.replicate t.size 0) (yAC _) (by simp) (by
  have:=zBi t;rw[yAG,List.getElem?_replicate_of_lt (by omega)];rfl)
 rw[List.append_nil]at h;unfold zG4;rw[flatT_len,h];unfold over;have:=depsT_len 1 t;simp only[zCF,List.take_zero,List.nil_append,Nat.zero_add,this];rw[List.drop_of_length_le (by simp)];simp
mutual
def depT:Tr→Nat
 | .mk _ l=>1+depL l
def depL:List Tr→Nat
 | []=>0
 | t::r=>max (depT t) (depL r)
end
theorem zPH (x:Nd) (l:List Tr):depT (.mk x l)=1+depL l:=by rw[depT]
theorem zHw:depL []=0:=by rw[depL]
theorem zKA (t:Tr) (r:List Tr):depL (t::r)=max (depT t) (depL r):=by rw[depL]
theorem zHx (a b:List Nat):zD8 (a++b)=max (zD8 a) (zD8 b):=by
 induction a with
 | nil=>simp[zD8]
 | cons x r ih=>simp only[List.cons_append,zD8,ih];omega
mutual
theorem maxL_depsT (v:Nat) (t:Tr):zD8 (depsT (v+1) t)=v+depT t:=by
 cases t with
 | mk x l=>
  rw[zB2,zPH];have:=maxL_depsL (v+1) l;unfold zD8;rcases this with⟨h1,h2⟩ | h
  · subst h1;rw[zCy,zHw];unfold zD8;omega
  · rw[h];omega
theorem maxL_depsL (v:Nat) (l:List Tr):(l=[]∧zD8 (depsL (v+1) l)=0)∨zD8 (depsL (v+1) l)=v+depL l:=by
 cases l with
 | nil=>exact .inl ⟨rfl,by rw[zCy];rfl⟩
 | cons t r=>
  right;rw[zBu,zHx,maxL_depsT v t,zKA];rcases maxL_depsL v r with⟨h1,h2⟩ | h
  · rw[h2];subst h1;rw[zHw];omega
  · rw[h];omega
end
theorem zF3 (t:Tr):zIj (flatT 0 t)=depT t:=by
 unfold zIj;rw[zJ9];have:=maxL_depsT 0 t;rw[Nat.zero_add,Nat.zero_add]at this;exact this
open Go.RowKit
theorem zA {p:Prop} (h:p):Hid p:=h
theorem zD {a b:Bool} (h:a=b):Ending.returned (.bool a)=.returned (.bool b):=by rw[h]
theorem zDP {k:IntKind} {a b:Int} (h:a=b):Ending.returned (.int k a)=.returned (.int k b):=by rw[h]
theorem zk {B:Nat} {a w:World} (h:Below B a w) (n:Nat):Below B a (w.drewN n):=⟨h.os,h.tape,h.output,h.size,h.block⟩
theorem zDe (a:Addr) (n:Nat):(a.add n).block=a.block:=by unfold Addr.add;split<;>rfl
theorem zIm (a:Addr) (i j:Nat):(a.add i).add j=a.add (i+j):=by
 unfold Addr.add
 by_cases hi:i=0<;>by_cases hj:j=0<;>simp[hi,hj,Nat.add_assoc]
def Reads (w:World) (B size:Nat) (A:Option Addr) (n:Nat) (xs:List Value):Prop:=
 xs.length=n*size∧(0 < n→∃ad,A=some ad∧ad.block < B∧∀j u,xs[j]? =some u→w.cell? (ad.add j)=some u)
section
variable {w w':World} {B B' size n:Nat} {A:Option Addr} {xs:List Value}
theorem Reads.none_:Reads w B size A 0 []:=⟨by simp,fun h=>absurd h (by omega)⟩
theorem Reads.at_ {k:Nat} (h:Reads w B 1 A n xs) (hk:k < n):∃ad u,A=some ad∧ad.block < B∧xs[k]? =some u∧w.cell? (ad.add k)=some u:=by
 obtain⟨ad,e,hb,hc⟩:=h.2 (by omega);have hl:k < xs.length:=by have:=h.1;omega
 exact⟨ad,xs[k],e,hb,yAB hl,hc k _ (yAB hl)⟩
theorem Reads.keep (h:Reads w B size A n xs) (hk:∀p:Addr,p.block < B→w'.cell? p=w.cell? p):Reads w' B size A n xs:=
 ⟨h.1,fun hn=>by
  obtain⟨ad,e,hb,hc⟩:=h.2 hn;exact⟨ad,e,hb,fun j u hu=>(hk _ (by rw[zDe];exact hb)).trans (hc j u hu)⟩⟩
theorem Reads.more (h:Reads w B size A n xs) (hB:B≤B'):Reads w B' size A n xs:=
 ⟨h.1,fun hn=>by
  obtain⟨ad,e,hb,hc⟩:=h.2 hn;exact⟨ad,e,by omega,hc⟩⟩
theorem Reads.below (h:Reads w B size A n xs) (hb:Below B w w'):Reads w' B size A n xs:=h.keep fun _ hp=>hb.cell hp
theorem Reads.drewN (h:Reads w B size A n xs) (k:Nat):Reads (w.drewN k) B size A n xs:=h
theorem Reads.alloc (h:Reads w B size A n xs) (hB:B≤w.heap.size) (o:Obj):Reads (w.alloc o) B size A n xs:=h.keep fun p hp=>World.cell?_alloc_lt w o p (by omega)
theorem Reads.cut (h:Reads w B size A n xs) {k cap:Nat} (hk:k≤n) (hc:n≤cap):
 Reads w B size (if cap=k then A else A.map (·.add (k*size))) (n - k) (xs.drop (k*size)):=by
 refine⟨by rw[List.length_drop,h.1,Nat.sub_mul],fun hn=>?_⟩;obtain⟨ad,rfl,hb,hcell⟩:=h.2 (by omega);rw[if_neg (by omega)];refine⟨ad.add (k*size),rfl,by rw[zDe];exact hb,fun j u hu=>?_⟩;rw[zIm];exact hcell _ u (by rw[←hu,List.getElem?_drop])
theorem Reads.take (h:Reads w B size A n xs) {k:Nat} (hk:k≤n):Reads w B size A k (xs.take (k*size)):=by
 refine⟨by rw[List.length_take,h.1];exact Nat.min_eq_left (Nat.mul_le_mul_right _ hk),fun hn=>?_⟩;obtain⟨ad,rfl,hb,hcell⟩:=h.2 (by omega);refine⟨ad,rfl,hb,fun j u hu=>hcell j u ?_⟩;rw[List.getElem?_take]at hu;split at hu
 · exact hu
 · cases hu
theorem Reads.of_own {base:Nat} {e:TypeId} {c:Nat} (h:w.ownsRow base e size (.slice A n c) n xs):Reads w w.heap.size size A n xs:=by
 refine⟨h.1,fun hn=>?_⟩;obtain⟨g,cap,hv,_,hlt⟩:=h.form hn;have hA:A=some ⟨g,0,none⟩:=by injection hv
 subst hA;exact⟨_,rfl,hlt,h.cells (g:=g) rfl⟩
end
theorem zR {w:World} {base:Nat} {e:TypeId} {size n:Nat} {v:Value} {xs:List Value} (h:w.ownsRow base e size v n xs):
 ∃A c,v=.slice A n c∧n≤c∧c≤maxLen:=by
 rcases h.2 with⟨rfl,rfl⟩ | ⟨g,cap,cur,rfl,_,_,hnc,hm,_⟩
 · exact⟨none,0,rfl,yAC _,by unfold maxLen;omega⟩
 · exact⟨_,cap,rfl,hnc,hm⟩
def u8v (x:UInt8):Value:=.int .u8 (x.toNat:Int)
def zQp (x:UInt16):Value:=.int .u16 (x.toNat:Int)
def u8s (l:List UInt8):List Value:=l.map u8v
def zAD (l:List UInt16):List Value:=l.map zQp
theorem zBk (l:List UInt16):(zAD l).length=l.length:=by simp[zAD]
theorem zG5 (l:List UInt8):(u8s l).length=l.length:=by simp[u8s]
structure Made (w0 w:World) (e:TypeId) (v:Value) (xs:List Value):Prop where
 own:w.ownsRow w0.heap.size e 1 v xs.length xs
 below:Below w0.heap.size w0 w
theorem Made.nil (w0:World) (e:TypeId):Made w0 w0 e (.slice none 0 0) []:=⟨yAJ _ _ _ _,Below.refl _ _⟩
theorem Made.of_below {w0 w:World} (h:Below w0.heap.size w0 w) (e:TypeId):Made w0 w e (.slice none 0 0) []:=⟨yAJ _ _ _ _,h⟩
theorem Made.shape {w0 w:World} {e:TypeId} {v:Value} {xs:List Value} (h:Made w0 w e v xs):
 ∃A c,v=.slice A xs.length c∧xs.length≤c∧c≤maxLen∧Reads w w.heap.size 1 A xs.length xs:=by
 obtain⟨A,c,hv,h1,h2⟩:=zR h.own;have h':=h.own;rw[hv]at h';exact⟨A,c,hv,h1,h2,Reads.of_own h'⟩
theorem Made.alloc {w0 w:World} {e:TypeId} {v:Value} {xs:List Value} (h:Made w0 w e v xs) (o:Obj):Made w0 (w.alloc o) e v xs:=
 ⟨h.own.alloc o,h.below.alloc h.below.size o⟩
theorem Made.cells {w0 w:World} {e:TypeId} {v:Value} {xs ys:List Value} (h:Made w0 w e v xs) (e1:xs=ys):Made w0 w e v ys:=e1▸h
section
variable {P:Program} {w0 w:World} {ops:Array Oper} {rest:List Oper} {o:Oper} {a:Act} {Q:Exit→Act→World→Prop}
theorem zIn (hgd:o.guard=none) (s x:Operand) (t:TypeId)
 (ho:o.op=.call {callee:=.builtin .append,args:=#[s,x],argTypes:=#[t,t]})
 (e:TypeId) (i:TypeInfo) (z:Value) (bytes:Nat) (ht:P.underlying t=some (.slice e)) (hi:P.info? e=some i) (hz:i.zero=some z)
 (hsize:i.size=1) (hby:i.bytes=bytes) (hzs:z.cells.size=1)
 (v:Value) (xs:List Value) (hs:a.eval s=v) (hm:Made w0 w e v xs)
 (ad:Addr) (m c:Nat) (news:List Value) (hx:a.eval x=.slice (some ad) m c) (hl:news.length=m) (hnews:∀j u,news[j]? =some u→w.cell? (ad.add j)=some u) (h1:∀u∈news,u.oneCell'=true)
 (hsz:xs.length+m≤70368744177664) (hb2:bytes≤2)
 (h:∀v' w',Made w0 w' e v' (xs++news)→w.grownBy w' v.ownBlock→wpList P ops Q rest (a.put o.dst v') w'):wpList P ops Q (o::rest) a w:=by
 subst hl;refine wpList_append_own w hgd s x t ho w0.heap.size e i z 1 bytes ht hi hz hsize hby hzs (by omega) v xs.length xs hs hm.own ad _ c news hx (by omega) hnews h1 (by unfold maxLen;omega) ?_ hm.below.size ?_
 · calc (xs.length+news.length)*bytes≤70368744177664*2:=Nat.mul_le_mul hsz hb2
    _≤140737488355328:=by omega
 · intro v' w' h1 h2 _;refine h v' w' ⟨by rw[List.length_append];exact h1,hm.below.grown h2 hm.below.size (fun k hk=>(hm.own.lt k hk).1)⟩ h2
theorem zCW (hgd:o.guard=none) (s x:Operand) (t:TypeId)
 (ho:o.op=.call {callee:=.builtin .append,args:=#[s,x],argTypes:=#[t,t]})
 (e:TypeId) (i:TypeInfo) (z:Value) (bytes:Nat) (ht:P.underlying t=some (.slice e)) (hi:P.info? e=some i) (hz:i.zero=some z)
 (hsize:i.size=1) (hby:i.bytes=bytes) (hzs:z.cells.size=1)
 (v:Value) (xs:List Value) (hs:a.eval s=v) (hm:Made w0 w e v xs)
 (cs:List Value) (m c:Nat) (hx:a.eval x=.slice (some ⟨w.heap.size,0,none⟩) m c) (hl:cs.length=m) (h1:(cs.all fun u=>u.oneCell')=true)
 (hsz:xs.length+m≤70368744177664) (hb2:bytes≤2)
 (h:∀v' w',Made w0 w' e v' (xs++cs)→wpList P ops Q rest (a.put o.dst v') w'):wpList P ops Q (o::rest) a (w.alloc (.cells cs.toArray e)):=by
 refine zIn hgd s x t ho e i z bytes ht hi hz hsize hby hzs v xs hs (hm.alloc _) ⟨w.heap.size,0,none⟩ m c cs hx hl ?_ (fun u hu=>List.all_eq_true.1 h1 u hu) hsz hb2 (fun v' w' h' _=>h v' w' h');intro j u hu;rw[Addr.add_lit,World.cell?_alloc_at _ _ _ _ rfl];simpa using hu
end
theorem Tryz.info_u16:(prog.info? 24).map (fun i=>(i.zero,i.size,i.bytes))=some (some (.int .u16 0),1,2):=by kernel_rfl
theorem Tryz.info_u8:(prog.info? 5).map (fun i=>(i.zero,i.size,i.bytes))=some (some (.int .u8 0),1,1):=by kernel_rfl
def zAt (l:List UInt8):List UInt16:=l.map (·.toUInt16)
theorem zIo (s:ByteArray) (k:Nat) (h:k < s.size):zAD (zAt (s.data.toList.take (k+1)))=zAD (zAt (s.data.toList.take k))++[.int .u16 (s[k].toNat:Int)]:=by
 rw[yAK (by simpa using h)];simp[zAt,zAD,zQp];rfl
theorem zCz (s:ByteArray) (w:World) (hs:s.size≤70368744177664):
 Calls prog 32 #[.string s] w fun e w'=>∃v,e=.returned v∧Made w w' 24 v (zAD (zAt s.data.toList)):=by
 obtain⟨i0,hi0,hz0,hz1,hz2⟩:=info_parts Tryz.info_u16;go_enter func32,ntmps32;go_wp2
 go_loopw [3,7] (fun v i wr=>∃k:Nat,k≤s.size∧i=.int .i64 k∧Made w wr 24 v (zAD (zAt (s.data.toList.take k)))) (fun _ i _=>s.size - (intOf i).toNat)
 case atStart=>exact⟨0,yAE _,rfl,Made.nil _ _⟩
 case round=>
  obtain⟨k,hk,rfl,hm⟩:=hrel
  by_cases hlt:k < s.size
  · have hb:=s[k].toNat_lt;have hle:(zAD (zAt (s.data.toList.take k))).length≤k:=by simp[zAD,zAt];omega
    go_wp2_with (at_builtin;refine zCW rfl _ _ 22 rfl 24 i0 _ 2 underlying22 hi0 hz0 hz1 hz2 rfl _ _ rfl hm _ 1 1 rfl rfl rfl (by omega) (by omega) ?_;intro v' w' hm')
    go_roundw
    case rel=>exact⟨k+1,by omega,by go_num,by rw[zIo s k hlt];exact hm'⟩
    case measure=>simp[intOf];omega
  · go_wp2;go_ret;have hkk:k=s.size:=by omega
    subst hkk;exact⟨_,rfl,hm.cells (by rw[List.take_of_length_le (by simp)])⟩
def chr (n:Nat):UInt8:=UInt8.ofNat n
def zG6 (n:Nat):List UInt8:=if n < 10 then [chr (48+n)]else zG6 (n / 10)++[chr (48+n % 10)]
termination_by n
theorem zG7 {n:Nat} (h:n < 10):zG6 n=[chr (48+n)]:=by rw[zG6,if_pos h]
theorem zKB {n:Nat} (h:¬n < 10):zG6 n=zG6 (n / 10)++[chr (48+n % 10)]:=by rw[zG6,if_neg h]
abbrev Tks:=List (List UInt8)
abbrev Kd:=Int×Tks
def kd (ks:List Kd) (i:Nat):Kd:=ks.getD i (0,[])
theorem zPI {ts:List Nd}:∀(r:List Nd) (m:Nat),zCx ts m r=true→∀n x,r[n]? =some x→zh x=true∧zCE ts x=true∧(0 < m+n→x.kind≠1):=by
 intro r
 induction r with
 | nil=>intro m _ n x h;cases h
 | cons y r ih=>
  intro m h n x hx;unfold zCx at h;simp only[Bool.and_eq_true,Bool.not_eq_true',Bool.and_eq_false_iff,decide_eq_false_iff_not,yA]at h;cases n with
  | zero=>
   obtain rfl:y=x:=Option.some.inj hx;exact⟨h.1.1.2,h.1.2,fun h0=>by rcases h.1.1.1 with h1 | h1;exact absurd h0 h1;exact h1⟩
  | succ n=>
   have:=ih (m+1) h.2 n x hx;exact⟨this.1,this.2.1,fun h0=>this.2.2 (by omega)⟩
structure May (ts:List Nd) (t:Tr):Prop where
 flat:ts=flatT 0 t
 len:ts.length≤4096
 each:zCx ts 0 ts=true
 nest:depT t≤48
 kind:t.nd.kind=1
theorem zF4 (n:Nat) (t:Tr):(t.laid n).kind=t.nd.kind:=by cases t;rfl
theorem zMc {ts:List Nd} (h:zO3 ts=true):∃t,May ts t:=by
 unfold zO3 at h;cases ts with
 | nil=>cases h
 | cons x r=>
  simp only[Bool.and_eq_true,decide_eq_true_eq,beq_iff_eq]at h;obtain⟨⟨⟨⟨h1,h2⟩,h3⟩,h4⟩,h5⟩:=h;obtain⟨t,ht⟩:=zE5 h3;have hx:=zE4 0 t;rw[←ht]at hx;have hx:x=t.laid 0:=Option.some.inj hx;rw[ht,zF3]at h5;exact⟨t,ht,h1,h4,h5,by rw[←zF4 0 t,←hx];exact h2⟩
theorem zG8 {ts:List Nd}:∀(ks:List Int) (l:List Nat),zBT ts l 0 ks=true→ks.length≤l.length:=by
 intro ks
 induction ks with
 | nil=>intro l _;simp
 | cons k r ih=>
  intro l h;cases l with
  | nil=>
   unfold zBT at h;simp[zD6]at h
  | cons s l=>
   unfold zBT at h;rw[Bool.and_eq_true]at h;have:=ih l h.2;simp only[List.length_cons];omega
theorem zMd {ts:List Nd} {x:Nd} (h:zCE ts x=true):(zAA x.kind x.kids.length).1.length≤x.kids.length∧((zAA x.kind x.kids.length).2=0→x.kids.length=(zAA x.kind x.kids.length).1.length):=by
 unfold zCE at h;simp only[Bool.and_eq_true,decide_eq_true_eq]at h;obtain⟨⟨⟨_,h1⟩,h2⟩,_⟩:=h;refine⟨h1,fun h0=>Nat.le_antisymm ?_ h1⟩;rw[h0]at h2;exact zG8 _ _ h2
structure Cnt (k:Int) (n:Nat):Prop where
 one:k=3∨k=15∨k=40∨k=43∨k=52∨k=17∨k=18∨k=44∨k=45→n=1
 two:k=9∨k=46∨k=47∨k=53∨k=49→n=2
 opt:k=7∨k=14→n≤1
 three:k=16∨k=48→n=3
 if_:k=8→n=2∨n=3
 four:k=10→n=4
 some_:k=5∨k=6∨k=19∨k=41∨k=42∨k=50∨k=51→1≤n
 none_:k=2∨k=11∨k=12∨k=13∨k=20∨(30≤k∧k≤37)→n=0
theorem zDQ (n last:Nat):(zA5 n last).length=n - 1+1:=by simp[zA5]
theorem zMe {ts:List Nd} {x:Nd} (h:zCE ts x=true):Cnt x.kind x.kids.length:=by
 obtain⟨h1,h2⟩:=zMd h;obtain⟨n,hn⟩:∃n,x.kids.length=n:=⟨_,rfl⟩;obtain⟨k,hk⟩:∃k,x.kind=k:=⟨_,rfl⟩;rw[hk,hn]at h1 h2⊢;constructor
 · rintro(rfl | rfl | rfl | rfl | rfl | rfl | rfl | rfl | rfl)<;>exact h2 rfl
 · rintro(rfl | rfl | rfl | rfl | rfl)<;>exact h2 rfl
 · rintro(rfl | rfl)
   all_goals
    have:=h2 rfl;have e:([3].take (min n 1):List Nat).length≤1:=by rw[List.length_take];simp;omega
    exact yAD (Nat.le_of_eq this) e
 · rintro(rfl | rfl)<;>exact h2 rfl
 · rintro rfl;have h3:=h2 rfl;have e:([3,2,2].take (min (max n 2) 3):List Nat).length=min (max n 2) 3:=by rw[List.length_take];simp
   have h4:n=min (max n 2) 3:=h3.trans e;omega
 · rintro rfl;exact h2 rfl
 · rintro(rfl | rfl | rfl | rfl | rfl | rfl | rfl)
   · exact h1
   · exact h1
   · have:n=(zA5 n 8).length:=h2 rfl;rw[zDQ]at this;omega
   · have:n=(zA5 n 8).length:=h2 rfl;rw[zDQ]at this;omega
   · have:n=(zA5 n 13).length:=h2 rfl;rw[zDQ]at this;omega
   · exact h1
   · exact h1
 · intro h3;have e:zAA k n=([],0):=by
    unfold zAA;rw[if_neg (by omega),if_neg (by omega),if_neg (by omega),if_neg (by omega),if_neg (by omega),if_neg (by omega),if_neg (by omega),if_neg (by omega),if_neg (by omega),if_neg (by omega),if_neg (by omega),if_neg (by omega),if_neg (by omega),if_neg (by omega),if_neg (by omega),if_neg (by omega),if_neg (by omega),if_neg (by omega),if_neg (by omega)]
   rw[e]at h2;exact h2 rfl
theorem zMf {ts:List Nd} (he:zCx ts 0 ts=true) {x:Nd} (hx:x∈ts):zh x=true∧zCE ts x=true:=by
 obtain⟨n,hn,rfl⟩:=List.getElem_of_mem hx;have:=zPI ts 0 he n ts[n] (yAB hn);exact⟨this.1,this.2.1⟩
def zMg (k:Int):Bool:=k==5 || k==6
def zJ5 (k:Int):Bool:=k==19 || k==41 || k==42
def zQm (k:Int):Bool:=k==9 || k==10
def nmN (ts:List Nd) (k:Int):List UInt8:=(atN ts k).name
def knK (ts:List Nd) (k:Int):Int:=(atN ts k).kind
def zKC (x:Nd):Int:=x.kids.headD 0
def zEB (ts:List Nd) (n:Int):List (List UInt8):=(atN ts n).kids.map (nmN ts)
def zGz (ts:List Nd) (k:Int):List (List UInt8):=if zMg (knK ts k)=true then zEB ts k else if knK ts k=19 then [nmN ts k]else []
def zG0 (ts:List Nd) (k:Int):List (List UInt8):=if knK ts k=20 then [nmN ts k]else []
def zAj (ts:List Nd) (n:Int):List (List UInt8):=
 if knK ts n=1∨knK ts n=4 then(atN ts n).kids.flatMap (zGz ts)
 else if knK ts n=10∧zMg (knK ts (zKC (atN ts n)))=true then zEB ts (zKC (atN ts n))
 else if knK ts n=17∧nmN ts n≠[]then [nmN ts n]
 else if zJ5 (knK ts n)=true then(atN ts n).kids.flatMap (zG0 ts)
 else []
def upK (n:Nat) (l:List Int) (ks:List Int):List Int:=ks.foldl (fun l k=>l.set k.toNat (n:Int)) l
def zFU (ts:List Nd):Nat→List Int
 | 0=>(List.replicate ts.length 0).set 0 (-1)
 | n+1=>upK n (zFU ts n) (atN ts (n:Int)).kids
def upN (ts:List Nd):List Int:=zFU ts ts.length
def upA (l:List Int) (n:Int):Int:=l.getD n.toNat 0
def zHy (ts:List Nd) (up:List Int):Nat→Int→List Int×Int
 | 0,_=>([], -1)
 | f+1,n=>if upA up n < 0 then([], -1)else if zJ5 (knK ts (upA up n))=true then([],upA up n)else(upA up n::(zHy ts up f (upA up n)).1,(zHy ts up f (upA up n)).2)
def arN (ts:List Nd) (up:List Int) (n:Int):List Int×Int:=zHy ts up (n.toNat+1) n
def zMh (ts:List Nd):Nat→Int→Int
 | 0,n=>knK ts n
 | f+1,n=>if knK ts n=18 then zMh ts f (zKC (atN ts n))else knK ts n
def laN (ts:List Nd) (n:Int):Int:=zMh ts ts.length n
def juN (ts:List Nd) (x:Nd):List Int→Bool
 | []=>false
 | n::r=>if x.name=[]∧zQm (knK ts n)=true then true else if x.name≠[]∧knK ts n=18∧nmN ts n=x.name then(x.kind==12 || zQm (laN ts n))else juN ts x r
def zRQ (a:List (List UInt8)):List (List UInt8)→Bool
 | []=>false
 | s::r=>decide (s∈a) || zRQ (a++[s]) r
def twN (l:List (List UInt8)):Bool:=zRQ [] l
def hiN (ts:List Nd) (n p:Int):Bool:=
 if p < 0∨knK ts n≠4∨(zJ5 (knK ts p)=false∧knK ts p≠17)then false else(zAj ts n).any fun s=>decide (s∈zAj ts p)
def wrN (ts:List Nd) (up:List Int) (n:Int):Bool:=
 if(twN (zAj ts n) || hiN ts n (upA up n))=true then true
 else if knK ts n=7 then(knK ts (upA up n)==6&&decide ((atN ts n).kids=[]))
 else if knK ts n=18 then(arN ts up n).1.any fun k=>knK ts k==18&&decide (nmN ts k=nmN ts n)
 else if knK ts n=12∨knK ts n=13 then !juN ts (atN ts n) (arN ts up n).1
 else if knK ts n=14 then decide ((arN ts up n).2 < 0)
 else false
def zQn (ts:List Nd) (up:List Int):Nat→Nat→Nat×Nat
 | 0,_=>(0,0)
 | f+1,n=>if wrN ts up (n:Int)=true then(n,5)else zQn ts up f (n+1)
def chN (ts:List Nd):Nat×Nat:=if zO3 ts=true then zQn ts (upN ts) ts.length 0 else(0,2)
theorem zKD (n:Nat):∀(ks l:List Int),(upK n l ks).length=l.length:=by
 intro ks
 induction ks with
 | nil=>intro l;rfl
 | cons k r ih=>intro l;show(upK n (l.set k.toNat n) r).length=_;rw[ih,List.length_set]
theorem zHz (ts:List Nd):∀n,(zFU ts n).length=ts.length:=by
 intro n
 induction n with
 | zero=>simp[zFU]
 | succ n ih=>rw[zFU,zKD,ih]
theorem zPJ (ts:List Nd):(upN ts).length=ts.length:=zHz ts _
def UpOk (l:List Int):Prop:=∀(i:Nat) (v:Int),l[i]? =some v→ -1≤v∧v < i∧(0 < i→0≤v)
theorem UpOk.set {l:List Int} (h:UpOk l) {n:Nat} {k:Int} (hk:(n:Int) < k):UpOk (l.set k.toNat (n:Int)):=by
 intro i v hv;rw[List.getElem?_set]at hv;split at hv
 · split at hv
   · cases hv;exact⟨by omega,by omega,fun _=>by omega⟩
   · cases hv
 · exact h i v hv
theorem zPK (n:Nat) (l ks:List Int) (k:Int):upK n l (ks++[k])=(upK n l ks).set k.toNat (n:Int):=by
 unfold upK;rw[List.foldl_append];rfl
theorem zQq (n:Nat):∀(ks l:List Int),(∀k∈ks,(n:Int) < k)→UpOk l→UpOk (upK n l ks):=by
 intro ks
 induction ks with
 | nil=>intro l _ h;exact h
 | cons k r ih=>intro l hk h;exact ih _ (fun j hj=>hk j (List.mem_cons_of_mem _ hj)) (h.set (hk k List.mem_cons_self))
theorem zPL {ts:List Nd} (hk:∀m:Nat,m < ts.length→∀k∈(atN ts (m:Int)).kids,(m:Int) < k):∀n,n≤ts.length→UpOk (zFU ts n):=by
 intro n
 induction n with
 | zero=>
  intro _ i v h;unfold zFU at h;rw[List.getElem?_set]at h;split at h
  · split at h
    · cases h;exact⟨by omega,by omega,fun _=>by omega⟩
    · cases h
  · rw[List.getElem?_replicate]at h;split at h
    · cases h;exact⟨by omega,by omega,fun _=>by omega⟩
    · cases h
 | succ n ih=>
  intro hn;rw[zFU];exact zQq n _ _ (hk n hn) (ih (by omega))
theorem UpOk.get3 {l:List Int} (h:UpOk l) {n:Nat} (hn:n < l.length): -1≤upA l (n:Int)∧upA l (n:Int) < n∧(0 < n→0≤upA l (n:Int)):=by
 refine h n (upA l n) ?_;unfold upA;rw[yAG,Int.toNat_natCast,yAB hn];rfl
theorem UpOk.get {l:List Int} (h:UpOk l) {n:Nat} (hn:n < l.length): -1≤upA l (n:Int)∧upA l (n:Int) < n:=⟨(h.get3 hn).1,(h.get3 hn).2.1⟩
theorem Made.call {w0 w w':World} {e:TypeId} {v:Value} {xs:List Value} (h:Made w0 w e v xs) (hb:Below w.heap.size w w'):Made w0 w' e v xs:=
 ⟨h.own.kept (row:=none) ⟨hb.os,hb.tape,hb.output,hb.size,fun k hk _=>hb.block k hk⟩ (by cases hv:v.ownBlock<;>simp),h.below.trans (hb.mono h.below.size)⟩
theorem Made.u16 {w0 w:World} {e:TypeId} {v:Value} {xs:List UInt16} (h:Made w0 w e v (zAD xs)):
 ∃A c,v=.slice A xs.length c∧xs.length≤c∧c≤maxLen∧Reads w w.heap.size 1 A xs.length (zAD xs):=by
 obtain⟨A,c,hv,h1,h2,h3⟩:=h.shape;have e:(zAD xs).length=xs.length:=by simp[zAD]
 rw[e]at hv h1 h3;exact⟨A,c,hv,h1,h2,h3⟩
theorem Made.u8 {w0 w:World} {e:TypeId} {v:Value} {xs:List UInt8} (h:Made w0 w e v (u8s xs)):
 ∃A c,v=.slice A xs.length c∧xs.length≤c∧c≤maxLen∧Reads w w.heap.size 1 A xs.length (u8s xs):=by
 obtain⟨A,c,hv,h1,h2,h3⟩:=h.shape;have e:(u8s xs).length=xs.length:=by simp[u8s]
 rw[e]at hv h1 h3;exact⟨A,c,hv,h1,h2,h3⟩
theorem Reads.u16 {w:World} {B n:Nat} {A:Option Addr} {xs:List UInt16} (h:Reads w B 1 A n (zAD xs)) {k:Nat} (hk:k < xs.length):
 ∃ad,A=some ad∧ad.block < B∧w.cell? (ad.add k)=some (.int .u16 (xs[k].toNat:Int)):=by
 have hl:xs.length=n:=by have:=h.1;simpa [zAD]using this
 obtain⟨ad,u,e,hb,hx,hc⟩:=h.at_ (k:=k) (by omega);refine⟨ad,e,hb,?_⟩;rw[hc];simp[zAD,hk]at hx;rw[←hx];rfl
theorem Addr.add_zero (a:Addr):a.add 0=a:=by simp[Addr.add]
theorem Reads.u16_0 {w:World} {B n:Nat} {A:Option Addr} {xs:List UInt16} (h:Reads w B 1 A n (zAD xs)) (hk:0 < xs.length):
 ∃ad,A=some ad∧ad.block < B∧w.cell? ad=some (.int .u16 (xs[0].toNat:Int)):=by
 obtain⟨ad,h1,h2,h3⟩:=h.u16 hk;rw[Addr.add_zero]at h3;exact⟨ad,h1,h2,h3⟩
theorem Reads.cut16 {w:World} {B c:Nat} {A:Option Addr} {xs:List UInt16} (h:Reads w B 1 A xs.length (zAD xs)) {k:Nat} (hk:k≤xs.length) (hc:xs.length≤c):
 Reads w B 1 (if c=k then A else A.map (·.add k)) (xs.drop k).length (zAD (xs.drop k)):=by
 have h1:=h.cut (k:=k) (cap:=c) hk hc;simp only[Nat.mul_one]at h1;rw[List.length_drop];simpa [zAD,List.map_drop]using h1
theorem Reads.cut8 {w:World} {B c:Nat} {A:Option Addr} {xs:List UInt8} (h:Reads w B 1 A xs.length (u8s xs)) {k:Nat} (hk:k≤xs.length) (hc:xs.length≤c):
 Reads w B 1 (if c=k then A else A.map (·.add k)) (xs.drop k).length (u8s (xs.drop k)):=by
 have h1:=h.cut (k:=k) (cap:=c) hk hc;simp only[Nat.mul_one]at h1;rw[List.length_drop];simpa [u8s,List.map_drop]using h1
theorem Reads.take16 {w:World} {B n:Nat} {A:Option Addr} {xs:List UInt16} (h:Reads w B 1 A n (zAD xs)) {k:Nat} (hk:k≤xs.length):
 Reads w B 1 A (xs.take k).length (zAD (xs.take k)):=by
 have hl:xs.length=n:=by have:=h.1;simpa [zAD]using this
 have h1:=h.take (k:=k) (by omega);rw[List.length_take,Nat.min_eq_left hk];simpa [zAD,List.map_take]using h1
theorem zO4 {k:IntKind} {n m:Int} {a b:Bool} (h:n=m) (h2:a=b):Ending.returned (.tuple #[.int k n,.bool a])=.returned (.tuple #[.int k m,.bool b]):=by rw[h,h2]
theorem zC {a b c:World} {row:Option Nat} (h:a.grownBy b row) (k:b.grownBy c row):a.grownBy c row:=
 ⟨k.os.trans h.os,k.tape.trans h.tape,k.output.trans h.output,yAD h.size k.size,fun i hi hne=>(k.block i (yAA hi h.size) hne).trans (h.block i hi hne)⟩
theorem zi {a b:World} (row:Option Nat) (h:Below a.heap.size a b):a.grownBy b row:=⟨h.os,h.tape,h.output,h.size,fun i hi _=>h.block i hi⟩
theorem zAk (a:World) (row:Option Nat):a.grownBy a.drew row:=⟨rfl,rfl,rfl,yAC _,fun _ _ _=>rfl⟩
theorem zp (a:World) (row:Option Nat) (n:Nat):a.grownBy (a.drewN n) row:=⟨rfl,rfl,rfl,yAC _,fun _ _ _=>rfl⟩
theorem zK (a:World) (g j:Nat) (v:Value):a.grownBy (a.setCell ⟨g,j,none⟩ v) (some g):=
 ⟨rfl,rfl,rfl,by simp[World.setCell],fun i _ hne=>Below.heap_setCell _ _ _ _ (fun e=>hne (by rw[e]))⟩
theorem zG (a:World) (o:Obj) (row:Option Nat):a.grownBy (a.alloc o) row:=World.grownBy_alloc a o row
theorem zAK {B:Nat} {a b:World} {g:Nat} (h:a.grownBy b (some g)) (hB:B≤g) (hg:g≤a.heap.size):Below B a b:=
 ⟨h.os,h.tape,h.output,h.size,fun i hi=>h.block i (by omega) (by intro e;injection e with e;omega)⟩
theorem zAu {a b:World} {g:Nat} (h:a.grownBy b (some g)) {p:Addr} {v:Value} (hc:a.cell? p=some v) (hp:p.block≠g):b.cell? p=some v:=
 h.cell hc (by intro e;injection e with e;exact hp e)
theorem zCG {a b:World} {g:Nat} (h:a.grownBy b (some g)) {p:Addr} (hl:p.block < a.heap.size) (hp:p.block≠g):b.frozen? p=a.frozen? p:=
 World.frozen?_of_block (w:=a) (h.block p.block hl (by intro e;injection e with e;exact hp e))
theorem Reads.grown {w w':World} {B size n g:Nat} {A:Option Addr} {xs:List Value} (h:Reads w B size A n xs) (hg:w.grownBy w' (some g)) (hB:B≤g) (hl:g≤w.heap.size):Reads w' B size A n xs:=
 h.below (zAK hg hB hl)
theorem zBK {w w':World} {base g:Nat} {e:TypeId} {size n:Nat} {v:Value} {xs:List Value} (h:w.ownsRow base e size v n xs) (hg:w.grownBy w' (some g)) (hb:g < base):w'.ownsRow base e size v n xs:=
 h.kept hg (by
  cases hv:v.ownBlock with
  | none=>exact .inl rfl
  | some k=>
   right;intro e;injection e with e;have:=(h.lt k hv).1;omega)
theorem zCH {w w':World} {base:Nat} {e:TypeId} {size n:Nat} {v:Value} {xs:List Value} (h:w.ownsRow base e size v n xs) (hb:Below w.heap.size w w'):w'.ownsRow base e size v n xs:=
 h.kept (row:=none) ⟨hb.os,hb.tape,hb.output,hb.size,fun k hk _=>hb.block k hk⟩ (by cases hv:v.ownBlock<;>simp)
theorem zAG {w:World} {base base':Nat} {e:TypeId} {size n:Nat} {v:Value} {xs:List Value} (h:w.ownsRow base e size v n xs) (hb:base'≤base):w.ownsRow base' e size v n xs:=by
 refine⟨h.1,?_⟩;rcases h.2 with h2 | ⟨g,cap,cur,h1,h3,h4,h5⟩
 · exact Or.inl h2
 · exact Or.inr ⟨g,cap,cur,h1,yAD hb h3,h4,h5⟩
structure Rd (w:World) (g:Nat) (A:Option Addr) (n c k:Nat):Prop where
 c0:w.cell? ⟨g,0,none⟩=some (.slice A n c)
 c1:w.cell? ⟨g,1,none⟩=some (.int .i64 (k:Int))
 f1:w.frozen? ⟨g,1,none⟩=false
section
variable {w w':World} {g n c k:Nat} {A:Option Addr}
theorem Rd.lt (h:Rd w g A n c k):g < w.heap.size:=World.block_lt_of_cell? w _ h.c0
theorem Rd.below {D:Nat} (h:Rd w g A n c k) (hb:Below D w w') (hg:g < D):Rd w' g A n c k:=
 ⟨(hb.cell (p:=⟨g,0,none⟩) hg).trans h.c0,(hb.cell (p:=⟨g,1,none⟩) hg).trans h.c1,(hb.frozen (p:=⟨g,1,none⟩) hg).trans h.f1⟩
theorem Rd.drew (h:Rd w g A n c k):Rd w.drew g A n c k:=⟨h.c0,h.c1,h.f1⟩
theorem Rd.drewN (h:Rd w g A n c k) (m:Nat):Rd (w.drewN m) g A n c k:=⟨h.c0,h.c1,h.f1⟩
theorem Rd.alloc (h:Rd w g A n c k) (o:Obj):Rd (w.alloc o) g A n c k:=h.below ((Below.refl _ w).alloc (yAC _) o) h.lt
theorem Rd.set (h:Rd w g A n c k) (k':Nat):Rd (w.setCell ⟨g,1,none⟩ (.int .i64 (k':Int))) g A n c k':=by
 have h1:=h.c0;have h2:=h.c1;have h3:=h.f1;exact⟨by go_simp,by go_simp,by go_simp⟩
theorem Rd.setI (h:Rd w g A n c k) {z:Int} {k':Nat} (hz:z=(k':Int)):Rd (w.setCell ⟨g,1,none⟩ (.int .i64 z)) g A n c k':=by
 subst hz;exact h.set k'
end
structure Mv (w w':World) (g:Nat) (A:Option Addr) (n c k:Nat):Prop where
 rd:Rd w' g A n c k
 grown:w.grownBy w' (some g)
theorem Mv.refl {w:World} {g n c k:Nat} {A:Option Addr} (h:Rd w g A n c k):Mv w w g A n c k:=⟨h,World.grownBy.refl w _⟩
theorem Mv.then {w w1 w2:World} {g n c k k':Nat} {A:Option Addr} (h:Mv w w1 g A n c k) (h2:Mv w1 w2 g A n c k'):Mv w w2 g A n c k':=⟨h2.rd,zC h.grown h2.grown⟩
theorem Mv.step {w w1:World} {g n c k:Nat} {A:Option Addr} (h:Mv w w1 g A n c k) {z:Int} {k':Nat} (hz:z=(k':Int)):Mv w (w1.setCell ⟨g,1,none⟩ (.int .i64 z)) g A n c k':=
 ⟨h.rd.setI hz,zC h.grown (zK w1 g 1 _)⟩
theorem Mv.below {w w1 w2:World} {g n c k:Nat} {A:Option Addr} (h:Mv w w1 g A n c k) (hb:Below w1.heap.size w1 w2):Mv w w2 g A n c k:=
 ⟨h.rd.below hb h.rd.lt,zC h.grown (zi _ hb)⟩
theorem Mv.drewN {w w1:World} {g n c k:Nat} {A:Option Addr} (h:Mv w w1 g A n c k) (m:Nat):Mv w (w1.drewN m) g A n c k:=⟨h.rd.drewN m,zC h.grown (zp _ _ _)⟩
theorem Mv.drew {w w1:World} {g n c k:Nat} {A:Option Addr} (h:Mv w w1 g A n c k):Mv w w1.drew g A n c k:=⟨h.rd.drew,zC h.grown (zAk _ _)⟩
structure MadeM (w0 w:World) (g:Nat) (e:TypeId) (v:Value) (xs:List Value):Prop where
 own:w.ownsRow w0.heap.size e 1 v xs.length xs
 grown:w0.grownBy w (some g)
theorem MadeM.nil {w0 w:World} {g:Nat} (h:w0.grownBy w (some g)) (e:TypeId):MadeM w0 w g e (.slice none 0 0) []:=⟨yAJ _ _ _ _,h⟩
theorem MadeM.go {w0 w w':World} {g:Nat} {e:TypeId} {v:Value} {xs:List Value} (h:MadeM w0 w g e v xs) (hg:g < w0.heap.size) (hw:w.grownBy w' (some g)):MadeM w0 w' g e v xs:=
 ⟨zBK h.own hw hg,zC h.grown hw⟩
theorem MadeM.cells {w0 w:World} {g:Nat} {e:TypeId} {v:Value} {xs ys:List Value} (h:MadeM w0 w g e v xs) (e1:xs=ys):MadeM w0 w g e v ys:=e1▸h
theorem MadeM.shape {w0 w:World} {g:Nat} {e:TypeId} {v:Value} {xs:List Value} (h:MadeM w0 w g e v xs):
 ∃A c,v=.slice A xs.length c∧xs.length≤c∧c≤maxLen∧Reads w w.heap.size 1 A xs.length xs:=by
 obtain⟨A,c,hv,h1,h2⟩:=zR h.own;have h':=h.own;rw[hv]at h';exact⟨A,c,hv,h1,h2,Reads.of_own h'⟩
theorem MadeM.u8 {w0 w:World} {g:Nat} {e:TypeId} {v:Value} {xs:List UInt8} (h:MadeM w0 w g e v (u8s xs)):
 ∃A c,v=.slice A xs.length c∧xs.length≤c∧c≤maxLen∧Reads w w.heap.size 1 A xs.length (u8s xs):=by
 obtain⟨A,c,hv,h1,h2,h3⟩:=h.shape;have e:(u8s xs).length=xs.length:=by simp[u8s]
 rw[e]at hv h1 h3;exact⟨A,c,hv,h1,h2,h3⟩
theorem Rd.appended {w0 w w':World} {g gr n c k:Nat} {A:Option Addr} {e:TypeId} {v:Value} {xs:List Value} (h:Rd w gr A n c k) (hm:MadeM w0 w g e v xs) (hg:gr < w0.heap.size) (hw:w.grownBy w' v.ownBlock):Rd w' gr A n c k:=by
 have hne:some gr≠v.ownBlock:=fun e=>by have:=(hm.own.lt gr e.symm).1;omega
 exact⟨hw.cell h.c0 hne,hw.cell h.c1 hne,(World.frozen?_of_block (w:=w) (hw.block gr h.lt hne)).trans h.f1⟩
end Go.Proofs.YtlohaclgbfhijaaGreatDoor
