/- Joined for the claim EarlyRoot: the parser, the lexer and the trees as they are walked, made short by a program of mine. -/
import Derived.Test.YtlohaclgbfhijaaGreatDoorE01
import Derived.Laws.OwnMore
set_option maxHeartbeats 16000000
set_option maxRecDepth 1000000
namespace Go.Proofs.YtlohaclgbfhijaaGreatDoor
open Go.Proofs.Tryz
structure Ps where
 k:Nat
 bad:Nat
 far:Nat
deriving DecidableEq
def zL (L:List Tok) (i:Nat):Tok:=L.getD i zj
def zAN (L:List Tok) (k j:Nat):Tok:=zL L (k+j)
def isT (t:Tok) (w:List UInt8):Bool:=decide (t.text=w)&&(t.kind==5 || t.kind==6)
def onP (L:List Tok) (w:List UInt8) (s:Ps):Bool:=isT (zL L s.k) w
def zB (s:Ps):Ps:={s with k:=s.k+1}
def zBw (L:List Tok) (e:Nat) (s:Ps):Ps:=⟨L.length - 1,if s.bad=0 then e else s.bad,if s.bad=0 then s.k else s.far⟩
def zY (L:List Tok) (s:Ps):Ps:=zBw L (if(zL L s.k).kind=6∧zBf (zL L s.k).text=2 then 6 else 5) s
def zN (L:List Tok) (w:List UInt8) (s:Ps):Ps:=if onP L w s=true then zB s else zY L s
def zd (L:List Tok) (s:Ps):List UInt8×Ps:=if(zL L s.k).kind=1 then((zL L s.k).text,zB s)else([],zY L s)
def zEN (L:List Tok) (s:Ps):Bool:=(zL L s.k).nl || (zL L s.k).kind==0 || onP L [59] s || onP L [125] s
def zC9 (L:List Tok) (s:Ps):Ps:=if onP L [59] s=true then zB s else if(onP L [125] s || (zL L s.k).kind==0 || (zL L s.k).nl)=true then s else zY L s
def trK (k:Int) (l:List Tr):Tr:=.mk {zBg with kind:=k} l
def trN (k:Int) (n:List UInt8) (l:List Tr):Tr:=.mk {zBg with kind:=k,name:=n} l
def zFC (L:List Tok):Nat→Nat→Option Nat
 | 0,_=>none
 | f+1,i=>if(zL L i).kind=1 then(if isT (zL L (i+1)) [44]=true then zFC L f (i+2)else some (i+1))else none
def zB4 (L:List Tok) (i:Nat):Bool:=isT (zL L i) [41]&&isT (zL L (i+1)) [61,62]
def zAX (L:List Tok) (s:Ps):Bool:=
 onP L [40] s&&(if isT (zL L (s.k+1)) [41]=true then zB4 L (s.k+1)else match zFC L L.length (s.k+1)with | none=>false | some i=>zB4 L i)
def zID (w:List UInt8):Nat:=
 if w=[124]then 0 else if w=[94]then 1 else if w=[38]then 2
 else if w=[61,61]∨w=[33,61]∨w=[61,61,61]∨w=[33,61,61]then 3
 else if w=[60]∨w=[62]∨w=[60,61]∨w=[62,61]∨w=[105,110]then 4
 else if w=[60,60]∨w=[62,62]∨w=[62,62,62]then 5
 else if w=[43]∨w=[45]then 6
 else if w=[42]∨w=[47]∨w=[37]then 7 else 9
def zCi (t:Tok):Nat:=if t.kind=5∨isT t [105,110]=true then zID t.text else 9
inductive Ph where
 | program (acc:List Tr)
 | block
 | blockL (acc:List Tr)
 | item
 | declares
 | declL (k:Int) (acc:List Tr)
 | func (k:Int) (n:List UInt8)
 | params
 | paramL (acc:List Tr)
 | statement
 | simple
 | word (w:List UInt8)
 | within
 | clause (w:List UInt8)
 | loop
 | jump (k:Int)
 | tries
 | assign
 | body (l:List Tr)
 | cond
 | either
 | nullL (x:Tr)
 | orL (x:Tr)
 | both (x:Tr)
 | level (n:Nat)
 | levelL (n:Nat) (x:Tr)
 | unary
 | calls
 | callsL (x:Tr)
 | head
 | headL (x:Tr)
 | args
 | list (w:List UInt8)
 | listL (w:List UInt8) (acc:List Tr)
 | primary
 | object
 | objL (acc:List Tr)
 | prop
def zAx (t:Tok):Option (List UInt16):=
 if t.kind=4 then some t.str else if t.kind=2 then some (zAt (zG6 t.nn.toNat))else if t.kind=1∨t.kind=6 then some (zAt t.text)else none
def zE (L:List Tok) (R:Ph→Ps→Tr×Ps) (p:Ph) (s:Ps):Tr×Ps:=
 match p with
 | .program acc=>if(zL L s.k).kind=0 then(trK 1 acc,s)else R (.program (acc++[(R .item s).1])) (R .item s).2
 | .block=>R (.blockL []) (zN L [123] s)
 | .blockL acc=>
  if s.bad≠0 then(trK 4 acc,s)else if onP L [125] s=true then(trK 4 acc,zB s)
  else R (.blockL (acc++[(R .item s).1])) (R .item s).2
 | .item=>
  if(onP L [108,101,116] s || onP L [99,111,110,115,116] s)=true then((R .declares s).1,zC9 L (R .declares s).2)
  else if onP L [102,117,110,99,116,105,111,110] s=true then R (.func 19 (zd L (zB s)).1) (zd L (zB s)).2
  else R .statement s
 | .declares=>if onP L [99,111,110,115,116] s=true then R (.declL 6 []) (zB s)else R (.declL 5 []) (zN L [108,101,116] s)
 | .declL k acc=>
  let n:=zd L s
  let d:=if onP L [61] n.2=true then(trN 7 n.1 [(R .assign (zB n.2)).1],(R .assign (zB n.2)).2)else(trN 7 n.1 [],n.2)
  if d.2.bad≠0 then(trK k (acc++[d.1]),d.2)else if onP L [44] d.2=true then R (.declL k (acc++[d.1])) (zB d.2)else(trK k (acc++[d.1]),d.2)
 | .func k n=>
  let ps:=R .params s
  let b:=R .block ps.2
  (trN k n (ps.1.subs++[b.1]),b.2)
 | .params=>
  let s1:=zN L [40] s
  if onP L [41] s1=true then(trK 0 [],zB s1)else R (.paramL []) s1
 | .paramL acc=>
  let n:=zd L s
  let a:=acc++[trN 20 n.1 []]
  if n.2.bad≠0 then(trK 0 a,n.2)else if onP L [41] n.2=true then(trK 0 a,zB n.2)else R (.paramL a) (zN L [44] n.2)
 | .statement=>
  let t:=zL L s.k
  if t.kind=1∧isT (zAN L s.k 1) [58]=true then(trN 18 t.text [(R .statement (zB (zB s))).1],(R .statement (zB (zB s))).2)
  else if t.kind=6 then R (.word t.text) s
  else if onP L [59] s=true then(trK 2 [],zB s)
  else if onP L [123] s=true then R .block s
  else R .simple s
 | .simple=>(trK 3 [(R .assign s).1],zC9 L (R .assign s).2)
 | .word w=>
  if w=[105,102]then
   let e:=R .within (zB s)
   let b:=R .statement e.2
   if onP L [101,108,115,101] b.2=true then(trK 8 [e.1,b.1,(R .statement (zB b.2)).1],(R .statement (zB b.2)).2)else(trK 8 [e.1,b.1],b.2)
  else if w=[119,104,105,108,101]then
   let e:=R .within (zB s)
   let b:=R .statement e.2
   (trK 9 [e.1,b.1],b.2)
  else if w=[102,111,114]then R .loop s
  else if w=[98,114,101,97,107]then R (.jump 12) s
  else if w=[99,111,110,116,105,110,117,101]then R (.jump 13) s
  else if w=[114,101,116,117,114,110]then
   (if zEN L (zB s)=true then(trK 14 [],zC9 L (zB s))else(trK 14 [(R .assign (zB s)).1],zC9 L (R .assign (zB s)).2))
  else if w=[116,104,114,111,119]then
   let s1:=if(zL L (zB s).k).nl=true then zY L (zB s)else zB s
   (trK 15 [(R .assign s1).1],zC9 L (R .assign s1).2)
  else if w=[116,114,121]then R .tries s
  else if w=[102,117,110,99,116,105,111,110]∨w=[108,101,116]∨w=[99,111,110,115,116]then(trK 2 [],zY L s)
  else R .simple s
 | .within=>((R .assign (zN L [40] s)).1,zN L [41] (R .assign (zN L [40] s)).2)
 | .clause w=>if onP L w s=true then(trK 11 [],zN L w s)else((R .assign s).1,zN L w (R .assign s).2)
 | .loop=>
  let s1:=zN L [40] (zB s)
  let a:=if(onP L [108,101,116] s1 || onP L [99,111,110,115,116] s1)=true then((R .declares s1).1,zN L [59] (R .declares s1).2)else R (.clause [59]) s1
  let b:=R (.clause [59]) a.2
  let c:=R (.clause [41]) b.2
  let d:=R .statement c.2
  (trK 10 [a.1,b.1,c.1,d.1],d.2)
 | .jump k=>
  if(zL L (zB s).k).kind=1∧(zL L (zB s).k).nl=false then(trN k (zd L (zB s)).1 [],zC9 L (zd L (zB s)).2)
  else(trK k [],zC9 L (zB s))
 | .tries=>
  let b:=R .block (zB s)
  let s1:=if(onP L [99,97,116,99,104] b.2 || onP L [102,105,110,97,108,108,121] b.2)=true then b.2 else zY L b.2
  let c:=if onP L [99,97,116,99,104] s1=true then
   (let n:=if onP L [40] (zB s1)=true then((zd L (zB (zB s1))).1,zN L [41] (zd L (zB (zB s1))).2)else([],zB s1)
    (trN 17 n.1 [(R .block n.2).1],(R .block n.2).2))
   else(trK 11 [],s1)
  if onP L [102,105,110,97,108,108,121] c.2=true then(trK 16 [b.1,c.1,(R .block (zB c.2)).1],(R .block (zB c.2)).2)else(trK 16 [b.1,c.1,trK 11 []],c.2)
 | .assign=>
  let t:=zL L s.k
  if t.kind=1∧isT (zAN L s.k 1) [61,62]=true∧(zAN L s.k 1).nl=false then R (.body [trN 20 t.text []]) (zB s)
  else if zAX L s=true then R (.body (R .params s).1.subs) (R .params s).2
  else
   let x:=R .cond s
   let o:=zL L x.2.k
   if o.kind≠5∨¬o.text∈zO2 then x
   else if zAf x.1.nd.kind=false then(x.1,zBw L 5 x.2)
   else(trN 49 o.text [x.1,(R .assign (zB x.2)).1],(R .assign (zB x.2)).2)
 | .body l=>
  let s1:=zN L [61,62] (if(zL L s.k).nl=true then zY L s else s)
  let b:=if onP L [123] s1=true then R .block s1 else R .assign s1
  (trK 42 (l++[b.1]),b.2)
 | .cond=>
  let x:=R .either s
  if onP L [63] x.2=true then
   let a:=R .assign (zB x.2)
   let b:=R .assign (zN L [58] a.2)
   (trK 48 [x.1,a.1,b.1],b.2)
  else x
 | .either=>
  let x:=R (.level 0) s
  if onP L [63,63] x.2=true then
   let r:=R (.nullL x.1) x.2
   (r.1,if(onP L [124,124] r.2 || onP L [38,38] r.2)=true then zY L r.2 else r.2)
  else
   let y:=R (.both x.1) x.2
   let r:=R (.orL y.1) y.2
   (r.1,if onP L [63,63] r.2=true then zY L r.2 else r.2)
 | .nullL x=>if onP L [63,63] s=true then R (.nullL (trN 47 [63,63] [x,(R (.level 0) (zB s)).1])) (R (.level 0) (zB s)).2 else(x,s)
 | .orL x=>
  if onP L [124,124] s=true then
   let y:=R (.level 0) (zB s)
   let z:=R (.both y.1) y.2
   R (.orL (trN 47 [124,124] [x,z.1])) z.2
  else(x,s)
 | .both x=>if onP L [38,38] s=true then R (.both (trN 47 [38,38] [x,(R (.level 0) (zB s)).1])) (R (.level 0) (zB s)).2 else(x,s)
 | .level n=>
  if n=8 then R .unary s else R (.levelL n (R (.level (n+1)) s).1) (R (.level (n+1)) s).2
 | .levelL n x=>
  if zCi (zL L s.k)=n then R (.levelL n (trN 46 (zL L s.k).text [x,(R (.level (n+1)) (zB s)).1])) (R (.level (n+1)) (zB s)).2 else(x,s)
 | .unary=>
  let t:=zL L s.k
  if(t.kind=5∨t.kind=6)∧t.text∈zJ4 then(trN 43 t.text [(R .unary (zB s)).1],(R .unary (zB s)).2)
  else if(t.kind=5∨t.kind=6)∧t.text∈zFT then
   let r:=R .unary (zB s)
   (trN 44 t.text [r.1],if r.2.bad=0∧zAf r.1.nd.kind=false then zY L r.2 else r.2)
  else
   let x:=R .calls s
   let o:=zL L x.2.k
   if o.kind=5∧o.text∈zFT∧o.nl=false then(if zAf x.1.nd.kind=false then(x.1,zY L x.2)else(trN 45 o.text [x.1],zB x.2))else x
 | .calls=>R (.callsL (R .head s).1) (R .head s).2
 | .callsL x=>
  if onP L [40] s=true then R (.callsL (trK 50 (x::(R .args s).1.subs))) (R .args s).2
  else if onP L [46] s=true then
   (if(zL L (zB s).k).kind≠1∧(zL L (zB s).k).kind≠6 then(x,zY L (zB s))else R (.callsL (trN 52 (zL L (zB s).k).text [x])) (zB (zB s)))
  else if onP L [91] s=true then R (.callsL (trK 53 [x,(R .assign (zB s)).1])) (zN L [93] (R .assign (zB s)).2)
  else(x,s)
 | .head=>
  if onP L [110,101,119] s=true then
   let x:=R .head (zB s)
   let y:=R (.headL x.1) x.2
   if onP L [40] y.2=true then(trK 51 (y.1::(R .args y.2).1.subs),(R .args y.2).2)else(trK 51 [y.1],y.2)
  else R .primary s
 | .headL x=>
  if onP L [46] s=true then
   (if(zL L (zB s).k).kind≠1∧(zL L (zB s).k).kind≠6 then(x,zY L (zB s))else R (.headL (trN 52 (zL L (zB s).k).text [x])) (zB (zB s)))
  else if onP L [91] s=true then R (.headL (trK 53 [x,(R .assign (zB s)).1])) (zN L [93] (R .assign (zB s)).2)
  else(x,s)
 | .args=>R (.list [41]) (zN L [40] s)
 | .list w=>if onP L w s=true then(trK 0 [],zB s)else R (.listL w []) s
 | .listL w acc=>
  let a:=R .assign s
  if a.2.bad≠0 then(trK 0 (acc++[a.1]),a.2)else if onP L w a.2=true then(trK 0 (acc++[a.1]),zB a.2)else R (.listL w (acc++[a.1])) (zN L [44] a.2)
 | .primary=>
  let t:=zL L s.k
  if t.kind=0 then(trK 0 [],zY L s)
  else if t.kind=2 then(.mk {zBg with kind:=30,nk:=t.nk,nn:=t.nn} [],zB s)
  else if t.kind=3 then(.mk {zBg with kind:=31,mag:=t.mag} [],zB s)
  else if t.kind=4 then(.mk {zBg with kind:=32,str:=t.str} [],zB s)
  else if t.kind=1 then(trN 33 t.text [],zB s)
  else if t.text=[116,114,117,101]then(trK 34 [],zB s)
  else if t.text=[102,97,108,115,101]then(trK 35 [],zB s)
  else if t.text=[110,117,108,108]then(trK 36 [],zB s)
  else if t.text=[116,104,105,115]then(trK 37 [],zB s)
  else if t.text=[91]then(trK 38 (R (.list [93]) (zB s)).1.subs,(R (.list [93]) (zB s)).2)
  else if t.text=[123]then R .object (zB s)
  else if t.text=[102,117,110,99,116,105,111,110]then
   (if(zL L (zB s).k).kind=1 then R (.func 41 (zd L (zB s)).1) (zd L (zB s)).2 else R (.func 41 []) (zB s))
  else if t.text=[40]then((R .assign (zB s)).1,zN L [41] (R .assign (zB s)).2)
  else(trK 0 [],if(onP L [47] s || onP L [47,61] s)=true then zBw L 6 s else zY L s)
 | .object=>if onP L [125] s=true then(trK 39 [],zB s)else R (.objL []) s
 | .objL acc=>
  let a:=R .prop s
  if a.2.bad≠0 then(trK 39 (acc++[a.1]),a.2)else if onP L [125] a.2=true then(trK 39 (acc++[a.1]),zB a.2)else R (.objL (acc++[a.1])) (zN L [44] a.2)
 | .prop=>
  let t:=zL L s.k
  match zAx t with
  | none=>(trK 40 [],zY L s)
  | some u=>
   if t.kind=1∧onP L [58] (zB s)=false then(.mk {zBg with kind:=40,str:=u} [trN 33 t.text []],zB s)
   else(.mk {zBg with kind:=40,str:=u} [(R .assign (zN L [58] (zB s))).1],(R .assign (zN L [58] (zB s))).2)
def zEl (L:List Tok):Nat→Ph→Ps→Tr×Ps
 | 0,_,s=>(trK 0 [],zBw L 99 s)
 | f+1,p,s=>zE L (zEl L f) p s
def ze:Ph→Ps→Nat
 | .program _,_=>60
 | .blockL _,s=>if s.bad≠0 then 0 else 60
 | .item,_=>58
 | .declares,_=>57
 | .declL _ _,_=>56
 | .statement,_=>57
 | .word _,_=>56
 | .func _ _,_=>55
 | .loop,_=>55
 | .jump _,_=>55
 | .tries,_=>55
 | .simple,_=>55
 | .list _,_=>52
 | .object,_=>52
 | .listL _ _,_=>51
 | .objL _,_=>51
 | .block,_=>50
 | .within,_=>50
 | .clause _,_=>50
 | .prop,_=>50
 | .body _,_=>46
 | .assign,_=>45
 | .cond,_=>44
 | .either,_=>43
 | .nullL _,_=>42
 | .orL _,_=>42
 | .both _,_=>42
 | .params,_=>41
 | .paramL _,_=>40
 | .level n,_=>40 - 2*n
 | .levelL n _,_=>39 - 2*n
 | .unary,_=>23
 | .calls,_=>22
 | .head,_=>21
 | .primary,_=>20
 | .callsL _,_=>19
 | .headL _,_=>18
 | .args,_=>10
def zZ (L:List Tok) (p:Ph) (s:Ps):Nat:=(L.length - s.k)*64+ze p s
def zF (L:List Tok) (p:Ph) (s:Ps):Tr×Ps:=zEl L (zZ L p s+1) p s
def zBc (u:List UInt16):List Nd×Nat×Nat:=
 if(zCD u).2.2≠0 then([],(zCD u).2)
 else
  let r:=zF (zCD u).1 (.program []) ⟨0,0,0⟩
  if r.2.bad≠0 then([],(zL (zCD u).1 r.2.far).pos,r.2.bad)
  else if 4096 < r.1.size then([],0,3)
  else if 48 < depT r.1 then([],0,7)
  else(flatT 0 r.1,0,0)
section Zq
open Go.Lib
def dec (l:List UInt8):Nat×Nat:=decodeN l.length (l.getD 0 0).toNat (l.getD 1 0).toNat (l.getD 2 0).toNat (l.getD 3 0).toNat
theorem zI7 (n b0 b1 b2 b3:Nat) (h0:b0 < 256) (hn:0 < n):1≤(decodeN n b0 b1 b2 b3).2∧(decodeN n b0 b1 b2 b3).2≤4∧(decodeN n b0 b1 b2 b3).2≤n∧(decodeN n b0 b1 b2 b3).1≤1114111∧
 ((decodeN n b0 b1 b2 b3).1 < 55296∨57344≤(decodeN n b0 b1 b2 b3).1)∧(65536≤(decodeN n b0 b1 b2 b3).1→(decodeN n b0 b1 b2 b3).2=4):=by
 unfold decodeN
 repeat' split
 all_goals refine⟨?_,?_,?_,?_,?_,?_⟩
 all_goals try simp only
 all_goals first | omega | (intro _;trivial)
theorem zIE {l:List UInt8} (h:0 < l.length):1≤(dec l).2∧(dec l).2≤4∧(dec l).2≤l.length∧(dec l).1≤1114111∧((dec l).1 < 55296∨57344≤(dec l).1)∧(65536≤(dec l).1→(dec l).2=4):=
 zI7 _ _ _ _ _ (UInt8.toNat_lt _) h
def zEO (r:Nat):List UInt16:=if r < 65536 then [UInt16.ofNat r]else [UInt16.ofNat (55296+(r - 65536) / 1024),UInt16.ofNat (56320+(r - 65536) % 1024)]
def zFd (p:Nat×Nat):Bool:=p.1==65533&&decide (p.2≤1)
def zDi:Nat→List UInt8→List UInt16×Option Nat
 | 0,_=>([],none)
 | f+1,b=>
  if b=[]then([],none)else if zFd (dec b)=true then([],some 0)
  else(zEO (dec b).1++(zDi f (b.drop (dec b).2)).1,(zDi f (b.drop (dec b).2)).2.map (·+(dec b).2))
def zBN (b:List UInt8):List UInt16×Option Nat:=zDi b.length b
theorem zHI:∀(f g:Nat) (b:List UInt8),b.length≤f→b.length≤g→zDi f b=zDi g b:=by
 intro f
 induction f with
 | zero=>
  intro g b hf _;have hb:b=[]:=List.eq_nil_of_length_eq_zero (by omega);subst hb;cases g<;>rfl
 | succ f ih=>
  intro g b hf hg;cases g with
  | zero=>
   have hb:b=[]:=List.eq_nil_of_length_eq_zero (by omega);subst hb;rfl
  | succ g=>
   unfold zDi
   by_cases hb:b=[]
   · rw[if_pos hb,if_pos hb]
   · rw[if_neg hb,if_neg hb]
     by_cases hbad:zFd (dec b)=true
     · rw[if_pos hbad,if_pos hbad]
     · rw[if_neg hbad,if_neg hbad];have h1:=zIE (List.length_pos_iff.2 hb);rw[ih g (b.drop (dec b).2) (by rw[List.length_drop];omega) (by rw[List.length_drop];omega)]
theorem zI8:zBN []=([],none):=rfl
theorem zI9 {b:List UInt8} (h:0 < b.length) (hb:zFd (dec b)=true):zBN b=([],some 0):=by
 unfold zBN;obtain⟨n,hn⟩:∃n,b.length=n+1:=⟨b.length - 1,by omega⟩;rw[hn,zDi,if_neg (List.ne_nil_of_length_pos h),if_pos hb]
theorem zHJ {b:List UInt8} (h:0 < b.length) (hb:zFd (dec b)=false):
 zBN b=(zEO (dec b).1++(zBN (b.drop (dec b).2)).1,(zBN (b.drop (dec b).2)).2.map (·+(dec b).2)):=by
 have h1:=zIE h;unfold zBN;obtain⟨n,hn⟩:∃n,b.length=n+1:=⟨b.length - 1,by omega⟩;rw[hn,zDi,if_neg (List.ne_nil_of_length_pos h),if_neg (by rw[hb];simp)];rw[zHI n (b.drop (dec b).2).length (b.drop (dec b).2) (by rw[List.length_drop];omega) (yAC _)]
def zO7 (b:List UInt8):List UInt16:=if 4096 < b.length then []else match (zBN b).2 with | none=>(zBN b).1 | some _=>[]
def uAt (b:List UInt8):Nat:=if 4096 < b.length then 0 else((zBN b).2).getD 0
def zMV (b:List UInt8):Nat:=if 4096 < b.length then 3 else match (zBN b).2 with | none=>0 | some _=>2
end Zq
def zFe (q:List Nd×Nat×Nat):List Nd×Nat×Nat:=if q.2.2=0 then(if(chN q.1).2=0 then(q.1,0,0)else([],(chN q.1).1,(chN q.1).2))else([],q.2.1,q.2.2)
def zBd (b:List UInt8):List Nd×Nat×Nat:=if zMV b=0 then zFe (zBc (zO7 b))else([],uAt b,zMV b)
def zHK (b:List UInt8) (a e:Nat):Bool:=(zBd b).2.1==a&&(zBd b).2.2==e
theorem zRZ:zHK [108,101,116,32,97,44,32,97] 0 5=true:=by decide+kernel
theorem zRa:zHK [97,58,32,119,104,105,108,101,32,40,49,41,32,123,32,98,114,101,97,107,32,97,59,32,125] 0 0=true:=by decide+kernel
theorem zRb:zHK [98,114,101,97,107,32,97] 1 5=true:=by decide+kernel
theorem zRc:zHK [40,120,41,32,61,62,32,123,32,108,101,116,32,120,59,32,125] 4 5=true:=by decide+kernel
theorem zRd:zHK [255] 0 2=true:=by decide+kernel
theorem zDA {b:List UInt8} {a e:Nat} (h:zHK b a e=true):∃ts,zBd b=(ts,a,e):=by
 unfold zHK at h;simp only[Bool.and_eq_true,beq_iff_eq]at h;exact⟨(zBd b).1,by rw[←h.1,←h.2]⟩
def zAo:List Nat→List Nat
 | []=>[]
 | x::r=>if zAo r=[]∧x=0 then []else x::zAo r
theorem zJA (l:List Nat):zAo (l++[0])=zAo l:=by
 induction l with
 | nil=>rfl
 | cons x r ih=>rw[List.cons_append,zAo,zAo,ih]
theorem zJB {x:Nat} (h:x≠0) (l:List Nat):zAo (l++[x])=l++[x]:=by
 induction l with
 | nil=>simp[zAo,h]
 | cons y r ih=>rw[List.cons_append,zAo,ih,if_neg (by simp)]
theorem zFD (l:List Nat):zAo l=l.take (zAo l).length:=by
 induction l with
 | nil=>rfl
 | cons x r ih=>
  by_cases h:zAo r=[]∧x=0
  · simp[zAo,h]
  · rw[zAo,if_neg h,List.length_cons,List.take_succ_cons,←ih]
theorem zKw (l:List Nat):(zAo l).length≤l.length:=by
 have:=congrArg List.length (zFD l);rw[List.length_take]at this;omega
def zDp:List Nat→Nat
 | []=>0
 | x::r=>x+4294967296*zDp r
theorem zNH (l r:List Nat):zDp (l++r)=zDp l+4294967296^l.length*zDp r:=by
 induction l with
 | nil=>simp[zDp]
 | cons x l ih=>
  rw[List.cons_append,zDp,zDp,ih,List.length_cons,Nat.pow_succ,Nat.mul_add,Nat.mul_comm (4294967296^l.length) 4294967296,Nat.mul_assoc];omega
theorem zGG {l:List Nat}:zAo l=[]↔zDp l=0:=by
 induction l with
 | nil=>simp[zAo,zDp]
 | cons x r ih=>
  rw[zAo,zDp]
  by_cases h:zAo r=[]∧x=0
  · rw[if_pos h];have:=ih.1 h.1;simp[this,h.2]
  · rw[if_neg h];constructor
    · intro h2;cases h2
    · intro h2;exact absurd ⟨ih.2 (by omega),by omega⟩ h
theorem zDj:∀(f:Nat) (l:List Nat),l.length≤f→(∀x∈l,x < 4294967296)→zAo l=zAh f (zDp l):=by
 intro f
 induction f with
 | zero=>
  intro l hl _;have:l=[]:=List.eq_nil_of_length_eq_zero (by omega);subst this;rfl
 | succ f ih=>
  intro l hl hx;cases l with
  | nil=>rfl
  | cons x r=>
   have h1:=hx x (by simp);have h2:=ih r (by simp at hl;omega) (fun y hy=>hx y (by simp[hy]));rw[zAh,zAo]
   by_cases h:zAo r=[]∧x=0
   · rw[if_pos h,if_pos (by rw[zDp,zGG.1 h.1,h.2])]
   · have hv:zDp (x::r)≠0:=fun h3=>h (by
      rw[zDp]at h3;exact⟨zGG.2 (by omega),by omega⟩)
     rw[if_neg h,if_neg hv,zDp,h2];congr 1
     · omega
     · congr 1;omega
theorem zKx:∀(k f v:Nat),v < 4294967296^k→(zAh f v).length≤k:=by
 intro k
 induction k with
 | zero=>
  intro f v hv;have:v=0:=by simpa using hv
  subst this;cases f<;>simp[zAh]
 | succ k ih=>
  intro f v hv;cases f with
  | zero=>simp[zAh]
  | succ f=>
   rw[zAh]
   by_cases h:v=0
   · rw[if_pos h];simp
   · rw[if_neg h,List.length_cons];have:=ih f (v / 4294967296) (Nat.div_lt_of_lt_mul (by rw[Nat.pow_succ,Nat.mul_comm]at hv;exact hv));omega
theorem zKy:∀(k f v:Nat),k < f→4294967296^k≤v→k < (zAh f v).length:=by
 intro k
 induction k with
 | zero=>
  intro f v hf hv;obtain⟨f,rfl⟩:∃m,f=m+1:=⟨f - 1,by omega⟩;have hv1:1≤v:=hv;rw[zAh,if_neg (by omega)];simp
 | succ k ih=>
  intro f v hf hv;obtain⟨f,rfl⟩:∃m,f=m+1:=⟨f - 1,by omega⟩;have h1:4294967296^k≤v / 4294967296:=(Nat.le_div_iff_mul_le (by omega)).2 (by rw[←Nat.pow_succ];exact hv);have h2:0 < 4294967296^k:=Nat.pow_pos (by omega);rw[zAh,if_neg (by intro h;subst h;simp at h1),List.length_cons];have:=ih f _ (by omega) h1;omega
theorem zKz:∀(f v:Nat),∀x∈zAh f v,x < 4294967296:=by
 intro f
 induction f with
 | zero=>intro v x hx;simp[zAh]at hx
 | succ f ih=>
  intro v x hx;rw[zAh]at hx;split at hx
  · simp at hx
  · rcases List.mem_cons.1 hx with h | h
    · rw[h];exact Nat.mod_lt _ (by omega)
    · exact ih _ x h
theorem zFE:∀(f v:Nat),v < 4294967296^f→zDp (zAh f v)=v:=by
 intro f
 induction f with
 | zero=>intro v hv;simp at hv;subst hv;rfl
 | succ f ih=>
  intro v hv;rw[zAh]
  by_cases h:v=0
  · rw[if_pos h,h];rfl
  · rw[if_neg h,zDp,ih _ (Nat.div_lt_of_lt_mul (by rw[Nat.pow_succ,Nat.mul_comm]at hv;exact hv))];exact Nat.mod_add_div _ _
def zBe:List Nat→Nat→List Nat×Nat
 | [],c=>([],c)
 | x::r,c=>((c+10*x) % 4294967296::(zBe r ((c+10*x) / 4294967296)).1,(zBe r ((c+10*x) / 4294967296)).2)
theorem zGH:∀(l:List Nat) (c:Nat),(zBe l c).1.length=l.length:=by
 intro l
 induction l with
 | nil=>intro c;rfl
 | cons x r ih=>intro c;simp[zBe,ih]
theorem zNI:∀(l:List Nat) (c:Nat),∀x∈(zBe l c).1,x < 4294967296:=by
 intro l
 induction l with
 | nil=>intro c x hx;simp[zBe]at hx
 | cons y r ih=>
  intro c x hx;rw[zBe]at hx;rcases List.mem_cons.1 hx with h | h
  · rw[h];exact Nat.mod_lt _ (by omega)
  · exact ih _ x h
theorem zK0:∀(l:List Nat) (c:Nat),zDp (zBe l c).1+4294967296^l.length*(zBe l c).2=10*zDp l+c:=by
 intro l
 induction l with
 | nil=>intro c;simp[zBe,zDp]
 | cons x r ih=>
  intro c;have h:=ih ((c+10*x) / 4294967296);have h2:=Nat.mod_add_div (c+10*x) 4294967296;simp only[zBe,zDp,List.length_cons];rw[Nat.pow_succ,Nat.mul_comm (4294967296^r.length) 4294967296,Nat.mul_assoc];omega
theorem zHL:∀(l:List Nat) (c:Nat),c≤9→(∀x∈l,x < 4294967296)→(zBe l c).2≤9:=by
 intro l
 induction l with
 | nil=>intro c hc _;exact hc
 | cons x r ih=>
  intro c hc hx;have:=hx x (by simp);exact ih _ (by omega) (fun y hy=>hx y (by simp[hy]))
theorem zNJ:zEn=4294967296^8:=rfl
theorem zDB {v:Nat} (h:v < zEn):(zAz v).length≤8:=zKx 8 9 v h
theorem zNK {v:Nat} (h:zEn≤v):8 < (zAz v).length:=zKy 8 9 v (by omega) h
theorem zDu (v:Nat):∀x∈zAz v,x < 4294967296:=zKz 9 v
theorem zQs {v:Nat} (h:v < zEn):v < 4294967296^9:=yAA h (by rw[zNJ];exact Nat.pow_le_pow_right (by omega) (by omega))
theorem zJC {v d:Nat} (h:v < zEn) (hd:d≤9):zAo ((zBe (zAz v) d).1++[(zBe (zAz v) d).2])=zAz (10*v+d):=by
 have hc:=zHL (zAz v) d hd (zDu v);have hv:=zK0 (zAz v) d;have h1:zDp (zAz v)=v:=zFE 9 v (zQs h);rw[zDj 9 _ (by rw[List.length_append,zGH];have:=zDB h;simp;omega) (by
  intro x hx;rcases List.mem_append.1 hx with h2 | h2
  · exact zNI _ _ x h2
  · simp at h2;omega)]
 rw[zNH,zGH,show zDp [(zBe (zAz v) d).2]=(zBe (zAz v) d).2 by simp[zDp],hv,h1];rfl
theorem zJD {v:Nat} (h:v < zEn):zAo (zAz v)=zAz v:=by
 rw[zDj 9 _ (by have:=zDB h;omega) (zDu v),show zDp (zAz v)=v from zFE 9 v (zQs h)];rfl
open Go.RowKit
def zBm (l:List Nat):List Value:=l.map fun n:Nat=>Value.int .u32 (n:Int)
theorem zNL {l:List Nat} {j:Nat} (h:j < l.length):(zBm l)[j]? =some (.int .u32 (l[j]:Int)):=by
 simp[zBm,yAB h]
theorem zK1 (l:List Nat) (k:Nat):(zBm l).take k=zBm (l.take k):=by simp[zBm]
theorem zDv (l r:List Nat):zBm l++zBm r=zBm (l++r):=by simp[zBm]
theorem zNM {w:World} {base:Nat} {e:TypeId} {A:Option Addr} {n c j:Nat} {xs:List Value} (h:w.ownsRow base e 1 (.slice A n c) n xs) (hj:j≤n):w.ownsRow base e 1 (.slice A j c) j (xs.take j):=by
 refine⟨by rw[List.length_take,h.1];omega,?_⟩;rcases h.2 with⟨h1,h2⟩ | ⟨g,cap,cur,h1,hb,hg,hn,hc,hs,ht⟩
 · left;injection h1 with h3 h4 h5;subst h2;obtain rfl:j=0:=by omega
   exact⟨by rw[h3,h5],rfl⟩
 · right;injection h1 with h3 h4 h5;subst h3 h5;refine⟨g,c,cur,rfl,hb,hg,by omega,hc,hs,?_⟩;rw[←ht,List.take_take];congr 1;omega
theorem Reads.spotV {w:World} {B n:Nat} {A:Option Addr} {xs:List Value} (h:Reads w B 1 A n xs) (h0:0 < n):
 ∃b off,A=some ⟨b,off,none⟩∧b < B∧∀j u,xs[j]? =some u→w.cell? ⟨b,off+j,none⟩=some u:=by
 obtain⟨ad,u,e,hb,hx,hc⟩:=h.at_ h0;have hs:ad.spot=none:=by
  cases hsp:ad.spot with
  | none=>rfl
  | some s=>
   exfalso;rw[Addr.add_zero]at hc;simp only[World.cell?,hsp]at hc;split at hc
   · simp at hc
   · cases hc
 obtain⟨b,off,sp⟩:=ad;simp only at hs;subst hs;refine⟨b,off,e,hb,fun j v hv=>?_⟩;have hj:j < n:=by
  have:=(List.getElem?_eq_some_iff.1 hv).1;have h1:=h.1;omega
 obtain⟨ad',u',e',_,hx',h1⟩:=h.at_ hj;rw[e]at e';injection e' with e';subst e';rw[Addr.add_lit]at h1;rw[h1,←hx',hv]
theorem zDw {A:Option Addr} {c B n m:Nat} {xs:List Nat} {w:World} (hn:xs.length=n) (ha:Reads w B 1 A n (zBm xs)) (hl:n≤4096) (hc:n≤c) (hc2:c≤maxLen) (hm:(zAo xs).length=m):
 Calls prog 168 #[.slice A n c] w fun e w'=>e=.returned (.slice A m c)∧w=w':=by
 have HA:=zA ha;have HM:=zA hm;have HN:=zA hn;unfold maxLen at hc2;clear ha hm hn;go_enter func168,ntmps168;go_wp2
 go_loop [0] (fun v=>∃j:Nat,v=.slice A j c∧j≤n∧Hid (zAo (xs.take j)=zAo xs)) (fun v=>match v with | .slice _ j _=>j | _=>0)
 case atStart=>exact⟨n,rfl,yAC _,zA (by rw[←HN.out,List.take_length])⟩
 case round=>
  obtain⟨j,rfl,hj,hT⟩:=hrel;cases j with
  | zero=>
   have hz:=zA (show m=0 by
    have:=hT.out;rw[List.take_zero]at this;rw[←HM.out,←this];rfl)
   go_wp2;go_ret;obtain rfl:=hz.out;exact⟨rfl,rfl⟩
  | succ i=>
   have hx:=HN.out;obtain⟨b,off,rfl,hbB,hcell⟩:=HA.out.spotV (by omega);have hi:i < xs.length:=by omega
   have hca:=hcell i _ (zNL hi);have hsn:=zA (show xs.take (i+1)=xs.take i++[xs[i]]from yAK hi);obtain⟨x,hxx⟩:∃x,xs[i]=x:=⟨_,rfl⟩;rw[hxx]at hca hsn;clear hcell hxx hx
   by_cases h0:x=0
   · have e1:((x:Int)==0)=true:=by rw[h0];rfl
     have hz:=zA (show zAo (xs.take i)=zAo xs by rw[←hT.out,hsn.out,h0,zJA]);clear h0;go_wp2;go_round
     case rel=>exact⟨i,rfl,by omega,hz.out⟩
     case measure=>simp
   · have e1:((x:Int)==0)=false:=yA.2 (by omega);have hz:=zA (show m=i+1 by
      rw[←HM.out,←hT.out,hsn.out,zJB h0,List.length_append,List.length_take];simp;omega)
     clear h0;go_wp2;go_ret;obtain rfl:=hz.out;exact⟨rfl,rfl⟩
end Go.Proofs.YtlohaclgbfhijaaGreatDoor
