/- Joined for the claim ParseGood: the parser, the lexer and the trees as they are walked, made short by a program of mine. -/
import Derived.Test.YtlnbbaehihgigaaGreatDoorG09
import Derived.Test.YtlnbbaehihgigaaGreatDoorG14
import Derived.Test.YtlnbbaehihgigaaGreatDoorG01
import Derived.Deep.RegionHeld3
import Derived.Deep.DeepCutAuto
import Derived.Deep.CutBlock
import Derived.Test.YtlnbbaehihgigaaGreatDoorG10
set_option maxHeartbeats 16000000
set_option maxRecDepth 1000000
namespace Go.Proofs.YtlnbbaehihgigaaGreatDoor
open Go.Proofs.Tryz
variable {w:World} {A m:Option Addr} {b:List Tr} {c n B c2 d:Nat} {u:List UInt16} {x:Tr} {ts:List Nd} {k:Int}
set_option linter.unusedSimpArgs false
set_option linter.unusedVariables false
def cS (p:Ph) (s:Ps):Nat:=match p with
 | .program acc=>1+sizes acc
 | .blockL acc=>if s.bad≠0 then 1+sizes acc else 3+sizes acc
 | .item=>2
 | .declares=>2
 | .declL _ acc=>2+sizes acc
 | .func _ _=>3
 | .params=>2
 | .paramL acc=>2+sizes acc
 | .statement=>2
 | .simple=>2
 | .word _=>2
 | .loop=>2
 | .jump _=>2
 | .tries=>2
 | .body l=>2+sizes l
 | .nullL x=>x.size
 | .orL x=>x.size
 | .both x=>x.size
 | .levelL _ x=>x.size
 | .callsL x=>x.size
 | .headL x=>x.size
 | .args=>2
 | .list _=>2
 | .listL _ acc=>2+sizes acc
 | .object=>2
 | .objL acc=>2+sizes acc
 | _=>1
def dS (p:Ph):Option Nat:=match p with
 | .block=>some 4
 | .item=>some 0
 | .declares=>some 2
 | .params=>some 6
 | .statement=>some 2
 | .simple=>some 2
 | .word _=>some 2
 | .loop=>some 2
 | .jump _=>some 2
 | .tries=>some 2
 | .args=>some 0
 | .prop=>some 1
 | .assign=>some 4
 | .cond=>some 4
 | .either=>some 4
 | .level _=>some 4
 | .unary=>some 4
 | .calls=>some 4
 | .head=>some 4
 | .primary=>some 4
 | _=>none
def Z (s:Ps) (c:Nat) (d:Option Nat) (r:Tr×Ps):Prop:=r.1.size+16*s.k≤16*r.2.k+c∧∀e,d=some e→s.k < r.2.k→r.1.size+e+16*s.k≤16*r.2.k
theorem zAL {s:Ps} {d:Option Nat} {q:Prop} [Decidable q] {a b:Tr×Ps} (h1:q→Z s c d a) (e:¬q→Z s c d b):Z s c d (if q then a else b):=by
 by_cases h:q
 · rw[if_pos h];exact h1 h
 · rw[if_neg h];exact e h
theorem zAQ (s:Ps):(zB s).k=s.k+1:=rfl
theorem zAU (k:Int) (l:List Tr):(trK k l).size=1+sizes l:=zi _ _
theorem zAV (k:Int) (n:List UInt8) (l:List Tr):(trN k n l).size=1+sizes l:=zi _ _
theorem zEE (t:Tr):t.size=1+sizes t.subs:=by cases t with | mk x l=>exact zi x l
structure Kz (L:List Tok) (R:Ph→Ps→Tr×Ps):Prop where
 post:∀q s,Pre L q s→Post L q s (R q s).2
 z:∀q s,Pre L q s→Z s (cS q s) (dS q) (R q s)
section
variable {L:List Tok} {R:Ph→Ps→Tr×Ps} {s:Ps} {q:Ph}
theorem Kz.e (K:Kz L R) (b:Pre L q s) (g:zZw q=true) (j:cS q s=c) (l:dS q=some d):s.k≤(R q s).2.k∧(R q s).2.k≤L.length - 1∧(s.k < L.length - 1→s.k < (R q s).2.k)∧(s.k=L.length - 1→(R q s).2.bad≠0)∧(R q s).1.size+16*s.k≤16*(R q s).2.k+c∧(s.k < (R q s).2.k→(R q s).1.size+d+16*s.k≤16*(R q s).2.k):=by
 have h1:=K.post q s b;unfold Post at h1;rw[if_pos g]at h1;have f:=K.z q s b;exact⟨h1.adv.le,h1.adv.hi,h1.more,h1.stop,j▸f.1,f.2 d l⟩
theorem Kz.a (K:Kz L R) (b:Pre L q s) (d:cS q s=c):s.k≤(R q s).2.k∧(R q s).2.k≤L.length - 1∧(R q s).1.size+16*s.k≤16*(R q s).2.k+c:=by
 have h1:=(K.post q s b).adv;exact⟨h1.le,h1.hi,d▸(K.z q s b).1⟩
theorem zBs (b:Lst L) {w:List UInt8} (h:s.k≤L.length - 1):s.k≤(zL L w s).k∧(zL L w s).k≤L.length - 1∧(s.k < L.length - 1→s.k < (zL L w s).k):=⟨(zR b h).adv.le,(zR b h).adv.hi,(zR b h).more⟩
theorem zIA (b:Lst L) (h:s.k≤L.length - 1):s.k≤(zc L s).2.k∧(zc L s).2.k≤L.length - 1∧(s.k < L.length - 1→s.k < (zc L s).2.k)∧(s.k=L.length - 1→(zc L s).2.bad≠0):=⟨(zAi b h).adv.le,(zAi b h).adv.hi,(zAi b h).more,(zAi b h).stop⟩
theorem zHJ (b:Lst L) (h:s.k≤L.length - 1):s.k≤(zEY L s).k∧(zEY L s).k≤L.length - 1:=⟨(zBV b h).le,(zBV b h).hi⟩
theorem zRY (f:Lst L) (K:Kz L R) (g:Pre L (.program b) s):Z s (cS (.program b) s) (dS (.program b)) (zD L R (.program b) s):=by
 have hs:=g.1;unfold zD cS dS;dsimp only;refine zAL (fun h=>?_) (fun h=>?_);rotate_left;have l:=f.lt hs h;obtain⟨a1,j,c1,d1,e1,f1⟩:=K.e (q:=.item) (s:=s) ⟨hs,trivial⟩ rfl (c:=2) (d:=0) rfl rfl;obtain⟨a2,m,e2⟩:=K.a (q:=.program (b++[(R .item s).1])) (s:=(R .item s).2) ⟨j,trivial⟩ (c:=1+sizes (b++[(R .item s).1])) (rfl);rotate_left
 all_goals
  (refine⟨?_,fun e k hk=>by cases k⟩<;>(try simp only[zAU,zAV,zi,zH,zN,zg,zAQ]at *)<;>omega)
theorem zUr {w:List UInt8}:(zL L w s).bad≠0∨s.k < (zL L w s).k:=by
 unfold zL;split
 · right;exact yAF _
 · left;exact zAp
theorem zXQ (f:Lst L) (K:Kz L R) (g:Pre L (.block) s):Z s (cS (.block) s) (dS (.block)) (zD L R (.block) s):=by
 have hs:=g.1;unfold zD cS dS;dsimp only;obtain⟨a1,j,c1⟩:=zBs (s:=s) (w:=[123]) f (hs);have c:=zUr (w:=[123]) (L:=L) (s:=s);obtain⟨p1,p2,p3⟩:=K.a (q:=.blockL []) (s:=zL L [123] s) ⟨j,trivial⟩ rfl;unfold cS at p3;dsimp only at p3;refine⟨?_,fun e b hk=>?_⟩
 · rcases c with h | h
   · rw[if_pos h]at p3;simp only[zN]at p3;omega
   · have:(if(zL L [123] s).bad≠0 then 1+sizes []else 3+sizes [])≤3:=by split<;>simp only[zN]<;>omega
     omega
 · injection b with b;subst b;have:(if(zL L [123] s).bad≠0 then 1+sizes []else 3+sizes [])≤3:=by split<;>simp only[zN]<;>omega
   rcases Nat.lt_or_ge s.k (L.length - 1)with d | d
   · have:=c1 d;omega
   · omega
theorem zUs (l:Lst L) (K:Kz L R) (m:Pre L (.blockL b) s):Z s (cS (.blockL b) s) (dS (.blockL b)) (zD L R (.blockL b) s):=by
 have hs:=m.1;unfold zD cS dS;dsimp only;refine zAL (fun h=>?_) (fun h=>?_)
 · rw[if_pos h]
   (refine⟨?_,fun e f hk=>by cases f⟩<;>(try simp only[zAU,zAV,zi,zH,zN,zg,zAQ]at *)<;>omega)
 · rw[if_neg h];refine zAL (fun g=>?_) (fun g=>?_)
   · have p:=l.on hs g
     (refine⟨?_,fun e f hk=>by cases f⟩<;>(try simp only[zAU,zAV,zi,zH,zN,zg,zAQ]at *)<;>omega)
   · obtain⟨a1,o,c1,d1,e1,f1⟩:=K.e (q:=.item) (s:=s) ⟨hs,trivial⟩ rfl (c:=2) (d:=0) rfl rfl;obtain⟨p1,p2,p3⟩:=K.a (q:=.blockL (b++[(R .item s).1])) (s:=(R .item s).2) ⟨o,trivial⟩ rfl;unfold cS at p3;dsimp only at p3;refine⟨?_,fun e f hk=>by cases f⟩;rcases Nat.lt_or_ge s.k (L.length - 1)with j | j
     · have:=f1 (c1 j)
       by_cases h6:(R .item s).2.bad≠0
       · rw[if_pos h6]at p3;simp only[zg,zH,zN]at p3;omega
       · rw[if_neg h6]at p3;simp only[zg,zH,zN]at p3;omega
     · rw[if_pos (d1 jo)]at p3;simp only[zg,zH,zN]at p3;omega
theorem zYF (b:Lst L) (K:Kz L R) (m:Pre L (.item) s):Z s (cS (.item) s) (dS (.item)) (zD L R (.item) s):=by
 have hs:=m.1;unfold zD cS dS;dsimp only;refine zAL (fun h=>?_) (fun h=>?_);obtain⟨a1,o,c1,d1,e1,f1⟩:=K.e (q:=.declares) (s:=s) ⟨hs,trivial⟩ rfl (c:=2) (d:=2) rfl rfl;obtain⟨a2,t⟩:=zHJ (s:=(R .declares s).2) b (o);have f:s.k < L.length - 1:=by
  rcases Bool.or_eq_true _ _ |>.mp h with h | h
  · exact b.on hs h
  · exact b.on hs h
 have g1:=c1 f;have g2:=f1 g1;clear c1 f1 d1;rotate_left;refine zAL (fun l=>?_) (fun l=>?_);have f:=b.on hs l;obtain⟨a3,p,c3,d3⟩:=zIA (s:=zB s) b ((by show s.k+1≤_;omega));obtain⟨a4,u,e4⟩:=K.a (q:=.func 19 (zc L (zB s)).1) (s:=(zc L (zB s)).2) ⟨p,trivial⟩ (c:=3) (rfl);rotate_left;obtain⟨a5,v,c5,d5,e5,r⟩:=K.e (q:=.statement) (s:=s) ⟨hs,trivial⟩ rfl (c:=2) (d:=2) rfl rfl;have g:=r;rotate_left
 all_goals
  (refine⟨?_,fun e j hk=>?_⟩<;>(try (injection j with j;subst j))<;>(try simp only[zAU,zAV,zi,zH,zN,zg,zAQ]at *)<;>omega)
theorem zN7 (d:Lst L) (K:Kz L R) (g:Pre L (.declares) s):Z s (cS (.declares) s) (dS (.declares)) (zD L R (.declares) s):=by
 have hs:=g.1;unfold zD cS dS;dsimp only;refine zAL (fun h=>?_) (fun h=>?_)
 · have l:=d.on hs h;obtain⟨a1,m,e1⟩:=K.a (q:=.declL 6 []) (s:=zB s) ⟨(by show s.k+1≤_;omega),trivial⟩ (c:=2+sizes []) (rfl)
   (refine⟨?_,fun e b hk=>?_⟩<;>(try (injection b with b;subst b))<;>(try simp only[zAU,zAV,zi,zH,zN,zg,zAQ]at *)<;>omega)
 · obtain⟨a2,j,c2⟩:=zBs (s:=s) (w:=[108,101,116]) d (hs);obtain⟨a3,o,e3⟩:=K.a (q:=.declL 5 []) (s:=zL L [108,101,116] s) ⟨j,trivial⟩ (c:=2+sizes []) (rfl);refine⟨?_,fun e b hk=>?_⟩
   · simp only[zN]at e3;omega
   · injection b with b;subst b;simp only[zN]at e3;rcases Nat.lt_or_ge s.k (L.length - 1)with f | f
     · have:=c2 f;omega
     · omega
theorem zXR (f:Lst L) (K:Kz L R) (p:Pre L (.declL k b) s):Z s (cS (.declL k b) s) (dS (.declL k b)) (zD L R (.declL k b) s):=by
 have hs:=p.1;unfold zD cS dS;dsimp only;obtain⟨a1,g,c1,d1⟩:=zIA (s:=s) f (hs)
 try simp only[zAQ]at a1 g c1 d1
 obtain⟨d,j⟩:=jx ((if onP L [61] (zc L s).2=true then(trN 7 (zc L s).1 [(R .assign (zB (zc L s).2)).1],(R .assign (zB (zc L s).2)).2)else(trN 7 (zc L s).1 [],(zc L s).2):Tr×Ps));have r:(zc L s).2.k≤d.2.k∧d.2.k≤L.length - 1∧d.1.size+16*(zc L s).2.k≤16*d.2.k+1∧(s.k=L.length - 1→d.2.bad≠0):=by
  rw[←j];split
  · rename_i c
    have l:=f.on g c;obtain⟨a2,m,c2,d2,e2,t⟩:=K.e (q:=.assign) (s:=zB (zc L s).2) ⟨by show(zc L s).2.k+1≤_;omega,trivial⟩ rfl (c:=1) (d:=4) rfl rfl
    try simp only[zAQ]at a2 m c2 d2 e2 t
    dsimp only;refine⟨by omega,m,by simp only[zAV,zH,zN];omega,fun h=>by omega⟩
  · exact⟨yAC _,g,by simp only[zAV,zN];omega,d1⟩
 rw[j];clear j;obtain⟨q1,q2,q3,q4⟩:=r;refine zAL (fun h=>?_) (fun h=>?_);rotate_left;refine zAL (fun o=>?_) (fun o=>?_);have l:=f.on q2 o;obtain⟨a3,u,e3⟩:=K.a (q:=.declL k (b++[d.1])) (s:=zB d.2) ⟨by show d.2.k+1≤_;omega,trivial⟩ (c:=2+sizes (b++[d.1])) (rfl)
 try simp only[zAQ]at a3 u e3
 rotate_left;rotate_left
 all_goals
  (refine⟨?_,fun e v hk=>by cases v⟩<;>(try simp only[zAU,zAV,zi,zH,zN,zg,zAQ]at *)<;>omega)
theorem zYG (j:Lst L) (K:Kz L R) {m:List UInt8} (b:Pre L (.func k m) s):Z s (cS (.func k m) s) (dS (.func k m)) (zD L R (.func k m) s):=by
 have hs:=b.1;unfold zD cS dS;dsimp only;obtain⟨a1,f,c1,d1,e1,f1⟩:=K.e (q:=.params) (s:=s) ⟨hs,trivial⟩ rfl (c:=2) (d:=6) rfl rfl;obtain⟨a2,l,c2,d2,e2,o⟩:=K.e (q:=.block) (s:=(R .params s).2) ⟨f,trivial⟩ rfl (c:=1) (d:=4) rfl rfl;have p:=zEE (R .params s).1
 (refine⟨?_,fun e g hk=>by cases g⟩<;>(try simp only[zAU,zAV,zi,zH,zN,zg,zAQ]at *)<;>omega)
theorem zUt (d:Lst L) (K:Kz L R) (g:Pre L (.params) s):Z s (cS (.params) s) (dS (.params)) (zD L R (.params) s):=by
 have hs:=g.1;unfold zD cS dS;dsimp only;obtain⟨a1,f,c1⟩:=zBs (s:=s) (w:=[40]) d (hs);refine zAL (fun h=>?_) (fun h=>?_);have j:=d.on f h;rotate_left;obtain⟨a2,k,e2⟩:=K.a (q:=.paramL []) (s:=zL L [40] s) ⟨f,trivial⟩ (c:=2+sizes []) (rfl);simp only[zN]at e2;rotate_left
 all_goals
  (refine⟨?_,fun e b hk=>?_⟩<;>(try (injection b with b;subst b))<;>(try simp only[zAU,zAV,zi,zH,zN,zg,zAQ]at *)<;>omega)
theorem zUu (d:Lst L) (K:Kz L R) (m:Pre L (.paramL b) s):Z s (cS (.paramL b) s) (dS (.paramL b)) (zD L R (.paramL b) s):=by
 have hs:=m.1;unfold zD cS dS;dsimp only;obtain⟨a1,f,c1,d1⟩:=zIA (s:=s) d (hs);refine zAL (fun h=>?_) (fun h=>?_);rotate_left;refine zAL (fun g=>?_) (fun g=>?_);have j:=d.on f g;rotate_left;obtain⟨a2,o,c2⟩:=zBs (s:=(zc L s).2) (w:=[44]) d (f);obtain⟨a3,r,e3⟩:=K.a (q:=.paramL (b++[trN 20 (zc L s).1 []])) (s:=zL L [44] (zc L s).2) ⟨o,trivial⟩ (c:=2+sizes (b++[trN 20 (zc L s).1 []])) (rfl);have j:s.k < L.length - 1:=by
  rcases Nat.lt_or_ge s.k (L.length - 1)with l | l
  · exact l
  · exact absurd (d1 jo) h
 rotate_left
 all_goals
  (refine⟨?_,fun e p hk=>by cases p⟩<;>(try simp only[zAU,zAV,zi,zH,zN,zg,zAQ]at *)<;>omega)
theorem zLN (b:Lst L) (K:Kz L R) (m:Pre L (.statement) s):Z s (cS (.statement) s) (dS (.statement)) (zD L R (.statement) s):=by
 have hs:=m.1;unfold zD cS dS;dsimp only;refine zAL (fun h=>?_) (fun h=>?_);have f:=b.lt hs (by rw[h.1];decide);have o:=zIK b f h.2;obtain⟨a1,r,c1,d1,e1,f1⟩:=K.e (q:=.statement) (s:=zB (zB s)) ⟨by show s.k+1+1≤_;omega,trivial⟩ rfl (c:=2) (d:=2) rfl rfl;rotate_left;refine zAL (fun j=>?_) (fun j=>?_);obtain⟨a2,t,c2,d2,e2,u⟩:=K.e (q:=.word (zG L s.k).text) (s:=s) ⟨hs,b.lt hs (by rw[j];decide)⟩ rfl (c:=2) (d:=2) rfl rfl;rotate_left;refine zAL (fun l=>?_) (fun l=>?_);have f:=b.on hs l;rotate_left;refine zAL (fun p=>?_) (fun p=>?_);obtain⟨a3,v,c3,d3,e3,y⟩:=K.e (q:=.block) (s:=s) ⟨hs,trivial⟩ rfl (c:=1) (d:=4) rfl rfl;rotate_left;obtain⟨a4,z,c4,d4,e4,f4⟩:=K.e (q:=.simple) (s:=s) ⟨hs,trivial⟩ rfl (c:=2) (d:=2) rfl rfl;rotate_left
 all_goals
  (refine⟨?_,fun e g hk=>?_⟩<;>(try (injection g with g;subst g))<;>(try simp only[zAU,zAV,zi,zH,zN,zg,zAQ]at *)<;>omega)
theorem zUv (f:Lst L) (K:Kz L R) (g:Pre L (.simple) s):Z s (cS (.simple) s) (dS (.simple)) (zD L R (.simple) s):=by
 have hs:=g.1;unfold zD cS dS;dsimp only;obtain⟨a1,j,c1,d1,e1,f1⟩:=K.e (q:=.assign) (s:=s) ⟨hs,trivial⟩ rfl (c:=1) (d:=4) rfl rfl;obtain⟨a2,k⟩:=zHJ (s:=(R .assign s).2) f (j)
 (refine⟨?_,fun e b hk=>?_⟩<;>(try (injection b with b;subst b))<;>(try simp only[zAU,zAV,zi,zH,zN,zg,zAQ]at *)<;>omega)
theorem zYH (g:Lst L) (K:Kz L R) {w:List UInt8} (l:Pre L (.word w) s):Z s (cS (.word w) s) (dS (.word w)) (zD L R (.word w) s):=by
 have hs:=l.1;unfold zD cS dS;dsimp only;have b:s.k < L.length - 1:=l.2;have F:(za L s).k=L.length - 1:=rfl;refine zAL (fun h1=>?_) (fun h1=>?_);obtain⟨a1,r,e1⟩:=K.a (q:=.within) (s:=zB s) ⟨by show s.k+1≤_;omega,trivial⟩ (c:=1) (rfl);obtain⟨a2,t,c2,d2,e2,f2⟩:=K.e (q:=.statement) (s:=(R .within (zB s)).2) ⟨r,trivial⟩ rfl (c:=2) (d:=2) rfl rfl;refine zAL (fun h=>?_) (fun h=>?_);have u:=g.on t h;obtain⟨a3,b3,c3,d3,e3,f3⟩:=K.e (q:=.statement) (s:=zB (R .statement (R .within (zB s)).2).2) ⟨by show(R .statement (R .within (zB s)).2).2.k+1≤_;omega,trivial⟩ rfl (c:=2) (d:=2) rfl rfl;rotate_left;rotate_left;refine zAL (fun v=>?_) (fun v=>?_);obtain⟨a4,y,e4⟩:=K.a (q:=.within) (s:=zB s) ⟨by show s.k+1≤_;omega,trivial⟩ (c:=1) (rfl);obtain⟨a5,b5,c5,d5,e5,f5⟩:=K.e (q:=.statement) (s:=(R .within (zB s)).2) ⟨y,trivial⟩ rfl (c:=2) (d:=2) rfl rfl;rotate_left;refine zAL (fun z=>?_) (fun z=>?_);obtain⟨a6,b6,c6,d6,e6,f6⟩:=K.e (q:=.loop) (s:=s) ⟨hs,b⟩ rfl (c:=2) (d:=2) rfl rfl;rotate_left;refine zAL (fun A=>?_) (fun A=>?_);obtain⟨a7,b7,c7,d7,e7,f7⟩:=K.e (q:=.jump 12) (s:=s) ⟨hs,b⟩ rfl (c:=2) (d:=2) rfl rfl;rotate_left;refine zAL (fun B=>?_) (fun B=>?_);obtain⟨a8,b8,c8,d8,e8,f8⟩:=K.e (q:=.jump 13) (s:=s) ⟨hs,b⟩ rfl (c:=2) (d:=2) rfl rfl;rotate_left;refine zAL (fun h6=>?_) (fun h6=>?_);refine zAL (fun h=>?_) (fun h=>?_);obtain⟨a9,b9⟩:=zHJ (s:=zB s) g (by show s.k+1≤_;omega);rotate_left;obtain⟨G,m,H,I,J,M⟩:=K.e (q:=.assign) (s:=zB s) ⟨by show s.k+1≤_;omega,trivial⟩ rfl (c:=1) (d:=4) rfl rfl;obtain⟨N,O⟩:=zHJ (s:=(R .assign (zB s)).2) g (m);rotate_left;refine zAL (fun C=>?_) (fun C=>?_);obtain⟨s1,f⟩:=jx ((if(zG L (zB s).k).nl=true then za L (zB s)else zB s:Ps));have o:s.k+1≤s1.k∧s1.k≤L.length - 1:=by
  rw[←f];split
  · exact⟨by show s.k+1≤L.length - 1;omega,yAC _⟩
  · exact⟨yAC _,by show s.k+1≤_;omega⟩
 rw[f];clear f;obtain⟨P,p,Q,S,T,U⟩:=K.e (q:=.assign) (s:=s1) ⟨o.2,trivial⟩ rfl (c:=1) (d:=4) rfl rfl;obtain⟨V,W⟩:=zHJ (s:=(R .assign s1).2) g (p);rotate_left;refine zAL (fun D=>?_) (fun D=>?_);obtain⟨X,Y,a0,b0,c0,c1⟩:=K.e (q:=.tries) (s:=s) ⟨hs,b⟩ rfl (c:=2) (d:=2) rfl rfl;rotate_left;refine zAL (fun E=>?_) (fun E=>?_);rotate_left;obtain⟨c4,c9,d0,d1,d4,d9⟩:=K.e (q:=.simple) (s:=s) ⟨hs,trivial⟩ rfl (c:=2) (d:=2) rfl rfl;rotate_left
 all_goals
  (refine⟨?_,fun e j hk=>?_⟩<;>(try (injection j with j;subst j))<;>(try simp only[zAU,zAV,zi,zH,zN,zg,zAQ]at *)<;>omega)
theorem zUw (b:Lst L) (K:Kz L R) (f:Pre L (.within) s):Z s (cS (.within) s) (dS (.within)) (zD L R (.within) s):=by
 have hs:=f.1;unfold zD cS dS;dsimp only;obtain⟨a1,g,c1⟩:=zBs (s:=s) (w:=[40]) b (hs);obtain⟨a2,j,c2,d2,e2,l⟩:=K.e (q:=.assign) (s:=zL L [40] s) ⟨g,trivial⟩ rfl (c:=1) (d:=4) rfl rfl;obtain⟨a3,m,c3⟩:=zBs (s:=(R .assign (zL L [40] s)).2) (w:=[41]) b (j)
 (refine⟨?_,fun e k hk=>by cases k⟩<;>(try simp only[zAU,zAV,zi,zH,zN,zg,zAQ]at *)<;>omega)
theorem zUx (b:Lst L) (K:Kz L R) {w:List UInt8} (f:Pre L (.clause w) s):Z s (cS (.clause w) s) (dS (.clause w)) (zD L R (.clause w) s):=by
 have hs:=f.1;unfold zD cS dS;dsimp only;refine zAL (fun h=>?_) (fun h=>?_);obtain⟨a1,k,c1⟩:=zBs (s:=s) (w:=w) b (hs);rotate_left;obtain⟨a2,g,c2,d2,e2,l⟩:=K.e (q:=.assign) (s:=s) ⟨hs,trivial⟩ rfl (c:=1) (d:=4) rfl rfl;obtain⟨a3,m,c3⟩:=zBs (s:=(R .assign s).2) (w:=w) b (g);rotate_left
 all_goals
  (refine⟨?_,fun e j hk=>by cases j⟩<;>(try simp only[zAU,zAV,zi,zH,zN,zg,zAQ]at *)<;>omega)
theorem zYI (g:Lst L) (K:Kz L R) (j:Pre L (.loop) s):Z s (cS (.loop) s) (dS (.loop)) (zD L R (.loop) s):=by
 have hs:=j.1;unfold zD cS dS;dsimp only;have t:s.k < L.length - 1:=j.2;obtain⟨a1,l,c1⟩:=zBs (s:=zB s) (w:=[40]) g (by show s.k+1≤_;omega);obtain⟨a,b⟩:=jx ((if(onP L [108,101,116] (zL L [40] (zB s)) || onP L [99,111,110,115,116] (zL L [40] (zB s)))=true then((R .declares (zL L [40] (zB s))).1,zL L [59] (R .declares (zL L [40] (zB s))).2)else R (.clause [59]) (zL L [40] (zB s)):Tr×Ps));have m:(zL L [40] (zB s)).k≤a.2.k∧a.2.k≤L.length - 1∧a.1.size+16*(zL L [40] (zB s)).k≤16*a.2.k+2:=by
  rw[←b];split
  · obtain⟨a2,o,c2,d2,e2,u⟩:=K.e (q:=.declares) (s:=zL L [40] (zB s)) ⟨l,trivial⟩ rfl (c:=2) (d:=2) rfl rfl;obtain⟨a3,v,c3⟩:=zBs (s:=(R .declares (zL L [40] (zB s))).2) (w:=[59]) g (o);dsimp only;exact⟨by omega,by omega,by omega⟩
  · obtain⟨a4,y,e4⟩:=K.a (q:=.clause [59]) (s:=zL L [40] (zB s)) ⟨l,trivial⟩ (c:=1) (rfl);exact⟨by omega,by omega,by omega⟩
 rw[b];clear b;obtain⟨q1,q2,q3⟩:=m;obtain⟨a5,p,e5⟩:=K.a (q:=.clause [59]) (s:=a.2) ⟨q2,trivial⟩ (c:=1) (rfl);obtain⟨a6,r,e6⟩:=K.a (q:=.clause [41]) (s:=(R (.clause [59]) a.2).2) ⟨p,trivial⟩ (c:=1) (rfl);obtain⟨a7,z,c7,d7,e7,A⟩:=K.e (q:=.statement) (s:=(R (.clause [41]) (R (.clause [59]) a.2).2).2) ⟨r,trivial⟩ rfl (c:=2) (d:=2) rfl rfl
 (refine⟨?_,fun e f hk=>?_⟩<;>(try (injection f with f;subst f))<;>(try simp only[zAU,zAV,zi,zH,zN,zg,zAQ]at *)<;>omega)
theorem zYJ (b:Lst L) (K:Kz L R) (d:Pre L (.jump k) s):Z s (cS (.jump k) s) (dS (.jump k)) (zD L R (.jump k) s):=by
 have hs:=d.1;unfold zD cS dS;dsimp only;have g:s.k < L.length - 1:=d.2;refine zAL (fun h=>?_) (fun h=>?_);obtain⟨a1,f,c1,d1⟩:=zIA (s:=zB s) b (by show s.k+1≤_;omega);obtain⟨a2,j⟩:=zHJ (s:=(zc L (zB s)).2) b (f);rotate_left;obtain⟨a3,l⟩:=zHJ (s:=zB s) b (by show s.k+1≤_;omega);rotate_left
 all_goals
  (refine⟨?_,fun e c hk=>?_⟩<;>(try (injection c with c;subst c))<;>(try simp only[zAU,zAV,zi,zH,zN,zg,zAQ]at *)<;>omega)
theorem zXS (f:Lst L) (K:Kz L R) (m:Pre L (.tries) s):Z s (cS (.tries) s) (dS (.tries)) (zD L R (.tries) s):=by
 have hs:=m.1;unfold zD cS dS;dsimp only;have y:s.k < L.length - 1:=m.2;obtain⟨a1,o,c1,d1,e1,f1⟩:=K.e (q:=.block) (s:=zB s) ⟨by show s.k+1≤_;omega,trivial⟩ rfl (c:=1) (d:=4) rfl rfl;obtain⟨s1,g⟩:=jx ((if(onP L [99,97,116,99,104] (R .block (zB s)).2 || onP L [102,105,110,97,108,108,121] (R .block (zB s)).2)=true then(R .block (zB s)).2 else za L (R .block (zB s)).2:Ps));have j:(R .block (zB s)).2.k≤s1.k∧s1.k≤L.length - 1:=by
  rw[←g];split
  · exact⟨yAC _,o⟩
  · exact⟨o,yAC _⟩
 rw[g];clear g;have p:onP L [99,97,116,99,104] s1=true→s1.k+1≤((if onP L [40] (zB s1)=true then((zc L (zB (zB s1))).1,zL L [41] (zc L (zB (zB s1))).2)else([],zB s1):List UInt8×Ps)).2.k∧((if onP L [40] (zB s1)=true then((zc L (zB (zB s1))).1,zL L [41] (zc L (zB (zB s1))).2)else([],zB s1):List UInt8×Ps)).2.k≤L.length - 1:=by
  intro b;have z:=f.on j.2 b;split
  · rename_i c
    have A:=f.on (s:=zB s1) (by show s1.k+1≤_;omega) c;have t:=zIA (s:=zB (zB s1)) f (by show(zB s1).k+1≤_;omega);have C:=zBs (s:=(zc L (zB (zB s1))).2) (w:=[41]) f t.2.1;have D:(zB (zB s1)).k=s1.k+1+1:=rfl;dsimp only;omega
  · exact⟨yAC _,by show s1.k+1≤_;omega⟩
 obtain⟨n,r⟩:=jx ((if onP L [40] (zB s1)=true then((zc L (zB (zB s1))).1,zL L [41] (zc L (zB (zB s1))).2)else([],zB s1):List UInt8×Ps));rw[r]at p⊢;clear r;obtain⟨c,b⟩:=jx ((if onP L [99,97,116,99,104] s1=true then(trN 17 n.1 [(R .block n.2).1],(R .block n.2).2)else(trK 11 [],s1):Tr×Ps));have u:s1.k≤c.2.k∧c.2.k≤L.length - 1∧c.1.size+16*s1.k≤16*c.2.k+1:=by
  rw[←b];split
  · rename_i b
    have h1:=p b;obtain⟨a2,v,c2,d2,e2,E⟩:=K.e (q:=.block) (s:=n.2) ⟨h1.2,trivial⟩ rfl (c:=1) (d:=4) rfl rfl;dsimp only;exact⟨by omega,v,by simp only[zAV,zH,zN];omega⟩
  · exact⟨yAC _,j.2,by simp only[zAU,zN];omega⟩
 rw[b];clear b;obtain⟨q1,q2,q3⟩:=u;refine zAL (fun h=>?_) (fun h=>?_);have B:=f.on q2 h;obtain⟨a3,F,c3,d3,e3,G⟩:=K.e (q:=.block) (s:=zB c.2) ⟨by show c.2.k+1≤_;omega,trivial⟩ rfl (c:=1) (d:=4) rfl rfl;rotate_left;rotate_left
 all_goals
  (refine⟨?_,fun e l hk=>?_⟩<;>(try (injection l with l;subst l))<;>(try simp only[zAU,zAV,zi,zH,zN,zg,zAQ]at *)<;>omega)
theorem zUy (g:Lst L) (K:Kz L R) (m:Pre L (.assign) s):Z s (cS (.assign) s) (dS (.assign)) (zD L R (.assign) s):=by
 have hs:=m.1;unfold zD cS dS;dsimp only;refine zAL (fun h1=>?_) (fun h1=>?_);have f:=g.lt hs (by rw[h1.1];decide);obtain⟨a1,v,e1⟩:=K.a (q:=.body [trN 20 (zG L s.k).text []]) (s:=zB s) ⟨by show s.k+1≤_;omega,trivial⟩ (c:=2+sizes [trN 20 (zG L s.k).text []]) (rfl);rotate_left;refine zAL (fun b=>?_) (fun b=>?_);obtain⟨a2,o,c2,d2,e2,y⟩:=K.e (q:=.params) (s:=s) ⟨hs,trivial⟩ rfl (c:=2) (d:=6) rfl rfl;obtain⟨a3,z,e3⟩:=K.a (q:=.body (R .params s).1.subs) (s:=(R .params s).2) ⟨o,trivial⟩ (c:=2+sizes (R .params s).1.subs) (rfl);have A:=zEE (R .params s).1;have f:s.k < L.length - 1:=by
  unfold zAh at b;rw[Bool.and_eq_true]at b;exact g.on hs b.1
 rotate_left;obtain⟨a4,p,c4,d4,e4,f4⟩:=K.e (q:=.cond) (s:=s) ⟨hs,trivial⟩ rfl (c:=1) (d:=4) rfl rfl;have u:(zC6 L 5 (R .cond s).2).k=L.length - 1:=rfl;refine zAL (fun l=>?_) (fun l=>?_);rotate_left;refine zAL (fun r=>?_) (fun r=>?_);rotate_left;have f:=g.lt (s:=(R .cond s).2) p (fun t=>l (.inl (by rw[t];decide)));obtain⟨a5,B,c5,d5,e5,C⟩:=K.e (q:=.assign) (s:=zB (R .cond s).2) ⟨by show(R .cond s).2.k+1≤_;omega,trivial⟩ rfl (c:=1) (d:=4) rfl rfl;rotate_left
 all_goals
  (refine⟨?_,fun e j hk=>?_⟩<;>(try (injection j with j;subst j))<;>(try simp only[zAU,zAV,zi,zH,zN,zg,zAQ]at *)<;>omega)
theorem zYK (t:Lst L) (K:Kz L R) {l:List Tr} (u:Pre L (.body l) s):Z s (cS (.body l) s) (dS (.body l)) (zD L R (.body l) s):=by
 have hs:=u.1;unfold zD cS dS;dsimp only;obtain⟨s1,f⟩:=jx ((if(zG L s.k).nl=true then za L s else s:Ps));have p:s.k≤s1.k∧s1.k≤L.length - 1:=by
  rw[←f];split
  · exact⟨hs,yAC _⟩
  · exact⟨yAC _,hs⟩
 rw[f];clear f;obtain⟨a1,o,c1⟩:=zBs (s:=s1) (w:=[61,62]) t (p.2);obtain⟨b,m⟩:=jx (zL L [61,62] s1);rw[m]at a1 o c1⊢;clear m;obtain⟨j,g⟩:=jx ((if onP L [123] b=true then R .block b else R .assign b:Tr×Ps));have r:b.k≤j.2.k∧j.2.k≤L.length - 1∧j.1.size+16*b.k≤16*j.2.k+1:=by
  rw[←g];split
  · obtain⟨a2,v,c2,d2,e2,A⟩:=K.e (q:=.block) (s:=b) ⟨o,trivial⟩ rfl (c:=1) (d:=4) rfl rfl;exact⟨a2,v,e2⟩
  · obtain⟨a3,y,c3,d3,e3,B⟩:=K.e (q:=.assign) (s:=b) ⟨o,trivial⟩ rfl (c:=1) (d:=4) rfl rfl;exact⟨a3,y,e3⟩
 rw[g];clear g;obtain⟨q1,q2,q3⟩:=r
 (refine⟨?_,fun e z hk=>by cases z⟩<;>(try simp only[zAU,zAV,zi,zH,zN,zg,zAQ]at *)<;>omega)
theorem zYL (f:Lst L) (K:Kz L R) (g:Pre L (.cond) s):Z s (cS (.cond) s) (dS (.cond)) (zD L R (.cond) s):=by
 have hs:=g.1;unfold zD cS dS;dsimp only;obtain⟨a1,j,c1,d1,e1,f1⟩:=K.e (q:=.either) (s:=s) ⟨hs,trivial⟩ rfl (c:=1) (d:=4) rfl rfl;refine zAL (fun h=>?_) (fun h=>?_);have o:=f.on j h;obtain⟨a2,l,c2,d2,e2,p⟩:=K.e (q:=.assign) (s:=zB (R .either s).2) ⟨by show(R .either s).2.k+1≤_;omega,trivial⟩ rfl (c:=1) (d:=4) rfl rfl;obtain⟨a3,m,c3⟩:=zBs (s:=(R .assign (zB (R .either s).2)).2) (w:=[58]) f (l);obtain⟨a4,r,c4,d4,e4,f4⟩:=K.e (q:=.assign) (s:=zL L [58] (R .assign (zB (R .either s).2)).2) ⟨m,trivial⟩ rfl (c:=1) (d:=4) rfl rfl;rotate_left;rotate_left
 all_goals
  (refine⟨?_,fun e b hk=>?_⟩<;>(try (injection b with b;subst b))<;>(try simp only[zAU,zAV,zi,zH,zN,zg,zAQ]at *)<;>omega)
theorem zUz (v:Lst L) (K:Kz L R) (u:Pre L (.either) s):Z s (cS (.either) s) (dS (.either)) (zD L R (.either) s):=by
 have hs:=u.1;unfold zD cS dS;dsimp only;obtain⟨a1,l,c1,d1,e1,f1⟩:=K.e (q:=.level 0) (s:=s) ⟨hs,yAE _⟩ rfl (c:=1) (d:=4) rfl rfl;refine zAL (fun h=>?_) (fun h=>?_);obtain⟨a2,m,e2⟩:=K.a (q:=.nullL (R (.level 0) s).1) (s:=(R (.level 0) s).2) ⟨l,trivial⟩ (c:=(R (.level 0) s).1.size) (rfl);obtain⟨f,b⟩:=jx ((if(onP L [124,124] (R (.nullL (R (.level 0) s).1) (R (.level 0) s).2).2 || onP L [38,38] (R (.nullL (R (.level 0) s).1) (R (.level 0) s).2).2)=true then za L (R (.nullL (R (.level 0) s).1) (R (.level 0) s).2).2 else(R (.nullL (R (.level 0) s).1) (R (.level 0) s).2).2:Ps));have o:(R (.nullL (R (.level 0) s).1) (R (.level 0) s).2).2.k≤f.k∧f.k≤L.length - 1:=by
  rw[←b];split
  · exact⟨m,yAC _⟩
  · exact⟨yAC _,m⟩
 rw[b];clear b;rotate_left;obtain⟨a3,p,e3⟩:=K.a (q:=.both (R (.level 0) s).1) (s:=(R (.level 0) s).2) ⟨l,trivial⟩ (c:=(R (.level 0) s).1.size) (rfl);obtain⟨y,r⟩:=jx (R (.both (R (.level 0) s).1) (R (.level 0) s).2);rw[r]at a3 p e3⊢;clear r;obtain⟨a4,g,e4⟩:=K.a (q:=.orL y.1) (s:=y.2) ⟨p,trivial⟩ (c:=y.1.size) (rfl);obtain⟨z,t⟩:=jx (R (.orL y.1) y.2);rw[t]at a4 g e4⊢;clear t;obtain⟨f,b⟩:=jx ((if onP L [63,63] z.2=true then za L z.2 else z.2:Ps));have o:z.2.k≤f.k∧f.k≤L.length - 1:=by
  rw[←b];split
  · exact⟨g,yAC _⟩
  · exact⟨yAC _,g⟩
 rw[b];clear b;rotate_left
 all_goals
  (refine⟨?_,fun e j hk=>?_⟩<;>(try (injection j with j;subst j))<;>(try simp only[zAU,zAV,zi,zH,zN,zg,zAQ]at *)<;>omega)
theorem zXT (b:Lst L) (K:Kz L R) (f:Pre L (.nullL x) s):Z s (cS (.nullL x) s) (dS (.nullL x)) (zD L R (.nullL x) s):=by
 have hs:=f.1;unfold zD cS dS;dsimp only;refine zAL (fun h=>?_) (fun h=>?_);have l:=b.on hs h;obtain⟨a1,g,c1,d1,e1,f1⟩:=K.e (q:=.level 0) (s:=zB s) ⟨by show s.k+1≤_;omega,yAE _⟩ rfl (c:=1) (d:=4) rfl rfl;obtain⟨a2,m,e2⟩:=K.a (q:=.nullL (trN 47 [63,63] [x,(R (.level 0) (zB s)).1])) (s:=(R (.level 0) (zB s)).2) ⟨g,trivial⟩ (c:=(trN 47 [63,63] [x,(R (.level 0) (zB s)).1]).size) (rfl);rotate_left;rotate_left
 all_goals
  (refine⟨?_,fun e j hk=>by cases j⟩<;>(try simp only[zAU,zAV,zi,zH,zN,zg,zAQ]at *)<;>omega)
theorem zYM (b:Lst L) (K:Kz L R) (f:Pre L (.both x) s):Z s (cS (.both x) s) (dS (.both x)) (zD L R (.both x) s):=by
 have hs:=f.1;unfold zD cS dS;dsimp only;refine zAL (fun h=>?_) (fun h=>?_);have l:=b.on hs h;obtain⟨a1,g,c1,d1,e1,f1⟩:=K.e (q:=.level 0) (s:=zB s) ⟨by show s.k+1≤_;omega,yAE _⟩ rfl (c:=1) (d:=4) rfl rfl;obtain⟨a2,m,e2⟩:=K.a (q:=.both (trN 47 [38,38] [x,(R (.level 0) (zB s)).1])) (s:=(R (.level 0) (zB s)).2) ⟨g,trivial⟩ (c:=(trN 47 [38,38] [x,(R (.level 0) (zB s)).1]).size) (rfl);rotate_left;rotate_left
 all_goals
  (refine⟨?_,fun e j hk=>by cases j⟩<;>(try simp only[zAU,zAV,zi,zH,zN,zg,zAQ]at *)<;>omega)
theorem zZu (l:Lst L) (K:Kz L R) (m:Pre L (.orL x) s):Z s (cS (.orL x) s) (dS (.orL x)) (zD L R (.orL x) s):=by
 have hs:=m.1;unfold zD cS dS;dsimp only;refine zAL (fun h=>?_) (fun h=>?_);have p:=l.on hs h;obtain⟨a1,b,c1,d1,e1,f1⟩:=K.e (q:=.level 0) (s:=zB s) ⟨by show s.k+1≤_;omega,yAE _⟩ rfl (c:=1) (d:=4) rfl rfl;obtain⟨y,f⟩:=jx (R (.level 0) (zB s));rw[f]at a1 b c1 d1 e1 f1⊢;clear f;obtain⟨a2,g,e2⟩:=K.a (q:=.both y.1) (s:=y.2) ⟨b,trivial⟩ (c:=y.1.size) (rfl);obtain⟨z,j⟩:=jx (R (.both y.1) y.2);rw[j]at a2 g e2⊢;clear j;obtain⟨a3,r,e3⟩:=K.a (q:=.orL (trN 47 [124,124] [x,z.1])) (s:=z.2) ⟨g,trivial⟩ (c:=(trN 47 [124,124] [x,z.1]).size) (rfl);rotate_left;rotate_left
 all_goals
  (refine⟨?_,fun e o hk=>by cases o⟩<;>(try simp only[zAU,zAV,zi,zH,zN,zg,zAQ]at *)<;>omega)
theorem zXU (j:Lst L) (K:Kz L R) (f:Pre L (.level n) s):Z s (cS (.level n) s) (dS (.level n)) (zD L R (.level n) s):=by
 have hs:=f.1;unfold zD cS dS;dsimp only;refine zAL (fun h=>?_) (fun h=>?_);obtain⟨a1,k,c1,d1,e1,f1⟩:=K.e (q:=.unary) (s:=s) ⟨hs,trivial⟩ rfl (c:=1) (d:=4) rfl rfl;rotate_left;have l:n≤8:=f.2;obtain⟨a2,g,c2,d2,e2,m⟩:=K.e (q:=.level (n+1)) (s:=s) ⟨hs,(by show n+1≤8;omega)⟩ rfl (c:=1) (d:=4) rfl rfl;obtain⟨a3,o,e3⟩:=K.a (q:=.levelL n (R (.level (n+1)) s).1) (s:=(R (.level (n+1)) s).2) ⟨g,(by show n < 8;omega)⟩ (c:=(R (.level (n+1)) s).1.size) (rfl);rotate_left
 all_goals
  (refine⟨?_,fun e b hk=>?_⟩<;>(try (injection b with b;subst b))<;>(try simp only[zAU,zAV,zi,zH,zN,zg,zAQ]at *)<;>omega)
theorem zU0 (f:Lst L) (K:Kz L R) (b:Pre L (.levelL n x) s):Z s (cS (.levelL n x) s) (dS (.levelL n x)) (zD L R (.levelL n x) s):=by
 have hs:=b.1;unfold zD cS dS;dsimp only;refine zAL (fun h=>?_) (fun h=>?_);have g:n < 8:=b.2;have m:=f.lt hs (zEI (by rw[h];omega));obtain⟨a1,j,c1,d1,e1,f1⟩:=K.e (q:=.level (n+1)) (s:=zB s) ⟨by show s.k+1≤_;omega,(by show n+1≤8;omega)⟩ rfl (c:=1) (d:=4) rfl rfl;obtain⟨a2,o,e2⟩:=K.a (q:=.levelL n (trN 46 (zG L s.k).text [x,(R (.level (n+1)) (zB s)).1])) (s:=(R (.level (n+1)) (zB s)).2) ⟨j,g⟩ (c:=(trN 46 (zG L s.k).text [x,(R (.level (n+1)) (zB s)).1]).size) (rfl);rotate_left;rotate_left
 all_goals
  (refine⟨?_,fun e l hk=>by cases l⟩<;>(try simp only[zAU,zAV,zi,zH,zN,zg,zAQ]at *)<;>omega)
theorem zXV (j:Lst L) (K:Kz L R) (t:Pre L (.unary) s):Z s (cS (.unary) s) (dS (.unary)) (zD L R (.unary) s):=by
 have hs:=t.1;unfold zD cS dS;dsimp only;refine zAL (fun h1=>?_) (fun h1=>?_);have g:=j.lt hs (by rcases h1.1 with b | b<;>(rw[b];decide));obtain⟨a1,A,c1,d1,e1,f1⟩:=K.e (q:=.unary) (s:=zB s) ⟨by show s.k+1≤_;omega,trivial⟩ rfl (c:=1) (d:=4) rfl rfl;rotate_left;refine zAL (fun m=>?_) (fun m=>?_);have g:=j.lt hs (by rcases m.1 with b | b<;>(rw[b];decide));obtain⟨a2,o,c2,d2,e2,B⟩:=K.e (q:=.unary) (s:=zB s) ⟨by show s.k+1≤_;omega,trivial⟩ rfl (c:=1) (d:=4) rfl rfl;obtain⟨p,f⟩:∃x,(if(R .unary (zB s)).2.bad=0∧zAB (R .unary (zB s)).1.nd.kind=false then za L (R .unary (zB s)).2 else(R .unary (zB s)).2:Ps)=x:=⟨_,rfl⟩;have y:(R .unary (zB s)).2.k≤p.k∧p.k≤L.length - 1:=by
  rw[←f];split
  · exact⟨o,yAC _⟩
  · exact⟨yAC _,o⟩
 rw[f];clear f;rotate_left;obtain⟨a3,u,c3,d3,e3,C⟩:=K.e (q:=.calls) (s:=s) ⟨hs,trivial⟩ rfl (c:=1) (d:=4) rfl rfl;have z:(za L (R .calls s).2).k=L.length - 1:=rfl;refine zAL (fun r=>?_) (fun r=>?_);refine zAL (fun v=>?_) (fun v=>?_);rotate_left;have g:=j.lt (s:=(R .calls s).2) u (by rw[r.1];decide);rotate_left;rotate_left
 all_goals
  (refine⟨?_,fun e l hk=>?_⟩<;>(try (injection l with l;subst l))<;>(try simp only[zAU,zAV,zi,zH,zN,zg,zAQ]at *)<;>omega)
theorem zXW (j:Lst L) (K:Kz L R) (f:Pre L (.calls) s):Z s (cS (.calls) s) (dS (.calls)) (zD L R (.calls) s):=by
 have hs:=f.1;unfold zD cS dS;dsimp only;obtain⟨a1,g,c1,d1,e1,f1⟩:=K.e (q:=.head) (s:=s) ⟨hs,trivial⟩ rfl (c:=1) (d:=4) rfl rfl;obtain⟨a2,k,e2⟩:=K.a (q:=.callsL (R .head s).1) (s:=(R .head s).2) ⟨g,trivial⟩ (c:=(R .head s).1.size) (rfl)
 (refine⟨?_,fun e b hk=>?_⟩<;>(try (injection b with b;subst b))<;>(try simp only[zAU,zAV,zi,zH,zN,zg,zAQ]at *)<;>omega)
theorem zU1 (b:Lst L) (K:Kz L R) (p:Pre L (.callsL x) s):Z s (cS (.callsL x) s) (dS (.callsL x)) (zD L R (.callsL x) s):=by
 have hs:=p.1;unfold zD cS dS;dsimp only;refine zAL (fun h=>?_) (fun h=>?_);have f:=b.on hs h;obtain⟨a1,r,c1,d1,e1,f1⟩:=K.e (q:=.args) (s:=s) ⟨hs,f⟩ rfl (c:=2) (d:=0) rfl rfl;have z:=zEE (R .args s).1;obtain⟨a2,A,e2⟩:=K.a (q:=.callsL (trK 50 (x::(R .args s).1.subs))) (s:=(R .args s).2) ⟨r,trivial⟩ (c:=(trK 50 (x::(R .args s).1.subs)).size) (rfl);rotate_left;refine zAL (fun g=>?_) (fun g=>?_);have f:=b.on hs g;have y:(za L (zB s)).k=L.length - 1:=rfl;refine zAL (fun j=>?_) (fun j=>?_);rotate_left;have l:=b.lt (s:=zB s) (by show s.k+1≤_;omega) (fun m=>j ⟨by rw[m];decide,by rw[m];decide⟩);simp only[zAQ]at l;obtain⟨a3,B,e3⟩:=K.a (q:=.callsL (trN 52 (zG L (zB s).k).text [x])) (s:=zB (zB s)) ⟨by show s.k+1+1≤_;omega,trivial⟩ (c:=(trN 52 (zG L (zB s).k).text [x]).size) (rfl);rotate_left;refine zAL (fun o=>?_) (fun o=>?_);have f:=b.on hs o;obtain⟨a4,t,c4,d4,e4,f4⟩:=K.e (q:=.assign) (s:=zB s) ⟨by show s.k+1≤_;omega,trivial⟩ rfl (c:=1) (d:=4) rfl rfl;obtain⟨a5,u,c5⟩:=zBs (s:=(R .assign (zB s)).2) (w:=[93]) b (t);obtain⟨a6,C,e6⟩:=K.a (q:=.callsL (trK 53 [x,(R .assign (zB s)).1])) (s:=zL L [93] (R .assign (zB s)).2) ⟨u,trivial⟩ (c:=(trK 53 [x,(R .assign (zB s)).1]).size) (rfl);rotate_left;rotate_left
 all_goals
  (refine⟨?_,fun e v hk=>by cases v⟩<;>(try simp only[zAU,zAV,zi,zH,zN,zg,zAQ]at *)<;>omega)
theorem zXX (b:Lst L) (K:Kz L R) (p:Pre L (.headL x) s):Z s (cS (.headL x) s) (dS (.headL x)) (zD L R (.headL x) s):=by
 have hs:=p.1;unfold zD cS dS;dsimp only;refine zAL (fun f=>?_) (fun f=>?_);have g:=b.on hs f;have v:(za L (zB s)).k=L.length - 1:=rfl;refine zAL (fun j=>?_) (fun j=>?_);rotate_left;have l:=b.lt (s:=zB s) (by show s.k+1≤_;omega) (fun m=>j ⟨by rw[m];decide,by rw[m];decide⟩);simp only[zAQ]at l;obtain⟨a1,y,e1⟩:=K.a (q:=.headL (trN 52 (zG L (zB s).k).text [x])) (s:=zB (zB s)) ⟨by show s.k+1+1≤_;omega,trivial⟩ (c:=(trN 52 (zG L (zB s).k).text [x]).size) (rfl);rotate_left;refine zAL (fun o=>?_) (fun o=>?_);have g:=b.on hs o;obtain⟨a2,r,c2,d2,e2,z⟩:=K.e (q:=.assign) (s:=zB s) ⟨by show s.k+1≤_;omega,trivial⟩ rfl (c:=1) (d:=4) rfl rfl;obtain⟨a3,t,c3⟩:=zBs (s:=(R .assign (zB s)).2) (w:=[93]) b (r);obtain⟨a4,A,e4⟩:=K.a (q:=.headL (trK 53 [x,(R .assign (zB s)).1])) (s:=zL L [93] (R .assign (zB s)).2) ⟨t,trivial⟩ (c:=(trK 53 [x,(R .assign (zB s)).1]).size) (rfl);rotate_left;rotate_left
 all_goals
  (refine⟨?_,fun e u hk=>by cases u⟩<;>(try simp only[zAU,zAV,zi,zH,zN,zg,zAQ]at *)<;>omega)
theorem zYN (g:Lst L) (K:Kz L R) (r:Pre L (.head) s):Z s (cS (.head) s) (dS (.head)) (zD L R (.head) s):=by
 have hs:=r.1;unfold zD cS dS;dsimp only;refine zAL (fun h=>?_) (fun h=>?_);have t:=g.on hs h;obtain⟨a1,j,c1,d1,e1,f1⟩:=K.e (q:=.head) (s:=zB s) ⟨by show s.k+1≤_;omega,trivial⟩ rfl (c:=1) (d:=4) rfl rfl;obtain⟨x,l⟩:=jx (R .head (zB s));rw[l]at a1 j c1 d1 e1 f1⊢;clear l;obtain⟨a2,b,e2⟩:=K.a (q:=.headL x.1) (s:=x.2) ⟨j,trivial⟩ (c:=x.1.size) (rfl);obtain⟨y,m⟩:=jx (R (.headL x.1) x.2);rw[m]at a2 b e2⊢;clear m;refine zAL (fun o=>?_) (fun o=>?_);have p:=g.on b o;obtain⟨a3,u,c3,d3,e3,v⟩:=K.e (q:=.args) (s:=y.2) ⟨b,p⟩ rfl (c:=2) (d:=0) rfl rfl;have A:=zEE (R .args y.2).1;rotate_left;rotate_left;obtain⟨a4,B,c4,d4,e4,f4⟩:=K.e (q:=.primary) (s:=s) ⟨hs,trivial⟩ rfl (c:=1) (d:=4) rfl rfl;rotate_left
 all_goals
  (refine⟨?_,fun e f hk=>?_⟩<;>(try (injection f with f;subst f))<;>(try simp only[zAU,zAV,zi,zH,zN,zg,zAQ]at *)<;>omega)
theorem zYO (g:Lst L) (K:Kz L R) (d:Pre L (.args) s):Z s (cS (.args) s) (dS (.args)) (zD L R (.args) s):=by
 have hs:=d.1;unfold zD cS dS;dsimp only;have f:s.k < L.length - 1:=d.2;obtain⟨a1,j,c1⟩:=zBs (s:=s) (w:=[40]) g (hs);obtain⟨a2,l,e2⟩:=K.a (q:=.list [41]) (s:=zL L [40] s) ⟨j,trivial⟩ (c:=2) (rfl);have:=c1 f
 (refine⟨?_,fun e b hk=>?_⟩<;>(try (injection b with b;subst b))<;>(try simp only[zAU,zAV,zi,zH,zN,zg,zAQ]at *)<;>omega)
theorem zYP (b:Lst L) (K:Kz L R) {w:List UInt8} (d:Pre L (.list w) s):Z s (cS (.list w) s) (dS (.list w)) (zD L R (.list w) s):=by
 have hs:=d.1;unfold zD cS dS;dsimp only;refine zAL (fun h=>?_) (fun h=>?_);have g:=b.on hs h;rotate_left;obtain⟨a1,j,e1⟩:=K.a (q:=.listL w []) (s:=s) ⟨hs,trivial⟩ (c:=2+sizes []) (rfl);rotate_left
 all_goals
  (refine⟨?_,fun e f hk=>by cases f⟩<;>(try simp only[zAU,zAV,zi,zH,zN,zg,zAQ]at *)<;>omega)
theorem zXY (f:Lst L) (K:Kz L R) {w:List UInt8} (o:Pre L (.listL w b) s):Z s (cS (.listL w b) s) (dS (.listL w b)) (zD L R (.listL w b) s):=by
 have hs:=o.1;unfold zD cS dS;dsimp only;obtain⟨a1,g,c1,d1,e1,f1⟩:=K.e (q:=.assign) (s:=s) ⟨hs,trivial⟩ rfl (c:=1) (d:=4) rfl rfl;refine zAL (fun h=>?_) (fun h=>?_);rotate_left;refine zAL (fun j=>?_) (fun j=>?_);have l:=f.on g j;rotate_left;obtain⟨a2,p,c2⟩:=zBs (s:=(R .assign s).2) (w:=[44]) f (g);obtain⟨a3,t,e3⟩:=K.a (q:=.listL w (b++[(R .assign s).1])) (s:=zL L [44] (R .assign s).2) ⟨p,trivial⟩ (c:=2+sizes (b++[(R .assign s).1])) (rfl);have l:s.k < L.length - 1:=by
  rcases Nat.lt_or_ge s.k (L.length - 1)with m | m
  · exact m
  · exact absurd (d1 jo) h
 rotate_left
 all_goals
  (refine⟨?_,fun e r hk=>by cases r⟩<;>(try simp only[zAU,zAV,zi,zH,zN,zg,zAQ]at *)<;>omega)
theorem zYQ (f:Lst L) (K:Kz L R) (o:Pre L (.objL b) s):Z s (cS (.objL b) s) (dS (.objL b)) (zD L R (.objL b) s):=by
 have hs:=o.1;unfold zD cS dS;dsimp only;obtain⟨a1,g,c1,d1,e1,f1⟩:=K.e (q:=.prop) (s:=s) ⟨hs,trivial⟩ rfl (c:=1) (d:=1) rfl rfl;refine zAL (fun h=>?_) (fun h=>?_);rotate_left;refine zAL (fun j=>?_) (fun j=>?_);have l:=f.on g j;rotate_left;obtain⟨a2,p,c2⟩:=zBs (s:=(R .prop s).2) (w:=[44]) f (g);obtain⟨a3,t,e3⟩:=K.a (q:=.objL (b++[(R .prop s).1])) (s:=zL L [44] (R .prop s).2) ⟨p,trivial⟩ (c:=2+sizes (b++[(R .prop s).1])) (rfl);have l:s.k < L.length - 1:=by
  rcases Nat.lt_or_ge s.k (L.length - 1)with m | m
  · exact m
  · exact absurd (d1 jo) h
 rotate_left
 all_goals
  (refine⟨?_,fun e r hk=>by cases r⟩<;>(try simp only[zAU,zAV,zi,zH,zN,zg,zAQ]at *)<;>omega)
theorem zU2 (b:Lst L) (K:Kz L R) (d:Pre L (.object) s):Z s (cS (.object) s) (dS (.object)) (zD L R (.object) s):=by
 have hs:=d.1;unfold zD cS dS;dsimp only;refine zAL (fun h=>?_) (fun h=>?_);have g:=b.on hs h;rotate_left;obtain⟨a1,j,e1⟩:=K.a (q:=.objL []) (s:=s) ⟨hs,trivial⟩ (c:=2+sizes []) (rfl);rotate_left
 all_goals
  (refine⟨?_,fun e f hk=>by cases f⟩<;>(try simp only[zAU,zAV,zi,zH,zN,zg,zAQ]at *)<;>omega)
theorem zRZ (f:Lst L) (K:Kz L R) (r:Pre L (.primary) s):Z s (cS (.primary) s) (dS (.primary)) (zD L R (.primary) s):=by
 have hs:=r.1;unfold zD cS dS;dsimp only;have G:(za L s).k=L.length - 1:=rfl;have H:(zC6 L 6 s).k=L.length - 1:=rfl;refine zAL (fun j=>?_) (fun j=>?_);rotate_left;have I:=f.lt hs j;refine zAL (fun l=>?_) (fun l=>?_);rotate_left;refine zAL (fun m=>?_) (fun m=>?_);rotate_left;refine zAL (fun o=>?_) (fun o=>?_);rotate_left;refine zAL (fun p=>?_) (fun p=>?_);rotate_left;refine zAL (fun t=>?_) (fun t=>?_);rotate_left;refine zAL (fun u=>?_) (fun u=>?_);rotate_left;refine zAL (fun x7=>?_) (fun x7=>?_);rotate_left;refine zAL (fun v=>?_) (fun v=>?_);rotate_left;refine zAL (fun y=>?_) (fun y=>?_);obtain⟨a1,M,e1⟩:=K.a (q:=.list [93]) (s:=zB s) ⟨by show s.k+1≤_;omega,trivial⟩ (c:=2) (rfl);have N:=zEE (R (.list [93]) (zB s)).1;rotate_left;refine zAL (fun z=>?_) (fun z=>?_);obtain⟨a2,O,e2⟩:=K.a (q:=.object) (s:=zB s) ⟨by show s.k+1≤_;omega,trivial⟩ (c:=2) (rfl);rotate_left;refine zAL (fun A=>?_) (fun A=>?_);refine zAL (fun B=>?_) (fun B=>?_);obtain⟨a3,C,c3,d3⟩:=zIA (s:=zB s) f (by show s.k+1≤_;omega);obtain⟨a4,P,e4⟩:=K.a (q:=.func 41 (zc L (zB s)).1) (s:=(zc L (zB s)).2) ⟨C,trivial⟩ (c:=3) (rfl);rotate_left;obtain⟨a5,Q,e5⟩:=K.a (q:=.func 41 []) (s:=zB s) ⟨by show s.k+1≤_;omega,trivial⟩ (c:=3) (rfl);rotate_left;refine zAL (fun D=>?_) (fun D=>?_);obtain⟨a6,E,c6,d6,e6,S⟩:=K.e (q:=.assign) (s:=zB s) ⟨by show s.k+1≤_;omega,trivial⟩ rfl (c:=1) (d:=4) rfl rfl;obtain⟨a7,T,c7⟩:=zBs (s:=(R .assign (zB s)).2) (w:=[41]) f (E);rotate_left;obtain⟨F,b⟩:=jx ((if(onP L [47] s || onP L [47,61] s)=true then zC6 L 6 s else za L s:Ps));have J:F.k=L.length - 1:=by
  rw[←b];split<;>rfl
 rw[b];clear b;rotate_left
 all_goals
  (refine⟨?_,fun e g hk=>?_⟩<;>(try (injection g with g;subst g))<;>(try simp only[zAU,zAV,zi,zH,zN,zg,zAQ]at *)<;>omega)
theorem zYR (f:Lst L) (K:Kz L R) (g:Pre L (.prop) s):Z s (cS (.prop) s) (dS (.prop)) (zD L R (.prop) s):=by
 have hs:=g.1;have m:(za L s).k=L.length - 1:=rfl;unfold zD cS dS;dsimp only;split
 · (refine⟨?_,fun e b hk=>?_⟩<;>(try (injection b with b;subst b))<;>(try simp only[zAU,zAV,zi,zH,zN,zg,zAQ]at *)<;>omega)
 · rename_i u j
   have o:=f.lt hs (zDt j);refine zAL (fun h=>?_) (fun h=>?_)
   · (refine⟨?_,fun e b hk=>?_⟩<;>(try (injection b with b;subst b))<;>(try simp only[zAU,zAV,zi,zH,zN,zg,zAQ]at *)<;>omega)
   · obtain⟨a1,l,c1⟩:=zBs (s:=zB s) (w:=[58]) f (by show s.k+1≤_;omega);obtain⟨a2,p,c2,d2,e2,r⟩:=K.e (q:=.assign) (s:=zL L [58] (zB s)) ⟨l,trivial⟩ rfl (c:=1) (d:=4) rfl rfl
     (refine⟨?_,fun e b hk=>?_⟩<;>(try (injection b with b;subst b))<;>(try simp only[zAU,zAV,zi,zH,zN,zg,zAQ]at *)<;>omega)
theorem zZv (b:Lst L) (K:Kz L R) (q:Ph) (c:Pre L q s):Z s (cS q s) (dS q) (zD L R q s):=by
 cases q with
 | program d=>exact zRY b K c
 | block=>exact zXQ b K c
 | blockL d=>exact zUs b K c
 | item=>exact zYF b K c
 | declares=>exact zN7 b K c
 | declL k d=>exact zXR b K c
 | func k n=>exact zYG b K c
 | params=>exact zUt b K c
 | paramL d=>exact zUu b K c
 | statement=>exact zLN b K c
 | simple=>exact zUv b K c
 | word w=>exact zYH b K c
 | within=>exact zUw b K c
 | clause w=>exact zUx b K c
 | loop=>exact zYI b K c
 | jump k=>exact zYJ b K c
 | tries=>exact zXS b K c
 | assign=>exact zUy b K c
 | body l=>exact zYK b K c
 | cond=>exact zYL b K c
 | either=>exact zUz b K c
 | nullL x=>exact zXT b K c
 | orL x=>exact zZu b K c
 | both x=>exact zYM b K c
 | level n=>exact zXU b K c
 | levelL n x=>exact zU0 b K c
 | unary=>exact zXV b K c
 | calls=>exact zXW b K c
 | callsL x=>exact zU1 b K c
 | head=>exact zYN b K c
 | headL x=>exact zXX b K c
 | args=>exact zYO b K c
 | list w=>exact zYP b K c
 | listL w d=>exact zXY b K c
 | primary=>exact zRZ b K c
 | object=>exact zU2 b K c
 | objL d=>exact zYQ b K c
 | prop=>exact zYR b K c
end
theorem zYS {L:List Tok} (d:Lst L):∀f:Nat,Kz L (zF9 L f):=by
 intro f
 induction f with
 | zero=>
  refine⟨fun q s b=>zIM d 0 q s b,fun q s b=>?_⟩;have h1:(zF9 L 0 q s).1.size=1:=by show(trK 0 []).size=1;rw[zAU,zN]
  have l:(zF9 L 0 q s).2.k=L.length - 1:=rfl;have m:=b.1;have o:1≤cS q s:=by
   unfold cS;cases q<;>dsimp only<;>(try omega)<;>(try exact zBO _)<;>(split<;>omega)
  have g:∀e,dS q=some e→e≤6:=by
   intro e c;unfold dS at c;cases q<;>dsimp only at c<;>first | (injection c with c;omega) | cases c
  refine⟨by omega,fun e c hk=>?_⟩;have:=g e c;omega
 | succ f j=>exact⟨fun q s b=>zIM d (f+1) q s b,fun q s b=>zZv d j q b⟩
theorem zKO {L:List Tok} (b:Lst L) (h:L.length≤4097):(zE L (.program []) ⟨0,0,0⟩).1.size≤1000000:=by
 have h1:=(zYS b (zk L (.program []) ⟨0,0,0⟩+1)).z (.program []) ⟨0,0,0⟩ ⟨yAE _,trivial⟩;have d:=(zf b (p:=.program []) (s:=⟨0,0,0⟩) ⟨yAE _,trivial⟩).adv.hi;have c:=h1.1;unfold cS at c;simp only[zN]at c;unfold zE at d⊢;omega
open Go.RowKit
theorem zRa (u:List UInt16):(zE (zC3 u).1 (.program []) ⟨0,0,0⟩).1.size≤1000000:=by
 obtain⟨⟨L,a,e⟩,b⟩:=jx (zC3 u);rw[b];have c:(zE [] (.program []) ⟨0,0,0⟩).1.size≤1000000:=by
  have:(zE [] (.program []) ⟨0,0,0⟩).1=trK 1 []:=rfl;rw[this,zAU,zN];omega
 by_cases f:4096 < u.length
 · unfold zC3 at b;rw[if_pos f]at b;simp only[Prod.mk.injEq]at b;rw[←b.1];exact c
 · by_cases d:e=0
   · subst d;refine zKO (zGL b) ?_;have h1:=zJq (u:=u) jo;rw[b]at h1;exact yAD h1 jo
   · have h1:=zS0 (u:=u) jo (by rw[b];exact d);rw[b]at h1;rw[show(L,a,e).1=[]from h1];exact c
theorem zU3 (hB:B≤w.heap.size) (d:u.length=n) (e:Reads w B 1 A n (zAM u)) (f:n≤c) (b:c≤maxLen) (g:Tab w):
 Calls prog 8 #[.slice A n c] w (ParseQ (zBF u) w):=zRX hB d e f b g (zRa u)
theorem zGO {m a e:Nat} (hB:B≤w.heap.size) (k:u.length=n) (l:Reads w B 1 A n (zAM u)) (o:n≤c) (f:c≤maxLen) (p:Tab w) (q:zBF u=(ts,a,e)) (r:ts.length=m):
 Calls prog 8 #[.slice A n c] w (fun g w'=>∃d b,g=.returned (.tuple #[.agg #[.slice d m b],a,e])∧NdsR w' w'.heap.size d m ts∧m≤b∧b≤maxLen∧Below w.heap.size w w'):=by
 have h:=zU3 hB k l o f p;rw[q]at h;refine h.mono ?_;rintro g w' ⟨d,s,b,h1,j,t,v,y⟩;have h6:s=m:=by rw[←r];exact j.1.symm
 subst h6;exact⟨d,b,h1,j,t,v,y⟩
def exA:List UInt16:=zU [97,10,43,43,98]
def okA (q:List Nd×Nat×Nat):Bool:=q.2.1==0&&q.2.2==0&&q.1.length==6&&(match q.1[3]? with | some x=>x.kind==3 | none=>false)&&(match q.1[4]? with | some x=>x.kind==44 | none=>false)
theorem zam:okA (zBF exA)=true:=by decide+kernel
def zIB (u:List UInt16) (a e:Nat):Bool:=(zBF u).1.isEmpty&&(zBF u).2.1==a&&(zBF u).2.2==e
theorem zan:zIB (zU [97,32,63,63,32,98,32,124,124,32,99]) 7 5=true:=by decide+kernel
theorem zao:zIB (zU [49,32,61,32,50]) 2 5=true:=by decide+kernel
theorem zap:zIB (zU [118,97,114,32,120]) 0 6=true:=by decide+kernel
theorem zaq:zIB (zU [120,32,61,32,47,97,47]) 4 6=true:=by decide+kernel
theorem zFR {a e:Nat} (h:zIB u a e=true):zBF u=([],a,e):=by
 unfold zIB at h;simp only[Bool.and_eq_true,List.isEmpty_iff,beq_iff_eq]at h;obtain⟨⟨h1,b⟩,c⟩:=h;obtain⟨⟨x,y,z⟩,d⟩:=jx (zBF u);rw[d]at h1 b c⊢;simp only at h1 b c;rw[h1,b,c]
theorem zEU {s:List UInt8} {a e:Nat} (D:s.length≤4000) (o:zBF (zU s)=([],a,e)) (v:Tab w):
 Calls prog 12 #[s,a,e] w fun E w'=>E=.returned true∧Below w.heap.size w w':=by
 obtain⟨u,d⟩:=jx (zU s);have f:u.length=s.length:=by rw[←d];exact zDN s
 rw[d]at o;have F:=zA o;have y:=zA v;have p:=zET s w jo;rw[d]at p;have q:=zA p;have g:=zA f;obtain⟨m,z⟩:=jx s.length;rw[z]at q g;clear o v p f d D z;go_enter func12,ntmps12;go_wp2_with fail;refine q.out.mono ?_;rintro G w1 ⟨A,c,rfl,r,hg⟩;obtain⟨I,J,e1,h1,B⟩:=zS r;injection e1 with eA _ e3;subst eA;subst e3;have b:Below w.heap.size w w1:=⟨hg.os,hg.tape,hg.output,hg.size,fun i hi=>hg.block i hi js⟩;have j:=zA b;have C:=zA (zGO (u:=u) (yAC _) g (Reads.of_own r) h1 B (y.out.below y.out.lt b) F rfl);clear r hg b q h1 B;go_wp2_with fail;refine C.out.mono ?_;rintro H w2 ⟨t,c2,rfl,_,_,_,k⟩;have l:=zA (j.out.trans (k.mono j.out.size));clear k C;have L:(w2.alloc (.cells #[.slice t ([]:List Nd).length c2] 24)).cell? w2.heap.size=some (.slice t ([]:List Nd).length c2):=(Bx.new w2 [.slice t ([]:List Nd).length c2] 24).cell 0;go_wp2_with fail;go_ret;refine⟨by simp,l.out.trans ?_⟩;exact(ja:Below w2.heap.size w2 _).mono l.out.size
theorem zYT:∃ts b c,zBF exA=(ts,0,0)∧ts.length=6∧ts[3]? =some b∧b.kind=3∧ts[4]? =some c∧c.kind=44:=by
 have h:=zam;obtain⟨⟨ts,a,e⟩,g⟩:=jx (zBF exA);rw[g]at h⊢;unfold okA at h;simp only[Bool.and_eq_true,beq_iff_eq]at h;obtain⟨⟨⟨⟨h1,j⟩,k⟩,d⟩,f⟩:=h;cases h6:ts[3]? with
 | none=>rw[h6]at d;cases d
 | some b=>
  cases h7:ts[4]? with
  | none=>rw[h7]at f;cases f
  | some c=>
   rw[h6]at d;rw[h7]at f;exact⟨ts,b,c,by rw[h1,j],k,h6,by simpa using d,h7,by simpa using f⟩
theorem zN8 (hT:Tab w):Calls prog 5 #[] w fun ev w'=>ev=.returned true∧Below w.heap.size w w':=by
 obtain⟨ts,x3,x4,W,m,G,H,I,J⟩:=zYT;obtain⟨u,F⟩:=jx exA;have L:u.length=5:=by rw[←F];rfl
 have X:=zET [97,10,43,43,98] w jd;rw[show zU [97,10,43,43,98]=u from F]at X;rw[F]at W;have HA:=zA (show Calls prog 11 #[.string ⟨#[97,10,43,43,98]⟩] w fun e w'=>∃A c,e=.returned (.slice A 5 c)∧w'.ownsRow 0 65 1 (.slice A 5 c) 5 (zAM u)∧w.grownBy w' none from X);have HP:=zA W;have a0:=zA L;have HL:=zA m;have a1:=zA G;have a2:=zA I;have a3:=zA H;have a4:=zA J;have d:=zA hT;clear W L m G I H J hT X F;go_enter func5,ntmps5;go_wp2_with fail;refine HA.out.mono ?_;rintro a8 w1 ⟨A,c,rfl,Y,hg⟩;obtain⟨A',c',e1,h1,h2⟩:=zS Y;injection e1 with eA _ e3;subst eA;subst e3;have q:Below w.heap.size w w1:=⟨hg.os,hg.tape,hg.output,hg.size,fun i hi=>hg.block i hi js⟩;have r:=zA q;have HQ:=zA (zGO (u:=u) (yAC _) a0 (Reads.of_own Y) h1 h2 (d.out.below d.out.lt q) HP HL);clear Y hg q HA h1 h2;go_wp2_with fail;refine HQ.out.mono ?_;rintro a9 w2 ⟨A2,c2,rfl,hN,a5,_,M⟩;have t:=zA (r.out.trans (M.mono r.out.size));obtain⟨b,o,y3,s3,N,y,g,O,_⟩:=hN.get (i:=3) jd;obtain⟨b',o',y4,s4,j,_,k,P,_⟩:=hN.get (i:=4) jd;rw[a1.out]at g;rw[a2.out]at k;injection g with g;injection k with k;subst g k;rw[N]at j;injection j with j;injection j with eb eo _;subst eb eo N;have q3:=O.k0;have q4:=P.k0;rw[a3.out]at q3;rw[a4.out]at q4;obtain⟨f,z⟩:=jx (w2.alloc (.cells #[.slice (some ⟨b,o,none⟩) 6 c2] 24));have l:Below w2.heap.size w2 f:=jb z;obtain⟨T,Q⟩:=jx w2.heap.size;have a6:=zA (show Bx f T 24 [.slice (some ⟨b,o,none⟩) 6 c2] by rw[←z,←Q];exact Bx.new w2 _ _);have r3:f.cell? ⟨b,o+24,none⟩=some (.int .i64 3):=(l.cell (p:=⟨b,o+24,none⟩) y).trans q3;have r4:f.cell? ⟨b,o+32,none⟩=some (.int .i64 44):=(l.cell (p:=⟨b,o+32,none⟩) y).trans q4;have B:=zA (t.out.trans (l.mono t.out.size));clear hN a5 M y O P q3 q4 l HQ r t;go_upto_region 2 with(fail);clear z Q;have zT:f.cell? T=some (.slice (some ⟨b,o,none⟩) 6 c2):=a6.out.cell 0;have C1:=zA (fun(v:World) (hb:Below w.heap.size w v)=>zEU (s:=[97,32,63,63,32,98,32,124,124,32,99]) (w:=v) jd (zFR zan) (d.out.below d.out.lt hb));have C2:=zA (fun(v:World) (hb:Below w.heap.size w v)=>zEU (s:=[49,32,61,32,50]) (w:=v) jd (zFR zao) (d.out.below d.out.lt hb));have C3:=zA (fun(v:World) (hb:Below w.heap.size w v)=>zEU (s:=[118,97,114,32,120]) (w:=v) jd (zFR zap) (d.out.below d.out.lt hb));have C4:=zA (fun(v:World) (hb:Below w.heap.size w v)=>zEU (s:=[120,32,61,32,47,97,47]) (w:=v) jd (zFR zaq) (d.out.below d.out.lt hb));go_wp2_with fail;refine(C1.out f B).mono ?_;rintro ea wa ⟨rfl,R⟩;have C:=zA (B.out.trans (R.mono B.out.size));clear R;go_wp2_with fail;refine(C2.out wa C).mono ?_;rintro eb wb ⟨rfl,S⟩;have D:=zA (C.out.trans (S.mono C.out.size));clear S;go_wp2_with fail;refine(C3.out wb D).mono ?_;rintro ec wc ⟨rfl,U⟩;have E:=zA (D.out.trans (U.mono D.out.size));clear U;go_wp2_with fail;refine(C4.out wc E).mono ?_;rintro ed wd ⟨rfl,V⟩;have a7:=zA (E.out.trans (V.mono E.out.size));clear V;go_wp2_with fail;go_ret;exact⟨rfl,a7⟩
theorem zXZ {xs:List UInt16} (hB:B≤w.heap.size) (o:xs.length=n) (p:Reads w B 1 A n (zAM xs)) (hb:Reads w B 1 m n (zAM xs)) (q:n≤maxLen):
 Calls prog 22 #[.slice A n c,.slice m n d] w fun e w'=>e=.returned true∧Below w.heap.size w w':=by
 have u:=zA o;have v:=zA p;have y:=zA hb;have C:n≤9223372036854775807:=q;have e2:((n:Int) !=(n:Int))=false:=by simp
 clear o p hb q;go_enter func22,ntmps22;go_wp2_with fail
 go_loopw [13] (fun i wr=>∃k:Nat,k≤n∧i=.int .i64 k∧Hid (Below w.heap.size w wr)) (fun i _=>n - (intOf i).toNat)
 case atStart=>exact⟨0,yAE _,rfl,Below.refl _ _⟩
 case round=>
  obtain⟨k,hk,rfl,b⟩:=hrel
  by_cases r:k < n
  · have l:k < xs.length:=by rw[u.out];exact r
    obtain⟨D,E,rfl,_,f⟩:=(v.out.below (b.out.mono hB)).spotR jo;have s:=f k (.int .u16 (xs[k].toNat:Int)) (by simp[zAM,zVT,yAB l]);obtain⟨F,ob,rfl,_,g⟩:=(y.out.below (b.out.mono hB)).spotR jo;have t:=g k (.int .u16 (xs[k].toNat:Int)) (by simp[zAM,zVT,yAB l]);obtain⟨x,j⟩:∃z:Int,(xs[k].toNat:Int)=z:=⟨_,rfl⟩;rw[j]at s t;have e3:(x !=x)=false:=by simp
    have G:(k:Int) < (n:Int):=by omega
    clear f g j l;go_wp2_with fail;go_region
    all_goals go_wp2_with fail
    all_goals go_roundw
    case rel=>exact⟨k+1,by omega,by go_num,by first | exact b.out | exact b.out.drew | exact zAZ b _⟩
    case measure=>simp[intOf];omega
  · go_wp2_with fail;go_ret;exact⟨rfl,b⟩
theorem zXa {xs:List Nat} (hB:B≤w.heap.size) (o:xs.length=n) (p:Reads w B 1 A n (zRc xs)) (hb:Reads w B 1 m n (zRc xs)) (q:n≤maxLen):
 Calls prog 23 #[.slice A n c,.slice m n d] w fun e w'=>e=.returned true∧Below w.heap.size w w':=by
 have u:=zA o;have v:=zA p;have y:=zA hb;have C:n≤9223372036854775807:=q;have e2:((n:Int) !=(n:Int))=false:=by simp
 clear o p hb q;go_enter func23,ntmps23;go_wp2_with fail
 go_loopw [13] (fun i wr=>∃k:Nat,k≤n∧i=.int .i64 k∧Hid (Below w.heap.size w wr)) (fun i _=>n - (intOf i).toNat)
 case atStart=>exact⟨0,yAE _,rfl,Below.refl _ _⟩
 case round=>
  obtain⟨k,hk,rfl,b⟩:=hrel
  by_cases r:k < n
  · have l:k < xs.length:=by rw[u.out];exact r
    obtain⟨D,E,rfl,_,f⟩:=(v.out.below (b.out.mono hB)).spotR jo;have s:=f k (.int .u32 (xs[k]:Int)) (by simp[zRc,yAB l]);obtain⟨F,ob,rfl,_,g⟩:=(y.out.below (b.out.mono hB)).spotR jo;have t:=g k (.int .u32 (xs[k]:Int)) (by simp[zRc,yAB l]);obtain⟨x,j⟩:∃z:Int,(xs[k]:Int)=z:=⟨_,rfl⟩;rw[j]at s t;have e3:(x !=x)=false:=by simp
    have G:(k:Int) < (n:Int):=by omega
    clear f g j l;go_wp2_with fail;go_region
    all_goals go_wp2_with fail
    all_goals go_roundw
    case rel=>exact⟨k+1,by omega,by go_num,by first | exact b.out | exact b.out.drew | exact zAZ b _⟩
    case measure=>simp[intOf];omega
  · go_wp2_with fail;go_ret;exact⟨rfl,b⟩
theorem zXb {xs:List Int} (hB:B≤w.heap.size) (o:xs.length=n) (p:Reads w B 1 A n (zE1 xs)) (hb:Reads w B 1 m n (zE1 xs)) (q:n≤maxLen):
 Calls prog 24 #[.slice A n c,.slice m n d] w fun e w'=>e=.returned true∧Below w.heap.size w w':=by
 have u:=zA o;have v:=zA p;have y:=zA hb;have C:n≤9223372036854775807:=q;have e2:((n:Int) !=(n:Int))=false:=by simp
 clear o p hb q;go_enter func24,ntmps24;go_wp2_with fail
 go_loopw [13] (fun i wr=>∃k:Nat,k≤n∧i=.int .i64 k∧Hid (Below w.heap.size w wr)) (fun i _=>n - (intOf i).toNat)
 case atStart=>exact⟨0,yAE _,rfl,Below.refl _ _⟩
 case round=>
  obtain⟨k,hk,rfl,b⟩:=hrel
  by_cases r:k < n
  · have l:k < xs.length:=by rw[u.out];exact r
    obtain⟨D,E,rfl,_,f⟩:=(v.out.below (b.out.mono hB)).spotR jo;have s:=f k (.int .i64 xs[k]) (by simp[zE1,yAB l]);obtain⟨F,ob,rfl,_,g⟩:=(y.out.below (b.out.mono hB)).spotR jo;have t:=g k (.int .i64 xs[k]) (by simp[zE1,yAB l]);obtain⟨x,j⟩:∃z:Int,xs[k]=z:=⟨_,rfl⟩;rw[j]at s t;have e3:(x !=x)=false:=by simp
    have G:(k:Int) < (n:Int):=by omega
    clear f g j l;go_wp2_with fail;go_region
    all_goals go_wp2_with fail
    all_goals go_roundw
    case rel=>exact⟨k+1,by omega,by go_num,by first | exact b.out | exact b.out.drew | exact zAZ b _⟩
    case measure=>simp[intOf];omega
  · go_wp2_with fail;go_ret;exact⟨rfl,b⟩
def E8 (w:World) (N:Nat) (v0 v1 v2 v3 v4 v5 v6 v7:Value):Prop:=w.cell? N=some v0∧w.cell? ⟨N,1,none⟩=some v1∧w.cell? ⟨N,2,none⟩=some v2∧w.cell? ⟨N,3,none⟩=some v3∧w.cell? ⟨N,4,none⟩=some v4∧w.cell? ⟨N,5,none⟩=some v5∧w.cell? ⟨N,6,none⟩=some v6∧w.cell? ⟨N,7,none⟩=some v7
theorem E8.below {w':World} {N D:Nat} {v0 v1 v2 v3 v4 v5 v6 v7:Value} (h:E8 w N v0 v1 v2 v3 v4 v5 v6 v7) (hb:Below D w w') (c:N < D):E8 w' N v0 v1 v2 v3 v4 v5 v6 v7:=by
 have b:∀j,w'.cell? ⟨N,j,none⟩=w.cell? ⟨N,j,none⟩:=fun j=>hb.cell (p:=⟨N,j,none⟩) c;unfold E8;rw[b,b,b,b,b,b,b,b];exact h
theorem E8.new (w:World) (e:TypeId) (v0 v1 v2 v3 v4 v5 v6 v7:Value):E8 (w.alloc (.cells #[v0,v1,v2,v3,v4,v5,v6,v7] e)) w.heap.size v0 v1 v2 v3 v4 v5 v6 v7:=by
 refine⟨?_,?_,?_,?_,?_,?_,?_,?_⟩
 all_goals
  rw[World.cell?_alloc_at _ _ _ _ rfl];rfl
theorem zU4 {r Am g Ak j:Option Addr} {m cm k l ck o:Nat} {K k1 p:Int} {f:Bool} {q:ByteArray} (M:∀W,Below w.heap.size w W→Calls prog 22 #[.slice A n c,.slice r n c2] W fun e w'=>e=.returned true∧Below W.heap.size W w') (N:∀W,Below w.heap.size w W→Calls prog 23 #[.slice Am m cm,.slice g m k] W fun e w'=>e=.returned true∧Below W.heap.size W w') (O:∀W,Below w.heap.size w W→Calls prog 24 #[.slice Ak l ck,.slice j l o] W fun e w'=>e=.returned true∧Below W.heap.size W w'):
 Calls prog 21 #[.agg #[K,.string q,.slice A n c,k1,p,f,.slice Am m cm,.slice Ak l ck],.agg #[K,.string q,.slice r n c2,k1,p,f,.slice g m k,.slice j l o]] w fun e w'=>e=.returned true∧Below w.heap.size w w':=by
 obtain⟨V,s⟩:=jx (w.alloc (.cells #[K,.string q,.slice A n c,k1,p,f,.slice Am m cm,.slice Ak l ck] 43));obtain⟨W,t⟩:=jx (V.alloc (.cells #[K,.string q,.slice r n c2,k1,p,f,.slice g m k,.slice j l o] 43));have u:Below w.heap.size w V:=jb s;have v:Below V.heap.size V W:=jb t;have P:V.heap.size=w.heap.size+1:=by rw[←s];simp
 have sW:W.heap.size=V.heap.size+1:=by rw[←t];simp
 have y:=zA (u.trans (v.mono u.size));have Q:=(show E8 V w.heap.size (.int .i64 K) (.string q) (.slice A n c) (.int .i64 k1) (.int .i64 p) (.bool f) (.slice Am m cm) (.slice Ak l ck) by rw[←s];exact E8.new _ _ _ _ _ _ _ _ _ _).below v jo;have R:E8 W (w.heap.size+1) (.int .i64 K) (.string q) (.slice r n c2) (.int .i64 k1) (.int .i64 p) (.bool f) (.slice g m k) (.slice j l o):=by rw[←t,←P];exact E8.new _ _ _ _ _ _ _ _ _ _
 have z:w.heap.size < W.heap.size:=by omega
 have B:w.heap.size+1 < W.heap.size:=by omega
 have S:(w.alloc (.cells #[K,.string q,.slice A n c,k1,p,f,.slice Am m cm,.slice Ak l ck] 43)).alloc (.cells #[K,.string q,.slice r n c2,k1,p,f,.slice g m k,.slice j l o] 43)=W:=by rw[s];exact t
 clear s t u v P sW;have T:=zA M;have U:=zA N;have Y:=zA O;clear M N O;have E:=zA Q;have F:=zA R;obtain⟨p0,p1,p2,p3,p4,p5,p6,p7⟩:=Q;obtain⟨q0,q1,q2,q3,q4,q5,q6,q7⟩:=R;obtain⟨X,hX⟩:=jx w.heap.size;cases f
 all_goals
  go_enter func21,ntmps21;go_upto_region 1 with(fail);clear S;rw[hX]at p0 p1 p2 p3 p4 p5 p6 p7 q0 q1 q2 q3 q4 q5 q6 q7 E F z B;clear hX;go_wp2_with fail;refine(T.out W y).mono ?_;rintro e1 w1 ⟨rfl,b⟩;have C:=zA (y.out.trans (b.mono y.out.size));have G:=zA (E.out.below b z);have H:=zA (F.out.below b B);have I:=yAA z b.size;have J:=yAA B b.size;obtain⟨p0,p1,p2,p3,p4,p5,p6,p7⟩:=G.out;obtain⟨q0,q1,q2,q3,q4,q5,q6,q7⟩:=H.out;clear b;go_wp2_with fail;refine(U.out w1 C).mono ?_;rintro e2 w2 ⟨rfl,d⟩;have D:=zA (C.out.trans (d.mono C.out.size));have a0:=zA (G.out.below d I);have a1:=zA (H.out.below d J);have a3:=yAA I d.size;have a4:=yAA J d.size;obtain⟨p0,p1,p2,p3,p4,p5,p6,p7⟩:=a0.out;obtain⟨q0,q1,q2,q3,q4,q5,q6,q7⟩:=a1.out;clear d;go_wp2_with fail;refine(Y.out w2 D).mono ?_;rintro e3 w3 ⟨rfl,L⟩;have a2:=zA (D.out.trans (L.mono D.out.size));clear L;go_wp2_with fail;go_ret;exact⟨rfl,a2⟩
theorem zN9 {x:Nd} {s r:NdSl} (hB:B≤w.heap.size) (b:NdR w B x s) (c:NdR w B x r):
 Calls prog 21 #[.agg #[x.kind,x.name,.slice s.As x.str.length s.cs,x.nk,x.nn,x.neg,.slice s.Am x.mag.length s.cm,.slice s.Ak x.kids.length s.ck],.agg #[x.kind,x.name,.slice r.As x.str.length r.cs,x.nk,x.nn,x.neg,.slice r.Am x.mag.length r.cm,.slice r.Ak x.kids.length r.ck]] w fun e w'=>e=.returned true∧Below w.heap.size w w':=
 zU4 (fun _ hb=>zXZ (yAD hB hb.size) rfl (b.str.below (hb.mono hB)) (c.str.below (hb.mono hB)) (yAD b.cs.1 b.cs.2)) (fun _ hb=>zXa (yAD hB hb.size) rfl (b.mag.below (hb.mono hB)) (c.mag.below (hb.mono hB)) (yAD b.cm.1 b.cm.2))
  (fun _ hb=>zXb (yAD hB hb.size) rfl (b.kids.below (hb.mono hB)) (c.kids.below (hb.mono hB)) (yAD b.ck.1 b.ck.2))
theorem zRb {L:Option Addr} (hN:NdsR w B A n ts) (M:NdsR w B L n ts) (hB:B≤w.heap.size) (hn:n≤4096):
 Calls prog 20 #[.slice A n c,.slice L n c2,.func (.func 21) #[] #[]] w fun e w'=>e=.returned true∧Below w.heap.size w w':=by
 have HN:=zA hN;have HM:=zA M;have HB:=zA hB;have e2:((n:Int) !=(n:Int))=false:=by simp
 clear hN M hB;go_enter func20,ntmps20;go_wp2_with fail
 go_loopw [17] (fun i wr=>∃k:Nat,k≤n∧i=.int .i64 (k:Int)∧Hid (Below w.heap.size w wr)) (fun i _=>n - (intOf i).toNat)
 case atStart=>exact⟨0,yAE _,rfl,Below.refl _ _⟩
 case round=>
  obtain⟨k,hk,rfl,f⟩:=hrel
  by_cases q:k < n
  · have h1:(k:Int) < (n:Int):=by omega
    have g:=HB.out;have j:=f.out.size;obtain⟨b,o,x,s,rfl,N,O,hC,P⟩:=(HN.out.below (f.out.mono g)).get q;obtain⟨Q,R,S,T,U,V,Y,a0⟩:=hC;obtain⟨b',o',y,r,rfl,F,hy,t,u⟩:=(HM.out.below (f.out.mono g)).get q;obtain rfl:x=y:=Option.some.inj (O.symm.trans hy);have v:=zA t;have C:=zA (fun(W:World) (hb:Below wr.heap.size wr W)=>zN9 (yAD (yAD g j) hb.size) (P.below (hb.mono (yAD g j))) (u.below (hb.mono (yAD g j))));clear O hy t P u;go_upto_region 6 with(fail);obtain⟨d,l⟩:=jx (wr.alloc (.cells #[x.kind,x.name,.slice s.As x.str.length s.cs,x.nk,x.nn,x.neg,.slice s.Am x.mag.length s.cm,.slice s.Ak x.kids.length s.ck] 43));rw[l];have G:Below wr.heap.size wr d:=jb l;have s1:d.heap.size=wr.heap.size+1:=by rw[←l];simp
    have nx:=zA (show E8 d wr.heap.size _ _ _ _ _ _ _ _ from by rw[←l];exact E8.new wr _ _ _ _ _ _ _ _ _);obtain⟨d0,d1,d2,d3,d4,d5,d6,d7⟩:=v.out.below G (show b' < wr.heap.size by omega);clear Q R S T U V Y a0 l v;go_upto_region 7 with(fail);obtain⟨p,m⟩:=jx (d.alloc (.cells #[x.kind,x.name,.slice r.As x.str.length r.cs,x.nk,x.nn,x.neg,.slice r.Am x.mag.length r.cm,.slice r.Ak x.kids.length r.ck] 43));rw[m];have H:Below d.heap.size d p:=jb m;have I:=zA (show E8 p d.heap.size _ _ _ _ _ _ _ _ from by rw[←m];exact E8.new d _ _ _ _ _ _ _ _ _);have z:=zA (nx.out.below H (show wr.heap.size < d.heap.size by omega));have BW:=zA (G.trans (H.mono jo));have CC:=zA (C.out p BW);have D:=zA (f.out.trans (BW.out.mono j));rw[s1]at I;obtain⟨p0,p1,p2,p3,p4,p5,p6,p7⟩:=z.out;obtain⟨v0,v1,v2,v3,v4,v5,v6,v7⟩:=I.out;obtain⟨X,J⟩:=jx wr.heap.size;rw[J]at p0 p1 p2 p3 p4 p5 p6 p7 v0 v1 v2 v3 v4 v5 v6 v7;rw[J];clear m d0 d1 d2 d3 d4 d5 d6 d7 G s1 H nx I z J C j f N F;go_wp2_with fail;refine CC.out.mono ?_;rintro e3 W3 ⟨rfl,E⟩;have a1:=zA (D.out.trans (E.mono D.out.size));clear E;go_wp2_with fail
    go_roundw
    case rel=>exact⟨k+1,by omega,by go_num,a1⟩
    case measure=>simp[intOf];omega
  · have h2:decide ((k:Int) < (n:Int))=false:=yAI jo;obtain rfl:k=n:=by omega
    go_wp2_with fail;go_ret;exact⟨rfl,f⟩
theorem zU5 {g:Option Addr} {j:Nat} {q:Bool} (C:∀W,Below w.heap.size w W→Calls prog 20 #[.slice A n c,.slice g j c2,.func (.func 21) #[] #[]] W fun e w'=>e=.returned q∧Below W.heap.size W w'):
 Calls prog 9 #[.agg #[.slice A n c],.agg #[.slice g j c2]] w fun e w'=>e=.returned q∧Below w.heap.size w w':=by
 have b:Below w.heap.size w ((w.alloc (.cells #[.slice A n c] 24)).alloc (.cells #[.slice g j c2] 24)):=(ja).alloc js _;have d:=zA b;have l:=zA (C _ b);clear b C;go_enter func9,ntmps9;go_wp2_with fail;refine l.out.mono ?_;rintro e1 w1 ⟨rfl,f⟩;have k:=zA (d.out.trans (f.mono d.out.size));clear f;go_wp2_with fail;go_ret;exact⟨rfl,k⟩
theorem zU6 {b:Option Addr} (hN:NdsR w B A n ts) (d:NdsR w B b n ts) (hB:B≤w.heap.size) (f:n≤4096):
 Calls prog 9 #[.agg #[.slice A n c],.agg #[.slice b n c2]] w fun e w'=>e=.returned true∧Below w.heap.size w w':=
 zU5 fun _ hb=>zRb (hN.below (hb.mono hB)) (d.below (hb.mono hB)) (yAD hB hb.size) f
theorem zCU {w1 w2:World} (h1:Below w.heap.size w w1) (b:Below w1.heap.size w1 w2):Below w.heap.size w w2:=h1.trans (b.mono h1.size)
theorem zI0 (A:Option Addr) (c:Nat) (u:List UInt16) (hc:u.length≤c) (hm:c≤maxLen) (w:World) (I:Reads w w.heap.size 1 A u.length (zAM u)) (s:Tab w):
 Calls prog 4 #[.slice A u.length c] w fun e w'=>e=.returned true∧Below w.heap.size w w':=by
 obtain⟨N,hN⟩:=jx u.length;rw[hN]at I hc⊢;obtain⟨⟨ts,a,e⟩,hq⟩:=jx (zBF u);obtain⟨n,hn⟩:=jx ts.length;have HT:=zA (fun(x:World) (hb:Below w.heap.size w x)=>s.below s.lt hb);have HL:=zA s.lt;have J:=zA (fun(x:World) (hb:Below w.heap.size w x)=>zN8 (HT.out x hb));have CP:=zA (fun(x:World) (hb:Below w.heap.size w x)=>zGO hb.size hN (I.below hb) hc hm (HT.out x hb) hq hn);have HQ:=zA hq;have M:=zA hn;have a1:=zA (Below.refl w.heap.size w);have b8:=zA hN;clear s I hN hq hn hc;go_enter func4,ntmps4;go_wp2_with fail;refine(J.out w a1).mono ?_;rintro e1 w1 ⟨rfl,a2⟩;have y:=zA a2;clear a2 a1
 by_cases a0:5000 < N
 · have h2:(5000:Int) < (N:Int):=by omega
   go_wp2_with fail;refine(J.out w1 y).mono ?_;rintro e2 w2 ⟨rfl,z⟩;have b:=zA (zCU y z);clear z;go_wp2_with fail;go_ret;exact⟨rfl,b⟩
 have c1:¬(5000:Int) < (N:Int):=by omega
 clear a0;go_wp2_with fail;refine(CP.out w1 y).mono ?_;rintro e2 w2 ⟨A2,c2,rfl,a3,a4,b9,z⟩;obtain⟨f,E⟩:=jx (w2.alloc (.cells #[.slice A2 n c2] 24));have hg:Below w2.heap.size w2 f:=jb E;obtain⟨T,s⟩:=jx w2.heap.size;have z2:f.cell? T=some (.slice A2 n c2):=by rw[←E,←s,World.cell?_alloc_at _ _ _ _ rfl];rfl
 have C:T < f.heap.size:=by rw[←s,←E];simp
 have b:=zA (zCU (zCU y z) hg);have O:=zA (fun(x:World) (hb:Below f.heap.size f x)=>((a3.below hg).more hg.size).below hb);have a5:=zA a4;clear z a3 a4 b9 hg CP y;go_upto_region 6 with(fail);clear E s
 by_cases he:e=0
 rotate_left
 · obtain⟨rfl,ha⟩:=zWx HQ he;obtain rfl:n=0:=M.out.symm;rw[b8.out]at ha;have eE:((e:Int) !=0)=true:=by rw[bne_iff_ne];omega
   have c4:(a:Int)≤(N:Int):=by omega
   have c5:(0:Int)≤(a:Int):=by omega
   clear he ha;go_wp2_with fail;refine(J.out f b).mono ?_;rintro e3 w3 ⟨rfl,g⟩;have z3:=(g.cell (p:=T) C).trans z2;have k:=zA (zCU b g);clear g z2 C;go_wp2_with fail;go_ret;exact⟨by simp,k⟩
 subst he;obtain⟨rfl,P,b7,t,hM⟩:=zQ5 HQ;have a6:n≤4096:=by rw[←M.out];exact hM.len
 have HM:=zA hM;have a7:=zA (O.out f (Below.refl _ _)).limbs;have C2:=zA (zQT (c:=c2) (O.out f (Below.refl _ _)) (yAC _) a5 jo P);have CR:=zA (fun(x:World) (hb:Below f.heap.size f x)=>zQo (c:=c2) (O.out x hb) hb.size a5 jo (HT.out x (zCU b hb)) (yAA HL b.out.size) HM (zTu HM a7));have CS:=zA (fun(x:World) (hb:Below f.heap.size f x) (Q:Option Addr) (c3:Nat) (h:NdsR x x.heap.size Q n ts)=>zU6 (c:=c3) (c2:=c2) h ((O.out x hb).more hb.size) (yAC _) a6);have c6:(((0:Nat):Int) !=0)=false:=rfl;clear P b7 hM a6;go_wp2_with fail;refine C2.out.mono ?_;rintro e3 w3 ⟨rfl,g⟩;have z3:=(g.cell (p:=T) C).trans z2;have F:=yAA C g.size;have k:=zA g;clear g z2 C C2 O;go_wp2_with fail;refine(CR.out w3 k).mono ?_;rintro e4 w4 ⟨l,⟨_,rfl⟩ | ⟨D,v,rfl,R⟩⟩
 · have o:=zA (zCU b (zCU k l));clear l z3 F;go_wp2_with fail;refine(J.out w4 o).mono ?_;rintro e5 S ⟨rfl,j⟩;have G:=zA (zCU o j);clear j;go_wp2_with fail;go_ret;exact⟨rfl,G⟩
 have hp:=zWh HM a7 D;obtain⟨U,hU⟩:=jx (zEc t);rw[hU]at hp D R;obtain⟨B,d,rfl,a8,a9,I⟩:=R.u16;have z4:=(l.cell (p:=T) F).trans z3;have V:=yAA F l.size;have o:=zA (zCU k l);have C4:=zA (zGO (yAC _) rfl I a8 a9 (HT.out _ (zCU b o)) hp M);obtain⟨m,b0⟩:=jx U.length;rw[b0]at C4⊢;clear l z3 F k hU R I hp b0 a8 a9 D CR;go_wp2_with fail;refine C4.out.mono ?_;rintro e5 S ⟨Q,c3,rfl,b1,_,_,j⟩;have z5:=(j.cell (p:=T) V).trans z4;have W:=yAA V j.size;have G:=zA (zCU o j);obtain⟨L,H⟩:=jx (S.alloc (.cells #[.slice Q n c3] 24));have hg:Below S.heap.size S L:=jb H;obtain⟨X,hX⟩:=jx S.heap.size;have y6:L.cell? X=some (.slice Q n c3):=by rw[←H,←hX,World.cell?_alloc_at _ _ _ _ rfl];rfl
 have b2:X < L.heap.size:=by rw[←hX,←H];simp
 have z6:=(hg.cell (p:=T) W).trans z5;have b3:=yAA W hg.size;have Y:=zA (zCU G hg);have b4:=zA ((b1.below hg).more hg.size);clear j z4 V o b1 hg z5 W G C4;go_upto_region 14 with(fail);clear H hX;go_wp2_with fail;refine(J.out L (zCU b Y)).mono ?_;rintro e7 w7 ⟨rfl,r⟩;have z7:=(r.cell (p:=T) b3).trans z6;have y7:=(r.cell (p:=X) b2).trans y6;have b5:=zA (zCU Y r);have C7:=zA (CS.out w7 b5 Q c3 ((b4.out.below r).more r.size));clear r z6 y6 b3 b2 Y b4 CS J;go_wp2_with fail;refine C7.out.mono ?_;rintro e8 w8 ⟨rfl,b6⟩;have c0:=zA (zCU b5 b6);clear b6;go_wp2_with fail;go_ret;exact⟨rfl,zCU b c0⟩
end Go.Proofs.YtlnbbaehihgigaaGreatDoor
