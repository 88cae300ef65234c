/- Joined for the claim ParseBack: the parser, the lexer and the trees as they are walked, made short by a program of mine. -/
import Derived.Test.YtlnbbaehihgigaaGreatDoorB14
import Derived.Test.YtlnbbaehihgigaaGreatDoorB01
import Derived.Deep.RegionHeld3
import Derived.Deep.DeepCutAuto
import Derived.Test.YtlnbbaehihgigaaGreatDoorB07
import Derived.Deep.CutBlock
import Derived.Test.YtlnbbaehihgigaaGreatDoorB10
set_option maxHeartbeats 16000000
set_option maxRecDepth 1000000
namespace Go.Proofs.YtlnbbaehihgigaaGreatDoor
open Go.Proofs.Tryz
variable {w:World} {A m:Option Addr} {ts:List Nd} {c n B c2 d:Nat} {b:List Tr} {u:List UInt16} {x:Tr} {k:Int}
set_option linter.unusedSimpArgs false
set_option linter.unusedVariables false
def cS (p:Ph) (s:Ps):Nat:=match p with
 | .program acc=>1+sizes acc
 | .blockL acc=>if s.bad≠0 then 1+sizes acc else 3+sizes acc
 | .item=>2
 | .declares=>2
 | .declL _ acc=>2+sizes acc
 | .func _ _=>3
 | .params=>2
 | .paramL acc=>2+sizes acc
 | .statement=>2
 | .simple=>2
 | .word _=>2
 | .loop=>2
 | .jump _=>2
 | .tries=>2
 | .body l=>2+sizes l
 | .nullL x=>x.size
 | .orL x=>x.size
 | .both x=>x.size
 | .levelL _ x=>x.size
 | .callsL x=>x.size
 | .headL x=>x.size
 | .args=>2
 | .list _=>2
 | .listL _ acc=>2+sizes acc
 | .object=>2
 | .objL acc=>2+sizes acc
 | _=>1
def dS (p:Ph):Option Nat:=match p with
 | .block=>some 4
 | .item=>some 0
 | .declares=>some 2
 | .params=>some 6
 | .statement=>some 2
 | .simple=>some 2
 | .word _=>some 2
 | .loop=>some 2
 | .jump _=>some 2
 | .tries=>some 2
 | .args=>some 0
 | .prop=>some 1
 | .assign=>some 4
 | .cond=>some 4
 | .either=>some 4
 | .level _=>some 4
 | .unary=>some 4
 | .calls=>some 4
 | .head=>some 4
 | .primary=>some 4
 | _=>none
def Z (s:Ps) (c:Nat) (d:Option Nat) (r:Tr×Ps):Prop:=r.1.size+16*s.k≤16*r.2.k+c∧∀e,d=some e→s.k < r.2.k→r.1.size+e+16*s.k≤16*r.2.k
theorem zAL {s:Ps} {d:Option Nat} {q:Prop} [Decidable q] {a b:Tr×Ps} (h1:q→Z s c d a) (e:¬q→Z s c d b):Z s c d (if q then a else b):=by
 by_cases h:q
 · rw[if_pos h];exact h1 h
 · rw[if_neg h];exact e h
theorem zAP (s:Ps):(zB s).k=s.k+1:=rfl
theorem zAU (k:Int) (l:List Tr):(trK k l).size=1+sizes l:=zh _ _
theorem zAV (k:Int) (n:List UInt8) (l:List Tr):(trN k n l).size=1+sizes l:=zh _ _
theorem zDu (t:Tr):t.size=1+sizes t.subs:=by cases t with | mk x l=>exact zh x l
structure Kz (L:List Tok) (R:Ph→Ps→Tr×Ps):Prop where
 post:∀q s,Pre L q s→Post L q s (R q s).2
 z:∀q s,Pre L q s→Z s (cS q s) (dS q) (R q s)
section
variable {L:List Tok} {R:Ph→Ps→Tr×Ps} {s:Ps} {q:Ph}
theorem Kz.e (K:Kz L R) (b:Pre L q s) (g:zYs q=true) (j:cS q s=c) (l:dS q=some d):s.k≤(R q s).2.k∧(R q s).2.k≤L.length - 1∧(s.k < L.length - 1→s.k < (R q s).2.k)∧(s.k=L.length - 1→(R q s).2.bad≠0)∧(R q s).1.size+16*s.k≤16*(R q s).2.k+c∧(s.k < (R q s).2.k→(R q s).1.size+d+16*s.k≤16*(R q s).2.k):=by
 have h1:=K.post q s b;unfold Post at h1;rw[if_pos g]at h1;have f:=K.z q s b;exact⟨h1.adv.le,h1.adv.hi,h1.more,h1.stop,j▸f.1,f.2 d l⟩
theorem Kz.a (K:Kz L R) (b:Pre L q s) (d:cS q s=c):s.k≤(R q s).2.k∧(R q s).2.k≤L.length - 1∧(R q s).1.size+16*s.k≤16*(R q s).2.k+c:=by
 have h1:=(K.post q s b).adv;exact⟨h1.le,h1.hi,d▸(K.z q s b).1⟩
theorem zBk (b:Lst L) {w:List UInt8} (h:s.k≤L.length - 1):s.k≤(zP L w s).k∧(zP L w s).k≤L.length - 1∧(s.k < L.length - 1→s.k < (zP L w s).k):=⟨(zc b h).adv.le,(zc b h).adv.hi,(zc b h).more⟩
theorem zHs (b:Lst L) (h:s.k≤L.length - 1):s.k≤(zo L s).2.k∧(zo L s).2.k≤L.length - 1∧(s.k < L.length - 1→s.k < (zo L s).2.k)∧(s.k=L.length - 1→(zo L s).2.bad≠0):=⟨(zA8 b h).adv.le,(zA8 b h).adv.hi,(zA8 b h).more,(zA8 b h).stop⟩
theorem zG1 (b:Lst L) (h:s.k≤L.length - 1):s.k≤(zEF L s).k∧(zEF L s).k≤L.length - 1:=⟨(zCP b h).le,(zCP b h).hi⟩
theorem zQ3 (f:Lst L) (K:Kz L R) (g:Pre L (.program b) s):Z s (cS (.program b) s) (dS (.program b)) (zD L R (.program b) s):=by
 have hs:=g.1;unfold zD cS dS;dsimp only;refine zAL (fun h=>?_) (fun h=>?_);rotate_left;have l:=f.lt hs h;obtain⟨a1,j,c1,d1,e1,f1⟩:=K.e (q:=.item) (s:=s) ⟨hs,trivial⟩ rfl (c:=2) (d:=0) rfl rfl;obtain⟨a2,m,e2⟩:=K.a (q:=.program (b++[(R .item s).1])) (s:=(R .item s).2) ⟨j,trivial⟩ (c:=1+sizes (b++[(R .item s).1])) (rfl);rotate_left
 all_goals
  (refine⟨?_,fun e k hk=>by cases k⟩<;>(try simp only[zAU,zAV,zh,zG,zL,zf,zAP]at *)<;>omega)
theorem zUE {w:List UInt8}:(zP L w s).bad≠0∨s.k < (zP L w s).k:=by
 unfold zP;split
 · right;exact yAF _
 · left;exact zHQ
theorem zWP (f:Lst L) (K:Kz L R) (g:Pre L (.block) s):Z s (cS (.block) s) (dS (.block)) (zD L R (.block) s):=by
 have hs:=g.1;unfold zD cS dS;dsimp only;obtain⟨a1,j,c1⟩:=zBk (s:=s) (w:=[123]) f (hs);have c:=zUE (w:=[123]) (L:=L) (s:=s);obtain⟨p1,p2,p3⟩:=K.a (q:=.blockL []) (s:=zP L [123] s) ⟨j,trivial⟩ rfl;unfold cS at p3;dsimp only at p3;refine⟨?_,fun e b hk=>?_⟩
 · rcases c with h | h
   · rw[if_pos h]at p3;simp only[zL]at p3;omega
   · have:(if(zP L [123] s).bad≠0 then 1+sizes []else 3+sizes [])≤3:=by split<;>simp only[zL]<;>omega
     omega
 · injection b with b;subst b;have:(if(zP L [123] s).bad≠0 then 1+sizes []else 3+sizes [])≤3:=by split<;>simp only[zL]<;>omega
   rcases Nat.lt_or_ge s.k (L.length - 1)with d | d
   · have:=c1 d;omega
   · omega
theorem zUF (l:Lst L) (K:Kz L R) (m:Pre L (.blockL b) s):Z s (cS (.blockL b) s) (dS (.blockL b)) (zD L R (.blockL b) s):=by
 have hs:=m.1;unfold zD cS dS;dsimp only;refine zAL (fun h=>?_) (fun h=>?_)
 · rw[if_pos h]
   (refine⟨?_,fun e f hk=>by cases f⟩<;>(try simp only[zAU,zAV,zh,zG,zL,zf,zAP]at *)<;>omega)
 · rw[if_neg h];refine zAL (fun g=>?_) (fun g=>?_)
   · have p:=l.on hs g
     (refine⟨?_,fun e f hk=>by cases f⟩<;>(try simp only[zAU,zAV,zh,zG,zL,zf,zAP]at *)<;>omega)
   · obtain⟨a1,o,c1,d1,e1,f1⟩:=K.e (q:=.item) (s:=s) ⟨hs,trivial⟩ rfl (c:=2) (d:=0) rfl rfl;obtain⟨p1,p2,p3⟩:=K.a (q:=.blockL (b++[(R .item s).1])) (s:=(R .item s).2) ⟨o,trivial⟩ rfl;unfold cS at p3;dsimp only at p3;refine⟨?_,fun e f hk=>by cases f⟩;rcases Nat.lt_or_ge s.k (L.length - 1)with j | j
     · have:=f1 (c1 j)
       by_cases h6:(R .item s).2.bad≠0
       · rw[if_pos h6]at p3;simp only[zf,zG,zL]at p3;omega
       · rw[if_neg h6]at p3;simp only[zf,zG,zL]at p3;omega
     · rw[if_pos (d1 jo)]at p3;simp only[zf,zG,zL]at p3;omega
theorem zXE (b:Lst L) (K:Kz L R) (m:Pre L (.item) s):Z s (cS (.item) s) (dS (.item)) (zD L R (.item) s):=by
 have hs:=m.1;unfold zD cS dS;dsimp only;refine zAL (fun h=>?_) (fun h=>?_);obtain⟨a1,o,c1,d1,e1,f1⟩:=K.e (q:=.declares) (s:=s) ⟨hs,trivial⟩ rfl (c:=2) (d:=2) rfl rfl;obtain⟨a2,t⟩:=zG1 (s:=(R .declares s).2) b (o);have f:s.k < L.length - 1:=by
  rcases Bool.or_eq_true _ _ |>.mp h with h | h
  · exact b.on hs h
  · exact b.on hs h
 have g1:=c1 f;have g2:=f1 g1;clear c1 f1 d1;rotate_left;refine zAL (fun l=>?_) (fun l=>?_);have f:=b.on hs l;obtain⟨a3,p,c3,d3⟩:=zHs (s:=zB s) b ((by show s.k+1≤_;omega));obtain⟨a4,u,e4⟩:=K.a (q:=.func 19 (zo L (zB s)).1) (s:=(zo L (zB s)).2) ⟨p,trivial⟩ (c:=3) (rfl);rotate_left;obtain⟨a5,v,c5,d5,e5,r⟩:=K.e (q:=.statement) (s:=s) ⟨hs,trivial⟩ rfl (c:=2) (d:=2) rfl rfl;have g:=r;rotate_left
 all_goals
  (refine⟨?_,fun e j hk=>?_⟩<;>(try (injection j with j;subst j))<;>(try simp only[zAU,zAV,zh,zG,zL,zf,zAP]at *)<;>omega)
theorem zNl (d:Lst L) (K:Kz L R) (g:Pre L (.declares) s):Z s (cS (.declares) s) (dS (.declares)) (zD L R (.declares) s):=by
 have hs:=g.1;unfold zD cS dS;dsimp only;refine zAL (fun h=>?_) (fun h=>?_)
 · have l:=d.on hs h;obtain⟨a1,m,e1⟩:=K.a (q:=.declL 6 []) (s:=zB s) ⟨(by show s.k+1≤_;omega),trivial⟩ (c:=2+sizes []) (rfl)
   (refine⟨?_,fun e b hk=>?_⟩<;>(try (injection b with b;subst b))<;>(try simp only[zAU,zAV,zh,zG,zL,zf,zAP]at *)<;>omega)
 · obtain⟨a2,j,c2⟩:=zBk (s:=s) (w:=[108,101,116]) d (hs);obtain⟨a3,o,e3⟩:=K.a (q:=.declL 5 []) (s:=zP L [108,101,116] s) ⟨j,trivial⟩ (c:=2+sizes []) (rfl);refine⟨?_,fun e b hk=>?_⟩
   · simp only[zL]at e3;omega
   · injection b with b;subst b;simp only[zL]at e3;rcases Nat.lt_or_ge s.k (L.length - 1)with f | f
     · have:=c2 f;omega
     · omega
theorem zWQ (f:Lst L) (K:Kz L R) (p:Pre L (.declL k b) s):Z s (cS (.declL k b) s) (dS (.declL k b)) (zD L R (.declL k b) s):=by
 have hs:=p.1;unfold zD cS dS;dsimp only;obtain⟨a1,g,c1,d1⟩:=zHs (s:=s) f (hs)
 try simp only[zAP]at a1 g c1 d1
 obtain⟨d,j⟩:=jx ((if onP L [61] (zo L s).2=true then(trN 7 (zo L s).1 [(R .assign (zB (zo L s).2)).1],(R .assign (zB (zo L s).2)).2)else(trN 7 (zo L s).1 [],(zo L s).2):Tr×Ps));have r:(zo L s).2.k≤d.2.k∧d.2.k≤L.length - 1∧d.1.size+16*(zo L s).2.k≤16*d.2.k+1∧(s.k=L.length - 1→d.2.bad≠0):=by
  rw[←j];split
  · rename_i c
    have l:=f.on g c;obtain⟨a2,m,c2,d2,e2,t⟩:=K.e (q:=.assign) (s:=zB (zo L s).2) ⟨by show(zo L s).2.k+1≤_;omega,trivial⟩ rfl (c:=1) (d:=4) rfl rfl
    try simp only[zAP]at a2 m c2 d2 e2 t
    dsimp only;refine⟨by omega,m,by simp only[zAV,zG,zL];omega,fun h=>by omega⟩
  · exact⟨yAC _,g,by simp only[zAV,zL];omega,d1⟩
 rw[j];clear j;obtain⟨q1,q2,q3,q4⟩:=r;refine zAL (fun h=>?_) (fun h=>?_);rotate_left;refine zAL (fun o=>?_) (fun o=>?_);have l:=f.on q2 o;obtain⟨a3,u,e3⟩:=K.a (q:=.declL k (b++[d.1])) (s:=zB d.2) ⟨by show d.2.k+1≤_;omega,trivial⟩ (c:=2+sizes (b++[d.1])) (rfl)
 try simp only[zAP]at a3 u e3
 rotate_left;rotate_left
 all_goals
  (refine⟨?_,fun e v hk=>by cases v⟩<;>(try simp only[zAU,zAV,zh,zG,zL,zf,zAP]at *)<;>omega)
theorem zXF (j:Lst L) (K:Kz L R) {m:List UInt8} (b:Pre L (.func k m) s):Z s (cS (.func k m) s) (dS (.func k m)) (zD L R (.func k m) s):=by
 have hs:=b.1;unfold zD cS dS;dsimp only;obtain⟨a1,f,c1,d1,e1,f1⟩:=K.e (q:=.params) (s:=s) ⟨hs,trivial⟩ rfl (c:=2) (d:=6) rfl rfl;obtain⟨a2,l,c2,d2,e2,o⟩:=K.e (q:=.block) (s:=(R .params s).2) ⟨f,trivial⟩ rfl (c:=1) (d:=4) rfl rfl;have p:=zDu (R .params s).1
 (refine⟨?_,fun e g hk=>by cases g⟩<;>(try simp only[zAU,zAV,zh,zG,zL,zf,zAP]at *)<;>omega)
theorem zUG (d:Lst L) (K:Kz L R) (g:Pre L (.params) s):Z s (cS (.params) s) (dS (.params)) (zD L R (.params) s):=by
 have hs:=g.1;unfold zD cS dS;dsimp only;obtain⟨a1,f,c1⟩:=zBk (s:=s) (w:=[40]) d (hs);refine zAL (fun h=>?_) (fun h=>?_);have j:=d.on f h;rotate_left;obtain⟨a2,k,e2⟩:=K.a (q:=.paramL []) (s:=zP L [40] s) ⟨f,trivial⟩ (c:=2+sizes []) (rfl);simp only[zL]at e2;rotate_left
 all_goals
  (refine⟨?_,fun e b hk=>?_⟩<;>(try (injection b with b;subst b))<;>(try simp only[zAU,zAV,zh,zG,zL,zf,zAP]at *)<;>omega)
theorem zUH (d:Lst L) (K:Kz L R) (m:Pre L (.paramL b) s):Z s (cS (.paramL b) s) (dS (.paramL b)) (zD L R (.paramL b) s):=by
 have hs:=m.1;unfold zD cS dS;dsimp only;obtain⟨a1,f,c1,d1⟩:=zHs (s:=s) d (hs);refine zAL (fun h=>?_) (fun h=>?_);rotate_left;refine zAL (fun g=>?_) (fun g=>?_);have j:=d.on f g;rotate_left;obtain⟨a2,o,c2⟩:=zBk (s:=(zo L s).2) (w:=[44]) d (f);obtain⟨a3,r,e3⟩:=K.a (q:=.paramL (b++[trN 20 (zo L s).1 []])) (s:=zP L [44] (zo L s).2) ⟨o,trivial⟩ (c:=2+sizes (b++[trN 20 (zo L s).1 []])) (rfl);have j:s.k < L.length - 1:=by
  rcases Nat.lt_or_ge s.k (L.length - 1)with l | l
  · exact l
  · exact absurd (d1 jo) h
 rotate_left
 all_goals
  (refine⟨?_,fun e p hk=>by cases p⟩<;>(try simp only[zAU,zAV,zh,zG,zL,zf,zAP]at *)<;>omega)
theorem zKz (b:Lst L) (K:Kz L R) (m:Pre L (.statement) s):Z s (cS (.statement) s) (dS (.statement)) (zD L R (.statement) s):=by
 have hs:=m.1;unfold zD cS dS;dsimp only;refine zAL (fun h=>?_) (fun h=>?_);have f:=b.lt hs (by rw[h.1];decide);have o:=zK7 b f h.2;obtain⟨a1,r,c1,d1,e1,f1⟩:=K.e (q:=.statement) (s:=zB (zB s)) ⟨by show s.k+1+1≤_;omega,trivial⟩ rfl (c:=2) (d:=2) rfl rfl;rotate_left;refine zAL (fun j=>?_) (fun j=>?_);obtain⟨a2,t,c2,d2,e2,u⟩:=K.e (q:=.word (zI L s.k).text) (s:=s) ⟨hs,b.lt hs (by rw[j];decide)⟩ rfl (c:=2) (d:=2) rfl rfl;rotate_left;refine zAL (fun l=>?_) (fun l=>?_);have f:=b.on hs l;rotate_left;refine zAL (fun p=>?_) (fun p=>?_);obtain⟨a3,v,c3,d3,e3,f3⟩:=K.e (q:=.block) (s:=s) ⟨hs,trivial⟩ rfl (c:=1) (d:=4) rfl rfl;rotate_left;obtain⟨a4,y,c4,d4,e4,z⟩:=K.e (q:=.simple) (s:=s) ⟨hs,trivial⟩ rfl (c:=2) (d:=2) rfl rfl;rotate_left
 all_goals
  (refine⟨?_,fun e g hk=>?_⟩<;>(try (injection g with g;subst g))<;>(try simp only[zAU,zAV,zh,zG,zL,zf,zAP]at *)<;>omega)
theorem zUI (f:Lst L) (K:Kz L R) (g:Pre L (.simple) s):Z s (cS (.simple) s) (dS (.simple)) (zD L R (.simple) s):=by
 have hs:=g.1;unfold zD cS dS;dsimp only;obtain⟨a1,j,c1,d1,e1,f1⟩:=K.e (q:=.assign) (s:=s) ⟨hs,trivial⟩ rfl (c:=1) (d:=4) rfl rfl;obtain⟨a2,k⟩:=zG1 (s:=(R .assign s).2) f (j)
 (refine⟨?_,fun e b hk=>?_⟩<;>(try (injection b with b;subst b))<;>(try simp only[zAU,zAV,zh,zG,zL,zf,zAP]at *)<;>omega)
theorem zXG (g:Lst L) (K:Kz L R) {w:List UInt8} (l:Pre L (.word w) s):Z s (cS (.word w) s) (dS (.word w)) (zD L R (.word w) s):=by
 have hs:=l.1;unfold zD cS dS;dsimp only;have b:s.k < L.length - 1:=l.2;have F:(ze L s).k=L.length - 1:=rfl;refine zAL (fun h1=>?_) (fun h1=>?_);obtain⟨a1,r,e1⟩:=K.a (q:=.within) (s:=zB s) ⟨by show s.k+1≤_;omega,trivial⟩ (c:=1) (rfl);obtain⟨a2,t,c2,d2,e2,f2⟩:=K.e (q:=.statement) (s:=(R .within (zB s)).2) ⟨r,trivial⟩ rfl (c:=2) (d:=2) rfl rfl;refine zAL (fun h=>?_) (fun h=>?_);have u:=g.on t h;obtain⟨a3,b3,c3,d3,e3,f3⟩:=K.e (q:=.statement) (s:=zB (R .statement (R .within (zB s)).2).2) ⟨by show(R .statement (R .within (zB s)).2).2.k+1≤_;omega,trivial⟩ rfl (c:=2) (d:=2) rfl rfl;rotate_left;rotate_left;refine zAL (fun v=>?_) (fun v=>?_);obtain⟨a4,y,e4⟩:=K.a (q:=.within) (s:=zB s) ⟨by show s.k+1≤_;omega,trivial⟩ (c:=1) (rfl);obtain⟨a5,b5,c5,d5,e5,f5⟩:=K.e (q:=.statement) (s:=(R .within (zB s)).2) ⟨y,trivial⟩ rfl (c:=2) (d:=2) rfl rfl;rotate_left;refine zAL (fun z=>?_) (fun z=>?_);obtain⟨a6,b6,c6,d6,e6,f6⟩:=K.e (q:=.loop) (s:=s) ⟨hs,b⟩ rfl (c:=2) (d:=2) rfl rfl;rotate_left;refine zAL (fun A=>?_) (fun A=>?_);obtain⟨a7,b7,c7,d7,e7,f7⟩:=K.e (q:=.jump 12) (s:=s) ⟨hs,b⟩ rfl (c:=2) (d:=2) rfl rfl;rotate_left;refine zAL (fun B=>?_) (fun B=>?_);obtain⟨a8,b8,c8,d8,e8,f8⟩:=K.e (q:=.jump 13) (s:=s) ⟨hs,b⟩ rfl (c:=2) (d:=2) rfl rfl;rotate_left;refine zAL (fun h6=>?_) (fun h6=>?_);refine zAL (fun h=>?_) (fun h=>?_);obtain⟨a9,b9⟩:=zG1 (s:=zB s) g (by show s.k+1≤_;omega);rotate_left;obtain⟨G,m,H,I,J,M⟩:=K.e (q:=.assign) (s:=zB s) ⟨by show s.k+1≤_;omega,trivial⟩ rfl (c:=1) (d:=4) rfl rfl;obtain⟨N,O⟩:=zG1 (s:=(R .assign (zB s)).2) g (m);rotate_left;refine zAL (fun C=>?_) (fun C=>?_);obtain⟨s1,f⟩:=jx ((if(zI L (zB s).k).nl=true then ze L (zB s)else zB s:Ps));have o:s.k+1≤s1.k∧s1.k≤L.length - 1:=by
  rw[←f];split
  · exact⟨by show s.k+1≤L.length - 1;omega,yAC _⟩
  · exact⟨yAC _,by show s.k+1≤_;omega⟩
 rw[f];clear f;obtain⟨P,p,Q,S,T,U⟩:=K.e (q:=.assign) (s:=s1) ⟨o.2,trivial⟩ rfl (c:=1) (d:=4) rfl rfl;obtain⟨V,W⟩:=zG1 (s:=(R .assign s1).2) g (p);rotate_left;refine zAL (fun D=>?_) (fun D=>?_);obtain⟨X,Y,a0,b0,c0,c1⟩:=K.e (q:=.tries) (s:=s) ⟨hs,b⟩ rfl (c:=2) (d:=2) rfl rfl;rotate_left;refine zAL (fun E=>?_) (fun E=>?_);rotate_left;obtain⟨c4,c9,d0,d1,d4,d9⟩:=K.e (q:=.simple) (s:=s) ⟨hs,trivial⟩ rfl (c:=2) (d:=2) rfl rfl;rotate_left
 all_goals
  (refine⟨?_,fun e j hk=>?_⟩<;>(try (injection j with j;subst j))<;>(try simp only[zAU,zAV,zh,zG,zL,zf,zAP]at *)<;>omega)
theorem zUJ (b:Lst L) (K:Kz L R) (f:Pre L (.within) s):Z s (cS (.within) s) (dS (.within)) (zD L R (.within) s):=by
 have hs:=f.1;unfold zD cS dS;dsimp only;obtain⟨a1,g,c1⟩:=zBk (s:=s) (w:=[40]) b (hs);obtain⟨a2,j,c2,d2,e2,l⟩:=K.e (q:=.assign) (s:=zP L [40] s) ⟨g,trivial⟩ rfl (c:=1) (d:=4) rfl rfl;obtain⟨a3,m,c3⟩:=zBk (s:=(R .assign (zP L [40] s)).2) (w:=[41]) b (j)
 (refine⟨?_,fun e k hk=>by cases k⟩<;>(try simp only[zAU,zAV,zh,zG,zL,zf,zAP]at *)<;>omega)
theorem zUK (b:Lst L) (K:Kz L R) {w:List UInt8} (f:Pre L (.clause w) s):Z s (cS (.clause w) s) (dS (.clause w)) (zD L R (.clause w) s):=by
 have hs:=f.1;unfold zD cS dS;dsimp only;refine zAL (fun h=>?_) (fun h=>?_);obtain⟨a1,k,c1⟩:=zBk (s:=s) (w:=w) b (hs);rotate_left;obtain⟨a2,g,c2,d2,e2,l⟩:=K.e (q:=.assign) (s:=s) ⟨hs,trivial⟩ rfl (c:=1) (d:=4) rfl rfl;obtain⟨a3,m,c3⟩:=zBk (s:=(R .assign s).2) (w:=w) b (g);rotate_left
 all_goals
  (refine⟨?_,fun e j hk=>by cases j⟩<;>(try simp only[zAU,zAV,zh,zG,zL,zf,zAP]at *)<;>omega)
theorem zXH (g:Lst L) (K:Kz L R) (j:Pre L (.loop) s):Z s (cS (.loop) s) (dS (.loop)) (zD L R (.loop) s):=by
 have hs:=j.1;unfold zD cS dS;dsimp only;have t:s.k < L.length - 1:=j.2;obtain⟨a1,l,c1⟩:=zBk (s:=zB s) (w:=[40]) g (by show s.k+1≤_;omega);obtain⟨a,b⟩:=jx ((if(onP L [108,101,116] (zP L [40] (zB s)) || onP L [99,111,110,115,116] (zP L [40] (zB s)))=true then((R .declares (zP L [40] (zB s))).1,zP L [59] (R .declares (zP L [40] (zB s))).2)else R (.clause [59]) (zP L [40] (zB s)):Tr×Ps));have m:(zP L [40] (zB s)).k≤a.2.k∧a.2.k≤L.length - 1∧a.1.size+16*(zP L [40] (zB s)).k≤16*a.2.k+2:=by
  rw[←b];split
  · obtain⟨a2,o,c2,d2,e2,u⟩:=K.e (q:=.declares) (s:=zP L [40] (zB s)) ⟨l,trivial⟩ rfl (c:=2) (d:=2) rfl rfl;obtain⟨a3,v,c3⟩:=zBk (s:=(R .declares (zP L [40] (zB s))).2) (w:=[59]) g (o);dsimp only;exact⟨by omega,by omega,by omega⟩
  · obtain⟨a4,y,e4⟩:=K.a (q:=.clause [59]) (s:=zP L [40] (zB s)) ⟨l,trivial⟩ (c:=1) (rfl);exact⟨by omega,by omega,by omega⟩
 rw[b];clear b;obtain⟨q1,q2,q3⟩:=m;obtain⟨a5,p,e5⟩:=K.a (q:=.clause [59]) (s:=a.2) ⟨q2,trivial⟩ (c:=1) (rfl);obtain⟨a6,r,e6⟩:=K.a (q:=.clause [41]) (s:=(R (.clause [59]) a.2).2) ⟨p,trivial⟩ (c:=1) (rfl);obtain⟨a7,z,c7,d7,e7,A⟩:=K.e (q:=.statement) (s:=(R (.clause [41]) (R (.clause [59]) a.2).2).2) ⟨r,trivial⟩ rfl (c:=2) (d:=2) rfl rfl
 (refine⟨?_,fun e f hk=>?_⟩<;>(try (injection f with f;subst f))<;>(try simp only[zAU,zAV,zh,zG,zL,zf,zAP]at *)<;>omega)
theorem zXI (b:Lst L) (K:Kz L R) (d:Pre L (.jump k) s):Z s (cS (.jump k) s) (dS (.jump k)) (zD L R (.jump k) s):=by
 have hs:=d.1;unfold zD cS dS;dsimp only;have g:s.k < L.length - 1:=d.2;refine zAL (fun h=>?_) (fun h=>?_);obtain⟨a1,f,c1,d1⟩:=zHs (s:=zB s) b (by show s.k+1≤_;omega);obtain⟨a2,j⟩:=zG1 (s:=(zo L (zB s)).2) b (f);rotate_left;obtain⟨a3,l⟩:=zG1 (s:=zB s) b (by show s.k+1≤_;omega);rotate_left
 all_goals
  (refine⟨?_,fun e c hk=>?_⟩<;>(try (injection c with c;subst c))<;>(try simp only[zAU,zAV,zh,zG,zL,zf,zAP]at *)<;>omega)
theorem zWR (f:Lst L) (K:Kz L R) (m:Pre L (.tries) s):Z s (cS (.tries) s) (dS (.tries)) (zD L R (.tries) s):=by
 have hs:=m.1;unfold zD cS dS;dsimp only;have y:s.k < L.length - 1:=m.2;obtain⟨a1,o,c1,d1,e1,f1⟩:=K.e (q:=.block) (s:=zB s) ⟨by show s.k+1≤_;omega,trivial⟩ rfl (c:=1) (d:=4) rfl rfl;obtain⟨s1,g⟩:=jx ((if(onP L [99,97,116,99,104] (R .block (zB s)).2 || onP L [102,105,110,97,108,108,121] (R .block (zB s)).2)=true then(R .block (zB s)).2 else ze L (R .block (zB s)).2:Ps));have j:(R .block (zB s)).2.k≤s1.k∧s1.k≤L.length - 1:=by
  rw[←g];split
  · exact⟨yAC _,o⟩
  · exact⟨o,yAC _⟩
 rw[g];clear g;have p:onP L [99,97,116,99,104] s1=true→s1.k+1≤((if onP L [40] (zB s1)=true then((zo L (zB (zB s1))).1,zP L [41] (zo L (zB (zB s1))).2)else([],zB s1):List UInt8×Ps)).2.k∧((if onP L [40] (zB s1)=true then((zo L (zB (zB s1))).1,zP L [41] (zo L (zB (zB s1))).2)else([],zB s1):List UInt8×Ps)).2.k≤L.length - 1:=by
  intro b;have z:=f.on j.2 b;split
  · rename_i c
    have A:=f.on (s:=zB s1) (by show s1.k+1≤_;omega) c;have t:=zHs (s:=zB (zB s1)) f (by show(zB s1).k+1≤_;omega);have C:=zBk (s:=(zo L (zB (zB s1))).2) (w:=[41]) f t.2.1;have D:(zB (zB s1)).k=s1.k+1+1:=rfl;dsimp only;omega
  · exact⟨yAC _,by show s1.k+1≤_;omega⟩
 obtain⟨n,r⟩:=jx ((if onP L [40] (zB s1)=true then((zo L (zB (zB s1))).1,zP L [41] (zo L (zB (zB s1))).2)else([],zB s1):List UInt8×Ps));rw[r]at p⊢;clear r;obtain⟨c,b⟩:=jx ((if onP L [99,97,116,99,104] s1=true then(trN 17 n.1 [(R .block n.2).1],(R .block n.2).2)else(trK 11 [],s1):Tr×Ps));have u:s1.k≤c.2.k∧c.2.k≤L.length - 1∧c.1.size+16*s1.k≤16*c.2.k+1:=by
  rw[←b];split
  · rename_i b
    have h1:=p b;obtain⟨a2,v,c2,d2,e2,E⟩:=K.e (q:=.block) (s:=n.2) ⟨h1.2,trivial⟩ rfl (c:=1) (d:=4) rfl rfl;dsimp only;exact⟨by omega,v,by simp only[zAV,zG,zL];omega⟩
  · exact⟨yAC _,j.2,by simp only[zAU,zL];omega⟩
 rw[b];clear b;obtain⟨q1,q2,q3⟩:=u;refine zAL (fun h=>?_) (fun h=>?_);have B:=f.on q2 h;obtain⟨a3,F,c3,d3,e3,f3⟩:=K.e (q:=.block) (s:=zB c.2) ⟨by show c.2.k+1≤_;omega,trivial⟩ rfl (c:=1) (d:=4) rfl rfl;rotate_left;rotate_left
 all_goals
  (refine⟨?_,fun e l hk=>?_⟩<;>(try (injection l with l;subst l))<;>(try simp only[zAU,zAV,zh,zG,zL,zf,zAP]at *)<;>omega)
theorem zUL (g:Lst L) (K:Kz L R) (m:Pre L (.assign) s):Z s (cS (.assign) s) (dS (.assign)) (zD L R (.assign) s):=by
 have hs:=m.1;unfold zD cS dS;dsimp only;refine zAL (fun h1=>?_) (fun h1=>?_);have f:=g.lt hs (by rw[h1.1];decide);obtain⟨a1,v,e1⟩:=K.a (q:=.body [trN 20 (zI L s.k).text []]) (s:=zB s) ⟨by show s.k+1≤_;omega,trivial⟩ (c:=2+sizes [trN 20 (zI L s.k).text []]) (rfl);rotate_left;refine zAL (fun b=>?_) (fun b=>?_);obtain⟨a2,o,c2,d2,e2,y⟩:=K.e (q:=.params) (s:=s) ⟨hs,trivial⟩ rfl (c:=2) (d:=6) rfl rfl;obtain⟨a3,z,e3⟩:=K.a (q:=.body (R .params s).1.subs) (s:=(R .params s).2) ⟨o,trivial⟩ (c:=2+sizes (R .params s).1.subs) (rfl);have A:=zDu (R .params s).1;have f:s.k < L.length - 1:=by
  unfold zAg at b;rw[Bool.and_eq_true]at b;exact g.on hs b.1
 rotate_left;obtain⟨a4,p,c4,d4,e4,B⟩:=K.e (q:=.cond) (s:=s) ⟨hs,trivial⟩ rfl (c:=1) (d:=4) rfl rfl;have u:(zCx L 5 (R .cond s).2).k=L.length - 1:=rfl;refine zAL (fun l=>?_) (fun l=>?_);rotate_left;refine zAL (fun r=>?_) (fun r=>?_);rotate_left;have f:=g.lt (s:=(R .cond s).2) p (fun t=>l (.inl (by rw[t];decide)));obtain⟨a5,C,c5,d5,e5,D⟩:=K.e (q:=.assign) (s:=zB (R .cond s).2) ⟨by show(R .cond s).2.k+1≤_;omega,trivial⟩ rfl (c:=1) (d:=4) rfl rfl;rotate_left
 all_goals
  (refine⟨?_,fun e j hk=>?_⟩<;>(try (injection j with j;subst j))<;>(try simp only[zAU,zAV,zh,zG,zL,zf,zAP]at *)<;>omega)
theorem zXJ (t:Lst L) (K:Kz L R) {l:List Tr} (u:Pre L (.body l) s):Z s (cS (.body l) s) (dS (.body l)) (zD L R (.body l) s):=by
 have hs:=u.1;unfold zD cS dS;dsimp only;obtain⟨s1,f⟩:=jx ((if(zI L s.k).nl=true then ze L s else s:Ps));have p:s.k≤s1.k∧s1.k≤L.length - 1:=by
  rw[←f];split
  · exact⟨hs,yAC _⟩
  · exact⟨yAC _,hs⟩
 rw[f];clear f;obtain⟨a1,o,c1⟩:=zBk (s:=s1) (w:=[61,62]) t (p.2);obtain⟨b,m⟩:=jx (zP L [61,62] s1);rw[m]at a1 o c1⊢;clear m;obtain⟨j,g⟩:=jx ((if onP L [123] b=true then R .block b else R .assign b:Tr×Ps));have r:b.k≤j.2.k∧j.2.k≤L.length - 1∧j.1.size+16*b.k≤16*j.2.k+1:=by
  rw[←g];split
  · obtain⟨a2,v,c2,d2,e2,A⟩:=K.e (q:=.block) (s:=b) ⟨o,trivial⟩ rfl (c:=1) (d:=4) rfl rfl;exact⟨a2,v,e2⟩
  · obtain⟨a3,y,c3,d3,e3,f3⟩:=K.e (q:=.assign) (s:=b) ⟨o,trivial⟩ rfl (c:=1) (d:=4) rfl rfl;exact⟨a3,y,e3⟩
 rw[g];clear g;obtain⟨q1,q2,q3⟩:=r
 (refine⟨?_,fun e z hk=>by cases z⟩<;>(try simp only[zAU,zAV,zh,zG,zL,zf,zAP]at *)<;>omega)
theorem zXK (f:Lst L) (K:Kz L R) (g:Pre L (.cond) s):Z s (cS (.cond) s) (dS (.cond)) (zD L R (.cond) s):=by
 have hs:=g.1;unfold zD cS dS;dsimp only;obtain⟨a1,j,c1,d1,e1,f1⟩:=K.e (q:=.either) (s:=s) ⟨hs,trivial⟩ rfl (c:=1) (d:=4) rfl rfl;refine zAL (fun h=>?_) (fun h=>?_);have o:=f.on j h;obtain⟨a2,l,c2,d2,e2,p⟩:=K.e (q:=.assign) (s:=zB (R .either s).2) ⟨by show(R .either s).2.k+1≤_;omega,trivial⟩ rfl (c:=1) (d:=4) rfl rfl;obtain⟨a3,m,c3⟩:=zBk (s:=(R .assign (zB (R .either s).2)).2) (w:=[58]) f (l);obtain⟨a4,r,c4,d4,e4,t⟩:=K.e (q:=.assign) (s:=zP L [58] (R .assign (zB (R .either s).2)).2) ⟨m,trivial⟩ rfl (c:=1) (d:=4) rfl rfl;rotate_left;rotate_left
 all_goals
  (refine⟨?_,fun e b hk=>?_⟩<;>(try (injection b with b;subst b))<;>(try simp only[zAU,zAV,zh,zG,zL,zf,zAP]at *)<;>omega)
theorem zUM (v:Lst L) (K:Kz L R) (u:Pre L (.either) s):Z s (cS (.either) s) (dS (.either)) (zD L R (.either) s):=by
 have hs:=u.1;unfold zD cS dS;dsimp only;obtain⟨a1,l,c1,d1,e1,f1⟩:=K.e (q:=.level 0) (s:=s) ⟨hs,yAE _⟩ rfl (c:=1) (d:=4) rfl rfl;refine zAL (fun h=>?_) (fun h=>?_);obtain⟨a2,m,e2⟩:=K.a (q:=.nullL (R (.level 0) s).1) (s:=(R (.level 0) s).2) ⟨l,trivial⟩ (c:=(R (.level 0) s).1.size) (rfl);obtain⟨f,b⟩:=jx ((if(onP L [124,124] (R (.nullL (R (.level 0) s).1) (R (.level 0) s).2).2 || onP L [38,38] (R (.nullL (R (.level 0) s).1) (R (.level 0) s).2).2)=true then ze L (R (.nullL (R (.level 0) s).1) (R (.level 0) s).2).2 else(R (.nullL (R (.level 0) s).1) (R (.level 0) s).2).2:Ps));have o:(R (.nullL (R (.level 0) s).1) (R (.level 0) s).2).2.k≤f.k∧f.k≤L.length - 1:=by
  rw[←b];split
  · exact⟨m,yAC _⟩
  · exact⟨yAC _,m⟩
 rw[b];clear b;rotate_left;obtain⟨a3,p,e3⟩:=K.a (q:=.both (R (.level 0) s).1) (s:=(R (.level 0) s).2) ⟨l,trivial⟩ (c:=(R (.level 0) s).1.size) (rfl);obtain⟨y,r⟩:=jx (R (.both (R (.level 0) s).1) (R (.level 0) s).2);rw[r]at a3 p e3⊢;clear r;obtain⟨a4,g,e4⟩:=K.a (q:=.orL y.1) (s:=y.2) ⟨p,trivial⟩ (c:=y.1.size) (rfl);obtain⟨z,t⟩:=jx (R (.orL y.1) y.2);rw[t]at a4 g e4⊢;clear t;obtain⟨f,b⟩:=jx ((if onP L [63,63] z.2=true then ze L z.2 else z.2:Ps));have o:z.2.k≤f.k∧f.k≤L.length - 1:=by
  rw[←b];split
  · exact⟨g,yAC _⟩
  · exact⟨yAC _,g⟩
 rw[b];clear b;rotate_left
 all_goals
  (refine⟨?_,fun e j hk=>?_⟩<;>(try (injection j with j;subst j))<;>(try simp only[zAU,zAV,zh,zG,zL,zf,zAP]at *)<;>omega)
theorem zWS (b:Lst L) (K:Kz L R) (f:Pre L (.nullL x) s):Z s (cS (.nullL x) s) (dS (.nullL x)) (zD L R (.nullL x) s):=by
 have hs:=f.1;unfold zD cS dS;dsimp only;refine zAL (fun h=>?_) (fun h=>?_);have l:=b.on hs h;obtain⟨a1,g,c1,d1,e1,f1⟩:=K.e (q:=.level 0) (s:=zB s) ⟨by show s.k+1≤_;omega,yAE _⟩ rfl (c:=1) (d:=4) rfl rfl;obtain⟨a2,m,e2⟩:=K.a (q:=.nullL (trN 47 [63,63] [x,(R (.level 0) (zB s)).1])) (s:=(R (.level 0) (zB s)).2) ⟨g,trivial⟩ (c:=(trN 47 [63,63] [x,(R (.level 0) (zB s)).1]).size) (rfl);rotate_left;rotate_left
 all_goals
  (refine⟨?_,fun e j hk=>by cases j⟩<;>(try simp only[zAU,zAV,zh,zG,zL,zf,zAP]at *)<;>omega)
theorem zXL (b:Lst L) (K:Kz L R) (f:Pre L (.both x) s):Z s (cS (.both x) s) (dS (.both x)) (zD L R (.both x) s):=by
 have hs:=f.1;unfold zD cS dS;dsimp only;refine zAL (fun h=>?_) (fun h=>?_);have l:=b.on hs h;obtain⟨a1,g,c1,d1,e1,f1⟩:=K.e (q:=.level 0) (s:=zB s) ⟨by show s.k+1≤_;omega,yAE _⟩ rfl (c:=1) (d:=4) rfl rfl;obtain⟨a2,m,e2⟩:=K.a (q:=.both (trN 47 [38,38] [x,(R (.level 0) (zB s)).1])) (s:=(R (.level 0) (zB s)).2) ⟨g,trivial⟩ (c:=(trN 47 [38,38] [x,(R (.level 0) (zB s)).1]).size) (rfl);rotate_left;rotate_left
 all_goals
  (refine⟨?_,fun e j hk=>by cases j⟩<;>(try simp only[zAU,zAV,zh,zG,zL,zf,zAP]at *)<;>omega)
theorem zYq (l:Lst L) (K:Kz L R) (m:Pre L (.orL x) s):Z s (cS (.orL x) s) (dS (.orL x)) (zD L R (.orL x) s):=by
 have hs:=m.1;unfold zD cS dS;dsimp only;refine zAL (fun h=>?_) (fun h=>?_);have p:=l.on hs h;obtain⟨a1,b,c1,d1,e1,f1⟩:=K.e (q:=.level 0) (s:=zB s) ⟨by show s.k+1≤_;omega,yAE _⟩ rfl (c:=1) (d:=4) rfl rfl;obtain⟨y,f⟩:=jx (R (.level 0) (zB s));rw[f]at a1 b c1 d1 e1 f1⊢;clear f;obtain⟨a2,g,e2⟩:=K.a (q:=.both y.1) (s:=y.2) ⟨b,trivial⟩ (c:=y.1.size) (rfl);obtain⟨z,j⟩:=jx (R (.both y.1) y.2);rw[j]at a2 g e2⊢;clear j;obtain⟨a3,r,e3⟩:=K.a (q:=.orL (trN 47 [124,124] [x,z.1])) (s:=z.2) ⟨g,trivial⟩ (c:=(trN 47 [124,124] [x,z.1]).size) (rfl);rotate_left;rotate_left
 all_goals
  (refine⟨?_,fun e o hk=>by cases o⟩<;>(try simp only[zAU,zAV,zh,zG,zL,zf,zAP]at *)<;>omega)
theorem zWT (j:Lst L) (K:Kz L R) (f:Pre L (.level n) s):Z s (cS (.level n) s) (dS (.level n)) (zD L R (.level n) s):=by
 have hs:=f.1;unfold zD cS dS;dsimp only;refine zAL (fun h=>?_) (fun h=>?_);obtain⟨a1,k,c1,d1,e1,f1⟩:=K.e (q:=.unary) (s:=s) ⟨hs,trivial⟩ rfl (c:=1) (d:=4) rfl rfl;rotate_left;have l:n≤8:=f.2;obtain⟨a2,g,c2,d2,e2,m⟩:=K.e (q:=.level (n+1)) (s:=s) ⟨hs,(by show n+1≤8;omega)⟩ rfl (c:=1) (d:=4) rfl rfl;obtain⟨a3,o,e3⟩:=K.a (q:=.levelL n (R (.level (n+1)) s).1) (s:=(R (.level (n+1)) s).2) ⟨g,(by show n < 8;omega)⟩ (c:=(R (.level (n+1)) s).1.size) (rfl);rotate_left
 all_goals
  (refine⟨?_,fun e b hk=>?_⟩<;>(try (injection b with b;subst b))<;>(try simp only[zAU,zAV,zh,zG,zL,zf,zAP]at *)<;>omega)
theorem zUN (f:Lst L) (K:Kz L R) (b:Pre L (.levelL n x) s):Z s (cS (.levelL n x) s) (dS (.levelL n x)) (zD L R (.levelL n x) s):=by
 have hs:=b.1;unfold zD cS dS;dsimp only;refine zAL (fun h=>?_) (fun h=>?_);have g:n < 8:=b.2;have m:=f.lt hs (zFM (by rw[h];omega));obtain⟨a1,j,c1,d1,e1,f1⟩:=K.e (q:=.level (n+1)) (s:=zB s) ⟨by show s.k+1≤_;omega,(by show n+1≤8;omega)⟩ rfl (c:=1) (d:=4) rfl rfl;obtain⟨a2,o,e2⟩:=K.a (q:=.levelL n (trN 46 (zI L s.k).text [x,(R (.level (n+1)) (zB s)).1])) (s:=(R (.level (n+1)) (zB s)).2) ⟨j,g⟩ (c:=(trN 46 (zI L s.k).text [x,(R (.level (n+1)) (zB s)).1]).size) (rfl);rotate_left;rotate_left
 all_goals
  (refine⟨?_,fun e l hk=>by cases l⟩<;>(try simp only[zAU,zAV,zh,zG,zL,zf,zAP]at *)<;>omega)
theorem zWU (j:Lst L) (K:Kz L R) (t:Pre L (.unary) s):Z s (cS (.unary) s) (dS (.unary)) (zD L R (.unary) s):=by
 have hs:=t.1;unfold zD cS dS;dsimp only;refine zAL (fun h1=>?_) (fun h1=>?_);have g:=j.lt hs (by rcases h1.1 with b | b<;>(rw[b];decide));obtain⟨a1,A,c1,d1,e1,f1⟩:=K.e (q:=.unary) (s:=zB s) ⟨by show s.k+1≤_;omega,trivial⟩ rfl (c:=1) (d:=4) rfl rfl;rotate_left;refine zAL (fun m=>?_) (fun m=>?_);have g:=j.lt hs (by rcases m.1 with b | b<;>(rw[b];decide));obtain⟨a2,o,c2,d2,e2,B⟩:=K.e (q:=.unary) (s:=zB s) ⟨by show s.k+1≤_;omega,trivial⟩ rfl (c:=1) (d:=4) rfl rfl;obtain⟨p,f⟩:∃x,(if(R .unary (zB s)).2.bad=0∧zAR (R .unary (zB s)).1.nd.kind=false then ze L (R .unary (zB s)).2 else(R .unary (zB s)).2:Ps)=x:=⟨_,rfl⟩;have y:(R .unary (zB s)).2.k≤p.k∧p.k≤L.length - 1:=by
  rw[←f];split
  · exact⟨o,yAC _⟩
  · exact⟨yAC _,o⟩
 rw[f];clear f;rotate_left;obtain⟨a3,u,c3,d3,e3,f3⟩:=K.e (q:=.calls) (s:=s) ⟨hs,trivial⟩ rfl (c:=1) (d:=4) rfl rfl;have z:(ze L (R .calls s).2).k=L.length - 1:=rfl;refine zAL (fun r=>?_) (fun r=>?_);refine zAL (fun v=>?_) (fun v=>?_);rotate_left;have g:=j.lt (s:=(R .calls s).2) u (by rw[r.1];decide);rotate_left;rotate_left
 all_goals
  (refine⟨?_,fun e l hk=>?_⟩<;>(try (injection l with l;subst l))<;>(try simp only[zAU,zAV,zh,zG,zL,zf,zAP]at *)<;>omega)
theorem zWV (j:Lst L) (K:Kz L R) (f:Pre L (.calls) s):Z s (cS (.calls) s) (dS (.calls)) (zD L R (.calls) s):=by
 have hs:=f.1;unfold zD cS dS;dsimp only;obtain⟨a1,g,c1,d1,e1,f1⟩:=K.e (q:=.head) (s:=s) ⟨hs,trivial⟩ rfl (c:=1) (d:=4) rfl rfl;obtain⟨a2,k,e2⟩:=K.a (q:=.callsL (R .head s).1) (s:=(R .head s).2) ⟨g,trivial⟩ (c:=(R .head s).1.size) (rfl)
 (refine⟨?_,fun e b hk=>?_⟩<;>(try (injection b with b;subst b))<;>(try simp only[zAU,zAV,zh,zG,zL,zf,zAP]at *)<;>omega)
theorem zUO (b:Lst L) (K:Kz L R) (p:Pre L (.callsL x) s):Z s (cS (.callsL x) s) (dS (.callsL x)) (zD L R (.callsL x) s):=by
 have hs:=p.1;unfold zD cS dS;dsimp only;refine zAL (fun h=>?_) (fun h=>?_);have f:=b.on hs h;obtain⟨a1,r,c1,d1,e1,f1⟩:=K.e (q:=.args) (s:=s) ⟨hs,f⟩ rfl (c:=2) (d:=0) rfl rfl;have z:=zDu (R .args s).1;obtain⟨a2,A,e2⟩:=K.a (q:=.callsL (trK 50 (x::(R .args s).1.subs))) (s:=(R .args s).2) ⟨r,trivial⟩ (c:=(trK 50 (x::(R .args s).1.subs)).size) (rfl);rotate_left;refine zAL (fun g=>?_) (fun g=>?_);have f:=b.on hs g;have y:(ze L (zB s)).k=L.length - 1:=rfl;refine zAL (fun j=>?_) (fun j=>?_);rotate_left;have l:=b.lt (s:=zB s) (by show s.k+1≤_;omega) (fun m=>j ⟨by rw[m];decide,by rw[m];decide⟩);simp only[zAP]at l;obtain⟨a3,B,e3⟩:=K.a (q:=.callsL (trN 52 (zI L (zB s).k).text [x])) (s:=zB (zB s)) ⟨by show s.k+1+1≤_;omega,trivial⟩ (c:=(trN 52 (zI L (zB s).k).text [x]).size) (rfl);rotate_left;refine zAL (fun o=>?_) (fun o=>?_);have f:=b.on hs o;obtain⟨a4,t,c4,d4,e4,C⟩:=K.e (q:=.assign) (s:=zB s) ⟨by show s.k+1≤_;omega,trivial⟩ rfl (c:=1) (d:=4) rfl rfl;obtain⟨a5,u,c5⟩:=zBk (s:=(R .assign (zB s)).2) (w:=[93]) b (t);obtain⟨a6,D,e6⟩:=K.a (q:=.callsL (trK 53 [x,(R .assign (zB s)).1])) (s:=zP L [93] (R .assign (zB s)).2) ⟨u,trivial⟩ (c:=(trK 53 [x,(R .assign (zB s)).1]).size) (rfl);rotate_left;rotate_left
 all_goals
  (refine⟨?_,fun e v hk=>by cases v⟩<;>(try simp only[zAU,zAV,zh,zG,zL,zf,zAP]at *)<;>omega)
theorem zWW (b:Lst L) (K:Kz L R) (p:Pre L (.headL x) s):Z s (cS (.headL x) s) (dS (.headL x)) (zD L R (.headL x) s):=by
 have hs:=p.1;unfold zD cS dS;dsimp only;refine zAL (fun f=>?_) (fun f=>?_);have g:=b.on hs f;have v:(ze L (zB s)).k=L.length - 1:=rfl;refine zAL (fun j=>?_) (fun j=>?_);rotate_left;have l:=b.lt (s:=zB s) (by show s.k+1≤_;omega) (fun m=>j ⟨by rw[m];decide,by rw[m];decide⟩);simp only[zAP]at l;obtain⟨a1,y,e1⟩:=K.a (q:=.headL (trN 52 (zI L (zB s).k).text [x])) (s:=zB (zB s)) ⟨by show s.k+1+1≤_;omega,trivial⟩ (c:=(trN 52 (zI L (zB s).k).text [x]).size) (rfl);rotate_left;refine zAL (fun o=>?_) (fun o=>?_);have g:=b.on hs o;obtain⟨a2,r,c2,d2,e2,z⟩:=K.e (q:=.assign) (s:=zB s) ⟨by show s.k+1≤_;omega,trivial⟩ rfl (c:=1) (d:=4) rfl rfl;obtain⟨a3,t,c3⟩:=zBk (s:=(R .assign (zB s)).2) (w:=[93]) b (r);obtain⟨a4,A,e4⟩:=K.a (q:=.headL (trK 53 [x,(R .assign (zB s)).1])) (s:=zP L [93] (R .assign (zB s)).2) ⟨t,trivial⟩ (c:=(trK 53 [x,(R .assign (zB s)).1]).size) (rfl);rotate_left;rotate_left
 all_goals
  (refine⟨?_,fun e u hk=>by cases u⟩<;>(try simp only[zAU,zAV,zh,zG,zL,zf,zAP]at *)<;>omega)
theorem zXM (g:Lst L) (K:Kz L R) (r:Pre L (.head) s):Z s (cS (.head) s) (dS (.head)) (zD L R (.head) s):=by
 have hs:=r.1;unfold zD cS dS;dsimp only;refine zAL (fun h=>?_) (fun h=>?_);have t:=g.on hs h;obtain⟨a1,j,c1,d1,e1,f1⟩:=K.e (q:=.head) (s:=zB s) ⟨by show s.k+1≤_;omega,trivial⟩ rfl (c:=1) (d:=4) rfl rfl;obtain⟨x,l⟩:=jx (R .head (zB s));rw[l]at a1 j c1 d1 e1 f1⊢;clear l;obtain⟨a2,b,e2⟩:=K.a (q:=.headL x.1) (s:=x.2) ⟨j,trivial⟩ (c:=x.1.size) (rfl);obtain⟨y,m⟩:=jx (R (.headL x.1) x.2);rw[m]at a2 b e2⊢;clear m;refine zAL (fun o=>?_) (fun o=>?_);have p:=g.on b o;obtain⟨a3,u,c3,d3,e3,f3⟩:=K.e (q:=.args) (s:=y.2) ⟨b,p⟩ rfl (c:=2) (d:=0) rfl rfl;have v:=zDu (R .args y.2).1;rotate_left;rotate_left;obtain⟨a4,A,c4,d4,e4,B⟩:=K.e (q:=.primary) (s:=s) ⟨hs,trivial⟩ rfl (c:=1) (d:=4) rfl rfl;rotate_left
 all_goals
  (refine⟨?_,fun e f hk=>?_⟩<;>(try (injection f with f;subst f))<;>(try simp only[zAU,zAV,zh,zG,zL,zf,zAP]at *)<;>omega)
theorem zXN (g:Lst L) (K:Kz L R) (d:Pre L (.args) s):Z s (cS (.args) s) (dS (.args)) (zD L R (.args) s):=by
 have hs:=d.1;unfold zD cS dS;dsimp only;have f:s.k < L.length - 1:=d.2;obtain⟨a1,j,c1⟩:=zBk (s:=s) (w:=[40]) g (hs);obtain⟨a2,l,e2⟩:=K.a (q:=.list [41]) (s:=zP L [40] s) ⟨j,trivial⟩ (c:=2) (rfl);have:=c1 f
 (refine⟨?_,fun e b hk=>?_⟩<;>(try (injection b with b;subst b))<;>(try simp only[zAU,zAV,zh,zG,zL,zf,zAP]at *)<;>omega)
theorem zXO (b:Lst L) (K:Kz L R) {w:List UInt8} (d:Pre L (.list w) s):Z s (cS (.list w) s) (dS (.list w)) (zD L R (.list w) s):=by
 have hs:=d.1;unfold zD cS dS;dsimp only;refine zAL (fun h=>?_) (fun h=>?_);have g:=b.on hs h;rotate_left;obtain⟨a1,j,e1⟩:=K.a (q:=.listL w []) (s:=s) ⟨hs,trivial⟩ (c:=2+sizes []) (rfl);rotate_left
 all_goals
  (refine⟨?_,fun e f hk=>by cases f⟩<;>(try simp only[zAU,zAV,zh,zG,zL,zf,zAP]at *)<;>omega)
theorem zWX (f:Lst L) (K:Kz L R) {w:List UInt8} (o:Pre L (.listL w b) s):Z s (cS (.listL w b) s) (dS (.listL w b)) (zD L R (.listL w b) s):=by
 have hs:=o.1;unfold zD cS dS;dsimp only;obtain⟨a1,g,c1,d1,e1,f1⟩:=K.e (q:=.assign) (s:=s) ⟨hs,trivial⟩ rfl (c:=1) (d:=4) rfl rfl;refine zAL (fun h=>?_) (fun h=>?_);rotate_left;refine zAL (fun j=>?_) (fun j=>?_);have l:=f.on g j;rotate_left;obtain⟨a2,p,c2⟩:=zBk (s:=(R .assign s).2) (w:=[44]) f (g);obtain⟨a3,t,e3⟩:=K.a (q:=.listL w (b++[(R .assign s).1])) (s:=zP L [44] (R .assign s).2) ⟨p,trivial⟩ (c:=2+sizes (b++[(R .assign s).1])) (rfl);have l:s.k < L.length - 1:=by
  rcases Nat.lt_or_ge s.k (L.length - 1)with m | m
  · exact m
  · exact absurd (d1 jo) h
 rotate_left
 all_goals
  (refine⟨?_,fun e r hk=>by cases r⟩<;>(try simp only[zAU,zAV,zh,zG,zL,zf,zAP]at *)<;>omega)
theorem zXP (f:Lst L) (K:Kz L R) (o:Pre L (.objL b) s):Z s (cS (.objL b) s) (dS (.objL b)) (zD L R (.objL b) s):=by
 have hs:=o.1;unfold zD cS dS;dsimp only;obtain⟨a1,g,c1,d1,e1,f1⟩:=K.e (q:=.prop) (s:=s) ⟨hs,trivial⟩ rfl (c:=1) (d:=1) rfl rfl;refine zAL (fun h=>?_) (fun h=>?_);rotate_left;refine zAL (fun j=>?_) (fun j=>?_);have l:=f.on g j;rotate_left;obtain⟨a2,p,c2⟩:=zBk (s:=(R .prop s).2) (w:=[44]) f (g);obtain⟨a3,t,e3⟩:=K.a (q:=.objL (b++[(R .prop s).1])) (s:=zP L [44] (R .prop s).2) ⟨p,trivial⟩ (c:=2+sizes (b++[(R .prop s).1])) (rfl);have l:s.k < L.length - 1:=by
  rcases Nat.lt_or_ge s.k (L.length - 1)with m | m
  · exact m
  · exact absurd (d1 jo) h
 rotate_left
 all_goals
  (refine⟨?_,fun e r hk=>by cases r⟩<;>(try simp only[zAU,zAV,zh,zG,zL,zf,zAP]at *)<;>omega)
theorem zUP (b:Lst L) (K:Kz L R) (d:Pre L (.object) s):Z s (cS (.object) s) (dS (.object)) (zD L R (.object) s):=by
 have hs:=d.1;unfold zD cS dS;dsimp only;refine zAL (fun h=>?_) (fun h=>?_);have g:=b.on hs h;rotate_left;obtain⟨a1,j,e1⟩:=K.a (q:=.objL []) (s:=s) ⟨hs,trivial⟩ (c:=2+sizes []) (rfl);rotate_left
 all_goals
  (refine⟨?_,fun e f hk=>by cases f⟩<;>(try simp only[zAU,zAV,zh,zG,zL,zf,zAP]at *)<;>omega)
theorem zQ4 (f:Lst L) (K:Kz L R) (r:Pre L (.primary) s):Z s (cS (.primary) s) (dS (.primary)) (zD L R (.primary) s):=by
 have hs:=r.1;unfold zD cS dS;dsimp only;have G:(ze L s).k=L.length - 1:=rfl;have H:(zCx L 6 s).k=L.length - 1:=rfl;refine zAL (fun j=>?_) (fun j=>?_);rotate_left;have I:=f.lt hs j;refine zAL (fun l=>?_) (fun l=>?_);rotate_left;refine zAL (fun m=>?_) (fun m=>?_);rotate_left;refine zAL (fun o=>?_) (fun o=>?_);rotate_left;refine zAL (fun p=>?_) (fun p=>?_);rotate_left;refine zAL (fun t=>?_) (fun t=>?_);rotate_left;refine zAL (fun u=>?_) (fun u=>?_);rotate_left;refine zAL (fun x7=>?_) (fun x7=>?_);rotate_left;refine zAL (fun v=>?_) (fun v=>?_);rotate_left;refine zAL (fun y=>?_) (fun y=>?_);obtain⟨a1,M,e1⟩:=K.a (q:=.list [93]) (s:=zB s) ⟨by show s.k+1≤_;omega,trivial⟩ (c:=2) (rfl);have N:=zDu (R (.list [93]) (zB s)).1;rotate_left;refine zAL (fun z=>?_) (fun z=>?_);obtain⟨a2,O,e2⟩:=K.a (q:=.object) (s:=zB s) ⟨by show s.k+1≤_;omega,trivial⟩ (c:=2) (rfl);rotate_left;refine zAL (fun A=>?_) (fun A=>?_);refine zAL (fun B=>?_) (fun B=>?_);obtain⟨a3,C,c3,d3⟩:=zHs (s:=zB s) f (by show s.k+1≤_;omega);obtain⟨a4,P,e4⟩:=K.a (q:=.func 41 (zo L (zB s)).1) (s:=(zo L (zB s)).2) ⟨C,trivial⟩ (c:=3) (rfl);rotate_left;obtain⟨a5,Q,e5⟩:=K.a (q:=.func 41 []) (s:=zB s) ⟨by show s.k+1≤_;omega,trivial⟩ (c:=3) (rfl);rotate_left;refine zAL (fun D=>?_) (fun D=>?_);obtain⟨a6,E,c6,d6,e6,S⟩:=K.e (q:=.assign) (s:=zB s) ⟨by show s.k+1≤_;omega,trivial⟩ rfl (c:=1) (d:=4) rfl rfl;obtain⟨a7,T,c7⟩:=zBk (s:=(R .assign (zB s)).2) (w:=[41]) f (E);rotate_left;obtain⟨F,b⟩:=jx ((if(onP L [47] s || onP L [47,61] s)=true then zCx L 6 s else ze L s:Ps));have J:F.k=L.length - 1:=by
  rw[←b];split<;>rfl
 rw[b];clear b;rotate_left
 all_goals
  (refine⟨?_,fun e g hk=>?_⟩<;>(try (injection g with g;subst g))<;>(try simp only[zAU,zAV,zh,zG,zL,zf,zAP]at *)<;>omega)
theorem zXQ (f:Lst L) (K:Kz L R) (g:Pre L (.prop) s):Z s (cS (.prop) s) (dS (.prop)) (zD L R (.prop) s):=by
 have hs:=g.1;have m:(ze L s).k=L.length - 1:=rfl;unfold zD cS dS;dsimp only;split
 · (refine⟨?_,fun e b hk=>?_⟩<;>(try (injection b with b;subst b))<;>(try simp only[zAU,zAV,zh,zG,zL,zf,zAP]at *)<;>omega)
 · rename_i u j
   have o:=f.lt hs (zFh j);refine zAL (fun h=>?_) (fun h=>?_)
   · (refine⟨?_,fun e b hk=>?_⟩<;>(try (injection b with b;subst b))<;>(try simp only[zAU,zAV,zh,zG,zL,zf,zAP]at *)<;>omega)
   · obtain⟨a1,l,c1⟩:=zBk (s:=zB s) (w:=[58]) f (by show s.k+1≤_;omega);obtain⟨a2,p,c2,d2,e2,r⟩:=K.e (q:=.assign) (s:=zP L [58] (zB s)) ⟨l,trivial⟩ rfl (c:=1) (d:=4) rfl rfl
     (refine⟨?_,fun e b hk=>?_⟩<;>(try (injection b with b;subst b))<;>(try simp only[zAU,zAV,zh,zG,zL,zf,zAP]at *)<;>omega)
theorem zYr (b:Lst L) (K:Kz L R) (q:Ph) (c:Pre L q s):Z s (cS q s) (dS q) (zD L R q s):=by
 cases q with
 | program d=>exact zQ3 b K c
 | block=>exact zWP b K c
 | blockL d=>exact zUF b K c
 | item=>exact zXE b K c
 | declares=>exact zNl b K c
 | declL k d=>exact zWQ b K c
 | func k n=>exact zXF b K c
 | params=>exact zUG b K c
 | paramL d=>exact zUH b K c
 | statement=>exact zKz b K c
 | simple=>exact zUI b K c
 | word w=>exact zXG b K c
 | within=>exact zUJ b K c
 | clause w=>exact zUK b K c
 | loop=>exact zXH b K c
 | jump k=>exact zXI b K c
 | tries=>exact zWR b K c
 | assign=>exact zUL b K c
 | body l=>exact zXJ b K c
 | cond=>exact zXK b K c
 | either=>exact zUM b K c
 | nullL x=>exact zWS b K c
 | orL x=>exact zYq b K c
 | both x=>exact zXL b K c
 | level n=>exact zWT b K c
 | levelL n x=>exact zUN b K c
 | unary=>exact zWU b K c
 | calls=>exact zWV b K c
 | callsL x=>exact zUO b K c
 | head=>exact zXM b K c
 | headL x=>exact zWW b K c
 | args=>exact zXN b K c
 | list w=>exact zXO b K c
 | listL w d=>exact zWX b K c
 | primary=>exact zQ4 b K c
 | object=>exact zUP b K c
 | objL d=>exact zXP b K c
 | prop=>exact zXQ b K c
end
theorem zXR {L:List Tok} (d:Lst L):∀f:Nat,Kz L (zG2 L f):=by
 intro f
 induction f with
 | zero=>
  refine⟨fun q s b=>zJ9 d 0 q s b,fun q s b=>?_⟩;have h1:(zG2 L 0 q s).1.size=1:=by show(trK 0 []).size=1;rw[zAU,zL]
  have l:(zG2 L 0 q s).2.k=L.length - 1:=rfl;have m:=b.1;have o:1≤cS q s:=by
   unfold cS;cases q<;>dsimp only<;>(try omega)<;>(try exact zBG _)<;>(split<;>omega)
  have g:∀e,dS q=some e→e≤6:=by
   intro e c;unfold dS at c;cases q<;>dsimp only at c<;>first | (injection c with c;omega) | cases c
  refine⟨by omega,fun e c hk=>?_⟩;have:=g e c;omega
 | succ f j=>exact⟨fun q s b=>zJ9 d (f+1) q s b,fun q s b=>zYr d j q b⟩
theorem zJz {L:List Tok} (b:Lst L) (h:L.length≤4097):(zE L (.program []) ⟨0,0,0⟩).1.size≤1000000:=by
 have h1:=(zXR b (zj L (.program []) ⟨0,0,0⟩+1)).z (.program []) ⟨0,0,0⟩ ⟨yAE _,trivial⟩;have d:=(zd b (p:=.program []) (s:=⟨0,0,0⟩) ⟨yAE _,trivial⟩).adv.hi;have c:=h1.1;unfold cS at c;simp only[zL]at c;unfold zE at d⊢;omega
open Go.RowKit
theorem zQ5 (u:List UInt16):(zE (zDx u).1 (.program []) ⟨0,0,0⟩).1.size≤1000000:=by
 obtain⟨⟨L,a,e⟩,b⟩:=jx (zDx u);rw[b];have c:(zE [] (.program []) ⟨0,0,0⟩).1.size≤1000000:=by
  have:(zE [] (.program []) ⟨0,0,0⟩).1=trK 1 []:=rfl;rw[this,zAU,zL];omega
 by_cases f:4096 < u.length
 · unfold zDx at b;rw[if_pos f]at b;simp only[Prod.mk.injEq]at b;rw[←b.1];exact c
 · by_cases d:e=0
   · subst d;refine zJz (zIH b) ?_;have h1:=zJU (u:=u) jo;rw[b]at h1;exact yAD h1 jo
   · have h1:=zSX (u:=u) jo (by rw[b];exact d);rw[b]at h1;rw[show(L,a,e).1=[]from h1];exact c
theorem zUQ (hB:B≤w.heap.size) (d:u.length=n) (e:Reads w B 1 A n (zAI u)) (f:n≤c) (b:c≤maxLen) (g:Tab w):
 Calls prog 8 #[.slice A n c] w (ParseQ (zBT u) w):=zQ2 hB d e f b g (zQ5 u)
theorem zIe {m a e:Nat} (hB:B≤w.heap.size) (k:u.length=n) (l:Reads w B 1 A n (zAI u)) (o:n≤c) (f:c≤maxLen) (p:Tab w) (q:zBT u=(ts,a,e)) (r:ts.length=m):
 Calls prog 8 #[.slice A n c] w (fun g w'=>∃d b,g=.returned (.tuple #[.agg #[.slice d m b],.int .i64 (a:Int),.int .i64 (e:Int)])∧NdsR w' w'.heap.size d m ts∧m≤b∧b≤maxLen∧Below w.heap.size w w'):=by
 have h:=zUQ hB k l o f p;rw[q]at h;refine h.mono ?_;rintro g w' ⟨d,s,b,h1,j,t,v,y⟩;have h6:s=m:=by rw[←r];exact j.1.symm
 subst h6;exact⟨d,b,h1,j,t,v,y⟩
def exA:List UInt16:=zV [97,10,43,43,98]
def okA (q:List Nd×Nat×Nat):Bool:=q.2.1==0&&q.2.2==0&&q.1.length==6&&(match q.1[3]? with | some x=>x.kind==3 | none=>false)&&(match q.1[4]? with | some x=>x.kind==44 | none=>false)
theorem zZi:okA (zBT exA)=true:=by decide+kernel
def zHt (u:List UInt16) (a e:Nat):Bool:=(zBT u).1.isEmpty&&(zBT u).2.1==a&&(zBT u).2.2==e
theorem zZj:zHt (zV [97,32,63,63,32,98,32,124,124,32,99]) 7 5=true:=by decide+kernel
theorem zZk:zHt (zV [49,32,61,32,50]) 2 5=true:=by decide+kernel
theorem zZl:zHt (zV [118,97,114,32,120]) 0 6=true:=by decide+kernel
theorem zZm:zHt (zV [120,32,61,32,47,97,47]) 4 6=true:=by decide+kernel
theorem zFC {a e:Nat} (h:zHt u a e=true):zBT u=([],a,e):=by
 unfold zHt at h;simp only[Bool.and_eq_true,List.isEmpty_iff,beq_iff_eq]at h;obtain⟨⟨h1,b⟩,c⟩:=h;obtain⟨⟨x,y,z⟩,d⟩:=jx (zBT u);rw[d]at h1 b c⊢;simp only at h1 b c;rw[h1,b,c]
theorem zEC {s:List UInt8} {a e:Nat} (D:s.length≤4000) (o:zBT (zV s)=([],a,e)) (v:Tab w):
 Calls prog 12 #[.string ⟨s.toArray⟩,.int .i64 (a:Int),.int .i64 (e:Int)] w fun E w'=>E=.returned (.bool true)∧Below w.heap.size w w':=by
 obtain⟨u,d⟩:=jx (zV s);have f:u.length=s.length:=by rw[←d];exact zC9 s
 rw[d]at o;have F:=zA o;have y:=zA v;have p:=zEB s w jo;rw[d]at p;have q:=zA p;have g:=zA f;obtain⟨m,z⟩:=jx s.length;rw[z]at q g;clear o v p f d D z;go_enter func12,ntmps12;go_wp2_with fail;refine q.out.mono ?_;rintro G w1 ⟨A,c,rfl,r,hg⟩;obtain⟨I,J,e1,h1,B⟩:=zR r;injection e1 with eA _ e3;subst eA;subst e3;have b:Below w.heap.size w w1:=⟨hg.os,hg.tape,hg.output,hg.size,fun i hi=>hg.block i hi js⟩;have j:=zA b;have C:=zA (zIe (u:=u) (yAC _) g.out (Reads.of_own r) h1 B (y.out.below y.out.lt b) F.out rfl);clear r hg b q h1 B;go_wp2_with fail;refine C.out.mono ?_;rintro H w2 ⟨t,c2,rfl,_,_,_,k⟩;have l:=zA (j.out.trans (k.mono j.out.size));clear k C;have L:(w2.alloc (.cells #[.slice t ([]:List Nd).length c2] 24)).cell? ⟨w2.heap.size,0,none⟩=some (.slice t ([]:List Nd).length c2):=(Bx.new w2 [.slice t ([]:List Nd).length c2] 24).cell 0;go_wp2_with fail;go_ret;refine⟨by simp,l.out.trans ?_⟩;exact(ja:Below w2.heap.size w2 _).mono l.out.size
theorem zXS:∃ts b c,zBT exA=(ts,0,0)∧ts.length=6∧ts[3]? =some b∧b.kind=3∧ts[4]? =some c∧c.kind=44:=by
 have h:=zZi;obtain⟨⟨ts,a,e⟩,g⟩:=jx (zBT exA);rw[g]at h⊢;unfold okA at h;simp only[Bool.and_eq_true,beq_iff_eq]at h;obtain⟨⟨⟨⟨h1,j⟩,k⟩,d⟩,f⟩:=h;cases h6:ts[3]? with
 | none=>rw[h6]at d;cases d
 | some b=>
  cases h7:ts[4]? with
  | none=>rw[h7]at f;cases f
  | some c=>
   rw[h6]at d;rw[h7]at f;exact⟨ts,b,c,by rw[h1,j],k,h6,by simpa using d,h7,by simpa using f⟩
theorem zNm (hT:Tab w):Calls prog 5 #[] w fun ev w'=>ev=.returned (.bool true)∧Below w.heap.size w w':=by
 obtain⟨ts,x3,x4,W,m,G,H,I,J⟩:=zXS;obtain⟨u,F⟩:=jx exA;have L:u.length=5:=by rw[←F];rfl
 have X:=zEB [97,10,43,43,98] w jd;rw[show zV [97,10,43,43,98]=u from F]at X;rw[F]at W;have HA:=zA (show Calls prog 11 #[.string ⟨#[97,10,43,43,98]⟩] w fun e w'=>∃A c,e=.returned (.slice A 5 c)∧w'.ownsRow 0 65 1 (.slice A 5 c) 5 (zAI u)∧w.grownBy w' none from X);have HP:=zA W;have a0:=zA L;have HL:=zA m;have a1:=zA G;have a2:=zA I;have a3:=zA H;have a4:=zA J;have d:=zA hT;clear W L m G I H J hT X F;go_enter func5,ntmps5;go_wp2_with fail;refine HA.out.mono ?_;rintro a8 w1 ⟨A,c,rfl,Y,hg⟩;obtain⟨A',c',e1,h1,h2⟩:=zR Y;injection e1 with eA _ e3;subst eA;subst e3;have q:Below w.heap.size w w1:=⟨hg.os,hg.tape,hg.output,hg.size,fun i hi=>hg.block i hi js⟩;have r:=zA q;have HQ:=zA (zIe (u:=u) (yAC _) a0.out (Reads.of_own Y) h1 h2 (d.out.below d.out.lt q) HP.out HL.out);clear Y hg q HA h1 h2;go_wp2_with fail;refine HQ.out.mono ?_;rintro a9 w2 ⟨A2,c2,rfl,hN,a5,_,M⟩;have t:=zA (r.out.trans (M.mono r.out.size));obtain⟨b,o,y3,s3,N,y,g,O,_⟩:=hN.get (i:=3) jd;obtain⟨b',o',y4,s4,j,_,k,P,_⟩:=hN.get (i:=4) jd;rw[a1.out]at g;rw[a2.out]at k;injection g with g;injection k with k;subst g k;rw[N]at j;injection j with j;injection j with eb eo _;subst eb eo N;have q3:=O.k0;have q4:=P.k0;rw[a3.out]at q3;rw[a4.out]at q4;obtain⟨f,z⟩:=jx (w2.alloc (.cells #[.slice (some ⟨b,o,none⟩) 6 c2] 24));have l:Below w2.heap.size w2 f:=jb z;obtain⟨T,Q⟩:=jx w2.heap.size;have a6:=zA (show Bx f T 24 [.slice (some ⟨b,o,none⟩) 6 c2] by rw[←z,←Q];exact Bx.new w2 _ _);have r3:f.cell? ⟨b,o+24,none⟩=some (.int .i64 3):=(l.cell (p:=⟨b,o+24,none⟩) y).trans q3;have r4:f.cell? ⟨b,o+32,none⟩=some (.int .i64 44):=(l.cell (p:=⟨b,o+32,none⟩) y).trans q4;have B:=zA (t.out.trans (l.mono t.out.size));clear hN a5 M y O P q3 q4 l HQ r t;go_upto_region 2 with(fail);clear z Q;have zT:f.cell? ⟨T,0,none⟩=some (.slice (some ⟨b,o,none⟩) 6 c2):=a6.out.cell 0;have C1:=zA (fun(v:World) (hb:Below w.heap.size w v)=>zEC (s:=[97,32,63,63,32,98,32,124,124,32,99]) (w:=v) jd (zFC zZj) (d.out.below d.out.lt hb));have C2:=zA (fun(v:World) (hb:Below w.heap.size w v)=>zEC (s:=[49,32,61,32,50]) (w:=v) jd (zFC zZk) (d.out.below d.out.lt hb));have C3:=zA (fun(v:World) (hb:Below w.heap.size w v)=>zEC (s:=[118,97,114,32,120]) (w:=v) jd (zFC zZl) (d.out.below d.out.lt hb));have C4:=zA (fun(v:World) (hb:Below w.heap.size w v)=>zEC (s:=[120,32,61,32,47,97,47]) (w:=v) jd (zFC zZm) (d.out.below d.out.lt hb));go_wp2_with fail;refine(C1.out f B.out).mono ?_;rintro ea wa ⟨rfl,R⟩;have C:=zA (B.out.trans (R.mono B.out.size));clear R;go_wp2_with fail;refine(C2.out wa C.out).mono ?_;rintro eb wb ⟨rfl,S⟩;have D:=zA (C.out.trans (S.mono C.out.size));clear S;go_wp2_with fail;refine(C3.out wb D.out).mono ?_;rintro ec wc ⟨rfl,U⟩;have E:=zA (D.out.trans (U.mono D.out.size));clear U;go_wp2_with fail;refine(C4.out wc E.out).mono ?_;rintro ed wd ⟨rfl,V⟩;have a7:=zA (E.out.trans (V.mono E.out.size));clear V;go_wp2_with fail;go_ret;exact⟨rfl,a7.out⟩
theorem zWY {xs:List UInt16} (hB:B≤w.heap.size) (o:xs.length=n) (p:Reads w B 1 A n (zAI xs)) (hb:Reads w B 1 m n (zAI xs)) (q:n≤maxLen):
 Calls prog 22 #[.slice A n c,.slice m n d] w fun e w'=>e=.returned (.bool true)∧Below w.heap.size w w':=by
 have u:=zA o;have v:=zA p;have y:=zA hb;have C:n≤9223372036854775807:=q;have e2:((n:Int) !=(n:Int))=false:=by simp
 clear o p hb q;go_enter func22,ntmps22;go_wp2_with fail
 go_loopw [13] (fun i wr=>∃k:Nat,k≤n∧i=.int .i64 k∧Hid (Below w.heap.size w wr)) (fun i _=>n - (intOf i).toNat)
 case atStart=>exact⟨0,yAE _,rfl,Below.refl _ _⟩
 case round=>
  obtain⟨k,hk,rfl,b⟩:=hrel
  by_cases r:k < n
  · have l:k < xs.length:=by rw[u.out];exact r
    obtain⟨D,E,rfl,_,f⟩:=(v.out.below (b.out.mono hB)).spotR jo;have s:=f k (.int .u16 (xs[k].toNat:Int)) (by simp[zAI,zWd,yAB l]);obtain⟨F,ob,rfl,_,g⟩:=(y.out.below (b.out.mono hB)).spotR jo;have t:=g k (.int .u16 (xs[k].toNat:Int)) (by simp[zAI,zWd,yAB l]);obtain⟨x,j⟩:∃z:Int,(xs[k].toNat:Int)=z:=⟨_,rfl⟩;rw[j]at s t;have e3:(x !=x)=false:=by simp
    have G:(k:Int) < (n:Int):=by omega
    clear f g j l;go_wp2_with fail;go_region
    all_goals go_wp2_with fail
    all_goals go_roundw
    case rel=>exact⟨k+1,by omega,by go_num,by first | exact b.out | exact b.out.drew | exact zAZ b.out _⟩
    case measure=>simp[intOf];omega
  · go_wp2_with fail;go_ret;exact⟨rfl,b.out⟩
theorem zWZ {xs:List Nat} (hB:B≤w.heap.size) (o:xs.length=n) (p:Reads w B 1 A n (zMG xs)) (hb:Reads w B 1 m n (zMG xs)) (q:n≤maxLen):
 Calls prog 23 #[.slice A n c,.slice m n d] w fun e w'=>e=.returned (.bool true)∧Below w.heap.size w w':=by
 have u:=zA o;have v:=zA p;have y:=zA hb;have C:n≤9223372036854775807:=q;have e2:((n:Int) !=(n:Int))=false:=by simp
 clear o p hb q;go_enter func23,ntmps23;go_wp2_with fail
 go_loopw [13] (fun i wr=>∃k:Nat,k≤n∧i=.int .i64 k∧Hid (Below w.heap.size w wr)) (fun i _=>n - (intOf i).toNat)
 case atStart=>exact⟨0,yAE _,rfl,Below.refl _ _⟩
 case round=>
  obtain⟨k,hk,rfl,b⟩:=hrel
  by_cases r:k < n
  · have l:k < xs.length:=by rw[u.out];exact r
    obtain⟨D,E,rfl,_,f⟩:=(v.out.below (b.out.mono hB)).spotR jo;have s:=f k (.int .u32 (xs[k]:Int)) (by simp[zMG,yAB l]);obtain⟨F,ob,rfl,_,g⟩:=(y.out.below (b.out.mono hB)).spotR jo;have t:=g k (.int .u32 (xs[k]:Int)) (by simp[zMG,yAB l]);obtain⟨x,j⟩:∃z:Int,(xs[k]:Int)=z:=⟨_,rfl⟩;rw[j]at s t;have e3:(x !=x)=false:=by simp
    have G:(k:Int) < (n:Int):=by omega
    clear f g j l;go_wp2_with fail;go_region
    all_goals go_wp2_with fail
    all_goals go_roundw
    case rel=>exact⟨k+1,by omega,by go_num,by first | exact b.out | exact b.out.drew | exact zAZ b.out _⟩
    case measure=>simp[intOf];omega
  · go_wp2_with fail;go_ret;exact⟨rfl,b.out⟩
theorem zWa {xs:List Int} (hB:B≤w.heap.size) (o:xs.length=n) (p:Reads w B 1 A n (zEk xs)) (hb:Reads w B 1 m n (zEk xs)) (q:n≤maxLen):
 Calls prog 24 #[.slice A n c,.slice m n d] w fun e w'=>e=.returned (.bool true)∧Below w.heap.size w w':=by
 have u:=zA o;have v:=zA p;have y:=zA hb;have C:n≤9223372036854775807:=q;have e2:((n:Int) !=(n:Int))=false:=by simp
 clear o p hb q;go_enter func24,ntmps24;go_wp2_with fail
 go_loopw [13] (fun i wr=>∃k:Nat,k≤n∧i=.int .i64 k∧Hid (Below w.heap.size w wr)) (fun i _=>n - (intOf i).toNat)
 case atStart=>exact⟨0,yAE _,rfl,Below.refl _ _⟩
 case round=>
  obtain⟨k,hk,rfl,b⟩:=hrel
  by_cases r:k < n
  · have l:k < xs.length:=by rw[u.out];exact r
    obtain⟨D,E,rfl,_,f⟩:=(v.out.below (b.out.mono hB)).spotR jo;have s:=f k (.int .i64 xs[k]) (by simp[zEk,yAB l]);obtain⟨F,ob,rfl,_,g⟩:=(y.out.below (b.out.mono hB)).spotR jo;have t:=g k (.int .i64 xs[k]) (by simp[zEk,yAB l]);obtain⟨x,j⟩:∃z:Int,xs[k]=z:=⟨_,rfl⟩;rw[j]at s t;have e3:(x !=x)=false:=by simp
    have G:(k:Int) < (n:Int):=by omega
    clear f g j l;go_wp2_with fail;go_region
    all_goals go_wp2_with fail
    all_goals go_roundw
    case rel=>exact⟨k+1,by omega,by go_num,by first | exact b.out | exact b.out.drew | exact zAZ b.out _⟩
    case measure=>simp[intOf];omega
  · go_wp2_with fail;go_ret;exact⟨rfl,b.out⟩
def E8 (w:World) (N:Nat) (v0 v1 v2 v3 v4 v5 v6 v7:Value):Prop:=w.cell? ⟨N,0,none⟩=some v0∧w.cell? ⟨N,1,none⟩=some v1∧w.cell? ⟨N,2,none⟩=some v2∧w.cell? ⟨N,3,none⟩=some v3∧w.cell? ⟨N,4,none⟩=some v4∧w.cell? ⟨N,5,none⟩=some v5∧w.cell? ⟨N,6,none⟩=some v6∧w.cell? ⟨N,7,none⟩=some v7
theorem E8.below {w':World} {N D:Nat} {v0 v1 v2 v3 v4 v5 v6 v7:Value} (h:E8 w N v0 v1 v2 v3 v4 v5 v6 v7) (hb:Below D w w') (c:N < D):E8 w' N v0 v1 v2 v3 v4 v5 v6 v7:=by
 have b:∀j,w'.cell? ⟨N,j,none⟩=w.cell? ⟨N,j,none⟩:=fun j=>hb.cell (p:=⟨N,j,none⟩) c;unfold E8;rw[b,b,b,b,b,b,b,b];exact h
theorem E8.new (w:World) (e:TypeId) (v0 v1 v2 v3 v4 v5 v6 v7:Value):E8 (w.alloc (.cells #[v0,v1,v2,v3,v4,v5,v6,v7] e)) w.heap.size v0 v1 v2 v3 v4 v5 v6 v7:=by
 refine⟨?_,?_,?_,?_,?_,?_,?_,?_⟩
 all_goals
  rw[World.cell?_alloc_at _ _ _ _ rfl];rfl
theorem zUR {r Am g Ak j:Option Addr} {m cm k l ck o:Nat} {K k1 p:Int} {f:Bool} {q:ByteArray} (M:∀W,Below w.heap.size w W→Calls prog 22 #[.slice A n c,.slice r n c2] W fun e w'=>e=.returned (.bool true)∧Below W.heap.size W w') (N:∀W,Below w.heap.size w W→Calls prog 23 #[.slice Am m cm,.slice g m k] W fun e w'=>e=.returned (.bool true)∧Below W.heap.size W w') (O:∀W,Below w.heap.size w W→Calls prog 24 #[.slice Ak l ck,.slice j l o] W fun e w'=>e=.returned (.bool true)∧Below W.heap.size W w'):
 Calls prog 21 #[.agg #[.int .i64 K,.string q,.slice A n c,.int .i64 k1,.int .i64 p,.bool f,.slice Am m cm,.slice Ak l ck],.agg #[.int .i64 K,.string q,.slice r n c2,.int .i64 k1,.int .i64 p,.bool f,.slice g m k,.slice j l o]] w fun e w'=>e=.returned (.bool true)∧Below w.heap.size w w':=by
 obtain⟨V,s⟩:=jx (w.alloc (.cells #[.int .i64 K,.string q,.slice A n c,.int .i64 k1,.int .i64 p,.bool f,.slice Am m cm,.slice Ak l ck] 43));obtain⟨W,t⟩:=jx (V.alloc (.cells #[.int .i64 K,.string q,.slice r n c2,.int .i64 k1,.int .i64 p,.bool f,.slice g m k,.slice j l o] 43));have u:Below w.heap.size w V:=jb s;have v:Below V.heap.size V W:=jb t;have P:V.heap.size=w.heap.size+1:=by rw[←s];simp
 have sW:W.heap.size=V.heap.size+1:=by rw[←t];simp
 have y:=zA (u.trans (v.mono u.size));have Q:=(show E8 V w.heap.size (.int .i64 K) (.string q) (.slice A n c) (.int .i64 k1) (.int .i64 p) (.bool f) (.slice Am m cm) (.slice Ak l ck) by rw[←s];exact E8.new _ _ _ _ _ _ _ _ _ _).below v jo;have R:E8 W (w.heap.size+1) (.int .i64 K) (.string q) (.slice r n c2) (.int .i64 k1) (.int .i64 p) (.bool f) (.slice g m k) (.slice j l o):=by rw[←t,←P];exact E8.new _ _ _ _ _ _ _ _ _ _
 have z:w.heap.size < W.heap.size:=by omega
 have B:w.heap.size+1 < W.heap.size:=by omega
 have S:(w.alloc (.cells #[.int .i64 K,.string q,.slice A n c,.int .i64 k1,.int .i64 p,.bool f,.slice Am m cm,.slice Ak l ck] 43)).alloc (.cells #[.int .i64 K,.string q,.slice r n c2,.int .i64 k1,.int .i64 p,.bool f,.slice g m k,.slice j l o] 43)=W:=by rw[s];exact t
 clear s t u v P sW;have T:=zA M;have U:=zA N;have Y:=zA O;clear M N O;have E:=zA Q;have F:=zA R;obtain⟨p0,p1,p2,p3,p4,p5,p6,p7⟩:=Q;obtain⟨q0,q1,q2,q3,q4,q5,q6,q7⟩:=R;obtain⟨X,hX⟩:=jx w.heap.size;cases f
 all_goals
  go_enter func21,ntmps21;go_upto_region 1 with(fail);clear S;rw[hX]at p0 p1 p2 p3 p4 p5 p6 p7 q0 q1 q2 q3 q4 q5 q6 q7 E F z B;clear hX;go_wp2_with fail;refine(T.out W y.out).mono ?_;rintro e1 w1 ⟨rfl,b⟩;have C:=zA (y.out.trans (b.mono y.out.size));have G:=zA (E.out.below b z);have H:=zA (F.out.below b B);have I:=yAA z b.size;have J:=yAA B b.size;obtain⟨p0,p1,p2,p3,p4,p5,p6,p7⟩:=G.out;obtain⟨q0,q1,q2,q3,q4,q5,q6,q7⟩:=H.out;clear b;go_wp2_with fail;refine(U.out w1 C.out).mono ?_;rintro e2 w2 ⟨rfl,d⟩;have D:=zA (C.out.trans (d.mono C.out.size));have a0:=zA (G.out.below d I);have a1:=zA (H.out.below d J);have a3:=yAA I d.size;have a4:=yAA J d.size;obtain⟨p0,p1,p2,p3,p4,p5,p6,p7⟩:=a0.out;obtain⟨q0,q1,q2,q3,q4,q5,q6,q7⟩:=a1.out;clear d;go_wp2_with fail;refine(Y.out w2 D.out).mono ?_;rintro e3 w3 ⟨rfl,L⟩;have a2:=zA (D.out.trans (L.mono D.out.size));clear L;go_wp2_with fail;go_ret;exact⟨rfl,a2.out⟩
theorem zNn {x:Nd} {s r:NdSl} (hB:B≤w.heap.size) (b:NdR w B x s) (c:NdR w B x r):
 Calls prog 21 #[.agg #[.int .i64 x.kind,.string ⟨x.name.toArray⟩,.slice s.As x.str.length s.cs,.int .i64 x.nk,.int .i64 x.nn,.bool x.neg,.slice s.Am x.mag.length s.cm,.slice s.Ak x.kids.length s.ck],.agg #[.int .i64 x.kind,.string ⟨x.name.toArray⟩,.slice r.As x.str.length r.cs,.int .i64 x.nk,.int .i64 x.nn,.bool x.neg,.slice r.Am x.mag.length r.cm,.slice r.Ak x.kids.length r.ck]] w fun e w'=>e=.returned (.bool true)∧Below w.heap.size w w':=
 zUR (fun _ hb=>zWY (yAD hB hb.size) rfl (b.str.below (hb.mono hB)) (c.str.below (hb.mono hB)) (yAD b.cs.1 b.cs.2)) (fun _ hb=>zWZ (yAD hB hb.size) rfl (b.mag.below (hb.mono hB)) (c.mag.below (hb.mono hB)) (yAD b.cm.1 b.cm.2))
  (fun _ hb=>zWa (yAD hB hb.size) rfl (b.kids.below (hb.mono hB)) (c.kids.below (hb.mono hB)) (yAD b.ck.1 b.ck.2))
theorem zQ6 {L:Option Addr} (hN:NdsR w B A n ts) (M:NdsR w B L n ts) (hB:B≤w.heap.size) (hn:n≤4096):
 Calls prog 20 #[.slice A n c,.slice L n c2,.func (.func 21) #[] #[]] w fun e w'=>e=.returned (.bool true)∧Below w.heap.size w w':=by
 have HN:=zA hN;have HM:=zA M;have HB:=zA hB;have e2:((n:Int) !=(n:Int))=false:=by simp
 clear hN M hB;go_enter func20,ntmps20;go_wp2_with fail
 go_loopw [17] (fun i wr=>∃k:Nat,k≤n∧i=.int .i64 (k:Int)∧Hid (Below w.heap.size w wr)) (fun i _=>n - (intOf i).toNat)
 case atStart=>exact⟨0,yAE _,rfl,Below.refl _ _⟩
 case round=>
  obtain⟨k,hk,rfl,f⟩:=hrel
  by_cases q:k < n
  · have h1:(k:Int) < (n:Int):=by omega
    have g:=HB.out;have j:=f.out.size;obtain⟨b,o,x,s,rfl,N,O,hC,P⟩:=(HN.out.below (f.out.mono g)).get q;obtain⟨Q,R,S,T,U,V,Y,a0⟩:=hC;obtain⟨b',o',y,r,rfl,F,hy,t,u⟩:=(HM.out.below (f.out.mono g)).get q;obtain rfl:x=y:=Option.some.inj (O.symm.trans hy);have v:=zA t;have C:=zA (fun(W:World) (hb:Below wr.heap.size wr W)=>zNn (yAD (yAD g j) hb.size) (P.below (hb.mono (yAD g j))) (u.below (hb.mono (yAD g j))));clear O hy t P u;go_upto_region 6 with(fail);obtain⟨d,l⟩:=jx (wr.alloc (.cells #[.int .i64 x.kind,.string ⟨x.name.toArray⟩,.slice s.As x.str.length s.cs,.int .i64 x.nk,.int .i64 x.nn,.bool x.neg,.slice s.Am x.mag.length s.cm,.slice s.Ak x.kids.length s.ck] 43));rw[l];have G:Below wr.heap.size wr d:=jb l;have s1:d.heap.size=wr.heap.size+1:=by rw[←l];simp
    have nx:=zA (show E8 d wr.heap.size _ _ _ _ _ _ _ _ from by rw[←l];exact E8.new wr _ _ _ _ _ _ _ _ _);obtain⟨d0,d1,d2,d3,d4,d5,d6,d7⟩:=v.out.below G (show b' < wr.heap.size by omega);clear Q R S T U V Y a0 l v;go_upto_region 7 with(fail);obtain⟨p,m⟩:=jx (d.alloc (.cells #[.int .i64 x.kind,.string ⟨x.name.toArray⟩,.slice r.As x.str.length r.cs,.int .i64 x.nk,.int .i64 x.nn,.bool x.neg,.slice r.Am x.mag.length r.cm,.slice r.Ak x.kids.length r.ck] 43));rw[m];have H:Below d.heap.size d p:=jb m;have I:=zA (show E8 p d.heap.size _ _ _ _ _ _ _ _ from by rw[←m];exact E8.new d _ _ _ _ _ _ _ _ _);have z:=zA (nx.out.below H (show wr.heap.size < d.heap.size by omega));have BW:=zA (G.trans (H.mono jo));have CC:=zA (C.out p BW.out);have D:=zA (f.out.trans (BW.out.mono j));rw[s1]at I;obtain⟨p0,p1,p2,p3,p4,p5,p6,p7⟩:=z.out;obtain⟨v0,v1,v2,v3,v4,v5,v6,v7⟩:=I.out;obtain⟨X,J⟩:=jx wr.heap.size;rw[J]at p0 p1 p2 p3 p4 p5 p6 p7 v0 v1 v2 v3 v4 v5 v6 v7;rw[J];clear m d0 d1 d2 d3 d4 d5 d6 d7 G s1 H nx I z J C j f N F;go_wp2_with fail;refine CC.out.mono ?_;rintro e3 W3 ⟨rfl,E⟩;have a1:=zA (D.out.trans (E.mono D.out.size));clear E;go_wp2_with fail
    go_roundw
    case rel=>exact⟨k+1,by omega,by go_num,a1.out⟩
    case measure=>simp[intOf];omega
  · have h2:decide ((k:Int) < (n:Int))=false:=yAI jo;obtain rfl:k=n:=by omega
    go_wp2_with fail;go_ret;exact⟨rfl,f.out⟩
theorem zUS {g:Option Addr} {j:Nat} {q:Bool} (C:∀W,Below w.heap.size w W→Calls prog 20 #[.slice A n c,.slice g j c2,.func (.func 21) #[] #[]] W fun e w'=>e=.returned (.bool q)∧Below W.heap.size W w'):
 Calls prog 9 #[.agg #[.slice A n c],.agg #[.slice g j c2]] w fun e w'=>e=.returned (.bool q)∧Below w.heap.size w w':=by
 have b:Below w.heap.size w ((w.alloc (.cells #[.slice A n c] 24)).alloc (.cells #[.slice g j c2] 24)):=(ja).alloc js _;have d:=zA b;have l:=zA (C _ b);clear b C;go_enter func9,ntmps9;go_wp2_with fail;refine l.out.mono ?_;rintro e1 w1 ⟨rfl,f⟩;have k:=zA (d.out.trans (f.mono d.out.size));clear f;go_wp2_with fail;go_ret;exact⟨rfl,k.out⟩
theorem zUT {b:Option Addr} (hN:NdsR w B A n ts) (d:NdsR w B b n ts) (hB:B≤w.heap.size) (f:n≤4096):
 Calls prog 9 #[.agg #[.slice A n c],.agg #[.slice b n c2]] w fun e w'=>e=.returned (.bool true)∧Below w.heap.size w w':=
 zUS fun _ hb=>zQ6 (hN.below (hb.mono hB)) (d.below (hb.mono hB)) (yAD hB hb.size) f
def zJ0:List Nd→Nat
 | []=>0
 | x::r=>1+x.str.length+x.mag.length+x.kids.length+x.name.length+zJ0 r
theorem zUU (a b:List Nd):zJ0 (a++b)=zJ0 a+zJ0 b:=by
 induction a with
 | nil=>simp[zJ0]
 | cons x r c=>simp only[List.cons_append,zJ0,c];omega
theorem zQ7 {k:Nat} {x:Nd} (h:ts[k]? =some x):zJ0 (ts.take (k+1))=zJ0 (ts.take k)+(1+x.str.length+x.mag.length+x.kids.length+x.name.length):=by
 obtain⟨b,rfl⟩:=List.getElem?_eq_some_iff.1 h;rw[yAK b,zUU];simp[zJ0]
theorem zUV {x:Nd} (h:x∈ts):x.str.length+x.mag.length+x.kids.length+x.name.length≤zJ0 ts:=by
 induction ts with
 | nil=>cases h
 | cons y r b=>
  rcases List.mem_cons.1 h with rfl | h
  · simp only[zJ0];omega
  · have:=b h;simp only[zJ0];omega
theorem zQ8 (ts:List Nd):(zAn ts).length+ts.length≤zJ0 ts:=by
 induction ts with
 | nil=>exact yAC _
 | cons x r b=>rw[zFl,List.length_append,List.length_cons];simp only[zJ0];omega
structure FewP (ts:List Nd):Prop where
 len:ts.length≤20000
 all:(zAn ts).length≤20000
 each:∀x∈ts,x.str.length≤20000∧x.mag.length≤20000∧x.kids.length≤20000∧x.name.length≤20000
theorem zXT (h:zJ0 ts≤20000):FewP ts:=by
 have h1:=zQ8 ts;refine⟨by omega,by omega,fun x b=>?_⟩;have:=zUV b;omega
def WgtAt (ts:List Nd) (k:Nat) (a:Nat):Prop:=(a≤20000→a=zJ0 (ts.take k))∧a≤200000
theorem WgtAt.start (ts:List Nd):WgtAt ts 0 0:=⟨fun _=>by simp[zJ0],by omega⟩
theorem WgtAt.step {k a:Nat} {x:Nd} (h:WgtAt ts k a) (b:a≤20000) (c:ts[k]? =some x) {p q r s:Nat} (e:p=min x.str.length 20001) (f:q=min x.mag.length 20001) (g:r=min x.kids.length 20001) (hs:s=min x.name.length 20001):WgtAt ts (k+1) (a+1+p+q+r+s):=by
 have h1:=h.1 b;refine⟨fun d=>?_,by omega⟩;rw[zQ7 c,←h1];omega
theorem WgtAt.done {a:Nat} (h:WgtAt ts ts.length a) (b:a≤20000):FewP ts:=by
 have:=h.1 b;rw[List.take_of_length_le (yAC _)]at this;exact zXT jo
theorem zMC (L:Nat):(if(20001:Int) < (L:Int)then(20001:Int)else(L:Int))=((min L 20001:Nat):Int):=by split<;>omega
def zZn (ts:List Nd) (w:World) (e:Ending) (w':World):Prop:=∃q:Bool,e=.returned (.bool q)∧(q=true→FewP ts)∧Below w.heap.size w w'
theorem zNo (hN:NdsR w B A n ts) (hB:B≤w.heap.size) (hl:n≤20000):
 Calls prog 13 #[.agg #[.slice A n c],.int .i64 20000] w fun e w'=>∃r:Nat,e=.returned (.int .i64 (r:Int))∧(r≤20000→FewP ts)∧Below w.heap.size w w':=by
 obtain⟨W,j⟩:=jx (w.alloc (.cells #[.slice A n c] 24));have l:Below w.heap.size w W:=jb j;have a0:W.heap.size=w.heap.size+1:=by rw[←j];simp
 have D:=zA ((hN.below (l.mono hB)));have E:W.cell? ⟨w.heap.size,0,none⟩=some (.slice A n c):=jc j;have q:=zA l;have F:=zA hN.1;have HB:=zA hB;clear l hN;go_enter func13,ntmps13;go_upto_region 1 with(fail);have HW:=zA j;clear j;have y:w.heap.size < W.heap.size:=by omega
 go_wp2_with fail
 go_loopw [5,6] (fun v i wr=>∃(k a:Nat),k≤n∧v=.int .i64 (a:Int)∧i=.int .i64 (k:Int)∧Hid (WgtAt ts k a)∧Hid (Below W.heap.size W wr)) (fun _ i _=>n - (intOf i).toNat)
 case atStart=>exact⟨0,0,yAE _,rfl,rfl,WgtAt.start ts,Below.refl _ _⟩
 case round=>
  obtain⟨k,a,hk,rfl,rfl,m,d⟩:=hrel;have t:=d.out.size;have G:wr.cell? ⟨w.heap.size,0,none⟩=some (.slice A n c):=(d.out.cell (p:=⟨w.heap.size,0,none⟩) y).trans E;have a1:=m.out.2
  by_cases H:k < n
  · have h1:(k:Int) < (n:Int):=by omega
    have U:decide ((k:Int) < (n:Int))=true:=decide_eq_true h1
    by_cases u:a≤20000
    · have z:(a:Int)≤20000:=by omega
      have V:decide ((a:Int)≤20000)=true:=decide_eq_true z;obtain⟨b,o,x,s,rfl,a2,I,Y,hR⟩:=(D.out.below (d.out.mono jo)).get H;obtain⟨J,L,M,N,O,P,Q,R⟩:=Y;have HX:=zA I;clear I hR;go_upto_region 6 with(fail);obtain⟨g,f⟩:=jx (wr.alloc (.cells #[.int .i64 x.kind,.string ⟨x.name.toArray⟩,.slice s.As x.str.length s.cs,.int .i64 x.nk,.int .i64 x.nn,.bool x.neg,.slice s.Am x.mag.length s.cm,.slice s.Ak x.kids.length s.ck] 43));rw[f];have p1:g.cell? ⟨wr.heap.size,1,none⟩=some (.string ⟨x.name.toArray⟩):=jc f;have p2:g.cell? ⟨wr.heap.size,2,none⟩=some (.slice s.As x.str.length s.cs):=jc f;have p6:g.cell? ⟨wr.heap.size,6,none⟩=some (.slice s.Am x.mag.length s.cm):=jc f;have p7:g.cell? ⟨wr.heap.size,7,none⟩=some (.slice s.Ak x.kids.length s.ck):=jc f;have S:=zA (show Below W.heap.size W g from by rw[←f];exact d.out.alloc t _);obtain⟨X,C⟩:=jx wr.heap.size;rw[C]at p1 p2 p6 p7;rw[C];clear f J L M N O P Q R G C d t;go_wp2_with fail
      go_roundw
      case rel=>
       exact⟨k+1,_,by omega,by first | (rw[zMC,zMC,zMC,zMC];rfl) | exact congrArg (Value.int IntKind.i64) jo,by go_num,m.out.step u HX.out rfl rfl rfl rfl,S.out⟩
      case measure=>simp[intOf];omega
    · have z:¬(a:Int)≤20000:=by omega
      have V:decide ((a:Int)≤20000)=false:=yAI z;go_wp2_with fail;go_ret;exact⟨a,rfl,fun h=>absurd h u,q.out.trans (d.out.mono jo)⟩
  · have h1:¬(k:Int) < (n:Int):=by omega
    have U:decide ((k:Int) < (n:Int))=false:=yAI h1;obtain rfl:k=n:=by omega
    have T:=zA (fun h:a≤20000=>(show WgtAt ts ts.length a by rw[F.out];exact m.out).done h);go_wp2_with fail;go_ret;exact⟨a,rfl,T.out,q.out.trans (d.out.mono jo)⟩
theorem zWb (hN:NdsR w B A n ts) (hB:B≤w.heap.size):
 Calls prog 6 #[.agg #[.slice A n c]] w (zZn ts w):=by
 by_cases h:n≤20000
 · have h1:(n:Int)≤20000:=by omega
   have j:decide ((n:Int)≤20000)=true:=decide_eq_true h1;have k:=zA (fun(W:World) (hb:Below w.heap.size w W)=>zNo (c:=c) (hN.below (hb.mono hB)) (yAD hB hb.size) h);clear hN;go_enter func6,ntmps6;go_wp2_with fail;refine(k.out _ (ja)).mono ?_;rintro e1 w1 ⟨r,rfl,f,b⟩;have d:=zA (((Below.refl w.heap.size w).alloc (yAC _) _).trans (b.mono js));have l:=zA f;clear b f
   by_cases g:r≤20000
   · have e:(r:Int)≤20000:=by omega
     have m:decide ((r:Int)≤20000)=true:=decide_eq_true e;go_wp2_with fail;go_ret;exact⟨true,rfl,fun _=>l.out g,d.out⟩
   · have e:¬(r:Int)≤20000:=by omega
     have m:decide ((r:Int)≤20000)=false:=yAI e;go_wp2_with fail;go_ret;exact⟨false,rfl,fun h=>(by cases h),d.out⟩
 · have h1:¬(n:Int)≤20000:=by omega
   have j:decide ((n:Int)≤20000)=false:=yAI h1;go_enter func6,ntmps6;go_wp2_with fail;go_ret;exact⟨false,rfl,fun h=>(by cases h),ja⟩
theorem zEN {w1 w2:World} (h1:Below w.heap.size w w1) (b:Below w1.heap.size w1 w2):Below w.heap.size w w2:=h1.trans (b.mono h1.size)
def zXU (ts:List Nd) (w:World) (e:Ending) (w':World):Prop:=e=.returned (.tuple #[.slice none 0 0,.int .i64 2])∧Below w.heap.size w w'∨∃t,May ts t∧zLy (zDd t) w e w'
theorem zWc {w0:World} (hN:NdsR w0 w0.heap.size A n ts) (b:Tab w0) (e:n≤c) (f:(zAn ts).length≤20000) (hb:Below w0.heap.size w0 w):Calls prog 7 #[.agg #[.slice A n c]] w (zXU ts w):=by
 cases hq:zRE ts with
 | false=>exact(zTQ (hN.below hb) hb.size e jo hq).mono fun _ _ h=>.inl h
 | true=>
  obtain⟨t,d⟩:=zRe hq;exact(zQX (hN.below hb) hb.size e jo (b.below b.lt hb) b.lt d (zTR d hN.limbs)).mono fun _ _ h=>.inr ⟨t,d,h⟩
theorem zIf (A:Option Addr) (n c:Nat) (ts:List Nd) (hc:n≤c) (_b:c≤maxLen) (w:World) (hN:NdsR w w.heap.size A n ts) (j:Tab w):
 Calls prog 3 #[.agg #[.slice A n c]] w fun e w'=>e=.returned (.bool true)∧Below w.heap.size w w':=by
 obtain⟨W,P⟩:=jx (w.alloc (.cells #[.slice A n c] 24));have Q:Below w.heap.size w W:=jb P;have s:w.heap.size < W.heap.size:=by rw[←P];simp
 have x0:W.cell? ⟨w.heap.size,0,none⟩=some (.slice A n c):=jc P;have F:=zA Q;have G:=zA (fun(x:World) (hb:Below w.heap.size w x)=>zNm (j.below j.lt hb));have CN:=zA (fun(x:World) (hb:Below w.heap.size w x)=>zWb (c:=c) (hN.below hb) hb.size);have CP:=zA (fun(x:World) (hb:Below w.heap.size w x) (H:FewP ts)=>zWc (c:=c) hN j hc H.all hb);have CR:=zA (fun(x:World) (hb:Below w.heap.size w x) (m:Nat) (A:Option Addr) (d:Nat) (u:List UInt16) (h1:u.length=m) (h2:m≤d) (h3:d≤maxLen) (h4:Reads x x.heap.size 1 A m (zAI u)) (h5:zBT u=(ts,0,0))=>zIe (yAC _) h1 h4 h2 h3 (j.below j.lt hb) h5 hN.1);have CS:=zA (fun(x:World) (hb:Below w.heap.size w x) (I:Option Addr) (c2:Nat) (h:NdsR x x.heap.size I n ts) (h2:n≤4096)=>zUT (c:=c2) (c2:=c) h ((hN.below hb).more hb.size) (yAC _) h2);have HL:=zA hN.limbs;have R:=zA hN.1;obtain⟨X,hX⟩:=jx w.heap.size;go_enter func3,ntmps3;go_upto_region 1 with(fail);clear hN Q j P hc;rw[hX]at x0 s;clear hX;go_wp2_with fail;refine(G.out _ F.out).mono ?_;rintro e1 w1 ⟨rfl,y⟩;have y1:=(y.cell (p:=⟨X,0,none⟩) s).trans x0;have J:=zA (zEN F.out y);have L:X < w1.heap.size:=yAA s y.size;clear y x0 s F;go_wp2_with fail;refine(CN.out w1 J.out).mono ?_;rintro e2 w2 ⟨q,rfl,H,z⟩;have y2:=(z.cell (p:=⟨X,0,none⟩) L).trans y1;have k:=zA (zEN J.out z);have M:X < w2.heap.size:=yAA L z.size;clear z y1 L J CN;cases q with
 | false=>
  clear H;go_wp2_with fail;refine(G.out w2 k.out).mono ?_;rintro e3 w3 ⟨rfl,b⟩;have f:=zA (zEN k.out b);clear b;go_wp2_with fail;go_ret;exact⟨rfl,f.out⟩
 | true=>
  have C2:=zA (CP.out w2 k.out (H rfl));clear CP H;go_wp2_with fail;refine C2.out.mono ?_;rintro e3 w3 (⟨rfl,b⟩ | ⟨t,hM,b,⟨_,rfl⟩ | ⟨o,v,rfl,hm⟩⟩);rotate_right
  · have hp:=zVu hM HL.out o;have a5:n≤4096:=by have:=hM.len;rwa[R.out]at this
    obtain⟨u,hu⟩:=jx (zDd t);rw[hu]at hp o hm;obtain⟨B,d,rfl,S,U,hr⟩:=hm.u16;have y3:=(b.cell (p:=⟨X,0,none⟩) M).trans y2;have f:=zA (zEN k.out b);have C:X < w3.heap.size:=yAA M b.size;have C3:=zA (CR.out w3 f.out _ B d u rfl S U hr hp);obtain⟨m,V⟩:=jx u.length;rw[V]at C3⊢;clear b y2 M k hM hu hm hr hp V S U o HL R C2 CR;go_wp2_with fail;refine C3.out.mono ?_;rintro e4 N ⟨I,c2,rfl,Y,a6,a7,g⟩;have y4:=(g.cell (p:=⟨X,0,none⟩) C).trans y3;have D:=zA (zEN f.out g);obtain⟨r,E⟩:=jx (N.alloc (.cells #[.slice I n c2] 24));have hg:Below N.heap.size N r:=jb E;obtain⟨T,j⟩:=jx N.heap.size;have z4:r.cell? ⟨T,0,none⟩=some (.slice I n c2):=by rw[←E,←j,World.cell?_alloc_at _ _ _ _ rfl];rfl
    have a0:X < r.heap.size:=yAA (yAA C g.size) hg.size;have a1:T < r.heap.size:=by rw[←j,←E];simp
    have y5:=(hg.cell (p:=⟨X,0,none⟩) (yAA C g.size)).trans y4;have O:=zA (zEN D.out hg);have a2:=zA ((Y.below hg).more hg.size);clear y3 C f g Y a6 a7 hg y4 D C3;go_upto_region 9 with(fail);clear E j;go_wp2_with fail;refine(G.out r O.out).mono ?_;rintro e5 w5 ⟨rfl,l⟩;have y6:=(l.cell (p:=⟨X,0,none⟩) a0).trans y5;have z6:=(l.cell (p:=⟨T,0,none⟩) a1).trans z4;have a3:=zA (zEN O.out l);have C6:=zA (CS.out w5 a3.out I c2 ((a2.out.below l).more l.size) a5);clear l y5 z4 a0 a1 O a2 CS G;go_wp2_with fail;refine C6.out.mono ?_;rintro e7 w7 ⟨rfl,a4⟩;have a8:=zA (zEN a3.out a4);clear a4;go_wp2_with fail;go_ret;exact⟨rfl,a8.out⟩
  all_goals
   have f:=zA (zEN k.out b);clear b;go_wp2_with fail;refine(G.out w3 f.out).mono ?_;rintro e4 N ⟨rfl,g⟩;have D:=zA (zEN f.out g);clear g;go_wp2_with fail;go_ret;exact⟨rfl,D.out⟩
end Go.Proofs.YtlnbbaehihgigaaGreatDoor
