/- Joined for the claim EarlyRoot: the parser, the lexer and the trees as they are walked, made short by a program of mine. -/
import Derived.Test.YtlohaclgbfhijaaGreatDoorE23
import Derived.Shelf.Unicode.DecodeSlow
import Derived.Test.YtlohaclgbfhijaaGreatDoorE01
set_option maxHeartbeats 16000000
set_option maxRecDepth 1000000
namespace Go.Proofs.YtlohaclgbfhijaaGreatDoor
open Go.Proofs.Tryz
set_option linter.unusedSimpArgs false
set_option linter.unusedVariables false
def cS (p:Ph) (s:Ps):Nat:=match p with
 | .program acc=>1+sizes acc
 | .blockL acc=>if s.bad≠0 then 1+sizes acc else 3+sizes acc
 | .item=>2
 | .declares=>2
 | .declL _ acc=>2+sizes acc
 | .func _ _=>3
 | .params=>2
 | .paramL acc=>2+sizes acc
 | .statement=>2
 | .simple=>2
 | .word _=>2
 | .loop=>2
 | .jump _=>2
 | .tries=>2
 | .body l=>2+sizes l
 | .nullL x=>x.size
 | .orL x=>x.size
 | .both x=>x.size
 | .levelL _ x=>x.size
 | .callsL x=>x.size
 | .headL x=>x.size
 | .args=>2
 | .list _=>2
 | .listL _ acc=>2+sizes acc
 | .object=>2
 | .objL acc=>2+sizes acc
 | _=>1
def dS (p:Ph):Option Nat:=match p with
 | .block=>some 4
 | .item=>some 0
 | .declares=>some 2
 | .params=>some 6
 | .statement=>some 2
 | .simple=>some 2
 | .word _=>some 2
 | .loop=>some 2
 | .jump _=>some 2
 | .tries=>some 2
 | .args=>some 0
 | .prop=>some 1
 | .assign=>some 4
 | .cond=>some 4
 | .either=>some 4
 | .level _=>some 4
 | .unary=>some 4
 | .calls=>some 4
 | .head=>some 4
 | .primary=>some 4
 | _=>none
def Z (s:Ps) (c:Nat) (d:Option Nat) (r:Tr×Ps):Prop:=r.1.size+16*s.k≤16*r.2.k+c∧∀e,d=some e→s.k < r.2.k→r.1.size+e+16*s.k≤16*r.2.k
theorem zt {s:Ps} {c:Nat} {d:Option Nat} {q:Prop} [Decidable q] {a b:Tr×Ps} (h1:q→Z s c d a) (h2:¬q→Z s c d b):Z s c d (if q then a else b):=by
 by_cases h:q
 · rw[if_pos h];exact h1 h
 · rw[if_neg h];exact h2 h
theorem zH (s:Ps):(zB s).k=s.k+1:=rfl
theorem zx (k:Int) (l:List Tr):(trK k l).size=1+sizes l:=zb _ _
theorem zy (k:Int) (n:List UInt8) (l:List Tr):(trN k n l).size=1+sizes l:=zb _ _
theorem zCT (t:Tr):t.size=1+sizes t.subs:=by cases t with | mk x l=>exact zb x l
structure Kz (L:List Tok) (R:Ph→Ps→Tr×Ps):Prop where
 post:∀q s,Pre L q s→Post L q s (R q s).2
 z:∀q s,Pre L q s→Z s (cS q s) (dS q) (R q s)
section
variable {L:List Tok} {R:Ph→Ps→Tr×Ps} {s:Ps} {q:Ph}
theorem Kz.e (K:Kz L R) (hp:Pre L q s) (he:zRs q=true) {c d:Nat} (hc:cS q s=c) (hd:dS q=some d):s.k≤(R q s).2.k∧(R q s).2.k≤L.length - 1∧(s.k < L.length - 1→s.k < (R q s).2.k)∧(s.k=L.length - 1→(R q s).2.bad≠0)∧(R q s).1.size+16*s.k≤16*(R q s).2.k+c∧(s.k < (R q s).2.k→(R q s).1.size+d+16*s.k≤16*(R q s).2.k):=by
 have h1:=K.post q s hp;unfold Post at h1;rw[if_pos he]at h1;have h2:=K.z q s hp;exact⟨h1.adv.le,h1.adv.hi,h1.more,h1.stop,hc▸h2.1,h2.2 d hd⟩
theorem Kz.a (K:Kz L R) (hp:Pre L q s) {c:Nat} (hc:cS q s=c):s.k≤(R q s).2.k∧(R q s).2.k≤L.length - 1∧(R q s).1.size+16*s.k≤16*(R q s).2.k+c:=by
 have h1:=(K.post q s hp).adv;exact⟨h1.le,h1.hi,hc▸(K.z q s hp).1⟩
theorem zA7 (hL:Lst L) {w:List UInt8} (h:s.k≤L.length - 1):s.k≤(zN L w s).k∧(zN L w s).k≤L.length - 1∧(s.k < L.length - 1→s.k < (zN L w s).k):=⟨(zU hL h).adv.le,(zU hL h).adv.hi,(zU hL h).more⟩
theorem zFR (hL:Lst L) (h:s.k≤L.length - 1):s.k≤(zd L s).2.k∧(zd L s).2.k≤L.length - 1∧(s.k < L.length - 1→s.k < (zd L s).2.k)∧(s.k=L.length - 1→(zd L s).2.bad≠0):=⟨(zAY hL h).adv.le,(zAY hL h).adv.hi,(zAY hL h).more,(zAY hL h).stop⟩
theorem zEi (hL:Lst L) (h:s.k≤L.length - 1):s.k≤(zC9 L s).k∧(zC9 L s).k≤L.length - 1:=⟨(zBW hL h).le,(zBW hL h).hi⟩
theorem zMN (hL:Lst L) (K:Kz L R) {acc:List Tr} (hp:Pre L (.program acc) s):Z s (cS (.program acc) s) (dS (.program acc)) (zE L R (.program acc) s):=by
 have hs:=hp.1;unfold zE cS dS;dsimp only;refine zt (fun h=>?_) (fun h=>?_);rotate_left;have hlt:=hL.lt hs h;obtain⟨a1,b1,c1,d1,e1,f1⟩:=K.e (q:=.item) (s:=s) ⟨hs,trivial⟩ rfl (c:=2) (d:=0) rfl rfl
 try simp only[zH]at a1 b1 c1 d1 e1 f1
 obtain⟨a2,b2,e2⟩:=K.a (q:=.program (acc++[(R .item s).1])) (s:=(R .item s).2) ⟨b1,trivial⟩ (c:=1+sizes (acc++[(R .item s).1])) (rfl)
 try simp only[zH]at a2 b2 e2
 rotate_left
 all_goals
  (refine⟨?_,fun e he hk=>by cases he⟩<;>(try simp only[zx,zy,zb,zI,zJ,zW,zH]at *)<;>omega)
theorem zOf {w:List UInt8}:(zN L w s).bad≠0∨s.k < (zN L w s).k:=by
 unfold zN;split
 · right;exact yAF _
 · left;exact zFF
theorem zQa (hL:Lst L) (K:Kz L R) (hp:Pre L (.block) s):Z s (cS (.block) s) (dS (.block)) (zE L R (.block) s):=by
 have hs:=hp.1;unfold zE cS dS;dsimp only;obtain⟨a1,b1,c1⟩:=zA7 (s:=s) (w:=[123]) hL (hs)
 try simp only[zH]at a1 b1 c1
 have hbb:=zOf (w:=[123]) (L:=L) (s:=s);obtain⟨p1,p2,p3⟩:=K.a (q:=.blockL []) (s:=zN L [123] s) ⟨b1,trivial⟩ rfl;unfold cS at p3;dsimp only at p3;refine⟨?_,fun e he hk=>?_⟩
 · rcases hbb with h | h
   · rw[if_pos h]at p3;simp only[zJ]at p3;omega
   · have:(if(zN L [123] s).bad≠0 then 1+sizes []else 3+sizes [])≤3:=by split<;>simp only[zJ]<;>omega
     omega
 · injection he with he;subst he;have:(if(zN L [123] s).bad≠0 then 1+sizes []else 3+sizes [])≤3:=by split<;>simp only[zJ]<;>omega
   rcases Nat.lt_or_ge s.k (L.length - 1)with h5 | h5
   · have:=c1 h5;omega
   · omega
theorem zOg (hL:Lst L) (K:Kz L R) {acc:List Tr} (hp:Pre L (.blockL acc) s):Z s (cS (.blockL acc) s) (dS (.blockL acc)) (zE L R (.blockL acc) s):=by
 have hs:=hp.1;unfold zE cS dS;dsimp only;refine zt (fun h=>?_) (fun h=>?_)
 · rw[if_pos h]
   (refine⟨?_,fun e he hk=>by cases he⟩<;>(try simp only[zx,zy,zb,zI,zJ,zW,zH]at *)<;>omega)
 · rw[if_neg h];refine zt (fun h2=>?_) (fun h2=>?_)
   · have hlt:=hL.on hs h2
     (refine⟨?_,fun e he hk=>by cases he⟩<;>(try simp only[zx,zy,zb,zI,zJ,zW,zH]at *)<;>omega)
   · obtain⟨a1,b1,c1,d1,e1,f1⟩:=K.e (q:=.item) (s:=s) ⟨hs,trivial⟩ rfl (c:=2) (d:=0) rfl rfl
     try simp only[zH]at a1 b1 c1 d1 e1 f1
     obtain⟨p1,p2,p3⟩:=K.a (q:=.blockL (acc++[(R .item s).1])) (s:=(R .item s).2) ⟨b1,trivial⟩ rfl;unfold cS at p3;dsimp only at p3;refine⟨?_,fun e he hk=>by cases he⟩;rcases Nat.lt_or_ge s.k (L.length - 1)with h5 | h5
     · have:=f1 (c1 h5)
       by_cases h6:(R .item s).2.bad≠0
       · rw[if_pos h6]at p3;simp only[zW,zI,zJ]at p3;omega
       · rw[if_neg h6]at p3;simp only[zW,zI,zJ]at p3;omega
     · rw[if_pos (d1 (by omega))]at p3;simp only[zW,zI,zJ]at p3;omega
theorem zQ9 (hL:Lst L) (K:Kz L R) (hp:Pre L (.item) s):Z s (cS (.item) s) (dS (.item)) (zE L R (.item) s):=by
 have hs:=hp.1;unfold zE cS dS;dsimp only;refine zt (fun h=>?_) (fun h=>?_);obtain⟨a1,b1,c1,d1,e1,f1⟩:=K.e (q:=.declares) (s:=s) ⟨hs,trivial⟩ rfl (c:=2) (d:=2) rfl rfl
 try simp only[zH]at a1 b1 c1 d1 e1 f1
 obtain⟨a2,b2⟩:=zEi (s:=(R .declares s).2) hL (b1)
 try simp only[zH]at a2 b2
 have hlt:s.k < L.length - 1:=by
  rcases Bool.or_eq_true _ _ |>.mp h with h | h
  · exact hL.on hs h
  · exact hL.on hs h
 have g1:=c1 hlt;have g2:=f1 g1;clear c1 f1 d1;rotate_left;refine zt (fun h2=>?_) (fun h2=>?_);have hlt:=hL.on hs h2;obtain⟨a3,b3,c3,d3⟩:=zFR (s:=zB s) hL ((by show s.k+1≤_;omega))
 try simp only[zH]at a3 b3 c3 d3
 obtain⟨a4,b4,e4⟩:=K.a (q:=.func 19 (zd L (zB s)).1) (s:=(zd L (zB s)).2) ⟨b3,trivial⟩ (c:=3) (rfl)
 try simp only[zH]at a4 b4 e4
 rotate_left;obtain⟨a5,b5,c5,d5,e5,f5⟩:=K.e (q:=.statement) (s:=s) ⟨hs,trivial⟩ rfl (c:=2) (d:=2) rfl rfl
 try simp only[zH]at a5 b5 c5 d5 e5 f5
 have g:=f5;rotate_left
 all_goals
  (refine⟨?_,fun e he hk=>?_⟩<;>(try (injection he with he;subst he))<;>(try simp only[zx,zy,zb,zI,zJ,zW,zH]at *)<;>omega)
theorem zJz (hL:Lst L) (K:Kz L R) (hp:Pre L (.declares) s):Z s (cS (.declares) s) (dS (.declares)) (zE L R (.declares) s):=by
 have hs:=hp.1;unfold zE cS dS;dsimp only;refine zt (fun h=>?_) (fun h=>?_)
 · have hlt:=hL.on hs h;obtain⟨a1,b1,e1⟩:=K.a (q:=.declL 6 []) (s:=zB s) ⟨(by show s.k+1≤_;omega),trivial⟩ (c:=2+sizes []) (rfl)
   try simp only[zH]at a1 b1 e1
   (refine⟨?_,fun e he hk=>?_⟩<;>(try (injection he with he;subst he))<;>(try simp only[zx,zy,zb,zI,zJ,zW,zH]at *)<;>omega)
 · obtain⟨a2,b2,c2⟩:=zA7 (s:=s) (w:=[108,101,116]) hL (hs)
   try simp only[zH]at a2 b2 c2
   obtain⟨a3,b3,e3⟩:=K.a (q:=.declL 5 []) (s:=zN L [108,101,116] s) ⟨b2,trivial⟩ (c:=2+sizes []) (rfl)
   try simp only[zH]at a3 b3 e3
   refine⟨?_,fun e he hk=>?_⟩
   · simp only[zJ]at e3;omega
   · injection he with he;subst he;simp only[zJ]at e3;rcases Nat.lt_or_ge s.k (L.length - 1)with h5 | h5
     · have:=c2 h5;omega
     · omega
theorem zQb (hL:Lst L) (K:Kz L R) {k:Int} {acc:List Tr} (hp:Pre L (.declL k acc) s):Z s (cS (.declL k acc) s) (dS (.declL k acc)) (zE L R (.declL k acc) s):=by
 have hs:=hp.1;unfold zE cS dS;dsimp only;obtain⟨a1,b1,c1,d1⟩:=zFR (s:=s) hL (hs)
 try simp only[zH]at a1 b1 c1 d1
 obtain⟨d,hd⟩:∃x,(if onP L [61] (zd L s).2=true then(trN 7 (zd L s).1 [(R .assign (zB (zd L s).2)).1],(R .assign (zB (zd L s).2)).2)else(trN 7 (zd L s).1 [],(zd L s).2):Tr×Ps)=x:=⟨_,rfl⟩;have gd:(zd L s).2.k≤d.2.k∧d.2.k≤L.length - 1∧d.1.size+16*(zd L s).2.k≤16*d.2.k+1∧(s.k=L.length - 1→d.2.bad≠0):=by
  rw[←hd];split
  · rename_i c
    have hlt:=hL.on b1 c;obtain⟨a2,b2,c2,d2,e2,f2⟩:=K.e (q:=.assign) (s:=zB (zd L s).2) ⟨by show(zd L s).2.k+1≤_;omega,trivial⟩ rfl (c:=1) (d:=4) rfl rfl
    try simp only[zH]at a2 b2 c2 d2 e2 f2
    dsimp only;refine⟨by omega,b2,by simp only[zy,zI,zJ];omega,fun h=>by omega⟩
  · exact⟨yAC _,b1,by simp only[zy,zJ];omega,d1⟩
 rw[hd];clear hd;obtain⟨q1,q2,q3,q4⟩:=gd;refine zt (fun h=>?_) (fun h=>?_);rotate_left;refine zt (fun h2=>?_) (fun h2=>?_);have hlt:=hL.on q2 h2;obtain⟨a3,b3,e3⟩:=K.a (q:=.declL k (acc++[d.1])) (s:=zB d.2) ⟨by show d.2.k+1≤_;omega,trivial⟩ (c:=2+sizes (acc++[d.1])) (rfl)
 try simp only[zH]at a3 b3 e3
 rotate_left;rotate_left
 all_goals
  (refine⟨?_,fun e he hk=>by cases he⟩<;>(try simp only[zx,zy,zb,zI,zJ,zW,zH]at *)<;>omega)
theorem zRA (hL:Lst L) (K:Kz L R) {k:Int} {m:List UInt8} (hp:Pre L (.func k m) s):Z s (cS (.func k m) s) (dS (.func k m)) (zE L R (.func k m) s):=by
 have hs:=hp.1;unfold zE cS dS;dsimp only;obtain⟨a1,b1,c1,d1,e1,f1⟩:=K.e (q:=.params) (s:=s) ⟨hs,trivial⟩ rfl (c:=2) (d:=6) rfl rfl
 try simp only[zH]at a1 b1 c1 d1 e1 f1
 obtain⟨a2,b2,c2,d2,e2,f2⟩:=K.e (q:=.block) (s:=(R .params s).2) ⟨b1,trivial⟩ rfl (c:=1) (d:=4) rfl rfl
 try simp only[zH]at a2 b2 c2 d2 e2 f2
 have h7:=zCT (R .params s).1
 (refine⟨?_,fun e he hk=>by cases he⟩<;>(try simp only[zx,zy,zb,zI,zJ,zW,zH]at *)<;>omega)
theorem zOh (hL:Lst L) (K:Kz L R) (hp:Pre L (.params) s):Z s (cS (.params) s) (dS (.params)) (zE L R (.params) s):=by
 have hs:=hp.1;unfold zE cS dS;dsimp only;obtain⟨a1,b1,c1⟩:=zA7 (s:=s) (w:=[40]) hL (hs)
 try simp only[zH]at a1 b1 c1
 refine zt (fun h=>?_) (fun h=>?_);have hlt:=hL.on b1 h;rotate_left;obtain⟨a2,b2,e2⟩:=K.a (q:=.paramL []) (s:=zN L [40] s) ⟨b1,trivial⟩ (c:=2+sizes []) (rfl)
 try simp only[zH]at a2 b2 e2
 simp only[zJ]at e2;rotate_left
 all_goals
  (refine⟨?_,fun e he hk=>?_⟩<;>(try (injection he with he;subst he))<;>(try simp only[zx,zy,zb,zI,zJ,zW,zH]at *)<;>omega)
theorem zOi (hL:Lst L) (K:Kz L R) {acc:List Tr} (hp:Pre L (.paramL acc) s):Z s (cS (.paramL acc) s) (dS (.paramL acc)) (zE L R (.paramL acc) s):=by
 have hs:=hp.1;unfold zE cS dS;dsimp only;obtain⟨a1,b1,c1,d1⟩:=zFR (s:=s) hL (hs)
 try simp only[zH]at a1 b1 c1 d1
 refine zt (fun h=>?_) (fun h=>?_);rotate_left;refine zt (fun h2=>?_) (fun h2=>?_);have hlt:=hL.on b1 h2;rotate_left;obtain⟨a2,b2,c2⟩:=zA7 (s:=(zd L s).2) (w:=[44]) hL (b1)
 try simp only[zH]at a2 b2 c2
 obtain⟨a3,b3,e3⟩:=K.a (q:=.paramL (acc++[trN 20 (zd L s).1 []])) (s:=zN L [44] (zd L s).2) ⟨b2,trivial⟩ (c:=2+sizes (acc++[trN 20 (zd L s).1 []])) (rfl)
 try simp only[zH]at a3 b3 e3
 have hlt:s.k < L.length - 1:=by
  rcases Nat.lt_or_ge s.k (L.length - 1)with h5 | h5
  · exact h5
  · exact absurd (d1 (by omega)) h
 rotate_left
 all_goals
  (refine⟨?_,fun e he hk=>by cases he⟩<;>(try simp only[zx,zy,zb,zI,zJ,zW,zH]at *)<;>omega)
theorem zHt (hL:Lst L) (K:Kz L R) (hp:Pre L (.statement) s):Z s (cS (.statement) s) (dS (.statement)) (zE L R (.statement) s):=by
 have hs:=hp.1;unfold zE cS dS;dsimp only;refine zt (fun h=>?_) (fun h=>?_);have hlt:=hL.lt hs (by rw[h.1];decide);have hlt2:=zIF hL hlt h.2;obtain⟨a1,b1,c1,d1,e1,f1⟩:=K.e (q:=.statement) (s:=zB (zB s)) ⟨by show s.k+1+1≤_;omega,trivial⟩ rfl (c:=2) (d:=2) rfl rfl
 try simp only[zH]at a1 b1 c1 d1 e1 f1
 rotate_left;refine zt (fun h2=>?_) (fun h2=>?_);obtain⟨a2,b2,c2,d2,e2,f2⟩:=K.e (q:=.word (zL L s.k).text) (s:=s) ⟨hs,hL.lt hs (by rw[h2];decide)⟩ rfl (c:=2) (d:=2) rfl rfl
 try simp only[zH]at a2 b2 c2 d2 e2 f2
 rotate_left;refine zt (fun h3=>?_) (fun h3=>?_);have hlt:=hL.on hs h3;rotate_left;refine zt (fun h4=>?_) (fun h4=>?_);obtain⟨a3,b3,c3,d3,e3,f3⟩:=K.e (q:=.block) (s:=s) ⟨hs,trivial⟩ rfl (c:=1) (d:=4) rfl rfl
 try simp only[zH]at a3 b3 c3 d3 e3 f3
 rotate_left;obtain⟨a4,b4,c4,d4,e4,f4⟩:=K.e (q:=.simple) (s:=s) ⟨hs,trivial⟩ rfl (c:=2) (d:=2) rfl rfl
 try simp only[zH]at a4 b4 c4 d4 e4 f4
 rotate_left
 all_goals
  (refine⟨?_,fun e he hk=>?_⟩<;>(try (injection he with he;subst he))<;>(try simp only[zx,zy,zb,zI,zJ,zW,zH]at *)<;>omega)
theorem zOj (hL:Lst L) (K:Kz L R) (hp:Pre L (.simple) s):Z s (cS (.simple) s) (dS (.simple)) (zE L R (.simple) s):=by
 have hs:=hp.1;unfold zE cS dS;dsimp only;obtain⟨a1,b1,c1,d1,e1,f1⟩:=K.e (q:=.assign) (s:=s) ⟨hs,trivial⟩ rfl (c:=1) (d:=4) rfl rfl
 try simp only[zH]at a1 b1 c1 d1 e1 f1
 obtain⟨a2,b2⟩:=zEi (s:=(R .assign s).2) hL (b1)
 try simp only[zH]at a2 b2
 (refine⟨?_,fun e he hk=>?_⟩<;>(try (injection he with he;subst he))<;>(try simp only[zx,zy,zb,zI,zJ,zW,zH]at *)<;>omega)
theorem zRB (hL:Lst L) (K:Kz L R) {w:List UInt8} (hp:Pre L (.word w) s):Z s (cS (.word w) s) (dS (.word w)) (zE L R (.word w) s):=by
 have hs:=hp.1;unfold zE cS dS;dsimp only;have hlt:s.k < L.length - 1:=hp.2;have hrf:(zY L s).k=L.length - 1:=rfl;refine zt (fun h1=>?_) (fun h1=>?_);obtain⟨a1,b1,e1⟩:=K.a (q:=.within) (s:=zB s) ⟨by show s.k+1≤_;omega,trivial⟩ (c:=1) (rfl)
 try simp only[zH]at a1 b1 e1
 obtain⟨a2,b2,c2,d2,e2,f2⟩:=K.e (q:=.statement) (s:=(R .within (zB s)).2) ⟨b1,trivial⟩ rfl (c:=2) (d:=2) rfl rfl
 try simp only[zH]at a2 b2 c2 d2 e2 f2
 refine zt (fun h=>?_) (fun h=>?_);have hlt3:=hL.on b2 h;obtain⟨a3,b3,c3,d3,e3,f3⟩:=K.e (q:=.statement) (s:=zB (R .statement (R .within (zB s)).2).2) ⟨by show(R .statement (R .within (zB s)).2).2.k+1≤_;omega,trivial⟩ rfl (c:=2) (d:=2) rfl rfl
 try simp only[zH]at a3 b3 c3 d3 e3 f3
 rotate_left;rotate_left;refine zt (fun h2=>?_) (fun h2=>?_);obtain⟨a4,b4,e4⟩:=K.a (q:=.within) (s:=zB s) ⟨by show s.k+1≤_;omega,trivial⟩ (c:=1) (rfl)
 try simp only[zH]at a4 b4 e4
 obtain⟨a5,b5,c5,d5,e5,f5⟩:=K.e (q:=.statement) (s:=(R .within (zB s)).2) ⟨b4,trivial⟩ rfl (c:=2) (d:=2) rfl rfl
 try simp only[zH]at a5 b5 c5 d5 e5 f5
 rotate_left;refine zt (fun h3=>?_) (fun h3=>?_);obtain⟨a6,b6,c6,d6,e6,f6⟩:=K.e (q:=.loop) (s:=s) ⟨hs,hlt⟩ rfl (c:=2) (d:=2) rfl rfl
 try simp only[zH]at a6 b6 c6 d6 e6 f6
 rotate_left;refine zt (fun h4=>?_) (fun h4=>?_);obtain⟨a7,b7,c7,d7,e7,f7⟩:=K.e (q:=.jump 12) (s:=s) ⟨hs,hlt⟩ rfl (c:=2) (d:=2) rfl rfl
 try simp only[zH]at a7 b7 c7 d7 e7 f7
 rotate_left;refine zt (fun h5=>?_) (fun h5=>?_);obtain⟨a8,b8,c8,d8,e8,f8⟩:=K.e (q:=.jump 13) (s:=s) ⟨hs,hlt⟩ rfl (c:=2) (d:=2) rfl rfl
 try simp only[zH]at a8 b8 c8 d8 e8 f8
 rotate_left;refine zt (fun h6=>?_) (fun h6=>?_);refine zt (fun h=>?_) (fun h=>?_);obtain⟨a9,b9⟩:=zEi (s:=zB s) hL (by show s.k+1≤_;omega)
 try simp only[zH]at a9 b9
 rotate_left;obtain⟨a10,b10,c10,d10,e10,f10⟩:=K.e (q:=.assign) (s:=zB s) ⟨by show s.k+1≤_;omega,trivial⟩ rfl (c:=1) (d:=4) rfl rfl
 try simp only[zH]at a10 b10 c10 d10 e10 f10
 obtain⟨a11,b11⟩:=zEi (s:=(R .assign (zB s)).2) hL (b10)
 try simp only[zH]at a11 b11
 rotate_left;refine zt (fun h7=>?_) (fun h7=>?_);obtain⟨s1,hs1⟩:∃x,(if(zL L (zB s).k).nl=true then zY L (zB s)else zB s:Ps)=x:=⟨_,rfl⟩;have gs1:s.k+1≤s1.k∧s1.k≤L.length - 1:=by
  rw[←hs1];split
  · exact⟨by show s.k+1≤L.length - 1;omega,yAC _⟩
  · exact⟨yAC _,by show s.k+1≤_;omega⟩
 rw[hs1];clear hs1;obtain⟨a12,b12,c12,d12,e12,f12⟩:=K.e (q:=.assign) (s:=s1) ⟨gs1.2,trivial⟩ rfl (c:=1) (d:=4) rfl rfl
 try simp only[zH]at a12 b12 c12 d12 e12 f12
 obtain⟨a13,b13⟩:=zEi (s:=(R .assign s1).2) hL (b12)
 try simp only[zH]at a13 b13
 rotate_left;refine zt (fun h8=>?_) (fun h8=>?_);obtain⟨a14,b14,c14,d14,e14,f14⟩:=K.e (q:=.tries) (s:=s) ⟨hs,hlt⟩ rfl (c:=2) (d:=2) rfl rfl
 try simp only[zH]at a14 b14 c14 d14 e14 f14
 rotate_left;refine zt (fun h9=>?_) (fun h9=>?_);rotate_left;obtain⟨a15,b15,c15,d15,e15,f15⟩:=K.e (q:=.simple) (s:=s) ⟨hs,trivial⟩ rfl (c:=2) (d:=2) rfl rfl
 try simp only[zH]at a15 b15 c15 d15 e15 f15
 rotate_left
 all_goals
  (refine⟨?_,fun e he hk=>?_⟩<;>(try (injection he with he;subst he))<;>(try simp only[zx,zy,zb,zI,zJ,zW,zH]at *)<;>omega)
theorem zOk (hL:Lst L) (K:Kz L R) (hp:Pre L (.within) s):Z s (cS (.within) s) (dS (.within)) (zE L R (.within) s):=by
 have hs:=hp.1;unfold zE cS dS;dsimp only;obtain⟨a1,b1,c1⟩:=zA7 (s:=s) (w:=[40]) hL (hs)
 try simp only[zH]at a1 b1 c1
 obtain⟨a2,b2,c2,d2,e2,f2⟩:=K.e (q:=.assign) (s:=zN L [40] s) ⟨b1,trivial⟩ rfl (c:=1) (d:=4) rfl rfl
 try simp only[zH]at a2 b2 c2 d2 e2 f2
 obtain⟨a3,b3,c3⟩:=zA7 (s:=(R .assign (zN L [40] s)).2) (w:=[41]) hL (b2)
 try simp only[zH]at a3 b3 c3
 (refine⟨?_,fun e he hk=>by cases he⟩<;>(try simp only[zx,zy,zb,zI,zJ,zW,zH]at *)<;>omega)
theorem zOl (hL:Lst L) (K:Kz L R) {w:List UInt8} (hp:Pre L (.clause w) s):Z s (cS (.clause w) s) (dS (.clause w)) (zE L R (.clause w) s):=by
 have hs:=hp.1;unfold zE cS dS;dsimp only;refine zt (fun h=>?_) (fun h=>?_);obtain⟨a1,b1,c1⟩:=zA7 (s:=s) (w:=w) hL (hs)
 try simp only[zH]at a1 b1 c1
 rotate_left;obtain⟨a2,b2,c2,d2,e2,f2⟩:=K.e (q:=.assign) (s:=s) ⟨hs,trivial⟩ rfl (c:=1) (d:=4) rfl rfl
 try simp only[zH]at a2 b2 c2 d2 e2 f2
 obtain⟨a3,b3,c3⟩:=zA7 (s:=(R .assign s).2) (w:=w) hL (b2)
 try simp only[zH]at a3 b3 c3
 rotate_left
 all_goals
  (refine⟨?_,fun e he hk=>by cases he⟩<;>(try simp only[zx,zy,zb,zI,zJ,zW,zH]at *)<;>omega)
theorem zRC (hL:Lst L) (K:Kz L R) (hp:Pre L (.loop) s):Z s (cS (.loop) s) (dS (.loop)) (zE L R (.loop) s):=by
 have hs:=hp.1;unfold zE cS dS;dsimp only;have hlt:s.k < L.length - 1:=hp.2;obtain⟨a1,b1,c1⟩:=zA7 (s:=zB s) (w:=[40]) hL (by show s.k+1≤_;omega)
 try simp only[zH]at a1 b1 c1
 obtain⟨a,ha⟩:∃x,(if(onP L [108,101,116] (zN L [40] (zB s)) || onP L [99,111,110,115,116] (zN L [40] (zB s)))=true then((R .declares (zN L [40] (zB s))).1,zN L [59] (R .declares (zN L [40] (zB s))).2)else R (.clause [59]) (zN L [40] (zB s)):Tr×Ps)=x:=⟨_,rfl⟩;have ga:(zN L [40] (zB s)).k≤a.2.k∧a.2.k≤L.length - 1∧a.1.size+16*(zN L [40] (zB s)).k≤16*a.2.k+2:=by
  rw[←ha];split
  · obtain⟨a2,b2,c2,d2,e2,f2⟩:=K.e (q:=.declares) (s:=zN L [40] (zB s)) ⟨b1,trivial⟩ rfl (c:=2) (d:=2) rfl rfl
    try simp only[zH]at a2 b2 c2 d2 e2 f2
    obtain⟨a3,b3,c3⟩:=zA7 (s:=(R .declares (zN L [40] (zB s))).2) (w:=[59]) hL (b2)
    try simp only[zH]at a3 b3 c3
    dsimp only;exact⟨by omega,by omega,by omega⟩
  · obtain⟨a4,b4,e4⟩:=K.a (q:=.clause [59]) (s:=zN L [40] (zB s)) ⟨b1,trivial⟩ (c:=1) (rfl)
    try simp only[zH]at a4 b4 e4
    exact⟨by omega,by omega,by omega⟩
 rw[ha];clear ha;obtain⟨q1,q2,q3⟩:=ga;obtain⟨a5,b5,e5⟩:=K.a (q:=.clause [59]) (s:=a.2) ⟨q2,trivial⟩ (c:=1) (rfl)
 try simp only[zH]at a5 b5 e5
 obtain⟨a6,b6,e6⟩:=K.a (q:=.clause [41]) (s:=(R (.clause [59]) a.2).2) ⟨b5,trivial⟩ (c:=1) (rfl)
 try simp only[zH]at a6 b6 e6
 obtain⟨a7,b7,c7,d7,e7,f7⟩:=K.e (q:=.statement) (s:=(R (.clause [41]) (R (.clause [59]) a.2).2).2) ⟨b6,trivial⟩ rfl (c:=2) (d:=2) rfl rfl
 try simp only[zH]at a7 b7 c7 d7 e7 f7
 (refine⟨?_,fun e he hk=>?_⟩<;>(try (injection he with he;subst he))<;>(try simp only[zx,zy,zb,zI,zJ,zW,zH]at *)<;>omega)
theorem zRD (hL:Lst L) (K:Kz L R) {k:Int} (hp:Pre L (.jump k) s):Z s (cS (.jump k) s) (dS (.jump k)) (zE L R (.jump k) s):=by
 have hs:=hp.1;unfold zE cS dS;dsimp only;have hlt:s.k < L.length - 1:=hp.2;refine zt (fun h=>?_) (fun h=>?_);obtain⟨a1,b1,c1,d1⟩:=zFR (s:=zB s) hL (by show s.k+1≤_;omega)
 try simp only[zH]at a1 b1 c1 d1
 obtain⟨a2,b2⟩:=zEi (s:=(zd L (zB s)).2) hL (b1)
 try simp only[zH]at a2 b2
 rotate_left;obtain⟨a3,b3⟩:=zEi (s:=zB s) hL (by show s.k+1≤_;omega)
 try simp only[zH]at a3 b3
 rotate_left
 all_goals
  (refine⟨?_,fun e he hk=>?_⟩<;>(try (injection he with he;subst he))<;>(try simp only[zx,zy,zb,zI,zJ,zW,zH]at *)<;>omega)
theorem zQc (hL:Lst L) (K:Kz L R) (hp:Pre L (.tries) s):Z s (cS (.tries) s) (dS (.tries)) (zE L R (.tries) s):=by
 have hs:=hp.1;unfold zE cS dS;dsimp only;have hlt:s.k < L.length - 1:=hp.2;obtain⟨a1,b1,c1,d1,e1,f1⟩:=K.e (q:=.block) (s:=zB s) ⟨by show s.k+1≤_;omega,trivial⟩ rfl (c:=1) (d:=4) rfl rfl
 try simp only[zH]at a1 b1 c1 d1 e1 f1
 obtain⟨s1,hs1⟩:∃x,(if(onP L [99,97,116,99,104] (R .block (zB s)).2 || onP L [102,105,110,97,108,108,121] (R .block (zB s)).2)=true then(R .block (zB s)).2 else zY L (R .block (zB s)).2:Ps)=x:=⟨_,rfl⟩;have gs1:(R .block (zB s)).2.k≤s1.k∧s1.k≤L.length - 1:=by
  rw[←hs1];split
  · exact⟨yAC _,b1⟩
  · exact⟨b1,yAC _⟩
 rw[hs1];clear hs1;have gn:onP L [99,97,116,99,104] s1=true→s1.k+1≤((if onP L [40] (zB s1)=true then((zd L (zB (zB s1))).1,zN L [41] (zd L (zB (zB s1))).2)else([],zB s1):List UInt8×Ps)).2.k∧((if onP L [40] (zB s1)=true then((zd L (zB (zB s1))).1,zN L [41] (zd L (zB (zB s1))).2)else([],zB s1):List UInt8×Ps)).2.k≤L.length - 1:=by
  intro hc;have hl1:=hL.on gs1.2 hc;split
  · rename_i c
    have hl2:=hL.on (s:=zB s1) (by show s1.k+1≤_;omega) c;have h3:=zFR (s:=zB (zB s1)) hL (by show(zB s1).k+1≤_;omega);have h4:=zA7 (s:=(zd L (zB (zB s1))).2) (w:=[41]) hL h3.2.1;have h5:(zB (zB s1)).k=s1.k+1+1:=rfl;dsimp only;omega
  · exact⟨yAC _,by show s1.k+1≤_;omega⟩
 obtain⟨n,hn⟩:∃x,(if onP L [40] (zB s1)=true then((zd L (zB (zB s1))).1,zN L [41] (zd L (zB (zB s1))).2)else([],zB s1):List UInt8×Ps)=x:=⟨_,rfl⟩;rw[hn]at gn⊢;clear hn;obtain⟨c,hc⟩:∃x,(if onP L [99,97,116,99,104] s1=true then(trN 17 n.1 [(R .block n.2).1],(R .block n.2).2)else(trK 11 [],s1):Tr×Ps)=x:=⟨_,rfl⟩;have gc:s1.k≤c.2.k∧c.2.k≤L.length - 1∧c.1.size+16*s1.k≤16*c.2.k+1:=by
  rw[←hc];split
  · rename_i hc
    have h1:=gn hc;obtain⟨a2,b2,c2,d2,e2,f2⟩:=K.e (q:=.block) (s:=n.2) ⟨h1.2,trivial⟩ rfl (c:=1) (d:=4) rfl rfl
    try simp only[zH]at a2 b2 c2 d2 e2 f2
    dsimp only;exact⟨by omega,b2,by simp only[zy,zI,zJ];omega⟩
  · exact⟨yAC _,gs1.2,by simp only[zx,zJ];omega⟩
 rw[hc];clear hc;obtain⟨q1,q2,q3⟩:=gc;refine zt (fun h=>?_) (fun h=>?_);have hl5:=hL.on q2 h;obtain⟨a3,b3,c3,d3,e3,f3⟩:=K.e (q:=.block) (s:=zB c.2) ⟨by show c.2.k+1≤_;omega,trivial⟩ rfl (c:=1) (d:=4) rfl rfl
 try simp only[zH]at a3 b3 c3 d3 e3 f3
 rotate_left;rotate_left
 all_goals
  (refine⟨?_,fun e he hk=>?_⟩<;>(try (injection he with he;subst he))<;>(try simp only[zx,zy,zb,zI,zJ,zW,zH]at *)<;>omega)
theorem zOm (hL:Lst L) (K:Kz L R) (hp:Pre L (.assign) s):Z s (cS (.assign) s) (dS (.assign)) (zE L R (.assign) s):=by
 have hs:=hp.1;unfold zE cS dS;dsimp only;refine zt (fun h1=>?_) (fun h1=>?_);have hlt:=hL.lt hs (by rw[h1.1];decide);obtain⟨a1,b1,e1⟩:=K.a (q:=.body [trN 20 (zL L s.k).text []]) (s:=zB s) ⟨by show s.k+1≤_;omega,trivial⟩ (c:=2+sizes [trN 20 (zL L s.k).text []]) (rfl)
 try simp only[zH]at a1 b1 e1
 rotate_left;refine zt (fun h2=>?_) (fun h2=>?_);obtain⟨a2,b2,c2,d2,e2,f2⟩:=K.e (q:=.params) (s:=s) ⟨hs,trivial⟩ rfl (c:=2) (d:=6) rfl rfl
 try simp only[zH]at a2 b2 c2 d2 e2 f2
 obtain⟨a3,b3,e3⟩:=K.a (q:=.body (R .params s).1.subs) (s:=(R .params s).2) ⟨b2,trivial⟩ (c:=2+sizes (R .params s).1.subs) (rfl)
 try simp only[zH]at a3 b3 e3
 have h7:=zCT (R .params s).1;have hlt:s.k < L.length - 1:=by
  unfold zAX at h2;rw[Bool.and_eq_true]at h2;exact hL.on hs h2.1
 rotate_left;obtain⟨a4,b4,c4,d4,e4,f4⟩:=K.e (q:=.cond) (s:=s) ⟨hs,trivial⟩ rfl (c:=1) (d:=4) rfl rfl
 try simp only[zH]at a4 b4 c4 d4 e4 f4
 have hrf:(zBw L 5 (R .cond s).2).k=L.length - 1:=rfl;refine zt (fun h3=>?_) (fun h3=>?_);rotate_left;refine zt (fun h4=>?_) (fun h4=>?_);rotate_left;have hlt:=hL.lt (s:=(R .cond s).2) b4 (fun h0=>h3 (.inl (by rw[h0];decide)));obtain⟨a5,b5,c5,d5,e5,f5⟩:=K.e (q:=.assign) (s:=zB (R .cond s).2) ⟨by show(R .cond s).2.k+1≤_;omega,trivial⟩ rfl (c:=1) (d:=4) rfl rfl
 try simp only[zH]at a5 b5 c5 d5 e5 f5
 rotate_left
 all_goals
  (refine⟨?_,fun e he hk=>?_⟩<;>(try (injection he with he;subst he))<;>(try simp only[zx,zy,zb,zI,zJ,zW,zH]at *)<;>omega)
theorem zRE (hL:Lst L) (K:Kz L R) {l:List Tr} (hp:Pre L (.body l) s):Z s (cS (.body l) s) (dS (.body l)) (zE L R (.body l) s):=by
 have hs:=hp.1;unfold zE cS dS;dsimp only;obtain⟨s1,hs1⟩:∃x,(if(zL L s.k).nl=true then zY L s else s:Ps)=x:=⟨_,rfl⟩;have gs1:s.k≤s1.k∧s1.k≤L.length - 1:=by
  rw[←hs1];split
  · exact⟨hs,yAC _⟩
  · exact⟨yAC _,hs⟩
 rw[hs1];clear hs1;obtain⟨a1,b1,c1⟩:=zA7 (s:=s1) (w:=[61,62]) hL (gs1.2)
 try simp only[zH]at a1 b1 c1
 obtain⟨s2,hs2⟩:∃x,zN L [61,62] s1=x:=⟨_,rfl⟩;rw[hs2]at a1 b1 c1⊢;clear hs2;obtain⟨bb,hbb⟩:∃x,(if onP L [123] s2=true then R .block s2 else R .assign s2:Tr×Ps)=x:=⟨_,rfl⟩;have gbb:s2.k≤bb.2.k∧bb.2.k≤L.length - 1∧bb.1.size+16*s2.k≤16*bb.2.k+1:=by
  rw[←hbb];split
  · obtain⟨a2,b2,c2,d2,e2,f2⟩:=K.e (q:=.block) (s:=s2) ⟨b1,trivial⟩ rfl (c:=1) (d:=4) rfl rfl
    try simp only[zH]at a2 b2 c2 d2 e2 f2
    exact⟨a2,b2,e2⟩
  · obtain⟨a3,b3,c3,d3,e3,f3⟩:=K.e (q:=.assign) (s:=s2) ⟨b1,trivial⟩ rfl (c:=1) (d:=4) rfl rfl
    try simp only[zH]at a3 b3 c3 d3 e3 f3
    exact⟨a3,b3,e3⟩
 rw[hbb];clear hbb;obtain⟨q1,q2,q3⟩:=gbb
 (refine⟨?_,fun e he hk=>by cases he⟩<;>(try simp only[zx,zy,zb,zI,zJ,zW,zH]at *)<;>omega)
theorem zRF (hL:Lst L) (K:Kz L R) (hp:Pre L (.cond) s):Z s (cS (.cond) s) (dS (.cond)) (zE L R (.cond) s):=by
 have hs:=hp.1;unfold zE cS dS;dsimp only;obtain⟨a1,b1,c1,d1,e1,f1⟩:=K.e (q:=.either) (s:=s) ⟨hs,trivial⟩ rfl (c:=1) (d:=4) rfl rfl
 try simp only[zH]at a1 b1 c1 d1 e1 f1
 refine zt (fun h=>?_) (fun h=>?_);have hlt:=hL.on b1 h;obtain⟨a2,b2,c2,d2,e2,f2⟩:=K.e (q:=.assign) (s:=zB (R .either s).2) ⟨by show(R .either s).2.k+1≤_;omega,trivial⟩ rfl (c:=1) (d:=4) rfl rfl
 try simp only[zH]at a2 b2 c2 d2 e2 f2
 obtain⟨a3,b3,c3⟩:=zA7 (s:=(R .assign (zB (R .either s).2)).2) (w:=[58]) hL (b2)
 try simp only[zH]at a3 b3 c3
 obtain⟨a4,b4,c4,d4,e4,f4⟩:=K.e (q:=.assign) (s:=zN L [58] (R .assign (zB (R .either s).2)).2) ⟨b3,trivial⟩ rfl (c:=1) (d:=4) rfl rfl
 try simp only[zH]at a4 b4 c4 d4 e4 f4
 rotate_left;rotate_left
 all_goals
  (refine⟨?_,fun e he hk=>?_⟩<;>(try (injection he with he;subst he))<;>(try simp only[zx,zy,zb,zI,zJ,zW,zH]at *)<;>omega)
theorem zOn (hL:Lst L) (K:Kz L R) (hp:Pre L (.either) s):Z s (cS (.either) s) (dS (.either)) (zE L R (.either) s):=by
 have hs:=hp.1;unfold zE cS dS;dsimp only;obtain⟨a1,b1,c1,d1,e1,f1⟩:=K.e (q:=.level 0) (s:=s) ⟨hs,yAE _⟩ rfl (c:=1) (d:=4) rfl rfl
 try simp only[zH]at a1 b1 c1 d1 e1 f1
 refine zt (fun h=>?_) (fun h=>?_);obtain⟨a2,b2,e2⟩:=K.a (q:=.nullL (R (.level 0) s).1) (s:=(R (.level 0) s).2) ⟨b1,trivial⟩ (c:=(R (.level 0) s).1.size) (rfl)
 try simp only[zH]at a2 b2 e2
 obtain⟨s3,hs3⟩:∃x,(if(onP L [124,124] (R (.nullL (R (.level 0) s).1) (R (.level 0) s).2).2 || onP L [38,38] (R (.nullL (R (.level 0) s).1) (R (.level 0) s).2).2)=true then zY L (R (.nullL (R (.level 0) s).1) (R (.level 0) s).2).2 else(R (.nullL (R (.level 0) s).1) (R (.level 0) s).2).2:Ps)=x:=⟨_,rfl⟩;have gs3:(R (.nullL (R (.level 0) s).1) (R (.level 0) s).2).2.k≤s3.k∧s3.k≤L.length - 1:=by
  rw[←hs3];split
  · exact⟨b2,yAC _⟩
  · exact⟨yAC _,b2⟩
 rw[hs3];clear hs3;rotate_left;obtain⟨a3,b3,e3⟩:=K.a (q:=.both (R (.level 0) s).1) (s:=(R (.level 0) s).2) ⟨b1,trivial⟩ (c:=(R (.level 0) s).1.size) (rfl)
 try simp only[zH]at a3 b3 e3
 obtain⟨y,hy⟩:∃x,R (.both (R (.level 0) s).1) (R (.level 0) s).2=x:=⟨_,rfl⟩;rw[hy]at a3 b3 e3⊢;clear hy;obtain⟨a4,b4,e4⟩:=K.a (q:=.orL y.1) (s:=y.2) ⟨b3,trivial⟩ (c:=y.1.size) (rfl)
 try simp only[zH]at a4 b4 e4
 obtain⟨z,hz⟩:∃x,R (.orL y.1) y.2=x:=⟨_,rfl⟩;rw[hz]at a4 b4 e4⊢;clear hz;obtain⟨s3,hs3⟩:∃x,(if onP L [63,63] z.2=true then zY L z.2 else z.2:Ps)=x:=⟨_,rfl⟩;have gs3:z.2.k≤s3.k∧s3.k≤L.length - 1:=by
  rw[←hs3];split
  · exact⟨b4,yAC _⟩
  · exact⟨yAC _,b4⟩
 rw[hs3];clear hs3;rotate_left
 all_goals
  (refine⟨?_,fun e he hk=>?_⟩<;>(try (injection he with he;subst he))<;>(try simp only[zx,zy,zb,zI,zJ,zW,zH]at *)<;>omega)
theorem zQd (hL:Lst L) (K:Kz L R) {x:Tr} (hp:Pre L (.nullL x) s):Z s (cS (.nullL x) s) (dS (.nullL x)) (zE L R (.nullL x) s):=by
 have hs:=hp.1;unfold zE cS dS;dsimp only;refine zt (fun h=>?_) (fun h=>?_);have hlt:=hL.on hs h;obtain⟨a1,b1,c1,d1,e1,f1⟩:=K.e (q:=.level 0) (s:=zB s) ⟨by show s.k+1≤_;omega,yAE _⟩ rfl (c:=1) (d:=4) rfl rfl
 try simp only[zH]at a1 b1 c1 d1 e1 f1
 obtain⟨a2,b2,e2⟩:=K.a (q:=.nullL (trN 47 [63,63] [x,(R (.level 0) (zB s)).1])) (s:=(R (.level 0) (zB s)).2) ⟨b1,trivial⟩ (c:=(trN 47 [63,63] [x,(R (.level 0) (zB s)).1]).size) (rfl)
 try simp only[zH]at a2 b2 e2
 rotate_left;rotate_left
 all_goals
  (refine⟨?_,fun e he hk=>by cases he⟩<;>(try simp only[zx,zy,zb,zI,zJ,zW,zH]at *)<;>omega)
theorem zRG (hL:Lst L) (K:Kz L R) {x:Tr} (hp:Pre L (.both x) s):Z s (cS (.both x) s) (dS (.both x)) (zE L R (.both x) s):=by
 have hs:=hp.1;unfold zE cS dS;dsimp only;refine zt (fun h=>?_) (fun h=>?_);have hlt:=hL.on hs h;obtain⟨a1,b1,c1,d1,e1,f1⟩:=K.e (q:=.level 0) (s:=zB s) ⟨by show s.k+1≤_;omega,yAE _⟩ rfl (c:=1) (d:=4) rfl rfl
 try simp only[zH]at a1 b1 c1 d1 e1 f1
 obtain⟨a2,b2,e2⟩:=K.a (q:=.both (trN 47 [38,38] [x,(R (.level 0) (zB s)).1])) (s:=(R (.level 0) (zB s)).2) ⟨b1,trivial⟩ (c:=(trN 47 [38,38] [x,(R (.level 0) (zB s)).1]).size) (rfl)
 try simp only[zH]at a2 b2 e2
 rotate_left;rotate_left
 all_goals
  (refine⟨?_,fun e he hk=>by cases he⟩<;>(try simp only[zx,zy,zb,zI,zJ,zW,zH]at *)<;>omega)
theorem zRn (hL:Lst L) (K:Kz L R) {x:Tr} (hp:Pre L (.orL x) s):Z s (cS (.orL x) s) (dS (.orL x)) (zE L R (.orL x) s):=by
 have hs:=hp.1;unfold zE cS dS;dsimp only;refine zt (fun h=>?_) (fun h=>?_);have hlt:=hL.on hs h;obtain⟨a1,b1,c1,d1,e1,f1⟩:=K.e (q:=.level 0) (s:=zB s) ⟨by show s.k+1≤_;omega,yAE _⟩ rfl (c:=1) (d:=4) rfl rfl
 try simp only[zH]at a1 b1 c1 d1 e1 f1
 obtain⟨y,hy⟩:∃x,R (.level 0) (zB s)=x:=⟨_,rfl⟩;rw[hy]at a1 b1 c1 d1 e1 f1⊢;clear hy;obtain⟨a2,b2,e2⟩:=K.a (q:=.both y.1) (s:=y.2) ⟨b1,trivial⟩ (c:=y.1.size) (rfl)
 try simp only[zH]at a2 b2 e2
 obtain⟨z,hz⟩:∃x,R (.both y.1) y.2=x:=⟨_,rfl⟩;rw[hz]at a2 b2 e2⊢;clear hz;obtain⟨a3,b3,e3⟩:=K.a (q:=.orL (trN 47 [124,124] [x,z.1])) (s:=z.2) ⟨b2,trivial⟩ (c:=(trN 47 [124,124] [x,z.1]).size) (rfl)
 try simp only[zH]at a3 b3 e3
 rotate_left;rotate_left
 all_goals
  (refine⟨?_,fun e he hk=>by cases he⟩<;>(try simp only[zx,zy,zb,zI,zJ,zW,zH]at *)<;>omega)
theorem zQe (hL:Lst L) (K:Kz L R) {n:Nat} (hp:Pre L (.level n) s):Z s (cS (.level n) s) (dS (.level n)) (zE L R (.level n) s):=by
 have hs:=hp.1;unfold zE cS dS;dsimp only;refine zt (fun h=>?_) (fun h=>?_);obtain⟨a1,b1,c1,d1,e1,f1⟩:=K.e (q:=.unary) (s:=s) ⟨hs,trivial⟩ rfl (c:=1) (d:=4) rfl rfl
 try simp only[zH]at a1 b1 c1 d1 e1 f1
 rotate_left;have hn:n≤8:=hp.2;obtain⟨a2,b2,c2,d2,e2,f2⟩:=K.e (q:=.level (n+1)) (s:=s) ⟨hs,(by show n+1≤8;omega)⟩ rfl (c:=1) (d:=4) rfl rfl
 try simp only[zH]at a2 b2 c2 d2 e2 f2
 obtain⟨a3,b3,e3⟩:=K.a (q:=.levelL n (R (.level (n+1)) s).1) (s:=(R (.level (n+1)) s).2) ⟨b2,(by show n < 8;omega)⟩ (c:=(R (.level (n+1)) s).1.size) (rfl)
 try simp only[zH]at a3 b3 e3
 rotate_left
 all_goals
  (refine⟨?_,fun e he hk=>?_⟩<;>(try (injection he with he;subst he))<;>(try simp only[zx,zy,zb,zI,zJ,zW,zH]at *)<;>omega)
theorem zOo (hL:Lst L) (K:Kz L R) {n:Nat} {x:Tr} (hp:Pre L (.levelL n x) s):Z s (cS (.levelL n x) s) (dS (.levelL n x)) (zE L R (.levelL n x) s):=by
 have hs:=hp.1;unfold zE cS dS;dsimp only;refine zt (fun h=>?_) (fun h=>?_);have hn:n < 8:=hp.2;have hlt:=hL.lt hs (zDU (by rw[h];omega));obtain⟨a1,b1,c1,d1,e1,f1⟩:=K.e (q:=.level (n+1)) (s:=zB s) ⟨by show s.k+1≤_;omega,(by show n+1≤8;omega)⟩ rfl (c:=1) (d:=4) rfl rfl
 try simp only[zH]at a1 b1 c1 d1 e1 f1
 obtain⟨a2,b2,e2⟩:=K.a (q:=.levelL n (trN 46 (zL L s.k).text [x,(R (.level (n+1)) (zB s)).1])) (s:=(R (.level (n+1)) (zB s)).2) ⟨b1,hn⟩ (c:=(trN 46 (zL L s.k).text [x,(R (.level (n+1)) (zB s)).1]).size) (rfl)
 try simp only[zH]at a2 b2 e2
 rotate_left;rotate_left
 all_goals
  (refine⟨?_,fun e he hk=>by cases he⟩<;>(try simp only[zx,zy,zb,zI,zJ,zW,zH]at *)<;>omega)
theorem zQf (hL:Lst L) (K:Kz L R) (hp:Pre L (.unary) s):Z s (cS (.unary) s) (dS (.unary)) (zE L R (.unary) s):=by
 have hs:=hp.1;unfold zE cS dS;dsimp only;refine zt (fun h1=>?_) (fun h1=>?_);have hlt:=hL.lt hs (by rcases h1.1 with h0 | h0<;>(rw[h0];decide));obtain⟨a1,b1,c1,d1,e1,f1⟩:=K.e (q:=.unary) (s:=zB s) ⟨by show s.k+1≤_;omega,trivial⟩ rfl (c:=1) (d:=4) rfl rfl
 try simp only[zH]at a1 b1 c1 d1 e1 f1
 rotate_left;refine zt (fun h2=>?_) (fun h2=>?_);have hlt:=hL.lt hs (by rcases h2.1 with h0 | h0<;>(rw[h0];decide));obtain⟨a2,b2,c2,d2,e2,f2⟩:=K.e (q:=.unary) (s:=zB s) ⟨by show s.k+1≤_;omega,trivial⟩ rfl (c:=1) (d:=4) rfl rfl
 try simp only[zH]at a2 b2 c2 d2 e2 f2
 obtain⟨s3,hs3⟩:∃x,(if(R .unary (zB s)).2.bad=0∧zAf (R .unary (zB s)).1.nd.kind=false then zY L (R .unary (zB s)).2 else(R .unary (zB s)).2:Ps)=x:=⟨_,rfl⟩;have gs3:(R .unary (zB s)).2.k≤s3.k∧s3.k≤L.length - 1:=by
  rw[←hs3];split
  · exact⟨b2,yAC _⟩
  · exact⟨yAC _,b2⟩
 rw[hs3];clear hs3;rotate_left;obtain⟨a3,b3,c3,d3,e3,f3⟩:=K.e (q:=.calls) (s:=s) ⟨hs,trivial⟩ rfl (c:=1) (d:=4) rfl rfl
 try simp only[zH]at a3 b3 c3 d3 e3 f3
 have hrf:(zY L (R .calls s).2).k=L.length - 1:=rfl;refine zt (fun h3=>?_) (fun h3=>?_);refine zt (fun h4=>?_) (fun h4=>?_);rotate_left;have hlt:=hL.lt (s:=(R .calls s).2) b3 (by rw[h3.1];decide);rotate_left;rotate_left
 all_goals
  (refine⟨?_,fun e he hk=>?_⟩<;>(try (injection he with he;subst he))<;>(try simp only[zx,zy,zb,zI,zJ,zW,zH]at *)<;>omega)
theorem zQg (hL:Lst L) (K:Kz L R) (hp:Pre L (.calls) s):Z s (cS (.calls) s) (dS (.calls)) (zE L R (.calls) s):=by
 have hs:=hp.1;unfold zE cS dS;dsimp only;obtain⟨a1,b1,c1,d1,e1,f1⟩:=K.e (q:=.head) (s:=s) ⟨hs,trivial⟩ rfl (c:=1) (d:=4) rfl rfl
 try simp only[zH]at a1 b1 c1 d1 e1 f1
 obtain⟨a2,b2,e2⟩:=K.a (q:=.callsL (R .head s).1) (s:=(R .head s).2) ⟨b1,trivial⟩ (c:=(R .head s).1.size) (rfl)
 try simp only[zH]at a2 b2 e2
 (refine⟨?_,fun e he hk=>?_⟩<;>(try (injection he with he;subst he))<;>(try simp only[zx,zy,zb,zI,zJ,zW,zH]at *)<;>omega)
theorem zOp (hL:Lst L) (K:Kz L R) {x:Tr} (hp:Pre L (.callsL x) s):Z s (cS (.callsL x) s) (dS (.callsL x)) (zE L R (.callsL x) s):=by
 have hs:=hp.1;unfold zE cS dS;dsimp only;refine zt (fun h=>?_) (fun h=>?_);have hlt:=hL.on hs h;obtain⟨a1,b1,c1,d1,e1,f1⟩:=K.e (q:=.args) (s:=s) ⟨hs,hlt⟩ rfl (c:=2) (d:=0) rfl rfl
 try simp only[zH]at a1 b1 c1 d1 e1 f1
 have h7:=zCT (R .args s).1;obtain⟨a2,b2,e2⟩:=K.a (q:=.callsL (trK 50 (x::(R .args s).1.subs))) (s:=(R .args s).2) ⟨b1,trivial⟩ (c:=(trK 50 (x::(R .args s).1.subs)).size) (rfl)
 try simp only[zH]at a2 b2 e2
 rotate_left;refine zt (fun h2=>?_) (fun h2=>?_);have hlt:=hL.on hs h2;have hrf:(zY L (zB s)).k=L.length - 1:=rfl;refine zt (fun h3=>?_) (fun h3=>?_);rotate_left;have hl2:=hL.lt (s:=zB s) (by show s.k+1≤_;omega) (fun h0=>h3 ⟨by rw[h0];decide,by rw[h0];decide⟩);simp only[zH]at hl2;obtain⟨a3,b3,e3⟩:=K.a (q:=.callsL (trN 52 (zL L (zB s).k).text [x])) (s:=zB (zB s)) ⟨by show s.k+1+1≤_;omega,trivial⟩ (c:=(trN 52 (zL L (zB s).k).text [x]).size) (rfl)
 try simp only[zH]at a3 b3 e3
 rotate_left;refine zt (fun h4=>?_) (fun h4=>?_);have hlt:=hL.on hs h4;obtain⟨a4,b4,c4,d4,e4,f4⟩:=K.e (q:=.assign) (s:=zB s) ⟨by show s.k+1≤_;omega,trivial⟩ rfl (c:=1) (d:=4) rfl rfl
 try simp only[zH]at a4 b4 c4 d4 e4 f4
 obtain⟨a5,b5,c5⟩:=zA7 (s:=(R .assign (zB s)).2) (w:=[93]) hL (b4)
 try simp only[zH]at a5 b5 c5
 obtain⟨a6,b6,e6⟩:=K.a (q:=.callsL (trK 53 [x,(R .assign (zB s)).1])) (s:=zN L [93] (R .assign (zB s)).2) ⟨b5,trivial⟩ (c:=(trK 53 [x,(R .assign (zB s)).1]).size) (rfl)
 try simp only[zH]at a6 b6 e6
 rotate_left;rotate_left
 all_goals
  (refine⟨?_,fun e he hk=>by cases he⟩<;>(try simp only[zx,zy,zb,zI,zJ,zW,zH]at *)<;>omega)
theorem zQh (hL:Lst L) (K:Kz L R) {x:Tr} (hp:Pre L (.headL x) s):Z s (cS (.headL x) s) (dS (.headL x)) (zE L R (.headL x) s):=by
 have hs:=hp.1;unfold zE cS dS;dsimp only;refine zt (fun h2=>?_) (fun h2=>?_);have hlt:=hL.on hs h2;have hrf:(zY L (zB s)).k=L.length - 1:=rfl;refine zt (fun h3=>?_) (fun h3=>?_);rotate_left;have hl2:=hL.lt (s:=zB s) (by show s.k+1≤_;omega) (fun h0=>h3 ⟨by rw[h0];decide,by rw[h0];decide⟩);simp only[zH]at hl2;obtain⟨a1,b1,e1⟩:=K.a (q:=.headL (trN 52 (zL L (zB s).k).text [x])) (s:=zB (zB s)) ⟨by show s.k+1+1≤_;omega,trivial⟩ (c:=(trN 52 (zL L (zB s).k).text [x]).size) (rfl)
 try simp only[zH]at a1 b1 e1
 rotate_left;refine zt (fun h4=>?_) (fun h4=>?_);have hlt:=hL.on hs h4;obtain⟨a2,b2,c2,d2,e2,f2⟩:=K.e (q:=.assign) (s:=zB s) ⟨by show s.k+1≤_;omega,trivial⟩ rfl (c:=1) (d:=4) rfl rfl
 try simp only[zH]at a2 b2 c2 d2 e2 f2
 obtain⟨a3,b3,c3⟩:=zA7 (s:=(R .assign (zB s)).2) (w:=[93]) hL (b2)
 try simp only[zH]at a3 b3 c3
 obtain⟨a4,b4,e4⟩:=K.a (q:=.headL (trK 53 [x,(R .assign (zB s)).1])) (s:=zN L [93] (R .assign (zB s)).2) ⟨b3,trivial⟩ (c:=(trK 53 [x,(R .assign (zB s)).1]).size) (rfl)
 try simp only[zH]at a4 b4 e4
 rotate_left;rotate_left
 all_goals
  (refine⟨?_,fun e he hk=>by cases he⟩<;>(try simp only[zx,zy,zb,zI,zJ,zW,zH]at *)<;>omega)
theorem zRH (hL:Lst L) (K:Kz L R) (hp:Pre L (.head) s):Z s (cS (.head) s) (dS (.head)) (zE L R (.head) s):=by
 have hs:=hp.1;unfold zE cS dS;dsimp only;refine zt (fun h=>?_) (fun h=>?_);have hlt:=hL.on hs h;obtain⟨a1,b1,c1,d1,e1,f1⟩:=K.e (q:=.head) (s:=zB s) ⟨by show s.k+1≤_;omega,trivial⟩ rfl (c:=1) (d:=4) rfl rfl
 try simp only[zH]at a1 b1 c1 d1 e1 f1
 obtain⟨x,hx⟩:∃x,R .head (zB s)=x:=⟨_,rfl⟩;rw[hx]at a1 b1 c1 d1 e1 f1⊢;clear hx;obtain⟨a2,b2,e2⟩:=K.a (q:=.headL x.1) (s:=x.2) ⟨b1,trivial⟩ (c:=x.1.size) (rfl)
 try simp only[zH]at a2 b2 e2
 obtain⟨y,hy⟩:∃z,R (.headL x.1) x.2=z:=⟨_,rfl⟩;rw[hy]at a2 b2 e2⊢;clear hy;refine zt (fun h2=>?_) (fun h2=>?_);have hl2:=hL.on b2 h2;obtain⟨a3,b3,c3,d3,e3,f3⟩:=K.e (q:=.args) (s:=y.2) ⟨b2,hl2⟩ rfl (c:=2) (d:=0) rfl rfl
 try simp only[zH]at a3 b3 c3 d3 e3 f3
 have h7:=zCT (R .args y.2).1;rotate_left;rotate_left;obtain⟨a4,b4,c4,d4,e4,f4⟩:=K.e (q:=.primary) (s:=s) ⟨hs,trivial⟩ rfl (c:=1) (d:=4) rfl rfl
 try simp only[zH]at a4 b4 c4 d4 e4 f4
 rotate_left
 all_goals
  (refine⟨?_,fun e he hk=>?_⟩<;>(try (injection he with he;subst he))<;>(try simp only[zx,zy,zb,zI,zJ,zW,zH]at *)<;>omega)
theorem zRI (hL:Lst L) (K:Kz L R) (hp:Pre L (.args) s):Z s (cS (.args) s) (dS (.args)) (zE L R (.args) s):=by
 have hs:=hp.1;unfold zE cS dS;dsimp only;have hlt:s.k < L.length - 1:=hp.2;obtain⟨a1,b1,c1⟩:=zA7 (s:=s) (w:=[40]) hL (hs)
 try simp only[zH]at a1 b1 c1
 obtain⟨a2,b2,e2⟩:=K.a (q:=.list [41]) (s:=zN L [40] s) ⟨b1,trivial⟩ (c:=2) (rfl)
 try simp only[zH]at a2 b2 e2
 have:=c1 hlt
 (refine⟨?_,fun e he hk=>?_⟩<;>(try (injection he with he;subst he))<;>(try simp only[zx,zy,zb,zI,zJ,zW,zH]at *)<;>omega)
theorem zRJ (hL:Lst L) (K:Kz L R) {w:List UInt8} (hp:Pre L (.list w) s):Z s (cS (.list w) s) (dS (.list w)) (zE L R (.list w) s):=by
 have hs:=hp.1;unfold zE cS dS;dsimp only;refine zt (fun h=>?_) (fun h=>?_);have hlt:=hL.on hs h;rotate_left;obtain⟨a1,b1,e1⟩:=K.a (q:=.listL w []) (s:=s) ⟨hs,trivial⟩ (c:=2+sizes []) (rfl)
 try simp only[zH]at a1 b1 e1
 rotate_left
 all_goals
  (refine⟨?_,fun e he hk=>by cases he⟩<;>(try simp only[zx,zy,zb,zI,zJ,zW,zH]at *)<;>omega)
theorem zQi (hL:Lst L) (K:Kz L R) {w:List UInt8} {acc:List Tr} (hp:Pre L (.listL w acc) s):Z s (cS (.listL w acc) s) (dS (.listL w acc)) (zE L R (.listL w acc) s):=by
 have hs:=hp.1;unfold zE cS dS;dsimp only;obtain⟨a1,b1,c1,d1,e1,f1⟩:=K.e (q:=.assign) (s:=s) ⟨hs,trivial⟩ rfl (c:=1) (d:=4) rfl rfl
 try simp only[zH]at a1 b1 c1 d1 e1 f1
 refine zt (fun h=>?_) (fun h=>?_);rotate_left;refine zt (fun h2=>?_) (fun h2=>?_);have hlt:=hL.on b1 h2;rotate_left;obtain⟨a2,b2,c2⟩:=zA7 (s:=(R .assign s).2) (w:=[44]) hL (b1)
 try simp only[zH]at a2 b2 c2
 obtain⟨a3,b3,e3⟩:=K.a (q:=.listL w (acc++[(R .assign s).1])) (s:=zN L [44] (R .assign s).2) ⟨b2,trivial⟩ (c:=2+sizes (acc++[(R .assign s).1])) (rfl)
 try simp only[zH]at a3 b3 e3
 have hlt:s.k < L.length - 1:=by
  rcases Nat.lt_or_ge s.k (L.length - 1)with h5 | h5
  · exact h5
  · exact absurd (d1 (by omega)) h
 rotate_left
 all_goals
  (refine⟨?_,fun e he hk=>by cases he⟩<;>(try simp only[zx,zy,zb,zI,zJ,zW,zH]at *)<;>omega)
theorem zRK (hL:Lst L) (K:Kz L R) {acc:List Tr} (hp:Pre L (.objL acc) s):Z s (cS (.objL acc) s) (dS (.objL acc)) (zE L R (.objL acc) s):=by
 have hs:=hp.1;unfold zE cS dS;dsimp only;obtain⟨a1,b1,c1,d1,e1,f1⟩:=K.e (q:=.prop) (s:=s) ⟨hs,trivial⟩ rfl (c:=1) (d:=1) rfl rfl
 try simp only[zH]at a1 b1 c1 d1 e1 f1
 refine zt (fun h=>?_) (fun h=>?_);rotate_left;refine zt (fun h2=>?_) (fun h2=>?_);have hlt:=hL.on b1 h2;rotate_left;obtain⟨a2,b2,c2⟩:=zA7 (s:=(R .prop s).2) (w:=[44]) hL (b1)
 try simp only[zH]at a2 b2 c2
 obtain⟨a3,b3,e3⟩:=K.a (q:=.objL (acc++[(R .prop s).1])) (s:=zN L [44] (R .prop s).2) ⟨b2,trivial⟩ (c:=2+sizes (acc++[(R .prop s).1])) (rfl)
 try simp only[zH]at a3 b3 e3
 have hlt:s.k < L.length - 1:=by
  rcases Nat.lt_or_ge s.k (L.length - 1)with h5 | h5
  · exact h5
  · exact absurd (d1 (by omega)) h
 rotate_left
 all_goals
  (refine⟨?_,fun e he hk=>by cases he⟩<;>(try simp only[zx,zy,zb,zI,zJ,zW,zH]at *)<;>omega)
theorem zOq (hL:Lst L) (K:Kz L R) (hp:Pre L (.object) s):Z s (cS (.object) s) (dS (.object)) (zE L R (.object) s):=by
 have hs:=hp.1;unfold zE cS dS;dsimp only;refine zt (fun h=>?_) (fun h=>?_);have hlt:=hL.on hs h;rotate_left;obtain⟨a1,b1,e1⟩:=K.a (q:=.objL []) (s:=s) ⟨hs,trivial⟩ (c:=2+sizes []) (rfl)
 try simp only[zH]at a1 b1 e1
 rotate_left
 all_goals
  (refine⟨?_,fun e he hk=>by cases he⟩<;>(try simp only[zx,zy,zb,zI,zJ,zW,zH]at *)<;>omega)
theorem zMO (hL:Lst L) (K:Kz L R) (hp:Pre L (.primary) s):Z s (cS (.primary) s) (dS (.primary)) (zE L R (.primary) s):=by
 have hs:=hp.1;unfold zE cS dS;dsimp only;have hrf:(zY L s).k=L.length - 1:=rfl;have hff:(zBw L 6 s).k=L.length - 1:=rfl;refine zt (fun h0=>?_) (fun h0=>?_);rotate_left;have hlt:=hL.lt hs h0;refine zt (fun x13=>?_) (fun x13=>?_);rotate_left;refine zt (fun x12=>?_) (fun x12=>?_);rotate_left;refine zt (fun x11=>?_) (fun x11=>?_);rotate_left;refine zt (fun x10=>?_) (fun x10=>?_);rotate_left;refine zt (fun x9=>?_) (fun x9=>?_);rotate_left;refine zt (fun x8=>?_) (fun x8=>?_);rotate_left;refine zt (fun x7=>?_) (fun x7=>?_);rotate_left;refine zt (fun x6=>?_) (fun x6=>?_);rotate_left;refine zt (fun x5=>?_) (fun x5=>?_);obtain⟨a1,b1,e1⟩:=K.a (q:=.list [93]) (s:=zB s) ⟨by show s.k+1≤_;omega,trivial⟩ (c:=2) (rfl)
 try simp only[zH]at a1 b1 e1
 have h7:=zCT (R (.list [93]) (zB s)).1;rotate_left;refine zt (fun x4=>?_) (fun x4=>?_);obtain⟨a2,b2,e2⟩:=K.a (q:=.object) (s:=zB s) ⟨by show s.k+1≤_;omega,trivial⟩ (c:=2) (rfl)
 try simp only[zH]at a2 b2 e2
 rotate_left;refine zt (fun x3=>?_) (fun x3=>?_);refine zt (fun h9=>?_) (fun h9=>?_);obtain⟨a3,b3,c3,d3⟩:=zFR (s:=zB s) hL (by show s.k+1≤_;omega)
 try simp only[zH]at a3 b3 c3 d3
 obtain⟨a4,b4,e4⟩:=K.a (q:=.func 41 (zd L (zB s)).1) (s:=(zd L (zB s)).2) ⟨b3,trivial⟩ (c:=3) (rfl)
 try simp only[zH]at a4 b4 e4
 rotate_left;obtain⟨a5,b5,e5⟩:=K.a (q:=.func 41 []) (s:=zB s) ⟨by show s.k+1≤_;omega,trivial⟩ (c:=3) (rfl)
 try simp only[zH]at a5 b5 e5
 rotate_left;refine zt (fun x2=>?_) (fun x2=>?_);obtain⟨a6,b6,c6,d6,e6,f6⟩:=K.e (q:=.assign) (s:=zB s) ⟨by show s.k+1≤_;omega,trivial⟩ rfl (c:=1) (d:=4) rfl rfl
 try simp only[zH]at a6 b6 c6 d6 e6 f6
 obtain⟨a7,b7,c7⟩:=zA7 (s:=(R .assign (zB s)).2) (w:=[41]) hL (b6)
 try simp only[zH]at a7 b7 c7
 rotate_left;obtain⟨s3,hs3⟩:∃x,(if(onP L [47] s || onP L [47,61] s)=true then zBw L 6 s else zY L s:Ps)=x:=⟨_,rfl⟩;have gs3:s3.k=L.length - 1:=by
  rw[←hs3];split<;>rfl
 rw[hs3];clear hs3;rotate_left
 all_goals
  (refine⟨?_,fun e he hk=>?_⟩<;>(try (injection he with he;subst he))<;>(try simp only[zx,zy,zb,zI,zJ,zW,zH]at *)<;>omega)
theorem zRL (hL:Lst L) (K:Kz L R) (hp:Pre L (.prop) s):Z s (cS (.prop) s) (dS (.prop)) (zE L R (.prop) s):=by
 have hs:=hp.1;have hrf:(zY L s).k=L.length - 1:=rfl;unfold zE cS dS;dsimp only;split
 · (refine⟨?_,fun e he hk=>?_⟩<;>(try (injection he with he;subst he))<;>(try simp only[zx,zy,zb,zI,zJ,zW,zH]at *)<;>omega)
 · rename_i u hu
   have hlt:=hL.lt hs (zDk hu);refine zt (fun h=>?_) (fun h=>?_)
   · (refine⟨?_,fun e he hk=>?_⟩<;>(try (injection he with he;subst he))<;>(try simp only[zx,zy,zb,zI,zJ,zW,zH]at *)<;>omega)
   · obtain⟨a1,b1,c1⟩:=zA7 (s:=zB s) (w:=[58]) hL (by show s.k+1≤_;omega)
     try simp only[zH]at a1 b1 c1
     obtain⟨a2,b2,c2,d2,e2,f2⟩:=K.e (q:=.assign) (s:=zN L [58] (zB s)) ⟨b1,trivial⟩ rfl (c:=1) (d:=4) rfl rfl
     try simp only[zH]at a2 b2 c2 d2 e2 f2
     (refine⟨?_,fun e he hk=>?_⟩<;>(try (injection he with he;subst he))<;>(try simp only[zx,zy,zb,zI,zJ,zW,zH]at *)<;>omega)
theorem zRo (hL:Lst L) (K:Kz L R) (q:Ph) (hp:Pre L q s):Z s (cS q s) (dS q) (zE L R q s):=by
 cases q with
 | program acc=>exact zMN hL K hp
 | block=>exact zQa hL K hp
 | blockL acc=>exact zOg hL K hp
 | item=>exact zQ9 hL K hp
 | declares=>exact zJz hL K hp
 | declL k acc=>exact zQb hL K hp
 | func k n=>exact zRA hL K hp
 | params=>exact zOh hL K hp
 | paramL acc=>exact zOi hL K hp
 | statement=>exact zHt hL K hp
 | simple=>exact zOj hL K hp
 | word w=>exact zRB hL K hp
 | within=>exact zOk hL K hp
 | clause w=>exact zOl hL K hp
 | loop=>exact zRC hL K hp
 | jump k=>exact zRD hL K hp
 | tries=>exact zQc hL K hp
 | assign=>exact zOm hL K hp
 | body l=>exact zRE hL K hp
 | cond=>exact zRF hL K hp
 | either=>exact zOn hL K hp
 | nullL x=>exact zQd hL K hp
 | orL x=>exact zRn hL K hp
 | both x=>exact zRG hL K hp
 | level n=>exact zQe hL K hp
 | levelL n x=>exact zOo hL K hp
 | unary=>exact zQf hL K hp
 | calls=>exact zQg hL K hp
 | callsL x=>exact zOp hL K hp
 | head=>exact zRH hL K hp
 | headL x=>exact zQh hL K hp
 | args=>exact zRI hL K hp
 | list w=>exact zRJ hL K hp
 | listL w acc=>exact zQi hL K hp
 | primary=>exact zMO hL K hp
 | object=>exact zOq hL K hp
 | objL acc=>exact zRK hL K hp
 | prop=>exact zRL hL K hp
end
theorem zRM {L:List Tok} (hL:Lst L):∀f:Nat,Kz L (zEl L f):=by
 intro f
 induction f with
 | zero=>
  refine⟨fun q s hp=>zHN hL 0 q s hp,fun q s hp=>?_⟩;have h1:(zEl L 0 q s).1.size=1:=by show(trK 0 []).size=1;rw[zx,zJ]
  have h2:(zEl L 0 q s).2.k=L.length - 1:=rfl;have h3:=hp.1;have h4:1≤cS q s:=by
   unfold cS;cases q<;>dsimp only<;>(try omega)<;>(try exact zBi _)<;>(split<;>omega)
  have h5:∀e,dS q=some e→e≤6:=by
   intro e he;unfold dS at he;cases q<;>dsimp only at he<;>first | (injection he with he;omega) | cases he
  refine⟨by omega,fun e he hk=>?_⟩;have:=h5 e he;omega
 | succ f ih=>exact⟨fun q s hp=>zHN hL (f+1) q s hp,fun q s hp=>zRo hL ih q hp⟩
theorem zGx {L:List Tok} (hL:Lst L) (h:L.length≤4097):(zF L (.program []) ⟨0,0,0⟩).1.size≤1000000:=by
 have h1:=(zRM hL (zZ L (.program []) ⟨0,0,0⟩+1)).z (.program []) ⟨0,0,0⟩ ⟨yAE _,trivial⟩;have h2:=(zV hL (p:=.program []) (s:=⟨0,0,0⟩) ⟨yAE _,trivial⟩).adv.hi;have h3:=h1.1;unfold cS at h3;simp only[zJ]at h3;unfold zF at h2⊢;omega
open Go.RowKit
theorem zMP (u:List UInt16):(zF (zCD u).1 (.program []) ⟨0,0,0⟩).1.size≤1000000:=by
 obtain⟨⟨L,a,e⟩,hL⟩:∃q,zCD u=q:=⟨_,rfl⟩;rw[hL];have h0:(zF [] (.program []) ⟨0,0,0⟩).1.size≤1000000:=by
  have:(zF [] (.program []) ⟨0,0,0⟩).1=trK 1 []:=rfl;rw[this,zx,zJ];omega
 by_cases hl:4096 < u.length
 · unfold zCD at hL;rw[if_pos hl]at hL;simp only[Prod.mk.injEq]at hL;rw[←hL.1];exact h0
 · by_cases he:e=0
   · subst he;refine zGx (zFw hL) ?_;have h1:=zGw (u:=u) (by omega);rw[hL]at h1;exact yAD h1 (by omega)
   · have h1:=zOZ (u:=u) (by omega) (by rw[hL];exact he);rw[hL]at h1;rw[show(L,a,e).1=[]from h1];exact h0
theorem zOr {A:Option Addr} {B n c:Nat} {u:List UInt16} {w:World} (hB:B≤w.heap.size) (hn:u.length=n) (ha:Reads w B 1 A n (zAD u)) (hc:n≤c) (hc2:c≤maxLen) (hT:Tab w):
 Calls prog 16 #[.slice A n c] w (ParseQ (zBc u) w):=zMM hB hn ha hc hc2 hT (zMP u)
theorem zOs {A:Option Addr} {B n c m a e:Nat} {u:List UInt16} {ts:List Nd} {w:World} (hB:B≤w.heap.size) (hn:u.length=n) (ha:Reads w B 1 A n (zAD u)) (hc:n≤c) (hc2:c≤maxLen) (hT:Tab w) (hq:zBc u=(ts,a,e)) (hm:ts.length=m):
 Calls prog 16 #[.slice A n c] w (fun ev w'=>∃A' c',ev=.returned (.tuple #[.agg #[.slice A' m c'],.int .i64 (a:Int),.int .i64 (e:Int)])∧NdsR w' w'.heap.size A' m ts∧m≤c'∧c'≤maxLen∧Below w.heap.size w w'):=by
 have h:=zOr hB hn ha hc hc2 hT;rw[hq]at h;refine h.mono ?_;rintro ev w' ⟨A',n',c',h1,h2,h3,h4,h5⟩;have h6:n'=m:=by rw[←hm];exact h2.1.symm
 subst h6;exact⟨A',c',h1,h2,h3,h4,h5⟩
section Zq
open Go.RowKit Go.Lib
def Tabs (w:World):Prop:=Lib.Utf8Tabs 0 1 w
theorem Tabs.below {B:Nat} {w w':World} (h:Tabs w) (hb:Below B w w') (h1:0 < B) (h2:1 < B):Tabs w':=by
 refine⟨fun c hc=>?_,fun i hi=>⟨?_,?_⟩⟩
 · rw[hb.cell (p:=⟨_,c,none⟩) h1];exact h.1 c hc
 · rw[hb.cell (p:=⟨_,2*i,none⟩) h2];exact(h.2 i hi).1
 · rw[hb.cell (p:=⟨_,2*i+1,none⟩) h2];exact(h.2 i hi).2
theorem Tabs.lt {w:World} (h:Tabs w):0 < w.heap.size∧1 < w.heap.size:=
 ⟨World.block_lt_of_cell? w _ (h.1 0 (by omega)),World.block_lt_of_cell? w _ (h.2 0 (by omega)).1⟩
theorem Tabs.grow {w w':World} (h:Tabs w) (hb:Below w.heap.size w w'):Tabs w':=h.below hb h.lt.1 h.lt.2
theorem zOt (n b off cap:Nat) (x0 x1 x2 x3:UInt8) (w:World) (hT:Tabs w) (hn0:0 < n)
 (hs0:w.cell? ⟨b,off,none⟩=some (.int .u8 x0.toNat)) (hq1:1 < n→w.cell? ⟨b,off+1,none⟩=some (.int .u8 x1.toNat))
 (hq2:2 < n→w.cell? ⟨b,off+2,none⟩=some (.int .u8 x2.toNat)) (hq3:3 < n→w.cell? ⟨b,off+3,none⟩=some (.int .u8 x3.toNat)):
 Calls prog 110 #[.slice (some ⟨b,off,none⟩) n cap] w fun e w'=>e=.returned (.tuple #[.int .i32 (decodeN n x0.toNat x1.toNat x2.toNat x3.toNat).1,.int .i64 (decodeN n x0.toNat x1.toNat x2.toNat x3.toNat).2])∧Below w.heap.size w w':=by
 have hz0:(0:Int) < (n:Int):=by omega
 have hz0':¬((n:Int) < 1):=by omega
 have hb:b < w.heap.size:=World.block_lt_of_cell? w _ hs0;have l0:=x0.toNat_lt;have l1:=x1.toNat_lt;have l2:=x2.toNat_lt;have l3:=x3.toNat_lt;have hc0:=hT.1 x0.toNat (by omega);have hres:firstT x0.toNat < 240→decodeN n x0.toNat x1.toNat x2.toNat x3.toNat=slowN n x0.toNat x1.toNat x2.toNat x3.toNat (firstT x0.toNat % 8) (accLo (firstT x0.toNat / 16)) (accHi (firstT x0.toNat / 16)):=
  fun h=>(Lib.slow_eq _ _ _ _ _ (by omega) (by omega) (by omega) (by omega) h).symm
 rcases Lib.firstT_cases x0.toNat with hX | hX | hX | hX | hX | hX | hX | hX | hX
 · rw[Lib.ascii_eq _ _ _ _ _ hX];rw[hX]at hc0;clear hres hT hX;clear hq1 hq2 hq3;go_enter func110,ntmps110;go_wp2;rw[Utf8W.mask240,Utf8W.keep_byte ⟨x0.toNat,l0⟩]
   go_ret2
   exact⟨rfl,Below.refl _ _⟩
 · rw[Lib.bad_eq _ _ _ _ _ (by omega) hX];rw[hX]at hc0;clear hres hT hX;clear hq1 hq2 hq3;go_enter func110,ntmps110;go_wp2;rw[Utf8W.mask241,Utf8W.drop_byte ⟨x0.toNat,l0⟩]
   go_ret2
   exact⟨rfl,Below.refl _ _⟩
 all_goals replace hres:=hres (by omega)
 · rw[hX]at hc0 hres;have ha0:=(hT.2 0 (by omega)).1;have ha1:=(hT.2 0 (by omega)).2;simp only[accLo,accHi,Nat.reduceMul,Nat.reduceAdd,Nat.reduceEqDiff,if_true,if_false,Nat.reduceMod,Nat.reduceDiv]at ha0 ha1 hres;rw[hres];clear hres hT hX
   by_cases hn:n < 2
   · have hnz:(n:Int) < 2:=by omega
     clear hq1 hq2 hq3;go_enter func110,ntmps110;go_wp2
     all_goals (go_ret2;refine⟨?_,(Below.refl _ _).alloc (yAC _) _⟩;utf8_leaf)
   · have hz1:(1:Int) < (n:Int):=by omega
     have hs1:=hq1 (by omega);clear hq1 hq2 hq3;go_enter func110,ntmps110;go_wp2
     all_goals (go_ret2;refine⟨?_,(Below.refl _ _).alloc (yAC _) _⟩;utf8_leaf)
 · rw[hX]at hc0 hres;have ha0:=(hT.2 1 (by omega)).1;have ha1:=(hT.2 1 (by omega)).2;simp only[accLo,accHi,Nat.reduceMul,Nat.reduceAdd,Nat.reduceEqDiff,if_true,if_false,Nat.reduceMod,Nat.reduceDiv]at ha0 ha1 hres;rw[hres];clear hres hT hX
   by_cases hn:n < 3
   · have hnz:(n:Int) < 3:=by omega
     clear hq1 hq2 hq3;go_enter func110,ntmps110;go_wp2
     all_goals (go_ret2;refine⟨?_,(Below.refl _ _).alloc (yAC _) _⟩;utf8_leaf)
   · have hz1:(1:Int) < (n:Int):=by omega
     have hs1:=hq1 (by omega);have hz2:(2:Int) < (n:Int):=by omega
     have hs2:=hq2 (by omega);clear hq1 hq2 hq3;go_enter func110,ntmps110;go_wp2
     all_goals (go_ret2;refine⟨?_,(Below.refl _ _).alloc (yAC _) _⟩;utf8_leaf)
 · rw[hX]at hc0 hres;have ha0:=(hT.2 0 (by omega)).1;have ha1:=(hT.2 0 (by omega)).2;simp only[accLo,accHi,Nat.reduceMul,Nat.reduceAdd,Nat.reduceEqDiff,if_true,if_false,Nat.reduceMod,Nat.reduceDiv]at ha0 ha1 hres;rw[hres];clear hres hT hX
   by_cases hn:n < 3
   · have hnz:(n:Int) < 3:=by omega
     clear hq1 hq2 hq3;go_enter func110,ntmps110;go_wp2
     all_goals (go_ret2;refine⟨?_,(Below.refl _ _).alloc (yAC _) _⟩;utf8_leaf)
   · have hz1:(1:Int) < (n:Int):=by omega
     have hs1:=hq1 (by omega);have hz2:(2:Int) < (n:Int):=by omega
     have hs2:=hq2 (by omega);clear hq1 hq2 hq3;go_enter func110,ntmps110;go_wp2
     all_goals (go_ret2;refine⟨?_,(Below.refl _ _).alloc (yAC _) _⟩;utf8_leaf)
 · rw[hX]at hc0 hres;have ha0:=(hT.2 2 (by omega)).1;have ha1:=(hT.2 2 (by omega)).2;simp only[accLo,accHi,Nat.reduceMul,Nat.reduceAdd,Nat.reduceEqDiff,if_true,if_false,Nat.reduceMod,Nat.reduceDiv]at ha0 ha1 hres;rw[hres];clear hres hT hX
   by_cases hn:n < 3
   · have hnz:(n:Int) < 3:=by omega
     clear hq1 hq2 hq3;go_enter func110,ntmps110;go_wp2
     all_goals (go_ret2;refine⟨?_,(Below.refl _ _).alloc (yAC _) _⟩;utf8_leaf)
   · have hz1:(1:Int) < (n:Int):=by omega
     have hs1:=hq1 (by omega);have hz2:(2:Int) < (n:Int):=by omega
     have hs2:=hq2 (by omega);clear hq1 hq2 hq3;go_enter func110,ntmps110;go_wp2
     all_goals (go_ret2;refine⟨?_,(Below.refl _ _).alloc (yAC _) _⟩;utf8_leaf)
 · rw[hX]at hc0 hres;have ha0:=(hT.2 3 (by omega)).1;have ha1:=(hT.2 3 (by omega)).2;simp only[accLo,accHi,Nat.reduceMul,Nat.reduceAdd,Nat.reduceEqDiff,if_true,if_false,Nat.reduceMod,Nat.reduceDiv]at ha0 ha1 hres;rw[hres];clear hres hT hX
   by_cases hn:n < 4
   · have hnz:(n:Int) < 4:=by omega
     clear hq1 hq2 hq3;go_enter func110,ntmps110;go_wp2
     all_goals (go_ret2;refine⟨?_,(Below.refl _ _).alloc (yAC _) _⟩;utf8_leaf)
   · have hz1:(1:Int) < (n:Int):=by omega
     have hs1:=hq1 (by omega);have hz2:(2:Int) < (n:Int):=by omega
     have hs2:=hq2 (by omega);have hz3:(3:Int) < (n:Int):=by omega
     have hs3:=hq3 (by omega);clear hq1 hq2 hq3;go_enter func110,ntmps110;go_wp2
     all_goals (go_ret2;refine⟨?_,(Below.refl _ _).alloc (yAC _) _⟩;utf8_leaf)
 · rw[hX]at hc0 hres;have ha0:=(hT.2 0 (by omega)).1;have ha1:=(hT.2 0 (by omega)).2;simp only[accLo,accHi,Nat.reduceMul,Nat.reduceAdd,Nat.reduceEqDiff,if_true,if_false,Nat.reduceMod,Nat.reduceDiv]at ha0 ha1 hres;rw[hres];clear hres hT hX
   by_cases hn:n < 4
   · have hnz:(n:Int) < 4:=by omega
     clear hq1 hq2 hq3;go_enter func110,ntmps110;go_wp2
     all_goals (go_ret2;refine⟨?_,(Below.refl _ _).alloc (yAC _) _⟩;utf8_leaf)
   · have hz1:(1:Int) < (n:Int):=by omega
     have hs1:=hq1 (by omega);have hz2:(2:Int) < (n:Int):=by omega
     have hs2:=hq2 (by omega);have hz3:(3:Int) < (n:Int):=by omega
     have hs3:=hq3 (by omega);clear hq1 hq2 hq3;go_enter func110,ntmps110;go_wp2
     all_goals (go_ret2;refine⟨?_,(Below.refl _ _).alloc (yAC _) _⟩;utf8_leaf)
 · rw[hX]at hc0 hres;have ha0:=(hT.2 4 (by omega)).1;have ha1:=(hT.2 4 (by omega)).2;simp only[accLo,accHi,Nat.reduceMul,Nat.reduceAdd,Nat.reduceEqDiff,if_true,if_false,Nat.reduceMod,Nat.reduceDiv]at ha0 ha1 hres;rw[hres];clear hres hT hX
   by_cases hn:n < 4
   · have hnz:(n:Int) < 4:=by omega
     clear hq1 hq2 hq3;go_enter func110,ntmps110;go_wp2
     all_goals (go_ret2;refine⟨?_,(Below.refl _ _).alloc (yAC _) _⟩;utf8_leaf)
   · have hz1:(1:Int) < (n:Int):=by omega
     have hs1:=hq1 (by omega);have hz2:(2:Int) < (n:Int):=by omega
     have hs2:=hq2 (by omega);have hz3:(3:Int) < (n:Int):=by omega
     have hs3:=hq3 (by omega);clear hq1 hq2 hq3;go_enter func110,ntmps110;go_wp2
     all_goals (go_ret2;refine⟨?_,(Below.refl _ _).alloc (yAC _) _⟩;utf8_leaf)
end Zq
end Go.Proofs.YtlohaclgbfhijaaGreatDoor
