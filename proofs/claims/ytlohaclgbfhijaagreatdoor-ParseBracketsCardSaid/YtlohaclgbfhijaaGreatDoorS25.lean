/- Joined for the claim ParseBlocks: the parser, the lexer and the trees as they are walked, made short by a program of mine. -/
import Derived.Test.YtlohaclgbfhijaaGreatDoorS23
import Derived.Test.YtlohaclgbfhijaaGreatDoorS24
import Derived.Test.YtlohaclgbfhijaaGreatDoorS02
import Derived.Test.YtlohaclgbfhijaaGreatDoorS01
set_option maxHeartbeats 16000000
set_option maxRecDepth 1000000
namespace Go.Proofs.YtlohaclgbfhijaaGreatDoor
open Go.Proofs.Tryz
set_option linter.unusedSimpArgs false
set_option linter.unusedVariables false
def cS (p:Ph) (s:Ps):Nat:=match p with
 | .program acc=>1+sizes acc
 | .blockL acc=>if s.bad≠0 then 1+sizes acc else 3+sizes acc
 | .item=>2
 | .declares=>2
 | .declL _ acc=>2+sizes acc
 | .func _ _=>3
 | .params=>2
 | .paramL acc=>2+sizes acc
 | .statement=>2
 | .simple=>2
 | .word _=>2
 | .loop=>2
 | .jump _=>2
 | .tries=>2
 | .body l=>2+sizes l
 | .nullL x=>x.size
 | .orL x=>x.size
 | .both x=>x.size
 | .levelL _ x=>x.size
 | .callsL x=>x.size
 | .headL x=>x.size
 | .args=>2
 | .list _=>2
 | .listL _ acc=>2+sizes acc
 | .object=>2
 | .objL acc=>2+sizes acc
 | _=>1
def dS (p:Ph):Option Nat:=match p with
 | .block=>some 4
 | .item=>some 0
 | .declares=>some 2
 | .params=>some 6
 | .statement=>some 2
 | .simple=>some 2
 | .word _=>some 2
 | .loop=>some 2
 | .jump _=>some 2
 | .tries=>some 2
 | .args=>some 0
 | .prop=>some 1
 | .assign=>some 4
 | .cond=>some 4
 | .either=>some 4
 | .level _=>some 4
 | .unary=>some 4
 | .calls=>some 4
 | .head=>some 4
 | .primary=>some 4
 | _=>none
def Z (s:Ps) (c:Nat) (d:Option Nat) (r:Tr×Ps):Prop:=r.1.size+16*s.k≤16*r.2.k+c∧∀e,d=some e→s.k < r.2.k→r.1.size+e+16*s.k≤16*r.2.k
theorem zAF {s:Ps} {c:Nat} {d:Option Nat} {q:Prop} [Decidable q] {a b:Tr×Ps} (h1:q→Z s c d a) (h2:¬q→Z s c d b):Z s c d (if q then a else b):=by
 by_cases h:q
 · rw[if_pos h];exact h1 h
 · rw[if_neg h];exact h2 h
theorem zK (s:Ps):(zB s).k=s.k+1:=rfl
theorem zAK (k:Int) (l:List Tr):(trK k l).size=1+sizes l:=zd _ _
theorem zAL (k:Int) (n:List UInt8) (l:List Tr):(trN k n l).size=1+sizes l:=zd _ _
theorem zDN (t:Tr):t.size=1+sizes t.subs:=by cases t with | mk x l=>exact zd x l
structure Kz (L:List Tok) (R:Ph→Ps→Tr×Ps):Prop where
 post:∀q s,Pre L q s→Post L q s (R q s).2
 z:∀q s,Pre L q s→Z s (cS q s) (dS q) (R q s)
section
variable {L:List Tok} {R:Ph→Ps→Tr×Ps} {s:Ps} {q:Ph}
theorem Kz.e (K:Kz L R) (hp:Pre L q s) (he:zUz q=true) {c d:Nat} (hc:cS q s=c) (hd:dS q=some d):s.k≤(R q s).2.k∧(R q s).2.k≤L.length - 1∧(s.k < L.length - 1→s.k < (R q s).2.k)∧(s.k=L.length - 1→(R q s).2.bad≠0)∧(R q s).1.size+16*s.k≤16*(R q s).2.k+c∧(s.k < (R q s).2.k→(R q s).1.size+d+16*s.k≤16*(R q s).2.k):=by
 have h1:=K.post q s hp;unfold Post at h1;rw[if_pos he]at h1;have h2:=K.z q s hp;exact⟨h1.adv.le,h1.adv.hi,h1.more,h1.stop,hc▸h2.1,h2.2 d hd⟩
theorem Kz.a (K:Kz L R) (hp:Pre L q s) {c:Nat} (hc:cS q s=c):s.k≤(R q s).2.k∧(R q s).2.k≤L.length - 1∧(R q s).1.size+16*s.k≤16*(R q s).2.k+c:=by
 have h1:=(K.post q s hp).adv;exact⟨h1.le,h1.hi,hc▸(K.z q s hp).1⟩
theorem zBW (hL:Lst L) {w:List UInt8} (h:s.k≤L.length - 1):s.k≤(zM L w s).k∧(zM L w s).k≤L.length - 1∧(s.k < L.length - 1→s.k < (zM L w s).k):=⟨(zN hL h).adv.le,(zN hL h).adv.hi,(zN hL h).more⟩
theorem zGK (hL:Lst L) (h:s.k≤L.length - 1):s.k≤(zW L s).2.k∧(zW L s).2.k≤L.length - 1∧(s.k < L.length - 1→s.k < (zW L s).2.k)∧(s.k=L.length - 1→(zW L s).2.bad≠0):=⟨(zAD hL h).adv.le,(zAD hL h).adv.hi,(zAD hL h).more,(zAD hL h).stop⟩
theorem zFa (hL:Lst L) (h:s.k≤L.length - 1):s.k≤(zBR L s).k∧(zBR L s).k≤L.length - 1:=⟨(zAV hL h).le,(zAV hL h).hi⟩
theorem zON (hL:Lst L) (K:Kz L R) {acc:List Tr} (hp:Pre L (.program acc) s):Z s (cS (.program acc) s) (dS (.program acc)) (zF L R (.program acc) s):=by
 have hs:=hp.1;unfold zF cS dS;dsimp only;refine zAF (fun h=>?_) (fun h=>?_);rotate_left;have hlt:=hL.lt hs h;obtain⟨a1,b1,c1,d1,e1,f1⟩:=K.e (q:=.item) (s:=s) ⟨hs,trivial⟩ rfl (c:=2) (d:=0) rfl rfl
 try simp only[zK]at a1 b1 c1 d1 e1 f1
 obtain⟨a2,b2,e2⟩:=K.a (q:=.program (acc++[(R .item s).1])) (s:=(R .item s).2) ⟨b1,trivial⟩ (c:=1+sizes (acc++[(R .item s).1])) (rfl)
 try simp only[zK]at a2 b2 e2
 rotate_left
 all_goals
  (refine⟨?_,fun e he hk=>by cases he⟩<;>(try simp only[zAK,zAL,zd,zL,zO,zc,zK]at *)<;>omega)
theorem zRB {w:List UInt8}:(zM L w s).bad≠0∨s.k < (zM L w s).k:=by
 unfold zM;split
 · right;exact yAG _
 · left;exact ze
theorem zTT (hL:Lst L) (K:Kz L R) (hp:Pre L (.block) s):Z s (cS (.block) s) (dS (.block)) (zF L R (.block) s):=by
 have hs:=hp.1;unfold zF cS dS;dsimp only;obtain⟨a1,b1,c1⟩:=zBW (s:=s) (w:=[123]) hL (hs)
 try simp only[zK]at a1 b1 c1
 have hbb:=zRB (w:=[123]) (L:=L) (s:=s);obtain⟨p1,p2,p3⟩:=K.a (q:=.blockL []) (s:=zM L [123] s) ⟨b1,trivial⟩ rfl;unfold cS at p3;dsimp only at p3;refine⟨?_,fun e he hk=>?_⟩
 · rcases hbb with h | h
   · rw[if_pos h]at p3;simp only[zO]at p3;omega
   · have:(if(zM L [123] s).bad≠0 then 1+sizes []else 3+sizes [])≤3:=by split<;>simp only[zO]<;>omega
     omega
 · injection he with he;subst he;have:(if(zM L [123] s).bad≠0 then 1+sizes []else 3+sizes [])≤3:=by split<;>simp only[zO]<;>omega
   rcases Nat.lt_or_ge s.k (L.length - 1)with h5 | h5
   · have:=c1 h5;omega
   · omega
theorem zRC (hL:Lst L) (K:Kz L R) {acc:List Tr} (hp:Pre L (.blockL acc) s):Z s (cS (.blockL acc) s) (dS (.blockL acc)) (zF L R (.blockL acc) s):=by
 have hs:=hp.1;unfold zF cS dS;dsimp only;refine zAF (fun h=>?_) (fun h=>?_)
 · rw[if_pos h]
   (refine⟨?_,fun e he hk=>by cases he⟩<;>(try simp only[zAK,zAL,zd,zL,zO,zc,zK]at *)<;>omega)
 · rw[if_neg h];refine zAF (fun h2=>?_) (fun h2=>?_)
   · have hlt:=hL.on hs h2
     (refine⟨?_,fun e he hk=>by cases he⟩<;>(try simp only[zAK,zAL,zd,zL,zO,zc,zK]at *)<;>omega)
   · obtain⟨a1,b1,c1,d1,e1,f1⟩:=K.e (q:=.item) (s:=s) ⟨hs,trivial⟩ rfl (c:=2) (d:=0) rfl rfl
     try simp only[zK]at a1 b1 c1 d1 e1 f1
     obtain⟨p1,p2,p3⟩:=K.a (q:=.blockL (acc++[(R .item s).1])) (s:=(R .item s).2) ⟨b1,trivial⟩ rfl;unfold cS at p3;dsimp only at p3;refine⟨?_,fun e he hk=>by cases he⟩;rcases Nat.lt_or_ge s.k (L.length - 1)with h5 | h5
     · have:=f1 (c1 h5)
       by_cases h6:(R .item s).2.bad≠0
       · rw[if_pos h6]at p3;simp only[zc,zL,zO]at p3;omega
       · rw[if_neg h6]at p3;simp only[zc,zL,zO]at p3;omega
     · rw[if_pos (d1 (by omega))]at p3;simp only[zc,zL,zO]at p3;omega
theorem zUF (hL:Lst L) (K:Kz L R) (hp:Pre L (.item) s):Z s (cS (.item) s) (dS (.item)) (zF L R (.item) s):=by
 have hs:=hp.1;unfold zF cS dS;dsimp only;refine zAF (fun h=>?_) (fun h=>?_);obtain⟨a1,b1,c1,d1,e1,f1⟩:=K.e (q:=.declares) (s:=s) ⟨hs,trivial⟩ rfl (c:=2) (d:=2) rfl rfl
 try simp only[zK]at a1 b1 c1 d1 e1 f1
 obtain⟨a2,b2⟩:=zFa (s:=(R .declares s).2) hL (b1)
 try simp only[zK]at a2 b2
 have hlt:s.k < L.length - 1:=by
  rcases Bool.or_eq_true _ _ |>.mp h with h | h
  · exact hL.on hs h
  · exact hL.on hs h
 have g1:=c1 hlt;have g2:=f1 g1;clear c1 f1 d1;rotate_left;refine zAF (fun h2=>?_) (fun h2=>?_);have hlt:=hL.on hs h2;obtain⟨a3,b3,c3,d3⟩:=zGK (s:=zB s) hL ((by show s.k+1≤_;omega))
 try simp only[zK]at a3 b3 c3 d3
 obtain⟨a4,b4,e4⟩:=K.a (q:=.func 19 (zW L (zB s)).1) (s:=(zW L (zB s)).2) ⟨b3,trivial⟩ (c:=3) (rfl)
 try simp only[zK]at a4 b4 e4
 rotate_left;obtain⟨a5,b5,c5,d5,e5,f5⟩:=K.e (q:=.statement) (s:=s) ⟨hs,trivial⟩ rfl (c:=2) (d:=2) rfl rfl
 try simp only[zK]at a5 b5 c5 d5 e5 f5
 have g:=f5;rotate_left
 all_goals
  (refine⟨?_,fun e he hk=>?_⟩<;>(try (injection he with he;subst he))<;>(try simp only[zAK,zAL,zd,zL,zO,zc,zK]at *)<;>omega)
theorem zLi (hL:Lst L) (K:Kz L R) (hp:Pre L (.declares) s):Z s (cS (.declares) s) (dS (.declares)) (zF L R (.declares) s):=by
 have hs:=hp.1;unfold zF cS dS;dsimp only;refine zAF (fun h=>?_) (fun h=>?_)
 · have hlt:=hL.on hs h;obtain⟨a1,b1,e1⟩:=K.a (q:=.declL 6 []) (s:=zB s) ⟨(by show s.k+1≤_;omega),trivial⟩ (c:=2+sizes []) (rfl)
   try simp only[zK]at a1 b1 e1
   (refine⟨?_,fun e he hk=>?_⟩<;>(try (injection he with he;subst he))<;>(try simp only[zAK,zAL,zd,zL,zO,zc,zK]at *)<;>omega)
 · obtain⟨a2,b2,c2⟩:=zBW (s:=s) (w:=[108,101,116]) hL (hs)
   try simp only[zK]at a2 b2 c2
   obtain⟨a3,b3,e3⟩:=K.a (q:=.declL 5 []) (s:=zM L [108,101,116] s) ⟨b2,trivial⟩ (c:=2+sizes []) (rfl)
   try simp only[zK]at a3 b3 e3
   refine⟨?_,fun e he hk=>?_⟩
   · simp only[zO]at e3;omega
   · injection he with he;subst he;simp only[zO]at e3;rcases Nat.lt_or_ge s.k (L.length - 1)with h5 | h5
     · have:=c2 h5;omega
     · omega
theorem zTU (hL:Lst L) (K:Kz L R) {k:Int} {acc:List Tr} (hp:Pre L (.declL k acc) s):Z s (cS (.declL k acc) s) (dS (.declL k acc)) (zF L R (.declL k acc) s):=by
 have hs:=hp.1;unfold zF cS dS;dsimp only;obtain⟨a1,b1,c1,d1⟩:=zGK (s:=s) hL (hs)
 try simp only[zK]at a1 b1 c1 d1
 obtain⟨d,hd⟩:∃x,(if onP L [61] (zW L s).2=true then(trN 7 (zW L s).1 [(R .assign (zB (zW L s).2)).1],(R .assign (zB (zW L s).2)).2)else(trN 7 (zW L s).1 [],(zW L s).2):Tr×Ps)=x:=⟨_,rfl⟩;have gd:(zW L s).2.k≤d.2.k∧d.2.k≤L.length - 1∧d.1.size+16*(zW L s).2.k≤16*d.2.k+1∧(s.k=L.length - 1→d.2.bad≠0):=by
  rw[←hd];split
  · rename_i c
    have hlt:=hL.on b1 c;obtain⟨a2,b2,c2,d2,e2,f2⟩:=K.e (q:=.assign) (s:=zB (zW L s).2) ⟨by show(zW L s).2.k+1≤_;omega,trivial⟩ rfl (c:=1) (d:=4) rfl rfl
    try simp only[zK]at a2 b2 c2 d2 e2 f2
    dsimp only;refine⟨by omega,b2,by simp only[zAL,zL,zO];omega,fun h=>by omega⟩
  · exact⟨yAD _,b1,by simp only[zAL,zO];omega,d1⟩
 rw[hd];clear hd;obtain⟨q1,q2,q3,q4⟩:=gd;refine zAF (fun h=>?_) (fun h=>?_);rotate_left;refine zAF (fun h2=>?_) (fun h2=>?_);have hlt:=hL.on q2 h2;obtain⟨a3,b3,e3⟩:=K.a (q:=.declL k (acc++[d.1])) (s:=zB d.2) ⟨by show d.2.k+1≤_;omega,trivial⟩ (c:=2+sizes (acc++[d.1])) (rfl)
 try simp only[zK]at a3 b3 e3
 rotate_left;rotate_left
 all_goals
  (refine⟨?_,fun e he hk=>by cases he⟩<;>(try simp only[zAK,zAL,zd,zL,zO,zc,zK]at *)<;>omega)
theorem zUG (hL:Lst L) (K:Kz L R) {k:Int} {m:List UInt8} (hp:Pre L (.func k m) s):Z s (cS (.func k m) s) (dS (.func k m)) (zF L R (.func k m) s):=by
 have hs:=hp.1;unfold zF cS dS;dsimp only;obtain⟨a1,b1,c1,d1,e1,f1⟩:=K.e (q:=.params) (s:=s) ⟨hs,trivial⟩ rfl (c:=2) (d:=6) rfl rfl
 try simp only[zK]at a1 b1 c1 d1 e1 f1
 obtain⟨a2,b2,c2,d2,e2,f2⟩:=K.e (q:=.block) (s:=(R .params s).2) ⟨b1,trivial⟩ rfl (c:=1) (d:=4) rfl rfl
 try simp only[zK]at a2 b2 c2 d2 e2 f2
 have h7:=zDN (R .params s).1
 (refine⟨?_,fun e he hk=>by cases he⟩<;>(try simp only[zAK,zAL,zd,zL,zO,zc,zK]at *)<;>omega)
theorem zRD (hL:Lst L) (K:Kz L R) (hp:Pre L (.params) s):Z s (cS (.params) s) (dS (.params)) (zF L R (.params) s):=by
 have hs:=hp.1;unfold zF cS dS;dsimp only;obtain⟨a1,b1,c1⟩:=zBW (s:=s) (w:=[40]) hL (hs)
 try simp only[zK]at a1 b1 c1
 refine zAF (fun h=>?_) (fun h=>?_);have hlt:=hL.on b1 h;rotate_left;obtain⟨a2,b2,e2⟩:=K.a (q:=.paramL []) (s:=zM L [40] s) ⟨b1,trivial⟩ (c:=2+sizes []) (rfl)
 try simp only[zK]at a2 b2 e2
 simp only[zO]at e2;rotate_left
 all_goals
  (refine⟨?_,fun e he hk=>?_⟩<;>(try (injection he with he;subst he))<;>(try simp only[zAK,zAL,zd,zL,zO,zc,zK]at *)<;>omega)
theorem zRE (hL:Lst L) (K:Kz L R) {acc:List Tr} (hp:Pre L (.paramL acc) s):Z s (cS (.paramL acc) s) (dS (.paramL acc)) (zF L R (.paramL acc) s):=by
 have hs:=hp.1;unfold zF cS dS;dsimp only;obtain⟨a1,b1,c1,d1⟩:=zGK (s:=s) hL (hs)
 try simp only[zK]at a1 b1 c1 d1
 refine zAF (fun h=>?_) (fun h=>?_);rotate_left;refine zAF (fun h2=>?_) (fun h2=>?_);have hlt:=hL.on b1 h2;rotate_left;obtain⟨a2,b2,c2⟩:=zBW (s:=(zW L s).2) (w:=[44]) hL (b1)
 try simp only[zK]at a2 b2 c2
 obtain⟨a3,b3,e3⟩:=K.a (q:=.paramL (acc++[trN 20 (zW L s).1 []])) (s:=zM L [44] (zW L s).2) ⟨b2,trivial⟩ (c:=2+sizes (acc++[trN 20 (zW L s).1 []])) (rfl)
 try simp only[zK]at a3 b3 e3
 have hlt:s.k < L.length - 1:=by
  rcases Nat.lt_or_ge s.k (L.length - 1)with h5 | h5
  · exact h5
  · exact absurd (d1 (by omega)) h
 rotate_left
 all_goals
  (refine⟨?_,fun e he hk=>by cases he⟩<;>(try simp only[zAK,zAL,zd,zL,zO,zc,zK]at *)<;>omega)
theorem zI2 (hL:Lst L) (K:Kz L R) (hp:Pre L (.statement) s):Z s (cS (.statement) s) (dS (.statement)) (zF L R (.statement) s):=by
 have hs:=hp.1;unfold zF cS dS;dsimp only;refine zAF (fun h=>?_) (fun h=>?_);have hlt:=hL.lt hs (by rw[h.1];decide);have hlt2:=zEs hL hlt h.2;obtain⟨a1,b1,c1,d1,e1,f1⟩:=K.e (q:=.statement) (s:=zB (zB s)) ⟨by show s.k+1+1≤_;omega,trivial⟩ rfl (c:=2) (d:=2) rfl rfl
 try simp only[zK]at a1 b1 c1 d1 e1 f1
 rotate_left;refine zAF (fun h2=>?_) (fun h2=>?_);obtain⟨a2,b2,c2,d2,e2,f2⟩:=K.e (q:=.word (zH L s.k).text) (s:=s) ⟨hs,hL.lt hs (by rw[h2];decide)⟩ rfl (c:=2) (d:=2) rfl rfl
 try simp only[zK]at a2 b2 c2 d2 e2 f2
 rotate_left;refine zAF (fun h3=>?_) (fun h3=>?_);have hlt:=hL.on hs h3;rotate_left;refine zAF (fun h4=>?_) (fun h4=>?_);obtain⟨a3,b3,c3,d3,e3,f3⟩:=K.e (q:=.block) (s:=s) ⟨hs,trivial⟩ rfl (c:=1) (d:=4) rfl rfl
 try simp only[zK]at a3 b3 c3 d3 e3 f3
 rotate_left;obtain⟨a4,b4,c4,d4,e4,f4⟩:=K.e (q:=.simple) (s:=s) ⟨hs,trivial⟩ rfl (c:=2) (d:=2) rfl rfl
 try simp only[zK]at a4 b4 c4 d4 e4 f4
 rotate_left
 all_goals
  (refine⟨?_,fun e he hk=>?_⟩<;>(try (injection he with he;subst he))<;>(try simp only[zAK,zAL,zd,zL,zO,zc,zK]at *)<;>omega)
theorem zRF (hL:Lst L) (K:Kz L R) (hp:Pre L (.simple) s):Z s (cS (.simple) s) (dS (.simple)) (zF L R (.simple) s):=by
 have hs:=hp.1;unfold zF cS dS;dsimp only;obtain⟨a1,b1,c1,d1,e1,f1⟩:=K.e (q:=.assign) (s:=s) ⟨hs,trivial⟩ rfl (c:=1) (d:=4) rfl rfl
 try simp only[zK]at a1 b1 c1 d1 e1 f1
 obtain⟨a2,b2⟩:=zFa (s:=(R .assign s).2) hL (b1)
 try simp only[zK]at a2 b2
 (refine⟨?_,fun e he hk=>?_⟩<;>(try (injection he with he;subst he))<;>(try simp only[zAK,zAL,zd,zL,zO,zc,zK]at *)<;>omega)
theorem zUH (hL:Lst L) (K:Kz L R) {w:List UInt8} (hp:Pre L (.word w) s):Z s (cS (.word w) s) (dS (.word w)) (zF L R (.word w) s):=by
 have hs:=hp.1;unfold zF cS dS;dsimp only;have hlt:s.k < L.length - 1:=hp.2;have hrf:(zV L s).k=L.length - 1:=rfl;refine zAF (fun h1=>?_) (fun h1=>?_);obtain⟨a1,b1,e1⟩:=K.a (q:=.within) (s:=zB s) ⟨by show s.k+1≤_;omega,trivial⟩ (c:=1) (rfl)
 try simp only[zK]at a1 b1 e1
 obtain⟨a2,b2,c2,d2,e2,f2⟩:=K.e (q:=.statement) (s:=(R .within (zB s)).2) ⟨b1,trivial⟩ rfl (c:=2) (d:=2) rfl rfl
 try simp only[zK]at a2 b2 c2 d2 e2 f2
 refine zAF (fun h=>?_) (fun h=>?_);have hlt3:=hL.on b2 h;obtain⟨a3,b3,c3,d3,e3,f3⟩:=K.e (q:=.statement) (s:=zB (R .statement (R .within (zB s)).2).2) ⟨by show(R .statement (R .within (zB s)).2).2.k+1≤_;omega,trivial⟩ rfl (c:=2) (d:=2) rfl rfl
 try simp only[zK]at a3 b3 c3 d3 e3 f3
 rotate_left;rotate_left;refine zAF (fun h2=>?_) (fun h2=>?_);obtain⟨a4,b4,e4⟩:=K.a (q:=.within) (s:=zB s) ⟨by show s.k+1≤_;omega,trivial⟩ (c:=1) (rfl)
 try simp only[zK]at a4 b4 e4
 obtain⟨a5,b5,c5,d5,e5,f5⟩:=K.e (q:=.statement) (s:=(R .within (zB s)).2) ⟨b4,trivial⟩ rfl (c:=2) (d:=2) rfl rfl
 try simp only[zK]at a5 b5 c5 d5 e5 f5
 rotate_left;refine zAF (fun h3=>?_) (fun h3=>?_);obtain⟨a6,b6,c6,d6,e6,f6⟩:=K.e (q:=.loop) (s:=s) ⟨hs,hlt⟩ rfl (c:=2) (d:=2) rfl rfl
 try simp only[zK]at a6 b6 c6 d6 e6 f6
 rotate_left;refine zAF (fun h4=>?_) (fun h4=>?_);obtain⟨a7,b7,c7,d7,e7,f7⟩:=K.e (q:=.jump 12) (s:=s) ⟨hs,hlt⟩ rfl (c:=2) (d:=2) rfl rfl
 try simp only[zK]at a7 b7 c7 d7 e7 f7
 rotate_left;refine zAF (fun h5=>?_) (fun h5=>?_);obtain⟨a8,b8,c8,d8,e8,f8⟩:=K.e (q:=.jump 13) (s:=s) ⟨hs,hlt⟩ rfl (c:=2) (d:=2) rfl rfl
 try simp only[zK]at a8 b8 c8 d8 e8 f8
 rotate_left;refine zAF (fun h6=>?_) (fun h6=>?_);refine zAF (fun h=>?_) (fun h=>?_);obtain⟨a9,b9⟩:=zFa (s:=zB s) hL (by show s.k+1≤_;omega)
 try simp only[zK]at a9 b9
 rotate_left;obtain⟨a10,b10,c10,d10,e10,f10⟩:=K.e (q:=.assign) (s:=zB s) ⟨by show s.k+1≤_;omega,trivial⟩ rfl (c:=1) (d:=4) rfl rfl
 try simp only[zK]at a10 b10 c10 d10 e10 f10
 obtain⟨a11,b11⟩:=zFa (s:=(R .assign (zB s)).2) hL (b10)
 try simp only[zK]at a11 b11
 rotate_left;refine zAF (fun h7=>?_) (fun h7=>?_);obtain⟨s1,hs1⟩:∃x,(if(zH L (zB s).k).nl=true then zV L (zB s)else zB s:Ps)=x:=⟨_,rfl⟩;have gs1:s.k+1≤s1.k∧s1.k≤L.length - 1:=by
  rw[←hs1];split
  · exact⟨by show s.k+1≤L.length - 1;omega,yAD _⟩
  · exact⟨yAD _,by show s.k+1≤_;omega⟩
 rw[hs1];clear hs1;obtain⟨a12,b12,c12,d12,e12,f12⟩:=K.e (q:=.assign) (s:=s1) ⟨gs1.2,trivial⟩ rfl (c:=1) (d:=4) rfl rfl
 try simp only[zK]at a12 b12 c12 d12 e12 f12
 obtain⟨a13,b13⟩:=zFa (s:=(R .assign s1).2) hL (b12)
 try simp only[zK]at a13 b13
 rotate_left;refine zAF (fun h8=>?_) (fun h8=>?_);obtain⟨a14,b14,c14,d14,e14,f14⟩:=K.e (q:=.tries) (s:=s) ⟨hs,hlt⟩ rfl (c:=2) (d:=2) rfl rfl
 try simp only[zK]at a14 b14 c14 d14 e14 f14
 rotate_left;refine zAF (fun h9=>?_) (fun h9=>?_);rotate_left;obtain⟨a15,b15,c15,d15,e15,f15⟩:=K.e (q:=.simple) (s:=s) ⟨hs,trivial⟩ rfl (c:=2) (d:=2) rfl rfl
 try simp only[zK]at a15 b15 c15 d15 e15 f15
 rotate_left
 all_goals
  (refine⟨?_,fun e he hk=>?_⟩<;>(try (injection he with he;subst he))<;>(try simp only[zAK,zAL,zd,zL,zO,zc,zK]at *)<;>omega)
theorem zRG (hL:Lst L) (K:Kz L R) (hp:Pre L (.within) s):Z s (cS (.within) s) (dS (.within)) (zF L R (.within) s):=by
 have hs:=hp.1;unfold zF cS dS;dsimp only;obtain⟨a1,b1,c1⟩:=zBW (s:=s) (w:=[40]) hL (hs)
 try simp only[zK]at a1 b1 c1
 obtain⟨a2,b2,c2,d2,e2,f2⟩:=K.e (q:=.assign) (s:=zM L [40] s) ⟨b1,trivial⟩ rfl (c:=1) (d:=4) rfl rfl
 try simp only[zK]at a2 b2 c2 d2 e2 f2
 obtain⟨a3,b3,c3⟩:=zBW (s:=(R .assign (zM L [40] s)).2) (w:=[41]) hL (b2)
 try simp only[zK]at a3 b3 c3
 (refine⟨?_,fun e he hk=>by cases he⟩<;>(try simp only[zAK,zAL,zd,zL,zO,zc,zK]at *)<;>omega)
theorem zRH (hL:Lst L) (K:Kz L R) {w:List UInt8} (hp:Pre L (.clause w) s):Z s (cS (.clause w) s) (dS (.clause w)) (zF L R (.clause w) s):=by
 have hs:=hp.1;unfold zF cS dS;dsimp only;refine zAF (fun h=>?_) (fun h=>?_);obtain⟨a1,b1,c1⟩:=zBW (s:=s) (w:=w) hL (hs)
 try simp only[zK]at a1 b1 c1
 rotate_left;obtain⟨a2,b2,c2,d2,e2,f2⟩:=K.e (q:=.assign) (s:=s) ⟨hs,trivial⟩ rfl (c:=1) (d:=4) rfl rfl
 try simp only[zK]at a2 b2 c2 d2 e2 f2
 obtain⟨a3,b3,c3⟩:=zBW (s:=(R .assign s).2) (w:=w) hL (b2)
 try simp only[zK]at a3 b3 c3
 rotate_left
 all_goals
  (refine⟨?_,fun e he hk=>by cases he⟩<;>(try simp only[zAK,zAL,zd,zL,zO,zc,zK]at *)<;>omega)
theorem zUI (hL:Lst L) (K:Kz L R) (hp:Pre L (.loop) s):Z s (cS (.loop) s) (dS (.loop)) (zF L R (.loop) s):=by
 have hs:=hp.1;unfold zF cS dS;dsimp only;have hlt:s.k < L.length - 1:=hp.2;obtain⟨a1,b1,c1⟩:=zBW (s:=zB s) (w:=[40]) hL (by show s.k+1≤_;omega)
 try simp only[zK]at a1 b1 c1
 obtain⟨a,ha⟩:∃x,(if(onP L [108,101,116] (zM L [40] (zB s)) || onP L [99,111,110,115,116] (zM L [40] (zB s)))=true then((R .declares (zM L [40] (zB s))).1,zM L [59] (R .declares (zM L [40] (zB s))).2)else R (.clause [59]) (zM L [40] (zB s)):Tr×Ps)=x:=⟨_,rfl⟩;have ga:(zM L [40] (zB s)).k≤a.2.k∧a.2.k≤L.length - 1∧a.1.size+16*(zM L [40] (zB s)).k≤16*a.2.k+2:=by
  rw[←ha];split
  · obtain⟨a2,b2,c2,d2,e2,f2⟩:=K.e (q:=.declares) (s:=zM L [40] (zB s)) ⟨b1,trivial⟩ rfl (c:=2) (d:=2) rfl rfl
    try simp only[zK]at a2 b2 c2 d2 e2 f2
    obtain⟨a3,b3,c3⟩:=zBW (s:=(R .declares (zM L [40] (zB s))).2) (w:=[59]) hL (b2)
    try simp only[zK]at a3 b3 c3
    dsimp only;exact⟨by omega,by omega,by omega⟩
  · obtain⟨a4,b4,e4⟩:=K.a (q:=.clause [59]) (s:=zM L [40] (zB s)) ⟨b1,trivial⟩ (c:=1) (rfl)
    try simp only[zK]at a4 b4 e4
    exact⟨by omega,by omega,by omega⟩
 rw[ha];clear ha;obtain⟨q1,q2,q3⟩:=ga;obtain⟨a5,b5,e5⟩:=K.a (q:=.clause [59]) (s:=a.2) ⟨q2,trivial⟩ (c:=1) (rfl)
 try simp only[zK]at a5 b5 e5
 obtain⟨a6,b6,e6⟩:=K.a (q:=.clause [41]) (s:=(R (.clause [59]) a.2).2) ⟨b5,trivial⟩ (c:=1) (rfl)
 try simp only[zK]at a6 b6 e6
 obtain⟨a7,b7,c7,d7,e7,f7⟩:=K.e (q:=.statement) (s:=(R (.clause [41]) (R (.clause [59]) a.2).2).2) ⟨b6,trivial⟩ rfl (c:=2) (d:=2) rfl rfl
 try simp only[zK]at a7 b7 c7 d7 e7 f7
 (refine⟨?_,fun e he hk=>?_⟩<;>(try (injection he with he;subst he))<;>(try simp only[zAK,zAL,zd,zL,zO,zc,zK]at *)<;>omega)
theorem zUJ (hL:Lst L) (K:Kz L R) {k:Int} (hp:Pre L (.jump k) s):Z s (cS (.jump k) s) (dS (.jump k)) (zF L R (.jump k) s):=by
 have hs:=hp.1;unfold zF cS dS;dsimp only;have hlt:s.k < L.length - 1:=hp.2;refine zAF (fun h=>?_) (fun h=>?_);obtain⟨a1,b1,c1,d1⟩:=zGK (s:=zB s) hL (by show s.k+1≤_;omega)
 try simp only[zK]at a1 b1 c1 d1
 obtain⟨a2,b2⟩:=zFa (s:=(zW L (zB s)).2) hL (b1)
 try simp only[zK]at a2 b2
 rotate_left;obtain⟨a3,b3⟩:=zFa (s:=zB s) hL (by show s.k+1≤_;omega)
 try simp only[zK]at a3 b3
 rotate_left
 all_goals
  (refine⟨?_,fun e he hk=>?_⟩<;>(try (injection he with he;subst he))<;>(try simp only[zAK,zAL,zd,zL,zO,zc,zK]at *)<;>omega)
theorem zTV (hL:Lst L) (K:Kz L R) (hp:Pre L (.tries) s):Z s (cS (.tries) s) (dS (.tries)) (zF L R (.tries) s):=by
 have hs:=hp.1;unfold zF cS dS;dsimp only;have hlt:s.k < L.length - 1:=hp.2;obtain⟨a1,b1,c1,d1,e1,f1⟩:=K.e (q:=.block) (s:=zB s) ⟨by show s.k+1≤_;omega,trivial⟩ rfl (c:=1) (d:=4) rfl rfl
 try simp only[zK]at a1 b1 c1 d1 e1 f1
 obtain⟨s1,hs1⟩:∃x,(if(onP L [99,97,116,99,104] (R .block (zB s)).2 || onP L [102,105,110,97,108,108,121] (R .block (zB s)).2)=true then(R .block (zB s)).2 else zV L (R .block (zB s)).2:Ps)=x:=⟨_,rfl⟩;have gs1:(R .block (zB s)).2.k≤s1.k∧s1.k≤L.length - 1:=by
  rw[←hs1];split
  · exact⟨yAD _,b1⟩
  · exact⟨b1,yAD _⟩
 rw[hs1];clear hs1;have gn:onP L [99,97,116,99,104] s1=true→s1.k+1≤((if onP L [40] (zB s1)=true then((zW L (zB (zB s1))).1,zM L [41] (zW L (zB (zB s1))).2)else([],zB s1):List UInt8×Ps)).2.k∧((if onP L [40] (zB s1)=true then((zW L (zB (zB s1))).1,zM L [41] (zW L (zB (zB s1))).2)else([],zB s1):List UInt8×Ps)).2.k≤L.length - 1:=by
  intro hc;have hl1:=hL.on gs1.2 hc;split
  · rename_i c
    have hl2:=hL.on (s:=zB s1) (by show s1.k+1≤_;omega) c;have h3:=zGK (s:=zB (zB s1)) hL (by show(zB s1).k+1≤_;omega);have h4:=zBW (s:=(zW L (zB (zB s1))).2) (w:=[41]) hL h3.2.1;have h5:(zB (zB s1)).k=s1.k+1+1:=rfl;dsimp only;omega
  · exact⟨yAD _,by show s1.k+1≤_;omega⟩
 obtain⟨n,hn⟩:∃x,(if onP L [40] (zB s1)=true then((zW L (zB (zB s1))).1,zM L [41] (zW L (zB (zB s1))).2)else([],zB s1):List UInt8×Ps)=x:=⟨_,rfl⟩;rw[hn]at gn⊢;clear hn;obtain⟨c,hc⟩:∃x,(if onP L [99,97,116,99,104] s1=true then(trN 17 n.1 [(R .block n.2).1],(R .block n.2).2)else(trK 11 [],s1):Tr×Ps)=x:=⟨_,rfl⟩;have gc:s1.k≤c.2.k∧c.2.k≤L.length - 1∧c.1.size+16*s1.k≤16*c.2.k+1:=by
  rw[←hc];split
  · rename_i hc
    have h1:=gn hc;obtain⟨a2,b2,c2,d2,e2,f2⟩:=K.e (q:=.block) (s:=n.2) ⟨h1.2,trivial⟩ rfl (c:=1) (d:=4) rfl rfl
    try simp only[zK]at a2 b2 c2 d2 e2 f2
    dsimp only;exact⟨by omega,b2,by simp only[zAL,zL,zO];omega⟩
  · exact⟨yAD _,gs1.2,by simp only[zAK,zO];omega⟩
 rw[hc];clear hc;obtain⟨q1,q2,q3⟩:=gc;refine zAF (fun h=>?_) (fun h=>?_);have hl5:=hL.on q2 h;obtain⟨a3,b3,c3,d3,e3,f3⟩:=K.e (q:=.block) (s:=zB c.2) ⟨by show c.2.k+1≤_;omega,trivial⟩ rfl (c:=1) (d:=4) rfl rfl
 try simp only[zK]at a3 b3 c3 d3 e3 f3
 rotate_left;rotate_left
 all_goals
  (refine⟨?_,fun e he hk=>?_⟩<;>(try (injection he with he;subst he))<;>(try simp only[zAK,zAL,zd,zL,zO,zc,zK]at *)<;>omega)
theorem zRI (hL:Lst L) (K:Kz L R) (hp:Pre L (.assign) s):Z s (cS (.assign) s) (dS (.assign)) (zF L R (.assign) s):=by
 have hs:=hp.1;unfold zF cS dS;dsimp only;refine zAF (fun h1=>?_) (fun h1=>?_);have hlt:=hL.lt hs (by rw[h1.1];decide);obtain⟨a1,b1,e1⟩:=K.a (q:=.body [trN 20 (zH L s.k).text []]) (s:=zB s) ⟨by show s.k+1≤_;omega,trivial⟩ (c:=2+sizes [trN 20 (zH L s.k).text []]) (rfl)
 try simp only[zK]at a1 b1 e1
 rotate_left;refine zAF (fun h2=>?_) (fun h2=>?_);obtain⟨a2,b2,c2,d2,e2,f2⟩:=K.e (q:=.params) (s:=s) ⟨hs,trivial⟩ rfl (c:=2) (d:=6) rfl rfl
 try simp only[zK]at a2 b2 c2 d2 e2 f2
 obtain⟨a3,b3,e3⟩:=K.a (q:=.body (R .params s).1.subs) (s:=(R .params s).2) ⟨b2,trivial⟩ (c:=2+sizes (R .params s).1.subs) (rfl)
 try simp only[zK]at a3 b3 e3
 have h7:=zDN (R .params s).1;have hlt:s.k < L.length - 1:=by
  unfold zAR at h2;rw[Bool.and_eq_true]at h2;exact hL.on hs h2.1
 rotate_left;obtain⟨a4,b4,c4,d4,e4,f4⟩:=K.e (q:=.cond) (s:=s) ⟨hs,trivial⟩ rfl (c:=1) (d:=4) rfl rfl
 try simp only[zK]at a4 b4 c4 d4 e4 f4
 have hrf:(zCV L 5 (R .cond s).2).k=L.length - 1:=rfl;refine zAF (fun h3=>?_) (fun h3=>?_);rotate_left;refine zAF (fun h4=>?_) (fun h4=>?_);rotate_left;have hlt:=hL.lt (s:=(R .cond s).2) b4 (fun h0=>h3 (.inl (by rw[h0];decide)));obtain⟨a5,b5,c5,d5,e5,f5⟩:=K.e (q:=.assign) (s:=zB (R .cond s).2) ⟨by show(R .cond s).2.k+1≤_;omega,trivial⟩ rfl (c:=1) (d:=4) rfl rfl
 try simp only[zK]at a5 b5 c5 d5 e5 f5
 rotate_left
 all_goals
  (refine⟨?_,fun e he hk=>?_⟩<;>(try (injection he with he;subst he))<;>(try simp only[zAK,zAL,zd,zL,zO,zc,zK]at *)<;>omega)
theorem zUK (hL:Lst L) (K:Kz L R) {l:List Tr} (hp:Pre L (.body l) s):Z s (cS (.body l) s) (dS (.body l)) (zF L R (.body l) s):=by
 have hs:=hp.1;unfold zF cS dS;dsimp only;obtain⟨s1,hs1⟩:∃x,(if(zH L s.k).nl=true then zV L s else s:Ps)=x:=⟨_,rfl⟩;have gs1:s.k≤s1.k∧s1.k≤L.length - 1:=by
  rw[←hs1];split
  · exact⟨hs,yAD _⟩
  · exact⟨yAD _,hs⟩
 rw[hs1];clear hs1;obtain⟨a1,b1,c1⟩:=zBW (s:=s1) (w:=[61,62]) hL (gs1.2)
 try simp only[zK]at a1 b1 c1
 obtain⟨s2,hs2⟩:∃x,zM L [61,62] s1=x:=⟨_,rfl⟩;rw[hs2]at a1 b1 c1⊢;clear hs2;obtain⟨bb,hbb⟩:∃x,(if onP L [123] s2=true then R .block s2 else R .assign s2:Tr×Ps)=x:=⟨_,rfl⟩;have gbb:s2.k≤bb.2.k∧bb.2.k≤L.length - 1∧bb.1.size+16*s2.k≤16*bb.2.k+1:=by
  rw[←hbb];split
  · obtain⟨a2,b2,c2,d2,e2,f2⟩:=K.e (q:=.block) (s:=s2) ⟨b1,trivial⟩ rfl (c:=1) (d:=4) rfl rfl
    try simp only[zK]at a2 b2 c2 d2 e2 f2
    exact⟨a2,b2,e2⟩
  · obtain⟨a3,b3,c3,d3,e3,f3⟩:=K.e (q:=.assign) (s:=s2) ⟨b1,trivial⟩ rfl (c:=1) (d:=4) rfl rfl
    try simp only[zK]at a3 b3 c3 d3 e3 f3
    exact⟨a3,b3,e3⟩
 rw[hbb];clear hbb;obtain⟨q1,q2,q3⟩:=gbb
 (refine⟨?_,fun e he hk=>by cases he⟩<;>(try simp only[zAK,zAL,zd,zL,zO,zc,zK]at *)<;>omega)
theorem zUL (hL:Lst L) (K:Kz L R) (hp:Pre L (.cond) s):Z s (cS (.cond) s) (dS (.cond)) (zF L R (.cond) s):=by
 have hs:=hp.1;unfold zF cS dS;dsimp only;obtain⟨a1,b1,c1,d1,e1,f1⟩:=K.e (q:=.either) (s:=s) ⟨hs,trivial⟩ rfl (c:=1) (d:=4) rfl rfl
 try simp only[zK]at a1 b1 c1 d1 e1 f1
 refine zAF (fun h=>?_) (fun h=>?_);have hlt:=hL.on b1 h;obtain⟨a2,b2,c2,d2,e2,f2⟩:=K.e (q:=.assign) (s:=zB (R .either s).2) ⟨by show(R .either s).2.k+1≤_;omega,trivial⟩ rfl (c:=1) (d:=4) rfl rfl
 try simp only[zK]at a2 b2 c2 d2 e2 f2
 obtain⟨a3,b3,c3⟩:=zBW (s:=(R .assign (zB (R .either s).2)).2) (w:=[58]) hL (b2)
 try simp only[zK]at a3 b3 c3
 obtain⟨a4,b4,c4,d4,e4,f4⟩:=K.e (q:=.assign) (s:=zM L [58] (R .assign (zB (R .either s).2)).2) ⟨b3,trivial⟩ rfl (c:=1) (d:=4) rfl rfl
 try simp only[zK]at a4 b4 c4 d4 e4 f4
 rotate_left;rotate_left
 all_goals
  (refine⟨?_,fun e he hk=>?_⟩<;>(try (injection he with he;subst he))<;>(try simp only[zAK,zAL,zd,zL,zO,zc,zK]at *)<;>omega)
theorem zRJ (hL:Lst L) (K:Kz L R) (hp:Pre L (.either) s):Z s (cS (.either) s) (dS (.either)) (zF L R (.either) s):=by
 have hs:=hp.1;unfold zF cS dS;dsimp only;obtain⟨a1,b1,c1,d1,e1,f1⟩:=K.e (q:=.level 0) (s:=s) ⟨hs,yAF _⟩ rfl (c:=1) (d:=4) rfl rfl
 try simp only[zK]at a1 b1 c1 d1 e1 f1
 refine zAF (fun h=>?_) (fun h=>?_);obtain⟨a2,b2,e2⟩:=K.a (q:=.nullL (R (.level 0) s).1) (s:=(R (.level 0) s).2) ⟨b1,trivial⟩ (c:=(R (.level 0) s).1.size) (rfl)
 try simp only[zK]at a2 b2 e2
 obtain⟨s3,hs3⟩:∃x,(if(onP L [124,124] (R (.nullL (R (.level 0) s).1) (R (.level 0) s).2).2 || onP L [38,38] (R (.nullL (R (.level 0) s).1) (R (.level 0) s).2).2)=true then zV L (R (.nullL (R (.level 0) s).1) (R (.level 0) s).2).2 else(R (.nullL (R (.level 0) s).1) (R (.level 0) s).2).2:Ps)=x:=⟨_,rfl⟩;have gs3:(R (.nullL (R (.level 0) s).1) (R (.level 0) s).2).2.k≤s3.k∧s3.k≤L.length - 1:=by
  rw[←hs3];split
  · exact⟨b2,yAD _⟩
  · exact⟨yAD _,b2⟩
 rw[hs3];clear hs3;rotate_left;obtain⟨a3,b3,e3⟩:=K.a (q:=.both (R (.level 0) s).1) (s:=(R (.level 0) s).2) ⟨b1,trivial⟩ (c:=(R (.level 0) s).1.size) (rfl)
 try simp only[zK]at a3 b3 e3
 obtain⟨y,hy⟩:∃x,R (.both (R (.level 0) s).1) (R (.level 0) s).2=x:=⟨_,rfl⟩;rw[hy]at a3 b3 e3⊢;clear hy;obtain⟨a4,b4,e4⟩:=K.a (q:=.orL y.1) (s:=y.2) ⟨b3,trivial⟩ (c:=y.1.size) (rfl)
 try simp only[zK]at a4 b4 e4
 obtain⟨z,hz⟩:∃x,R (.orL y.1) y.2=x:=⟨_,rfl⟩;rw[hz]at a4 b4 e4⊢;clear hz;obtain⟨s3,hs3⟩:∃x,(if onP L [63,63] z.2=true then zV L z.2 else z.2:Ps)=x:=⟨_,rfl⟩;have gs3:z.2.k≤s3.k∧s3.k≤L.length - 1:=by
  rw[←hs3];split
  · exact⟨b4,yAD _⟩
  · exact⟨yAD _,b4⟩
 rw[hs3];clear hs3;rotate_left
 all_goals
  (refine⟨?_,fun e he hk=>?_⟩<;>(try (injection he with he;subst he))<;>(try simp only[zAK,zAL,zd,zL,zO,zc,zK]at *)<;>omega)
theorem zTW (hL:Lst L) (K:Kz L R) {x:Tr} (hp:Pre L (.nullL x) s):Z s (cS (.nullL x) s) (dS (.nullL x)) (zF L R (.nullL x) s):=by
 have hs:=hp.1;unfold zF cS dS;dsimp only;refine zAF (fun h=>?_) (fun h=>?_);have hlt:=hL.on hs h;obtain⟨a1,b1,c1,d1,e1,f1⟩:=K.e (q:=.level 0) (s:=zB s) ⟨by show s.k+1≤_;omega,yAF _⟩ rfl (c:=1) (d:=4) rfl rfl
 try simp only[zK]at a1 b1 c1 d1 e1 f1
 obtain⟨a2,b2,e2⟩:=K.a (q:=.nullL (trN 47 [63,63] [x,(R (.level 0) (zB s)).1])) (s:=(R (.level 0) (zB s)).2) ⟨b1,trivial⟩ (c:=(trN 47 [63,63] [x,(R (.level 0) (zB s)).1]).size) (rfl)
 try simp only[zK]at a2 b2 e2
 rotate_left;rotate_left
 all_goals
  (refine⟨?_,fun e he hk=>by cases he⟩<;>(try simp only[zAK,zAL,zd,zL,zO,zc,zK]at *)<;>omega)
theorem zUM (hL:Lst L) (K:Kz L R) {x:Tr} (hp:Pre L (.both x) s):Z s (cS (.both x) s) (dS (.both x)) (zF L R (.both x) s):=by
 have hs:=hp.1;unfold zF cS dS;dsimp only;refine zAF (fun h=>?_) (fun h=>?_);have hlt:=hL.on hs h;obtain⟨a1,b1,c1,d1,e1,f1⟩:=K.e (q:=.level 0) (s:=zB s) ⟨by show s.k+1≤_;omega,yAF _⟩ rfl (c:=1) (d:=4) rfl rfl
 try simp only[zK]at a1 b1 c1 d1 e1 f1
 obtain⟨a2,b2,e2⟩:=K.a (q:=.both (trN 47 [38,38] [x,(R (.level 0) (zB s)).1])) (s:=(R (.level 0) (zB s)).2) ⟨b1,trivial⟩ (c:=(trN 47 [38,38] [x,(R (.level 0) (zB s)).1]).size) (rfl)
 try simp only[zK]at a2 b2 e2
 rotate_left;rotate_left
 all_goals
  (refine⟨?_,fun e he hk=>by cases he⟩<;>(try simp only[zAK,zAL,zd,zL,zO,zc,zK]at *)<;>omega)
theorem zUw (hL:Lst L) (K:Kz L R) {x:Tr} (hp:Pre L (.orL x) s):Z s (cS (.orL x) s) (dS (.orL x)) (zF L R (.orL x) s):=by
 have hs:=hp.1;unfold zF cS dS;dsimp only;refine zAF (fun h=>?_) (fun h=>?_);have hlt:=hL.on hs h;obtain⟨a1,b1,c1,d1,e1,f1⟩:=K.e (q:=.level 0) (s:=zB s) ⟨by show s.k+1≤_;omega,yAF _⟩ rfl (c:=1) (d:=4) rfl rfl
 try simp only[zK]at a1 b1 c1 d1 e1 f1
 obtain⟨y,hy⟩:∃x,R (.level 0) (zB s)=x:=⟨_,rfl⟩;rw[hy]at a1 b1 c1 d1 e1 f1⊢;clear hy;obtain⟨a2,b2,e2⟩:=K.a (q:=.both y.1) (s:=y.2) ⟨b1,trivial⟩ (c:=y.1.size) (rfl)
 try simp only[zK]at a2 b2 e2
 obtain⟨z,hz⟩:∃x,R (.both y.1) y.2=x:=⟨_,rfl⟩;rw[hz]at a2 b2 e2⊢;clear hz;obtain⟨a3,b3,e3⟩:=K.a (q:=.orL (trN 47 [124,124] [x,z.1])) (s:=z.2) ⟨b2,trivial⟩ (c:=(trN 47 [124,124] [x,z.1]).size) (rfl)
 try simp only[zK]at a3 b3 e3
 rotate_left;rotate_left
 all_goals
  (refine⟨?_,fun e he hk=>by cases he⟩<;>(try simp only[zAK,zAL,zd,zL,zO,zc,zK]at *)<;>omega)
theorem zTX (hL:Lst L) (K:Kz L R) {n:Nat} (hp:Pre L (.level n) s):Z s (cS (.level n) s) (dS (.level n)) (zF L R (.level n) s):=by
 have hs:=hp.1;unfold zF cS dS;dsimp only;refine zAF (fun h=>?_) (fun h=>?_);obtain⟨a1,b1,c1,d1,e1,f1⟩:=K.e (q:=.unary) (s:=s) ⟨hs,trivial⟩ rfl (c:=1) (d:=4) rfl rfl
 try simp only[zK]at a1 b1 c1 d1 e1 f1
 rotate_left;have hn:n≤8:=hp.2;obtain⟨a2,b2,c2,d2,e2,f2⟩:=K.e (q:=.level (n+1)) (s:=s) ⟨hs,(by show n+1≤8;omega)⟩ rfl (c:=1) (d:=4) rfl rfl
 try simp only[zK]at a2 b2 c2 d2 e2 f2
 obtain⟨a3,b3,e3⟩:=K.a (q:=.levelL n (R (.level (n+1)) s).1) (s:=(R (.level (n+1)) s).2) ⟨b2,(by show n < 8;omega)⟩ (c:=(R (.level (n+1)) s).1.size) (rfl)
 try simp only[zK]at a3 b3 e3
 rotate_left
 all_goals
  (refine⟨?_,fun e he hk=>?_⟩<;>(try (injection he with he;subst he))<;>(try simp only[zAK,zAL,zd,zL,zO,zc,zK]at *)<;>omega)
theorem zRK (hL:Lst L) (K:Kz L R) {n:Nat} {x:Tr} (hp:Pre L (.levelL n x) s):Z s (cS (.levelL n x) s) (dS (.levelL n x)) (zF L R (.levelL n x) s):=by
 have hs:=hp.1;unfold zF cS dS;dsimp only;refine zAF (fun h=>?_) (fun h=>?_);have hn:n < 8:=hp.2;have hlt:=hL.lt hs (zCZ (by rw[h];omega));obtain⟨a1,b1,c1,d1,e1,f1⟩:=K.e (q:=.level (n+1)) (s:=zB s) ⟨by show s.k+1≤_;omega,(by show n+1≤8;omega)⟩ rfl (c:=1) (d:=4) rfl rfl
 try simp only[zK]at a1 b1 c1 d1 e1 f1
 obtain⟨a2,b2,e2⟩:=K.a (q:=.levelL n (trN 46 (zH L s.k).text [x,(R (.level (n+1)) (zB s)).1])) (s:=(R (.level (n+1)) (zB s)).2) ⟨b1,hn⟩ (c:=(trN 46 (zH L s.k).text [x,(R (.level (n+1)) (zB s)).1]).size) (rfl)
 try simp only[zK]at a2 b2 e2
 rotate_left;rotate_left
 all_goals
  (refine⟨?_,fun e he hk=>by cases he⟩<;>(try simp only[zAK,zAL,zd,zL,zO,zc,zK]at *)<;>omega)
theorem zTY (hL:Lst L) (K:Kz L R) (hp:Pre L (.unary) s):Z s (cS (.unary) s) (dS (.unary)) (zF L R (.unary) s):=by
 have hs:=hp.1;unfold zF cS dS;dsimp only;refine zAF (fun h1=>?_) (fun h1=>?_);have hlt:=hL.lt hs (by rcases h1.1 with h0 | h0<;>(rw[h0];decide));obtain⟨a1,b1,c1,d1,e1,f1⟩:=K.e (q:=.unary) (s:=zB s) ⟨by show s.k+1≤_;omega,trivial⟩ rfl (c:=1) (d:=4) rfl rfl
 try simp only[zK]at a1 b1 c1 d1 e1 f1
 rotate_left;refine zAF (fun h2=>?_) (fun h2=>?_);have hlt:=hL.lt hs (by rcases h2.1 with h0 | h0<;>(rw[h0];decide));obtain⟨a2,b2,c2,d2,e2,f2⟩:=K.e (q:=.unary) (s:=zB s) ⟨by show s.k+1≤_;omega,trivial⟩ rfl (c:=1) (d:=4) rfl rfl
 try simp only[zK]at a2 b2 c2 d2 e2 f2
 obtain⟨s3,hs3⟩:∃x,(if(R .unary (zB s)).2.bad=0∧zAH (R .unary (zB s)).1.nd.kind=false then zV L (R .unary (zB s)).2 else(R .unary (zB s)).2:Ps)=x:=⟨_,rfl⟩;have gs3:(R .unary (zB s)).2.k≤s3.k∧s3.k≤L.length - 1:=by
  rw[←hs3];split
  · exact⟨b2,yAD _⟩
  · exact⟨yAD _,b2⟩
 rw[hs3];clear hs3;rotate_left;obtain⟨a3,b3,c3,d3,e3,f3⟩:=K.e (q:=.calls) (s:=s) ⟨hs,trivial⟩ rfl (c:=1) (d:=4) rfl rfl
 try simp only[zK]at a3 b3 c3 d3 e3 f3
 have hrf:(zV L (R .calls s).2).k=L.length - 1:=rfl;refine zAF (fun h3=>?_) (fun h3=>?_);refine zAF (fun h4=>?_) (fun h4=>?_);rotate_left;have hlt:=hL.lt (s:=(R .calls s).2) b3 (by rw[h3.1];decide);rotate_left;rotate_left
 all_goals
  (refine⟨?_,fun e he hk=>?_⟩<;>(try (injection he with he;subst he))<;>(try simp only[zAK,zAL,zd,zL,zO,zc,zK]at *)<;>omega)
theorem zTZ (hL:Lst L) (K:Kz L R) (hp:Pre L (.calls) s):Z s (cS (.calls) s) (dS (.calls)) (zF L R (.calls) s):=by
 have hs:=hp.1;unfold zF cS dS;dsimp only;obtain⟨a1,b1,c1,d1,e1,f1⟩:=K.e (q:=.head) (s:=s) ⟨hs,trivial⟩ rfl (c:=1) (d:=4) rfl rfl
 try simp only[zK]at a1 b1 c1 d1 e1 f1
 obtain⟨a2,b2,e2⟩:=K.a (q:=.callsL (R .head s).1) (s:=(R .head s).2) ⟨b1,trivial⟩ (c:=(R .head s).1.size) (rfl)
 try simp only[zK]at a2 b2 e2
 (refine⟨?_,fun e he hk=>?_⟩<;>(try (injection he with he;subst he))<;>(try simp only[zAK,zAL,zd,zL,zO,zc,zK]at *)<;>omega)
theorem zRL (hL:Lst L) (K:Kz L R) {x:Tr} (hp:Pre L (.callsL x) s):Z s (cS (.callsL x) s) (dS (.callsL x)) (zF L R (.callsL x) s):=by
 have hs:=hp.1;unfold zF cS dS;dsimp only;refine zAF (fun h=>?_) (fun h=>?_);have hlt:=hL.on hs h;obtain⟨a1,b1,c1,d1,e1,f1⟩:=K.e (q:=.args) (s:=s) ⟨hs,hlt⟩ rfl (c:=2) (d:=0) rfl rfl
 try simp only[zK]at a1 b1 c1 d1 e1 f1
 have h7:=zDN (R .args s).1;obtain⟨a2,b2,e2⟩:=K.a (q:=.callsL (trK 50 (x::(R .args s).1.subs))) (s:=(R .args s).2) ⟨b1,trivial⟩ (c:=(trK 50 (x::(R .args s).1.subs)).size) (rfl)
 try simp only[zK]at a2 b2 e2
 rotate_left;refine zAF (fun h2=>?_) (fun h2=>?_);have hlt:=hL.on hs h2;have hrf:(zV L (zB s)).k=L.length - 1:=rfl;refine zAF (fun h3=>?_) (fun h3=>?_);rotate_left;have hl2:=hL.lt (s:=zB s) (by show s.k+1≤_;omega) (fun h0=>h3 ⟨by rw[h0];decide,by rw[h0];decide⟩);simp only[zK]at hl2;obtain⟨a3,b3,e3⟩:=K.a (q:=.callsL (trN 52 (zH L (zB s).k).text [x])) (s:=zB (zB s)) ⟨by show s.k+1+1≤_;omega,trivial⟩ (c:=(trN 52 (zH L (zB s).k).text [x]).size) (rfl)
 try simp only[zK]at a3 b3 e3
 rotate_left;refine zAF (fun h4=>?_) (fun h4=>?_);have hlt:=hL.on hs h4;obtain⟨a4,b4,c4,d4,e4,f4⟩:=K.e (q:=.assign) (s:=zB s) ⟨by show s.k+1≤_;omega,trivial⟩ rfl (c:=1) (d:=4) rfl rfl
 try simp only[zK]at a4 b4 c4 d4 e4 f4
 obtain⟨a5,b5,c5⟩:=zBW (s:=(R .assign (zB s)).2) (w:=[93]) hL (b4)
 try simp only[zK]at a5 b5 c5
 obtain⟨a6,b6,e6⟩:=K.a (q:=.callsL (trK 53 [x,(R .assign (zB s)).1])) (s:=zM L [93] (R .assign (zB s)).2) ⟨b5,trivial⟩ (c:=(trK 53 [x,(R .assign (zB s)).1]).size) (rfl)
 try simp only[zK]at a6 b6 e6
 rotate_left;rotate_left
 all_goals
  (refine⟨?_,fun e he hk=>by cases he⟩<;>(try simp only[zAK,zAL,zd,zL,zO,zc,zK]at *)<;>omega)
theorem zTb (hL:Lst L) (K:Kz L R) {x:Tr} (hp:Pre L (.headL x) s):Z s (cS (.headL x) s) (dS (.headL x)) (zF L R (.headL x) s):=by
 have hs:=hp.1;unfold zF cS dS;dsimp only;refine zAF (fun h2=>?_) (fun h2=>?_);have hlt:=hL.on hs h2;have hrf:(zV L (zB s)).k=L.length - 1:=rfl;refine zAF (fun h3=>?_) (fun h3=>?_);rotate_left;have hl2:=hL.lt (s:=zB s) (by show s.k+1≤_;omega) (fun h0=>h3 ⟨by rw[h0];decide,by rw[h0];decide⟩);simp only[zK]at hl2;obtain⟨a1,b1,e1⟩:=K.a (q:=.headL (trN 52 (zH L (zB s).k).text [x])) (s:=zB (zB s)) ⟨by show s.k+1+1≤_;omega,trivial⟩ (c:=(trN 52 (zH L (zB s).k).text [x]).size) (rfl)
 try simp only[zK]at a1 b1 e1
 rotate_left;refine zAF (fun h4=>?_) (fun h4=>?_);have hlt:=hL.on hs h4;obtain⟨a2,b2,c2,d2,e2,f2⟩:=K.e (q:=.assign) (s:=zB s) ⟨by show s.k+1≤_;omega,trivial⟩ rfl (c:=1) (d:=4) rfl rfl
 try simp only[zK]at a2 b2 c2 d2 e2 f2
 obtain⟨a3,b3,c3⟩:=zBW (s:=(R .assign (zB s)).2) (w:=[93]) hL (b2)
 try simp only[zK]at a3 b3 c3
 obtain⟨a4,b4,e4⟩:=K.a (q:=.headL (trK 53 [x,(R .assign (zB s)).1])) (s:=zM L [93] (R .assign (zB s)).2) ⟨b3,trivial⟩ (c:=(trK 53 [x,(R .assign (zB s)).1]).size) (rfl)
 try simp only[zK]at a4 b4 e4
 rotate_left;rotate_left
 all_goals
  (refine⟨?_,fun e he hk=>by cases he⟩<;>(try simp only[zAK,zAL,zd,zL,zO,zc,zK]at *)<;>omega)
theorem zUN (hL:Lst L) (K:Kz L R) (hp:Pre L (.head) s):Z s (cS (.head) s) (dS (.head)) (zF L R (.head) s):=by
 have hs:=hp.1;unfold zF cS dS;dsimp only;refine zAF (fun h=>?_) (fun h=>?_);have hlt:=hL.on hs h;obtain⟨a1,b1,c1,d1,e1,f1⟩:=K.e (q:=.head) (s:=zB s) ⟨by show s.k+1≤_;omega,trivial⟩ rfl (c:=1) (d:=4) rfl rfl
 try simp only[zK]at a1 b1 c1 d1 e1 f1
 obtain⟨x,hx⟩:∃x,R .head (zB s)=x:=⟨_,rfl⟩;rw[hx]at a1 b1 c1 d1 e1 f1⊢;clear hx;obtain⟨a2,b2,e2⟩:=K.a (q:=.headL x.1) (s:=x.2) ⟨b1,trivial⟩ (c:=x.1.size) (rfl)
 try simp only[zK]at a2 b2 e2
 obtain⟨y,hy⟩:∃z,R (.headL x.1) x.2=z:=⟨_,rfl⟩;rw[hy]at a2 b2 e2⊢;clear hy;refine zAF (fun h2=>?_) (fun h2=>?_);have hl2:=hL.on b2 h2;obtain⟨a3,b3,c3,d3,e3,f3⟩:=K.e (q:=.args) (s:=y.2) ⟨b2,hl2⟩ rfl (c:=2) (d:=0) rfl rfl
 try simp only[zK]at a3 b3 c3 d3 e3 f3
 have h7:=zDN (R .args y.2).1;rotate_left;rotate_left;obtain⟨a4,b4,c4,d4,e4,f4⟩:=K.e (q:=.primary) (s:=s) ⟨hs,trivial⟩ rfl (c:=1) (d:=4) rfl rfl
 try simp only[zK]at a4 b4 c4 d4 e4 f4
 rotate_left
 all_goals
  (refine⟨?_,fun e he hk=>?_⟩<;>(try (injection he with he;subst he))<;>(try simp only[zAK,zAL,zd,zL,zO,zc,zK]at *)<;>omega)
theorem zUO (hL:Lst L) (K:Kz L R) (hp:Pre L (.args) s):Z s (cS (.args) s) (dS (.args)) (zF L R (.args) s):=by
 have hs:=hp.1;unfold zF cS dS;dsimp only;have hlt:s.k < L.length - 1:=hp.2;obtain⟨a1,b1,c1⟩:=zBW (s:=s) (w:=[40]) hL (hs)
 try simp only[zK]at a1 b1 c1
 obtain⟨a2,b2,e2⟩:=K.a (q:=.list [41]) (s:=zM L [40] s) ⟨b1,trivial⟩ (c:=2) (rfl)
 try simp only[zK]at a2 b2 e2
 have:=c1 hlt
 (refine⟨?_,fun e he hk=>?_⟩<;>(try (injection he with he;subst he))<;>(try simp only[zAK,zAL,zd,zL,zO,zc,zK]at *)<;>omega)
theorem zUP (hL:Lst L) (K:Kz L R) {w:List UInt8} (hp:Pre L (.list w) s):Z s (cS (.list w) s) (dS (.list w)) (zF L R (.list w) s):=by
 have hs:=hp.1;unfold zF cS dS;dsimp only;refine zAF (fun h=>?_) (fun h=>?_);have hlt:=hL.on hs h;rotate_left;obtain⟨a1,b1,e1⟩:=K.a (q:=.listL w []) (s:=s) ⟨hs,trivial⟩ (c:=2+sizes []) (rfl)
 try simp only[zK]at a1 b1 e1
 rotate_left
 all_goals
  (refine⟨?_,fun e he hk=>by cases he⟩<;>(try simp only[zAK,zAL,zd,zL,zO,zc,zK]at *)<;>omega)
theorem zTc (hL:Lst L) (K:Kz L R) {w:List UInt8} {acc:List Tr} (hp:Pre L (.listL w acc) s):Z s (cS (.listL w acc) s) (dS (.listL w acc)) (zF L R (.listL w acc) s):=by
 have hs:=hp.1;unfold zF cS dS;dsimp only;obtain⟨a1,b1,c1,d1,e1,f1⟩:=K.e (q:=.assign) (s:=s) ⟨hs,trivial⟩ rfl (c:=1) (d:=4) rfl rfl
 try simp only[zK]at a1 b1 c1 d1 e1 f1
 refine zAF (fun h=>?_) (fun h=>?_);rotate_left;refine zAF (fun h2=>?_) (fun h2=>?_);have hlt:=hL.on b1 h2;rotate_left;obtain⟨a2,b2,c2⟩:=zBW (s:=(R .assign s).2) (w:=[44]) hL (b1)
 try simp only[zK]at a2 b2 c2
 obtain⟨a3,b3,e3⟩:=K.a (q:=.listL w (acc++[(R .assign s).1])) (s:=zM L [44] (R .assign s).2) ⟨b2,trivial⟩ (c:=2+sizes (acc++[(R .assign s).1])) (rfl)
 try simp only[zK]at a3 b3 e3
 have hlt:s.k < L.length - 1:=by
  rcases Nat.lt_or_ge s.k (L.length - 1)with h5 | h5
  · exact h5
  · exact absurd (d1 (by omega)) h
 rotate_left
 all_goals
  (refine⟨?_,fun e he hk=>by cases he⟩<;>(try simp only[zAK,zAL,zd,zL,zO,zc,zK]at *)<;>omega)
theorem zUQ (hL:Lst L) (K:Kz L R) {acc:List Tr} (hp:Pre L (.objL acc) s):Z s (cS (.objL acc) s) (dS (.objL acc)) (zF L R (.objL acc) s):=by
 have hs:=hp.1;unfold zF cS dS;dsimp only;obtain⟨a1,b1,c1,d1,e1,f1⟩:=K.e (q:=.prop) (s:=s) ⟨hs,trivial⟩ rfl (c:=1) (d:=1) rfl rfl
 try simp only[zK]at a1 b1 c1 d1 e1 f1
 refine zAF (fun h=>?_) (fun h=>?_);rotate_left;refine zAF (fun h2=>?_) (fun h2=>?_);have hlt:=hL.on b1 h2;rotate_left;obtain⟨a2,b2,c2⟩:=zBW (s:=(R .prop s).2) (w:=[44]) hL (b1)
 try simp only[zK]at a2 b2 c2
 obtain⟨a3,b3,e3⟩:=K.a (q:=.objL (acc++[(R .prop s).1])) (s:=zM L [44] (R .prop s).2) ⟨b2,trivial⟩ (c:=2+sizes (acc++[(R .prop s).1])) (rfl)
 try simp only[zK]at a3 b3 e3
 have hlt:s.k < L.length - 1:=by
  rcases Nat.lt_or_ge s.k (L.length - 1)with h5 | h5
  · exact h5
  · exact absurd (d1 (by omega)) h
 rotate_left
 all_goals
  (refine⟨?_,fun e he hk=>by cases he⟩<;>(try simp only[zAK,zAL,zd,zL,zO,zc,zK]at *)<;>omega)
theorem zRM (hL:Lst L) (K:Kz L R) (hp:Pre L (.object) s):Z s (cS (.object) s) (dS (.object)) (zF L R (.object) s):=by
 have hs:=hp.1;unfold zF cS dS;dsimp only;refine zAF (fun h=>?_) (fun h=>?_);have hlt:=hL.on hs h;rotate_left;obtain⟨a1,b1,e1⟩:=K.a (q:=.objL []) (s:=s) ⟨hs,trivial⟩ (c:=2+sizes []) (rfl)
 try simp only[zK]at a1 b1 e1
 rotate_left
 all_goals
  (refine⟨?_,fun e he hk=>by cases he⟩<;>(try simp only[zAK,zAL,zd,zL,zO,zc,zK]at *)<;>omega)
theorem zOO (hL:Lst L) (K:Kz L R) (hp:Pre L (.primary) s):Z s (cS (.primary) s) (dS (.primary)) (zF L R (.primary) s):=by
 have hs:=hp.1;unfold zF cS dS;dsimp only;have hrf:(zV L s).k=L.length - 1:=rfl;have hff:(zCV L 6 s).k=L.length - 1:=rfl;refine zAF (fun h0=>?_) (fun h0=>?_);rotate_left;have hlt:=hL.lt hs h0;refine zAF (fun x13=>?_) (fun x13=>?_);rotate_left;refine zAF (fun x12=>?_) (fun x12=>?_);rotate_left;refine zAF (fun x11=>?_) (fun x11=>?_);rotate_left;refine zAF (fun x10=>?_) (fun x10=>?_);rotate_left;refine zAF (fun x9=>?_) (fun x9=>?_);rotate_left;refine zAF (fun x8=>?_) (fun x8=>?_);rotate_left;refine zAF (fun x7=>?_) (fun x7=>?_);rotate_left;refine zAF (fun x6=>?_) (fun x6=>?_);rotate_left;refine zAF (fun x5=>?_) (fun x5=>?_);obtain⟨a1,b1,e1⟩:=K.a (q:=.list [93]) (s:=zB s) ⟨by show s.k+1≤_;omega,trivial⟩ (c:=2) (rfl)
 try simp only[zK]at a1 b1 e1
 have h7:=zDN (R (.list [93]) (zB s)).1;rotate_left;refine zAF (fun x4=>?_) (fun x4=>?_);obtain⟨a2,b2,e2⟩:=K.a (q:=.object) (s:=zB s) ⟨by show s.k+1≤_;omega,trivial⟩ (c:=2) (rfl)
 try simp only[zK]at a2 b2 e2
 rotate_left;refine zAF (fun x3=>?_) (fun x3=>?_);refine zAF (fun h9=>?_) (fun h9=>?_);obtain⟨a3,b3,c3,d3⟩:=zGK (s:=zB s) hL (by show s.k+1≤_;omega)
 try simp only[zK]at a3 b3 c3 d3
 obtain⟨a4,b4,e4⟩:=K.a (q:=.func 41 (zW L (zB s)).1) (s:=(zW L (zB s)).2) ⟨b3,trivial⟩ (c:=3) (rfl)
 try simp only[zK]at a4 b4 e4
 rotate_left;obtain⟨a5,b5,e5⟩:=K.a (q:=.func 41 []) (s:=zB s) ⟨by show s.k+1≤_;omega,trivial⟩ (c:=3) (rfl)
 try simp only[zK]at a5 b5 e5
 rotate_left;refine zAF (fun x2=>?_) (fun x2=>?_);obtain⟨a6,b6,c6,d6,e6,f6⟩:=K.e (q:=.assign) (s:=zB s) ⟨by show s.k+1≤_;omega,trivial⟩ rfl (c:=1) (d:=4) rfl rfl
 try simp only[zK]at a6 b6 c6 d6 e6 f6
 obtain⟨a7,b7,c7⟩:=zBW (s:=(R .assign (zB s)).2) (w:=[41]) hL (b6)
 try simp only[zK]at a7 b7 c7
 rotate_left;obtain⟨s3,hs3⟩:∃x,(if(onP L [47] s || onP L [47,61] s)=true then zCV L 6 s else zV L s:Ps)=x:=⟨_,rfl⟩;have gs3:s3.k=L.length - 1:=by
  rw[←hs3];split<;>rfl
 rw[hs3];clear hs3;rotate_left
 all_goals
  (refine⟨?_,fun e he hk=>?_⟩<;>(try (injection he with he;subst he))<;>(try simp only[zAK,zAL,zd,zL,zO,zc,zK]at *)<;>omega)
theorem zUR (hL:Lst L) (K:Kz L R) (hp:Pre L (.prop) s):Z s (cS (.prop) s) (dS (.prop)) (zF L R (.prop) s):=by
 have hs:=hp.1;have hrf:(zV L s).k=L.length - 1:=rfl;unfold zF cS dS;dsimp only;split
 · (refine⟨?_,fun e he hk=>?_⟩<;>(try (injection he with he;subst he))<;>(try simp only[zAK,zAL,zd,zL,zO,zc,zK]at *)<;>omega)
 · rename_i u hu
   have hlt:=hL.lt hs (zCM hu);refine zAF (fun h=>?_) (fun h=>?_)
   · (refine⟨?_,fun e he hk=>?_⟩<;>(try (injection he with he;subst he))<;>(try simp only[zAK,zAL,zd,zL,zO,zc,zK]at *)<;>omega)
   · obtain⟨a1,b1,c1⟩:=zBW (s:=zB s) (w:=[58]) hL (by show s.k+1≤_;omega)
     try simp only[zK]at a1 b1 c1
     obtain⟨a2,b2,c2,d2,e2,f2⟩:=K.e (q:=.assign) (s:=zM L [58] (zB s)) ⟨b1,trivial⟩ rfl (c:=1) (d:=4) rfl rfl
     try simp only[zK]at a2 b2 c2 d2 e2 f2
     (refine⟨?_,fun e he hk=>?_⟩<;>(try (injection he with he;subst he))<;>(try simp only[zAK,zAL,zd,zL,zO,zc,zK]at *)<;>omega)
theorem zUx (hL:Lst L) (K:Kz L R) (q:Ph) (hp:Pre L q s):Z s (cS q s) (dS q) (zF L R q s):=by
 cases q with
 | program acc=>exact zON hL K hp
 | block=>exact zTT hL K hp
 | blockL acc=>exact zRC hL K hp
 | item=>exact zUF hL K hp
 | declares=>exact zLi hL K hp
 | declL k acc=>exact zTU hL K hp
 | func k n=>exact zUG hL K hp
 | params=>exact zRD hL K hp
 | paramL acc=>exact zRE hL K hp
 | statement=>exact zI2 hL K hp
 | simple=>exact zRF hL K hp
 | word w=>exact zUH hL K hp
 | within=>exact zRG hL K hp
 | clause w=>exact zRH hL K hp
 | loop=>exact zUI hL K hp
 | jump k=>exact zUJ hL K hp
 | tries=>exact zTV hL K hp
 | assign=>exact zRI hL K hp
 | body l=>exact zUK hL K hp
 | cond=>exact zUL hL K hp
 | either=>exact zRJ hL K hp
 | nullL x=>exact zTW hL K hp
 | orL x=>exact zUw hL K hp
 | both x=>exact zUM hL K hp
 | level n=>exact zTX hL K hp
 | levelL n x=>exact zRK hL K hp
 | unary=>exact zTY hL K hp
 | calls=>exact zTZ hL K hp
 | callsL x=>exact zRL hL K hp
 | head=>exact zUN hL K hp
 | headL x=>exact zTb hL K hp
 | args=>exact zUO hL K hp
 | list w=>exact zUP hL K hp
 | listL w acc=>exact zTc hL K hp
 | primary=>exact zOO hL K hp
 | object=>exact zRM hL K hp
 | objL acc=>exact zUQ hL K hp
 | prop=>exact zUR hL K hp
end
theorem zUS {L:List Tok} (hL:Lst L):∀f:Nat,Kz L (zCL L f):=by
 intro f
 induction f with
 | zero=>
  refine⟨fun q s hp=>zCB hL 0 q s hp,fun q s hp=>?_⟩;have h1:(zCL L 0 q s).1.size=1:=by show(trK 0 []).size=1;rw[zAK,zO]
  have h2:(zCL L 0 q s).2.k=L.length - 1:=rfl;have h3:=hp.1;have h4:1≤cS q s:=by
   unfold cS;cases q<;>dsimp only<;>(try omega)<;>(try exact zBm _)<;>(split<;>omega)
  have h5:∀e,dS q=some e→e≤6:=by
   intro e he;unfold dS at he;cases q<;>dsimp only at he<;>first | (injection he with he;omega) | cases he
  refine⟨by omega,fun e he hk=>?_⟩;have:=h5 e he;omega
 | succ f ih=>exact⟨fun q s hp=>zCB hL (f+1) q s hp,fun q s hp=>zUx hL ih q hp⟩
theorem zH2 {L:List Tok} (hL:Lst L) (h:L.length≤4097):(zG L (.program []) ⟨0,0,0⟩).1.size≤1000000:=by
 have h1:=(zUS hL (zf L (.program []) ⟨0,0,0⟩+1)).z (.program []) ⟨0,0,0⟩ ⟨yAF _,trivial⟩;have h2:=(zS hL (p:=.program []) (s:=⟨0,0,0⟩) ⟨yAF _,trivial⟩).adv.hi;have h3:=h1.1;unfold cS at h3;simp only[zO]at h3;unfold zG at h2⊢;omega
open Go.RowKit
theorem zOP (u:List UInt16):(zG (zCk u).1 (.program []) ⟨0,0,0⟩).1.size≤1000000:=by
 obtain⟨⟨L,a,e⟩,hL⟩:∃q,zCk u=q:=⟨_,rfl⟩;rw[hL];have h0:(zG [] (.program []) ⟨0,0,0⟩).1.size≤1000000:=by
  have:(zG [] (.program []) ⟨0,0,0⟩).1=trK 1 []:=rfl;rw[this,zAK,zO];omega
 by_cases hl:4096 < u.length
 · unfold zCk at hL;rw[if_pos hl]at hL;simp only[Prod.mk.injEq]at hL;rw[←hL.1];exact h0
 · by_cases he:e=0
   · subst he;refine zH2 (zEz hL) ?_;have h1:=zHy (u:=u) (by omega);rw[hL]at h1;exact yAE h1 (by omega)
   · have h1:=zQy (u:=u) (by omega) (by rw[hL];exact he);rw[hL]at h1;rw[show(L,a,e).1=[]from h1];exact h0
theorem zRN {A:Option Addr} {B n c:Nat} {u:List UInt16} {w:World} (hB:B≤w.heap.size) (hn:u.length=n) (ha:Reads w B 1 A n (zAM u)) (hc:n≤c) (hc2:c≤maxLen) (hT:Tab w):
 Calls prog 16 #[.slice A n c] w (ParseQ (zAg u) w):=zOM hB hn ha hc hc2 hT (zOP u)
theorem zE0 {A:Option Addr} {B n c m a e:Nat} {u:List UInt16} {ts:List Nd} {w:World} (hB:B≤w.heap.size) (hn:u.length=n) (ha:Reads w B 1 A n (zAM u)) (hc:n≤c) (hc2:c≤maxLen) (hT:Tab w) (hq:zAg u=(ts,a,e)) (hm:ts.length=m):
 Calls prog 16 #[.slice A n c] w (fun ev w'=>∃A' c',ev=.returned (.tuple #[.agg #[.slice A' m c'],.int .i64 (a:Int),.int .i64 (e:Int)])∧NdsR w' w'.heap.size A' m ts∧m≤c'∧c'≤maxLen∧Below w.heap.size w w'):=by
 have h:=zRN hB hn ha hc hc2 hT;rw[hq]at h;refine h.mono ?_;rintro ev w' ⟨A',n',c',h1,h2,h3,h4,h5⟩;have h6:n'=m:=by rw[←hm];exact h2.1.symm
 subst h6;exact⟨A',c',h1,h2,h3,h4,h5⟩
def exA:List UInt16:=zAo [97,10,43,43,98]
def okA (q:List Nd×Nat×Nat):Bool:=q.2.1==0&&q.2.2==0&&q.1.length==6&&(match q.1[3]? with | some x=>x.kind==3 | none=>false)&&(match q.1[4]? with | some x=>x.kind==44 | none=>false)
theorem zU8:okA (zAg exA)=true:=by decide+kernel
def zGL (u:List UInt16) (a e:Nat):Bool:=(zAg u).1.isEmpty&&(zAg u).2.1==a&&(zAg u).2.2==e
theorem zU9:zGL (zAo [97,32,63,63,32,98,32,124,124,32,99]) 7 5=true:=by decide+kernel
theorem zVA:zGL (zAo [49,32,61,32,50]) 2 5=true:=by decide+kernel
theorem zVB:zGL (zAo [118,97,114,32,120]) 0 6=true:=by decide+kernel
theorem zVC:zGL (zAo [120,32,61,32,47,97,47]) 4 6=true:=by decide+kernel
theorem zEG {u:List UInt16} {a e:Nat} (h:zGL u a e=true):zAg u=([],a,e):=by
 unfold zGL at h;simp only[Bool.and_eq_true,List.isEmpty_iff,beq_iff_eq]at h;obtain⟨⟨h1,h2⟩,h3⟩:=h;obtain⟨⟨x,y,z⟩,hq⟩:∃q,zAg u=q:=⟨_,rfl⟩;rw[hq]at h1 h2 h3⊢;simp only at h1 h2 h3;rw[h1,h2,h3]
theorem zDX {s:List UInt8} {a e:Nat} {w:World} (hl:s.length≤4000) (hp:zAg (zAo s)=([],a,e)) (hT:Tab w):
 Calls prog 33 #[.string ⟨s.toArray⟩,.int .i64 (a:Int),.int .i64 (e:Int)] w fun ev w'=>ev=.returned (.bool true)∧Below w.heap.size w w':=by
 obtain⟨u,hu⟩:∃u,zAo s=u:=⟨_,rfl⟩;have hul:u.length=s.length:=by rw[←hu];exact zCg s
 rw[hu]at hp;have HP:=zD hp;have HT:=zD hT;have ha:=zDW s w (by omega);rw[hu]at ha;have HA:=zD ha;have HUL:=zD hul;obtain⟨m,hm⟩:∃m,s.length=m:=⟨_,rfl⟩;rw[hm]at HA HUL;clear hp hT ha hul hu hl hm;go_enter func33,ntmps33;go_wp2_with fail;refine HA.out.mono ?_;rintro ev1 w1 ⟨A,c,rfl,ho,hg⟩;obtain⟨A',c',e1,h1,h2⟩:=zZ ho;injection e1 with eA _ e3;subst eA;subst e3;have hb1:Below w.heap.size w w1:=⟨hg.os,hg.tape,hg.output,hg.size,fun i hi=>hg.block i hi (by simp)⟩;have HB1:=zD hb1;have HQ:=zD (zE0 (u:=u) (yAD _) HUL.out (Reads.of_own ho) h1 h2 (HT.out.below HT.out.lt hb1) HP.out rfl);clear ho hg hb1 HA h1 h2;go_wp2_with fail;refine HQ.out.mono ?_;rintro ev2 w2 ⟨A2,c2,rfl,_,_,_,hb2⟩;have HB2:=zD (HB1.out.trans (hb2.mono HB1.out.size));clear hb2 HQ;have z1:(w2.alloc (.cells #[.slice A2 ([]:List Nd).length c2] 27)).cell? ⟨w2.heap.size,0,none⟩=some (.slice A2 ([]:List Nd).length c2):=(Bx.new w2 [.slice A2 ([]:List Nd).length c2] 27).cell 0;go_wp2_with fail;go_ret;refine⟨by simp,HB2.out.trans ?_⟩;exact((Below.refl _ _).alloc (yAD _) _:Below w2.heap.size w2 _).mono HB2.out.size
theorem zUT:∃ts x3 x4,zAg exA=(ts,0,0)∧ts.length=6∧ts[3]? =some x3∧x3.kind=3∧ts[4]? =some x4∧x4.kind=44:=by
 have h:=zU8;obtain⟨⟨ts,a,e⟩,hq⟩:∃q,zAg exA=q:=⟨_,rfl⟩;rw[hq]at h⊢;unfold okA at h;simp only[Bool.and_eq_true,beq_iff_eq]at h;obtain⟨⟨⟨⟨h1,h2⟩,h3⟩,h4⟩,h5⟩:=h;cases h6:ts[3]? with
 | none=>rw[h6]at h4;cases h4
 | some x3=>
  cases h7:ts[4]? with
  | none=>rw[h7]at h5;cases h5
  | some x4=>
   rw[h6]at h4;rw[h7]at h5;exact⟨ts,x3,x4,by rw[h1,h2],h3,h6,by simpa using h4,h7,by simpa using h5⟩
theorem zLj {w:World} (hT:Tab w):Calls prog 15 #[] w fun ev w'=>ev=.returned (.bool true)∧Below w.heap.size w w':=by
 obtain⟨ts,x3,x4,hp,hlen,hx3,hk3,hx4,hk4⟩:=zUT;obtain⟨u,hu⟩:∃u,exA=u:=⟨_,rfl⟩;have hul:u.length=5:=by rw[←hu];rfl
 have ha:=zDW [97,10,43,43,98] w (by decide);rw[show zAo [97,10,43,43,98]=u from hu]at ha;rw[hu]at hp;have HA:=zD (show Calls prog 32 #[.string ⟨#[97,10,43,43,98]⟩] w fun e w'=>∃A c,e=.returned (.slice A 5 c)∧w'.ownsRow 0 24 1 (.slice A 5 c) 5 (zAM u)∧w.grownBy w' none from ha);have HP:=zD hp;have HUL:=zD hul;have HL:=zD hlen;have HX3:=zD hx3;have HX4:=zD hx4;have HK3:=zD hk3;have HK4:=zD hk4;have HT:=zD hT;clear hp hul hlen hx3 hx4 hk3 hk4 hT ha hu;go_enter func15,ntmps15;go_wp2_with fail;refine HA.out.mono ?_;rintro ev1 w1 ⟨A,c,rfl,ho,hg⟩;obtain⟨A',c',e1,h1,h2⟩:=zZ ho;injection e1 with eA _ e3;subst eA;subst e3;have hb1:Below w.heap.size w w1:=⟨hg.os,hg.tape,hg.output,hg.size,fun i hi=>hg.block i hi (by simp)⟩;have HB1:=zD hb1;have HQ:=zD (zE0 (u:=u) (yAD _) HUL.out (Reads.of_own ho) h1 h2 (HT.out.below HT.out.lt hb1) HP.out HL.out);clear ho hg hb1 HA h1 h2;go_wp2_with fail;refine HQ.out.mono ?_;rintro ev2 w2 ⟨A2,c2,rfl,hN,hc2,_,hb2⟩;have HB2:=zD (HB1.out.trans (hb2.mono HB1.out.size));obtain⟨b,o,y3,s3,hA2,hbl,hy3,hc3,_⟩:=hN.get (i:=3) (by decide);obtain⟨b',o',y4,s4,hA3,_,hy4,hc4,_⟩:=hN.get (i:=4) (by decide);rw[HX3.out]at hy3;rw[HX4.out]at hy4;injection hy3 with hy3;injection hy4 with hy4;subst hy3 hy4;rw[hA2]at hA3;injection hA3 with hA3;injection hA3 with eb eo _;subst eb eo hA2;have q3:=hc3.k0;have q4:=hc4.k0;rw[HK3.out]at q3;rw[HK4.out]at q4;obtain⟨W3,hW3⟩:∃W3,w2.alloc (.cells #[.slice (some ⟨b,o,none⟩) 6 c2] 27)=W3:=⟨_,rfl⟩;have hg3:Below w2.heap.size w2 W3:=by rw[←hW3];exact(Below.refl _ _).alloc (yAD _) _
 obtain⟨T,hTt⟩:∃T,w2.heap.size=T:=⟨_,rfl⟩;have HBT:=zD (show Bx W3 T 27 [.slice (some ⟨b,o,none⟩) 6 c2] by rw[←hW3,←hTt];exact Bx.new w2 _ _);have r3:W3.cell? ⟨b,o+24,none⟩=some (.int .i64 3):=(hg3.cell (p:=⟨b,o+24,none⟩) hbl).trans q3;have r4:W3.cell? ⟨b,o+32,none⟩=some (.int .i64 44):=(hg3.cell (p:=⟨b,o+32,none⟩) hbl).trans q4;have HB3:=zD (HB2.out.trans (hg3.mono HB2.out.size));clear hN hc2 hb2 hbl hc3 hc4 q3 q4 hg3 HQ HB1 HB2;go_upto_region 2 with(fail);clear hW3 hTt;have zT:W3.cell? ⟨T,0,none⟩=some (.slice (some ⟨b,o,none⟩) 6 c2):=HBT.out.cell 0;have C1:=zD (fun(v:World) (hb:Below w.heap.size w v)=>zDX (s:=[97,32,63,63,32,98,32,124,124,32,99]) (w:=v) (by decide) (zEG zU9) (HT.out.below HT.out.lt hb));have C2:=zD (fun(v:World) (hb:Below w.heap.size w v)=>zDX (s:=[49,32,61,32,50]) (w:=v) (by decide) (zEG zVA) (HT.out.below HT.out.lt hb));have C3:=zD (fun(v:World) (hb:Below w.heap.size w v)=>zDX (s:=[118,97,114,32,120]) (w:=v) (by decide) (zEG zVB) (HT.out.below HT.out.lt hb));have C4:=zD (fun(v:World) (hb:Below w.heap.size w v)=>zDX (s:=[120,32,61,32,47,97,47]) (w:=v) (by decide) (zEG zVC) (HT.out.below HT.out.lt hb));go_wp2_with fail;refine(C1.out W3 HB3.out).mono ?_;rintro ea wa ⟨rfl,hba⟩;have HBa:=zD (HB3.out.trans (hba.mono HB3.out.size));clear hba;go_wp2_with fail;refine(C2.out wa HBa.out).mono ?_;rintro eb wb ⟨rfl,hbb⟩;have HBb:=zD (HBa.out.trans (hbb.mono HBa.out.size));clear hbb;go_wp2_with fail;refine(C3.out wb HBb.out).mono ?_;rintro ec wc ⟨rfl,hbc⟩;have HBc:=zD (HBb.out.trans (hbc.mono HBb.out.size));clear hbc;go_wp2_with fail;refine(C4.out wc HBc.out).mono ?_;rintro ed wd ⟨rfl,hbd⟩;have HBd:=zD (HBc.out.trans (hbd.mono HBc.out.size));clear hbd;go_wp2_with fail;go_ret;exact⟨rfl,HBd.out⟩
end Go.Proofs.YtlohaclgbfhijaaGreatDoor
