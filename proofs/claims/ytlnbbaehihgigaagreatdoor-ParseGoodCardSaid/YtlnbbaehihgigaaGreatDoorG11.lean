/- Joined for the claim ParseGood: the parser, the lexer and the trees as they are walked, made short by a program of mine. -/
import Derived.Test.YtlnbbaehihgigaaGreatDoorG10
import Derived.Deep.RegionLaw
import Derived.Deep.LoopGhost
import Derived.Deep.AppendLies
import Derived.Test.YtlnbbaehihgigaaGreatDoorG07
import Derived.Test.YtlnbbaehihgigaaGreatDoorG01
set_option maxHeartbeats 16000000
set_option maxRecDepth 1000000
namespace Go.Proofs.YtlnbbaehihgigaaGreatDoor
open Go.Proofs.Tryz
open Go.RowKit
variable {args:Array Value} {As Am:Option Addr} {nl:Bool} {W:World} {cs:List Value} {ps kd X r0 i j:Nat} {nk nn:Int} {v d0 d1 d2 d3 d4 d5 d6 d7 d8 v0 v1 v2 v3 v4 v5 v6 v7 v8:Value} {T:TypeId} {ops:Array Oper} {tx:List UInt8} {K:Act→World→Prop} {F:Nat→Prop} {rest:List Oper} {d:List Nat} {E:Prop} {x:Tr} {fn:Func}
def zKC (n:Nat):Int:=if n=9 then -1 else(n:Int)
theorem zW0 {b:List UInt16} {c:List Nat} {c1 c2:Nat}:Calls prog 168 #[.agg #[(5:Int),.string ⟨#[124]⟩,.slice As b.length c1,nk,nn,false,.slice Am c.length c2,ps,nl]] W fun e w'=>e=.returned (0:Int)∧W.grownBy w' none:=by
 go_enter func168,ntmps168;go_wp2_with fail;go_ret;exact⟨rfl,zF _ _ _⟩
theorem zW1 {b:List UInt16} {c:List Nat} {c1 c2:Nat}:Calls prog 168 #[.agg #[(5:Int),.string ⟨#[94]⟩,.slice As b.length c1,nk,nn,false,.slice Am c.length c2,ps,nl]] W fun e w'=>e=.returned (1:Int)∧W.grownBy w' none:=by
 go_enter func168,ntmps168;go_wp2_with fail;go_ret;exact⟨rfl,zF _ _ _⟩
theorem zW2 {b:List UInt16} {c:List Nat} {c1 c2:Nat}:Calls prog 168 #[.agg #[(5:Int),.string ⟨#[38]⟩,.slice As b.length c1,nk,nn,false,.slice Am c.length c2,ps,nl]] W fun e w'=>e=.returned (2:Int)∧W.grownBy w' none:=by
 go_enter func168,ntmps168;go_wp2_with fail;go_ret;exact⟨rfl,zF _ _ _⟩
theorem zW3 {b:List UInt16} {c:List Nat} {c1 c2:Nat}:Calls prog 168 #[.agg #[(5:Int),.string ⟨#[61,61]⟩,.slice As b.length c1,nk,nn,false,.slice Am c.length c2,ps,nl]] W fun e w'=>e=.returned (3:Int)∧W.grownBy w' none:=by
 go_enter func168,ntmps168;go_wp2_with fail;go_ret;exact⟨rfl,zF _ _ _⟩
theorem zW4 {b:List UInt16} {c:List Nat} {c1 c2:Nat}:Calls prog 168 #[.agg #[(5:Int),.string ⟨#[33,61]⟩,.slice As b.length c1,nk,nn,false,.slice Am c.length c2,ps,nl]] W fun e w'=>e=.returned (3:Int)∧W.grownBy w' none:=by
 go_enter func168,ntmps168;go_wp2_with fail;go_ret;exact⟨rfl,zF _ _ _⟩
theorem zW5 {b:List UInt16} {c:List Nat} {c1 c2:Nat}:Calls prog 168 #[.agg #[(5:Int),.string ⟨#[61,61,61]⟩,.slice As b.length c1,nk,nn,false,.slice Am c.length c2,ps,nl]] W fun e w'=>e=.returned (3:Int)∧W.grownBy w' none:=by
 go_enter func168,ntmps168;go_wp2_with fail;go_ret;exact⟨rfl,zF _ _ _⟩
theorem zW6 {b:List UInt16} {c:List Nat} {c1 c2:Nat}:Calls prog 168 #[.agg #[(5:Int),.string ⟨#[33,61,61]⟩,.slice As b.length c1,nk,nn,false,.slice Am c.length c2,ps,nl]] W fun e w'=>e=.returned (3:Int)∧W.grownBy w' none:=by
 go_enter func168,ntmps168;go_wp2_with fail;go_ret;exact⟨rfl,zF _ _ _⟩
theorem zW7 {b:List UInt16} {c:List Nat} {c1 c2:Nat}:Calls prog 168 #[.agg #[(5:Int),.string ⟨#[60]⟩,.slice As b.length c1,nk,nn,false,.slice Am c.length c2,ps,nl]] W fun e w'=>e=.returned (4:Int)∧W.grownBy w' none:=by
 go_enter func168,ntmps168;go_wp2_with fail;go_ret;exact⟨rfl,zF _ _ _⟩
theorem zW8 {b:List UInt16} {c:List Nat} {c1 c2:Nat}:Calls prog 168 #[.agg #[(5:Int),.string ⟨#[62]⟩,.slice As b.length c1,nk,nn,false,.slice Am c.length c2,ps,nl]] W fun e w'=>e=.returned (4:Int)∧W.grownBy w' none:=by
 go_enter func168,ntmps168;go_wp2_with fail;go_ret;exact⟨rfl,zF _ _ _⟩
theorem zW9 {b:List UInt16} {c:List Nat} {c1 c2:Nat}:Calls prog 168 #[.agg #[(5:Int),.string ⟨#[60,61]⟩,.slice As b.length c1,nk,nn,false,.slice Am c.length c2,ps,nl]] W fun e w'=>e=.returned (4:Int)∧W.grownBy w' none:=by
 go_enter func168,ntmps168;go_wp2_with fail;go_ret;exact⟨rfl,zF _ _ _⟩
theorem zT6 {b:List UInt16} {c:List Nat} {c1 c2:Nat}:Calls prog 168 #[.agg #[(5:Int),.string ⟨#[62,61]⟩,.slice As b.length c1,nk,nn,false,.slice Am c.length c2,ps,nl]] W fun e w'=>e=.returned (4:Int)∧W.grownBy w' none:=by
 go_enter func168,ntmps168;go_wp2_with fail;go_ret;exact⟨rfl,zF _ _ _⟩
theorem zT7 {b:List UInt16} {c:List Nat} {c1 c2:Nat}:Calls prog 168 #[.agg #[(5:Int),.string ⟨#[105,110]⟩,.slice As b.length c1,nk,nn,false,.slice Am c.length c2,ps,nl]] W fun e w'=>e=.returned (4:Int)∧W.grownBy w' none:=by
 go_enter func168,ntmps168;go_wp2_with fail;go_ret;exact⟨rfl,zF _ _ _⟩
theorem zT8 {b:List UInt16} {c:List Nat} {c1 c2:Nat}:Calls prog 168 #[.agg #[(5:Int),.string ⟨#[60,60]⟩,.slice As b.length c1,nk,nn,false,.slice Am c.length c2,ps,nl]] W fun e w'=>e=.returned (5:Int)∧W.grownBy w' none:=by
 go_enter func168,ntmps168;go_wp2_with fail;go_ret;exact⟨rfl,zF _ _ _⟩
theorem zT9 {b:List UInt16} {c:List Nat} {c1 c2:Nat}:Calls prog 168 #[.agg #[(5:Int),.string ⟨#[62,62]⟩,.slice As b.length c1,nk,nn,false,.slice Am c.length c2,ps,nl]] W fun e w'=>e=.returned (5:Int)∧W.grownBy w' none:=by
 go_enter func168,ntmps168;go_wp2_with fail;go_ret;exact⟨rfl,zF _ _ _⟩
theorem zUA {b:List UInt16} {c:List Nat} {c1 c2:Nat}:Calls prog 168 #[.agg #[(5:Int),.string ⟨#[62,62,62]⟩,.slice As b.length c1,nk,nn,false,.slice Am c.length c2,ps,nl]] W fun e w'=>e=.returned (5:Int)∧W.grownBy w' none:=by
 go_enter func168,ntmps168;go_wp2_with fail;go_ret;exact⟨rfl,zF _ _ _⟩
theorem zUB {b:List UInt16} {c:List Nat} {c1 c2:Nat}:Calls prog 168 #[.agg #[(5:Int),.string ⟨#[43]⟩,.slice As b.length c1,nk,nn,false,.slice Am c.length c2,ps,nl]] W fun e w'=>e=.returned (6:Int)∧W.grownBy w' none:=by
 go_enter func168,ntmps168;go_wp2_with fail;go_ret;exact⟨rfl,zF _ _ _⟩
theorem zUC {b:List UInt16} {c:List Nat} {c1 c2:Nat}:Calls prog 168 #[.agg #[(5:Int),.string ⟨#[45]⟩,.slice As b.length c1,nk,nn,false,.slice Am c.length c2,ps,nl]] W fun e w'=>e=.returned (6:Int)∧W.grownBy w' none:=by
 go_enter func168,ntmps168;go_wp2_with fail;go_ret;exact⟨rfl,zF _ _ _⟩
theorem zUD {b:List UInt16} {c:List Nat} {c1 c2:Nat}:Calls prog 168 #[.agg #[(5:Int),.string ⟨#[42]⟩,.slice As b.length c1,nk,nn,false,.slice Am c.length c2,ps,nl]] W fun e w'=>e=.returned (7:Int)∧W.grownBy w' none:=by
 go_enter func168,ntmps168;go_wp2_with fail;go_ret;exact⟨rfl,zF _ _ _⟩
theorem zUE {b:List UInt16} {c:List Nat} {c1 c2:Nat}:Calls prog 168 #[.agg #[(5:Int),.string ⟨#[47]⟩,.slice As b.length c1,nk,nn,false,.slice Am c.length c2,ps,nl]] W fun e w'=>e=.returned (7:Int)∧W.grownBy w' none:=by
 go_enter func168,ntmps168;go_wp2_with fail;go_ret;exact⟨rfl,zF _ _ _⟩
theorem zUF {b:List UInt16} {c:List Nat} {c1 c2:Nat}:Calls prog 168 #[.agg #[(5:Int),.string ⟨#[37]⟩,.slice As b.length c1,nk,nn,false,.slice Am c.length c2,ps,nl]] W fun e w'=>e=.returned (7:Int)∧W.grownBy w' none:=by
 go_enter func168,ntmps168;go_wp2_with fail;go_ret;exact⟨rfl,zF _ _ _⟩
theorem zNm {b:List UInt16} {c:List Nat} {c1 c2:Nat} (r:(tx==[124])=false) (s:(tx==[94])=false) (t:(tx==[38])=false) (u:(tx==[61,61])=false) (n4:(tx==[33,61])=false) (v:(tx==[61,61,61])=false) (y:(tx==[33,61,61])=false) (z:(tx==[60])=false) (A:(tx==[62])=false) (B:(tx==[60,61])=false) (d:(tx==[62,61])=false) (f:(tx==[105,110])=false) (g:(tx==[60,60])=false) (j:(tx==[62,62])=false) (k:(tx==[62,62,62])=false) (l:(tx==[43])=false) (m:(tx==[45])=false) (o:(tx==[42])=false) (p:(tx==[47])=false) (q:(tx==[37])=false):Calls prog 168 #[.agg #[(5:Int),tx,.slice As b.length c1,nk,nn,false,.slice Am c.length c2,ps,nl]] W fun e w'=>e=.returned (-1:Int)∧W.grownBy w' none:=by
 go_enter func168,ntmps168;go_wp2_with fail;go_ret;exact⟨rfl,zF _ _ _⟩
theorem zQ6 {c:List UInt16} {c1 c2:Nat} (hk:kd≠5) (hi:isT ⟨kd,tx,c,nk,nn,d,ps,nl⟩ [105,110]=false):Calls prog 168 #[.agg #[kd,tx,.slice As c.length c1,nk,nn,false,.slice Am d.length c2,ps,nl]] W fun e w'=>e=.returned (-1:Int)∧W.grownBy w' none:=by
 have e5:((kd:Int) !=5)=true:=by rw[bne_iff_ne];omega
 have g:=zA hi;clear hk hi;go_enter func168,ntmps168;go_wp2_with fail;refine(zDa [105,110] g).mono ?_;rintro e3 w3 ⟨rfl,b⟩;have f:=zA b;clear b;go_wp2_with fail;go_ret;exact⟨rfl,zC (zF _ _ _) f⟩
theorem zUG {c:List UInt16} {c1 c2:Nat}:Calls prog 168 #[.agg #[(6:Int),.string ⟨#[105,110]⟩,.slice As c.length c1,nk,nn,false,.slice Am d.length c2,ps,nl]] W fun e w'=>e=.returned (4:Int)∧W.grownBy w' none:=by
 obtain⟨V,f⟩:=jx (W.alloc (.cells #[(6:Int),.string ⟨#[105,110]⟩,.slice As c.length c1,nk,nn,false,.slice Am d.length c2,ps,nl] 80));have hg:=zA (show W.grownBy V none by rw[←f];exact zF _ _ _);have g:=zA (show Bx V W.heap.size 80 [(6:Int),.string ⟨#[105,110]⟩,.slice As c.length c1,nk,nn,false,.slice Am d.length c2,ps,nl] by rw[←f];exact Bx.new W [(6:Int),.string ⟨#[105,110]⟩,.slice As c.length c1,nk,nn,false,.slice Am d.length c2,ps,nl] 80);obtain⟨k,l,m,o,p,q,r,s,t⟩:=g.out.nine;go_enter func168,ntmps168;go_wp2_with fail;refine(zDa (kd:=6) (tx:=[105,110]) [105,110] rfl).mono ?_;rintro e3 w3 ⟨rfl,b⟩;have j:=zA b;obtain⟨u,v,y,z,A,B,C,D,E⟩:=(g.out.grown b js).nine;clear b;go_wp2_with fail;go_ret;exact⟨rfl,zC hg j⟩
theorem zMM {b:List UInt16} {c:List Nat} {c1 c2:Nat}:Calls prog 168 #[.agg #[kd,tx,.slice As b.length c1,nk,nn,false,.slice Am c.length c2,ps,nl]] W fun e w'=>e=.returned (zKC (zBE ⟨kd,tx,b,nk,nn,c,ps,nl⟩):Int)∧W.grownBy w' none:=by
 by_cases hk:kd=5
 · subst hk;have e:zBE ⟨5,tx,b,nk,nn,c,ps,nl⟩=zEe tx:=by unfold zBE;rw[if_pos (.inl rfl)]
   rw[e]
   by_cases r:tx=[124]
   · subst r;exact zW0
   by_cases s:tx=[94]
   · subst s;exact zW1
   by_cases t:tx=[38]
   · subst t;exact zW2
   by_cases u:tx=[61,61]
   · subst u;exact zW3
   by_cases n4:tx=[33,61]
   · subst n4;exact zW4
   by_cases v:tx=[61,61,61]
   · subst v;exact zW5
   by_cases y:tx=[33,61,61]
   · subst y;exact zW6
   by_cases z:tx=[60]
   · subst z;exact zW7
   by_cases A:tx=[62]
   · subst A;exact zW8
   by_cases B:tx=[60,61]
   · subst B;exact zW9
   by_cases d:tx=[62,61]
   · subst d;exact zT6
   by_cases f:tx=[105,110]
   · subst f;exact zT7
   by_cases g:tx=[60,60]
   · subst g;exact zT8
   by_cases j:tx=[62,62]
   · subst j;exact zT9
   by_cases k:tx=[62,62,62]
   · subst k;exact zUA
   by_cases l:tx=[43]
   · subst l;exact zUB
   by_cases m:tx=[45]
   · subst m;exact zUC
   by_cases o:tx=[42]
   · subst o;exact zUD
   by_cases p:tx=[47]
   · subst p;exact zUE
   by_cases q:tx=[37]
   · subst q;exact zUF
   have e2:zEe tx=9:=by unfold zEe;simp[r,s,t,u,n4,v,y,z,A,B,d,f,g,j,k,l,m,o,p,q]
   rw[e2];exact zNm (yA.2 r) (yA.2 s) (yA.2 t) (yA.2 u) (yA.2 n4) (yA.2 v) (yA.2 y) (yA.2 z) (yA.2 A) (yA.2 B) (yA.2 d) (yA.2 f) (yA.2 g) (yA.2 j) (yA.2 k) (yA.2 l) (yA.2 m) (yA.2 o) (yA.2 p) (yA.2 q)
 · by_cases hi:isT ⟨kd,tx,b,nk,nn,c,ps,nl⟩ [105,110]=true
   · have h6:kd=6∧tx=[105,110]:=by
      unfold isT at hi;simp at hi;exact⟨by omega,hi.1⟩
     obtain⟨rfl,rfl⟩:=h6;exact zUG
   · have C:isT ⟨kd,tx,b,nk,nn,c,ps,nl⟩ [105,110]=false:=by simpa using hi
     have e:zBE ⟨kd,tx,b,nk,nn,c,ps,nl⟩=9:=by
      unfold zBE;rw[if_neg];rintro(h | h)
      · exact hk h
      · exact hi h
     rw[e];exact zQ6 hk C
def NodR (C:Pc) (Q:Nat→Prop) (r:Tr×Ps) (w:World) (e:Ending) (w':World):Prop:=
 ∃d0 d1 d2 d3 d4 d5 d6 d7 d8,e=.returned (.agg #[d0,d1,d2,d3,d4,d5,d6,d7,d8])∧TrC w' (fun b=>Q b∨w.heap.size≤b) r.1 [d0,d1,d2,d3,d4,d5,d6,d7,d8]∧Pa C r.2 w'∧w.grownBy w' (some C.g)
def zVQ (C:Pc) (a:World) (r:Tr×Ps) (e:Ending) (w':World):Prop:=
 ∃d0 d1 d2 d3 d4 d5 d6 d7 d8,e=.returned (.agg #[d0,d1,d2,d3,d4,d5,d6,d7,d8])∧TrC w' (a.heap.size≤·) r.1 [d0,d1,d2,d3,d4,d5,d6,d7,d8]∧Pa C r.2 w'∧a.grownBy w' (some C.g)
def zo (C:Pc) (s:Ps) (w:World):Ph→Prop
 | .program []=>Calls prog 16 #[C] w (zDk C (zE C.L (.program []) s) w)
 | .block=>Calls prog 111 #[C] w (zDk C (zE C.L .block s) w)
 | .item=>Calls prog 34 #[C] w (zDk C (zE C.L .item s) w)
 | .declares=>Calls prog 68 #[C] w (zDk C (zE C.L .declares s) w)
 | .func k n=>Calls prog 72 #[C,k,n] w (zDk C (zE C.L (.func k n) s) w)
 | .params=>Calls prog 110 #[C] w (LstQ C (zE C.L .params s) w)
 | .statement=>Calls prog 73 #[C] w (zDk C (zE C.L .statement s) w)
 | .simple=>Calls prog 114 #[C] w (zDk C (zE C.L .simple s) w)
 | .word v=>Calls prog 113 #[C,v] w (zDk C (zE C.L (.word v) s) w)
 | .within=>Calls prog 136 #[C] w (zDk C (zE C.L .within s) w)
 | .clause v=>Calls prog 153 #[C,v] w (zDk C (zE C.L (.clause v) s) w)
 | .loop=>Calls prog 137 #[C] w (zDk C (zE C.L .loop s) w)
 | .jump k=>Calls prog 138 #[C,k] w (zDk C (zE C.L (.jump k) s) w)
 | .tries=>Calls prog 140 #[C] w (zDk C (zE C.L .tries s) w)
 | .assign=>Calls prog 106 #[C] w (zDk C (zE C.L .assign s) w)
 | .body l=>∀(a:World) (A:Option Addr) (n c:Nat),l.length=n→n≤4097→a.grownBy w (some C.g)→C.g < a.heap.size→RowP w (a.heap.size≤·) (.slice A n c) l→Calls prog 131 #[C,.slice A n c] w (zVQ C a (zE C.L (.body l) s))
 | .cond=>Calls prog 133 #[C] w (zDk C (zE C.L .cond s) w)
 | .either=>Calls prog 152 #[C] w (zDk C (zE C.L .either s) w)
 | .both x=>∀(Q:Nat→Prop) (d0 d1 d2 d3 d4 d5 d6 d7 d8:Value),(∀b,Q b→C.g < b)→TrC w Q x [d0,d1,d2,d3,d4,d5,d6,d7,d8]→Calls prog 161 #[C,.agg #[d0,d1,d2,d3,d4,d5,d6,d7,d8]] w (NodR C Q (zE C.L (.both x) s) w)
 | .level n=>Calls prog 160 #[C,n] w (zDk C (zE C.L (.level n) s) w)
 | .unary=>Calls prog 167 #[C] w (zDk C (zE C.L .unary s) w)
 | .calls=>Calls prog 171 #[C] w (zDk C (zE C.L .calls s) w)
 | .head=>Calls prog 172 #[C] w (zDk C (zE C.L .head s) w)
 | .args=>Calls prog 173 #[C] w (LstQ C (zE C.L .args s) w)
 | .list v=>Calls prog 176 #[C,v] w (LstQ C (zE C.L (.list v) s) w)
 | .primary=>Calls prog 175 #[C] w (zDk C (zE C.L .primary s) w)
 | .object=>Calls prog 177 #[C] w (zDk C (zE C.L .object s) w)
 | .prop=>Calls prog 178 #[C] w (zDk C (zE C.L .prop s) w)
 | _=>True
def KP (C:Pc) (N:Nat):Prop:=∀(q:Ph) (s:Ps) (w:World),Pre C.L q s→zk C.L q s < N→Pa C s w→zo C s w q
section
variable {C:Pc} {p q:Ph} {s s1:Ps} {w:World}
theorem KP.rank (K:KP C (zk C.L p s)) (b:Pre C.L q s1) (h:Pa C s1 w) (h1:s.k≤s1.k) (c:zr q s1 < zr p s):zo C s1 w q:=K q s1 w b (zI8 h1 c) h
theorem KP.more (K:KP C (zk C.L p s)) (b:Pre C.L q s1) (h:Pa C s1 w) (h1:s.k < s1.k):zo C s1 w q:=K q s1 w b (zI7 h1 b.1 h.cx.lst.pos) h
end
theorem TrC.sto {w:World} {t:Tr} {e0 e1 e2 e3 e4 e5 e6 e7 e8:Value} (h:TrC w F t [e0,e1,e2,e3,e4,e5,e6,e7,e8]):(∀(v:World) (a:Addr),(store a e0).run prog v=stored prog v a e0 .plain)∧(∀(v:World) (a:Addr),(store a e1).run prog v=stored prog v a e1 .plain)∧(∀(v:World) (a:Addr),(store a e2).run prog v=stored prog v a e2 .plain)∧(∀(v:World) (a:Addr),(store a e3).run prog v=stored prog v a e3 .plain)∧(∀(v:World) (a:Addr),(store a e4).run prog v=stored prog v a e4 .plain)∧(∀(v:World) (a:Addr),(store a e5).run prog v=stored prog v a e5 .plain)∧(∀(v:World) (a:Addr),(store a e6).run prog v=stored prog v a e6 .plain)∧(∀(v:World) (a:Addr),(store a e7).run prog v=stored prog v a e7 .plain)∧(∀(v:World) (a:Addr),(store a e8).run prog v=stored prog v a e8 .plain):=by
 have h1:=h.one;simp only[List.all_cons,List.all_nil,Bool.and_eq_true,Bool.and_true]at h1;obtain⟨b,h1,c,d,e,f,h6,g,j⟩:=h1;exact⟨fun v a=>run_store _ _ _ _ _ b,fun v a=>run_store _ _ _ _ _ h1,fun v a=>run_store _ _ _ _ _ c,fun v a=>run_store _ _ _ _ _ d,fun v a=>run_store _ _ _ _ _ e,fun v a=>run_store _ _ _ _ _ f,fun v a=>run_store _ _ _ _ _ h6,fun v a=>run_store _ _ _ _ _ g,fun v a=>run_store _ _ _ _ _ j⟩
theorem Bx.gg {w w':World} {R b:Nat} (h:Bx w R T cs) (hg:w.grownBy w' (some b)) (c:b≠R):Bx w' R T cs:=h.grown hg (by simpa using c)
def zH8:List Value:=[(0:Int),"",(),(0:Int),(0:Int),false,(),(),()]
structure FinN (C:Pc) (Q:Nat→Prop) (r:Tr×Ps) (w:World) (X:Nat) (d0 d1 d2 d3 d4 d5 d6 d7 d8:Value) (V:World):Prop where
 box:Bx V X 58 [d0,d1,d2,d3,d4,d5,d6,d7,d8]
 tree:TrC V (fun b=>Q b∨w.heap.size≤b) r.1 [d0,d1,d2,d3,d4,d5,d6,d7,d8]
 pa:Pa C r.2 V
 grown:w.grownBy V (some C.g)
theorem zUH {C:Pc} {Q:Nat→Prop} {r:Tr×Ps} {w:World} (hB:Bx W X 58 cs) (c:cs.length=9) (d:w.heap.size≤X) (l:C.g < X) (f:TrC W (fun b=>(Q b∨w.heap.size≤b)∧b≠X) r.1 [d0,d1,d2,d3,d4,d5,d6,d7,d8]) (j:Pa C r.2 W) (k:w.grownBy W (some C.g)):
 FinN C Q r w X d0 d1 d2 d3 d4 d5 d6 d7 d8 (((((((((W.setCell X d0).setCell ⟨X,1,none⟩ d1).setCell ⟨X,2,none⟩ d2).setCell ⟨X,3,none⟩ d3).setCell ⟨X,4,none⟩ d4).setCell ⟨X,5,none⟩ d5).setCell ⟨X,6,none⟩ d6).setCell ⟨X,7,none⟩ d7).setCell ⟨X,8,none⟩ d8):=by
 have hg:=zBr (w:=W) (R:=X) (v0:=d0) (v1:=d1) (v2:=d2) (v3:=d3) (v4:=d4) (v5:=d5) (v6:=d6) (v7:=d7) (v8:=d8);refine⟨hB.set9 c,?_,j.grown hg (fun b e=>by injection e with e;omega),zCK k d hg⟩;have h1:=TrC.keep hg (.box hB jd jd (fun h=>h.2 rfl)) _ _ f;exact .sub (fun b hb _=>hb.1) _ _ h1
theorem FinN.ans {C:Pc} {Q:Nat→Prop} {r:Tr×Ps} {w V:World} (h:FinN C Q r w X d0 d1 d2 d3 d4 d5 d6 d7 d8 V):NodR C Q r w (.returned (.agg #[d0,d1,d2,d3,d4,d5,d6,d7,d8])) V:=
 ⟨_,_,_,_,_,_,_,_,_,rfl,h.tree,h.pa,h.grown⟩
theorem zQ7 {P:Program} {f:Func} {b:Ending→World→Prop} {a:Act} {C:Pc} {Q:Nat→Prop} {r:Tr×Ps} {w:World} (h:FinN C Q r w X d0 d1 d2 d3 d4 d5 d6 d7 d8 W) (k:∀V,FinN C Q r w X d0 d1 d2 d3 d4 d5 d6 d7 d8 V→bodyPost P f b .ret a V):bodyPost P f b .ret a W:=k W h
structure PutN (T:TypeId) (C:Pc) (s:Ps) (w W:World) (R:Nat) (d0 d1 d2 d3 d4 d5 d6 d7 d8:Value) (V:World):Prop where
 box:Bx V R T [d0,d1,d2,d3,d4,d5,d6,d7,d8]
 pa:Pa C s V
 grown:w.grownBy V (some C.g)
 from_:W.grownBy V (some R)
theorem zUI {C:Pc} {s:Ps} {w:World} {R:Nat} (hB:Bx W R T cs) (c:cs.length=9) (d:w.heap.size≤R) (k:C.g < R) (f:Pa C s W) (j:w.grownBy W (some C.g)):
 PutN T C s w W R d0 d1 d2 d3 d4 d5 d6 d7 d8 (((((((((W.setCell R d0).setCell ⟨R,1,none⟩ d1).setCell ⟨R,2,none⟩ d2).setCell ⟨R,3,none⟩ d3).setCell ⟨R,4,none⟩ d4).setCell ⟨R,5,none⟩ d5).setCell ⟨R,6,none⟩ d6).setCell ⟨R,7,none⟩ d7).setCell ⟨R,8,none⟩ d8):=by
 have hg:=zBr (w:=W) (R:=R) (v0:=d0) (v1:=d1) (v2:=d2) (v3:=d3) (v4:=d4) (v5:=d5) (v6:=d6) (v7:=d7) (v8:=d8);exact⟨hB.set9 c,f.grown hg (fun b e=>by injection e with e;omega),zCK j d hg,hg⟩
theorem zMN {w3 b:World} {P:Nat→Prop} {l:List Tr} {n:Nat} (c:n=l.length) (h:TrsC w3 P l cs) (e:n≤4097) (d:P w3.heap.size) (hg:(w3.alloc (.cells cs.toArray 58)).grownBy b none):RowP b P (.slice (some ⟨w3.heap.size,0,none⟩) n n) l:=
 (RowP.lit c h d (by unfold maxLen;omega)).new hg
theorem zUJ {w3 b:World} {P:Nat→Prop} {y:Tr} {e0 e1 e2 e3 e4 e5 e6 e7 e8 a0 a1 a2 a3 a4 a5 a6 a7 a8:Value} (k:Int) (n:List UInt8) (h1:TrC w3 P x [e0,e1,e2,e3,e4,e5,e6,e7,e8]) (c:TrC w3 P y [a0,a1,a2,a3,a4,a5,a6,a7,a8]) (d:P w3.heap.size) (hg:(w3.alloc (.cells #[e0,e1,e2,e3,e4,e5,e6,e7,e8,a0,a1,a2,a3,a4,a5,a6,a7,a8] 58)).grownBy b none):TrC b P (trN k n [x,y]) (zZo k n (.slice (some ⟨w3.heap.size,0,none⟩) 2 2)):=
 (zMN (l:=[x,y]) (cs:=[e0,e1,e2,e3,e4,e5,e6,e7,e8]++[a0,a1,a2,a3,a4,a5,a6,a7,a8]) rfl (TrsC.cons h1 (.single c)) js d hg).treeN
theorem zUK {C:Pc} {s:Ps} {w:World} (_b:Pre C.L (.both x) s) (K:KP C (zk C.L (.both x) s)) (h:Pa C s w):zo C s w (.both x):=by
 intro Q d0 d1 d2 d3 d4 d5 d6 d7 d8 hQ ht;have U:=zA h.cx.lst;have e9:C.N≤4097:=h.cx.n4;have HQ:=zA hQ;have HK:=zA K;obtain⟨r,hr⟩:=jx (zE C.L (.both x) s);rw[hr];have HR:=zA hr;obtain⟨l,z⟩:=jx (w.alloc (.cells #[d0,d1,d2,d3,d4,d5,d6,d7,d8] 58));obtain⟨W,hW⟩:=jx (l.alloc (.cells #[(0:Int),"",(),(0:Int),(0:Int),false,(),(),()] 58));have A:w.grownBy l none:=by rw[←z];exact zF _ _ _
 have c:l.grownBy W none:=by rw[←hW];exact zF _ _ _
 have G:l.heap.size=w.heap.size+1:=by rw[←z];simp
 have H:Bx l w.heap.size 58 [d0,d1,d2,d3,d4,d5,d6,d7,d8]:=by rw[←z];exact Bx.new w [d0,d1,d2,d3,d4,d5,d6,d7,d8] _
 have I:Bx W (w.heap.size+1) 58 zH8:=by rw[←hW,←G];exact Bx.new l zH8 _
 obtain⟨R,B⟩:=jx w.heap.size;rw[B]at H I G;have g1:C.g < R:=by rw[←B];exact h.lt
 have Y:=zA (H.grown c js);have a9:=zA I;have b0:=zA ((h.new A).new c);have b1:=zA (zAd (zC A c) (some C.g));have b2:=zA (TrC.keep (zC A c) (.none_ _ _) _ _ (.sub (Q:=fun b=>Q b∧b < R) (fun b hb hl=>⟨hb,by omega⟩) _ _ ht));have J:=zA B;clear hr h ht hQ K H I A c;go_enter func161,ntmps161;go_upto_region 1 with(fail);clear hW z B G
 go_loopg [6] (C.L.length - s.k) (fun gk _ wr=>∃(j:Tr) (s':Ps) (e0 e1 e2 e3 e4 e5 e6 e7 e8:Value),C.L.length - s'.k≤gk∧s.k≤s'.k∧Hid (zE C.L (.both j) s'=r)∧Hid (Pa C s' wr)∧Hid (Bx wr R 58 [e0,e1,e2,e3,e4,e5,e6,e7,e8])∧Hid (Bx wr (R+1) 58 zH8)∧Hid (TrC wr (fun b=>(Q b∧b < R)∨R+1 < b) j [e0,e1,e2,e3,e4,e5,e6,e7,e8])∧Hid (w.grownBy wr (some C.g)))
 case atStart=>exact⟨x,s,d0,d1,d2,d3,d4,d5,d6,d7,d8,yAC _,yAC _,HR,b0,Y,a9,.sub (fun b hb _=>.inl hb) _ _ b2,b1⟩
 case round=>
  clear HR b0 Y a9 b2 b1;obtain⟨j,s',e0,e1,e2,e3,e4,e5,e6,e7,e8,g2,g3,b3,d,b4,b5,b6,b7⟩:=hrel
  by_cases m:onP C.L [38,38] s'=true
  · have M:=zA m;have O:=zA (U.out.on d.out.hi m);clear m;go_wp2_with fail;refine(zA9 d [38,38] M).mono ?_;rintro ev w1 ⟨rfl,o,c⟩;have D:=zA (show Pa C (zB s') w1 from o);have E:=zA (b4.out.grown c (by simp;omega));have f:=zA (b5.out.grown c (by simp;omega));have F:=zA (TrC.keep c (.box d.out.box jd jd (by
     rintro(h | h)
     · have:=HQ.out _ h.1;omega
     · omega)) _ _ b6)
    have P:=zA (zC b7 c);clear o c;have CL:=zA (show Calls prog 160 #[C,(0:Int)] w1.drew (zDk C (zE C.L (.level 0) (zB s')) w1.drew)from HK.out.more (q:=.level 0) (s1:=zB s') (w:=w1.drew) ⟨O,yAE _⟩ D.out.drew (by show s.k < s'.k+1;omega));obtain⟨z0,z1,z2,z3,z4,z5,z6,z7,z8⟩:=E.out.nine;have g4:=f.out.lt;have g5:=zA (show w1.heap.size≤w1.drew.heap.size from yAC _);go_wp2_with fail;go_region_law (first | (go_simp;go_at_call 160;(with_reducible refine CL.out.mono ?_);rintro g6 w3 ⟨a0,a1,a2,a3,a4,a5,a6,a7,a8,rfl,b8,b9,c0⟩;have c6:=zA b8;have c7:=zA b9;have t:=zA c0;clear b8 b9 c0;have c1:=zA (E.out.drew.grown t.out (by simp;omega));have c8:=zA (f.out.drew.grown t.out (by simp;omega));obtain⟨z0,z1,z2,z3,z4,z5,z6,z7,z8⟩:=c1.out.nine) | (go_simp;go_at_call 105;(with_reducible refine(zDM 47 ⟨#[38,38]⟩ (some ⟨w3.heap.size,0,none⟩) 2 2).mono ?_);rintro g7 w4 ⟨rfl,c2⟩;have u:=zA c2;clear c2;have y:=zA ((c1.out.alloc _).grown u.out js);obtain⟨z0,z1,z2,z3,z4,z5,z6,z7,z8⟩:=y.out.nine;obtain⟨f0,f1,f2,f3,f4,f5,f6,f7,f8⟩:=y.out.nineF))
    all_goals
     have f9:w1.heap.size≤w3.heap.size:=t.out.size;have X:=zA (zf U (p:=.level 0) (s:=zB s') ⟨O,yAE _⟩);have g0:=X.out.adv.le;have c3:=zA (TrC.sub (Q:=fun b=>(Q b∧b < R)∨R+1 < b) (fun b (hb:w1.heap.size≤b) _=>.inr jo) _ _ c6);have c4:=zA (TrC.keep t (.box D.out.drew.box jd jd (by
      rintro(h | h)
      · have:=HQ.out _ h.1;omega
      · omega)) _ _ (TrC.keep (zBT w1 none) (.none_ _ _) _ _ F))
     have HN:=zA (zUJ 47 [38,38] c4 c3 (.inr jo) u);have c9:=zA ((c7.out.alloc _).new u);have c5:=zA (zC P (zC (zBT _ _) (zC t (zAd (zC (zF _ _ _) u) _))));have d9:=zA ((c8.out.alloc _).grown u js);have S:=zA (show zE C.L (.both j) s'=zE C.L (.both (trN 47 [38,38] [j,(zE C.L (.level 0) (zB s')).1])) (zE C.L (.level 0) (zB s')).2 by
      rw[zV U.out ⟨d.out.hi,trivial⟩];unfold zD;dsimp only;rw[if_pos M.out])
     have g8:=y.out.lt;go_wp2_with fail;have T:=zUI (d0:=(47:Int)) (d1:=.string ⟨#[38,38]⟩) (d2:=()) (d3:=(0:Int)) (d4:=(0:Int)) (d5:=false) (d6:=()) (d7:=()) (d8:=.slice (some ⟨w3.heap.size,0,none⟩) 2 2) y rfl (by rw[J.out];exact yAC _) jo c9 c5
     go_roundg (C.L.length - (zE C.L (.level 0) (zB s')).2.k)
     case measure=>
      have:=O.out;have:(zB s').k=s'.k+1:=rfl;omega
     case rel=>
      refine⟨_,_,_,_,_,_,_,_,_,_,_,yAC _,?_,S.out.symm.trans b3,T.pa,T.box,d9.out.grown T.from_ js,TrC.keep T.from_ (.box y jd jd jo) _ _ HN,T.grown⟩;have:(zB s').k=s'.k+1:=rfl;omega
  · have M:=zA (show onP C.L [38,38] s'=false by simpa using m);clear m;go_wp2_with fail;refine(zA9 d [38,38] M).mono ?_;rintro ev w1 ⟨rfl,o,c⟩;have D:=zA (show Pa C s' w1 from o);have E:=zA (b4.out.grown c (by simp;omega));have f:=zA (b5.out.grown c (by simp;omega));have F:=zA (TrC.keep c (.box d.out.box jd jd (by
     rintro(h | h)
     · have:=HQ.out _ h.1;omega
     · omega)) _ _ b6)
    have P:=zA (zC b7 c);clear o c;obtain⟨z0,z1,z2,z3,z4,z5,z6,z7,z8⟩:=E.out.nine;obtain⟨y0,y1,y2,y3,y4,y5,y6,y7,y8⟩:=f.out.nine;obtain⟨f0,f1,f2,f3,f4,f5,f6,f7,f8⟩:=f.out.nineF;obtain⟨s0,s1,s2,s3,s4,s5,s6,s7,s8⟩:=F.out.sto;have S:=zA (show zE C.L (.both j) s'=(j,s') by
     rw[zV U.out ⟨d.out.hi,trivial⟩];unfold zD;dsimp only;rw[if_neg (by rw[M.out];decide)])
    go_wp2_with fail;refine zQ7 (zUH (Q:=Q) (r:=(j,s')) f rfl (by rw[J.out];omega) jo (.sub (fun b hb _=>?_) _ _ F) D P) ?_
    · rw[J.out];rcases hb with hb | hb
      · exact⟨.inl hb.1,by omega⟩
      · exact⟨.inr jo,by omega⟩
    intro V hv;obtain⟨q0,q1,q2,q3,q4,q5,q6,q7,q8⟩:=hv.box.nine;refine bodyPost_ret (v:=.agg #[e0,e1,e2,e3,e4,e5,e6,e7,e8]) (by simp[results,results161,go_sem,q0,q1,q2,q3,q4,q5,q6,q7,q8]) rfl ?_;have e:r=(j,s'):=b3.out.symm.trans S;rw[e];exact hv.ans
theorem RowP.lt {w:World} {P:Nat→Prop} {l:List Tr} (h:RowP w P v l):∀b,v.ownBlock=some b→P b∧b < w.heap.size:=by
 obtain⟨ks,F,h⟩:=h;exact fun b hb=>⟨h.blk b hb,(h.own.lt b hb).2⟩
theorem RowP.bounds {w:World} {P:Nat→Prop} {A:Option Addr} {n c:Nat} {l:List Tr} (h:RowP w P (.slice A n c) l):l.length=n∧n≤c∧c≤maxLen:=by
 obtain⟨d,f,e,h1,b⟩:=h.shape;injection e with e1 e2 e3;subst e2 e3;exact⟨rfl,h1,b⟩
theorem RowP.fz {w:World} {P Q:Nat→Prop} {l:List Tr} (h:RowP w P v l) (c:∀b,P b→b < w.heap.size→¬Q b):Fz w Q v.ownBlock:=by
 obtain⟨ks,F,h⟩:=h;exact .own h.own fun b hb=>c b (h.blk b hb) (h.own.lt b hb).2
theorem Bx.row {w w':World} {R:Nat} {P:Nat→Prop} {l:List Tr} (h:Bx w R T cs) (b:RowP w P v l) (c:¬P R) (hg:w.grownBy w' v.ownBlock):Bx w' R T cs:=
 h.grown hg (fun e=>c (b.lt R e).1)
theorem Pa.row {C:Pc} {s:Ps} {w w':World} {P:Nat→Prop} {l:List Tr} (h:Pa C s w) (c:RowP w P v l) (d:∀b,P b→C.g < b) (hg:w.grownBy w' v.ownBlock):Pa C s w':=
 h.grown hg (fun b hb=>d b (c.lt b hb).1)
theorem zH9 {a w w':World} {r:Option Nat} {P:Nat→Prop} {l:List Tr} (h:a.grownBy w r) (c:RowP w P v l) (d:∀b,P b→a.heap.size≤b) (hg:w.grownBy w' v.ownBlock):a.grownBy w' r:=
 zKA h (fun b hb=>d b (c.lt b hb).1) hg
theorem zMO {w1 w':World} {P Q:Nat→Prop} {A:Option Addr} {n cp d:Nat} {l:List Tr} {t:Tr} {ks c:List Value} {g:Nat} (j:l.length=n) (h:RowK w1 P (.slice A n cp) l ks F) (k:TrC w1 Q t c) (m:∀b,Q b→b < w1.heap.size→P b) (f:∀b,(Value.slice A n cp).ownBlock=some b→¬Q b) (o:P w1.heap.size)
 (p:w'.ownsRow 0 58 9 (.slice (some ⟨g,0,none⟩) (n+1) d) (n+1) (ks++c)) (hg:w1.grownBy w' (Value.slice A n cp).ownBlock) (q:(Value.slice A n cp).ownBlock=some g∨g=w1.heap.size):RowP w' P (.slice (some ⟨g,0,none⟩) (n+1) d) (l++[t]):=by
 subst j;refine h.snoc k m f o p hg ?_;rcases q with e | e
 · exact .inl e.symm
 · subst e;exact .inr rfl
section
variable {Pg:Program} {o:Oper} {a:Act} {w1:World} {Px Q:Nat→Prop} {A:Option Addr} {n cp:Nat} {l:List Tr} {t:Tr} {c0 c1 c2 c3 c4 c5 c6 c7 c8:Value}
theorem zKD {z:Exit→Act→World→Prop} (j:o.guard=none) (s x:Operand)
 (B:o.op=.call {callee:=.builtin .append,args:=#[s,x],argTypes:=#[56,56]})
 (hs:a.eval s=.slice A n cp) (hn:l.length=n) (hr:RowP w1 Px (.slice A n cp) l) (ht:TrC w1 Q t [c0,c1,c2,c3,c4,c5,c6,c7,c8]) (hQ:∀b,Q b→b < w1.heap.size→Px b) (hQv:∀b,(Value.slice A n cp).ownBlock=some b→¬Q b) (hP:Px (w1.heap.size+1)) (f:n≤4097)
 (hx:a.eval x=.slice (some ⟨w1.heap.size,0,none⟩) 1 1)
 (h:∀k c w',RowP w' Px (.slice k (n+1) c) (l++[t])→(w1.alloc (.cells #[c0,c1,c2,c3,c4,c5,c6,c7,c8] 58)).grownBy w' (Value.slice A n cp).ownBlock→K (a.put o.dst (.slice k (n+1) c)) w'):
 if Region.wanted o (yielded ops a.tmps)=true then Oper.wp prog o a (w1.alloc (.cells #[c0,c1,c2,c3,c4,c5,c6,c7,c8] 58)) K z else E:=by
 obtain⟨ks,F,hk⟩:=hr;obtain⟨i,hi,m,p,q⟩:=info_parts Tryz.info_pnode;have d:=hk.keep (zF w1 (.cells #[c0,c1,c2,c3,c4,c5,c6,c7,c8] 58) none) (.none_ w1 Px);have r:TrC w1 (fun b=>Q b∧b < w1.heap.size) t [c0,c1,c2,c3,c4,c5,c6,c7,c8]:=.sub (fun b hb f=>⟨hb,f⟩) _ _ ht;have v:=TrC.keep (zF w1 (.cells #[c0,c1,c2,c3,c4,c5,c6,c7,c8] 58) none) (.none_ _ _) _ _ r;have e:=d.own;rw[hn]at e;refine step_append_lies (w1.alloc (.cells #[c0,c1,c2,c3,c4,c5,c6,c7,c8] 58)) j s x 56 B 0 58 i _ 9 144 underlying56 hi m p q rfl jd (.slice A n cp) n ks hs e ⟨w1.heap.size,0,none⟩ 1 1 [c0,c1,c2,c3,c4,c5,c6,c7,c8] hx rfl (World.news_of_block (Bx.new w1 [c0,c1,c2,c3,c4,c5,c6,c7,c8] 58)) (fun u C=>List.all_eq_true.1 ht.one u C) jd (by unfold maxLen;omega) jo (yAE _) _ rfl ?_;intro g cap w' D y G _;exact h _ _ w' (zMO hn d v (fun b hb f=>hQ b hb.1 hb.2) (fun b hb H=>hQv b hb H.1) (by simpa using hP) D y G) y
theorem zEx {j:Exit→Act→World→Prop} (k:o.guard=none) (s x:Operand)
 (B:o.op=.call {callee:=.builtin .append,args:=#[s,x],argTypes:=#[56,56]})
 (hs:a.eval s=.slice A n cp) (hn:l.length=n) (hr:RowP w1 Px (.slice A n cp) l) (ht:TrC w1 Q t [c0,c1,c2,c3,c4,c5,c6,c7,c8]) (hQ:∀b,Q b→b < w1.heap.size→Px b) (hQv:∀b,(Value.slice A n cp).ownBlock=some b→¬Q b) (hP:Px (w1.heap.size+1)) (f:n≤4097)
 (hx:a.eval x=.slice (some ⟨w1.heap.size,0,none⟩) 1 1)
 (h:∀m c w',RowP w' Px (.slice m (n+1) c) (l++[t])→(w1.alloc (.cells #[c0,c1,c2,c3,c4,c5,c6,c7,c8] 58)).grownBy w' (Value.slice A n cp).ownBlock→wpList prog ops j rest (a.put o.dst (.slice m (n+1) c)) w'):
 wpList prog ops j (o::rest) a (w1.alloc (.cells #[c0,c1,c2,c3,c4,c5,c6,c7,c8] 58)):=by
 obtain⟨ks,F,hk⟩:=hr;obtain⟨i,hi,p,q,r⟩:=info_parts Tryz.info_pnode;have d:=hk.keep (zF w1 (.cells #[c0,c1,c2,c3,c4,c5,c6,c7,c8] 58) none) (.none_ w1 Px);have v:TrC w1 (fun b=>Q b∧b < w1.heap.size) t [c0,c1,c2,c3,c4,c5,c6,c7,c8]:=.sub (fun b hb f=>⟨hb,f⟩) _ _ ht;have y:=TrC.keep (zF w1 (.cells #[c0,c1,c2,c3,c4,c5,c6,c7,c8] 58) none) (.none_ _ _) _ _ v;have e:=d.own;rw[hn]at e;refine wpList_append_lies (w1.alloc (.cells #[c0,c1,c2,c3,c4,c5,c6,c7,c8] 58)) k s x 56 B 0 58 i _ 9 144 underlying56 hi p q r rfl jd (.slice A n cp) n ks hs e ⟨w1.heap.size,0,none⟩ 1 1 [c0,c1,c2,c3,c4,c5,c6,c7,c8] hx rfl (World.news_of_block (Bx.new w1 [c0,c1,c2,c3,c4,c5,c6,c7,c8] 58)) (fun u C=>List.all_eq_true.1 ht.one u C) jd (by unfold maxLen;omega) jo (yAE _) _ rfl ?_;intro g cap w' D z E _;exact h _ _ w' (zMO hn d y (fun b hb f=>hQ b hb.1 hb.2) (fun b hb G=>hQv b hb G.1) (by simpa using hP) D z E) z
end
inductive Ob where
 | bx (R:Nat) (T:TypeId) (cs:List Value)
 | tr (t:Tr) (cs:List Value)
 | tn (lo:Nat) (t:Tr) (cs:List Value)
 | ro (v:Value) (l:List Tr)
 | rn (hi:Nat) (v:Value) (l:List Tr)
 | lf (T:TypeId) (v:Value) (n:Nat) (xs:List Value)
 | vs (cs:List Value)
def Ob.blk:Ob→Option Nat
 | .bx R _ _=>some R
 | _=>none
def Ob.cells:Ob→List Value
 | .tr _ cs=>cs
 | .tn _ _ cs=>cs
 | .vs cs=>cs
 | .bx _ _ cs=>cs
 | _=>[]
def Ob.Ok (D:List Nat) (P:Nat→Prop) (w:World):Ob→Prop
 | .bx R T cs=>Bx w R T cs∧R∈D∧T≠65∧T≠67
 | .tr t cs=>TrC w P t cs
 | .tn lo t cs=>TrC w (fun b=>P b∧lo≤b) t cs∧lo≤w.heap.size
 | .ro v l=>RowP w P v l
 | .rn hi v l=>RowP w (fun b=>P b∧b < hi) v l
 | .lf T v n xs=>(T=65∨T=67)∧w.ownsRow 0 T 1 v n xs
 | .vs _=>True
def Off (B:Nat→Prop) (D:List Nat) (b:Nat):Prop:=B b∧b∉D
structure FrR (C:Pc) (B:Nat→Prop) (a:World) (D:List Nat) (os:List Ob) (s:Ps) (w:World):Prop where
 pa:Pa C s w
 gr:a.grownBy w (some C.g)
 bl:∀b,B b→C.g < b
 bh:∀b,a.heap.size≤b→B b
 ds:∀b∈D,a.heap.size≤b∧b < w.heap.size
 nd:∀(i j:Nat) (x y:Ob) (R:Nat),os[i]? =some x→os[j]? =some y→x.blk=some R→y.blk=some R→i=j
 ob:∀(i:Nat) (x:Ob),os[i]? =some x→x.Ok D (Off B D) w
structure Fr (C:Pc) (B:Nat→Prop) (a:World) (D:List Nat) (os:List Ob) (s:Ps) (w:World):Prop where
 out:FrR C B a D os s w
theorem Ob.Ok.keep {D:List Nat} {P:Nat→Prop} {w w':World} {r:Option Nat} {o:Ob} (h:o.Ok D P w) (hg:w.grownBy w' r) (c:Fz w P r) (d:∀R,o.blk=some R→r≠some R):o.Ok D P w':=by
 cases o with
 | bx R T cs=>exact⟨h.1.grown hg (d R rfl),h.2⟩
 | tr t cs=>exact TrC.keep hg c _ _ h
 | tn lo t cs=>exact⟨TrC.keep hg (c.less fun b hb=>hb.1) _ _ h.1,yAD h.2 hg.size⟩
 | ro v l=>exact RowP.keep h hg c
 | rn hi v l=>exact RowP.keep h hg (c.less fun b hb=>hb.1)
 | lf T v n xs=>exact⟨h.1,zCJ h.2 h.1 hg c⟩
 | vs cs=>trivial
theorem Ob.Ok.sub {D E:List Nat} {P Q:Nat→Prop} {w:World} {o:Ob} (h:o.Ok D P w) (hs:∀b,P b→b < w.heap.size→Q b) (d:∀b∈D,b∈E):o.Ok E Q w:=by
 cases o with
 | bx R T cs=>exact⟨h.1,d R h.2.1,h.2.2⟩
 | tr t cs=>exact TrC.sub hs _ _ h
 | tn lo t cs=>exact⟨TrC.sub (fun b hb c=>⟨hs b hb.1 c,hb.2⟩) _ _ h.1,h.2⟩
 | ro v l=>exact RowP.sub h hs
 | rn hi v l=>exact RowP.sub h fun b hb c=>⟨hs b hb.1 c,hb.2⟩
 | lf T v n xs=>exact h
 | vs cs=>trivial
theorem zEy {l:List Ob} {x:Ob} {y:Ob} (h:(l++[x])[i]? =some y):(i < l.length∧l[i]? =some y)∨(i=l.length∧y=x):=by
 rcases Nat.lt_or_ge i l.length with h1 | h1
 · rw[List.getElem?_append_left h1]at h;exact .inl ⟨h1,h⟩
 · rw[List.getElem?_append_right h1]at h;rcases Nat.eq_or_lt_of_le h1 with b | b
   · rw[b,Nat.sub_self]at h;simp at h;exact .inr ⟨b.symm,h.symm⟩
   · rw[List.getElem?_eq_none (by simp;omega)]at h;cases h
section
variable {C:Pc} {B:Nat→Prop} {a:World} {D:List Nat} {os:List Ob} {s s':Ps} {w w':World} {rr:Option Nat}
theorem FrR.lt (F:FrR C B a D os s w):C.g < a.heap.size:=F.bl _ (F.bh _ (yAC _))
theorem FrR.off (F:FrR C B a D os s w) {b:Nat} (h:w.heap.size≤b):Off B D b:=⟨F.bh b (yAD F.gr.size h),fun c=>by have:=(F.ds b c).2;omega⟩
theorem FrR.go' (F:FrR C B a D os s w) (j:Pa C s' w') (hg:w.grownBy w' rr) (d:rr=none∨rr=some C.g):FrR C B a D os s' w':=by
 have k:Fz w (Off B D) rr:=by
  rcases d with rfl | rfl
  · exact .none_ _ _
  · exact .box F.pa.box jd jd (fun h=>by have:=F.bl _ h.1;omega)
 refine⟨j,zC F.gr ?_,F.bl,F.bh,fun b hb=>⟨(F.ds b hb).1,yAA (F.ds b hb).2 hg.size⟩,F.nd,fun i x f=>(F.ob i x f).keep hg k ?_⟩
 · rcases d with rfl | rfl
   · exact zAd hg _
   · exact hg
 · intro R c e;have h1:=F.ob i x f;rcases d with rfl | rfl
   · cases e
   · injection e with e;cases x with
     | bx R' T cs=>injection c with c;subst c;have:=(F.ds _ h1.2.1).1;have:=F.lt;omega
     | _=>cases c
theorem FrR.snoc (F:FrR C B a D os s w) {x:Ob} (e:x.blk=none) (h:x.Ok D (Off B D) w):FrR C B a D (os++[x]) s w:=by
 refine⟨F.pa,F.gr,F.bl,F.bh,F.ds,?_,?_⟩
 · intro i j y z R h1 b c d;rcases zEy h1 with⟨_,h1⟩ | ⟨rfl,rfl⟩
   · rcases zEy b with⟨_,b⟩ | ⟨rfl,rfl⟩
     · exact F.nd i j y z R h1 b c d
     · rw[e]at d;cases d
   · rw[e]at c;cases c
 · intro i y h1;rcases zEy h1 with⟨_,h1⟩ | ⟨rfl,rfl⟩
   · exact F.ob i y h1
   · exact h
theorem Fr.n (F:Fr C B a D os s w) (hg:w.grownBy w' none):Fr C B a D os s w':=.mk (F.out.go' (F.out.pa.new hg) hg (.inl rfl))
theorem Fr.m (F:Fr C B a D os s w) (b:Pa C s' w') (hg:w.grownBy w' (some C.g)):Fr C B a D os s' w':=.mk (F.out.go' b hg (.inr rfl))
theorem Fr.dr (F:Fr C B a D os s w):Fr C B a D os s w.drew:=F.n (zBT w none)
theorem Fr.P (F:Fr C B a D os s w):Pa C s w:=F.out.pa
theorem Fr.box (F:Fr C B a D os s w) (cs:List Value) (T:TypeId) {R:Nat} (g:w.heap.size=R) (h1:T≠65) (k:T≠67):Fr C B a (R::D) (os++[.bx R T cs]) s (w.alloc (.cells cs.toArray T)):=by
 subst g;have G:=F.out;have hg:=zF w (.cells cs.toArray T) none;have hs:w.heap.size < (w.alloc (.cells cs.toArray T)).heap.size:=by simp
 refine .mk ⟨G.pa.new hg,zC G.gr (zAd hg _),G.bl,G.bh,?_,?_,?_⟩
 · intro b hb;rcases List.mem_cons.1 hb with rfl | hb
   · exact⟨G.gr.size,hs⟩
   · exact⟨(G.ds b hb).1,Nat.lt_trans (G.ds b hb).2 hs⟩
 · have f:∀(i:Nat) (y:Ob) (R:Nat),os[i]? =some y→y.blk=some R→R < w.heap.size:=by
    intro i y R d c;have e:=G.ob i y d;cases y with
    | bx R' m l=>injection c with c;subst c;exact(G.ds _ e.2.1).2
    | _=>cases c
   intro i j y z R d c e h6;rcases zEy d with⟨_,d⟩ | ⟨rfl,rfl⟩
   · rcases zEy c with⟨_,c⟩ | ⟨rfl,rfl⟩
     · exact G.nd i j y z R d c e h6
     · injection h6 with h6;have:=f _ _ _ d e;omega
   · rcases zEy c with⟨_,c⟩ | ⟨rfl,rfl⟩
     · injection e with e;have:=f _ _ _ c h6;omega
     · rfl
 · intro i y d;rcases zEy d with⟨_,d⟩ | ⟨rfl,rfl⟩
   · refine((G.ob i y d).sub (E:=w.heap.size::D) (Q:=Off B (w.heap.size::D)) ?_ (fun b hb=>List.mem_cons_of_mem _ hb)).keep hg (.none_ _ _) (fun R _=>by simp);intro b hb o;refine⟨hb.1,fun c=>?_⟩;rcases List.mem_cons.1 c with rfl | c
     · omega
     · exact hb.2 c
   · exact⟨Bx.new w cs T,by simp,h1,k⟩
theorem Fr.bt (F:Fr C B a D os s w) (i:Nat) (T:TypeId) {R:Nat} {x:Ob} (b:w.heap.size=R) (_b:os[i]? =some x:=by rfl) (_hc:x.cells=[d0,d1,d2,d3,d4,d5,d6,d7,d8]:=by rfl) (h1:T≠65:=by decide) (h2:T≠67:=by decide):Fr C B a (R::D) (os++[.bx R T [d0,d1,d2,d3,d4,d5,d6,d7,d8]]) s (w.alloc (.cells #[d0,d1,d2,d3,d4,d5,d6,d7,d8] T)):=F.box [d0,d1,d2,d3,d4,d5,d6,d7,d8] T b h1 h2
theorem Fr.b (F:Fr C B a D os s w) (i:Nat) {R:Nat} (h:os[i]? =some (.bx R T cs):=by rfl):Bx w R T cs:=(F.out.ob i _ h).1
theorem Fr.c (F:Fr C B a D os s w) (i:Nat) {R:Nat} (h:os[i]? =some (.bx R T [v0,v1,v2,v3,v4,v5,v6,v7,v8]):=by rfl):w.cell? R=some v0∧w.cell? ⟨R,1,none⟩=some v1∧w.cell? ⟨R,2,none⟩=some v2∧w.cell? ⟨R,3,none⟩=some v3∧w.cell? ⟨R,4,none⟩=some v4∧w.cell? ⟨R,5,none⟩=some v5∧w.cell? ⟨R,6,none⟩=some v6∧w.cell? ⟨R,7,none⟩=some v7∧w.cell? ⟨R,8,none⟩=some v8:=(F.b i h).nine
theorem Fr.f (F:Fr C B a D os s w) (i:Nat) {R:Nat} (h:os[i]? =some (.bx R T cs):=by rfl):w.frozen? R=false∧w.frozen? ⟨R,1,none⟩=false∧w.frozen? ⟨R,2,none⟩=false∧w.frozen? ⟨R,3,none⟩=false∧w.frozen? ⟨R,4,none⟩=false∧w.frozen? ⟨R,5,none⟩=false∧w.frozen? ⟨R,6,none⟩=false∧w.frozen? ⟨R,7,none⟩=false∧w.frozen? ⟨R,8,none⟩=false:=(F.b i h).nineF
theorem Fr.t (F:Fr C B a D os s w) (i:Nat) {t:Tr} (h:os[i]? =some (.tr t cs):=by rfl):TrC w (Off B D) t cs:=F.out.ob i _ h
theorem Fr.r (F:Fr C B a D os s w) (i:Nat) {l:List Tr} (h:os[i]? =some (.ro v l):=by rfl):RowP w (Off B D) v l:=F.out.ob i _ h
theorem Fr.k1 (F:Fr C B a D os s w):w.cell? ⟨C.g,1,none⟩=some (.int .i64 (s.k:Int))∧w.frozen? ⟨C.g,1,none⟩=false∧s.k < C.N:=⟨F.P.c1,F.P.f 1,F.P.kN⟩
theorem Fr.step (F:Fr C B a D os s w) (hk:s.k < C.L.length - 1):Fr C B a D os (zB s) (w.setCell ⟨C.g,1,none⟩ (.int .i64 ((s.k:Int)+1))):=F.m (F.P.stepI hk rfl) (zQ w C.g 1 _)
theorem Fr.to (F:Fr C B a D os s w) {z:Int} {k':Nat} (b:z=(k':Int)) (hk:k'≤C.L.length - 1):Fr C B a D os {s with k:=k'} (w.setCell ⟨C.g,1,none⟩ (.int .i64 z)):=F.m (F.P.to b hk) (zQ w C.g 1 _)
theorem Fr.step2 (F:Fr C B a D os s w) (hk:s.k+1+1≤C.L.length - 1):Fr C B a D os (zB (zB s)) (w.setCell ⟨C.g,1,none⟩ (.int .i64 ((s.k:Int)+2))):=F.to (k':=s.k+1+1) jo hk
theorem Fr.back (F:Fr C B a D os (zB s) w) (hk:s.k≤C.L.length - 1):Fr C B a D os s (w.setCell ⟨C.g,1,none⟩ (.int .i64 (s.k:Int))):=F.to (k':=s.k) rfl hk
theorem FrR.setAt (F:FrR C B a D os s w) {R:Nat} {f:List Value} (hi:os[i]? =some (.bx R T cs)) (hg:w.grownBy w' (some R)) (hb:Bx w' R T f):FrR C B a D (os.set i (.bx R T f)) s w':=by
 obtain⟨h1,l,m,o⟩:=F.ob i _ hi;have u:=F.ds R l;have g:i < os.length:=by
  rcases Nat.lt_or_ge i os.length with d | d
  · exact d
  · rw[List.getElem?_eq_none d]at hi;cases hi
 refine⟨F.pa.grown hg (fun b hb=>by injection hb with hb;have:=F.lt;omega),zCK F.gr u.1 hg,F.bl,F.bh,fun b hb=>⟨(F.ds b hb).1,yAA (F.ds b hb).2 hg.size⟩,?_,?_⟩
 · have p:∀(j:Nat) (y:Ob),(os.set i (.bx R T f))[j]? =some y→∃z,os[j]? =some z∧z.blk=y.blk:=by
    intro j y c;rw[List.getElem?_set]at c;split at c
    · rename_i e
      subst e
      (try rw[if_pos g]at c)
      injection c with c;subst c;exact⟨_,hi,rfl⟩
    · exact⟨y,c,rfl⟩
   intro j k y z R' d h6 v A;obtain⟨E,G,q⟩:=p j y d;obtain⟨H,r,t⟩:=p k z h6;exact F.nd j k E H R' G r (q.trans v) (t.trans A)
 · intro j y c;rw[List.getElem?_set]at c;split at c
   · rename_i e
     subst e
     (try rw[if_pos g]at c)
     injection c with c;subst c;exact⟨hb,l,m,o⟩
   · rename_i e
     refine(F.ob j y c).keep hg (.box h1 m o (fun h=>h.2 l)) ?_;intro R' d h6;injection h6 with h6;subst h6;exact e (F.nd i j _ y R hi c rfl d)
theorem Fr.put9 (F:Fr C B a D os s w) (i:Nat) {R:Nat} (hi:os[i]? =some (.bx R T [v0,v1,v2,v3,v4,v5,v6,v7,v8])):Fr C B a D (os.set i (.bx R T [d0,d1,d2,d3,d4,d5,d6,d7,d8])) s (((((((((w.setCell R d0).setCell ⟨R,1,none⟩ d1).setCell ⟨R,2,none⟩ d2).setCell ⟨R,3,none⟩ d3).setCell ⟨R,4,none⟩ d4).setCell ⟨R,5,none⟩ d5).setCell ⟨R,6,none⟩ d6).setCell ⟨R,7,none⟩ d7).setCell ⟨R,8,none⟩ d8):=
 .mk (F.out.setAt hi zBr ((F.b i hi).set9 rfl))
theorem Fr.put (F:Fr C B a D os s w) (i j:Nat) {R:Nat} {x:Ob} (hi:os[i]? =some (.bx R T [v0,v1,v2,v3,v4,v5,v6,v7,v8]):=by rfl) (_hj:os[j]? =some x:=by rfl) (_hc:x.cells=[d0,d1,d2,d3,d4,d5,d6,d7,d8]:=by rfl):Fr C B a D (os.set i (.bx R T [d0,d1,d2,d3,d4,d5,d6,d7,d8])) s (((((((((w.setCell R d0).setCell ⟨R,1,none⟩ d1).setCell ⟨R,2,none⟩ d2).setCell ⟨R,3,none⟩ d3).setCell ⟨R,4,none⟩ d4).setCell ⟨R,5,none⟩ d5).setCell ⟨R,6,none⟩ d6).setCell ⟨R,7,none⟩ d7).setCell ⟨R,8,none⟩ d8):=F.put9 i hi
theorem Fr.set (F:Fr C B a D os s w) (i j:Nat) (v:Value) {R:Nat} (hi:os[i]? =some (.bx R T cs):=by rfl):Fr C B a D (os.set i (.bx R T (cs.set j v))) s (w.setCell ⟨R,j,none⟩ v):=.mk (F.out.setAt hi (zQ w R j v) ((F.b i hi).set j v))
theorem zEz {Pg:Program} {c:Code} {b:Exit→Act→World→Prop} {A:Act} (F:Fr C B a D os s w) (k:∀V,Fr C B a D os s V→Code.wp Pg c b A V):Code.wp Pg c b A w:=k w F
theorem zCn {Pg:Program} {f:Func} {b:Ending→World→Prop} {A:Act} (F:Fr C B a D os s w) (k:∀V,Fr C B a D os s V→bodyPost Pg f b .ret A V):bodyPost Pg f b .ret A w:=k w F
theorem Fr.kB {f:FuncId} {b:Bool} (F:Fr C B a D os s w) (h:Calls prog f args w (zNk C s b w)) {Q:Ending→World→Prop} (k:∀w',Fr C B a D os s w'→Q (.returned b) w'):Calls prog f args w Q:=h.mono fun _ w' ⟨h1,_,c⟩=>h1▸k w' (F.n c)
theorem Fr.kM {f:FuncId} {b:Bool} (F:Fr C B a D os s w) (h:Calls prog f args w (zYW C s' b w)) {Q:Ending→World→Prop} (k:∀w',Fr C B a D os s' w'→Q (.returned b) w'):Calls prog f args w Q:=h.mono fun _ w' ⟨h1,c,d⟩=>h1▸k w' (F.m c d)
theorem Fr.kN {f:FuncId} (F:Fr C B a D os s w) (h:Calls prog f args w (zX8 C s' w)) {Q:Ending→World→Prop} (k:∀w',Fr C B a D os s' w'→Q (.returned (.tuple #[])) w'):Calls prog f args w Q:=h.mono fun _ w' ⟨h1,b,c⟩=>h1▸k w' (F.m b c)
theorem Fr.kS {f:FuncId} {p:List UInt8×Ps} (F:Fr C B a D os s w) (h:Calls prog f args w (zYX C p w)) {Q:Ending→World→Prop} (k:∀w',Fr C B a D os p.2 w'→Q (.returned p.1) w'):Calls prog f args w Q:=h.mono fun _ w' ⟨h1,b,c⟩=>h1▸k w' (F.m b c)
theorem Fr.kS2 {f:FuncId} {b:List UInt8} (F:Fr C B a D os s w) (h:Calls prog f args w (zYX C (b,s') w)) {Q:Ending→World→Prop} (k:∀w',Fr C B a D os s' w'→Q (.returned b) w'):Calls prog f args w Q:=h.mono fun _ w' ⟨h1,c,d⟩=>h1▸k w' (F.m c d)
theorem Fr.kQ {f:FuncId} (F:Fr C B a D os s w) (h:Calls prog f args w (fun e w'=>e=.returned v∧w.grownBy w' none)) {Q:Ending→World→Prop} (k:∀w',Fr C B a D os s w'→Q (.returned v) w'):Calls prog f args w Q:=h.mono fun _ w' ⟨h1,b⟩=>h1▸k w' (F.n b)
theorem Fr.addT {t:Tr} (F:Fr C B a D os s w) (b:Pa C s' w') (hg:w.grownBy w' (some C.g)) (c:TrC w' (w.heap.size≤·) t cs):Fr C B a D (os++[.tr t cs]) s' w':=
 .mk ((F.m b hg).out.snoc rfl (TrC.sub (fun _ hb _=>F.out.off hb) _ _ c))
theorem Fr.kD {f:FuncId} {p:Tr×Ps} (F:Fr C B a D os s w) (h:Calls prog f args w (zDk C p w)) {Q:Ending→World→Prop} (k:∀w' d0 d1 d2 d3 d4 d5 d6 d7 d8,Fr C B a D (os++[.tr p.1 [d0,d1,d2,d3,d4,d5,d6,d7,d8]]) p.2 w'→Q (.returned (.agg #[d0,d1,d2,d3,d4,d5,d6,d7,d8])) w'):Calls prog f args w Q:=
 h.mono fun _ w' ⟨d0,d1,d2,d3,d4,d5,d6,d7,d8,h1,b,c,d⟩=>h1▸k w' d0 d1 d2 d3 d4 d5 d6 d7 d8 (F.addT c d b)
theorem Fr.kX {f:FuncId} {p:Tr×Ps} (F:Fr C B a D os s w) (h:Calls prog f args w (zDk C p w)) {Q:Ending→World→Prop} (k:∀x,Hid (p=x)→∀w' d0 d1 d2 d3 d4 d5 d6 d7 d8,Fr C B a D (os++[.tr x.1 [d0,d1,d2,d3,d4,d5,d6,d7,d8]]) x.2 w'→Q (.returned (.agg #[d0,d1,d2,d3,d4,d5,d6,d7,d8])) w'):Calls prog f args w Q:=F.kD h (k p (zA rfl))
theorem Fr.al (F:Fr C B a D os s w) (o:Obj):Fr C B a D os s (w.alloc o):=F.n (zF w o none)
theorem Fr.kL {f:FuncId} {p:Tr×Ps} (F:Fr C B a D os s w) (h:Calls prog f args w (LstQ C p w)) {Q:Ending→World→Prop} (k:∀w' A n c,Hid (p.1.subs.length=n)→n≤c→c≤maxLen→Fr C B a D (os++[.ro (.slice A n c) p.1.subs]) p.2 w'→Q (.returned (.slice A n c)) w'):Calls prog f args w Q:=
 h.mono fun _ w' ⟨A,n,c,h1,b,d,e,g,h6,j⟩=>h1▸k w' A n c (zA b) d e (.mk ((F.m h6 j).out.snoc rfl (g.sub fun _ hb _=>F.out.off hb)))
theorem zVR {os:List Ob} {x:Ob} (h:os[i]? =some x):i < os.length:=by
 rcases Nat.lt_or_ge i os.length with b | b
 · exact b
 · rw[List.getElem?_eq_none b]at h;cases h
theorem FrR.rep (F:FrR C B a D os s w) {x y:Ob} (l:os[j]? =some x) (_b:x.blk=none) (m:y.blk=none) (h:y.Ok D (Off B D) w):FrR C B a D (os.set j y) s w:=by
 have c:∀(i:Nat) (z:Ob) (R:Nat),(os.set j y)[i]? =some z→z.blk=some R→os[i]? =some z:=by
  intro i z R h1 b;rw[List.getElem?_set]at h1;split at h1
  · split at h1
    · injection h1 with h1;subst h1;rw[m]at b;cases b
    · cases h1
  · exact h1
 refine⟨F.pa,F.gr,F.bl,F.bh,F.ds,fun i k z d R h1 b f g=>F.nd i k z d R (c i z R h1 f) (c k d R b g) f g,?_⟩;intro i z h1;rw[List.getElem?_set]at h1;split at h1
 · (try rw[if_pos (by rename_i e;subst e;exact zVR l)]at h1)
   injection h1 with h1;subst h1;exact h
 · exact F.ob i z h1
theorem Fr.kR {f:FuncId} {p:Tr×Ps} (F:Fr C B a D os s w) (j:Nat) {l:List Tr} (b:os[j]? =some (.ro v l)) (h:Calls prog f args w (zDk C p w)) {Q:Ending→World→Prop} (k:∀w' d0 d1 d2 d3 d4 d5 d6 d7 d8,Fr C B a D (os.set j (.rn w.heap.size v l)++[.tn w.heap.size p.1 [d0,d1,d2,d3,d4,d5,d6,d7,d8]]) p.2 w'→Q (.returned (.agg #[d0,d1,d2,d3,d4,d5,d6,d7,d8])) w'):Calls prog f args w Q:=
 h.mono fun _ w' ⟨d0,d1,d2,d3,d4,d5,d6,d7,d8,h1,d,e,c⟩=>h1▸k w' d0 d1 d2 d3 d4 d5 d6 d7 d8
  (.mk (((F.out.rep (y:=.rn w.heap.size v l) b rfl rfl ((F.r j b).sub fun _ hb g=>⟨hb,g⟩)).go' e c (.inr rfl)).snoc (x:=.tn _ _ _) rfl ⟨TrC.sub (fun _ hb _=>⟨F.out.off hb,hb⟩) _ _ d,c.size⟩))
theorem Fr.kRX {f:FuncId} {p:Tr×Ps} (F:Fr C B a D os s w) (j:Nat) {l:List Tr} (b:os[j]? =some (.ro v l)) (h:Calls prog f args w (zDk C p w)) {Q:Ending→World→Prop} (k:∀x,Hid (p=x)→∀w' d0 d1 d2 d3 d4 d5 d6 d7 d8,Fr C B a D (os.set j (.rn w.heap.size v l)++[.tn w.heap.size x.1 [d0,d1,d2,d3,d4,d5,d6,d7,d8]]) x.2 w'→Q (.returned (.agg #[d0,d1,d2,d3,d4,d5,d6,d7,d8])) w'):Calls prog f args w Q:=F.kR j b h (k p (zA rfl))
def Ob.calm:Ob→Ob
 | .tr _ cs=>.vs cs
 | .tn _ _ cs=>.vs cs
 | .ro _ _=>.vs []
 | .rn _ _ _=>.vs []
 | x=>x
theorem FrR.grow (F:FrR C B a D os s w) {v':Value} {l g:List Tr} {x:Ob} (p:os[j]? =some x) (q:x.blk=none) (d:RowP w (Off B D) v l) (hg:w.grownBy w' v.ownBlock) (r:RowP w' (Off B D) v' g) (hB:∀b,B b→a.heap.size≤b):FrR C B a D ((os.map Ob.calm).set j (.ro v' g)) s w':=by
 have f:∀y:Ob,y.calm.blk=y.blk:=fun y=>by cases y<;>rfl
 have t:FrR C B a D (os.map Ob.calm) s w':=by
  refine⟨F.pa.row d (fun b hb=>F.bl b hb.1) hg,zKA F.gr (fun b hb=>?_) hg,F.bl,F.bh,fun b hb=>⟨(F.ds b hb).1,yAA (F.ds b hb).2 hg.size⟩,?_,?_⟩
  · exact hB b (d.lt b hb).1.1
  · intro i k y z R h1 c m o;rw[List.getElem?_map]at h1 c;cases h5:os[i]? with
    | none=>rw[h5]at h1;cases h1
    | some e=>
     cases h6:os[k]? with
     | none=>rw[h6]at c;cases c
     | some u=>
      rw[h5]at h1;rw[h6]at c;injection h1 with h1;injection c with c;subst h1 c;rw[f]at m o;exact F.nd i k e u R h5 h6 m o
  · intro i y h1;rw[List.getElem?_map]at h1;cases h5:os[i]? with
    | none=>rw[h5]at h1;cases h1
    | some e=>
     rw[h5]at h1;injection h1 with h1;subst h1;have h6:=F.ob i e h5;cases e with
     | bx R T cs=>exact⟨h6.1.row d (fun h=>h.2 h6.2.1) hg,h6.2⟩
     | lf T v n xs=>
      refine⟨h6.1,zCJ h6.2 h6.1 hg (d.fz (Q:=fun _=>False) (fun _ _ _ h=>h))⟩
     | _=>trivial
 exact t.rep (x:=x.calm) (by rw[List.getElem?_map,p];rfl) ((f x).trans q) rfl r
theorem Fr.snocS {o:Oper} {d:Act} {r:Exit→Act→World→Prop} (F:Fr C B a D os s w) (j m:Nat) {hi n cp:Nat} {A:Option Addr} {l:List Tr} {t:Tr} {c0 c1 c2 c3 c4 c5 c6 c7 c8:Value} (p:os[j]? =some (.rn hi (.slice A n cp) l)) (u:os[m]? =some (.tn hi t [c0,c1,c2,c3,c4,c5,c6,c7,c8])) (hB:∀b,B b→a.heap.size≤b) (v:n≤4097) (q:o.guard=none) (x y:Operand)
 (z:o.op=.call {callee:=.builtin .append,args:=#[x,y],argTypes:=#[56,56]})
 (hs:d.eval x=.slice A n cp) (hx:d.eval y=.slice (some ⟨w.heap.size,0,none⟩) 1 1)
 (h:∀e c w',Fr C B a D ((os.map Ob.calm).set j (.ro (.slice e (n+1) c) (l++[t]))) s w'→K (d.put o.dst (.slice e (n+1) c)) w'):
 if Region.wanted o (yielded ops d.tmps)=true then Oper.wp prog o d (w.alloc (.cells #[c0,c1,c2,c3,c4,c5,c6,c7,c8] 58)) K r else E:=by
 have g:RowP w (fun b=>Off B D b∧b < hi) (.slice A n cp) l:=F.out.ob j _ p;have f:=g.sub (Q:=Off B D) fun _ hb _=>hb.1;have G:TrC w (fun b=>Off B D b∧hi≤b) t [c0,c1,c2,c3,c4,c5,c6,c7,c8]:=(F.out.ob m _ u).1;refine zKD (Px:=Off B D) (Q:=fun b=>Off B D b∧hi≤b) q x y z hs g.bounds.1 f G (fun b hb _=>hb.1) (fun b hb k=>?_) (F.out.off (Nat.le_succ _)) v hx ?_
 · have:=(g.lt b hb).1.2;have:=k.2;omega
 · intro e c w' h1 k;exact h e c w' (.mk ((F.al (.cells #[c0,c1,c2,c3,c4,c5,c6,c7,c8] 58)).out.grow p rfl (f.new (zF _ _ _)) k h1 hB))
theorem Fr.snocL {o:Oper} {d:Act} {p:Exit→Act→World→Prop} (F:Fr C B a D os s w) (j m:Nat) {hi n cp:Nat} {A:Option Addr} {l:List Tr} {t:Tr} {c0 c1 c2 c3 c4 c5 c6 c7 c8:Value} (q:os[j]? =some (.rn hi (.slice A n cp) l)) (u:os[m]? =some (.tn hi t [c0,c1,c2,c3,c4,c5,c6,c7,c8])) (hB:∀b,B b→a.heap.size≤b) (v:n≤4097) (r:o.guard=none) (x y:Operand)
 (z:o.op=.call {callee:=.builtin .append,args:=#[x,y],argTypes:=#[56,56]})
 (hs:d.eval x=.slice A n cp) (hx:d.eval y=.slice (some ⟨w.heap.size,0,none⟩) 1 1)
 (h:∀e c w',Fr C B a D ((os.map Ob.calm).set j (.ro (.slice e (n+1) c) (l++[t]))) s w'→wpList prog ops p rest (d.put o.dst (.slice e (n+1) c)) w'):
 wpList prog ops p (o::rest) d (w.alloc (.cells #[c0,c1,c2,c3,c4,c5,c6,c7,c8] 58)):=by
 have g:RowP w (fun b=>Off B D b∧b < hi) (.slice A n cp) l:=F.out.ob j _ q;have f:=g.sub (Q:=Off B D) fun _ hb _=>hb.1;have E:TrC w (fun b=>Off B D b∧hi≤b) t [c0,c1,c2,c3,c4,c5,c6,c7,c8]:=(F.out.ob m _ u).1;refine zEx (Px:=Off B D) (Q:=fun b=>Off B D b∧hi≤b) r x y z hs g.bounds.1 f E (fun b hb _=>hb.1) (fun b hb k=>?_) (F.out.off (Nat.le_succ _)) v hx ?_
 · have:=(g.lt b hb).1.2;have:=k.2;omega
 · intro e c w' h1 k;exact h e c w' (.mk ((F.al (.cells #[c0,c1,c2,c3,c4,c5,c6,c7,c8] 58)).out.grow q rfl (f.new (zF _ _ _)) k h1 hB))
theorem Fr.snoc0 {o:Oper} {d:Act} {k:Exit→Act→World→Prop} (F:Fr C B a D os s w) (m:Nat) (kk:Int) (nm:List UInt8) {lo:Nat} {t:Tr} {c0 c1 c2 c3 c4 c5 c6 c7 c8:Value} (p:os[m]? =some (.tn lo t [c0,c1,c2,c3,c4,c5,c6,c7,c8])) (g:o.guard=none) (x y:Operand)
 (q:o.op=.call {callee:=.builtin .append,args:=#[x,y],argTypes:=#[56,56]})
 (hs:d.eval x=.slice none 0 0) (hx:d.eval y=.slice (some ⟨w.heap.size,0,none⟩) 1 1)
 (h:∀e c w',Fr C B a D (os++[.tn lo (trN kk nm [t]) [kk,nm,(),(0:Int),(0:Int),false,(),(),.slice e 1 c]]) s w'→K (d.put o.dst (.slice e (0+1) c)) w'):
 if Region.wanted o (yielded ops d.tmps)=true then Oper.wp prog o d (w.alloc (.cells #[c0,c1,c2,c3,c4,c5,c6,c7,c8] 58)) K k else E:=by
 have f:=F.out.ob m _ p;refine zKD (Px:=fun b=>Off B D b∧lo≤b) (Q:=fun b=>Off B D b∧lo≤b) g x y q hs (l:=[]) rfl (RowP.nil _ _) f.1 (fun b hb _=>hb) (fun b hb _=>by cases hb) ⟨F.out.off (Nat.le_succ _),Nat.le_succ_of_le f.2⟩ jo hx ?_;intro e c w' h1 j;have r:=(F.al (.cells #[c0,c1,c2,c3,c4,c5,c6,c7,c8] 58)).n (w':=w') j;refine h e c w' (.mk (r.out.snoc (x:=.tn _ _ _) rfl ⟨(show TrC _ _ _ _ from RowP.treeN h1),?_⟩));have u:=j.size;have v:=f.2;simp at u;omega
theorem Fr.nar (F:Fr C B a D os s w) (j:Nat) {l:List Tr} (b:os[j]? =some (.ro v l)):Fr C B a D (os.set j (.rn w.heap.size v l)) s w:=.mk (F.out.rep b rfl rfl (RowP.sub (F.r j b) fun _ hb c=>⟨hb,c⟩))
theorem Fr.leafM (F:Fr C B a D os s w) (kk:Int) (nm:List UInt8):Fr C B a D (os++[.tn w.heap.size (trN kk nm []) [kk,nm,(),(0:Int),(0:Int),false,(),(),()]]) s w:=.mk (F.out.snoc (x:=.tn _ _ _) rfl ⟨(show TrC _ _ _ _ from(RowP.nil _ _).treeN),yAC _⟩)
theorem Fr.rowN (F:Fr C B a D os s w) (i:Nat) {l:List Tr} (h:os[i]? =some (.ro v l)) (kk:Int) (nm:List UInt8):Fr C B a D (os++[.tr (trN kk nm l) [kk,nm,(),(0:Int),(0:Int),false,(),(),v]]) s w:=.mk (F.out.snoc rfl (show TrC _ _ _ _ from(F.r i h).treeN))
theorem Fr.rowK (F:Fr C B a D os s w) (i:Nat) {l:List Tr} (h:os[i]? =some (.ro v l)) (kk:Int):Fr C B a D (os++[.tr (trK kk l) [kk,"",(),(0:Int),(0:Int),false,(),(),v]]) s w:=.mk (F.out.snoc rfl (show TrC _ _ _ _ from(F.r i h).treeK))
theorem Fr.nil (F:Fr C B a D os s w):Fr C B a D (os++[.ro (.slice none 0 0) []]) s w:=.mk (F.out.snoc rfl (show RowP _ _ _ _ from RowP.nil _ _))
theorem Fr.leafN (F:Fr C B a D os s w) (kk:Int) (nm:List UInt8):Fr C B a D (os++[.tr (trN kk nm []) [kk,nm,(),(0:Int),(0:Int),false,(),(),()]]) s w:=.mk (F.out.snoc rfl (show TrC _ _ _ _ from(RowP.nil _ _).treeN))
theorem Fr.leafK (F:Fr C B a D os s w) (kk:Int):Fr C B a D (os++[.tr (trK kk []) [kk,"",(),(0:Int),(0:Int),false,(),(),()]]) s w:=.mk (F.out.snoc rfl (show TrC _ _ _ _ from(RowP.nil _ _).treeK))
def pkL (os:List Ob) (l:List Nat):List Ob:=l.map fun i=>os.getD i (.vs [])
theorem Fr.pkc (F:Fr C B a D os s w) (E:List Nat) (l:List Nat) (o:∀b∈E,b∈D) (p:l.Nodup) (hk:∀R∈(pkL os l).filterMap Ob.blk,R∈E):Fr C B a E (pkL os l) s w:=by
 have G:=F.out;have e:∀(i:Nat) (x:Ob),(pkL os l)[i]? =some x→∃k,l[i]? =some k∧x=os.getD k (.vs []):=by
  intro i x h;unfold pkL at h;rw[List.getElem?_map]at h;cases d:l[i]? with
  | none=>rw[d]at h;cases h
  | some k=>rw[d]at h;injection h with h;exact⟨k,rfl,h.symm⟩
 have f:∀k:Nat,os.getD k (.vs [])=.vs []∨os[k]? =some (os.getD k (.vs [])):=by
  intro k;rw[yAG];cases d:os[k]? with
  | none=>exact .inl rfl
  | some x=>exact .inr rfl
 refine .mk ⟨G.pa,G.gr,G.bl,G.bh,fun b hb=>G.ds b (o b hb),?_,?_⟩
 · intro i j x y R h1 c g m;obtain⟨k1,e1,rfl⟩:=e i x h1;obtain⟨k2,e2,rfl⟩:=e j y c;rcases f k1 with e3 | e3
   · rw[e3]at g;cases g
   rcases f k2 with e4 | e4
   · rw[e4]at m;cases m
   have e5:=G.nd k1 k2 _ _ R e3 e4 g m;subst e5;have q:i < l.length:=by
    rcases Nat.lt_or_ge i l.length with d | d
    · exact d
    · rw[List.getElem?_eq_none d]at e1;cases e1
   exact(List.getElem?_inj q p).1 (e1.trans e2.symm)
 · intro i x h1;obtain⟨k,e1,rfl⟩:=e i x h1;rcases f k with e3 | e3
   · rw[e3];trivial
   · have c:=G.ob k _ e3;have hs:∀b,Off B D b→Off B E b:=fun b hb=>⟨hb.1,fun h=>hb.2 (o b h)⟩;have hk:∀R,(os.getD k (.vs [])).blk=some R→R∈E:=fun R h=>hk R (List.mem_filterMap.2 ⟨_,List.mem_of_getElem? h1,h⟩);generalize os.getD k (.vs [])=z at hk c;cases z with
     | bx R T cs=>exact⟨c.1,hk R rfl,c.2.2⟩
     | tr t cs=>exact TrC.sub (fun b hb _=>hs b hb) _ _ c
     | tn lo t cs=>exact⟨TrC.sub (fun b hb _=>⟨hs b hb.1,hb.2⟩) _ _ c.1,c.2⟩
     | ro v l=>exact RowP.sub c fun b hb _=>hs b hb
     | rn hi v l=>exact RowP.sub c fun b hb _=>⟨hs b hb.1,hb.2⟩
     | lf T v n xs=>exact c
     | vs cs=>trivial
theorem Fr.pk (F:Fr C B a D os s w) (E:List Nat) (l:List Nat) (c:∀b∈E,b∈D) (d:l.Nodup) {r1:Nat} (e:(pkL os l).filterMap Ob.blk=[r0,r1]) (f:r0∈E) (h1:r1∈E):Fr C B a E (pkL os l) s w:=F.pkc E l c d fun R h=>by
 rw[e]at h;rcases List.mem_cons.1 h with rfl | h
 · assumption
 · rw[List.mem_singleton.1 h];assumption
theorem Fr.pk1 (F:Fr C B a D os s w) (E:List Nat) (l:List Nat) (c:∀b∈E,b∈D) (d:l.Nodup) (e:(pkL os l).filterMap Ob.blk=[r0]) (f:r0∈E):Fr C B a E (pkL os l) s w:=F.pkc E l c d fun R h=>by
 rw[e]at h;rw[List.mem_singleton.1 h];assumption
theorem Fr.pk3 (F:Fr C B a D os s w) (E:List Nat) (l:List Nat) (c:∀b∈E,b∈D) (d:l.Nodup) {r1 r2:Nat} (e:(pkL os l).filterMap Ob.blk=[r0,r1,r2]) (f:r0∈E) (h1:r1∈E) (g:r2∈E):Fr C B a E (pkL os l) s w:=F.pkc E l c d fun R h=>by
 rw[e]at h;rcases List.mem_cons.1 h with rfl | h
 · assumption
 rcases List.mem_cons.1 h with rfl | h
 · assumption
 · rw[List.mem_singleton.1 h];assumption
theorem Fr.kT {f:FuncId} {b:List UInt16} {c:List Nat} (F:Fr C B a D os s w) (h:Calls prog f args w (zYY C s kd tx b nk nn c ps nl w)) {Q:Ending→World→Prop} (k:∀w' As Am c1 c2,Fr C B a D (os++[.vs [kd,tx,.slice As b.length c1,nk,nn,false,.slice Am c.length c2,ps,nl]]) s w'→Q (.returned (.agg #[kd,tx,.slice As b.length c1,nk,nn,false,.slice Am c.length c2,ps,nl])) w'):Calls prog f args w Q:=
 h.mono fun _ w' ⟨As,Am,c1,c2,h1,_,_,_,d⟩=>h1▸k w' As Am c1 c2 (.mk ((F.n d).out.snoc rfl trivial))
theorem Fr.kTl {f:FuncId} {b:List UInt16} {c:List Nat} (F:Fr C B a D os s w) (h:Calls prog f args w (zYY C s kd tx b nk nn c ps nl w)) {Q:Ending→World→Prop} (k:∀w' As Am c1 c2,Fr C B a D (os++[.vs [kd,tx,.slice As b.length c1,nk,nn,false,.slice Am c.length c2,ps,nl]]++[.lf 65 (.slice As b.length c1) b.length (zAM b)]++[.lf 67 (.slice Am c.length c2) c.length (zBq c)]) s w'→Q (.returned (.agg #[kd,tx,.slice As b.length c1,nk,nn,false,.slice Am c.length c2,ps,nl])) w'):Calls prog f args w Q:=
 h.mono fun _ w' ⟨As,Am,c1,c2,h1,d,e,_,g⟩=>h1▸k w' As Am c1 c2 (.mk ((((F.n g).out.snoc (x:=.vs _) rfl trivial).snoc (x:=.lf _ _ _ _) rfl ⟨.inl rfl,d⟩).snoc (x:=.lf _ _ _ _) rfl ⟨.inr rfl,e⟩))
theorem Fr.l (F:Fr C B a D os s w) (i:Nat) {n:Nat} {xs:List Value} (h:os[i]? =some (.lf T v n xs):=by rfl):w.ownsRow 0 T 1 v n xs:=(F.out.ob i _ h).2
theorem zZq {w:World} {P:Nat→Prop} {x:Nd} {vs b:Value} (hk:x.kids=[]) (hs:w.ownsRow 0 65 1 vs x.str.length (zAM x.str)) (c:w.ownsRow 0 67 1 b x.mag.length (zBq x.mag)):TrC w P (.mk x []) (zWy x vs b (.slice none 0 0)):=by
 rw[zFQ];exact⟨vs,b,.slice none 0 0,[],rfl,hk,hs,c,yAJ _ _ _ _,(fun _ h=>by cases h),zC1.mpr rfl⟩
theorem Fr.leafX (F:Fr C B a D os s w) (x:Nd) {vs b:Value} (hk:x.kids=[]) (hs:w.ownsRow 0 65 1 vs x.str.length (zAM x.str)) (c:w.ownsRow 0 67 1 b x.mag.length (zBq x.mag)):Fr C B a D (os++[.tr (.mk x []) (zWy x vs b (.slice none 0 0))]) s w:=.mk (F.out.snoc rfl (zZq hk hs c))
theorem Fr.kA {f:FuncId} {p:Tr×Ps} {w1:World} (F:Fr C B a D os s w) (h:Calls prog f args w1 (zVQ C w p)) {Q:Ending→World→Prop} (k:∀x,Hid (p=x)→∀w' d0 d1 d2 d3 d4 d5 d6 d7 d8,Fr C B a D (os++[.tr x.1 [d0,d1,d2,d3,d4,d5,d6,d7,d8]]) x.2 w'→Q (.returned (.agg #[d0,d1,d2,d3,d4,d5,d6,d7,d8])) w'):Calls prog f args w1 Q:=
 h.mono fun _ w' ⟨d0,d1,d2,d3,d4,d5,d6,d7,d8,h1,b,c,d⟩=>h1▸k p (zA rfl) w' d0 d1 d2 d3 d4 d5 d6 d7 d8 (F.addT c d b)
theorem Fr.kO {f:FuncId} {p:Tr×Ps} (F:Fr C B a D os s w) (h:Calls prog f args w (NodR C (Off B D) p w)) {Q:Ending→World→Prop} (k:∀w' d0 d1 d2 d3 d4 d5 d6 d7 d8,Fr C B a D (os++[.tr p.1 [d0,d1,d2,d3,d4,d5,d6,d7,d8]]) p.2 w'→Q (.returned (.agg #[d0,d1,d2,d3,d4,d5,d6,d7,d8])) w'):Calls prog f args w Q:=
 h.mono fun _ w' ⟨d0,d1,d2,d3,d4,d5,d6,d7,d8,h1,b,c,d⟩=>h1▸k w' d0 d1 d2 d3 d4 d5 d6 d7 d8 (.mk ((F.m c d).out.snoc rfl (TrC.sub (fun _ hb _=>hb.elim id F.out.off) _ _ b)))
theorem Fr.both (F:Fr C B a D os s w) (j:Nat) (c:os[j]? =some (.tr x [d0,d1,d2,d3,d4,d5,d6,d7,d8])) (h:zo C s w (.both x)):Calls prog 161 #[C,.agg #[d0,d1,d2,d3,d4,d5,d6,d7,d8]] w (NodR C (Off B D) (zE C.L (.both x) s) w):=h _ _ _ _ _ _ _ _ _ _ (fun b hb=>F.out.bl b hb.1) (F.t j c)
theorem Fr.made0 (F:Fr C B a D os s w) (kk:Int) {Q:Ending→World→Prop} (k:∀w',Fr C B a D (os++[.tr (trK kk []) [kk,"",(),(0:Int),(0:Int),false,(),(),()]]) s w'→Q (.returned (.agg #[kk,"",(),(0:Int),(0:Int),false,(),(),()])) w'):Calls prog 32 #[kk,()] w Q:=
 (zA0 kk none 0 0).mono fun _ w' ⟨h1,b⟩=>h1▸k w' (.mk ((F.n b).out.snoc rfl (show TrC _ _ _ _ from(RowP.nil _ _).treeK)))
theorem Fr.named0 (F:Fr C B a D os s w) (kk:Int) (nm:List UInt8) {Q:Ending→World→Prop} (k:∀w',Fr C B a D (os++[.tr (trN kk nm []) [kk,nm,(),(0:Int),(0:Int),false,(),(),()]]) s w'→Q (.returned (.agg #[kk,nm,(),(0:Int),(0:Int),false,(),(),()])) w'):Calls prog 105 #[kk,nm,()] w Q:=
 (zDM kk ⟨nm.toArray⟩ none 0 0).mono fun _ w' ⟨h1,b⟩=>h1▸k w' (.mk ((F.n b).out.snoc rfl (show TrC _ _ _ _ from(RowP.nil _ _).treeN)))
theorem Fr.litG {l:List Tr} {n R:Nat} (F:Fr C B a D os s w) (b:TrsC w (Off B D) l cs) (c:n=l.length) (d:n≤4097) (e:w.heap.size=R) (hg:(w.alloc (.cells cs.toArray 58)).grownBy w' none):FrR C B a D os s w'∧RowP w' (Off B D) (.slice (some ⟨R,0,none⟩) n n) l:=by
 subst e;exact⟨(F.n (zC (zF w (.cells cs.toArray 58) none) hg)).out,zMN c b d (F.out.off (yAC _)) hg⟩
theorem Fr.litK {l:List Tr} {n R:Nat} (F:Fr C B a D os s w) (kk:Int) (b:TrsC w (Off B D) l cs) (c:n=l.length) (d:n≤4097) (e:w.heap.size=R) {Q:Ending→World→Prop} (k:∀w',Fr C B a D (os++[.tr (trK kk l) [kk,"",(),(0:Int),(0:Int),false,(),(),.slice (some ⟨R,0,none⟩) n n]]) s w'→Q (.returned (.agg #[kk,"",(),(0:Int),(0:Int),false,(),(),.slice (some ⟨R,0,none⟩) n n])) w'):Calls prog 32 #[kk,.slice (some ⟨R,0,none⟩) n n] (w.alloc (.cells cs.toArray 58)) Q:=
 (zA0 kk _ n n).mono fun _ w' ⟨h1,f⟩=>h1▸k w' (.mk ((F.litG b c d e f).1.snoc rfl (show TrC _ _ _ _ from(F.litG b c d e f).2.treeK)))
theorem Fr.litN {l:List Tr} {n R:Nat} (F:Fr C B a D os s w) (kk:Int) (nm:List UInt8) (b:TrsC w (Off B D) l cs) (c:n=l.length) (d:n≤4097) (e:w.heap.size=R) {Q:Ending→World→Prop} (k:∀w',Fr C B a D (os++[.tr (trN kk nm l) [kk,nm,(),(0:Int),(0:Int),false,(),(),.slice (some ⟨R,0,none⟩) n n]]) s w'→Q (.returned (.agg #[kk,nm,(),(0:Int),(0:Int),false,(),(),.slice (some ⟨R,0,none⟩) n n])) w'):Calls prog 105 #[kk,nm,.slice (some ⟨R,0,none⟩) n n] (w.alloc (.cells cs.toArray 58)) Q:=
 (zDM kk ⟨nm.toArray⟩ _ n n).mono fun _ w' ⟨h1,f⟩=>h1▸k w' (.mk ((F.litG b c d e f).1.snoc rfl (show TrC _ _ _ _ from(F.litG b c d e f).2.treeN)))
theorem Fr.litR {l:List Tr} {n R:Nat} (F:Fr C B a D os s w) (kk:Int) (b:TrsC w (Off B D) l cs) (c:n=l.length) (d:n≤4097) (e:w.heap.size=R) {Q:Ending→World→Prop} (k:∀w',Fr C B a D (os++[.ro (.slice (some ⟨R,0,none⟩) n n) l]++[.tr (trK kk l) [kk,"",(),(0:Int),(0:Int),false,(),(),.slice (some ⟨R,0,none⟩) n n]]) s w'→Q (.returned (.agg #[kk,"",(),(0:Int),(0:Int),false,(),(),.slice (some ⟨R,0,none⟩) n n])) w'):Calls prog 32 #[kk,.slice (some ⟨R,0,none⟩) n n] (w.alloc (.cells cs.toArray 58)) Q:=
 (zA0 kk _ n n).mono fun _ w' ⟨h1,f⟩=>h1▸k w' (.mk (((F.litG b c d e f).1.snoc (x:=.ro (.slice (some ⟨R,0,none⟩) n n) l) rfl (F.litG b c d e f).2).snoc rfl (show TrC _ _ _ _ from(F.litG b c d e f).2.treeK)))
section
variable {kk:Int} {nm:List UInt8} {R:Nat} {t1 t2 t3:Tr} {e0 e1 e2 e3 e4 e5 e6 e7 e8 a0 a1 a2 a3 a4 a5 a6 a7 a8 p0 p1 p2 p3 p4 p5 p6 p7 p8:Value}
theorem Fr.ts1 (F:Fr C B a D os s w) (i:Nat) (h1:os[i]? =some (.tr t1 [e0,e1,e2,e3,e4,e5,e6,e7,e8]):=by rfl):TrsC w (Off B D) [t1] [e0,e1,e2,e3,e4,e5,e6,e7,e8]:=.single (F.t i h1)
theorem Fr.ts2 (F:Fr C B a D os s w) (i j:Nat) (h1:os[i]? =some (.tr t1 [e0,e1,e2,e3,e4,e5,e6,e7,e8]):=by rfl) (h2:os[j]? =some (.tr t2 [a0,a1,a2,a3,a4,a5,a6,a7,a8]):=by rfl):TrsC w (Off B D) [t1,t2] [e0,e1,e2,e3,e4,e5,e6,e7,e8,a0,a1,a2,a3,a4,a5,a6,a7,a8]:=TrsC.cons (F.t i h1) (.single (F.t j h2))
theorem Fr.ts3 (F:Fr C B a D os s w) (i j m:Nat) (h1:os[i]? =some (.tr t1 [e0,e1,e2,e3,e4,e5,e6,e7,e8]):=by rfl) (h2:os[j]? =some (.tr t2 [a0,a1,a2,a3,a4,a5,a6,a7,a8]):=by rfl) (h3:os[m]? =some (.tr t3 [p0,p1,p2,p3,p4,p5,p6,p7,p8]):=by rfl):TrsC w (Off B D) [t1,t2,t3] [e0,e1,e2,e3,e4,e5,e6,e7,e8,a0,a1,a2,a3,a4,a5,a6,a7,a8,p0,p1,p2,p3,p4,p5,p6,p7,p8]:=TrsC.cons (F.t i h1) (TrsC.cons (F.t j h2) (.single (F.t m h3)))
end
theorem Fr.sto (F:Fr C B a D os s w) (i:Nat) {t:Tr} {e0 e1 e2 e3 e4 e5 e6 e7 e8:Value} (h:os[i]? =some (.tr t [e0,e1,e2,e3,e4,e5,e6,e7,e8]):=by rfl):(∀(v:World) (a:Addr),(store a e0).run prog v=stored prog v a e0 .plain)∧(∀(v:World) (a:Addr),(store a e1).run prog v=stored prog v a e1 .plain)∧(∀(v:World) (a:Addr),(store a e2).run prog v=stored prog v a e2 .plain)∧(∀(v:World) (a:Addr),(store a e3).run prog v=stored prog v a e3 .plain)∧(∀(v:World) (a:Addr),(store a e4).run prog v=stored prog v a e4 .plain)∧(∀(v:World) (a:Addr),(store a e5).run prog v=stored prog v a e5 .plain)∧(∀(v:World) (a:Addr),(store a e6).run prog v=stored prog v a e6 .plain)∧(∀(v:World) (a:Addr),(store a e7).run prog v=stored prog v a e7 .plain)∧(∀(v:World) (a:Addr),(store a e8).run prog v=stored prog v a e8 .plain):=(F.t i h).sto
theorem Fr.ret {Pg:Program} {A:Act} {p:Tr×Ps} {t:Tr} (F:Fr C B a D os s w) (j:Nat) (c:os[j]? =some (.tr t [d0,d1,d2,d3,d4,d5,d6,d7,d8])) (d:(results fn A.tmps).run Pg w=.ok (.agg #[d0,d1,d2,d3,d4,d5,d6,d7,d8]) w) (f:A.defers=[]) (e:p=(t,s)) (hB:∀b,B b→a.heap.size≤b):bodyPost Pg fn (zDk C p a) .ret A w:=by
 subst e;exact bodyPost_ret d f ⟨d0,d1,d2,d3,d4,d5,d6,d7,d8,rfl,.sub (fun b hb _=>hB b hb.1) _ _ (F.t j c),F.P,F.out.gr⟩
theorem Fr.fin {A:Act} {p:Tr×Ps} {t:Tr} (F:Fr C B a D os s w) (i j:Nat) {x:Tmp} {R:Nat} (f:os[j]? =some (.tr t [d0,d1,d2,d3,d4,d5,d6,d7,d8])) (e:p=(t,s)) (hB:∀b,B b→a.heap.size≤b:=by exact fun _ h=>h) (hi:os[i]? =some (.bx R 58 [v0,v1,v2,v3,v4,v5,v6,v7,v8]):=by rfl) (hf:fn.results=#[.cell x 58]:=by rfl) (hp:A.tmps[x]?.getD undef=.pointer (some ⟨R,0,none⟩):=by rfl) (hd:A.defers=[]:=by rfl):
 bodyPost prog fn (zDk C p a) .ret A (((((((((w.setCell R d0).setCell ⟨R,1,none⟩ d1).setCell ⟨R,2,none⟩ d2).setCell ⟨R,3,none⟩ d3).setCell ⟨R,4,none⟩ d4).setCell ⟨R,5,none⟩ d5).setCell ⟨R,6,none⟩ d6).setCell ⟨R,7,none⟩ d7).setCell ⟨R,8,none⟩ d8):=by
 refine zCn (F.put9 i (d0:=d0) (d1:=d1) (d2:=d2) (d3:=d3) (d4:=d4) (d5:=d5) (d6:=d6) (d7:=d7) (d8:=d8) hi) fun V G=>?_;have q:=G.c i (R:=R) (T:=58) (by rw[List.getElem?_set_self (List.getElem?_eq_some_iff.1 hi).1])
 by_cases d:i=j
 · subst d;rw[hi]at f;cases f
 · exact G.ret j (by rw[List.getElem?_set_ne d];exact f) (by simp only[results,hf];simp[hp,go_sem,q]) hd e hB
end
theorem zW (L:List Tok) (k:Nat):∃b,Hid (zG L k=b):=⟨_,zA rfl⟩
theorem zBg {C:Pc} {s:Ps} {w:World} (h:Pa C s w) (v:List UInt8) (hb:onP C.L v s=true):Calls prog 70 #[C,v] w (zYW C (zB s) true w):=zA9 h v hb
theorem zBl {C:Pc} {s:Ps} {w:World} (h:Pa C s w) (v:List UInt8) (hb:onP C.L v s=false):Calls prog 70 #[C,v] w (zYW C s false w):=zA9 h v hb
theorem zBP {C:Pc} {s:Ps} {w:World} {c:Ph} {f:FuncId} (d:Pre C.L c s) (h:Pa C s w) (k:Hid (Lst C.L)→C.N≤4097→s.k≤C.L.length - 1→∀r W X,Hid (zD C.L (zE C.L) c s=r)→w.alloc (.cells #[(0:Int),"",(),(0:Int),(0:Int),false,(),(),()] 58)=W→w.heap.size=X→Fr C (w.heap.size≤·) w [X] [.bx X 58 [(0:Int),"",(),(0:Int),(0:Int),false,(),(),()]] s W→Calls prog f args w (zDk C r w)):Calls prog f args w (zDk C (zE C.L c s) w):=by
 refine k (zA h.cx.lst) h.cx.n4 d.1 _ _ _ (zA (zV h.cx.lst d).symm) rfl rfl ?_;have e:FrR C (w.heap.size≤·) w [] [] s w:=⟨h,⟨rfl,rfl,rfl,yAC _,fun _ _ _=>rfl⟩,fun b hb=>yAA h.lt hb,fun _ hb=>hb,(fun _ hb=>by cases hb),(fun _ _ _ _ _ hb=>by cases hb),fun _ _ hb=>by cases hb⟩;exact(Fr.mk e).box zH8 58 rfl jd jd
theorem zX9 {C:Pc} {s:Ps} {w:World} {Q:Nat→Prop} {f:FuncId} {c:Ending→World→Prop} (h:Pa C s w) (e:∀b,Q b→C.g < b) (j:TrC w Q x [d0,d1,d2,d3,d4,d5,d6,d7,d8]) (k:Hid (Lst C.L)→C.N≤4097→s.k≤C.L.length - 1→∀d W R X,w.alloc (.cells #[d0,d1,d2,d3,d4,d5,d6,d7,d8] 58)=d→d.alloc (.cells #[(0:Int),"",(),(0:Int),(0:Int),false,(),(),()] 58)=W→w.heap.size=R→d.heap.size=X→R+1=X→Fr C (fun b=>Q b∨w.heap.size≤b) w [X,R] [.tr x [d0,d1,d2,d3,d4,d5,d6,d7,d8],.bx R 58 [d0,d1,d2,d3,d4,d5,d6,d7,d8],.bx X 58 [(0:Int),"",(),(0:Int),(0:Int),false,(),(),()]] s W→Calls prog f args w c):Calls prog f args w c:=by
 refine k (zA h.cx.lst) h.cx.n4 h.hi _ _ _ _ rfl rfl rfl rfl js ?_;have l:FrR C (fun b=>Q b∨w.heap.size≤b) w [] [] s w:=⟨h,⟨rfl,rfl,rfl,yAC _,fun _ _ _=>rfl⟩,fun b hb=>hb.elim (e b) (fun hb=>yAA h.lt hb),fun _ hb=>.inr hb,(fun _ hb=>by cases hb),(fun _ _ _ _ _ hb=>by cases hb),fun _ _ hb=>by cases hb⟩;exact((Fr.mk (l.snoc (x:=.tr x _) rfl (TrC.sub (fun b hb _=>⟨.inl hb,by simp⟩) _ _ j))).box [d0,d1,d2,d3,d4,d5,d6,d7,d8] 58 rfl jd jd).box zH8 58 rfl jd jd
theorem zYa {C:Pc} {s:Ps} {w:World} {l:List Tr} {f:FuncId} (d:Pre C.L (.body l) s) (h:Pa C s w) {a:World} {A:Option Addr} {n cp:Nat} (e:a.grownBy w (some C.g)) (j:C.g < a.heap.size) (c:RowP w (a.heap.size≤·) (.slice A n cp) l) (k:Hid (Lst C.L)→C.N≤4097→s.k≤C.L.length - 1→∀r W X,Hid (zD C.L (zE C.L) (.body l) s=r)→w.alloc (.cells #[(0:Int),"",(),(0:Int),(0:Int),false,(),(),()] 58)=W→w.heap.size=X→Fr C (a.heap.size≤·) a [X] [.ro (.slice A n cp) l,.bx X 58 [(0:Int),"",(),(0:Int),(0:Int),false,(),(),()]] s W→Calls prog f args w (zVQ C a r)):Calls prog f args w (zVQ C a (zE C.L (.body l) s)):=by
 refine k (zA h.cx.lst) h.cx.n4 d.1 _ _ _ (zA (zV h.cx.lst d).symm) rfl rfl ?_;have m:FrR C (a.heap.size≤·) a [] [] s w:=⟨h,e,fun b hb=>yAA j hb,fun _ hb=>hb,(fun _ hb=>by cases hb),(fun _ _ _ _ _ hb=>by cases hb),fun _ _ hb=>by cases hb⟩;exact(Fr.mk (m.snoc (x:=.ro (.slice A n cp) l) rfl (RowP.sub c fun b hb _=>⟨hb,by simp⟩))).box zH8 58 rfl jd jd
theorem zNn {C:Pc} {s:Ps} {w:World} (e:Pre C.L (.within) s) (K:KP C (zk C.L (.within) s)) (h:Pa C s w):zo C s w (.within):=by
 refine zBP e h fun m o g r W X p t u j=>?_;have v:=zA K;clear K h e;go_enter func136,ntmps136;go_upto_region 1 with(fail);clear t u;have y:=zA (zR (w:=[40]) m g);go_wp2_with fail;refine j.kN (zAK j.P [40]) fun w1 d=>?_;go_wp2_with fail;refine d.kD (v.out.rank (q:=.assign) ⟨d.P.hi,trivial⟩ d.P y.out.adv.le (by simp[zr])) fun w2 z A B D E F G H I k=>?_;have:=k.sto 1;have l:=k.bt 1 58 rfl;go_wp2_with fail;refine l.kN (zAK l.P [41]) fun J b=>?_;have:=b.c 2;have:=b.c 0;have:=b.f 0;go_wp2_with fail;exact b.fin 0 1 rfl (p.out.symm.trans (by
  unfold zD;dsimp only
  ))
theorem zNo {C:Pc} {s:Ps} {w:World} (g:Pre C.L (.simple) s) (K:KP C (zk C.L (.simple) s)) (h:Pa C s w):zo C s w (.simple):=by
 refine zBP g h fun H k G r W X l m o d=>?_;have p:=zA K;clear K h g;go_enter func114,ntmps114;go_upto_region 1 with(fail);clear m o;go_wp2_with fail;refine d.kD (p.out.rank (q:=.assign) ⟨d.P.hi,trivial⟩ d.P (yAC _) (by simp[zr])) fun w1 t u v y z A B D E e=>?_;have:=e.sto 1;go_wp2_with fail;refine e.litK _ (n:=1) (e.ts1 1) rfl js rfl fun w2 F=>?_;have j:=F.bt 2 58 rfl;go_wp2_with fail;refine j.kN (zCD j.P) fun I b=>?_;have:=b.c 3;have:=b.c 0;have:=b.f 0;go_wp2_with fail;exact b.fin 0 2 rfl (l.out.symm.trans (by
  unfold zD;dsimp only
  ))
theorem zNp {C:Pc} {v:List UInt8} {s:Ps} {w:World} (m:Pre C.L (.clause v) s) (K:KP C (zk C.L (.clause v) s)) (h:Pa C s w):zo C s w (.clause v):=by
 refine zBP m h fun R u Q r W X o y z A=>?_;have B:=zA K;clear K h m;go_enter func153,ntmps153;go_upto_region 1 with(fail);clear y z;go_wp2_with fail;refine A.made0 _ fun w1 D=>?_;have e:=D.bt 1 58 rfl
 by_cases b:onP C.L v s=true
 · have d:=zA b;clear b;go_wp2_with fail;refine e.kB (zAo e.P v d) fun w3 p=>?_;go_wp2_with fail;refine p.kN (zAK p.P v) fun S g=>?_;have:=g.c 2;have:=g.c 0;have:=g.f 0;go_wp2_with fail;exact g.fin 0 1 rfl (o.out.symm.trans (by
    unfold zD;dsimp only;rw[if_pos d.out]))
 · have d:=zA (show onP C.L v s=false by simpa using b);clear b;go_wp2_with fail;refine e.kB (zAo e.P v d) fun T l=>?_;go_wp2_with fail;refine l.kD (B.out.rank (q:=.assign) ⟨l.P.hi,trivial⟩ l.P (yAC _) (by simp[zr])) fun U E F G H I J M N O j=>?_;have:=j.sto 3;have:=j.c 2;have:=j.f 2;go_upto_region 4 with(fail);refine zEz (j.put 2 3) fun V t=>?_;go_wp2_with fail;refine t.kN (zAK t.P v) fun Y k=>?_;have:=k.c 2;have:=k.c 0;have:=k.f 0;go_wp2_with fail;exact k.fin 0 3 rfl (o.out.symm.trans (by
    unfold zD;dsimp only;rw[if_neg (by rw[d.out];decide)]))
theorem zUL {C:Pc} {s:Ps} {w:World} (A:Pre C.L (.cond) s) (K:KP C (zk C.L (.cond) s)) (h:Pa C s w):zo C s w (.cond):=by
 refine zBP A h fun g M j r W X B N O v=>?_;have y:=zA K;clear K h A;go_enter func133,ntmps133;go_upto_region 1 with(fail);clear N O;have R:=zA (zf g (p:=.either) (s:=s) ⟨j,trivial⟩).adv.le;go_wp2_with fail;refine v.kD (y.out.rank (q:=.either) ⟨v.P.hi,trivial⟩ v.P (yAC _) (by simp[zr])) fun w1 S T U V Y a0 a1 a2 a3 D=>?_;have:=D.sto 1;have t:=D.bt 1 58 rfl
 by_cases b:onP C.L [63] ((zE C.L (.either) (s)).2)=true
 · have e:=zA b;clear b;go_wp2_with fail;refine t.kM (zBg t.P [63] e) fun w3 z=>?_;have E:=zA (g.out.on (s:=(zE C.L (.either) (s)).2) (by have:=j;exact(zf g (p:=.either) (s:=s) ⟨j,trivial⟩).adv.hi) e);have u:=zA (show s.k < (zB ((zE C.L (.either) (s)).2)).k from by have:=R.out;show s.k < ((zE C.L (.either) (s)).2).k+1;omega);have F:=zA (zf g (p:=.assign) (s:=zB ((zE C.L (.either) (s)).2)) ⟨E,trivial⟩).adv;go_wp2_with fail;refine z.kD (y.out.more (q:=.assign) ⟨z.P.hi,trivial⟩ z.P u) fun w4 a4 a5 a6 a7 a8 a9 b0 b1 b2 G=>?_;have:=G.sto 3;have H:=G.bt 3 58 rfl;go_wp2_with fail;refine H.kN (zAK H.P [58]) fun w6 l=>?_;have hn:=zA (zR (w:=[58]) g F.out.hi).adv;have I:=zA (fun Q=>l.dr.kD (Q:=Q) (y.out.more (q:=.assign) ⟨l.dr.P.hi,trivial⟩ l.dr.P (yAA u (yAD F.out.le hn.out.le))));have:=l.c 2;have:=l.c 4;go_wp2_with fail;go_region_law (first | (go_simp;go_at_call 106;(with_reducible refine I.out _ fun w7 b3 b4 b5 b6 b7 b8 b9 c0 c1 m=>?_);have:=m.c 2;have:=m.c 4;have:=m.c 0;have J:=zA (fun Q=>m.litK 48 (n:=3) (Q:=Q) (m.ts3 1 3 5) rfl js rfl)) | (go_simp;go_at_call 32;(with_reducible refine J.out _ fun w8 o=>?_);have:=o.c 0;have:=o.f 0))
   all_goals
    have:=o.c 0;have:=o.f 0;go_wp2_with fail;exact o.fin 0 6 rfl (B.out.symm.trans (by
     unfold zD;dsimp only;rw[if_pos e.out]))
 · have e:=zA (show onP C.L [63] ((zE C.L (.either) (s)).2)=false by simpa using b);clear b;go_wp2_with fail;refine t.kM (zBl t.P [63] e) fun c2 d=>?_;have:=d.c 2;have:=d.c 0;have:=d.f 0;go_wp2_with fail;exact d.fin 0 1 rfl (B.out.symm.trans (by
    unfold zD;dsimp only;rw[if_neg (by rw[e.out];decide)]))
theorem zIm (k:Int) (h:k=43∨k=44∨k=45∨k=49) {w:World} (v:List UInt8) {q:Bool} (d:decide (v∈zI4 k)=q):Calls prog 134 #[k,v] w fun e w'=>e=.returned q∧w.grownBy w' none:=by
 have f:=zA (show decide ((⟨v.toArray⟩:ByteArray).data.toList∈zI4 k)=q from d);clear d;rcases h with rfl | rfl | rfl | rfl
 all_goals
  go_enter func134,ntmps134;go_wp2_with fail;refine(zQA _ jo _).mono ?_;rintro e1 w1 ⟨l,c1,rfl,b,c⟩;have g:=zA b;have j:=zA c;clear b c;go_wp2_with fail;refine(zF2 ⟨v.toArray⟩ (n:=(zI4 _).length) rfl g jd f).mono ?_;rintro e2 w2 ⟨rfl,rfl⟩;go_wp2_with fail;go_ret;exact⟨rfl,zAf none j⟩
def Top (k:Int) (l:List (List UInt8)):Prop:=∀{w:World} (v:List UInt8) {q:Bool},decide (v∈l)=q→Calls prog 134 #[k,v] w fun e w'=>e=.returned q∧w.grownBy w' none
theorem zQ8:Top 43 zHK:=zIm 43 jo
theorem zVS:Top 44 zDO:=zIm 44 jo
theorem zMP:Top 45 zDO:=zIm 45 jo
theorem zQ9:Top 49 zIF:=zIm 49 jo
theorem TrC.kind {w:World} {t:Tr} (h:TrC w F t [d0,d1,d2,d3,d4,d5,d6,d7,d8]):d0=.int .i64 t.nd.kind:=by
 cases t with
 | mk x l=>
  rw[zFQ]at h;obtain⟨vs,b,vo,ks,h1,_⟩:=h;unfold zWy at h1;injection h1
theorem zUM {C:Pc} {s:Ps} {w:World} (B:Pre C.L (.unary) s) (K:KP C (zk C.L (.unary) s)) (h:Pa C s w) (hk:((zG C.L s.k).kind=5∨(zG C.L s.k).kind=6)) (D:(zG C.L s.k).text∈zHK):zo C s w (.unary):=by
 refine zBP B h fun R S E r W X T U V F=>?_;have Y:=zA K;clear K h B;go_enter func167,ntmps167;go_upto_region 1 with(fail);clear U V;have G:=zA hk;have H:=zA D;clear hk D;obtain⟨⟨kd,tx,st,nk,nn,mg,ps,nl⟩,e⟩:=zW C.L (s).k;have d:=zA (show kd=5∨kd=6 from by have:=G.out;rwa[e.out]at this);obtain⟨e5,e6⟩ | ⟨e5,e6⟩:((kd:Int)==5)=true∧((kd:Int)==6)=false∨((kd:Int)==5)=false∧((kd:Int)==6)=true:=by have:=d.out;simp only[beq_iff_eq,yA];omega
 all_goals
  go_wp2_with fail;refine F.kT (zu F.P e) fun w1 As Am c1 c2 F1=>?_;have I:=F1.bt 1 80 rfl;obtain⟨a0,a1,a2,a3,a4,a5,a6,a7,a8⟩:=(I.b 2).nine;go_wp2_with fail;refine I.kQ (zQ8 tx (show decide (tx∈zHK)=true from by have:=H.out;rw[e.out]at this;simpa using this)) fun w3 J=>?_;have M:=zA (R.out.lt E (by rw[e.out];have:=d.out;show kd≠0;omega));obtain⟨a9,b0,b1⟩:=J.k1;have l:=J.step M;have N:=zA (fun Q=>l.dr.kD (Q:=Q) (Y.out.more (q:=.unary) ⟨l.dr.P.hi,trivial⟩ l.dr.P (yAF s.k)));have:=l.c 2;go_wp2_with fail;go_region_law (first | (go_simp;go_at_call 167;(with_reducible refine N.out _ fun w5 m o p t u v y z A g=>?_);have:=g.c 2;have:=g.c 0;have:=(g.al (.cells #[m,o,p,t,u,v,y,z,A] 58)).c 2;have O:=zA (fun Q=>g.litN 43 tx (n:=1) (Q:=Q) (g.ts1 3) rfl js rfl)) | (go_simp;go_at_call 105;(with_reducible refine O.out _ fun w6 j=>?_);have:=j.c 0;have:=j.f 0))
  all_goals
   have:=j.c 0;have:=j.f 0;go_wp2_with fail;exact j.fin 0 4 rfl (T.out.symm.trans (by
    unfold zD;dsimp only;rw[e.out,if_pos ⟨by have:=d.out;show kd=5∨kd=6;omega,by have:=H.out;rwa[e.out]at this⟩]))
theorem zUN {C:Pc} {s:Ps} {w:World} (hp:Pre C.L (.unary) s) (K:KP C (zk C.L (.unary) s)) (h:Pa C s w) (hk:((zG C.L s.k).kind=5∨(zG C.L s.k).kind=6)) (hw:¬(zG C.L s.k).text∈zHK) (E:(zG C.L s.k).text∈zDO):zo C s w (.unary):=by
 refine zBP hp h fun HL b0 a4 r W X G hW hX F0=>?_;have HK:=zA K;clear K h hp;go_enter func167,ntmps167;go_upto_region 1 with(fail);clear hW hX;have a5:=zA hk;have A:=zA hw;have j:=zA E;clear hk hw E;obtain⟨⟨kd,tx,st,nk,nn,mg,ps,nl⟩,d⟩:=zW C.L (s).k;have e:=zA (show kd=5∨kd=6 from by have:=a5.out;rwa[d.out]at this);obtain⟨e5,e6⟩ | ⟨e5,e6⟩:((kd:Int)==5)=true∧((kd:Int)==6)=false∨((kd:Int)==5)=false∧((kd:Int)==6)=true:=by have:=e.out;simp only[beq_iff_eq,yA];omega
 all_goals
  go_wp2_with fail;refine F0.kT (zu F0.P d) fun w1 As Am c1 c2 F1=>?_;have F2:=F1.bt 1 80 rfl;obtain⟨H,I,J,M,N,O,Q,R,S⟩:=(F2.b 2).nine;go_wp2_with fail;refine F2.kQ (zQ8 tx (show decide (tx∈zHK)=false from by have:=A.out;rw[d.out]at this;simpa using this)) fun w3 F3=>?_;obtain⟨H,I,J,M,N,O,Q,R,S⟩:=(F3.b 2).nine;go_wp2_with fail;refine F3.kQ (zVS tx (show decide (tx∈zDO)=true from by have:=j.out;rw[d.out]at this;simpa using this)) fun w4 F4=>?_;have a6:=zA (HL.out.lt a4 (by rw[d.out];have:=e.out;show kd≠0;omega));obtain⟨a7,a8,a9⟩:=F4.k1;have B:=F4.step a6;have:=B.c 2;go_wp2_with fail;clear a7 a8 a9;refine B.kD (HK.out.more (q:=.unary) ⟨B.P.hi,trivial⟩ B.P (yAF s.k)) fun w6 b1 T U V Y a0 a1 a2 a3 F6=>?_;have:=F6.sto 3;obtain rfl:=(F6.t 3).kind;have D:=F6.box [.int .i64 ((zE C.L (.unary) (zB (s))).1).nd.kind,T,U,V,Y,a0,a1,a2,a3] 58 rfl jd jd
  by_cases hb:((zE C.L (.unary) (zB (s))).2).bad=0
  · have o:=zA (show(((zE C.L (.unary) (zB (s))).2).bad==0)=true by rw[hb];rfl);have p:=zA hb;clear hb;go_wp2_with fail;refine D.kB (zBm D.P o) fun w8 g=>?_;have:=g.c 4;go_wp2_with fail;refine(zB5 _ _).mono ?_;rintro b2 b3 ⟨rfl,rfl⟩;obtain⟨bt,u⟩:=jx (zAB ((zE C.L (.unary) (zB (s))).1).nd.kind);rw[u];have F:=zA u;clear u;cases bt with
    | true=>
     have:=g.c 2;have:=g.c 4;go_wp2_with fail;refine g.litN _ _ (n:=1) (g.ts1 3) rfl js rfl fun b4 v=>?_;have:=v.c 0;have:=v.f 0;go_wp2_with fail;exact v.fin 0 5 rfl (G.out.symm.trans (by
      unfold zD;dsimp only;rw[d.out,if_neg (fun h=>by have:=A.out;rw[d.out]at this;exact this h.2),if_pos ⟨by have:=e.out;show kd=5∨kd=6;omega,by have:=j.out;rwa[d.out]at this⟩]
      try dsimp only
      rw[F.out,if_neg js]))
    | false=>
     go_wp2_with fail;refine g.kN (zAO g.P) fun b5 l=>?_;have:=l.c 2;have:=l.c 4;go_wp2_with fail;refine l.litN _ _ (n:=1) (l.ts1 3) rfl js rfl fun b6 y=>?_;have:=y.c 0;have:=y.f 0;go_wp2_with fail;exact y.fin 0 5 rfl (G.out.symm.trans (by
      unfold zD;dsimp only;rw[d.out,if_neg (fun h=>by have:=A.out;rw[d.out]at this;exact this h.2),if_pos ⟨by have:=e.out;show kd=5∨kd=6;omega,by have:=j.out;rwa[d.out]at this⟩]
      try dsimp only
      rw[F.out,if_pos ⟨p.out,rfl⟩]))
  · have o:=zA (show(((zE C.L (.unary) (zB (s))).2).bad==0)=false by rw[yA];exact hb);have p:=zA hb;clear hb;go_wp2_with fail;refine D.kB (zBm D.P o) fun b7 m=>?_;have:=m.c 2;have:=m.c 4;go_wp2_with fail;refine m.litN _ _ (n:=1) (m.ts1 3) rfl js rfl fun b8 z=>?_;have:=z.c 0;have:=z.f 0;go_wp2_with fail;exact z.fin 0 5 rfl (G.out.symm.trans (by
     unfold zD;dsimp only;rw[d.out,if_neg (fun h=>by have:=A.out;rw[d.out]at this;exact this h.2),if_pos ⟨by have:=e.out;show kd=5∨kd=6;omega,by have:=j.out;rwa[d.out]at this⟩]
     try dsimp only
     rw[if_neg (fun h=>p.out h.1)]))
theorem zUO {C:Pc} {s:Ps} {w:World} (hp:Pre C.L (.unary) s) (K:KP C (zk C.L (.unary) s)) (h:Pa C s w) (hk:((zG C.L s.k).kind=5∨(zG C.L s.k).kind=6)) (hw:¬(zG C.L s.k).text∈zHK) (I:¬(zG C.L s.k).text∈zDO):zo C s w (.unary):=by
 refine zBP hp h fun HL b5 c0 r W X E hW hX F0=>?_;have HK:=zA K;clear K h hp;go_enter func167,ntmps167;go_upto_region 1 with(fail);clear hW hX;have b1:=zA hk;have D:=zA hw;have j:=zA I;clear hk hw I;obtain⟨⟨kd,tx,st,nk,nn,mg,ps,nl⟩,d⟩:=zW C.L (s).k;have M:=zA (show kd=5∨kd=6 from by have:=b1.out;rwa[d.out]at this);obtain⟨e5,e6⟩ | ⟨e5,e6⟩:((kd:Int)==5)=true∧((kd:Int)==6)=false∨((kd:Int)==5)=false∧((kd:Int)==6)=true:=by have:=M.out;simp only[beq_iff_eq,yA];omega
 all_goals
  go_wp2_with fail;refine F0.kT (zu F0.P d) fun w1 As Am c1 c2 F1=>?_;have F2:=F1.bt 1 80 rfl;obtain⟨N,O,Q,R,S,T,U,V,Y⟩:=(F2.b 2).nine;go_wp2_with fail;refine F2.kQ (zQ8 tx (show decide (tx∈zHK)=false from by have:=D.out;rw[d.out]at this;simpa using this)) fun w3 F3=>?_;obtain⟨N,O,Q,R,S,T,U,V,Y⟩:=(F3.b 2).nine;go_wp2_with fail;refine F3.kQ (zVS tx (show decide (tx∈zDO)=false from by have:=j.out;rw[d.out]at this;simpa using this)) fun w4 F4=>?_;go_wp2_with fail;refine F4.kD (HK.out.rank (q:=.calls) ⟨F4.P.hi,trivial⟩ F4.P (yAC _) (by simp[zr])) fun w5 b6 a0 a1 a2 a3 a4 a5 a6 a7 H=>?_;have:=H.sto 3;obtain rfl:=(H.t 3).kind;have b7:=(H.b 2).lt;have F6:=H.box [.int .i64 ((zE C.L (.calls) (s)).1).nd.kind,a0,a1,a2,a3,a4,a5,a6,a7] 58 rfl jd jd;obtain⟨⟨v,m,sto,c3,c4,c5,c6,b2⟩,e⟩:=zW C.L ((zE C.L (.calls) (s)).2).k;go_wp2_with fail;refine F6.kT (zu F6.P e) fun w7 c7 c8 c9 d0 F7=>?_;have:=F7.c 2;have:=F7.f 2;go_upto_region 14 with(fail);refine zEz (F7.put 2 5) fun w8 u=>?_;have:=u.c 2
  by_cases y:v=5
  · have o:=zA y;have b3:((v:Int)==5)=true:=by rw[beq_iff_eq];omega
    clear y
    by_cases z:m∈zDO
    · have l:=zA z;clear z;go_wp2_with fail;refine u.kQ (zMP m (show decide (m∈zDO)=true from by simpa using l.out)) fun w9 g=>?_;have:=g.c 2;have:=g.c 4;cases b2 with
      | true=>
       have:=g.c 0;have:=g.f 0;go_wp2_with fail;exact g.fin 0 3 rfl (E.out.symm.trans (by
        unfold zD;dsimp only;rw[d.out,if_neg (fun h=>by have:=D.out;rw[d.out]at this;exact this h.2),if_neg (fun h=>by have:=j.out;rw[d.out]at this;exact this h.2)]
        try dsimp only
        rw[e.out]
        try dsimp only
        rw[if_neg js]))
      | false=>
       go_wp2_with fail;refine(zB5 _ _).mono ?_;rintro b8 b9 ⟨rfl,rfl⟩;obtain⟨bt,F⟩:=jx (zAB ((zE C.L (.calls) (s)).1).nd.kind);rw[F];have J:=zA F;clear F;cases bt with
       | true=>
        have b4:=zA (HL.out.lt (s:=(zE C.L (.calls) (s)).2) g.P.hi (by rw[e.out];have:=o.out;show v≠0;omega));obtain⟨a8,a9,b0⟩:=g.k1;have A:=g.step b4;have:=A.c 2;have:=A.c 4;go_wp2_with fail;clear a8 a9 b0;refine A.litN _ _ (n:=1) (A.ts1 3) rfl js (show _=w9.heap.size by simp) fun d1 G=>?_;have:=G.c 0;have:=G.f 0;go_wp2_with fail;exact G.fin 0 6 rfl (E.out.symm.trans (by
         unfold zD;dsimp only;rw[d.out,if_neg (fun h=>by have:=D.out;rw[d.out]at this;exact this h.2),if_neg (fun h=>by have:=j.out;rw[d.out]at this;exact this h.2)]
         try dsimp only
         rw[e.out]
         try dsimp only
         rw[if_pos ⟨o.out,l.out,rfl⟩,J.out,if_neg js]))
       | false=>
        go_wp2_with fail;refine g.kN (zAO g.P) fun d2 B=>?_;have:=B.c 4;have:=B.c 0;have:=B.f 0;go_wp2_with fail;exact B.fin 0 3 rfl (E.out.symm.trans (by
         unfold zD;dsimp only;rw[d.out,if_neg (fun h=>by have:=D.out;rw[d.out]at this;exact this h.2),if_neg (fun h=>by have:=j.out;rw[d.out]at this;exact this h.2)]
         try dsimp only
         rw[e.out]
         try dsimp only
         rw[if_pos ⟨o.out,l.out,rfl⟩,J.out,if_pos rfl]))
    · have l:=zA z;clear z;go_wp2_with fail;refine u.kQ (zMP m (show decide (m∈zDO)=false from by simpa using l.out)) fun d3 p=>?_;have:=p.c 2;have:=p.c 4;have:=p.c 0;have:=p.f 0;go_wp2_with fail;exact p.fin 0 3 rfl (E.out.symm.trans (by
       unfold zD;dsimp only;rw[d.out,if_neg (fun h=>by have:=D.out;rw[d.out]at this;exact this h.2),if_neg (fun h=>by have:=j.out;rw[d.out]at this;exact this h.2)]
       try dsimp only
       rw[e.out]
       try dsimp only
       rw[if_neg (fun h=>l.out h.2.1)]))
  · have o:=zA y;have b3:((v:Int)==5)=false:=by rw[yA];omega
    clear y;have:=u.c 4;have:=u.c 0;have:=u.f 0;go_wp2_with fail;exact u.fin 0 3 rfl (E.out.symm.trans (by
     unfold zD;dsimp only;rw[d.out,if_neg (fun h=>by have:=D.out;rw[d.out]at this;exact this h.2),if_neg (fun h=>by have:=j.out;rw[d.out]at this;exact this h.2)]
     try dsimp only
     rw[e.out]
     try dsimp only
     rw[if_neg (fun h=>o.out h.1)]))
theorem zUP {C:Pc} {s:Ps} {w:World} (hp:Pre C.L (.unary) s) (K:KP C (zk C.L (.unary) s)) (h:Pa C s w) (hk:((zG C.L s.k).kind≠5∧(zG C.L s.k).kind≠6)) (hw:True):zo C s w (.unary):=by
 refine zBP hp h fun HL a6 b8 r W X E hW hX F0=>?_;have HK:=zA K;clear K h hp;go_enter func167,ntmps167;go_upto_region 1 with(fail);clear hW hX;have a2:=zA hk;have HW:=zA hw;clear hk hw;obtain⟨⟨kd,tx,st,nk,nn,mg,ps,nl⟩,u⟩:=zW C.L (s).k;have d:=zA (show kd≠5∧kd≠6 from by have:=a2.out;rwa[u.out]at this);have e5:((kd:Int)==5)=false:=by have:=d.out.1;rw[yA];omega
 have e6:((kd:Int)==6)=false:=by have:=d.out.2;rw[yA];omega
 go_wp2_with fail;refine F0.kT (zu F0.P u) fun w1 As Am c1 c2 F1=>?_;have H:=F1.bt 1 80 rfl;obtain⟨a7,a8,a9,b0,b1,b2,b3,b4,b5⟩:=(H.b 2).nine;go_wp2_with fail;refine H.kD (HK.out.rank (q:=.calls) ⟨H.P.hi,trivial⟩ H.P (yAC _) (by simp[zr])) fun w3 b6 M N O Q R S T U I=>?_;have:=I.sto 3;obtain rfl:=(I.t 3).kind;have b7:=(I.b 2).lt;have F4:=I.box [.int .i64 ((zE C.L (.calls) (s)).1).nd.kind,M,N,O,Q,R,S,T,U] 58 rfl jd jd;obtain⟨⟨y,m,sto,b9,c0,c3,c4,a3⟩,g⟩:=zW C.L ((zE C.L (.calls) (s)).2).k;go_wp2_with fail;refine F4.kT (zu F4.P g) fun w5 c5 c6 c7 c8 V=>?_;have:=V.c 2;have:=V.f 2;go_upto_region 14 with(fail);refine zEz (V.put 2 5) fun w6 v=>?_;have:=v.c 2
 by_cases z:y=5
 · have o:=zA z;have a4:((y:Int)==5)=true:=by rw[beq_iff_eq];omega
   clear z
   by_cases A:m∈zDO
   · have l:=zA A;clear A;go_wp2_with fail;refine v.kQ (zMP m (show decide (m∈zDO)=true from by simpa using l.out)) fun w7 j=>?_;have:=j.c 2;have:=j.c 4;cases a3 with
     | true=>
      have:=j.c 0;have:=j.f 0;go_wp2_with fail;exact j.fin 0 3 rfl (E.out.symm.trans (by
       unfold zD;dsimp only;rw[u.out,if_neg (fun h=>h.1.elim (fun e=>d.out.1 e) (fun e=>d.out.2 e)),if_neg (fun h=>h.1.elim (fun e=>d.out.1 e) (fun e=>d.out.2 e))]
       try dsimp only
       rw[g.out]
       try dsimp only
       rw[if_neg js]))
     | false=>
      go_wp2_with fail;refine(zB5 _ _).mono ?_;rintro c9 d0 ⟨rfl,rfl⟩;obtain⟨bt,F⟩:=jx (zAB ((zE C.L (.calls) (s)).1).nd.kind);rw[F];have J:=zA F;clear F;cases bt with
      | true=>
       have a5:=zA (HL.out.lt (s:=(zE C.L (.calls) (s)).2) j.P.hi (by rw[g.out];have:=o.out;show y≠0;omega));obtain⟨Y,a0,a1⟩:=j.k1;have B:=j.step a5;have:=B.c 2;have:=B.c 4;go_wp2_with fail;clear Y a0 a1;refine B.litN _ _ (n:=1) (B.ts1 3) rfl js (show _=w7.heap.size by simp) fun d1 G=>?_;have:=G.c 0;have:=G.f 0;go_wp2_with fail;exact G.fin 0 6 rfl (E.out.symm.trans (by
        unfold zD;dsimp only;rw[u.out,if_neg (fun h=>h.1.elim (fun e=>d.out.1 e) (fun e=>d.out.2 e)),if_neg (fun h=>h.1.elim (fun e=>d.out.1 e) (fun e=>d.out.2 e))]
        try dsimp only
        rw[g.out]
        try dsimp only
        rw[if_pos ⟨o.out,l.out,rfl⟩,J.out,if_neg js]))
      | false=>
       go_wp2_with fail;refine j.kN (zAO j.P) fun d2 D=>?_;have:=D.c 4;have:=D.c 0;have:=D.f 0;go_wp2_with fail;exact D.fin 0 3 rfl (E.out.symm.trans (by
        unfold zD;dsimp only;rw[u.out,if_neg (fun h=>h.1.elim (fun e=>d.out.1 e) (fun e=>d.out.2 e)),if_neg (fun h=>h.1.elim (fun e=>d.out.1 e) (fun e=>d.out.2 e))]
        try dsimp only
        rw[g.out]
        try dsimp only
        rw[if_pos ⟨o.out,l.out,rfl⟩,J.out,if_pos rfl]))
   · have l:=zA A;clear A;go_wp2_with fail;refine v.kQ (zMP m (show decide (m∈zDO)=false from by simpa using l.out)) fun d3 p=>?_;have:=p.c 2;have:=p.c 4;have:=p.c 0;have:=p.f 0;go_wp2_with fail;exact p.fin 0 3 rfl (E.out.symm.trans (by
      unfold zD;dsimp only;rw[u.out,if_neg (fun h=>h.1.elim (fun e=>d.out.1 e) (fun e=>d.out.2 e)),if_neg (fun h=>h.1.elim (fun e=>d.out.1 e) (fun e=>d.out.2 e))]
      try dsimp only
      rw[g.out]
      try dsimp only
      rw[if_neg (fun h=>l.out h.2.1)]))
 · have o:=zA z;have a4:((y:Int)==5)=false:=by rw[yA];omega
   clear z;have:=v.c 4;have:=v.c 0;have:=v.f 0;go_wp2_with fail;exact v.fin 0 3 rfl (E.out.symm.trans (by
    unfold zD;dsimp only;rw[u.out,if_neg (fun h=>h.1.elim (fun e=>d.out.1 e) (fun e=>d.out.2 e)),if_neg (fun h=>h.1.elim (fun e=>d.out.1 e) (fun e=>d.out.2 e))]
    try dsimp only
    rw[g.out]
    try dsimp only
    rw[if_neg (fun h=>o.out h.1)]))
theorem zRA {C:Pc} {s:Ps} {w:World} (b:Pre C.L .unary s) (K:KP C (zk C.L .unary s)) (h:Pa C s w):zo C s w .unary:=by
 by_cases k5:(zG C.L s.k).kind=5∨(zG C.L s.k).kind=6
 · by_cases u:(zG C.L s.k).text∈zHK
   · exact zUM b K h k5 u
   · by_cases p:(zG C.L s.k).text∈zDO
     · exact zUN b K h k5 u p
     · exact zUO b K h k5 u p
 · exact zUP b K h (not_or.1 k5) trivial
theorem zRB {m n:Nat} (b:n < 8) (h:m=n):(zKC m==(n:Int))=true:=by
 subst h;unfold zKC;rw[jn];simp
theorem zRC {m n:Nat} (h:¬m=n):(zKC m==(n:Int))=false:=by
 rw[yA];unfold zKC;split<;>omega
theorem zRD {C:Pc} {n:Nat} {s:Ps} {w:World} (F:Pre C.L (.level n) s) (K:KP C (zk C.L (.level n) s)) (h:Pa C s w):zo C s w (.level n):=by
 refine zBP F h fun o b4 a1 r W X HR hW hX m=>?_;have G:=zA K;have c7:n≤8:=F.2;clear K h F;go_enter func160,ntmps160;go_upto_region 1 with(fail);clear hW hX
 by_cases H:n=8
 · subst H;go_wp2_with fail;refine m.kD (G.out.rank (q:=.unary) ⟨m.P.hi,trivial⟩ m.P (yAC _) (by simp[zr])) fun w1 b5 b6 b7 b8 b9 c0 c3 c4 c5 z=>?_;have:=z.sto 1;have:=z.c 0;have:=z.f 0;go_wp2_with fail;exact z.fin 0 1 rfl (HR.out.symm.trans (by
    unfold zD;dsimp only;rw[if_pos rfl]))
 · have b:n < 8:=by omega
   have c8:IntKind.i64.wrap ((n:Int)+1)=(n:Int)+1:=by rw[IntKind.wrap_i64];omega
   have e8:((n:Int)==8)=false:=by rw[yA];omega
   have HN:=zA H;clear H;have a2:=zA (show zr (.level (n+1)) s < zr (.level n) s by simp only[zr];omega);go_wp2_with fail;refine m.kD (G.out.rank (q:=.level (n+1)) ⟨m.P.hi,b⟩ m.P (yAC _) a2) fun w3 I J M N O R S T U F3=>?_;have:=F3.sto 1;have F4:=F3.bt 1 58 rfl;have D:=zA (zf o (p:=.level (n+1)) (s:=s) ⟨a1,b⟩).adv.le;have a3:=zA (show zE C.L (.levelL n ((zE C.L (.level (n+1)) (s)).1)) ((zE C.L (.level (n+1)) (s)).2)=r by
    refine Eq.trans ?_ HR;unfold zD;dsimp only;rw[if_neg HN.out])
   have c9:=zA (show C.L.length - ((zE C.L (.level (n+1)) (s)).2).k≤C.L.length - s.k by have:=D.out;omega);go_wp2_with fail
   go_loopg [6] (C.L.length - ((zE C.L (.level (n+1)) (s)).2).k) (fun gk _ wr=>∃(e:Tr) (s':Ps) (e0 e1 e2 e3 e4 e5 e6 e7 e8:Value),C.L.length - s'.k≤gk∧s.k≤s'.k∧Hid (zE C.L (.levelL n e) s'=r)∧Hid (Fr C (w.heap.size≤·) w [(w3.heap.size),X] [.bx X 58 [(0:Int),"",(),(0:Int),(0:Int),false,(),(),()],.bx (w3.heap.size) 58 [e0,e1,e2,e3,e4,e5,e6,e7,e8],.tr e [e0,e1,e2,e3,e4,e5,e6,e7,e8]] s' wr))
   case atStart=>exact⟨(zE C.L (.level (n+1)) (s)).1,(zE C.L (.level (n+1)) (s)).2,I,J,M,N,O,R,S,T,U,by omega,D,a3,F4.pk [(w3.heap.size),X] [0,2,1] js jd rfl js js⟩
   case round=>
    obtain⟨e,s',e0,e1,e2,e3,e4,e5,e6,e7,e8,d0,c6,E,Fl⟩:=hrel;obtain⟨⟨kd,tx,st,nk,nn,mg,ps,nl⟩,t⟩:=zW C.L (s').k;go_wp2_with fail;refine Fl.kT (zu Fl.P t) fun w6 As Am c1 c2 F6=>?_
    by_cases hb:zBE ⟨kd,tx,st,nk,nn,mg,ps,nl⟩=n
    · have a4:=zRB b hb;have j:=zA hb;clear hb;go_wp2_with fail;refine F6.kQ (zMM) fun w7 F7=>?_;have d1:=zak;go_wp2_with fail;refine F7.kT (zu F7.P t) fun w8 d2 d3 d4 d5 V=>?_;have l:=zA (o.out.lt (s:=s') V.P.hi (by rw[t.out];exact zEI (by rw[j.out];omega)));obtain⟨d6,d7,d8⟩:=V.k1;have A:=V.step l;have B:=zA (zf o (p:=.level (n+1)) (s:=zB s') ⟨l,b⟩);have Y:=zA (fun Q=>A.dr.kD (Q:=Q) (args:=#[C,.int .i64 ((n:Int)+1)]) (G.out.more (q:=.level (n+1)) ⟨A.dr.P.hi,b⟩ A.dr.P (by show s.k < s'.k+1;omega)));have:=A.c 1;go_wp2_with fail;go_region_law (first | (go_simp;go_at_call 160;(with_reducible refine Y.out _ fun d9 a5 a6 a7 a8 a9 b0 b1 b2 b3 u=>?_);have:=u.c 1;have a0:=zA (fun Q=>u.litN 46 tx (n:=2) (Q:=Q) (u.ts2 2 5) rfl js rfl)) | (go_simp;go_at_call 105;(with_reducible refine a0.out _ fun e9 v=>?_);have:=v.c 1;have:=v.f 1))
      all_goals
       have y:=zA (show zE C.L (.levelL n e) s'=zE C.L (.levelL n (trN 46 (tx) [e,(zE C.L (.level (n+1)) (zB (s'))).1])) ((zE C.L (.level (n+1)) (zB (s'))).2) by
        rw[zV o.out (p:=.levelL n e) ⟨(Nat.le_of_lt l.out),b⟩];unfold zD;dsimp only;rw[t.out,if_pos j.out])
       have f0:(zB s').k=s'.k+1:=rfl;have f1:=B.out.adv.le;have f2:=l.out;go_wp2_with fail
       go_roundg (C.L.length - ((zE C.L (.level (n+1)) (zB (s'))).2).k)
       case measure=>omega
       case rel=>
        exact⟨_,_,_,_,_,_,_,_,_,_,_,yAC _,jo,y.out.symm.trans E,(v.put 1 6).pk [(w3.heap.size),X] [0,1,6] js jd rfl js js⟩
    · have a4:=zRC (n:=n) hb;have j:=zA hb;clear hb;go_wp2_with fail;refine F6.kQ (zMM) fun f3 d=>?_;have:=d.c 1;have:=d.sto 2;have y:=zA (show zE C.L (.levelL n e) s'=(e,s') by
       rw[zV o.out (p:=.levelL n e) ⟨d.P.hi,b⟩];unfold zD;dsimp only;rw[t.out,if_neg j.out])
      have:=d.c 0;have:=d.f 0;go_wp2_with fail;exact d.fin 0 2 rfl (E.out.symm.trans y)
theorem zK9 {C:Pc} {s:Ps} {w:World} (hp:Pre C.L (.either) s) (K:KP C (zk C.L (.either) s)) (h:Pa C s w) (d:onP C.L [63,63] (zE C.L (.level 0) s).2=true):zo C s w (.either):=by
 refine zBP hp h fun y a4 a0 r W X HR hW hX J=>?_;have HK:=zA K;clear K h hp;go_enter func152,ntmps152;go_upto_region 1 with(fail);clear hW hX;have j:=zA d;clear d;go_wp2_with fail;refine J.kD (HK.out.rank (q:=.level 0) ⟨J.P.hi,yAE _⟩ J.P (yAC _) (by simp[zr])) fun w1 M N O R S T U V Y F1=>?_;have:=F1.sto 1;have F2:=F1.bt 1 58 rfl;have a1:=zA (zf y (p:=.level 0) (s:=s) ⟨a0,yAE _⟩).adv.le;go_wp2_with fail;refine F2.kB (zAo F2.P [63,63] j) fun w3 F3=>?_;obtain⟨q,hq⟩:=jx (zE C.L (.nullL ((zE C.L (.level 0) (s)).1)) ((zE C.L (.level 0) (s)).2));have HQ:=zA hq;clear hq;have z:=zA (show r=(q.1,if(onP C.L [124,124] q.2 || onP C.L [38,38] q.2)=true then za C.L q.2 else q.2)from by
  refine HR.out.symm.trans ?_;unfold zD;dsimp only;rw[if_pos j.out,HQ.out])
 go_wp2_with fail
 go_loopg [9] (C.L.length - ((zE C.L (.level 0) (s)).2).k) (fun gk _ wr=>∃(l:Tr) (s':Ps) (e0 e1 e2 e3 e4 e5 e6 e7 e8:Value),C.L.length - s'.k≤gk∧s.k≤s'.k∧Hid (zE C.L (.nullL l) s'=q)∧Hid (Fr C (w.heap.size≤·) w [(w1.heap.size),X] [.bx X 58 [(0:Int),"",(),(0:Int),(0:Int),false,(),(),()],.bx (w1.heap.size) 58 [e0,e1,e2,e3,e4,e5,e6,e7,e8],.tr l [e0,e1,e2,e3,e4,e5,e6,e7,e8]] s' wr))
 case atStart=>exact⟨(zE C.L (.level 0) (s)).1,(zE C.L (.level 0) (s)).2,M,N,O,R,S,T,U,V,Y,by omega,a1,HQ,F3.pk [(w1.heap.size),X] [0,2,1] js jd rfl js js⟩
 case round=>
  obtain⟨l,s',e0,e1,e2,e3,e4,e5,e6,e7,e8,b7,a5,G,A⟩:=hrel
  by_cases d:onP C.L [63,63] s'=true
  · have j:=zA d;clear d;have B:=zA (y.out.on A.P.hi j);go_wp2_with fail;refine A.kM (zBg A.P [63,63] j) fun w5 D=>?_;have E:=zA (zf y (p:=.level 0) (s:=zB s') ⟨B,yAE _⟩);have a2:=zA (fun Q=>D.dr.kD (Q:=Q) (args:=#[C,(0:Int)]) (HK.out.more (q:=.level 0) ⟨D.dr.P.hi,yAE _⟩ D.dr.P (by show s.k < s'.k+1;omega)));have:=D.c 1;go_wp2_with fail;go_region_law (first | (go_simp;go_at_call 160;(with_reducible refine a2.out _ fun w6 a6 a7 a8 a9 b0 b3 b4 b5 b6 F6=>?_);have:=F6.c 1;have a3:=zA (fun Q=>F6.litN 47 [63,63] (n:=2) (Q:=Q) (F6.ts2 2 3) rfl js rfl)) | (go_simp;go_at_call 105;(with_reducible refine a3.out _ fun w7 F7=>?_);have:=F7.c 1;have:=F7.f 1))
    all_goals
     have m:=zA (show zE C.L (.nullL l) s'=zE C.L (.nullL (trN 47 ([63,63]) [l,(zE C.L (.level 0) (zB (s'))).1])) ((zE C.L (.level 0) (zB (s'))).2) by
      rw[zV y.out (p:=.nullL l) ⟨(Nat.le_of_lt B.out),trivial⟩];unfold zD;dsimp only;rw[if_pos j.out])
     have b8:(zB s').k=s'.k+1:=rfl;have b9:=E.out.adv.le;have c0:=B.out;go_wp2_with fail
     go_roundg (C.L.length - ((zE C.L (.level 0) (zB (s'))).2).k)
     case measure=>omega
     case rel=>
      exact⟨_,_,_,_,_,_,_,_,_,_,_,yAC _,jo,m.out.symm.trans G,(F7.put 1 4).pk [(w1.heap.size),X] [0,1,4] js jd rfl js js⟩
  · have j:=zA (show onP C.L [63,63] s'=false by simpa using d);clear d;go_wp2_with fail;refine A.kM (zBl A.P [63,63] j) fun w8 F8=>?_;have m:=zA (show q=(l,s')from G.out.symm.trans (by
     rw[zV y.out (p:=.nullL l) ⟨F8.P.hi,trivial⟩];unfold zD;dsimp only;rw[if_neg (by rw[j.out];decide)]))
    obtain⟨b1,H⟩:=jx (onP C.L [124,124] s');obtain⟨b2,I⟩:=jx (onP C.L [38,38] s');have u:=zA H;have v:=zA I;clear H I;go_wp2_with fail;refine F8.kB (zAo F8.P [124,124] u) fun w9 F=>?_;cases b1 with
    | true=>
     go_wp2_with fail;refine F.kN (zAO F.P) fun c1 o=>?_;have:=o.c 1;have:=o.sto 2;have:=o.c 0;have:=o.f 0;go_wp2_with fail;exact o.fin 0 2 rfl (by rw[z.out,m.out];simp[u.out,v.out])
    | false=>
     go_wp2_with fail;refine F.kB (zAo F.P [38,38] v) fun c2 e=>?_;cases b2 with
     | true=>
      go_wp2_with fail;refine e.kN (zAO e.P) fun c3 t=>?_;have:=t.c 1;have:=t.sto 2;have:=t.c 0;have:=t.f 0;go_wp2_with fail;exact t.fin 0 2 rfl (by rw[z.out,m.out];simp[u.out,v.out])
     | false=>
      have:=e.c 1;have:=e.sto 2;have:=e.c 0;have:=e.f 0;go_wp2_with fail;exact e.fin 0 2 rfl (by rw[z.out,m.out];simp[u.out,v.out])
theorem zRE {C:Pc} {s:Ps} {w:World} (hp:Pre C.L (.either) s) (K:KP C (zk C.L (.either) s)) (h:Pa C s w) (d:¬onP C.L [63,63] (zE C.L (.level 0) s).2=true):zo C s w (.either):=by
 refine zBP hp h fun l c6 M r W X HR hW hX S=>?_;have H:=zA K;clear K h hp;go_enter func152,ntmps152;go_upto_region 1 with(fail);clear hW hX;have e:=zA (show onP C.L [63,63] (zE C.L (.level 0) s).2=false by simpa using d);clear d;go_wp2_with fail;refine S.kD (H.out.rank (q:=.level 0) ⟨S.P.hi,yAE _⟩ S.P (yAC _) (by simp[zr])) fun w1 c7 c8 c9 d0 d1 d2 d3 d4 d5 F1=>?_;have:=F1.sto 1;have F2:=F1.bt 1 58 rfl;have N:=zA (zf l (p:=.level 0) (s:=s) ⟨M,yAE _⟩).adv.le;go_wp2_with fail;refine F2.kB (zAo F2.P [63,63] e) fun w3 v=>?_;have:=v.c 2;go_wp2_with fail;refine v.kO (v.both 1 rfl (H.out.rank (q:=.both ((zE C.L (.level 0) (s)).1)) ⟨v.P.hi,trivial⟩ v.P N (by simp[zr]))) fun w4 T U V Y a9 b9 c0 c1 c2 I=>?_;have:=I.sto 3;have:=I.c 2;have:=I.f 2;obtain⟨q,hq⟩:=jx (zE C.L (.orL ((zE C.L (.both ((zE C.L (.level 0) (s)).1)) ((zE C.L (.level 0) (s)).2)).1)) ((zE C.L (.both ((zE C.L (.level 0) (s)).1)) ((zE C.L (.level 0) (s)).2)).2));have HQ:=zA hq;clear hq;have O:=zA (show r=(q.1,if onP C.L [63,63] q.2=true then za C.L q.2 else q.2)from by
  refine HR.out.symm.trans ?_;unfold zD;dsimp only;rw[if_neg (by rw[e.out];decide),HQ.out])
 have c3:=zA (yAD N (zf l (p:=.both ((zE C.L (.level 0) (s)).1)) (s:=(zE C.L (.level 0) (s)).2) ⟨(zf l (p:=.level 0) (s:=s) ⟨M,yAE _⟩).adv.hi,trivial⟩).adv.le);go_wp2_with fail
 go_loopg [28] (C.L.length - ((zE C.L (.both ((zE C.L (.level 0) (s)).1)) ((zE C.L (.level 0) (s)).2)).2).k) (fun gk _ wr=>∃(m:Tr) (s':Ps) (e0 e1 e2 e3 e4 e5 e6 e7 e8:Value),C.L.length - s'.k≤gk∧s.k≤s'.k∧Hid (zE C.L (.orL m) s'=q)∧Hid (Fr C (w.heap.size≤·) w [(w1.heap.size),X] [.bx X 58 [(0:Int),"",(),(0:Int),(0:Int),false,(),(),()],.bx (w1.heap.size) 58 [e0,e1,e2,e3,e4,e5,e6,e7,e8],.tr m [e0,e1,e2,e3,e4,e5,e6,e7,e8]] s' wr))
 case atStart=>exact⟨(zE C.L (.both ((zE C.L (.level 0) (s)).1)) ((zE C.L (.level 0) (s)).2)).1,(zE C.L (.both ((zE C.L (.level 0) (s)).1)) ((zE C.L (.level 0) (s)).2)).2,T,U,V,Y,a9,b9,c0,c1,c2,yAC _,c3,HQ,(I.put 2 3).pk [(w1.heap.size),X] [0,2,3] js jd rfl js js⟩
 case round=>
  obtain⟨m,s',e0,e1,e2,e3,e4,e5,e6,e7,e8,d8,d6,R,y⟩:=hrel
  by_cases d:onP C.L [124,124] s'=true
  · have e:=zA d;clear d;have z:=zA (l.out.on y.P.hi e);go_wp2_with fail;refine y.kM (zBg y.P [124,124] e) fun w6 J=>?_;have j:=zA (zf l (p:=.level 0) (s:=zB s') ⟨z,yAE _⟩);have A:=zA (zf l (p:=.both ((zE C.L (.level 0) (zB s')).1)) (s:=(zE C.L (.level 0) (zB s')).2) ⟨j.out.adv.hi,trivial⟩);have c4:=zA (fun Q=>J.dr.kD (Q:=Q) (args:=#[C,(0:Int)]) (H.out.more (q:=.level 0) ⟨J.dr.P.hi,yAE _⟩ J.dr.P (by show s.k < s'.k+1;omega)));have:=J.c 1;go_wp2_with fail;go_region_law (first | (go_simp;go_at_call 160;(with_reducible refine c4.out _ fun d9 a0 a1 a2 a3 a4 a5 a6 a7 a8 o=>?_);have:=o.c 1;have c5:=zA (fun Q=>o.kO (Q:=Q) (o.both 3 rfl (H.out.rank (q:=.both ((zE C.L (.level 0) (zB s')).1)) ⟨o.P.hi,trivial⟩ o.P (by have:=j.out.adv.le;have:(zB s').k=s'.k+1:=rfl;omega) (by simp[zr]))))) | (go_simp;go_at_call 161;(with_reducible refine c5.out _ fun e9 b0 b1 b2 b3 b4 b5 b6 b7 b8 B=>?_);have:=B.c 1;have LT:=zA (fun Q=>B.litN 47 [124,124] (n:=2) (Q:=Q) (B.ts2 2 4) rfl js rfl)) | (go_simp;go_at_call 105;(with_reducible refine LT.out _ fun f0 D=>?_);have:=D.c 1;have:=D.f 1))
    all_goals
     have u:=zA (show zE C.L (.orL m) s'=zE C.L (.orL (trN 47 ([124,124]) [m,(zE C.L (.both ((zE C.L (.level 0) (zB s')).1)) ((zE C.L (.level 0) (zB s')).2)).1])) ((zE C.L (.both ((zE C.L (.level 0) (zB s')).1)) ((zE C.L (.level 0) (zB s')).2)).2) by
      rw[zV l.out (p:=.orL m) ⟨(Nat.le_of_lt z.out),trivial⟩];unfold zD;dsimp only;rw[if_pos e.out])
     have f1:(zB s').k=s'.k+1:=rfl;have f2:=j.out.adv.le;have d7:=A.out.adv.le;have f3:=z.out;go_wp2_with fail
     go_roundg (C.L.length - ((zE C.L (.both ((zE C.L (.level 0) (zB s')).1)) ((zE C.L (.level 0) (zB s')).2)).2).k)
     case measure=>omega
     case rel=>
      exact⟨_,_,_,_,_,_,_,_,_,_,_,yAC _,jo,u.out.symm.trans R,(D.put 1 5).pk [(w1.heap.size),X] [0,1,5] js jd rfl js js⟩
  · have e:=zA (show onP C.L [124,124] s'=false by simpa using d);clear d;go_wp2_with fail;refine y.kM (zBl y.P [124,124] e) fun w7 F7=>?_;have u:=zA (show q=(m,s')from R.out.symm.trans (by
     rw[zV l.out (p:=.orL m) ⟨F7.P.hi,trivial⟩];unfold zD;dsimp only;rw[if_neg (by rw[e.out];decide)]))
    obtain⟨b1,E⟩:=jx (onP C.L [63,63] s');have F:=zA E;have f4:=zA E;clear E;go_wp2_with fail;refine F7.kB (zAo F7.P [63,63] F) fun w8 t=>?_;cases b1 with
    | true=>
     go_wp2_with fail;refine t.kN (zAO t.P) fun w9 G=>?_;have:=G.c 1;have:=G.sto 2;have:=G.c 0;have:=G.f 0;go_wp2_with fail;exact G.fin 0 2 rfl (by rw[O.out,u.out];simp[F.out])
    | false=>
     have:=t.c 1;have:=t.sto 2;have:=t.c 0;have:=t.f 0;go_wp2_with fail;exact t.fin 0 2 rfl (by rw[O.out,u.out];simp[F.out])
theorem zNq {C:Pc} {s:Ps} {w:World} (c:Pre C.L .either s) (K:KP C (zk C.L .either s)) (h:Pa C s w):zo C s w .either:=by
 by_cases b:onP C.L [63,63] (zE C.L (.level 0) s).2=true
 · exact zK9 c K h b
 · exact zRE c K h b
end Go.Proofs.YtlnbbaehihgigaaGreatDoor
