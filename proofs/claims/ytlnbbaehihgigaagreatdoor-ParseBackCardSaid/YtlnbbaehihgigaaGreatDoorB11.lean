/- Joined for the claim ParseBack: the parser, the lexer and the trees as they are walked, made short by a program of mine. -/
import Derived.Deep.AppendLies
import Derived.Deep.RegionLaw
import Derived.Test.YtlnbbaehihgigaaGreatDoorB10
import Derived.Test.YtlnbbaehihgigaaGreatDoorB07
import Derived.Test.YtlnbbaehihgigaaGreatDoorB01
import Derived.Deep.LoopGhost
set_option maxHeartbeats 16000000
set_option maxRecDepth 1000000
namespace Go.Proofs.YtlnbbaehihgigaaGreatDoor
open Go.Proofs.Tryz
open Go.RowKit
variable {args:Array Value} {cs:List Value} {v d0 d1 d2 d3 d4 d5 d6 d7 d8 v0 v1 v2 v3 v4 v5 v6 v7 v8:Value} {T:TypeId} {p:Tr×Ps} {ops:Array Oper} {K:Act→World→Prop} {rest:List Oper} {tx:List UInt8} {F:Nat→Prop} {E:Prop} {d:Act} {r0 i kd ps j:Nat} {nl:Bool} {fn:Func} {x:Tr}
theorem RowP.lt {w:World} {P:Nat→Prop} {l:List Tr} (h:RowP w P v l):∀b,v.ownBlock=some b→P b∧b < w.heap.size:=by
 obtain⟨ks,F,h⟩:=h;exact fun b hb=>⟨h.blk b hb,(h.own.lt b hb).2⟩
theorem RowP.bounds {w:World} {P:Nat→Prop} {A:Option Addr} {n c:Nat} {l:List Tr} (h:RowP w P (.slice A n c) l):l.length=n∧n≤c∧c≤maxLen:=by
 obtain⟨d,f,e,h1,b⟩:=h.shape;injection e with e1 e2 e3;subst e2 e3;exact⟨rfl,h1,b⟩
theorem RowP.fz {w:World} {P Q:Nat→Prop} {l:List Tr} (h:RowP w P v l) (c:∀b,P b→b < w.heap.size→¬Q b):Fz w Q v.ownBlock:=by
 obtain⟨ks,F,h⟩:=h;exact .own h.own fun b hb=>c b (h.blk b hb) (h.own.lt b hb).2
theorem Bx.row {w w':World} {R:Nat} {P:Nat→Prop} {l:List Tr} (h:Bx w R T cs) (b:RowP w P v l) (c:¬P R) (hg:w.grownBy w' v.ownBlock):Bx w' R T cs:=
 h.grown hg (fun e=>c (b.lt R e).1)
theorem Pa.row {C:Pc} {s:Ps} {w w':World} {P:Nat→Prop} {l:List Tr} (h:Pa C s w) (c:RowP w P v l) (d:∀b,P b→C.g < b) (hg:w.grownBy w' v.ownBlock):Pa C s w':=
 h.grown hg (fun b hb=>d b (c.lt b hb).1)
theorem zHr {a w w':World} {r:Option Nat} {P:Nat→Prop} {l:List Tr} (h:a.grownBy w r) (c:RowP w P v l) (d:∀b,P b→a.heap.size≤b) (hg:w.grownBy w' v.ownBlock):a.grownBy w' r:=
 zJl h (fun b hb=>d b (c.lt b hb).1) hg
theorem zL3 {w1 w':World} {P Q:Nat→Prop} {A:Option Addr} {n cp d:Nat} {l:List Tr} {t:Tr} {ks c:List Value} {g:Nat} (j:l.length=n) (h:RowK w1 P (.slice A n cp) l ks F) (k:TrC w1 Q t c) (m:∀b,Q b→b < w1.heap.size→P b) (f:∀b,(Value.slice A n cp).ownBlock=some b→¬Q b) (o:P w1.heap.size)
 (p:w'.ownsRow 0 58 9 (.slice (some ⟨g,0,none⟩) (n+1) d) (n+1) (ks++c)) (hg:w1.grownBy w' (Value.slice A n cp).ownBlock) (q:(Value.slice A n cp).ownBlock=some g∨g=w1.heap.size):RowP w' P (.slice (some ⟨g,0,none⟩) (n+1) d) (l++[t]):=by
 subst j;refine h.snoc k m f o p hg ?_;rcases q with e | e
 · exact .inl e.symm
 · subst e;exact .inr rfl
section
variable {Pg:Program} {o:Oper} {a:Act} {w1:World} {Px Q:Nat→Prop} {A:Option Addr} {n cp:Nat} {l:List Tr} {t:Tr} {c0 c1 c2 c3 c4 c5 c6 c7 c8:Value}
theorem zJo {z:Exit→Act→World→Prop} (j:o.guard=none) (s x:Operand)
 (B:o.op=.call {callee:=.builtin .append,args:=#[s,x],argTypes:=#[56,56]})
 (hs:a.eval s=.slice A n cp) (hn:l.length=n) (hr:RowP w1 Px (.slice A n cp) l) (ht:TrC w1 Q t [c0,c1,c2,c3,c4,c5,c6,c7,c8]) (hQ:∀b,Q b→b < w1.heap.size→Px b) (hQv:∀b,(Value.slice A n cp).ownBlock=some b→¬Q b) (hP:Px (w1.heap.size+1)) (f:n≤4097)
 (hx:a.eval x=.slice (some ⟨w1.heap.size,0,none⟩) 1 1)
 (h:∀k c w',RowP w' Px (.slice k (n+1) c) (l++[t])→(w1.alloc (.cells #[c0,c1,c2,c3,c4,c5,c6,c7,c8] 58)).grownBy w' (Value.slice A n cp).ownBlock→K (a.put o.dst (.slice k (n+1) c)) w'):
 if Region.wanted o (yielded ops a.tmps)=true then Oper.wp prog o a (w1.alloc (.cells #[c0,c1,c2,c3,c4,c5,c6,c7,c8] 58)) K z else E:=by
 obtain⟨ks,F,hk⟩:=hr;obtain⟨i,hi,m,p,q⟩:=info_parts Tryz.info_pnode;have d:=hk.keep (zF w1 (.cells #[c0,c1,c2,c3,c4,c5,c6,c7,c8] 58) none) (.none_ w1 Px);have r:TrC w1 (fun b=>Q b∧b < w1.heap.size) t [c0,c1,c2,c3,c4,c5,c6,c7,c8]:=.sub (fun b hb f=>⟨hb,f⟩) _ _ ht;have v:=TrC.keep (zF w1 (.cells #[c0,c1,c2,c3,c4,c5,c6,c7,c8] 58) none) (.none_ _ _) _ _ r;have e:=d.own;rw[hn]at e;refine step_append_lies (w1.alloc (.cells #[c0,c1,c2,c3,c4,c5,c6,c7,c8] 58)) j s x 56 B 0 58 i _ 9 144 underlying56 hi m p q rfl jd (.slice A n cp) n ks hs e ⟨w1.heap.size,0,none⟩ 1 1 [c0,c1,c2,c3,c4,c5,c6,c7,c8] hx rfl (World.news_of_block (Bx.new w1 [c0,c1,c2,c3,c4,c5,c6,c7,c8] 58)) (fun u C=>List.all_eq_true.1 ht.one u C) jd (by unfold maxLen;omega) jo (yAE _) _ rfl ?_;intro g cap w' D y G _;exact h _ _ w' (zL3 hn d v (fun b hb f=>hQ b hb.1 hb.2) (fun b hb H=>hQv b hb H.1) (by simpa using hP) D y G) y
theorem zEe {j:Exit→Act→World→Prop} (k:o.guard=none) (s x:Operand)
 (B:o.op=.call {callee:=.builtin .append,args:=#[s,x],argTypes:=#[56,56]})
 (hs:a.eval s=.slice A n cp) (hn:l.length=n) (hr:RowP w1 Px (.slice A n cp) l) (ht:TrC w1 Q t [c0,c1,c2,c3,c4,c5,c6,c7,c8]) (hQ:∀b,Q b→b < w1.heap.size→Px b) (hQv:∀b,(Value.slice A n cp).ownBlock=some b→¬Q b) (hP:Px (w1.heap.size+1)) (f:n≤4097)
 (hx:a.eval x=.slice (some ⟨w1.heap.size,0,none⟩) 1 1)
 (h:∀m c w',RowP w' Px (.slice m (n+1) c) (l++[t])→(w1.alloc (.cells #[c0,c1,c2,c3,c4,c5,c6,c7,c8] 58)).grownBy w' (Value.slice A n cp).ownBlock→wpList prog ops j rest (a.put o.dst (.slice m (n+1) c)) w'):
 wpList prog ops j (o::rest) a (w1.alloc (.cells #[c0,c1,c2,c3,c4,c5,c6,c7,c8] 58)):=by
 obtain⟨ks,F,hk⟩:=hr;obtain⟨i,hi,p,q,r⟩:=info_parts Tryz.info_pnode;have d:=hk.keep (zF w1 (.cells #[c0,c1,c2,c3,c4,c5,c6,c7,c8] 58) none) (.none_ w1 Px);have v:TrC w1 (fun b=>Q b∧b < w1.heap.size) t [c0,c1,c2,c3,c4,c5,c6,c7,c8]:=.sub (fun b hb f=>⟨hb,f⟩) _ _ ht;have y:=TrC.keep (zF w1 (.cells #[c0,c1,c2,c3,c4,c5,c6,c7,c8] 58) none) (.none_ _ _) _ _ v;have e:=d.own;rw[hn]at e;refine wpList_append_lies (w1.alloc (.cells #[c0,c1,c2,c3,c4,c5,c6,c7,c8] 58)) k s x 56 B 0 58 i _ 9 144 underlying56 hi p q r rfl jd (.slice A n cp) n ks hs e ⟨w1.heap.size,0,none⟩ 1 1 [c0,c1,c2,c3,c4,c5,c6,c7,c8] hx rfl (World.news_of_block (Bx.new w1 [c0,c1,c2,c3,c4,c5,c6,c7,c8] 58)) (fun u C=>List.all_eq_true.1 ht.one u C) jd (by unfold maxLen;omega) jo (yAE _) _ rfl ?_;intro g cap w' D z E _;exact h _ _ w' (zL3 hn d y (fun b hb f=>hQ b hb.1 hb.2) (fun b hb G=>hQv b hb G.1) (by simpa using hP) D z E) z
end
inductive Ob where
 | bx (R:Nat) (T:TypeId) (cs:List Value)
 | tr (t:Tr) (cs:List Value)
 | tn (lo:Nat) (t:Tr) (cs:List Value)
 | ro (v:Value) (l:List Tr)
 | rn (hi:Nat) (v:Value) (l:List Tr)
 | lf (T:TypeId) (v:Value) (n:Nat) (xs:List Value)
 | vs (cs:List Value)
def Ob.blk:Ob→Option Nat
 | .bx R _ _=>some R
 | _=>none
def Ob.cells:Ob→List Value
 | .tr _ cs=>cs
 | .tn _ _ cs=>cs
 | .vs cs=>cs
 | .bx _ _ cs=>cs
 | _=>[]
def Ob.Ok (D:List Nat) (P:Nat→Prop) (w:World):Ob→Prop
 | .bx R T cs=>Bx w R T cs∧R∈D∧T≠65∧T≠67
 | .tr t cs=>TrC w P t cs
 | .tn lo t cs=>TrC w (fun b=>P b∧lo≤b) t cs∧lo≤w.heap.size
 | .ro v l=>RowP w P v l
 | .rn hi v l=>RowP w (fun b=>P b∧b < hi) v l
 | .lf T v n xs=>(T=65∨T=67)∧w.ownsRow 0 T 1 v n xs
 | .vs _=>True
def Off (B:Nat→Prop) (D:List Nat) (b:Nat):Prop:=B b∧b∉D
structure FrR (C:Pc) (B:Nat→Prop) (a:World) (D:List Nat) (os:List Ob) (s:Ps) (w:World):Prop where
 pa:Pa C s w
 gr:a.grownBy w (some C.g)
 bl:∀b,B b→C.g < b
 bh:∀b,a.heap.size≤b→B b
 ds:∀b∈D,a.heap.size≤b∧b < w.heap.size
 nd:∀(i j:Nat) (x y:Ob) (R:Nat),os[i]? =some x→os[j]? =some y→x.blk=some R→y.blk=some R→i=j
 ob:∀(i:Nat) (x:Ob),os[i]? =some x→x.Ok D (Off B D) w
structure Fr (C:Pc) (B:Nat→Prop) (a:World) (D:List Nat) (os:List Ob) (s:Ps) (w:World):Prop where
 out:FrR C B a D os s w
theorem Ob.Ok.keep {D:List Nat} {P:Nat→Prop} {w w':World} {r:Option Nat} {o:Ob} (h:o.Ok D P w) (hg:w.grownBy w' r) (c:Fz w P r) (d:∀R,o.blk=some R→r≠some R):o.Ok D P w':=by
 cases o with
 | bx R T cs=>exact⟨h.1.grown hg (d R rfl),h.2⟩
 | tr t cs=>exact TrC.keep hg c _ _ h
 | tn lo t cs=>exact⟨TrC.keep hg (c.less fun b hb=>hb.1) _ _ h.1,yAD h.2 hg.size⟩
 | ro v l=>exact RowP.keep h hg c
 | rn hi v l=>exact RowP.keep h hg (c.less fun b hb=>hb.1)
 | lf T v n xs=>exact⟨h.1,zCE h.2 h.1 hg c⟩
 | vs cs=>trivial
theorem Ob.Ok.sub {D E:List Nat} {P Q:Nat→Prop} {w:World} {o:Ob} (h:o.Ok D P w) (hs:∀b,P b→b < w.heap.size→Q b) (d:∀b∈D,b∈E):o.Ok E Q w:=by
 cases o with
 | bx R T cs=>exact⟨h.1,d R h.2.1,h.2.2⟩
 | tr t cs=>exact TrC.sub hs _ _ h
 | tn lo t cs=>exact⟨TrC.sub (fun b hb c=>⟨hs b hb.1 c,hb.2⟩) _ _ h.1,h.2⟩
 | ro v l=>exact RowP.sub h hs
 | rn hi v l=>exact RowP.sub h fun b hb c=>⟨hs b hb.1 c,hb.2⟩
 | lf T v n xs=>exact h
 | vs cs=>trivial
theorem zEf {l:List Ob} {x:Ob} {y:Ob} (h:(l++[x])[i]? =some y):(i < l.length∧l[i]? =some y)∨(i=l.length∧y=x):=by
 rcases Nat.lt_or_ge i l.length with h1 | h1
 · rw[List.getElem?_append_left h1]at h;exact .inl ⟨h1,h⟩
 · rw[List.getElem?_append_right h1]at h;rcases Nat.eq_or_lt_of_le h1 with b | b
   · rw[b,Nat.sub_self]at h;simp at h;exact .inr ⟨b.symm,h.symm⟩
   · rw[List.getElem?_eq_none (by simp;omega)]at h;cases h
section
variable {C:Pc} {B:Nat→Prop} {a:World} {D:List Nat} {os:List Ob} {s s':Ps} {w w':World} {rr:Option Nat}
theorem FrR.lt (F:FrR C B a D os s w):C.g < a.heap.size:=F.bl _ (F.bh _ (yAC _))
theorem FrR.off (F:FrR C B a D os s w) {b:Nat} (h:w.heap.size≤b):Off B D b:=⟨F.bh b (yAD F.gr.size h),fun c=>by have:=(F.ds b c).2;omega⟩
theorem FrR.go' (F:FrR C B a D os s w) (j:Pa C s' w') (hg:w.grownBy w' rr) (d:rr=none∨rr=some C.g):FrR C B a D os s' w':=by
 have k:Fz w (Off B D) rr:=by
  rcases d with rfl | rfl
  · exact .none_ _ _
  · exact .box F.pa.box jd jd (fun h=>by have:=F.bl _ h.1;omega)
 refine⟨j,zC F.gr ?_,F.bl,F.bh,fun b hb=>⟨(F.ds b hb).1,yAA (F.ds b hb).2 hg.size⟩,F.nd,fun i x f=>(F.ob i x f).keep hg k ?_⟩
 · rcases d with rfl | rfl
   · exact zAd hg _
   · exact hg
 · intro R c e;have h1:=F.ob i x f;rcases d with rfl | rfl
   · cases e
   · injection e with e;cases x with
     | bx R' T cs=>injection c with c;subst c;have:=(F.ds _ h1.2.1).1;have:=F.lt;omega
     | _=>cases c
theorem FrR.snoc (F:FrR C B a D os s w) {x:Ob} (e:x.blk=none) (h:x.Ok D (Off B D) w):FrR C B a D (os++[x]) s w:=by
 refine⟨F.pa,F.gr,F.bl,F.bh,F.ds,?_,?_⟩
 · intro i j y z R h1 b c d;rcases zEf h1 with⟨_,h1⟩ | ⟨rfl,rfl⟩
   · rcases zEf b with⟨_,b⟩ | ⟨rfl,rfl⟩
     · exact F.nd i j y z R h1 b c d
     · rw[e]at d;cases d
   · rw[e]at c;cases c
 · intro i y h1;rcases zEf h1 with⟨_,h1⟩ | ⟨rfl,rfl⟩
   · exact F.ob i y h1
   · exact h
theorem Fr.n (F:Fr C B a D os s w) (hg:w.grownBy w' none):Fr C B a D os s w':=.mk (F.out.go' (F.out.pa.new hg) hg (.inl rfl))
theorem Fr.m (F:Fr C B a D os s w) (b:Pa C s' w') (hg:w.grownBy w' (some C.g)):Fr C B a D os s' w':=.mk (F.out.go' b hg (.inr rfl))
theorem Fr.dr (F:Fr C B a D os s w):Fr C B a D os s w.drew:=F.n (zBL w none)
theorem Fr.P (F:Fr C B a D os s w):Pa C s w:=F.out.pa
theorem Fr.box (F:Fr C B a D os s w) (cs:List Value) (T:TypeId) {R:Nat} (g:w.heap.size=R) (h1:T≠65) (k:T≠67):Fr C B a (R::D) (os++[.bx R T cs]) s (w.alloc (.cells cs.toArray T)):=by
 subst g;have G:=F.out;have hg:=zF w (.cells cs.toArray T) none;have hs:w.heap.size < (w.alloc (.cells cs.toArray T)).heap.size:=by simp
 refine .mk ⟨G.pa.new hg,zC G.gr (zAd hg _),G.bl,G.bh,?_,?_,?_⟩
 · intro b hb;rcases List.mem_cons.1 hb with rfl | hb
   · exact⟨G.gr.size,hs⟩
   · exact⟨(G.ds b hb).1,Nat.lt_trans (G.ds b hb).2 hs⟩
 · have f:∀(i:Nat) (y:Ob) (R:Nat),os[i]? =some y→y.blk=some R→R < w.heap.size:=by
    intro i y R d c;have e:=G.ob i y d;cases y with
    | bx R' m l=>injection c with c;subst c;exact(G.ds _ e.2.1).2
    | _=>cases c
   intro i j y z R d c e h6;rcases zEf d with⟨_,d⟩ | ⟨rfl,rfl⟩
   · rcases zEf c with⟨_,c⟩ | ⟨rfl,rfl⟩
     · exact G.nd i j y z R d c e h6
     · injection h6 with h6;have:=f _ _ _ d e;omega
   · rcases zEf c with⟨_,c⟩ | ⟨rfl,rfl⟩
     · injection e with e;have:=f _ _ _ c h6;omega
     · rfl
 · intro i y d;rcases zEf d with⟨_,d⟩ | ⟨rfl,rfl⟩
   · refine((G.ob i y d).sub (E:=w.heap.size::D) (Q:=Off B (w.heap.size::D)) ?_ (fun b hb=>List.mem_cons_of_mem _ hb)).keep hg (.none_ _ _) (fun R _=>by simp);intro b hb o;refine⟨hb.1,fun c=>?_⟩;rcases List.mem_cons.1 c with rfl | c
     · omega
     · exact hb.2 c
   · exact⟨Bx.new w cs T,by simp,h1,k⟩
theorem Fr.bt (F:Fr C B a D os s w) (i:Nat) (T:TypeId) {R:Nat} {x:Ob} (b:w.heap.size=R) (_b:os[i]? =some x:=by rfl) (_hc:x.cells=[d0,d1,d2,d3,d4,d5,d6,d7,d8]:=by rfl) (h1:T≠65:=by decide) (h2:T≠67:=by decide):Fr C B a (R::D) (os++[.bx R T [d0,d1,d2,d3,d4,d5,d6,d7,d8]]) s (w.alloc (.cells #[d0,d1,d2,d3,d4,d5,d6,d7,d8] T)):=F.box [d0,d1,d2,d3,d4,d5,d6,d7,d8] T b h1 h2
theorem Fr.b (F:Fr C B a D os s w) (i:Nat) {R:Nat} (h:os[i]? =some (.bx R T cs):=by rfl):Bx w R T cs:=(F.out.ob i _ h).1
theorem Fr.c (F:Fr C B a D os s w) (i:Nat) {R:Nat} (h:os[i]? =some (.bx R T [v0,v1,v2,v3,v4,v5,v6,v7,v8]):=by rfl):w.cell? ⟨R,0,none⟩=some v0∧w.cell? ⟨R,1,none⟩=some v1∧w.cell? ⟨R,2,none⟩=some v2∧w.cell? ⟨R,3,none⟩=some v3∧w.cell? ⟨R,4,none⟩=some v4∧w.cell? ⟨R,5,none⟩=some v5∧w.cell? ⟨R,6,none⟩=some v6∧w.cell? ⟨R,7,none⟩=some v7∧w.cell? ⟨R,8,none⟩=some v8:=(F.b i h).nine
theorem Fr.f (F:Fr C B a D os s w) (i:Nat) {R:Nat} (h:os[i]? =some (.bx R T cs):=by rfl):w.frozen? ⟨R,0,none⟩=false∧w.frozen? ⟨R,1,none⟩=false∧w.frozen? ⟨R,2,none⟩=false∧w.frozen? ⟨R,3,none⟩=false∧w.frozen? ⟨R,4,none⟩=false∧w.frozen? ⟨R,5,none⟩=false∧w.frozen? ⟨R,6,none⟩=false∧w.frozen? ⟨R,7,none⟩=false∧w.frozen? ⟨R,8,none⟩=false:=(F.b i h).nineF
theorem Fr.t (F:Fr C B a D os s w) (i:Nat) {t:Tr} (h:os[i]? =some (.tr t cs):=by rfl):TrC w (Off B D) t cs:=F.out.ob i _ h
theorem Fr.r (F:Fr C B a D os s w) (i:Nat) {l:List Tr} (h:os[i]? =some (.ro v l):=by rfl):RowP w (Off B D) v l:=F.out.ob i _ h
theorem Fr.k1 (F:Fr C B a D os s w):w.cell? ⟨C.g,1,none⟩=some (.int .i64 (s.k:Int))∧w.frozen? ⟨C.g,1,none⟩=false∧s.k < C.N:=⟨F.P.c1,F.P.f 1,F.P.kN⟩
theorem Fr.step (F:Fr C B a D os s w) (hk:s.k < C.L.length - 1):Fr C B a D os (zB s) (w.setCell ⟨C.g,1,none⟩ (.int .i64 ((s.k:Int)+1))):=F.m (F.P.stepI hk rfl) (zQ w C.g 1 _)
theorem Fr.to (F:Fr C B a D os s w) {z:Int} {k':Nat} (b:z=(k':Int)) (hk:k'≤C.L.length - 1):Fr C B a D os {s with k:=k'} (w.setCell ⟨C.g,1,none⟩ (.int .i64 z)):=F.m (F.P.to b hk) (zQ w C.g 1 _)
theorem Fr.step2 (F:Fr C B a D os s w) (hk:s.k+1+1≤C.L.length - 1):Fr C B a D os (zB (zB s)) (w.setCell ⟨C.g,1,none⟩ (.int .i64 ((s.k:Int)+2))):=F.to (k':=s.k+1+1) jo hk
theorem Fr.back (F:Fr C B a D os (zB s) w) (hk:s.k≤C.L.length - 1):Fr C B a D os s (w.setCell ⟨C.g,1,none⟩ (.int .i64 (s.k:Int))):=F.to (k':=s.k) rfl hk
theorem FrR.setAt (F:FrR C B a D os s w) {R:Nat} {f:List Value} (hi:os[i]? =some (.bx R T cs)) (hg:w.grownBy w' (some R)) (hb:Bx w' R T f):FrR C B a D (os.set i (.bx R T f)) s w':=by
 obtain⟨h1,l,m,o⟩:=F.ob i _ hi;have u:=F.ds R l;have g:i < os.length:=by
  rcases Nat.lt_or_ge i os.length with d | d
  · exact d
  · rw[List.getElem?_eq_none d]at hi;cases hi
 refine⟨F.pa.grown hg (fun b hb=>by injection hb with hb;have:=F.lt;omega),zCF F.gr u.1 hg,F.bl,F.bh,fun b hb=>⟨(F.ds b hb).1,yAA (F.ds b hb).2 hg.size⟩,?_,?_⟩
 · have p:∀(j:Nat) (y:Ob),(os.set i (.bx R T f))[j]? =some y→∃z,os[j]? =some z∧z.blk=y.blk:=by
    intro j y c;rw[List.getElem?_set]at c;split at c
    · rename_i e
      subst e
      (try rw[if_pos g]at c)
      injection c with c;subst c;exact⟨_,hi,rfl⟩
    · exact⟨y,c,rfl⟩
   intro j k y z R' d h6 v A;obtain⟨E,G,q⟩:=p j y d;obtain⟨H,r,t⟩:=p k z h6;exact F.nd j k E H R' G r (q.trans v) (t.trans A)
 · intro j y c;rw[List.getElem?_set]at c;split at c
   · rename_i e
     subst e
     (try rw[if_pos g]at c)
     injection c with c;subst c;exact⟨hb,l,m,o⟩
   · rename_i e
     refine(F.ob j y c).keep hg (.box h1 m o (fun h=>h.2 l)) ?_;intro R' d h6;injection h6 with h6;subst h6;exact e (F.nd i j _ y R hi c rfl d)
theorem Fr.put9 (F:Fr C B a D os s w) (i:Nat) {R:Nat} (hi:os[i]? =some (.bx R T [v0,v1,v2,v3,v4,v5,v6,v7,v8])):Fr C B a D (os.set i (.bx R T [d0,d1,d2,d3,d4,d5,d6,d7,d8])) s (((((((((w.setCell ⟨R,0,none⟩ d0).setCell ⟨R,1,none⟩ d1).setCell ⟨R,2,none⟩ d2).setCell ⟨R,3,none⟩ d3).setCell ⟨R,4,none⟩ d4).setCell ⟨R,5,none⟩ d5).setCell ⟨R,6,none⟩ d6).setCell ⟨R,7,none⟩ d7).setCell ⟨R,8,none⟩ d8):=
 .mk (F.out.setAt hi zBj ((F.b i hi).set9 rfl))
theorem Fr.put (F:Fr C B a D os s w) (i j:Nat) {R:Nat} {x:Ob} (hi:os[i]? =some (.bx R T [v0,v1,v2,v3,v4,v5,v6,v7,v8]):=by rfl) (_hj:os[j]? =some x:=by rfl) (_hc:x.cells=[d0,d1,d2,d3,d4,d5,d6,d7,d8]:=by rfl):Fr C B a D (os.set i (.bx R T [d0,d1,d2,d3,d4,d5,d6,d7,d8])) s (((((((((w.setCell ⟨R,0,none⟩ d0).setCell ⟨R,1,none⟩ d1).setCell ⟨R,2,none⟩ d2).setCell ⟨R,3,none⟩ d3).setCell ⟨R,4,none⟩ d4).setCell ⟨R,5,none⟩ d5).setCell ⟨R,6,none⟩ d6).setCell ⟨R,7,none⟩ d7).setCell ⟨R,8,none⟩ d8):=F.put9 i hi
theorem Fr.set (F:Fr C B a D os s w) (i j:Nat) (v:Value) {R:Nat} (hi:os[i]? =some (.bx R T cs):=by rfl):Fr C B a D (os.set i (.bx R T (cs.set j v))) s (w.setCell ⟨R,j,none⟩ v):=.mk (F.out.setAt hi (zQ w R j v) ((F.b i hi).set j v))
theorem zEg {Pg:Program} {c:Code} {b:Exit→Act→World→Prop} {A:Act} (F:Fr C B a D os s w) (k:∀V,Fr C B a D os s V→Code.wp Pg c b A V):Code.wp Pg c b A w:=k w F
theorem zCe {Pg:Program} {f:Func} {b:Ending→World→Prop} {A:Act} (F:Fr C B a D os s w) (k:∀V,Fr C B a D os s V→bodyPost Pg f b .ret A V):bodyPost Pg f b .ret A w:=k w F
theorem Fr.kB {f:FuncId} {b:Bool} (F:Fr C B a D os s w) (h:Calls prog f args w (zNN C s b w)) {Q:Ending→World→Prop} (k:∀w',Fr C B a D os s w'→Q (.returned (.bool b)) w'):Calls prog f args w Q:=h.mono fun _ w' ⟨h1,_,c⟩=>h1▸k w' (F.n c)
theorem Fr.kM {f:FuncId} {b:Bool} (F:Fr C B a D os s w) (h:Calls prog f args w (zXY C s' b w)) {Q:Ending→World→Prop} (k:∀w',Fr C B a D os s' w'→Q (.returned (.bool b)) w'):Calls prog f args w Q:=h.mono fun _ w' ⟨h1,c,d⟩=>h1▸k w' (F.m c d)
theorem Fr.kN {f:FuncId} (F:Fr C B a D os s w) (h:Calls prog f args w (zW6 C s' w)) {Q:Ending→World→Prop} (k:∀w',Fr C B a D os s' w'→Q (.returned (.tuple #[])) w'):Calls prog f args w Q:=h.mono fun _ w' ⟨h1,b,c⟩=>h1▸k w' (F.m b c)
theorem Fr.kS {f:FuncId} {p:List UInt8×Ps} (F:Fr C B a D os s w) (h:Calls prog f args w (zXZ C p w)) {Q:Ending→World→Prop} (k:∀w',Fr C B a D os p.2 w'→Q (.returned (.string ⟨p.1.toArray⟩)) w'):Calls prog f args w Q:=h.mono fun _ w' ⟨h1,b,c⟩=>h1▸k w' (F.m b c)
theorem Fr.kS2 {f:FuncId} {b:List UInt8} (F:Fr C B a D os s w) (h:Calls prog f args w (zXZ C (b,s') w)) {Q:Ending→World→Prop} (k:∀w',Fr C B a D os s' w'→Q (.returned (.string ⟨b.toArray⟩)) w'):Calls prog f args w Q:=h.mono fun _ w' ⟨h1,c,d⟩=>h1▸k w' (F.m c d)
theorem Fr.kQ {f:FuncId} (F:Fr C B a D os s w) (h:Calls prog f args w (fun e w'=>e=.returned v∧w.grownBy w' none)) {Q:Ending→World→Prop} (k:∀w',Fr C B a D os s w'→Q (.returned v) w'):Calls prog f args w Q:=h.mono fun _ w' ⟨h1,b⟩=>h1▸k w' (F.n b)
theorem Fr.addT {t:Tr} (F:Fr C B a D os s w) (b:Pa C s' w') (hg:w.grownBy w' (some C.g)) (c:TrC w' (w.heap.size≤·) t cs):Fr C B a D (os++[.tr t cs]) s' w':=
 .mk ((F.m b hg).out.snoc rfl (TrC.sub (fun _ hb _=>F.out.off hb) _ _ c))
theorem Fr.kD {f:FuncId} (F:Fr C B a D os s w) (h:Calls prog f args w (zDU C p w)) {Q:Ending→World→Prop} (k:∀w' d0 d1 d2 d3 d4 d5 d6 d7 d8,Fr C B a D (os++[.tr p.1 [d0,d1,d2,d3,d4,d5,d6,d7,d8]]) p.2 w'→Q (.returned (.agg #[d0,d1,d2,d3,d4,d5,d6,d7,d8])) w'):Calls prog f args w Q:=
 h.mono fun _ w' ⟨d0,d1,d2,d3,d4,d5,d6,d7,d8,h1,b,c,d⟩=>h1▸k w' d0 d1 d2 d3 d4 d5 d6 d7 d8 (F.addT c d b)
theorem Fr.kX {f:FuncId} (F:Fr C B a D os s w) (h:Calls prog f args w (zDU C p w)) {Q:Ending→World→Prop} (k:∀x,Hid (p=x)→∀w' d0 d1 d2 d3 d4 d5 d6 d7 d8,Fr C B a D (os++[.tr x.1 [d0,d1,d2,d3,d4,d5,d6,d7,d8]]) x.2 w'→Q (.returned (.agg #[d0,d1,d2,d3,d4,d5,d6,d7,d8])) w'):Calls prog f args w Q:=F.kD h (k p (zA rfl))
theorem Fr.al (F:Fr C B a D os s w) (o:Obj):Fr C B a D os s (w.alloc o):=F.n (zF w o none)
theorem Fr.kL {f:FuncId} (F:Fr C B a D os s w) (h:Calls prog f args w (LstQ C p w)) {Q:Ending→World→Prop} (k:∀w' A n c,Hid (p.1.subs.length=n)→n≤c→c≤maxLen→Fr C B a D (os++[.ro (.slice A n c) p.1.subs]) p.2 w'→Q (.returned (.slice A n c)) w'):Calls prog f args w Q:=
 h.mono fun _ w' ⟨A,n,c,h1,b,d,e,g,h6,j⟩=>h1▸k w' A n c (zA b) d e (.mk ((F.m h6 j).out.snoc rfl (g.sub fun _ hb _=>F.out.off hb)))
theorem zUl {os:List Ob} {x:Ob} (h:os[i]? =some x):i < os.length:=by
 rcases Nat.lt_or_ge i os.length with b | b
 · exact b
 · rw[List.getElem?_eq_none b]at h;cases h
theorem FrR.rep (F:FrR C B a D os s w) {x y:Ob} (l:os[j]? =some x) (_b:x.blk=none) (m:y.blk=none) (h:y.Ok D (Off B D) w):FrR C B a D (os.set j y) s w:=by
 have c:∀(i:Nat) (z:Ob) (R:Nat),(os.set j y)[i]? =some z→z.blk=some R→os[i]? =some z:=by
  intro i z R h1 b;rw[List.getElem?_set]at h1;split at h1
  · split at h1
    · injection h1 with h1;subst h1;rw[m]at b;cases b
    · cases h1
  · exact h1
 refine⟨F.pa,F.gr,F.bl,F.bh,F.ds,fun i k z d R h1 b f g=>F.nd i k z d R (c i z R h1 f) (c k d R b g) f g,?_⟩;intro i z h1;rw[List.getElem?_set]at h1;split at h1
 · (try rw[if_pos (by rename_i e;subst e;exact zUl l)]at h1)
   injection h1 with h1;subst h1;exact h
 · exact F.ob i z h1
theorem Fr.kR {f:FuncId} (F:Fr C B a D os s w) (j:Nat) {l:List Tr} (b:os[j]? =some (.ro v l)) (h:Calls prog f args w (zDU C p w)) {Q:Ending→World→Prop} (k:∀w' d0 d1 d2 d3 d4 d5 d6 d7 d8,Fr C B a D (os.set j (.rn w.heap.size v l)++[.tn w.heap.size p.1 [d0,d1,d2,d3,d4,d5,d6,d7,d8]]) p.2 w'→Q (.returned (.agg #[d0,d1,d2,d3,d4,d5,d6,d7,d8])) w'):Calls prog f args w Q:=
 h.mono fun _ w' ⟨d0,d1,d2,d3,d4,d5,d6,d7,d8,h1,d,e,c⟩=>h1▸k w' d0 d1 d2 d3 d4 d5 d6 d7 d8
  (.mk (((F.out.rep (y:=.rn w.heap.size v l) b rfl rfl ((F.r j b).sub fun _ hb g=>⟨hb,g⟩)).go' e c (.inr rfl)).snoc (x:=.tn _ _ _) rfl ⟨TrC.sub (fun _ hb _=>⟨F.out.off hb,hb⟩) _ _ d,c.size⟩))
theorem Fr.kRX {f:FuncId} (F:Fr C B a D os s w) (j:Nat) {l:List Tr} (b:os[j]? =some (.ro v l)) (h:Calls prog f args w (zDU C p w)) {Q:Ending→World→Prop} (k:∀x,Hid (p=x)→∀w' d0 d1 d2 d3 d4 d5 d6 d7 d8,Fr C B a D (os.set j (.rn w.heap.size v l)++[.tn w.heap.size x.1 [d0,d1,d2,d3,d4,d5,d6,d7,d8]]) x.2 w'→Q (.returned (.agg #[d0,d1,d2,d3,d4,d5,d6,d7,d8])) w'):Calls prog f args w Q:=F.kR j b h (k p (zA rfl))
def Ob.calm:Ob→Ob
 | .tr _ cs=>.vs cs
 | .tn _ _ cs=>.vs cs
 | .ro _ _=>.vs []
 | .rn _ _ _=>.vs []
 | x=>x
theorem FrR.grow (F:FrR C B a D os s w) {v':Value} {l g:List Tr} {x:Ob} (p:os[j]? =some x) (q:x.blk=none) (d:RowP w (Off B D) v l) (hg:w.grownBy w' v.ownBlock) (r:RowP w' (Off B D) v' g) (hB:∀b,B b→a.heap.size≤b):FrR C B a D ((os.map Ob.calm).set j (.ro v' g)) s w':=by
 have f:∀y:Ob,y.calm.blk=y.blk:=fun y=>by cases y<;>rfl
 have t:FrR C B a D (os.map Ob.calm) s w':=by
  refine⟨F.pa.row d (fun b hb=>F.bl b hb.1) hg,zJl F.gr (fun b hb=>?_) hg,F.bl,F.bh,fun b hb=>⟨(F.ds b hb).1,yAA (F.ds b hb).2 hg.size⟩,?_,?_⟩
  · exact hB b (d.lt b hb).1.1
  · intro i k y z R h1 c m o;rw[List.getElem?_map]at h1 c;cases h5:os[i]? with
    | none=>rw[h5]at h1;cases h1
    | some e=>
     cases h6:os[k]? with
     | none=>rw[h6]at c;cases c
     | some u=>
      rw[h5]at h1;rw[h6]at c;injection h1 with h1;injection c with c;subst h1 c;rw[f]at m o;exact F.nd i k e u R h5 h6 m o
  · intro i y h1;rw[List.getElem?_map]at h1;cases h5:os[i]? with
    | none=>rw[h5]at h1;cases h1
    | some e=>
     rw[h5]at h1;injection h1 with h1;subst h1;have h6:=F.ob i e h5;cases e with
     | bx R T cs=>exact⟨h6.1.row d (fun h=>h.2 h6.2.1) hg,h6.2⟩
     | lf T v n xs=>
      refine⟨h6.1,zCE h6.2 h6.1 hg (d.fz (Q:=fun _=>False) (fun _ _ _ h=>h))⟩
     | _=>trivial
 exact t.rep (x:=x.calm) (by rw[List.getElem?_map,p];rfl) ((f x).trans q) rfl r
theorem Fr.snocS {o:Oper} {r:Exit→Act→World→Prop} (F:Fr C B a D os s w) (j m:Nat) {hi n cp:Nat} {A:Option Addr} {l:List Tr} {t:Tr} {c0 c1 c2 c3 c4 c5 c6 c7 c8:Value} (p:os[j]? =some (.rn hi (.slice A n cp) l)) (u:os[m]? =some (.tn hi t [c0,c1,c2,c3,c4,c5,c6,c7,c8])) (hB:∀b,B b→a.heap.size≤b) (v:n≤4097) (q:o.guard=none) (x y:Operand)
 (z:o.op=.call {callee:=.builtin .append,args:=#[x,y],argTypes:=#[56,56]})
 (hs:d.eval x=.slice A n cp) (hx:d.eval y=.slice (some ⟨w.heap.size,0,none⟩) 1 1)
 (h:∀e c w',Fr C B a D ((os.map Ob.calm).set j (.ro (.slice e (n+1) c) (l++[t]))) s w'→K (d.put o.dst (.slice e (n+1) c)) w'):
 if Region.wanted o (yielded ops d.tmps)=true then Oper.wp prog o d (w.alloc (.cells #[c0,c1,c2,c3,c4,c5,c6,c7,c8] 58)) K r else E:=by
 have g:RowP w (fun b=>Off B D b∧b < hi) (.slice A n cp) l:=F.out.ob j _ p;have f:=g.sub (Q:=Off B D) fun _ hb _=>hb.1;have G:TrC w (fun b=>Off B D b∧hi≤b) t [c0,c1,c2,c3,c4,c5,c6,c7,c8]:=(F.out.ob m _ u).1;refine zJo (Px:=Off B D) (Q:=fun b=>Off B D b∧hi≤b) q x y z hs g.bounds.1 f G (fun b hb _=>hb.1) (fun b hb k=>?_) (F.out.off (Nat.le_succ _)) v hx ?_
 · have:=(g.lt b hb).1.2;have:=k.2;omega
 · intro e c w' h1 k;exact h e c w' (.mk ((F.al (.cells #[c0,c1,c2,c3,c4,c5,c6,c7,c8] 58)).out.grow p rfl (f.new (zF _ _ _)) k h1 hB))
theorem Fr.snocL {o:Oper} {p:Exit→Act→World→Prop} (F:Fr C B a D os s w) (j m:Nat) {hi n cp:Nat} {A:Option Addr} {l:List Tr} {t:Tr} {c0 c1 c2 c3 c4 c5 c6 c7 c8:Value} (q:os[j]? =some (.rn hi (.slice A n cp) l)) (u:os[m]? =some (.tn hi t [c0,c1,c2,c3,c4,c5,c6,c7,c8])) (hB:∀b,B b→a.heap.size≤b) (v:n≤4097) (r:o.guard=none) (x y:Operand)
 (z:o.op=.call {callee:=.builtin .append,args:=#[x,y],argTypes:=#[56,56]})
 (hs:d.eval x=.slice A n cp) (hx:d.eval y=.slice (some ⟨w.heap.size,0,none⟩) 1 1)
 (h:∀e c w',Fr C B a D ((os.map Ob.calm).set j (.ro (.slice e (n+1) c) (l++[t]))) s w'→wpList prog ops p rest (d.put o.dst (.slice e (n+1) c)) w'):
 wpList prog ops p (o::rest) d (w.alloc (.cells #[c0,c1,c2,c3,c4,c5,c6,c7,c8] 58)):=by
 have g:RowP w (fun b=>Off B D b∧b < hi) (.slice A n cp) l:=F.out.ob j _ q;have f:=g.sub (Q:=Off B D) fun _ hb _=>hb.1;have E:TrC w (fun b=>Off B D b∧hi≤b) t [c0,c1,c2,c3,c4,c5,c6,c7,c8]:=(F.out.ob m _ u).1;refine zEe (Px:=Off B D) (Q:=fun b=>Off B D b∧hi≤b) r x y z hs g.bounds.1 f E (fun b hb _=>hb.1) (fun b hb k=>?_) (F.out.off (Nat.le_succ _)) v hx ?_
 · have:=(g.lt b hb).1.2;have:=k.2;omega
 · intro e c w' h1 k;exact h e c w' (.mk ((F.al (.cells #[c0,c1,c2,c3,c4,c5,c6,c7,c8] 58)).out.grow q rfl (f.new (zF _ _ _)) k h1 hB))
theorem Fr.snoc0 {o:Oper} {k:Exit→Act→World→Prop} (F:Fr C B a D os s w) (m:Nat) (kk:Int) (nm:List UInt8) {lo:Nat} {t:Tr} {c0 c1 c2 c3 c4 c5 c6 c7 c8:Value} (p:os[m]? =some (.tn lo t [c0,c1,c2,c3,c4,c5,c6,c7,c8])) (g:o.guard=none) (x y:Operand)
 (q:o.op=.call {callee:=.builtin .append,args:=#[x,y],argTypes:=#[56,56]})
 (hs:d.eval x=.slice none 0 0) (hx:d.eval y=.slice (some ⟨w.heap.size,0,none⟩) 1 1)
 (h:∀e c w',Fr C B a D (os++[.tn lo (trN kk nm [t]) [.int .i64 kk,.string ⟨nm.toArray⟩,.slice none 0 0,.int .i64 0,.int .i64 0,.bool false,.slice none 0 0,.slice none 0 0,.slice e 1 c]]) s w'→K (d.put o.dst (.slice e (0+1) c)) w'):
 if Region.wanted o (yielded ops d.tmps)=true then Oper.wp prog o d (w.alloc (.cells #[c0,c1,c2,c3,c4,c5,c6,c7,c8] 58)) K k else E:=by
 have f:=F.out.ob m _ p;refine zJo (Px:=fun b=>Off B D b∧lo≤b) (Q:=fun b=>Off B D b∧lo≤b) g x y q hs (l:=[]) rfl (RowP.nil _ _) f.1 (fun b hb _=>hb) (fun b hb _=>by cases hb) ⟨F.out.off (Nat.le_succ _),Nat.le_succ_of_le f.2⟩ jo hx ?_;intro e c w' h1 j;have r:=(F.al (.cells #[c0,c1,c2,c3,c4,c5,c6,c7,c8] 58)).n (w':=w') j;refine h e c w' (.mk (r.out.snoc (x:=.tn _ _ _) rfl ⟨(show TrC _ _ _ _ from RowP.treeN h1),?_⟩));have u:=j.size;have v:=f.2;simp at u;omega
theorem Fr.nar (F:Fr C B a D os s w) (j:Nat) {l:List Tr} (b:os[j]? =some (.ro v l)):Fr C B a D (os.set j (.rn w.heap.size v l)) s w:=.mk (F.out.rep b rfl rfl (RowP.sub (F.r j b) fun _ hb c=>⟨hb,c⟩))
theorem Fr.leafM (F:Fr C B a D os s w) (kk:Int) (nm:List UInt8):Fr C B a D (os++[.tn w.heap.size (trN kk nm []) [.int .i64 kk,.string ⟨nm.toArray⟩,.slice none 0 0,.int .i64 0,.int .i64 0,.bool false,.slice none 0 0,.slice none 0 0,.slice none 0 0]]) s w:=.mk (F.out.snoc (x:=.tn _ _ _) rfl ⟨(show TrC _ _ _ _ from(RowP.nil _ _).treeN),yAC _⟩)
theorem Fr.rowN (F:Fr C B a D os s w) (i:Nat) {l:List Tr} (h:os[i]? =some (.ro v l)) (kk:Int) (nm:List UInt8):Fr C B a D (os++[.tr (trN kk nm l) [.int .i64 kk,.string ⟨nm.toArray⟩,.slice none 0 0,.int .i64 0,.int .i64 0,.bool false,.slice none 0 0,.slice none 0 0,v]]) s w:=.mk (F.out.snoc rfl (show TrC _ _ _ _ from(F.r i h).treeN))
theorem Fr.rowK (F:Fr C B a D os s w) (i:Nat) {l:List Tr} (h:os[i]? =some (.ro v l)) (kk:Int):Fr C B a D (os++[.tr (trK kk l) [.int .i64 kk,.string ⟨#[]⟩,.slice none 0 0,.int .i64 0,.int .i64 0,.bool false,.slice none 0 0,.slice none 0 0,v]]) s w:=.mk (F.out.snoc rfl (show TrC _ _ _ _ from(F.r i h).treeK))
theorem Fr.nil (F:Fr C B a D os s w):Fr C B a D (os++[.ro (.slice none 0 0) []]) s w:=.mk (F.out.snoc rfl (show RowP _ _ _ _ from RowP.nil _ _))
theorem Fr.leafN (F:Fr C B a D os s w) (kk:Int) (nm:List UInt8):Fr C B a D (os++[.tr (trN kk nm []) [.int .i64 kk,.string ⟨nm.toArray⟩,.slice none 0 0,.int .i64 0,.int .i64 0,.bool false,.slice none 0 0,.slice none 0 0,.slice none 0 0]]) s w:=.mk (F.out.snoc rfl (show TrC _ _ _ _ from(RowP.nil _ _).treeN))
theorem Fr.leafK (F:Fr C B a D os s w) (kk:Int):Fr C B a D (os++[.tr (trK kk []) [.int .i64 kk,.string ⟨#[]⟩,.slice none 0 0,.int .i64 0,.int .i64 0,.bool false,.slice none 0 0,.slice none 0 0,.slice none 0 0]]) s w:=.mk (F.out.snoc rfl (show TrC _ _ _ _ from(RowP.nil _ _).treeK))
def pkL (os:List Ob) (l:List Nat):List Ob:=l.map fun i=>os.getD i (.vs [])
theorem Fr.pkc (F:Fr C B a D os s w) (E:List Nat) (l:List Nat) (o:∀b∈E,b∈D) (p:l.Nodup) (hk:∀R∈(pkL os l).filterMap Ob.blk,R∈E):Fr C B a E (pkL os l) s w:=by
 have G:=F.out;have e:∀(i:Nat) (x:Ob),(pkL os l)[i]? =some x→∃k,l[i]? =some k∧x=os.getD k (.vs []):=by
  intro i x h;unfold pkL at h;rw[List.getElem?_map]at h;cases d:l[i]? with
  | none=>rw[d]at h;cases h
  | some k=>rw[d]at h;injection h with h;exact⟨k,rfl,h.symm⟩
 have f:∀k:Nat,os.getD k (.vs [])=.vs []∨os[k]? =some (os.getD k (.vs [])):=by
  intro k;rw[yAG];cases d:os[k]? with
  | none=>exact .inl rfl
  | some x=>exact .inr rfl
 refine .mk ⟨G.pa,G.gr,G.bl,G.bh,fun b hb=>G.ds b (o b hb),?_,?_⟩
 · intro i j x y R h1 c g m;obtain⟨k1,e1,rfl⟩:=e i x h1;obtain⟨k2,e2,rfl⟩:=e j y c;rcases f k1 with e3 | e3
   · rw[e3]at g;cases g
   rcases f k2 with e4 | e4
   · rw[e4]at m;cases m
   have e5:=G.nd k1 k2 _ _ R e3 e4 g m;subst e5;have q:i < l.length:=by
    rcases Nat.lt_or_ge i l.length with d | d
    · exact d
    · rw[List.getElem?_eq_none d]at e1;cases e1
   exact(List.getElem?_inj q p).1 (e1.trans e2.symm)
 · intro i x h1;obtain⟨k,e1,rfl⟩:=e i x h1;rcases f k with e3 | e3
   · rw[e3];trivial
   · have c:=G.ob k _ e3;have hs:∀b,Off B D b→Off B E b:=fun b hb=>⟨hb.1,fun h=>hb.2 (o b h)⟩;have hk:∀R,(os.getD k (.vs [])).blk=some R→R∈E:=fun R h=>hk R (List.mem_filterMap.2 ⟨_,List.mem_of_getElem? h1,h⟩);generalize os.getD k (.vs [])=z at hk c;cases z with
     | bx R T cs=>exact⟨c.1,hk R rfl,c.2.2⟩
     | tr t cs=>exact TrC.sub (fun b hb _=>hs b hb) _ _ c
     | tn lo t cs=>exact⟨TrC.sub (fun b hb _=>⟨hs b hb.1,hb.2⟩) _ _ c.1,c.2⟩
     | ro v l=>exact RowP.sub c fun b hb _=>hs b hb
     | rn hi v l=>exact RowP.sub c fun b hb _=>⟨hs b hb.1,hb.2⟩
     | lf T v n xs=>exact c
     | vs cs=>trivial
theorem Fr.pk (F:Fr C B a D os s w) (E:List Nat) (l:List Nat) (c:∀b∈E,b∈D) (d:l.Nodup) {r1:Nat} (e:(pkL os l).filterMap Ob.blk=[r0,r1]) (f:r0∈E) (h1:r1∈E):Fr C B a E (pkL os l) s w:=F.pkc E l c d fun R h=>by
 rw[e]at h;rcases List.mem_cons.1 h with rfl | h
 · assumption
 · rw[List.mem_singleton.1 h];assumption
theorem Fr.pk1 (F:Fr C B a D os s w) (E:List Nat) (l:List Nat) (c:∀b∈E,b∈D) (d:l.Nodup) (e:(pkL os l).filterMap Ob.blk=[r0]) (f:r0∈E):Fr C B a E (pkL os l) s w:=F.pkc E l c d fun R h=>by
 rw[e]at h;rw[List.mem_singleton.1 h];assumption
theorem Fr.pk3 (F:Fr C B a D os s w) (E:List Nat) (l:List Nat) (c:∀b∈E,b∈D) (d:l.Nodup) {r1 r2:Nat} (e:(pkL os l).filterMap Ob.blk=[r0,r1,r2]) (f:r0∈E) (h1:r1∈E) (g:r2∈E):Fr C B a E (pkL os l) s w:=F.pkc E l c d fun R h=>by
 rw[e]at h;rcases List.mem_cons.1 h with rfl | h
 · assumption
 rcases List.mem_cons.1 h with rfl | h
 · assumption
 · rw[List.mem_singleton.1 h];assumption
theorem Fr.kT {f:FuncId} {b:List UInt16} {nk nn:Int} {c:List Nat} (F:Fr C B a D os s w) (h:Calls prog f args w (zXa C s kd tx b nk nn c ps nl w)) {Q:Ending→World→Prop} (k:∀w' As Am c1 c2,Fr C B a D (os++[.vs [.int .i64 (kd:Int),.string ⟨tx.toArray⟩,.slice As b.length c1,.int .i64 nk,.int .i64 nn,.bool false,.slice Am c.length c2,.int .i64 (ps:Int),.bool nl]]) s w'→Q (.returned (.agg #[.int .i64 (kd:Int),.string ⟨tx.toArray⟩,.slice As b.length c1,.int .i64 nk,.int .i64 nn,.bool false,.slice Am c.length c2,.int .i64 (ps:Int),.bool nl])) w'):Calls prog f args w Q:=
 h.mono fun _ w' ⟨As,Am,c1,c2,h1,_,_,_,d⟩=>h1▸k w' As Am c1 c2 (.mk ((F.n d).out.snoc rfl trivial))
theorem Fr.kTl {f:FuncId} {b:List UInt16} {nk nn:Int} {c:List Nat} (F:Fr C B a D os s w) (h:Calls prog f args w (zXa C s kd tx b nk nn c ps nl w)) {Q:Ending→World→Prop} (k:∀w' As Am c1 c2,Fr C B a D (os++[.vs [.int .i64 (kd:Int),.string ⟨tx.toArray⟩,.slice As b.length c1,.int .i64 nk,.int .i64 nn,.bool false,.slice Am c.length c2,.int .i64 (ps:Int),.bool nl]]++[.lf 65 (.slice As b.length c1) b.length (zAI b)]++[.lf 67 (.slice Am c.length c2) c.length (zBi c)]) s w'→Q (.returned (.agg #[.int .i64 (kd:Int),.string ⟨tx.toArray⟩,.slice As b.length c1,.int .i64 nk,.int .i64 nn,.bool false,.slice Am c.length c2,.int .i64 (ps:Int),.bool nl])) w'):Calls prog f args w Q:=
 h.mono fun _ w' ⟨As,Am,c1,c2,h1,d,e,_,g⟩=>h1▸k w' As Am c1 c2 (.mk ((((F.n g).out.snoc (x:=.vs _) rfl trivial).snoc (x:=.lf _ _ _ _) rfl ⟨.inl rfl,d⟩).snoc (x:=.lf _ _ _ _) rfl ⟨.inr rfl,e⟩))
theorem Fr.l (F:Fr C B a D os s w) (i:Nat) {n:Nat} {xs:List Value} (h:os[i]? =some (.lf T v n xs):=by rfl):w.ownsRow 0 T 1 v n xs:=(F.out.ob i _ h).2
theorem zYm {w:World} {P:Nat→Prop} {x:Nd} {vs b:Value} (hk:x.kids=[]) (hs:w.ownsRow 0 65 1 vs x.str.length (zAI x.str)) (c:w.ownsRow 0 67 1 b x.mag.length (zBi x.mag)):TrC w P (.mk x []) (zVv x vs b (.slice none 0 0)):=by
 rw[zFB];exact⟨vs,b,.slice none 0 0,[],rfl,hk,hs,c,yAJ _ _ _ _,(fun _ h=>by cases h),zCq.mpr rfl⟩
theorem Fr.leafX (F:Fr C B a D os s w) (x:Nd) {vs b:Value} (hk:x.kids=[]) (hs:w.ownsRow 0 65 1 vs x.str.length (zAI x.str)) (c:w.ownsRow 0 67 1 b x.mag.length (zBi x.mag)):Fr C B a D (os++[.tr (.mk x []) (zVv x vs b (.slice none 0 0))]) s w:=.mk (F.out.snoc rfl (zYm hk hs c))
theorem Fr.kA {f:FuncId} {w1:World} (F:Fr C B a D os s w) (h:Calls prog f args w1 (zUk C w p)) {Q:Ending→World→Prop} (k:∀x,Hid (p=x)→∀w' d0 d1 d2 d3 d4 d5 d6 d7 d8,Fr C B a D (os++[.tr x.1 [d0,d1,d2,d3,d4,d5,d6,d7,d8]]) x.2 w'→Q (.returned (.agg #[d0,d1,d2,d3,d4,d5,d6,d7,d8])) w'):Calls prog f args w1 Q:=
 h.mono fun _ w' ⟨d0,d1,d2,d3,d4,d5,d6,d7,d8,h1,b,c,d⟩=>h1▸k p (zA rfl) w' d0 d1 d2 d3 d4 d5 d6 d7 d8 (F.addT c d b)
theorem Fr.kO {f:FuncId} (F:Fr C B a D os s w) (h:Calls prog f args w (NodR C (Off B D) p w)) {Q:Ending→World→Prop} (k:∀w' d0 d1 d2 d3 d4 d5 d6 d7 d8,Fr C B a D (os++[.tr p.1 [d0,d1,d2,d3,d4,d5,d6,d7,d8]]) p.2 w'→Q (.returned (.agg #[d0,d1,d2,d3,d4,d5,d6,d7,d8])) w'):Calls prog f args w Q:=
 h.mono fun _ w' ⟨d0,d1,d2,d3,d4,d5,d6,d7,d8,h1,b,c,d⟩=>h1▸k w' d0 d1 d2 d3 d4 d5 d6 d7 d8 (.mk ((F.m c d).out.snoc rfl (TrC.sub (fun _ hb _=>hb.elim id F.out.off) _ _ b)))
theorem Fr.both (F:Fr C B a D os s w) (j:Nat) (c:os[j]? =some (.tr x [d0,d1,d2,d3,d4,d5,d6,d7,d8])) (h:zp C s w (.both x)):Calls prog 161 #[.pointer (some ⟨C.g,0,none⟩),.agg #[d0,d1,d2,d3,d4,d5,d6,d7,d8]] w (NodR C (Off B D) (zE C.L (.both x) s) w):=h _ _ _ _ _ _ _ _ _ _ (fun b hb=>F.out.bl b hb.1) (F.t j c)
theorem Fr.made0 (F:Fr C B a D os s w) (kk:Int) {Q:Ending→World→Prop} (k:∀w',Fr C B a D (os++[.tr (trK kk []) [.int .i64 kk,.string ⟨#[]⟩,.slice none 0 0,.int .i64 0,.int .i64 0,.bool false,.slice none 0 0,.slice none 0 0,.slice none 0 0]]) s w'→Q (.returned (.agg #[.int .i64 kk,.string ⟨#[]⟩,.slice none 0 0,.int .i64 0,.int .i64 0,.bool false,.slice none 0 0,.slice none 0 0,.slice none 0 0])) w'):Calls prog 32 #[.int .i64 kk,.slice none 0 0] w Q:=
 (zAv kk none 0 0).mono fun _ w' ⟨h1,b⟩=>h1▸k w' (.mk ((F.n b).out.snoc rfl (show TrC _ _ _ _ from(RowP.nil _ _).treeK)))
theorem Fr.named0 (F:Fr C B a D os s w) (kk:Int) (nm:List UInt8) {Q:Ending→World→Prop} (k:∀w',Fr C B a D (os++[.tr (trN kk nm []) [.int .i64 kk,.string ⟨nm.toArray⟩,.slice none 0 0,.int .i64 0,.int .i64 0,.bool false,.slice none 0 0,.slice none 0 0,.slice none 0 0]]) s w'→Q (.returned (.agg #[.int .i64 kk,.string ⟨nm.toArray⟩,.slice none 0 0,.int .i64 0,.int .i64 0,.bool false,.slice none 0 0,.slice none 0 0,.slice none 0 0])) w'):Calls prog 105 #[.int .i64 kk,.string ⟨nm.toArray⟩,.slice none 0 0] w Q:=
 (zC8 kk ⟨nm.toArray⟩ none 0 0).mono fun _ w' ⟨h1,b⟩=>h1▸k w' (.mk ((F.n b).out.snoc rfl (show TrC _ _ _ _ from(RowP.nil _ _).treeN)))
theorem Fr.litG {l:List Tr} {n R:Nat} (F:Fr C B a D os s w) (b:TrsC w (Off B D) l cs) (c:n=l.length) (d:n≤4097) (e:w.heap.size=R) (hg:(w.alloc (.cells cs.toArray 58)).grownBy w' none):FrR C B a D os s w'∧RowP w' (Off B D) (.slice (some ⟨R,0,none⟩) n n) l:=by
 subst e;exact⟨(F.n (zC (zF w (.cells cs.toArray 58) none) hg)).out,zL2 c b d (F.out.off (yAC _)) hg⟩
theorem Fr.litK {l:List Tr} {n R:Nat} (F:Fr C B a D os s w) (kk:Int) (b:TrsC w (Off B D) l cs) (c:n=l.length) (d:n≤4097) (e:w.heap.size=R) {Q:Ending→World→Prop} (k:∀w',Fr C B a D (os++[.tr (trK kk l) [.int .i64 kk,.string ⟨#[]⟩,.slice none 0 0,.int .i64 0,.int .i64 0,.bool false,.slice none 0 0,.slice none 0 0,.slice (some ⟨R,0,none⟩) n n]]) s w'→Q (.returned (.agg #[.int .i64 kk,.string ⟨#[]⟩,.slice none 0 0,.int .i64 0,.int .i64 0,.bool false,.slice none 0 0,.slice none 0 0,.slice (some ⟨R,0,none⟩) n n])) w'):Calls prog 32 #[.int .i64 kk,.slice (some ⟨R,0,none⟩) n n] (w.alloc (.cells cs.toArray 58)) Q:=
 (zAv kk _ n n).mono fun _ w' ⟨h1,f⟩=>h1▸k w' (.mk ((F.litG b c d e f).1.snoc rfl (show TrC _ _ _ _ from(F.litG b c d e f).2.treeK)))
theorem Fr.litN {l:List Tr} {n R:Nat} (F:Fr C B a D os s w) (kk:Int) (nm:List UInt8) (b:TrsC w (Off B D) l cs) (c:n=l.length) (d:n≤4097) (e:w.heap.size=R) {Q:Ending→World→Prop} (k:∀w',Fr C B a D (os++[.tr (trN kk nm l) [.int .i64 kk,.string ⟨nm.toArray⟩,.slice none 0 0,.int .i64 0,.int .i64 0,.bool false,.slice none 0 0,.slice none 0 0,.slice (some ⟨R,0,none⟩) n n]]) s w'→Q (.returned (.agg #[.int .i64 kk,.string ⟨nm.toArray⟩,.slice none 0 0,.int .i64 0,.int .i64 0,.bool false,.slice none 0 0,.slice none 0 0,.slice (some ⟨R,0,none⟩) n n])) w'):Calls prog 105 #[.int .i64 kk,.string ⟨nm.toArray⟩,.slice (some ⟨R,0,none⟩) n n] (w.alloc (.cells cs.toArray 58)) Q:=
 (zC8 kk ⟨nm.toArray⟩ _ n n).mono fun _ w' ⟨h1,f⟩=>h1▸k w' (.mk ((F.litG b c d e f).1.snoc rfl (show TrC _ _ _ _ from(F.litG b c d e f).2.treeN)))
theorem Fr.litR {l:List Tr} {n R:Nat} (F:Fr C B a D os s w) (kk:Int) (b:TrsC w (Off B D) l cs) (c:n=l.length) (d:n≤4097) (e:w.heap.size=R) {Q:Ending→World→Prop} (k:∀w',Fr C B a D (os++[.ro (.slice (some ⟨R,0,none⟩) n n) l]++[.tr (trK kk l) [.int .i64 kk,.string ⟨#[]⟩,.slice none 0 0,.int .i64 0,.int .i64 0,.bool false,.slice none 0 0,.slice none 0 0,.slice (some ⟨R,0,none⟩) n n]]) s w'→Q (.returned (.agg #[.int .i64 kk,.string ⟨#[]⟩,.slice none 0 0,.int .i64 0,.int .i64 0,.bool false,.slice none 0 0,.slice none 0 0,.slice (some ⟨R,0,none⟩) n n])) w'):Calls prog 32 #[.int .i64 kk,.slice (some ⟨R,0,none⟩) n n] (w.alloc (.cells cs.toArray 58)) Q:=
 (zAv kk _ n n).mono fun _ w' ⟨h1,f⟩=>h1▸k w' (.mk (((F.litG b c d e f).1.snoc (x:=.ro (.slice (some ⟨R,0,none⟩) n n) l) rfl (F.litG b c d e f).2).snoc rfl (show TrC _ _ _ _ from(F.litG b c d e f).2.treeK)))
section
variable {kk:Int} {nm:List UInt8} {R:Nat} {t1 t2 t3:Tr} {e0 e1 e2 e3 e4 e5 e6 e7 e8 a0 a1 a2 a3 a4 a5 a6 a7 a8 p0 p1 p2 p3 p4 p5 p6 p7 p8:Value}
theorem Fr.ts1 (F:Fr C B a D os s w) (i:Nat) (h1:os[i]? =some (.tr t1 [e0,e1,e2,e3,e4,e5,e6,e7,e8]):=by rfl):TrsC w (Off B D) [t1] [e0,e1,e2,e3,e4,e5,e6,e7,e8]:=.single (F.t i h1)
theorem Fr.ts2 (F:Fr C B a D os s w) (i j:Nat) (h1:os[i]? =some (.tr t1 [e0,e1,e2,e3,e4,e5,e6,e7,e8]):=by rfl) (h2:os[j]? =some (.tr t2 [a0,a1,a2,a3,a4,a5,a6,a7,a8]):=by rfl):TrsC w (Off B D) [t1,t2] [e0,e1,e2,e3,e4,e5,e6,e7,e8,a0,a1,a2,a3,a4,a5,a6,a7,a8]:=TrsC.cons (F.t i h1) (.single (F.t j h2))
theorem Fr.ts3 (F:Fr C B a D os s w) (i j m:Nat) (h1:os[i]? =some (.tr t1 [e0,e1,e2,e3,e4,e5,e6,e7,e8]):=by rfl) (h2:os[j]? =some (.tr t2 [a0,a1,a2,a3,a4,a5,a6,a7,a8]):=by rfl) (h3:os[m]? =some (.tr t3 [p0,p1,p2,p3,p4,p5,p6,p7,p8]):=by rfl):TrsC w (Off B D) [t1,t2,t3] [e0,e1,e2,e3,e4,e5,e6,e7,e8,a0,a1,a2,a3,a4,a5,a6,a7,a8,p0,p1,p2,p3,p4,p5,p6,p7,p8]:=TrsC.cons (F.t i h1) (TrsC.cons (F.t j h2) (.single (F.t m h3)))
end
theorem Fr.sto (F:Fr C B a D os s w) (i:Nat) {t:Tr} {e0 e1 e2 e3 e4 e5 e6 e7 e8:Value} (h:os[i]? =some (.tr t [e0,e1,e2,e3,e4,e5,e6,e7,e8]):=by rfl):(∀(v:World) (a:Addr),(store a e0).run prog v=stored prog v a e0 .plain)∧(∀(v:World) (a:Addr),(store a e1).run prog v=stored prog v a e1 .plain)∧(∀(v:World) (a:Addr),(store a e2).run prog v=stored prog v a e2 .plain)∧(∀(v:World) (a:Addr),(store a e3).run prog v=stored prog v a e3 .plain)∧(∀(v:World) (a:Addr),(store a e4).run prog v=stored prog v a e4 .plain)∧(∀(v:World) (a:Addr),(store a e5).run prog v=stored prog v a e5 .plain)∧(∀(v:World) (a:Addr),(store a e6).run prog v=stored prog v a e6 .plain)∧(∀(v:World) (a:Addr),(store a e7).run prog v=stored prog v a e7 .plain)∧(∀(v:World) (a:Addr),(store a e8).run prog v=stored prog v a e8 .plain):=(F.t i h).sto
theorem Fr.ret {Pg:Program} {A:Act} {t:Tr} (F:Fr C B a D os s w) (j:Nat) (c:os[j]? =some (.tr t [d0,d1,d2,d3,d4,d5,d6,d7,d8])) (d:(results fn A.tmps).run Pg w=.ok (.agg #[d0,d1,d2,d3,d4,d5,d6,d7,d8]) w) (f:A.defers=[]) (e:p=(t,s)) (hB:∀b,B b→a.heap.size≤b):bodyPost Pg fn (zDU C p a) .ret A w:=by
 subst e;exact bodyPost_ret d f ⟨d0,d1,d2,d3,d4,d5,d6,d7,d8,rfl,.sub (fun b hb _=>hB b hb.1) _ _ (F.t j c),F.P,F.out.gr⟩
theorem Fr.fin {A:Act} {t:Tr} (F:Fr C B a D os s w) (i j:Nat) {x:Tmp} {R:Nat} (f:os[j]? =some (.tr t [d0,d1,d2,d3,d4,d5,d6,d7,d8])) (e:p=(t,s)) (hB:∀b,B b→a.heap.size≤b:=by exact fun _ h=>h) (hi:os[i]? =some (.bx R 58 [v0,v1,v2,v3,v4,v5,v6,v7,v8]):=by rfl) (hf:fn.results=#[.cell x 58]:=by rfl) (hp:A.tmps[x]?.getD undef=.pointer (some ⟨R,0,none⟩):=by rfl) (hd:A.defers=[]:=by rfl):
 bodyPost prog fn (zDU C p a) .ret A (((((((((w.setCell ⟨R,0,none⟩ d0).setCell ⟨R,1,none⟩ d1).setCell ⟨R,2,none⟩ d2).setCell ⟨R,3,none⟩ d3).setCell ⟨R,4,none⟩ d4).setCell ⟨R,5,none⟩ d5).setCell ⟨R,6,none⟩ d6).setCell ⟨R,7,none⟩ d7).setCell ⟨R,8,none⟩ d8):=by
 refine zCe (F.put9 i (d0:=d0) (d1:=d1) (d2:=d2) (d3:=d3) (d4:=d4) (d5:=d5) (d6:=d6) (d7:=d7) (d8:=d8) hi) fun V G=>?_;have q:=G.c i (R:=R) (T:=58) (by rw[List.getElem?_set_self (List.getElem?_eq_some_iff.1 hi).1])
 by_cases d:i=j
 · subst d;rw[hi]at f;cases f
 · exact G.ret j (by rw[List.getElem?_set_ne d];exact f) (by simp only[results,hf];simp[hp,go_sem,q]) hd e hB
end
theorem zU (L:List Tok) (k:Nat):∃b,Hid (zI L k=b):=⟨_,zA rfl⟩
theorem zBY {C:Pc} {s:Ps} {w:World} (h:Pa C s w) (v:List UInt8) (hb:onP C.L v s=true):Calls prog 70 #[.pointer (some ⟨C.g,0,none⟩),.string ⟨v.toArray⟩] w (zXY C (zB s) true w):=zA1 h v hb
theorem zBc {C:Pc} {s:Ps} {w:World} (h:Pa C s w) (v:List UInt8) (hb:onP C.L v s=false):Calls prog 70 #[.pointer (some ⟨C.g,0,none⟩),.string ⟨v.toArray⟩] w (zXY C s false w):=zA1 h v hb
theorem zBH {C:Pc} {s:Ps} {w:World} {c:Ph} {f:FuncId} (d:Pre C.L c s) (h:Pa C s w) (k:Hid (Lst C.L)→C.N≤4097→s.k≤C.L.length - 1→∀r W X,Hid (zD C.L (zE C.L) c s=r)→w.alloc (.cells #[.int .i64 0,.string ⟨#[]⟩,.slice none 0 0,.int .i64 0,.int .i64 0,.bool false,.slice none 0 0,.slice none 0 0,.slice none 0 0] 58)=W→w.heap.size=X→Fr C (w.heap.size≤·) w [X] [.bx X 58 [.int .i64 0,.string ⟨#[]⟩,.slice none 0 0,.int .i64 0,.int .i64 0,.bool false,.slice none 0 0,.slice none 0 0,.slice none 0 0]] s W→Calls prog f args w (zDU C r w)):Calls prog f args w (zDU C (zE C.L c s) w):=by
 refine k (zA h.cx.lst) h.cx.n4 d.1 _ _ _ (zA (zS h.cx.lst d).symm) rfl rfl ?_;have e:FrR C (w.heap.size≤·) w [] [] s w:=⟨h,⟨rfl,rfl,rfl,yAC _,fun _ _ _=>rfl⟩,fun b hb=>yAA h.lt hb,fun _ hb=>hb,(fun _ hb=>by cases hb),(fun _ _ _ _ _ hb=>by cases hb),fun _ _ hb=>by cases hb⟩;exact(Fr.mk e).box zHq 58 rfl jd jd
theorem zW7 {C:Pc} {s:Ps} {w:World} {Q:Nat→Prop} {f:FuncId} {c:Ending→World→Prop} (h:Pa C s w) (e:∀b,Q b→C.g < b) (j:TrC w Q x [d0,d1,d2,d3,d4,d5,d6,d7,d8]) (k:Hid (Lst C.L)→C.N≤4097→s.k≤C.L.length - 1→∀d W R X,w.alloc (.cells #[d0,d1,d2,d3,d4,d5,d6,d7,d8] 58)=d→d.alloc (.cells #[.int .i64 0,.string ⟨#[]⟩,.slice none 0 0,.int .i64 0,.int .i64 0,.bool false,.slice none 0 0,.slice none 0 0,.slice none 0 0] 58)=W→w.heap.size=R→d.heap.size=X→R+1=X→Fr C (fun b=>Q b∨w.heap.size≤b) w [X,R] [.tr x [d0,d1,d2,d3,d4,d5,d6,d7,d8],.bx R 58 [d0,d1,d2,d3,d4,d5,d6,d7,d8],.bx X 58 [.int .i64 0,.string ⟨#[]⟩,.slice none 0 0,.int .i64 0,.int .i64 0,.bool false,.slice none 0 0,.slice none 0 0,.slice none 0 0]] s W→Calls prog f args w c):Calls prog f args w c:=by
 refine k (zA h.cx.lst) h.cx.n4 h.hi _ _ _ _ rfl rfl rfl rfl js ?_;have l:FrR C (fun b=>Q b∨w.heap.size≤b) w [] [] s w:=⟨h,⟨rfl,rfl,rfl,yAC _,fun _ _ _=>rfl⟩,fun b hb=>hb.elim (e b) (fun hb=>yAA h.lt hb),fun _ hb=>.inr hb,(fun _ hb=>by cases hb),(fun _ _ _ _ _ hb=>by cases hb),fun _ _ hb=>by cases hb⟩;exact((Fr.mk (l.snoc (x:=.tr x _) rfl (TrC.sub (fun b hb _=>⟨.inl hb,by simp⟩) _ _ j))).box [d0,d1,d2,d3,d4,d5,d6,d7,d8] 58 rfl jd jd).box zHq 58 rfl jd jd
theorem zXc {C:Pc} {s:Ps} {w:World} {l:List Tr} {f:FuncId} (d:Pre C.L (.body l) s) (h:Pa C s w) {a:World} {A:Option Addr} {n cp:Nat} (e:a.grownBy w (some C.g)) (j:C.g < a.heap.size) (c:RowP w (a.heap.size≤·) (.slice A n cp) l) (k:Hid (Lst C.L)→C.N≤4097→s.k≤C.L.length - 1→∀r W X,Hid (zD C.L (zE C.L) (.body l) s=r)→w.alloc (.cells #[.int .i64 0,.string ⟨#[]⟩,.slice none 0 0,.int .i64 0,.int .i64 0,.bool false,.slice none 0 0,.slice none 0 0,.slice none 0 0] 58)=W→w.heap.size=X→Fr C (a.heap.size≤·) a [X] [.ro (.slice A n cp) l,.bx X 58 [.int .i64 0,.string ⟨#[]⟩,.slice none 0 0,.int .i64 0,.int .i64 0,.bool false,.slice none 0 0,.slice none 0 0,.slice none 0 0]] s W→Calls prog f args w (zUk C a r)):Calls prog f args w (zUk C a (zE C.L (.body l) s)):=by
 refine k (zA h.cx.lst) h.cx.n4 d.1 _ _ _ (zA (zS h.cx.lst d).symm) rfl rfl ?_;have m:FrR C (a.heap.size≤·) a [] [] s w:=⟨h,e,fun b hb=>yAA j hb,fun _ hb=>hb,(fun _ hb=>by cases hb),(fun _ _ _ _ _ hb=>by cases hb),fun _ _ hb=>by cases hb⟩;exact(Fr.mk (m.snoc (x:=.ro (.slice A n cp) l) rfl (RowP.sub c fun b hb _=>⟨hb,by simp⟩))).box zHq 58 rfl jd jd
theorem zNQ {C:Pc} {s:Ps} {w:World} (e:Pre C.L (.within) s) (K:KP C (zj C.L (.within) s)) (h:Pa C s w):zp C s w (.within):=by
 refine zBH e h fun m o g r W X p t u j=>?_;have v:=zA K;clear K h e;go_enter func136,ntmps136;go_upto_region 1 with(fail);clear t u;have y:=zA (zc (w:=[40]) m.out g);go_wp2_with fail;refine j.kN (zAK j.P [40]) fun w1 d=>?_;go_wp2_with fail;refine d.kD (v.out.rank (q:=.assign) ⟨d.P.hi,trivial⟩ d.P y.out.adv.le (by simp[zt])) fun w2 z A B D E F G H I k=>?_;have:=k.sto 1;have l:=k.bt 1 58 rfl;go_wp2_with fail;refine l.kN (zAK l.P [41]) fun J b=>?_;have:=b.c 2;have:=b.c 0;have:=b.f 0;go_wp2_with fail;exact b.fin 0 1 rfl (p.out.symm.trans (by
  unfold zD;dsimp only
  ))
theorem zNR {C:Pc} {s:Ps} {w:World} (g:Pre C.L (.simple) s) (K:KP C (zj C.L (.simple) s)) (h:Pa C s w):zp C s w (.simple):=by
 refine zBH g h fun H k G r W X l m o d=>?_;have p:=zA K;clear K h g;go_enter func114,ntmps114;go_upto_region 1 with(fail);clear m o;go_wp2_with fail;refine d.kD (p.out.rank (q:=.assign) ⟨d.P.hi,trivial⟩ d.P (yAC _) (by simp[zt])) fun w1 t u v y z A B D E e=>?_;have:=e.sto 1;go_wp2_with fail;refine e.litK _ (n:=1) (e.ts1 1) rfl js rfl fun w2 F=>?_;have j:=F.bt 2 58 rfl;go_wp2_with fail;refine j.kN (zB7 j.P) fun I b=>?_;have:=b.c 3;have:=b.c 0;have:=b.f 0;go_wp2_with fail;exact b.fin 0 2 rfl (l.out.symm.trans (by
  unfold zD;dsimp only
  ))
theorem zNS {C:Pc} {v:List UInt8} {s:Ps} {w:World} (m:Pre C.L (.clause v) s) (K:KP C (zj C.L (.clause v) s)) (h:Pa C s w):zp C s w (.clause v):=by
 refine zBH m h fun R u Q r W X o y z A=>?_;have B:=zA K;clear K h m;go_enter func153,ntmps153;go_upto_region 1 with(fail);clear y z;go_wp2_with fail;refine A.made0 _ fun w1 D=>?_;have e:=D.bt 1 58 rfl
 by_cases b:onP C.L v s=true
 · have d:=zA b;clear b;go_wp2_with fail;refine e.kB (zAl e.P v d.out) fun w3 p=>?_;go_wp2_with fail;refine p.kN (zAK p.P v) fun S g=>?_;have:=g.c 2;have:=g.c 0;have:=g.f 0;go_wp2_with fail;exact g.fin 0 1 rfl (o.out.symm.trans (by
    unfold zD;dsimp only;rw[if_pos d.out]))
 · have d:=zA (show onP C.L v s=false by simpa using b);clear b;go_wp2_with fail;refine e.kB (zAl e.P v d.out) fun T l=>?_;go_wp2_with fail;refine l.kD (B.out.rank (q:=.assign) ⟨l.P.hi,trivial⟩ l.P (yAC _) (by simp[zt])) fun U E F G H I J M N O j=>?_;have:=j.sto 3;have:=j.c 2;have:=j.f 2;go_upto_region 4 with(fail);refine zEg (j.put 2 3) fun V t=>?_;go_wp2_with fail;refine t.kN (zAK t.P v) fun Y k=>?_;have:=k.c 2;have:=k.c 0;have:=k.f 0;go_wp2_with fail;exact k.fin 0 3 rfl (o.out.symm.trans (by
    unfold zD;dsimp only;rw[if_neg (by rw[d.out];decide)]))
theorem zTi {C:Pc} {s:Ps} {w:World} (A:Pre C.L (.cond) s) (K:KP C (zj C.L (.cond) s)) (h:Pa C s w):zp C s w (.cond):=by
 refine zBH A h fun g M j r W X B N O v=>?_;have y:=zA K;clear K h A;go_enter func133,ntmps133;go_upto_region 1 with(fail);clear N O;have R:=zA (zd g.out (p:=.either) (s:=s) ⟨j,trivial⟩).adv.le;go_wp2_with fail;refine v.kD (y.out.rank (q:=.either) ⟨v.P.hi,trivial⟩ v.P (yAC _) (by simp[zt])) fun w1 S T U V Y a0 a1 a2 a3 D=>?_;have:=D.sto 1;have t:=D.bt 1 58 rfl
 by_cases b:onP C.L [63] ((zE C.L (.either) (s)).2)=true
 · have e:=zA b;clear b;go_wp2_with fail;refine t.kM (zBY t.P [63] e.out) fun w3 z=>?_;have E:=zA (g.out.on (s:=(zE C.L (.either) (s)).2) (by have:=j;exact(zd g.out (p:=.either) (s:=s) ⟨j,trivial⟩).adv.hi) e.out);have u:=zA (show s.k < (zB ((zE C.L (.either) (s)).2)).k from by have:=R.out;show s.k < ((zE C.L (.either) (s)).2).k+1;omega);have F:=zA (zd g.out (p:=.assign) (s:=zB ((zE C.L (.either) (s)).2)) ⟨E.out,trivial⟩).adv;go_wp2_with fail;refine z.kD (y.out.more (q:=.assign) ⟨z.P.hi,trivial⟩ z.P u.out) fun w4 a4 a5 a6 a7 a8 a9 b0 b1 b2 G=>?_;have:=G.sto 3;have H:=G.bt 3 58 rfl;go_wp2_with fail;refine H.kN (zAK H.P [58]) fun w6 l=>?_;have hn:=zA (zc (w:=[58]) g.out F.out.hi).adv;have I:=zA (fun Q=>l.dr.kD (Q:=Q) (y.out.more (q:=.assign) ⟨l.dr.P.hi,trivial⟩ l.dr.P (yAA u.out (yAD F.out.le hn.out.le))));have:=l.c 2;have:=l.c 4;go_wp2_with fail;go_region_law (first | (go_simp;go_at_call 106;(with_reducible refine I.out _ fun w7 b3 b4 b5 b6 b7 b8 b9 c0 c1 m=>?_);have:=m.c 2;have:=m.c 4;have:=m.c 0;have J:=zA (fun Q=>m.litK 48 (n:=3) (Q:=Q) (m.ts3 1 3 5) rfl js rfl)) | (go_simp;go_at_call 32;(with_reducible refine J.out _ fun w8 o=>?_);have:=o.c 0;have:=o.f 0))
   all_goals
    have:=o.c 0;have:=o.f 0;go_wp2_with fail;exact o.fin 0 6 rfl (B.out.symm.trans (by
     unfold zD;dsimp only;rw[if_pos e.out]))
 · have e:=zA (show onP C.L [63] ((zE C.L (.either) (s)).2)=false by simpa using b);clear b;go_wp2_with fail;refine t.kM (zBc t.P [63] e.out) fun c2 d=>?_;have:=d.c 2;have:=d.c 0;have:=d.f 0;go_wp2_with fail;exact d.fin 0 1 rfl (B.out.symm.trans (by
    unfold zD;dsimp only;rw[if_neg (by rw[e.out];decide)]))
theorem zIQ (k:Int) (h:k=43∨k=44∨k=45∨k=49) {w:World} (v:List UInt8) {q:Bool} (d:decide (v∈zNp k)=q):Calls prog 134 #[.int .i64 k,.string ⟨v.toArray⟩] w fun e w'=>e=.returned (.bool q)∧w.grownBy w' none:=by
 have f:=zA (show decide ((⟨v.toArray⟩:ByteArray).data.toList∈zNp k)=q from d);clear d;rcases h with rfl | rfl | rfl | rfl
 all_goals
  go_enter func134,ntmps134;go_wp2_with fail;refine(zPu _ jo _).mono ?_;rintro e1 w1 ⟨l,c1,rfl,b,c⟩;have g:=zA b;have j:=zA c;clear b c;go_wp2_with fail;refine(zFm ⟨v.toArray⟩ (n:=(zNp _).length) rfl g.out jd f.out).mono ?_;rintro e2 w2 ⟨rfl,rfl⟩;go_wp2_with fail;go_ret;exact⟨rfl,zAe none j.out⟩
def Top (k:Int) (l:List (List UInt8)):Prop:=∀{w:World} (v:List UInt8) {q:Bool},decide (v∈l)=q→Calls prog 134 #[.int .i64 k,.string ⟨v.toArray⟩] w fun e w'=>e=.returned (.bool q)∧w.grownBy w' none
theorem zQa:Top 43 zHN:=zIQ 43 jo
theorem zUm:Top 44 zDT:=zIQ 44 jo
theorem zL4:Top 45 zDT:=zIQ 45 jo
theorem zQb:Top 49 zJ1:=zIQ 49 jo
theorem TrC.kind {w:World} {t:Tr} (h:TrC w F t [d0,d1,d2,d3,d4,d5,d6,d7,d8]):d0=.int .i64 t.nd.kind:=by
 cases t with
 | mk x l=>
  rw[zFB]at h;obtain⟨vs,b,vo,ks,h1,_⟩:=h;unfold zVv at h1;injection h1
theorem zTj {C:Pc} {s:Ps} {w:World} (B:Pre C.L (.unary) s) (K:KP C (zj C.L (.unary) s)) (h:Pa C s w) (hk:((zI C.L s.k).kind=5∨(zI C.L s.k).kind=6)) (D:(zI C.L s.k).text∈zHN):zp C s w (.unary):=by
 refine zBH B h fun R S E r W X T U V F=>?_;have Y:=zA K;clear K h B;go_enter func167,ntmps167;go_upto_region 1 with(fail);clear U V;have G:=zA hk;have H:=zA D;clear hk D;obtain⟨⟨kd,tx,st,nk,nn,mg,ps,nl⟩,e⟩:=zU C.L (s).k;have d:=zA (show kd=5∨kd=6 from by have:=G.out;rwa[e.out]at this);obtain⟨e5,e6⟩ | ⟨e5,e6⟩:((kd:Int)==5)=true∧((kd:Int)==6)=false∨((kd:Int)==5)=false∧((kd:Int)==6)=true:=by have:=d.out;simp only[beq_iff_eq,yA];omega
 all_goals
  go_wp2_with fail;refine F.kT (zv F.P e.out) fun w1 As Am c1 c2 F1=>?_;have I:=F1.bt 1 80 rfl;obtain⟨a0,a1,a2,a3,a4,a5,a6,a7,a8⟩:=(I.b 2).nine;go_wp2_with fail;refine I.kQ (zQa tx (show decide (tx∈zHN)=true from by have:=H.out;rw[e.out]at this;simpa using this)) fun w3 J=>?_;have M:=zA (R.out.lt E (by rw[e.out];have:=d.out;show kd≠0;omega));obtain⟨a9,b0,b1⟩:=J.k1;have l:=J.step M.out;have N:=zA (fun Q=>l.dr.kD (Q:=Q) (Y.out.more (q:=.unary) ⟨l.dr.P.hi,trivial⟩ l.dr.P (yAF s.k)));have:=l.c 2;go_wp2_with fail;go_region_law (first | (go_simp;go_at_call 167;(with_reducible refine N.out _ fun w5 m o p t u v y z A g=>?_);have:=g.c 2;have:=g.c 0;have:=(g.al (.cells #[m,o,p,t,u,v,y,z,A] 58)).c 2;have O:=zA (fun Q=>g.litN 43 tx (n:=1) (Q:=Q) (g.ts1 3) rfl js rfl)) | (go_simp;go_at_call 105;(with_reducible refine O.out _ fun w6 j=>?_);have:=j.c 0;have:=j.f 0))
  all_goals
   have:=j.c 0;have:=j.f 0;go_wp2_with fail;exact j.fin 0 4 rfl (T.out.symm.trans (by
    unfold zD;dsimp only;rw[e.out,if_pos ⟨by have:=d.out;show kd=5∨kd=6;omega,by have:=H.out;rwa[e.out]at this⟩]))
theorem zTk {C:Pc} {s:Ps} {w:World} (hp:Pre C.L (.unary) s) (K:KP C (zj C.L (.unary) s)) (h:Pa C s w) (hk:((zI C.L s.k).kind=5∨(zI C.L s.k).kind=6)) (hw:¬(zI C.L s.k).text∈zHN) (E:(zI C.L s.k).text∈zDT):zp C s w (.unary):=by
 refine zBH hp h fun HL b0 a4 r W X G hW hX F0=>?_;have HK:=zA K;clear K h hp;go_enter func167,ntmps167;go_upto_region 1 with(fail);clear hW hX;have a5:=zA hk;have A:=zA hw;have j:=zA E;clear hk hw E;obtain⟨⟨kd,tx,st,nk,nn,mg,ps,nl⟩,d⟩:=zU C.L (s).k;have e:=zA (show kd=5∨kd=6 from by have:=a5.out;rwa[d.out]at this);obtain⟨e5,e6⟩ | ⟨e5,e6⟩:((kd:Int)==5)=true∧((kd:Int)==6)=false∨((kd:Int)==5)=false∧((kd:Int)==6)=true:=by have:=e.out;simp only[beq_iff_eq,yA];omega
 all_goals
  go_wp2_with fail;refine F0.kT (zv F0.P d.out) fun w1 As Am c1 c2 F1=>?_;have F2:=F1.bt 1 80 rfl;obtain⟨H,I,J,M,N,O,Q,R,S⟩:=(F2.b 2).nine;go_wp2_with fail;refine F2.kQ (zQa tx (show decide (tx∈zHN)=false from by have:=A.out;rw[d.out]at this;simpa using this)) fun w3 F3=>?_;obtain⟨H,I,J,M,N,O,Q,R,S⟩:=(F3.b 2).nine;go_wp2_with fail;refine F3.kQ (zUm tx (show decide (tx∈zDT)=true from by have:=j.out;rw[d.out]at this;simpa using this)) fun w4 F4=>?_;have a6:=zA (HL.out.lt a4 (by rw[d.out];have:=e.out;show kd≠0;omega));obtain⟨a7,a8,a9⟩:=F4.k1;have B:=F4.step a6.out;have:=B.c 2;go_wp2_with fail;clear a7 a8 a9;refine B.kD (HK.out.more (q:=.unary) ⟨B.P.hi,trivial⟩ B.P (yAF s.k)) fun w6 b1 T U V Y a0 a1 a2 a3 F6=>?_;have:=F6.sto 3;obtain rfl:=(F6.t 3).kind;have D:=F6.box [.int .i64 ((zE C.L (.unary) (zB (s))).1).nd.kind,T,U,V,Y,a0,a1,a2,a3] 58 rfl jd jd
  by_cases hb:((zE C.L (.unary) (zB (s))).2).bad=0
  · have o:=zA (show(((zE C.L (.unary) (zB (s))).2).bad==0)=true by rw[hb];rfl);have p:=zA hb;clear hb;go_wp2_with fail;refine D.kB (zBd D.P o.out) fun w8 g=>?_;have:=g.c 4;go_wp2_with fail;refine(zBz _ _).mono ?_;rintro b2 b3 ⟨rfl,rfl⟩;obtain⟨bt,u⟩:=jx (zAR ((zE C.L (.unary) (zB (s))).1).nd.kind);rw[u];have F:=zA u;clear u;cases bt with
    | true=>
     have:=g.c 2;have:=g.c 4;go_wp2_with fail;refine g.litN _ _ (n:=1) (g.ts1 3) rfl js rfl fun b4 v=>?_;have:=v.c 0;have:=v.f 0;go_wp2_with fail;exact v.fin 0 5 rfl (G.out.symm.trans (by
      unfold zD;dsimp only;rw[d.out,if_neg (fun h=>by have:=A.out;rw[d.out]at this;exact this h.2),if_pos ⟨by have:=e.out;show kd=5∨kd=6;omega,by have:=j.out;rwa[d.out]at this⟩]
      try dsimp only
      rw[F.out,if_neg js]))
    | false=>
     go_wp2_with fail;refine g.kN (zAN g.P) fun b5 l=>?_;have:=l.c 2;have:=l.c 4;go_wp2_with fail;refine l.litN _ _ (n:=1) (l.ts1 3) rfl js rfl fun b6 y=>?_;have:=y.c 0;have:=y.f 0;go_wp2_with fail;exact y.fin 0 5 rfl (G.out.symm.trans (by
      unfold zD;dsimp only;rw[d.out,if_neg (fun h=>by have:=A.out;rw[d.out]at this;exact this h.2),if_pos ⟨by have:=e.out;show kd=5∨kd=6;omega,by have:=j.out;rwa[d.out]at this⟩]
      try dsimp only
      rw[F.out,if_pos ⟨p.out,rfl⟩]))
  · have o:=zA (show(((zE C.L (.unary) (zB (s))).2).bad==0)=false by rw[yA];exact hb);have p:=zA hb;clear hb;go_wp2_with fail;refine D.kB (zBd D.P o.out) fun b7 m=>?_;have:=m.c 2;have:=m.c 4;go_wp2_with fail;refine m.litN _ _ (n:=1) (m.ts1 3) rfl js rfl fun b8 z=>?_;have:=z.c 0;have:=z.f 0;go_wp2_with fail;exact z.fin 0 5 rfl (G.out.symm.trans (by
     unfold zD;dsimp only;rw[d.out,if_neg (fun h=>by have:=A.out;rw[d.out]at this;exact this h.2),if_pos ⟨by have:=e.out;show kd=5∨kd=6;omega,by have:=j.out;rwa[d.out]at this⟩]
     try dsimp only
     rw[if_neg (fun h=>p.out h.1)]))
theorem zTl {C:Pc} {s:Ps} {w:World} (hp:Pre C.L (.unary) s) (K:KP C (zj C.L (.unary) s)) (h:Pa C s w) (hk:((zI C.L s.k).kind=5∨(zI C.L s.k).kind=6)) (hw:¬(zI C.L s.k).text∈zHN) (I:¬(zI C.L s.k).text∈zDT):zp C s w (.unary):=by
 refine zBH hp h fun HL b5 c0 r W X E hW hX F0=>?_;have HK:=zA K;clear K h hp;go_enter func167,ntmps167;go_upto_region 1 with(fail);clear hW hX;have b1:=zA hk;have D:=zA hw;have j:=zA I;clear hk hw I;obtain⟨⟨kd,tx,st,nk,nn,mg,ps,nl⟩,d⟩:=zU C.L (s).k;have M:=zA (show kd=5∨kd=6 from by have:=b1.out;rwa[d.out]at this);obtain⟨e5,e6⟩ | ⟨e5,e6⟩:((kd:Int)==5)=true∧((kd:Int)==6)=false∨((kd:Int)==5)=false∧((kd:Int)==6)=true:=by have:=M.out;simp only[beq_iff_eq,yA];omega
 all_goals
  go_wp2_with fail;refine F0.kT (zv F0.P d.out) fun w1 As Am c1 c2 F1=>?_;have F2:=F1.bt 1 80 rfl;obtain⟨N,O,Q,R,S,T,U,V,Y⟩:=(F2.b 2).nine;go_wp2_with fail;refine F2.kQ (zQa tx (show decide (tx∈zHN)=false from by have:=D.out;rw[d.out]at this;simpa using this)) fun w3 F3=>?_;obtain⟨N,O,Q,R,S,T,U,V,Y⟩:=(F3.b 2).nine;go_wp2_with fail;refine F3.kQ (zUm tx (show decide (tx∈zDT)=false from by have:=j.out;rw[d.out]at this;simpa using this)) fun w4 F4=>?_;go_wp2_with fail;refine F4.kD (HK.out.rank (q:=.calls) ⟨F4.P.hi,trivial⟩ F4.P (yAC _) (by simp[zt])) fun w5 b6 a0 a1 a2 a3 a4 a5 a6 a7 H=>?_;have:=H.sto 3;obtain rfl:=(H.t 3).kind;have b7:=(H.b 2).lt;have F6:=H.box [.int .i64 ((zE C.L (.calls) (s)).1).nd.kind,a0,a1,a2,a3,a4,a5,a6,a7] 58 rfl jd jd;obtain⟨⟨v,m,sto,c3,c4,c5,c6,b2⟩,e⟩:=zU C.L ((zE C.L (.calls) (s)).2).k;go_wp2_with fail;refine F6.kT (zv F6.P e.out) fun w7 c7 c8 c9 d0 F7=>?_;have:=F7.c 2;have:=F7.f 2;go_upto_region 14 with(fail);refine zEg (F7.put 2 5) fun w8 u=>?_;have:=u.c 2
  by_cases y:v=5
  · have o:=zA y;have b3:((v:Int)==5)=true:=by rw[beq_iff_eq];omega
    clear y
    by_cases z:m∈zDT
    · have l:=zA z;clear z;go_wp2_with fail;refine u.kQ (zL4 m (show decide (m∈zDT)=true from by simpa using l.out)) fun w9 g=>?_;have:=g.c 2;have:=g.c 4;cases b2 with
      | true=>
       have:=g.c 0;have:=g.f 0;go_wp2_with fail;exact g.fin 0 3 rfl (E.out.symm.trans (by
        unfold zD;dsimp only;rw[d.out,if_neg (fun h=>by have:=D.out;rw[d.out]at this;exact this h.2),if_neg (fun h=>by have:=j.out;rw[d.out]at this;exact this h.2)]
        try dsimp only
        rw[e.out]
        try dsimp only
        rw[if_neg js]))
      | false=>
       go_wp2_with fail;refine(zBz _ _).mono ?_;rintro b8 b9 ⟨rfl,rfl⟩;obtain⟨bt,F⟩:=jx (zAR ((zE C.L (.calls) (s)).1).nd.kind);rw[F];have J:=zA F;clear F;cases bt with
       | true=>
        have b4:=zA (HL.out.lt (s:=(zE C.L (.calls) (s)).2) g.P.hi (by rw[e.out];have:=o.out;show v≠0;omega));obtain⟨a8,a9,b0⟩:=g.k1;have A:=g.step b4.out;have:=A.c 2;have:=A.c 4;go_wp2_with fail;clear a8 a9 b0;refine A.litN _ _ (n:=1) (A.ts1 3) rfl js (show _=w9.heap.size by simp) fun d1 G=>?_;have:=G.c 0;have:=G.f 0;go_wp2_with fail;exact G.fin 0 6 rfl (E.out.symm.trans (by
         unfold zD;dsimp only;rw[d.out,if_neg (fun h=>by have:=D.out;rw[d.out]at this;exact this h.2),if_neg (fun h=>by have:=j.out;rw[d.out]at this;exact this h.2)]
         try dsimp only
         rw[e.out]
         try dsimp only
         rw[if_pos ⟨o.out,l.out,rfl⟩,J.out,if_neg js]))
       | false=>
        go_wp2_with fail;refine g.kN (zAN g.P) fun d2 B=>?_;have:=B.c 4;have:=B.c 0;have:=B.f 0;go_wp2_with fail;exact B.fin 0 3 rfl (E.out.symm.trans (by
         unfold zD;dsimp only;rw[d.out,if_neg (fun h=>by have:=D.out;rw[d.out]at this;exact this h.2),if_neg (fun h=>by have:=j.out;rw[d.out]at this;exact this h.2)]
         try dsimp only
         rw[e.out]
         try dsimp only
         rw[if_pos ⟨o.out,l.out,rfl⟩,J.out,if_pos rfl]))
    · have l:=zA z;clear z;go_wp2_with fail;refine u.kQ (zL4 m (show decide (m∈zDT)=false from by simpa using l.out)) fun d3 p=>?_;have:=p.c 2;have:=p.c 4;have:=p.c 0;have:=p.f 0;go_wp2_with fail;exact p.fin 0 3 rfl (E.out.symm.trans (by
       unfold zD;dsimp only;rw[d.out,if_neg (fun h=>by have:=D.out;rw[d.out]at this;exact this h.2),if_neg (fun h=>by have:=j.out;rw[d.out]at this;exact this h.2)]
       try dsimp only
       rw[e.out]
       try dsimp only
       rw[if_neg (fun h=>l.out h.2.1)]))
  · have o:=zA y;have b3:((v:Int)==5)=false:=by rw[yA];omega
    clear y;have:=u.c 4;have:=u.c 0;have:=u.f 0;go_wp2_with fail;exact u.fin 0 3 rfl (E.out.symm.trans (by
     unfold zD;dsimp only;rw[d.out,if_neg (fun h=>by have:=D.out;rw[d.out]at this;exact this h.2),if_neg (fun h=>by have:=j.out;rw[d.out]at this;exact this h.2)]
     try dsimp only
     rw[e.out]
     try dsimp only
     rw[if_neg (fun h=>o.out h.1)]))
theorem zTm {C:Pc} {s:Ps} {w:World} (hp:Pre C.L (.unary) s) (K:KP C (zj C.L (.unary) s)) (h:Pa C s w) (hk:((zI C.L s.k).kind≠5∧(zI C.L s.k).kind≠6)) (hw:True):zp C s w (.unary):=by
 refine zBH hp h fun HL a6 b8 r W X E hW hX F0=>?_;have HK:=zA K;clear K h hp;go_enter func167,ntmps167;go_upto_region 1 with(fail);clear hW hX;have a2:=zA hk;have HW:=zA hw;clear hk hw;obtain⟨⟨kd,tx,st,nk,nn,mg,ps,nl⟩,u⟩:=zU C.L (s).k;have d:=zA (show kd≠5∧kd≠6 from by have:=a2.out;rwa[u.out]at this);have e5:((kd:Int)==5)=false:=by have:=d.out.1;rw[yA];omega
 have e6:((kd:Int)==6)=false:=by have:=d.out.2;rw[yA];omega
 go_wp2_with fail;refine F0.kT (zv F0.P u.out) fun w1 As Am c1 c2 F1=>?_;have H:=F1.bt 1 80 rfl;obtain⟨a7,a8,a9,b0,b1,b2,b3,b4,b5⟩:=(H.b 2).nine;go_wp2_with fail;refine H.kD (HK.out.rank (q:=.calls) ⟨H.P.hi,trivial⟩ H.P (yAC _) (by simp[zt])) fun w3 b6 M N O Q R S T U I=>?_;have:=I.sto 3;obtain rfl:=(I.t 3).kind;have b7:=(I.b 2).lt;have F4:=I.box [.int .i64 ((zE C.L (.calls) (s)).1).nd.kind,M,N,O,Q,R,S,T,U] 58 rfl jd jd;obtain⟨⟨y,m,sto,b9,c0,c3,c4,a3⟩,g⟩:=zU C.L ((zE C.L (.calls) (s)).2).k;go_wp2_with fail;refine F4.kT (zv F4.P g.out) fun w5 c5 c6 c7 c8 V=>?_;have:=V.c 2;have:=V.f 2;go_upto_region 14 with(fail);refine zEg (V.put 2 5) fun w6 v=>?_;have:=v.c 2
 by_cases z:y=5
 · have o:=zA z;have a4:((y:Int)==5)=true:=by rw[beq_iff_eq];omega
   clear z
   by_cases A:m∈zDT
   · have l:=zA A;clear A;go_wp2_with fail;refine v.kQ (zL4 m (show decide (m∈zDT)=true from by simpa using l.out)) fun w7 j=>?_;have:=j.c 2;have:=j.c 4;cases a3 with
     | true=>
      have:=j.c 0;have:=j.f 0;go_wp2_with fail;exact j.fin 0 3 rfl (E.out.symm.trans (by
       unfold zD;dsimp only;rw[u.out,if_neg (fun h=>h.1.elim (fun e=>d.out.1 e) (fun e=>d.out.2 e)),if_neg (fun h=>h.1.elim (fun e=>d.out.1 e) (fun e=>d.out.2 e))]
       try dsimp only
       rw[g.out]
       try dsimp only
       rw[if_neg js]))
     | false=>
      go_wp2_with fail;refine(zBz _ _).mono ?_;rintro c9 d0 ⟨rfl,rfl⟩;obtain⟨bt,F⟩:=jx (zAR ((zE C.L (.calls) (s)).1).nd.kind);rw[F];have J:=zA F;clear F;cases bt with
      | true=>
       have a5:=zA (HL.out.lt (s:=(zE C.L (.calls) (s)).2) j.P.hi (by rw[g.out];have:=o.out;show y≠0;omega));obtain⟨Y,a0,a1⟩:=j.k1;have B:=j.step a5.out;have:=B.c 2;have:=B.c 4;go_wp2_with fail;clear Y a0 a1;refine B.litN _ _ (n:=1) (B.ts1 3) rfl js (show _=w7.heap.size by simp) fun d1 G=>?_;have:=G.c 0;have:=G.f 0;go_wp2_with fail;exact G.fin 0 6 rfl (E.out.symm.trans (by
        unfold zD;dsimp only;rw[u.out,if_neg (fun h=>h.1.elim (fun e=>d.out.1 e) (fun e=>d.out.2 e)),if_neg (fun h=>h.1.elim (fun e=>d.out.1 e) (fun e=>d.out.2 e))]
        try dsimp only
        rw[g.out]
        try dsimp only
        rw[if_pos ⟨o.out,l.out,rfl⟩,J.out,if_neg js]))
      | false=>
       go_wp2_with fail;refine j.kN (zAN j.P) fun d2 D=>?_;have:=D.c 4;have:=D.c 0;have:=D.f 0;go_wp2_with fail;exact D.fin 0 3 rfl (E.out.symm.trans (by
        unfold zD;dsimp only;rw[u.out,if_neg (fun h=>h.1.elim (fun e=>d.out.1 e) (fun e=>d.out.2 e)),if_neg (fun h=>h.1.elim (fun e=>d.out.1 e) (fun e=>d.out.2 e))]
        try dsimp only
        rw[g.out]
        try dsimp only
        rw[if_pos ⟨o.out,l.out,rfl⟩,J.out,if_pos rfl]))
   · have l:=zA A;clear A;go_wp2_with fail;refine v.kQ (zL4 m (show decide (m∈zDT)=false from by simpa using l.out)) fun d3 p=>?_;have:=p.c 2;have:=p.c 4;have:=p.c 0;have:=p.f 0;go_wp2_with fail;exact p.fin 0 3 rfl (E.out.symm.trans (by
      unfold zD;dsimp only;rw[u.out,if_neg (fun h=>h.1.elim (fun e=>d.out.1 e) (fun e=>d.out.2 e)),if_neg (fun h=>h.1.elim (fun e=>d.out.1 e) (fun e=>d.out.2 e))]
      try dsimp only
      rw[g.out]
      try dsimp only
      rw[if_neg (fun h=>l.out h.2.1)]))
 · have o:=zA z;have a4:((y:Int)==5)=false:=by rw[yA];omega
   clear z;have:=v.c 4;have:=v.c 0;have:=v.f 0;go_wp2_with fail;exact v.fin 0 3 rfl (E.out.symm.trans (by
    unfold zD;dsimp only;rw[u.out,if_neg (fun h=>h.1.elim (fun e=>d.out.1 e) (fun e=>d.out.2 e)),if_neg (fun h=>h.1.elim (fun e=>d.out.1 e) (fun e=>d.out.2 e))]
    try dsimp only
    rw[g.out]
    try dsimp only
    rw[if_neg (fun h=>o.out h.1)]))
theorem zQc {C:Pc} {s:Ps} {w:World} (b:Pre C.L .unary s) (K:KP C (zj C.L .unary s)) (h:Pa C s w):zp C s w .unary:=by
 by_cases k5:(zI C.L s.k).kind=5∨(zI C.L s.k).kind=6
 · by_cases u:(zI C.L s.k).text∈zHN
   · exact zTj b K h k5 u
   · by_cases p:(zI C.L s.k).text∈zDT
     · exact zTk b K h k5 u p
     · exact zTl b K h k5 u p
 · exact zTm b K h (not_or.1 k5) trivial
theorem zQd {m n:Nat} (b:n < 8) (h:m=n):(zJn m==(n:Int))=true:=by
 subst h;unfold zJn;rw[jn];simp
theorem zQe {m n:Nat} (h:¬m=n):(zJn m==(n:Int))=false:=by
 rw[yA];unfold zJn;split<;>omega
theorem zQf {C:Pc} {n:Nat} {s:Ps} {w:World} (F:Pre C.L (.level n) s) (K:KP C (zj C.L (.level n) s)) (h:Pa C s w):zp C s w (.level n):=by
 refine zBH F h fun o b4 a1 r W X HR hW hX m=>?_;have G:=zA K;have c7:n≤8:=F.2;clear K h F;go_enter func160,ntmps160;go_upto_region 1 with(fail);clear hW hX
 by_cases H:n=8
 · subst H;go_wp2_with fail;refine m.kD (G.out.rank (q:=.unary) ⟨m.P.hi,trivial⟩ m.P (yAC _) (by simp[zt])) fun w1 b5 b6 b7 b8 b9 c0 c3 c4 c5 z=>?_;have:=z.sto 1;have:=z.c 0;have:=z.f 0;go_wp2_with fail;exact z.fin 0 1 rfl (HR.out.symm.trans (by
    unfold zD;dsimp only;rw[if_pos rfl]))
 · have b:n < 8:=by omega
   have c8:IntKind.i64.wrap ((n:Int)+1)=(n:Int)+1:=by rw[IntKind.wrap_i64];omega
   have e8:((n:Int)==8)=false:=by rw[yA];omega
   have HN:=zA H;clear H;have a2:=zA (show zt (.level (n+1)) s < zt (.level n) s by simp only[zt];omega);go_wp2_with fail;refine m.kD (G.out.rank (q:=.level (n+1)) ⟨m.P.hi,b⟩ m.P (yAC _) a2.out) fun w3 I J M N O R S T U F3=>?_;have:=F3.sto 1;have F4:=F3.bt 1 58 rfl;have D:=zA (zd o.out (p:=.level (n+1)) (s:=s) ⟨a1,b⟩).adv.le;have a3:=zA (show zE C.L (.levelL n ((zE C.L (.level (n+1)) (s)).1)) ((zE C.L (.level (n+1)) (s)).2)=r by
    refine Eq.trans ?_ HR.out;unfold zD;dsimp only;rw[if_neg HN.out])
   have c9:=zA (show C.L.length - ((zE C.L (.level (n+1)) (s)).2).k≤C.L.length - s.k by have:=D.out;omega);go_wp2_with fail
   go_loopg [6] (C.L.length - ((zE C.L (.level (n+1)) (s)).2).k) (fun gk _ wr=>∃(e:Tr) (s':Ps) (e0 e1 e2 e3 e4 e5 e6 e7 e8:Value),C.L.length - s'.k≤gk∧s.k≤s'.k∧Hid (zE C.L (.levelL n e) s'=r)∧Hid (Fr C (w.heap.size≤·) w [(w3.heap.size),X] [.bx X 58 [.int .i64 0,.string ⟨#[]⟩,.slice none 0 0,.int .i64 0,.int .i64 0,.bool false,.slice none 0 0,.slice none 0 0,.slice none 0 0],.bx (w3.heap.size) 58 [e0,e1,e2,e3,e4,e5,e6,e7,e8],.tr e [e0,e1,e2,e3,e4,e5,e6,e7,e8]] s' wr))
   case atStart=>exact⟨(zE C.L (.level (n+1)) (s)).1,(zE C.L (.level (n+1)) (s)).2,I,J,M,N,O,R,S,T,U,by omega,D.out,a3.out,F4.pk [(w3.heap.size),X] [0,2,1] js jd rfl js js⟩
   case round=>
    obtain⟨e,s',e0,e1,e2,e3,e4,e5,e6,e7,e8,d0,c6,E,Fl⟩:=hrel;obtain⟨⟨kd,tx,st,nk,nn,mg,ps,nl⟩,t⟩:=zU C.L (s').k;go_wp2_with fail;refine Fl.kT (zv Fl.P t.out) fun w6 As Am c1 c2 F6=>?_
    by_cases hb:zBK ⟨kd,tx,st,nk,nn,mg,ps,nl⟩=n
    · have a4:=zQd b hb;have j:=zA hb;clear hb;go_wp2_with fail;refine F6.kQ (zL1) fun w7 F7=>?_;have d1:=zZg;go_wp2_with fail;refine F7.kT (zv F7.P t.out) fun w8 d2 d3 d4 d5 V=>?_;have l:=zA (o.out.lt (s:=s') V.P.hi (by rw[t.out];exact zFM (by rw[j.out];omega)));obtain⟨d6,d7,d8⟩:=V.k1;have A:=V.step l.out;have B:=zA (zd o.out (p:=.level (n+1)) (s:=zB s') ⟨l.out,b⟩);have Y:=zA (fun Q=>A.dr.kD (Q:=Q) (args:=#[.pointer (some ⟨C.g,0,none⟩),.int .i64 ((n:Int)+1)]) (G.out.more (q:=.level (n+1)) ⟨A.dr.P.hi,b⟩ A.dr.P (by show s.k < s'.k+1;omega)));have:=A.c 1;go_wp2_with fail;go_region_law (first | (go_simp;go_at_call 160;(with_reducible refine Y.out _ fun d9 a5 a6 a7 a8 a9 b0 b1 b2 b3 u=>?_);have:=u.c 1;have a0:=zA (fun Q=>u.litN 46 tx (n:=2) (Q:=Q) (u.ts2 2 5) rfl js rfl)) | (go_simp;go_at_call 105;(with_reducible refine a0.out _ fun e9 v=>?_);have:=v.c 1;have:=v.f 1))
      all_goals
       have y:=zA (show zE C.L (.levelL n e) s'=zE C.L (.levelL n (trN 46 (tx) [e,(zE C.L (.level (n+1)) (zB (s'))).1])) ((zE C.L (.level (n+1)) (zB (s'))).2) by
        rw[zS o.out (p:=.levelL n e) ⟨(Nat.le_of_lt l.out),b⟩];unfold zD;dsimp only;rw[t.out,if_pos j.out])
       have f0:(zB s').k=s'.k+1:=rfl;have f1:=B.out.adv.le;have f2:=l.out;go_wp2_with fail
       go_roundg (C.L.length - ((zE C.L (.level (n+1)) (zB (s'))).2).k)
       case measure=>omega
       case rel=>
        exact⟨_,_,_,_,_,_,_,_,_,_,_,yAC _,jo,y.out.symm.trans E.out,(v.put 1 6).pk [(w3.heap.size),X] [0,1,6] js jd rfl js js⟩
    · have a4:=zQe (n:=n) hb;have j:=zA hb;clear hb;go_wp2_with fail;refine F6.kQ (zL1) fun f3 d=>?_;have:=d.c 1;have:=d.sto 2;have y:=zA (show zE C.L (.levelL n e) s'=(e,s') by
       rw[zS o.out (p:=.levelL n e) ⟨d.P.hi,b⟩];unfold zD;dsimp only;rw[t.out,if_neg j.out])
      have:=d.c 0;have:=d.f 0;go_wp2_with fail;exact d.fin 0 2 rfl (E.out.symm.trans y.out)
theorem zKk {C:Pc} {s:Ps} {w:World} (hp:Pre C.L (.either) s) (K:KP C (zj C.L (.either) s)) (h:Pa C s w) (d:onP C.L [63,63] (zE C.L (.level 0) s).2=true):zp C s w (.either):=by
 refine zBH hp h fun y a4 a0 r W X HR hW hX J=>?_;have HK:=zA K;clear K h hp;go_enter func152,ntmps152;go_upto_region 1 with(fail);clear hW hX;have j:=zA d;clear d;go_wp2_with fail;refine J.kD (HK.out.rank (q:=.level 0) ⟨J.P.hi,yAE _⟩ J.P (yAC _) (by simp[zt])) fun w1 M N O R S T U V Y F1=>?_;have:=F1.sto 1;have F2:=F1.bt 1 58 rfl;have a1:=zA (zd y.out (p:=.level 0) (s:=s) ⟨a0,yAE _⟩).adv.le;go_wp2_with fail;refine F2.kB (zAl F2.P [63,63] j.out) fun w3 F3=>?_;obtain⟨q,hq⟩:=jx (zE C.L (.nullL ((zE C.L (.level 0) (s)).1)) ((zE C.L (.level 0) (s)).2));have HQ:=zA hq;clear hq;have z:=zA (show r=(q.1,if(onP C.L [124,124] q.2 || onP C.L [38,38] q.2)=true then ze C.L q.2 else q.2)from by
  refine HR.out.symm.trans ?_;unfold zD;dsimp only;rw[if_pos j.out,HQ.out])
 go_wp2_with fail
 go_loopg [9] (C.L.length - ((zE C.L (.level 0) (s)).2).k) (fun gk _ wr=>∃(l:Tr) (s':Ps) (e0 e1 e2 e3 e4 e5 e6 e7 e8:Value),C.L.length - s'.k≤gk∧s.k≤s'.k∧Hid (zE C.L (.nullL l) s'=q)∧Hid (Fr C (w.heap.size≤·) w [(w1.heap.size),X] [.bx X 58 [.int .i64 0,.string ⟨#[]⟩,.slice none 0 0,.int .i64 0,.int .i64 0,.bool false,.slice none 0 0,.slice none 0 0,.slice none 0 0],.bx (w1.heap.size) 58 [e0,e1,e2,e3,e4,e5,e6,e7,e8],.tr l [e0,e1,e2,e3,e4,e5,e6,e7,e8]] s' wr))
 case atStart=>exact⟨(zE C.L (.level 0) (s)).1,(zE C.L (.level 0) (s)).2,M,N,O,R,S,T,U,V,Y,by omega,a1.out,HQ.out,F3.pk [(w1.heap.size),X] [0,2,1] js jd rfl js js⟩
 case round=>
  obtain⟨l,s',e0,e1,e2,e3,e4,e5,e6,e7,e8,b7,a5,G,A⟩:=hrel
  by_cases d:onP C.L [63,63] s'=true
  · have j:=zA d;clear d;have B:=zA (y.out.on A.P.hi j.out);go_wp2_with fail;refine A.kM (zBY A.P [63,63] j.out) fun w5 D=>?_;have E:=zA (zd y.out (p:=.level 0) (s:=zB s') ⟨B.out,yAE _⟩);have a2:=zA (fun Q=>D.dr.kD (Q:=Q) (args:=#[.pointer (some ⟨C.g,0,none⟩),.int .i64 0]) (HK.out.more (q:=.level 0) ⟨D.dr.P.hi,yAE _⟩ D.dr.P (by show s.k < s'.k+1;omega)));have:=D.c 1;go_wp2_with fail;go_region_law (first | (go_simp;go_at_call 160;(with_reducible refine a2.out _ fun w6 a6 a7 a8 a9 b0 b3 b4 b5 b6 F6=>?_);have:=F6.c 1;have a3:=zA (fun Q=>F6.litN 47 [63,63] (n:=2) (Q:=Q) (F6.ts2 2 3) rfl js rfl)) | (go_simp;go_at_call 105;(with_reducible refine a3.out _ fun w7 F7=>?_);have:=F7.c 1;have:=F7.f 1))
    all_goals
     have m:=zA (show zE C.L (.nullL l) s'=zE C.L (.nullL (trN 47 ([63,63]) [l,(zE C.L (.level 0) (zB (s'))).1])) ((zE C.L (.level 0) (zB (s'))).2) by
      rw[zS y.out (p:=.nullL l) ⟨(Nat.le_of_lt B.out),trivial⟩];unfold zD;dsimp only;rw[if_pos j.out])
     have b8:(zB s').k=s'.k+1:=rfl;have b9:=E.out.adv.le;have c0:=B.out;go_wp2_with fail
     go_roundg (C.L.length - ((zE C.L (.level 0) (zB (s'))).2).k)
     case measure=>omega
     case rel=>
      exact⟨_,_,_,_,_,_,_,_,_,_,_,yAC _,jo,m.out.symm.trans G.out,(F7.put 1 4).pk [(w1.heap.size),X] [0,1,4] js jd rfl js js⟩
  · have j:=zA (show onP C.L [63,63] s'=false by simpa using d);clear d;go_wp2_with fail;refine A.kM (zBc A.P [63,63] j.out) fun w8 F8=>?_;have m:=zA (show q=(l,s')from G.out.symm.trans (by
     rw[zS y.out (p:=.nullL l) ⟨F8.P.hi,trivial⟩];unfold zD;dsimp only;rw[if_neg (by rw[j.out];decide)]))
    obtain⟨b1,H⟩:=jx (onP C.L [124,124] s');obtain⟨b2,I⟩:=jx (onP C.L [38,38] s');have u:=zA H;have v:=zA I;clear H I;go_wp2_with fail;refine F8.kB (zAl F8.P [124,124] u.out) fun w9 F=>?_;cases b1 with
    | true=>
     go_wp2_with fail;refine F.kN (zAN F.P) fun c1 o=>?_;have:=o.c 1;have:=o.sto 2;have:=o.c 0;have:=o.f 0;go_wp2_with fail;exact o.fin 0 2 rfl (by rw[z.out,m.out];simp[u.out,v.out])
    | false=>
     go_wp2_with fail;refine F.kB (zAl F.P [38,38] v.out) fun c2 e=>?_;cases b2 with
     | true=>
      go_wp2_with fail;refine e.kN (zAN e.P) fun c3 t=>?_;have:=t.c 1;have:=t.sto 2;have:=t.c 0;have:=t.f 0;go_wp2_with fail;exact t.fin 0 2 rfl (by rw[z.out,m.out];simp[u.out,v.out])
     | false=>
      have:=e.c 1;have:=e.sto 2;have:=e.c 0;have:=e.f 0;go_wp2_with fail;exact e.fin 0 2 rfl (by rw[z.out,m.out];simp[u.out,v.out])
theorem zQg {C:Pc} {s:Ps} {w:World} (hp:Pre C.L (.either) s) (K:KP C (zj C.L (.either) s)) (h:Pa C s w) (d:¬onP C.L [63,63] (zE C.L (.level 0) s).2=true):zp C s w (.either):=by
 refine zBH hp h fun l c6 M r W X HR hW hX S=>?_;have H:=zA K;clear K h hp;go_enter func152,ntmps152;go_upto_region 1 with(fail);clear hW hX;have e:=zA (show onP C.L [63,63] (zE C.L (.level 0) s).2=false by simpa using d);clear d;go_wp2_with fail;refine S.kD (H.out.rank (q:=.level 0) ⟨S.P.hi,yAE _⟩ S.P (yAC _) (by simp[zt])) fun w1 c7 c8 c9 d0 d1 d2 d3 d4 d5 F1=>?_;have:=F1.sto 1;have F2:=F1.bt 1 58 rfl;have N:=zA (zd l.out (p:=.level 0) (s:=s) ⟨M,yAE _⟩).adv.le;go_wp2_with fail;refine F2.kB (zAl F2.P [63,63] e.out) fun w3 v=>?_;have:=v.c 2;go_wp2_with fail;refine v.kO (v.both 1 rfl (H.out.rank (q:=.both ((zE C.L (.level 0) (s)).1)) ⟨v.P.hi,trivial⟩ v.P N.out (by simp[zt]))) fun w4 T U V Y a9 b9 c0 c1 c2 I=>?_;have:=I.sto 3;have:=I.c 2;have:=I.f 2;obtain⟨q,hq⟩:=jx (zE C.L (.orL ((zE C.L (.both ((zE C.L (.level 0) (s)).1)) ((zE C.L (.level 0) (s)).2)).1)) ((zE C.L (.both ((zE C.L (.level 0) (s)).1)) ((zE C.L (.level 0) (s)).2)).2));have HQ:=zA hq;clear hq;have O:=zA (show r=(q.1,if onP C.L [63,63] q.2=true then ze C.L q.2 else q.2)from by
  refine HR.out.symm.trans ?_;unfold zD;dsimp only;rw[if_neg (by rw[e.out];decide),HQ.out])
 have c3:=zA (yAD N.out (zd l.out (p:=.both ((zE C.L (.level 0) (s)).1)) (s:=(zE C.L (.level 0) (s)).2) ⟨(zd l.out (p:=.level 0) (s:=s) ⟨M,yAE _⟩).adv.hi,trivial⟩).adv.le);go_wp2_with fail
 go_loopg [28] (C.L.length - ((zE C.L (.both ((zE C.L (.level 0) (s)).1)) ((zE C.L (.level 0) (s)).2)).2).k) (fun gk _ wr=>∃(m:Tr) (s':Ps) (e0 e1 e2 e3 e4 e5 e6 e7 e8:Value),C.L.length - s'.k≤gk∧s.k≤s'.k∧Hid (zE C.L (.orL m) s'=q)∧Hid (Fr C (w.heap.size≤·) w [(w1.heap.size),X] [.bx X 58 [.int .i64 0,.string ⟨#[]⟩,.slice none 0 0,.int .i64 0,.int .i64 0,.bool false,.slice none 0 0,.slice none 0 0,.slice none 0 0],.bx (w1.heap.size) 58 [e0,e1,e2,e3,e4,e5,e6,e7,e8],.tr m [e0,e1,e2,e3,e4,e5,e6,e7,e8]] s' wr))
 case atStart=>exact⟨(zE C.L (.both ((zE C.L (.level 0) (s)).1)) ((zE C.L (.level 0) (s)).2)).1,(zE C.L (.both ((zE C.L (.level 0) (s)).1)) ((zE C.L (.level 0) (s)).2)).2,T,U,V,Y,a9,b9,c0,c1,c2,yAC _,c3.out,HQ.out,(I.put 2 3).pk [(w1.heap.size),X] [0,2,3] js jd rfl js js⟩
 case round=>
  obtain⟨m,s',e0,e1,e2,e3,e4,e5,e6,e7,e8,d8,d6,R,y⟩:=hrel
  by_cases d:onP C.L [124,124] s'=true
  · have e:=zA d;clear d;have z:=zA (l.out.on y.P.hi e.out);go_wp2_with fail;refine y.kM (zBY y.P [124,124] e.out) fun w6 J=>?_;have j:=zA (zd l.out (p:=.level 0) (s:=zB s') ⟨z.out,yAE _⟩);have A:=zA (zd l.out (p:=.both ((zE C.L (.level 0) (zB s')).1)) (s:=(zE C.L (.level 0) (zB s')).2) ⟨j.out.adv.hi,trivial⟩);have c4:=zA (fun Q=>J.dr.kD (Q:=Q) (args:=#[.pointer (some ⟨C.g,0,none⟩),.int .i64 0]) (H.out.more (q:=.level 0) ⟨J.dr.P.hi,yAE _⟩ J.dr.P (by show s.k < s'.k+1;omega)));have:=J.c 1;go_wp2_with fail;go_region_law (first | (go_simp;go_at_call 160;(with_reducible refine c4.out _ fun d9 a0 a1 a2 a3 a4 a5 a6 a7 a8 o=>?_);have:=o.c 1;have c5:=zA (fun Q=>o.kO (Q:=Q) (o.both 3 rfl (H.out.rank (q:=.both ((zE C.L (.level 0) (zB s')).1)) ⟨o.P.hi,trivial⟩ o.P (by have:=j.out.adv.le;have:(zB s').k=s'.k+1:=rfl;omega) (by simp[zt]))))) | (go_simp;go_at_call 161;(with_reducible refine c5.out _ fun e9 b0 b1 b2 b3 b4 b5 b6 b7 b8 B=>?_);have:=B.c 1;have LT:=zA (fun Q=>B.litN 47 [124,124] (n:=2) (Q:=Q) (B.ts2 2 4) rfl js rfl)) | (go_simp;go_at_call 105;(with_reducible refine LT.out _ fun f0 D=>?_);have:=D.c 1;have:=D.f 1))
    all_goals
     have u:=zA (show zE C.L (.orL m) s'=zE C.L (.orL (trN 47 ([124,124]) [m,(zE C.L (.both ((zE C.L (.level 0) (zB s')).1)) ((zE C.L (.level 0) (zB s')).2)).1])) ((zE C.L (.both ((zE C.L (.level 0) (zB s')).1)) ((zE C.L (.level 0) (zB s')).2)).2) by
      rw[zS l.out (p:=.orL m) ⟨(Nat.le_of_lt z.out),trivial⟩];unfold zD;dsimp only;rw[if_pos e.out])
     have f1:(zB s').k=s'.k+1:=rfl;have f2:=j.out.adv.le;have d7:=A.out.adv.le;have f3:=z.out;go_wp2_with fail
     go_roundg (C.L.length - ((zE C.L (.both ((zE C.L (.level 0) (zB s')).1)) ((zE C.L (.level 0) (zB s')).2)).2).k)
     case measure=>omega
     case rel=>
      exact⟨_,_,_,_,_,_,_,_,_,_,_,yAC _,jo,u.out.symm.trans R.out,(D.put 1 5).pk [(w1.heap.size),X] [0,1,5] js jd rfl js js⟩
  · have e:=zA (show onP C.L [124,124] s'=false by simpa using d);clear d;go_wp2_with fail;refine y.kM (zBc y.P [124,124] e.out) fun w7 F7=>?_;have u:=zA (show q=(m,s')from R.out.symm.trans (by
     rw[zS l.out (p:=.orL m) ⟨F7.P.hi,trivial⟩];unfold zD;dsimp only;rw[if_neg (by rw[e.out];decide)]))
    obtain⟨b1,E⟩:=jx (onP C.L [63,63] s');have F:=zA E;have f4:=zA E;clear E;go_wp2_with fail;refine F7.kB (zAl F7.P [63,63] F.out) fun w8 t=>?_;cases b1 with
    | true=>
     go_wp2_with fail;refine t.kN (zAN t.P) fun w9 G=>?_;have:=G.c 1;have:=G.sto 2;have:=G.c 0;have:=G.f 0;go_wp2_with fail;exact G.fin 0 2 rfl (by rw[O.out,u.out];simp[F.out])
    | false=>
     have:=t.c 1;have:=t.sto 2;have:=t.c 0;have:=t.f 0;go_wp2_with fail;exact t.fin 0 2 rfl (by rw[O.out,u.out];simp[F.out])
theorem zNT {C:Pc} {s:Ps} {w:World} (c:Pre C.L .either s) (K:KP C (zj C.L .either s)) (h:Pa C s w):zp C s w .either:=by
 by_cases b:onP C.L [63,63] (zE C.L (.level 0) s).2=true
 · exact zKk c K h b
 · exact zQg c K h b
theorem LstQ.mk {C:Pc} {r:Tr×Ps} {w w':World} {A:Option Addr} {n c:Nat} {l:List Tr} {t:Ps} (e:r=(trK 0 l,t)) (h:RowP w' (w.heap.size≤·) (.slice A n c) l) (b:Pa C t w') (hg:w.grownBy w' (some C.g)):LstQ C r w (.returned (.slice A n c)) w':=by
 subst e;obtain⟨h1,d,f⟩:=h.bounds;exact⟨A,n,c,rfl,h1,d,f,h,b,hg⟩
theorem zTn {C:Pc} {v:List UInt8} {s:Ps} {w:World} (hp:Pre C.L (.list v) s) (K:KP C (zj C.L (.list v) s)) (h:Pa C s w):zp C s w (.list v):=by
 show Calls prog 176 #[.pointer (some ⟨C.g,0,none⟩),.string ⟨v.toArray⟩] w (LstQ C (zE C.L (.list v) s) w);have E:=zA h.cx.lst;have c6:C.N≤4097:=h.cx.n4;have b6:=zA h.cx.n;have c7:=h.lt;have HK:=zA K;have c8:=hp.1;have P:=zA hp;have HP:=zA h;obtain⟨r,hr⟩:=jx (zE C.L (.list v) s);rw[hr];have HR:=zA hr;clear hr h K hp
 by_cases c:onP C.L v s=true
 · have HO:=zA c;clear c;go_enter func176,ntmps176;go_wp2_with fail;refine(zA1 HP.out v HO.out).mono ?_;rintro ev w1 ⟨rfl,u,y⟩;have F:=zA (show Pa C (zB s) w1 from u);have G:=zA y;clear u y;go_wp2_with fail;go_ret;refine LstQ.mk (l:=[]) (HR.out.symm.trans (by
    rw[zS E.out P.out];unfold zD;dsimp only;rw[if_pos HO.out])) (RowP.nil _ _) F.out G.out
 · have HO:=zA (show onP C.L v s=false by simpa using c);have a6:=zA (show zE C.L (.listL v []) s=r from by
    refine Eq.trans ?_ HR.out;rw[zS E.out (p:=.list v) P.out];unfold zD;dsimp only;rw[if_neg c])
   clear c;go_enter func176,ntmps176;go_wp2_with fail;refine(zA1 HP.out v HO.out).mono ?_;rintro ev w1 ⟨rfl,u,y⟩;have F:=zA (show Pa C s w1 from u);have G:=zA y;clear u y;go_wp2_with fail
   go_loopg [5] (C.L.length - s.k) (fun gk v5 wr=>∃(j:List Tr) (s':Ps) (A:Option Addr) (n cp:Nat),v5=.slice A n cp∧C.L.length - s'.k≤gk∧s.k≤s'.k∧n≤s'.k∧Hid (zE C.L (.listL v j) s'=r)∧Hid (Pa C s' wr)∧Hid (RowP wr (w.heap.size≤·) (.slice A n cp) j)∧Hid (w.grownBy wr (some C.g)))
   case atStart=>exact⟨[],s,none,0,0,rfl,yAC _,yAC _,yAE _,a6.out,F.out,RowP.nil _ _,G.out⟩
   case round=>
    clear F G a6;obtain⟨j,s',A,n,cp,rfl,c9,b4,d9,R,d,S,a7⟩:=hrel;go_wp2_with fail;refine(Calls.mono (show Calls prog 106 #[.pointer (some ⟨C.g,0,none⟩)] wr (zDU C (zE C.L .assign s') wr)from HK.out.rank (q:=.assign) ⟨d.out.hi,trivial⟩ d.out b4 (by simp[zt])) ?_);rintro e0 w2 ⟨d0,d1,d2,d3,d4,d5,d6,d7,d8,rfl,a8,a9,H⟩;have e1:=a7.out.size;have T:=zA a9;have U:=zA a8;have V:=zA (S.out.keep H (.box d.out.box jd jd jo));have b0:=zA (zC a7.out H);have b7:=zA (S.out.lt);have e2:=H.size;have f:=zA (zd E.out (p:=.assign) (s:=s') ⟨d.out.hi,trivial⟩);have b5:=f.out.adv.le;have W:=f.out.adv.hi;have e3:=b6.out;clear a8 a9 H;obtain⟨e,he⟩:=jx (zE C.L .assign s');rw[he]at T U f b5 W;have HE:=zA he;clear he;have HN:=zA S.out.bounds.1;go_wp2_with (at_builtin;refine zEe (Px:=fun b=>w.heap.size≤b) (Q:=fun b=>wr.heap.size≤b) rfl _ _ rfl rfl HN.out V.out U.out (fun b (hb:wr.heap.size≤b) _=>(by omega:w.heap.size≤b)) (fun b hb h2=>(by have:=b7.out b hb;omega)) (by show w.heap.size≤w2.heap.size+1;omega) jo rfl ?_;intro A3 b8 w3 X Y);have b1:=zA X;have a0:=V.out.new (zF w2 (.cells #[d0,d1,d2,d3,d4,d5,d6,d7,d8] 58) none);have b2:=zA ((T.out.alloc (.cells #[d0,d1,d2,d3,d4,d5,d6,d7,d8] 58)).row a0 (fun b (hb:w.heap.size≤b)=>(by omega:C.g < b)) Y);have a1:=zA (zHr (zC b0.out (zF _ _ _)) a0 (fun b hb=>hb) Y);have e4:=a1.out.size;clear X Y a0 V T b0 U
    by_cases hb:e.2.bad=0
    · have a2:=zA (show(e.2.bad==0)=true by rw[hb];rfl);have I:=zA hb;have e5:=f.out.lt d.out.hi (by rw[hb];simp);clear hb;refine(zBd b2.out a2.out).mono ?_;rintro b9 w4 ⟨rfl,z,m⟩;have t:=zA z;have J:=zA (b1.out.new m);have M:=zA (zC a1.out (zAd m _));clear z m
      by_cases c:onP C.L v e.2=true
      · have B:=zA c;clear c;go_wp2_with fail;refine(zA1 t.out v B.out).mono ?_;rintro c0 w5 ⟨rfl,D,o⟩;have O:=zA (show Pa C (zB e.2) w5 from D);have a3:=zA (J.out.keep o (.box t.out.box jd jd jo));have a4:=zA (zC M.out o);clear D o;go_wp2_with fail;go_ret;refine LstQ.mk (l:=j++[e.1]) (R.out.symm.trans (by
         rw[zS E.out ⟨d.out.hi,trivial⟩];unfold zD;dsimp only;rw[HE.out,if_neg (by rw[I.out];simp),if_pos B.out])) a3.out O.out a4.out
      · have B:=zA (show onP C.L v e.2=false by simpa using c);clear c;go_wp2_with fail;refine(zA1 t.out v B.out).mono ?_;rintro c0 w5 ⟨rfl,D,o⟩;have O:=zA (show Pa C e.2 w5 from D);have a3:=zA (J.out.keep o (.box t.out.box jd jd jo));have a4:=zA (zC M.out o);clear D o;go_wp2_with fail;refine(zAK O.out [44]).mono ?_;rintro e6 w6 ⟨rfl,b3,a5⟩;have c1:=zA b3;have c2:=zA (a3.out.keep a5 (.box O.out.box jd jd jo));have c3:=zA (zC a4.out a5);clear b3 a5;have c4:=zA (show zE C.L (.listL v (j++[e.1])) (zP C.L [44] e.2)=r from Eq.trans (Eq.symm (by
         rw[zS E.out (p:=.listL v j) (s:=s') ⟨d.out.hi,trivial⟩];unfold zD;dsimp only;rw[HE.out,if_neg (by rw[I.out];simp),if_neg (by rw[B.out];decide)])) R.out)
        have c5:=zA (zc (w:=[44]) E.out (s:=e.2) W).adv;have e7:=c5.out.le;go_wp2_with fail
        go_roundg (C.L.length - (zP C.L [44] e.2).k)
        case measure=>omega
        case rel=>exact⟨_,_,A3,n+1,b8,rfl,yAC _,by omega,by omega,c4.out,c1.out,c2.out,c3.out⟩
    · have a2:=zA (show(e.2.bad==0)=false by rw[yA];exact hb);have I:=zA hb;clear hb;refine(zBd b2.out a2.out).mono ?_;rintro b9 w4 ⟨rfl,z,m⟩;have t:=zA z;have J:=zA (b1.out.new m);have M:=zA (zC a1.out (zAd m _));clear z m;go_wp2_with fail;go_ret;refine LstQ.mk (l:=j++[e.1]) (R.out.symm.trans (by
       rw[zS E.out ⟨d.out.hi,trivial⟩];unfold zD;dsimp only;rw[HE.out,if_pos I.out])) J.out t.out M.out
theorem zTo {C:Pc} {s:Ps} {w:World} (d:Pre C.L .args s) (K:KP C (zj C.L .args s)) (h:Pa C s w):zp C s w .args:=by
 show Calls prog 173 #[.pointer (some ⟨C.g,0,none⟩)] w (LstQ C (zE C.L .args s) w);have t:=zA h.cx.lst;have z:=zA K;have r:=zA d;have B:=zA h;have D:=zA (zc (w:=[40]) t.out d.1);have u:=zA (D.out.more d.2);clear h K d;go_enter func173,ntmps173;go_wp2_with fail;refine(zAK B.out [40]).mono ?_;rintro J w1 ⟨rfl,f,j⟩;have k:=zA f;have l:=zA j;clear f j;go_wp2_with fail;refine(Calls.mono (show Calls prog 176 #[.pointer (some ⟨C.g,0,none⟩),.string ⟨#[41]⟩] w1 (LstQ C (zE C.L (.list [41]) (zP C.L [40] s)) w1)from z.out.more (q:=.list [41]) ⟨k.out.hi,trivial⟩ k.out u.out) ?_);rintro I w2 ⟨A,n,c,rfl,h1,E,F,m,o,p⟩;have G:=zA (show RowP w2 (w.heap.size≤·) (.slice A n c) (zE C.L (.list [41]) (zP C.L [40] s)).1.subs from m.sub fun b (hb:w1.heap.size≤b) _=>yAD l.out.size hb);have v:=zA o;have y:=zA (zC l.out p);have H:=zA h1;clear h1 m o p;go_wp2_with fail;go_ret;have e:zE C.L .args s=zE C.L (.list [41]) (zP C.L [40] s):=by
  rw[zS t.out r.out];rfl
 rw[e];exact⟨A,n,c,rfl,H.out,E,F,G.out,v.out,y.out⟩
theorem zNU {C:Pc} {s:Ps} {w:World} (hp:Pre C.L (.object) s) (K:KP C (zj C.L (.object) s)) (h:Pa C s w):zp C s w (.object):=by
 refine zBH hp h fun u a8 b0 r W X HR hW hX F0=>?_;have HK:=zA K;clear K h hp;go_enter func177,ntmps177;go_upto_region 1 with(fail);clear hW hX;go_wp2_with fail;refine F0.made0 _ fun w1 F1=>?_;have B:=F1.bt 1 58 rfl
 by_cases l:onP C.L [125] s=true
 · have v:=zA l;clear l;go_wp2_with fail;refine B.kM (zBY B.P [125] v.out) fun w3 D=>?_;have:=D.c 2;have:=D.c 0;have:=D.f 0;go_wp2_with fail;exact D.fin 0 1 rfl (HR.out.symm.trans (by
    unfold zD;dsimp only;rw[if_pos v.out]))
 · have v:=zA (show onP C.L [125] s=false by simpa using l);clear l;have a0:=zA (show zE C.L (.objL []) s=r from by
    refine Eq.trans ?_ HR.out;unfold zD;dsimp only;rw[if_neg (by rw[v.out];decide)])
   go_wp2_with fail;refine B.kM (zBc B.P [125] v.out) fun w5 F5=>?_;go_wp2_with fail
   go_loopg [9] (C.L.length - s.k) (fun gk _ wr=>∃(b:List Tr) (s':Ps) (A:Option Addr) (n cp:Nat),C.L.length - s'.k≤gk∧s.k≤s'.k∧n≤s'.k∧Hid (zE C.L (.objL b) s'=r)∧Fr C (w.heap.size≤·) w [(w1.heap.size),X] [.bx X 58 [.int .i64 0,.string ⟨#[]⟩,.slice none 0 0,.int .i64 0,.int .i64 0,.bool false,.slice none 0 0,.slice none 0 0,.slice none 0 0],.bx (w1.heap.size) 58 [.int .i64 39,.string ⟨#[]⟩,.slice none 0 0,.int .i64 0,.int .i64 0,.bool false,.slice none 0 0,.slice none 0 0,.slice A n cp],.ro (.slice A n cp) b] s' wr)
   case atStart=>exact⟨[],s,none,0,0,yAC _,yAC _,yAE _,a0.out,F5.nil.pk [(w1.heap.size),X] [0,2,3] js jd rfl js js⟩
   case round=>
    obtain⟨b,s',A,n,cp,b1,I,b2,y,d⟩:=hrel;have e:=zA (zd u.out (p:=.prop) (s:=s') ⟨d.P.hi,trivial⟩);have a9:=e.out.adv.le;have J:=e.out.adv.hi;have b3:=d.P.hi;have a1:=zA (fun Q=>d.dr.kR 2 rfl (Q:=Q) (HK.out.rank (q:=.prop) ⟨d.dr.P.hi,trivial⟩ d.dr.P I (by simp[zt])));have:=d.c 1;have a2:n≤4097:=by have:=d.P.cx.n;omega
    go_wp2_with fail;go_region_law (first | (go_simp;go_at_call 178;(with_reducible refine a1.out _ fun w6 M N O R S T U V Y F6=>?_);have:=F6.c 1;have:=(F6.al (.cells #[M,N,O,R,S,T,U,V,Y] 58)).c 1) | (refine F6.snocS 2 3 rfl rfl (fun _ h=>h) a2 rfl _ _ rfl rfl rfl fun A7 G w7 F7=>?_;have:=F7.c 1;have:=F7.f 1))
    all_goals
     have E:=F7.set 1 8 (.slice A7 (n+1) G)
     by_cases hb:(zE C.L .prop s').2.bad=0
     · have z:=zA (show((zE C.L .prop s').2.bad==0)=true by rw[hb];rfl);have m:=zA hb;have b4:=e.out.lt d.P.hi (by rw[hb];simp);clear hb;go_wp2_with fail;refine E.kB (zBd E.P z.out) fun w9 F=>?_
       by_cases g:onP C.L [125] (zE C.L .prop s').2=true
       · have j:=zA g;clear g;go_wp2_with fail;refine F.kM (zBY F.P [125] j.out) fun b5 o=>?_;have:=o.c 1;have:=o.c 0;have:=o.f 0;go_wp2_with fail;have a3:=o.rowK 2 rfl 39;exact a3.fin 0 4 rfl (y.out.symm.trans (by
          rw[zS u.out (p:=.objL b) ⟨d.P.hi,trivial⟩];unfold zD;dsimp only;rw[if_neg (by rw[m.out];simp),if_pos j.out]))
       · have j:=zA (show onP C.L [125] (zE C.L .prop s').2=false by simpa using g);clear g;go_wp2_with fail;refine F.kM (zBc F.P [125] j.out) fun b6 H=>?_;have a4:=zA (show zE C.L (.objL (b++[(zE C.L .prop s').1])) (zP C.L [44] (zE C.L .prop s').2)=r from Eq.trans (Eq.symm (by
          rw[zS u.out (p:=.objL b) (s:=s') ⟨d.P.hi,trivial⟩];unfold zD;dsimp only;rw[if_neg (by rw[m.out];simp),if_neg (by rw[j.out];decide)])) y.out)
         have a5:=zA (zc (w:=[44]) u.out (s:=(zE C.L .prop s').2) J).adv;have b7:=a5.out.le;go_wp2_with fail;refine H.kN (zAK H.P [44]) fun b8 a6=>?_;go_wp2_with fail
         go_roundg (C.L.length - (zP C.L [44] (zE C.L .prop s').2).k)
         case measure=>omega
         case rel=>exact⟨_,_,A7,n+1,G,yAC _,by omega,by omega,a4.out,a6.pk [(w1.heap.size),X] [0,1,2] js jd rfl js js⟩
     · have z:=zA (show((zE C.L .prop s').2.bad==0)=false by rw[yA];exact hb);have m:=zA hb;clear hb;go_wp2_with fail;refine E.kB (zBd E.P z.out) fun b9 t=>?_;have:=t.c 1;have:=t.c 0;have:=t.f 0;go_wp2_with fail;have a7:=t.rowK 2 rfl 39;exact a7.fin 0 4 rfl (y.out.symm.trans (by
        rw[zS u.out (p:=.objL b) ⟨d.P.hi,trivial⟩];unfold zD;dsimp only;rw[if_pos m.out]))
theorem zQh {C:Pc} {s:Ps} {w:World} (hp:Pre C.L (.block) s) (K:KP C (zj C.L (.block) s)) (h:Pa C s w):zp C s w (.block):=by
 refine zBH hp h fun t b0 H r W X HR hW hX F0=>?_;have HK:=zA K;clear K h hp;go_enter func111,ntmps111;go_upto_region 1 with(fail);clear hW hX;go_wp2_with fail;refine F0.made0 _ fun w1 F1=>?_;have F2:=F1.bt 1 58 rfl;have hn:=zA (zc (w:=[123]) t.out H);have a1:=zA (show zE C.L (.blockL []) (zP C.L [123] (s))=r from by
  refine Eq.trans ?_ HR.out;unfold zD;rfl)
 go_wp2_with fail;refine F2.kN (zAK F2.P [123]) fun w3 F3=>?_;have a2:=zA (show(zP C.L [123] (s)).bad=0→s.k < (zP C.L [123] (s)).k from fun hb=>hn.out.lt H (by rw[hb];simp));have b4:=zA hn.out.adv.le;go_wp2_with fail
 go_loopg [7] (2*(C.L.length - (zP C.L [123] (s)).k)+(if(zP C.L [123] (s)).bad=0 then 1 else 0)) (fun gk _ wr=>∃(e:List Tr) (s':Ps) (A:Option Addr) (n cp:Nat),2*(C.L.length - s'.k)+(if s'.bad=0 then 1 else 0)≤gk∧(s'.bad=0→s.k < s'.k)∧(s'.bad=0→n≤s'.k)∧Hid (zE C.L (.blockL e) s'=r)∧Fr C (w.heap.size≤·) w [(w1.heap.size),X] [.bx X 58 [.int .i64 0,.string ⟨#[]⟩,.slice none 0 0,.int .i64 0,.int .i64 0,.bool false,.slice none 0 0,.slice none 0 0,.slice none 0 0],.bx (w1.heap.size) 58 [.int .i64 4,.string ⟨#[]⟩,.slice none 0 0,.int .i64 0,.int .i64 0,.bool false,.slice none 0 0,.slice none 0 0,.slice A n cp],.ro (.slice A n cp) e] s' wr)
 case atStart=>exact⟨[],zP C.L [123] (s),none,0,0,yAC _,a2.out,fun _=>yAE _,a1.out,F3.nil.pk [(w1.heap.size),X] [0,2,3] js jd rfl js js⟩
 case round=>
  obtain⟨e,s',A,n,cp,l,j,I,u,b⟩:=hrel
  by_cases hb:s'.bad=0
  · have v:=zA (show(s'.bad==0)=true by rw[hb];rfl);have g:=zA hb;have y:=zA (j hb);have b1:2*(C.L.length - s'.k)+1≤gk:=by rw[if_pos hb]at l;exact l
    clear hb l j;go_wp2_with fail;refine b.kB (zBd b.P v.out) fun w4 E=>?_
    by_cases m:onP C.L [125] s'=true
    · have z:=zA m;clear m;go_wp2_with fail;refine E.kM (zBY E.P [125] z.out) fun w5 F=>?_;have:=F.c 1;have:=F.c 0;have:=F.f 0;go_wp2_with fail;have F6:=F.rowK 2 rfl 4;exact F6.fin 0 3 rfl (u.out.symm.trans (by
       rw[zS t.out (p:=.blockL e) ⟨b.P.hi,trivial⟩];unfold zD;dsimp only;rw[if_neg (by rw[g.out];simp),if_pos z.out]))
    · have z:=zA (show onP C.L [125] s'=false by simpa using m);clear m;go_wp2_with fail;refine E.kM (zBc E.P [125] z.out) fun w8 G=>?_;have d:=zA (zd t.out (p:=.item) (s:=s') ⟨b.P.hi,trivial⟩);have b2:=d.out.adv.le;have b3:=d.out.adv.hi;have b5:=b.P.hi;have b6:=I g.out;have a3:=zA (fun Q=>G.dr.kR 2 rfl (Q:=Q) (HK.out.more (q:=.item) ⟨G.dr.P.hi,trivial⟩ G.dr.P y.out));have:=G.c 1;have a4:n≤4097:=by have:=I g.out;have:=b.P.cx.n;omega
      go_wp2_with fail;go_region_law (first | (go_simp;go_at_call 34;(with_reducible refine a3.out _ fun w9 M N O R S T U V Y F9=>?_);have:=F9.c 1;have:=(F9.al (.cells #[M,N,O,R,S,T,U,V,Y] 58)).c 1) | (refine F9.snocS 2 3 rfl rfl (fun _ h=>h) a4 rfl _ _ rfl rfl rfl fun J B b7 D=>?_;have:=D.c 1;have:=D.f 1))
      all_goals
       have a5:=D.set 1 8 (.slice J (n+1) B);have a6:=zA (show zE C.L (.blockL (e++[(zE C.L .item s').1])) (zE C.L .item s').2=r from Eq.trans (Eq.symm (by
        rw[zS t.out (p:=.blockL e) (s:=s') ⟨b.P.hi,trivial⟩];unfold zD;dsimp only;rw[if_neg (by rw[g.out];simp),if_neg (by rw[z.out];decide)])) u.out)
       have b8:=y.out;have a7:2*(C.L.length - (zE C.L .item s').2.k)+(if(zE C.L .item s').2.bad=0 then 1 else 0) < gk:=by
        have a0:Eat C.L s' (zE C.L .item s').2:=d.out
        by_cases hb:(zE C.L .item s').2.bad=0
        · have:=a0.lt b.P.hi (by rw[hb];simp);rw[if_pos hb];omega
        · rw[if_neg hb];omega
       have a8:(zE C.L .item s').2.bad=0→n+1≤(zE C.L .item s').2.k:=fun hb=>by have:=(show Eat C.L s' (zE C.L .item s').2 from d.out).lt b.P.hi (by rw[hb];simp);omega
       go_wp2_with fail
       go_roundg (2*(C.L.length - (zE C.L .item s').2.k)+(if(zE C.L .item s').2.bad=0 then 1 else 0))
       case measure=>exact a7
       case rel=>exact⟨_,_,J,n+1,B,yAC _,fun _=>by omega,a8,a6.out,a5.pk [(w1.heap.size),X] [0,1,2] js jd rfl js js⟩
  · have v:=zA (show(s'.bad==0)=false by rw[yA];exact hb);have g:=zA hb;clear hb l j;go_wp2_with fail;refine b.kB (zBd b.P v.out) fun b9 o=>?_;have:=o.c 1;have:=o.c 0;have:=o.f 0;go_wp2_with fail;have a9:=o.rowK 2 rfl 4;exact a9.fin 0 3 rfl (u.out.symm.trans (by
     rw[zS t.out (p:=.blockL e) ⟨b.P.hi,trivial⟩];unfold zD;dsimp only;rw[if_pos g.out]))
theorem zKl {C:Pc} {s:Ps} {w:World} (M:Pre C.L (.program []) s) (K:KP C (zj C.L (.program []) s)) (h:Pa C s w):zp C s w (.program []):=by
 refine zBH M h fun l V N r W X Y hW hX F0=>?_;have HK:=zA K;clear K h M;go_enter func16,ntmps16;go_upto_region 1 with(fail);clear hW hX;go_wp2_with fail;refine F0.made0 _ fun w1 F1=>?_;have F2:=F1.bt 1 58 rfl;go_wp2_with fail
 go_loopg [5] (C.L.length - s.k) (fun gk _ wr=>∃(b:List Tr) (s':Ps) (A:Option Addr) (n cp:Nat),C.L.length - s'.k≤gk∧s.k≤s'.k∧n≤s'.k∧Hid (zE C.L (.program b) s'=r)∧Fr C (w.heap.size≤·) w [(w1.heap.size),X] [.bx X 58 [.int .i64 0,.string ⟨#[]⟩,.slice none 0 0,.int .i64 0,.int .i64 0,.bool false,.slice none 0 0,.slice none 0 0,.slice none 0 0],.bx (w1.heap.size) 58 [.int .i64 1,.string ⟨#[]⟩,.slice none 0 0,.int .i64 0,.int .i64 0,.bool false,.slice none 0 0,.slice none 0 0,.slice A n cp],.ro (.slice A n cp) b] s' wr)
 case atStart=>exact⟨[],s,none,0,0,yAC _,yAC _,yAE _,(zS l.out (p:=.program []) ⟨N,trivial⟩).trans Y.out,F2.nil.pk [(w1.heap.size),X] [0,2,3] js jd rfl js js⟩
 case round=>
  obtain⟨b,s',A,n,cp,a2,u,a3,o,d⟩:=hrel;have a4:=zXb;obtain⟨⟨kd,tx,st,nk,nn,mg,ps,nl⟩,m⟩:=zU C.L (s').k;go_wp2_with fail;refine d.kT (zv d.P m.out) fun w3 As Am c1 c2 e=>?_
  by_cases hk:kd=0
  · have e0:((kd:Int) !=0)=false:=by rw[bne_eq_false_iff_eq];omega
    have g:=zA hk;clear hk;have:=e.c 1;have:=e.c 0;have:=e.f 0;go_wp2_with fail;have F4:=e.rowK 2 rfl 1;exact F4.fin 0 4 rfl (o.out.symm.trans (by
     rw[zS l.out (p:=.program b) ⟨d.P.hi,trivial⟩];unfold zD;dsimp only;rw[m.out,if_pos g.out]))
  · have e0:((kd:Int) !=0)=true:=by rw[bne_iff_ne];omega
    have g:=zA hk;clear hk;have O:=zA (l.out.lt (s:=s') d.P.hi (by rw[m.out];exact g.out));have j:=zA (zd l.out (p:=.item) (s:=s') ⟨d.P.hi,trivial⟩);have a0:=(show Eat C.L s' (zE C.L .item s').2 from j.out).more O.out;have a1:=j.out.adv.hi;have a5:=d.P.hi;have R:=zA (fun Q=>e.dr.kR 2 rfl (Q:=Q) (HK.out.rank (q:=.item) ⟨e.dr.P.hi,trivial⟩ e.dr.P u (by simp[zt])));have:=e.c 1;have S:n≤4097:=by have:=d.P.cx.n;omega
    go_wp2_with fail;go_region_law (first | (go_simp;go_at_call 34;(with_reducible refine R.out _ fun w6 v y z B D E F G H I=>?_);have:=I.c 1;have:=(I.al (.cells #[v,y,z,B,D,E,F,G,H] 58)).c 1) | (refine I.snocS 2 4 rfl rfl (fun _ h=>h) S rfl _ _ rfl rfl rfl fun T t w7 J=>?_;have:=J.c 1;have:=J.f 1))
    all_goals
     have F8:=J.set 1 8 (.slice T (n+1) t);have U:=zA (show zE C.L (.program (b++[(zE C.L .item s').1])) (zE C.L .item s').2=r from Eq.trans (Eq.symm (by
      rw[zS l.out (p:=.program b) (s:=s') ⟨d.P.hi,trivial⟩];unfold zD;dsimp only;rw[m.out,if_neg g.out])) o.out)
     go_wp2_with fail
     go_roundg (C.L.length - (zE C.L .item s').2.k)
     case measure=>omega
     case rel=>exact⟨_,_,T,n+1,t,yAC _,by omega,by omega,U.out,F8.pk [(w1.heap.size),X] [0,1,2] js jd rfl js js⟩
theorem zTp {C:Pc} {s:Ps} {w:World} (hp:Pre C.L .params s) (_K:KP C (zj C.L .params s)) (h:Pa C s w):zp C s w .params:=by
 show Calls prog 110 #[.pointer (some ⟨C.g,0,none⟩)] w (LstQ C (zE C.L .params s) w);have z:=zA h.cx.lst;have d2:C.N≤4097:=h.cx.n4;have b9:=zA h.cx.n;have d4:=h.lt;have c0:=hp.1;have R:=zA hp;have HP:=zA h;obtain⟨r,hr⟩:=jx (zE C.L .params s);rw[hr];have HR:=zA hr;clear hr h _K hp;have c1:=zA (zc (w:=[40]) z.out c0)
 by_cases c:onP C.L [41] (zP C.L [40] s)=true
 · have HO:=zA c;clear c;go_enter func110,ntmps110;go_wp2_with fail;refine(zAK HP.out [40]).mono ?_;rintro c2 w0 ⟨rfl,B,D⟩;have S:=zA B;have T:=zA D;clear B D;go_wp2_with fail;refine(zA1 S.out [41] HO.out).mono ?_;rintro ev w1 ⟨rfl,f,d⟩;have m:=zA (show Pa C (zB (zP C.L [40] s)) w1 from f);have v:=zA (zC T.out d);clear f d;go_wp2_with fail;go_ret;refine LstQ.mk (l:=[]) (HR.out.symm.trans (by
    rw[zS z.out R.out];unfold zD;dsimp only;rw[if_pos HO.out])) (RowP.nil _ _) m.out v.out
 · have HO:=zA (show onP C.L [41] (zP C.L [40] s)=false by simpa using c);have a8:=zA (show zE C.L (.paramL []) (zP C.L [40] s)=r from by
    refine Eq.trans ?_ HR.out;rw[zS z.out (p:=.params) R.out];unfold zD;dsimp only;rw[if_neg c])
   clear c;go_enter func110,ntmps110;go_wp2_with fail;refine(zAK HP.out [40]).mono ?_;rintro c2 w0 ⟨rfl,B,D⟩;have S:=zA B;have T:=zA D;clear B D;go_wp2_with fail;refine(zA1 S.out [41] HO.out).mono ?_;rintro ev w1 ⟨rfl,f,d⟩;have m:=zA (show Pa C (zP C.L [40] s) w1 from f);have v:=zA (zC T.out d);clear f d;go_wp2_with fail
   go_loopg [3] (C.L.length - (zP C.L [40] s).k) (fun gk v5 wr=>∃(o:List Tr) (s':Ps) (A:Option Addr) (n cp:Nat),v5=.slice A n cp∧C.L.length - s'.k≤gk∧s.k≤s'.k∧n≤s'.k∧Hid (zE C.L (.paramL o) s'=r)∧Hid (Pa C s' wr)∧Hid (RowP wr (w.heap.size≤·) (.slice A n cp) o)∧Hid (w.grownBy wr (some C.g)))
   case atStart=>exact⟨[],zP C.L [40] s,none,0,0,rfl,yAC _,c1.out.adv.le,yAE _,a8.out,m.out,RowP.nil _ _,v.out⟩
   case round=>
    clear m v a8;obtain⟨o,s',A,n,cp,rfl,d5,d3,d6,U,q,a9,b0⟩:=hrel;go_wp2_with fail;refine(zD9 q.out).mono ?_;rintro d7 V ⟨rfl,f,d⟩;have d8:=b0.out.size;have m:=zA f;have b1:=zA (a9.out.keep d (.box q.out.box jd jd jo));have v:=zA (zC b0.out d);have d9:=d.size;clear f d;have j:=zA (zA8 z.out q.out.hi);have b8:=j.out.adv.le;have W:=j.out.adv.hi;have e0:=b9.out;obtain⟨nm,I⟩:=jx (zo C.L s');rw[I]at m j b8 W;simp only[I];have X:=zA I;clear I;go_wp2_with fail;refine(zC8 20 ⟨nm.1.toArray⟩ none 0 0).mono ?_;rintro e1 w2 ⟨rfl,E⟩;have b2:=zA (m.out.new E);have Y:=zA (b1.out.new E);have b3:=zA (zC v.out (zAd E _));have e2:=E.size;have c3:=zA (b1.out.lt);have b4:=zA (show TrC w2 (fun b=>V.heap.size≤b) (trN 20 nm.1 []) [.int .i64 20,.string ⟨nm.1.toArray⟩,.slice none 0 0,.int .i64 0,.int .i64 0,.bool false,.slice none 0 0,.slice none 0 0,.slice none 0 0]from(RowP.nil w2 _).treeN);clear E;have HN:=zA a9.out.bounds.1;go_wp2_with (at_builtin;refine zEe (Px:=fun b=>w.heap.size≤b) (Q:=fun b=>V.heap.size≤b) rfl _ _ rfl rfl HN.out Y.out b4.out (fun b (hb:V.heap.size≤b) _=>(by omega:w.heap.size≤b)) (fun b hb h2=>(by have:=c3.out b hb;omega)) (by show w.heap.size≤w2.heap.size+1;omega) jo rfl ?_;intro A3 c4 w3 a0 a1);have b5:=zA a0;have a2:=Y.out.new (zF w2 (.cells #[.int .i64 20,.string ⟨nm.1.toArray⟩,.slice none 0 0,.int .i64 0,.int .i64 0,.bool false,.slice none 0 0,.slice none 0 0,.slice none 0 0] 58) none);have b6:=zA ((b2.out.alloc (.cells #[.int .i64 20,.string ⟨nm.1.toArray⟩,.slice none 0 0,.int .i64 0,.int .i64 0,.bool false,.slice none 0 0,.slice none 0 0,.slice none 0 0] 58)).row a2 (fun b (hb:w.heap.size≤b)=>(by omega:C.g < b)) a1);have a3:=zA (zHr (zC b3.out (zF _ _ _)) a2 (fun b hb=>hb) a1);have e3:=a3.out.size;clear a0 a1 a2 Y b2 b3 b4
    by_cases hb:nm.2.bad=0
    · have a4:=zA (show(nm.2.bad==0)=true by rw[hb];rfl);have J:=zA hb;have e4:=j.out.lt q.out.hi (by rw[hb];simp);clear hb;refine(zBd b6.out a4.out).mono ?_;rintro c5 w4 ⟨rfl,F,t⟩;have y:=zA F;have M:=zA (b5.out.new t);have O:=zA (zC a3.out (zAd t _));clear F t
      by_cases c:onP C.L [41] nm.2=true
      · have G:=zA c;clear c;go_wp2_with fail;refine(zA1 y.out [41] G.out).mono ?_;rintro c6 w5 ⟨rfl,H,u⟩;have P:=zA (show Pa C (zB nm.2) w5 from H);have a5:=zA (M.out.keep u (.box y.out.box jd jd jo));have a6:=zA (zC O.out u);clear H u;go_wp2_with fail;go_ret;refine LstQ.mk (l:=o++[trN 20 nm.1 []]) (U.out.symm.trans (by
         rw[zS z.out ⟨q.out.hi,trivial⟩];unfold zD;dsimp only;rw[X.out,if_neg (by rw[J.out];simp),if_pos G.out])) a5.out P.out a6.out
      · have G:=zA (show onP C.L [41] nm.2=false by simpa using c);clear c;go_wp2_with fail;refine(zA1 y.out [41] G.out).mono ?_;rintro c6 w5 ⟨rfl,H,u⟩;have P:=zA (show Pa C nm.2 w5 from H);have a5:=zA (M.out.keep u (.box y.out.box jd jd jo));have a6:=zA (zC O.out u);clear H u;go_wp2_with fail;refine(zAK P.out [44]).mono ?_;rintro e5 w6 ⟨rfl,b7,a7⟩;have c7:=zA b7;have c8:=zA (a5.out.keep a7 (.box P.out.box jd jd jo));have c9:=zA (zC a6.out a7);clear b7 a7;have d0:=zA (show zE C.L (.paramL (o++[trN 20 nm.1 []])) (zP C.L [44] nm.2)=r from Eq.trans (Eq.symm (by
         rw[zS z.out (p:=.paramL o) (s:=s') ⟨q.out.hi,trivial⟩];unfold zD;dsimp only;rw[X.out,if_neg (by rw[J.out];simp),if_neg (by rw[G.out];decide)])) U.out)
        have d1:=zA (zc (w:=[44]) z.out (s:=nm.2) W).adv;have e6:=d1.out.le;go_wp2_with fail
        go_roundg (C.L.length - (zP C.L [44] nm.2).k)
        case measure=>omega
        case rel=>exact⟨_,_,A3,n+1,c4,rfl,yAC _,by omega,by omega,d0.out,c7.out,c8.out,c9.out⟩
    · have a4:=zA (show(nm.2.bad==0)=false by rw[yA];exact hb);have J:=zA hb;clear hb;refine(zBd b6.out a4.out).mono ?_;rintro c5 w4 ⟨rfl,F,t⟩;have y:=zA F;have M:=zA (b5.out.new t);have O:=zA (zC a3.out (zAd t _));clear F t;go_wp2_with fail;go_ret;refine LstQ.mk (l:=o++[trN 20 nm.1 []]) (U.out.symm.trans (by
       rw[zS z.out ⟨q.out.hi,trivial⟩];unfold zD;dsimp only;rw[X.out,if_pos J.out])) M.out y.out O.out
end Go.Proofs.YtlnbbaehihgigaaGreatDoor
