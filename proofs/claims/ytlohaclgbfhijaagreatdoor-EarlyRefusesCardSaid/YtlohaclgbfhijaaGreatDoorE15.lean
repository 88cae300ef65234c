/- Joined for the claim EarlyRoot: the parser, the lexer and the trees as they are walked, made short by a program of mine. -/
import Derived.Deep.RegionLaw
import Derived.Deep.LoopGhost
import Derived.Test.YtlohaclgbfhijaaGreatDoorE14
import Derived.Deep.AppendLies
import Derived.Test.YtlohaclgbfhijaaGreatDoorE01
set_option maxHeartbeats 16000000
set_option maxRecDepth 1000000
namespace Go.Proofs.YtlohaclgbfhijaaGreatDoor
open Go.Proofs.Tryz
open Go.RowKit
theorem zNy {C:Pc} {x:Tr} {s:Ps} {w:World} (_hp:Pre C.L (.both x) s) (K:KP C (zZ C.L (.both x) s)) (h:Pa C s w):zc C s w (.both x):=by
 intro Q d0 d1 d2 d3 d4 d5 d6 d7 d8 hQ ht;have HL:=zA h.cx.lst;have hlen:C.N≤4097:=h.cx.n4;have HQ:=zA hQ;have HK:=zA K;obtain⟨r,hr⟩:∃r,zF C.L (.both x) s=r:=⟨_,rfl⟩;rw[hr];have HR:=zA hr;obtain⟨W0,hW0⟩:∃W0,w.alloc (.cells #[d0,d1,d2,d3,d4,d5,d6,d7,d8] 72)=W0:=⟨_,rfl⟩;obtain⟨W,hW⟩:∃W,W0.alloc (.cells #[.int .i64 0,.string ⟨#[]⟩,.slice none 0 0,.int .i64 0,.int .i64 0,.bool false,.slice none 0 0,.slice none 0 0,.slice none 0 0] 72)=W:=⟨_,rfl⟩;have hg0:w.grownBy W0 none:=by rw[←hW0];exact zG _ _ _
 have hg1:W0.grownBy W none:=by rw[←hW];exact zG _ _ _
 have hz0:W0.heap.size=w.heap.size+1:=by rw[←hW0];simp
 have hb0:Bx W0 w.heap.size 72 [d0,d1,d2,d3,d4,d5,d6,d7,d8]:=by rw[←hW0];exact Bx.new w [d0,d1,d2,d3,d4,d5,d6,d7,d8] _
 have hb1:Bx W (w.heap.size+1) 72 zFO:=by rw[←hW,←hz0];exact Bx.new W0 zFO _
 obtain⟨R,hRw⟩:∃R,w.heap.size=R:=⟨_,rfl⟩;rw[hRw]at hb0 hb1 hz0;have hgR:C.g < R:=by rw[←hRw];exact h.lt
 have HB0:=zA (hb0.grown hg1 (by simp));have HX0:=zA hb1;have HP0:=zA ((h.new hg0).new hg1);have HG0:=zA (zAF (zC hg0 hg1) (some C.g));have HT0:=zA (TrC.keep (zC hg0 hg1) (.none_ _ _) _ _ (.sub (Q:=fun b=>Q b∧b < R) (fun b hb hl=>⟨hb,by omega⟩) _ _ ht));have HRw:=zA hRw;clear hr h ht hQ K hb0 hb1 hg0 hg1;go_enter func202,ntmps202;go_upto_region 1 with(fail);clear hW hW0 hRw hz0
 go_loopg [6] (C.L.length - s.k) (fun gk _ wr=>∃(x':Tr) (s':Ps) (e0 e1 e2 e3 e4 e5 e6 e7 e8:Value),C.L.length - s'.k≤gk∧s.k≤s'.k∧Hid (zF C.L (.both x') s'=r)∧Hid (Pa C s' wr)∧Hid (Bx wr R 72 [e0,e1,e2,e3,e4,e5,e6,e7,e8])∧Hid (Bx wr (R+1) 72 zFO)∧Hid (TrC wr (fun b=>(Q b∧b < R)∨R+1 < b) x' [e0,e1,e2,e3,e4,e5,e6,e7,e8])∧Hid (w.grownBy wr (some C.g)))
 case atStart=>exact⟨x,s,d0,d1,d2,d3,d4,d5,d6,d7,d8,yAC _,yAC _,HR.out,HP0.out,HB0.out,HX0.out,.sub (fun b hb _=>.inl hb) _ _ HT0.out,HG0.out⟩
 case round=>
  clear HR HP0 HB0 HX0 HT0 HG0;obtain⟨x',s',e0,e1,e2,e3,e4,e5,e6,e7,e8,hgk,hsk,HR',HP',HB',HX',HT',HG'⟩:=hrel
  by_cases hon:onP C.L [38,38] s'=true
  · have HO:=zA hon;have hlt:=zA (HL.out.on HP'.out.hi hon);clear hon;go_wp2_with fail;refine(zAV HP'.out [38,38] HO.out).mono ?_;rintro ev w1 ⟨rfl,hp1,hg1⟩;have HP1:=zA (show Pa C (zB s') w1 from hp1);have HB1:=zA (HB'.out.grown hg1 (by simp;omega));have HX1:=zA (HX'.out.grown hg1 (by simp;omega));have HT1:=zA (TrC.keep hg1 (.box HP'.out.box (by decide) (by decide) (by
     rintro(h | h)
     · have:=HQ.out _ h.1;omega
     · omega)) _ _ HT'.out)
    have HG1:=zA (zC HG'.out hg1);clear hp1 hg1;have CL:=zA (show Calls prog 201 #[.pointer (some ⟨C.g,0,none⟩),.int .i64 0] w1.drew (zCP C (zF C.L (.level 0) (zB s')) w1.drew)from HK.out.more (q:=.level 0) (s1:=zB s') (w:=w1.drew) ⟨hlt.out,yAE _⟩ HP1.out.drew (by show s.k < s'.k+1;omega));obtain⟨z0,z1,z2,z3,z4,z5,z6,z7,z8⟩:=HB1.out.nine;have hsz:=HX1.out.lt;have hbn:=zA (show w1.heap.size≤w1.drew.heap.size from yAC _);go_wp2_with fail;go_region_law (first | (go_simp;go_at_call 201;(with_reducible refine CL.out.mono ?_);rintro ev3 w3 ⟨a0,a1,a2,a3,a4,a5,a6,a7,a8,rfl,ht3,hp3,hg3⟩;have HT3:=zA ht3;have HP3:=zA hp3;have HG3:=zA hg3;clear ht3 hp3 hg3;have HB3:=zA (HB1.out.drew.grown HG3.out (by simp;omega));have HX3:=zA (HX1.out.drew.grown HG3.out (by simp;omega));obtain⟨z0,z1,z2,z3,z4,z5,z6,z7,z8⟩:=HB3.out.nine) | (go_simp;go_at_call 139;(with_reducible refine(zBz 47 ⟨#[38,38]⟩ (some ⟨w3.heap.size,0,none⟩) 2 2).mono ?_);rintro ev4 w4 ⟨rfl,hg4⟩;have HG4:=zA hg4;clear hg4;have HB4:=zA ((HB3.out.alloc _).grown HG4.out (by simp));obtain⟨z0,z1,z2,z3,z4,z5,z6,z7,z8⟩:=HB4.out.nine;obtain⟨f0,f1,f2,f3,f4,f5,f6,f7,f8⟩:=HB4.out.nineF))
    all_goals
     have hsz3:w1.heap.size≤w3.heap.size:=HG3.out.size;have hpost:=zA (zV HL.out (p:=.level 0) (s:=zB s') ⟨hlt.out,yAE _⟩);have hadv:=hpost.out.adv.le;have HT3':=zA (TrC.sub (Q:=fun b=>(Q b∧b < R)∨R+1 < b) (fun b (hb:w1.heap.size≤b) _=>.inr (by omega)) _ _ HT3.out);have HT1':=zA (TrC.keep HG3.out (.box HP1.out.drew.box (by decide) (by decide) (by
      rintro(h | h)
      · have:=HQ.out _ h.1;omega
      · omega)) _ _ (TrC.keep (zAk w1 none) (.none_ _ _) _ _ HT1.out))
     have HN:=zA (zNx 47 [38,38] HT1'.out HT3'.out (.inr (by omega)) HG4.out);have HP4:=zA ((HP3.out.alloc _).new HG4.out);have HG4':=zA (zC HG1.out (zC (zAk _ _) (zC HG3.out (zAF (zC (zG _ _ _) HG4.out) _))));have HX4:=zA ((HX3.out.alloc _).grown HG4.out (by simp));have HQR:=zA (show zF C.L (.both x') s'=zF C.L (.both (trN 47 [38,38] [x',(zF C.L (.level 0) (zB s')).1])) (zF C.L (.level 0) (zB s')).2 by
      rw[zAH HL.out ⟨HP'.out.hi,trivial⟩];unfold zE;dsimp only;rw[if_pos HO.out])
     have hR4:=HB4.out.lt;go_wp2_with fail;have HV:=zNw (d0:=.int .i64 47) (d1:=.string ⟨#[38,38]⟩) (d2:=.slice none 0 0) (d3:=.int .i64 0) (d4:=.int .i64 0) (d5:=.bool false) (d6:=.slice none 0 0) (d7:=.slice none 0 0) (d8:=.slice (some ⟨w3.heap.size,0,none⟩) 2 2) HB4.out rfl (by rw[HRw.out];exact yAC _) (by omega) HP4.out HG4'.out
     go_roundg (C.L.length - (zF C.L (.level 0) (zB s')).2.k)
     case measure=>
      have:=hlt.out;have:(zB s').k=s'.k+1:=rfl;omega
     case rel=>
      refine⟨_,_,_,_,_,_,_,_,_,_,_,yAC _,?_,HQR.out.symm.trans HR'.out,HV.pa,HV.box,HX4.out.grown HV.from_ (by simp),TrC.keep HV.from_ (.box HB4.out (by decide) (by decide) (by omega)) _ _ HN.out,HV.grown⟩;have:(zB s').k=s'.k+1:=rfl;omega
  · have HO:=zA (show onP C.L [38,38] s'=false by simpa using hon);clear hon;go_wp2_with fail;refine(zAV HP'.out [38,38] HO.out).mono ?_;rintro ev w1 ⟨rfl,hp1,hg1⟩;have HP1:=zA (show Pa C s' w1 from hp1);have HB1:=zA (HB'.out.grown hg1 (by simp;omega));have HX1:=zA (HX'.out.grown hg1 (by simp;omega));have HT1:=zA (TrC.keep hg1 (.box HP'.out.box (by decide) (by decide) (by
     rintro(h | h)
     · have:=HQ.out _ h.1;omega
     · omega)) _ _ HT'.out)
    have HG1:=zA (zC HG'.out hg1);clear hp1 hg1;obtain⟨z0,z1,z2,z3,z4,z5,z6,z7,z8⟩:=HB1.out.nine;obtain⟨y0,y1,y2,y3,y4,y5,y6,y7,y8⟩:=HX1.out.nine;obtain⟨f0,f1,f2,f3,f4,f5,f6,f7,f8⟩:=HX1.out.nineF;obtain⟨s0,s1,s2,s3,s4,s5,s6,s7,s8⟩:=HT1.out.sto;have HQR:=zA (show zF C.L (.both x') s'=(x',s') by
     rw[zAH HL.out ⟨HP'.out.hi,trivial⟩];unfold zE;dsimp only;rw[if_neg (by rw[HO.out];decide)])
    go_wp2_with fail;refine zLm (zNv (Q:=Q) (r:=(x',s')) HX1.out rfl (by rw[HRw.out];omega) (by omega) (.sub (fun b hb _=>?_) _ _ HT1.out) HP1.out HG1.out) ?_
    · rw[HRw.out];rcases hb with hb | hb
      · exact⟨.inl hb.1,by omega⟩
      · exact⟨.inr (by omega),by omega⟩
    intro V hv;obtain⟨q0,q1,q2,q3,q4,q5,q6,q7,q8⟩:=hv.box.nine;refine bodyPost_ret (v:=.agg #[e0,e1,e2,e3,e4,e5,e6,e7,e8]) (by simp[results,results202,go_sem,q0,q1,q2,q3,q4,q5,q6,q7,q8]) rfl ?_;have e:r=(x',s'):=HR'.out.symm.trans HQR.out;rw[e];exact hv.ans
theorem RowP.lt {w:World} {P:Nat→Prop} {v:Value} {l:List Tr} (h:RowP w P v l):∀b,v.ownBlock=some b→P b∧b < w.heap.size:=by
 obtain⟨ks,F,h⟩:=h;exact fun b hb=>⟨h.blk b hb,(h.own.lt b hb).2⟩
theorem RowP.bounds {w:World} {P:Nat→Prop} {A:Option Addr} {n c:Nat} {l:List Tr} (h:RowP w P (.slice A n c) l):l.length=n∧n≤c∧c≤maxLen:=by
 obtain⟨A',c',e,h1,h2⟩:=h.shape;injection e with e1 e2 e3;subst e2 e3;exact⟨rfl,h1,h2⟩
theorem RowP.fz {w:World} {P Q:Nat→Prop} {v:Value} {l:List Tr} (h:RowP w P v l) (hd:∀b,P b→b < w.heap.size→¬Q b):Fz w Q v.ownBlock:=by
 obtain⟨ks,F,h⟩:=h;exact .own h.own fun b hb=>hd b (h.blk b hb) (h.own.lt b hb).2
theorem Bx.row {w w':World} {R:Nat} {T:TypeId} {cs:List Value} {P:Nat→Prop} {v:Value} {l:List Tr} (h:Bx w R T cs) (hr:RowP w P v l) (hP:¬P R) (hg:w.grownBy w' v.ownBlock):Bx w' R T cs:=
 h.grown hg (fun e=>hP (hr.lt R e).1)
theorem Pa.row {C:Pc} {s:Ps} {w w':World} {P:Nat→Prop} {v:Value} {l:List Tr} (h:Pa C s w) (hr:RowP w P v l) (hP:∀b,P b→C.g < b) (hg:w.grownBy w' v.ownBlock):Pa C s w':=
 h.grown hg (fun b hb=>hP b (hr.lt b hb).1)
theorem zFP {a w w':World} {r:Option Nat} {P:Nat→Prop} {v:Value} {l:List Tr} (h:a.grownBy w r) (hr:RowP w P v l) (hP:∀b,P b→a.heap.size≤b) (hg:w.grownBy w' v.ownBlock):a.grownBy w' r:=
 zGh h (fun b hb=>hP b (hr.lt b hb).1) hg
theorem zIU {w1 w':World} {P Q:Nat→Prop} {A:Option Addr} {n cp cp':Nat} {l:List Tr} {t:Tr} {ks c:List Value} {F:Nat→Prop} {g:Nat} (hn:l.length=n) (h:RowK w1 P (.slice A n cp) l ks F) (ht:TrC w1 Q t c) (hQ:∀b,Q b→b < w1.heap.size→P b) (hQv:∀b,(Value.slice A n cp).ownBlock=some b→¬Q b) (hP:P w1.heap.size)
 (ho:w'.ownsRow 0 72 9 (.slice (some ⟨g,0,none⟩) (n+1) cp') (n+1) (ks++c)) (hg:w1.grownBy w' (Value.slice A n cp).ownBlock) (hw:(Value.slice A n cp).ownBlock=some g∨g=w1.heap.size):RowP w' P (.slice (some ⟨g,0,none⟩) (n+1) cp') (l++[t]):=by
 subst hn;refine h.snoc ht hQ hQv hP ho hg ?_;rcases hw with e | e
 · exact .inl e.symm
 · subst e;exact .inr rfl
section
variable {Pg:Program} {o:Oper} {a:Act} {w1:World} {Px Q:Nat→Prop} {A:Option Addr} {n cp:Nat} {l:List Tr} {t:Tr} {c0 c1 c2 c3 c4 c5 c6 c7 c8:Value}
theorem zGk {ops:Array Oper} {K:Act→World→Prop} {Qx:Exit→Act→World→Prop} {E:Prop} (hgd:o.guard=none) (s x:Operand)
 (ho:o.op=.call {callee:=.builtin .append,args:=#[s,x],argTypes:=#[70,70]})
 (hs:a.eval s=.slice A n cp) (hn:l.length=n) (hr:RowP w1 Px (.slice A n cp) l) (ht:TrC w1 Q t [c0,c1,c2,c3,c4,c5,c6,c7,c8]) (hQ:∀b,Q b→b < w1.heap.size→Px b) (hQv:∀b,(Value.slice A n cp).ownBlock=some b→¬Q b) (hP:Px (w1.heap.size+1)) (hl:n≤4097)
 (hx:a.eval x=.slice (some ⟨w1.heap.size,0,none⟩) 1 1)
 (h:∀A' cp' w',RowP w' Px (.slice A' (n+1) cp') (l++[t])→(w1.alloc (.cells #[c0,c1,c2,c3,c4,c5,c6,c7,c8] 72)).grownBy w' (Value.slice A n cp).ownBlock→K (a.put o.dst (.slice A' (n+1) cp')) w'):
 if Region.wanted o (yielded ops a.tmps)=true then Oper.wp prog o a (w1.alloc (.cells #[c0,c1,c2,c3,c4,c5,c6,c7,c8] 72)) K Qx else E:=by
 obtain⟨ks,F,hk⟩:=hr;obtain⟨i,hi,hz0,hz1,hz2⟩:=info_parts Tryz.info_pnode;have hk2:=hk.keep (zG w1 (.cells #[c0,c1,c2,c3,c4,c5,c6,c7,c8] 72) none) (.none_ w1 Px);have ht1:TrC w1 (fun b=>Q b∧b < w1.heap.size) t [c0,c1,c2,c3,c4,c5,c6,c7,c8]:=.sub (fun b hb hl=>⟨hb,hl⟩) _ _ ht;have ht2:=TrC.keep (zG w1 (.cells #[c0,c1,c2,c3,c4,c5,c6,c7,c8] 72) none) (.none_ _ _) _ _ ht1;have hn':=hk2.own;rw[hn]at hn';refine step_append_lies (w1.alloc (.cells #[c0,c1,c2,c3,c4,c5,c6,c7,c8] 72)) hgd s x 70 ho 0 72 i _ 9 144 underlying70 hi hz0 hz1 hz2 rfl (by decide) (.slice A n cp) n ks hs hn' ⟨w1.heap.size,0,none⟩ 1 1 [c0,c1,c2,c3,c4,c5,c6,c7,c8] hx rfl (World.news_of_block (Bx.new w1 [c0,c1,c2,c3,c4,c5,c6,c7,c8] 72)) (fun u hu=>List.all_eq_true.1 ht.one u hu) (by decide) (by unfold maxLen;omega) (by omega) (yAE _) _ rfl ?_;intro g cap w' h2 h3 h4 _;exact h _ _ w' (zIU hn hk2 ht2 (fun b hb hl=>hQ b hb.1 hb.2) (fun b hb h5=>hQv b hb h5.1) (by simpa using hP) h2 h3 h4) h3
theorem zCq {ops:Array Oper} {rest:List Oper} {Qx:Exit→Act→World→Prop} (hgd:o.guard=none) (s x:Operand)
 (ho:o.op=.call {callee:=.builtin .append,args:=#[s,x],argTypes:=#[70,70]})
 (hs:a.eval s=.slice A n cp) (hn:l.length=n) (hr:RowP w1 Px (.slice A n cp) l) (ht:TrC w1 Q t [c0,c1,c2,c3,c4,c5,c6,c7,c8]) (hQ:∀b,Q b→b < w1.heap.size→Px b) (hQv:∀b,(Value.slice A n cp).ownBlock=some b→¬Q b) (hP:Px (w1.heap.size+1)) (hl:n≤4097)
 (hx:a.eval x=.slice (some ⟨w1.heap.size,0,none⟩) 1 1)
 (h:∀A' cp' w',RowP w' Px (.slice A' (n+1) cp') (l++[t])→(w1.alloc (.cells #[c0,c1,c2,c3,c4,c5,c6,c7,c8] 72)).grownBy w' (Value.slice A n cp).ownBlock→wpList prog ops Qx rest (a.put o.dst (.slice A' (n+1) cp')) w'):
 wpList prog ops Qx (o::rest) a (w1.alloc (.cells #[c0,c1,c2,c3,c4,c5,c6,c7,c8] 72)):=by
 obtain⟨ks,F,hk⟩:=hr;obtain⟨i,hi,hz0,hz1,hz2⟩:=info_parts Tryz.info_pnode;have hk2:=hk.keep (zG w1 (.cells #[c0,c1,c2,c3,c4,c5,c6,c7,c8] 72) none) (.none_ w1 Px);have ht1:TrC w1 (fun b=>Q b∧b < w1.heap.size) t [c0,c1,c2,c3,c4,c5,c6,c7,c8]:=.sub (fun b hb hl=>⟨hb,hl⟩) _ _ ht;have ht2:=TrC.keep (zG w1 (.cells #[c0,c1,c2,c3,c4,c5,c6,c7,c8] 72) none) (.none_ _ _) _ _ ht1;have hn':=hk2.own;rw[hn]at hn';refine wpList_append_lies (w1.alloc (.cells #[c0,c1,c2,c3,c4,c5,c6,c7,c8] 72)) hgd s x 70 ho 0 72 i _ 9 144 underlying70 hi hz0 hz1 hz2 rfl (by decide) (.slice A n cp) n ks hs hn' ⟨w1.heap.size,0,none⟩ 1 1 [c0,c1,c2,c3,c4,c5,c6,c7,c8] hx rfl (World.news_of_block (Bx.new w1 [c0,c1,c2,c3,c4,c5,c6,c7,c8] 72)) (fun u hu=>List.all_eq_true.1 ht.one u hu) (by decide) (by unfold maxLen;omega) (by omega) (yAE _) _ rfl ?_;intro g cap w' h2 h3 h4 _;exact h _ _ w' (zIU hn hk2 ht2 (fun b hb hl=>hQ b hb.1 hb.2) (fun b hb h5=>hQv b hb h5.1) (by simpa using hP) h2 h3 h4) h3
end
inductive Ob where
 | bx (R:Nat) (T:TypeId) (cs:List Value)
 | tr (t:Tr) (cs:List Value)
 | tn (lo:Nat) (t:Tr) (cs:List Value)
 | ro (v:Value) (l:List Tr)
 | rn (hi:Nat) (v:Value) (l:List Tr)
 | lf (T:TypeId) (v:Value) (n:Nat) (xs:List Value)
 | vs (cs:List Value)
def Ob.blk:Ob→Option Nat
 | .bx R _ _=>some R
 | _=>none
def Ob.cells:Ob→List Value
 | .tr _ cs=>cs
 | .tn _ _ cs=>cs
 | .vs cs=>cs
 | .bx _ _ cs=>cs
 | _=>[]
def Ob.Ok (D:List Nat) (P:Nat→Prop) (w:World):Ob→Prop
 | .bx R T cs=>Bx w R T cs∧R∈D∧T≠24∧T≠87
 | .tr t cs=>TrC w P t cs
 | .tn lo t cs=>TrC w (fun b=>P b∧lo≤b) t cs∧lo≤w.heap.size
 | .ro v l=>RowP w P v l
 | .rn hi v l=>RowP w (fun b=>P b∧b < hi) v l
 | .lf T v n xs=>(T=24∨T=87)∧w.ownsRow 0 T 1 v n xs
 | .vs _=>True
def Off (B:Nat→Prop) (D:List Nat) (b:Nat):Prop:=B b∧b∉D
structure FrR (C:Pc) (B:Nat→Prop) (a:World) (D:List Nat) (os:List Ob) (s:Ps) (w:World):Prop where
 pa:Pa C s w
 gr:a.grownBy w (some C.g)
 bl:∀b,B b→C.g < b
 bh:∀b,a.heap.size≤b→B b
 ds:∀b∈D,a.heap.size≤b∧b < w.heap.size
 nd:∀(i j:Nat) (x y:Ob) (R:Nat),os[i]? =some x→os[j]? =some y→x.blk=some R→y.blk=some R→i=j
 ob:∀(i:Nat) (x:Ob),os[i]? =some x→x.Ok D (Off B D) w
structure Fr (C:Pc) (B:Nat→Prop) (a:World) (D:List Nat) (os:List Ob) (s:Ps) (w:World):Prop where
 out:FrR C B a D os s w
theorem Ob.Ok.keep {D:List Nat} {P:Nat→Prop} {w w':World} {r:Option Nat} {o:Ob} (h:o.Ok D P w) (hg:w.grownBy w' r) (hz:Fz w P r) (hr:∀R,o.blk=some R→r≠some R):o.Ok D P w':=by
 cases o with
 | bx R T cs=>exact⟨h.1.grown hg (hr R rfl),h.2⟩
 | tr t cs=>exact TrC.keep hg hz _ _ h
 | tn lo t cs=>exact⟨TrC.keep hg (hz.less fun b hb=>hb.1) _ _ h.1,yAD h.2 hg.size⟩
 | ro v l=>exact RowP.keep h hg hz
 | rn hi v l=>exact RowP.keep h hg (hz.less fun b hb=>hb.1)
 | lf T v n xs=>exact⟨h.1,zBO h.2 h.1 hg hz⟩
 | vs cs=>trivial
theorem Ob.Ok.sub {D E:List Nat} {P Q:Nat→Prop} {w:World} {o:Ob} (h:o.Ok D P w) (hs:∀b,P b→b < w.heap.size→Q b) (hd:∀b∈D,b∈E):o.Ok E Q w:=by
 cases o with
 | bx R T cs=>exact⟨h.1,hd R h.2.1,h.2.2⟩
 | tr t cs=>exact TrC.sub hs _ _ h
 | tn lo t cs=>exact⟨TrC.sub (fun b hb hl=>⟨hs b hb.1 hl,hb.2⟩) _ _ h.1,h.2⟩
 | ro v l=>exact RowP.sub h hs
 | rn hi v l=>exact RowP.sub h fun b hb hl=>⟨hs b hb.1 hl,hb.2⟩
 | lf T v n xs=>exact h
 | vs cs=>trivial
theorem zCr {l:List Ob} {x:Ob} {i:Nat} {y:Ob} (h:(l++[x])[i]? =some y):(i < l.length∧l[i]? =some y)∨(i=l.length∧y=x):=by
 rcases Nat.lt_or_ge i l.length with h1 | h1
 · rw[List.getElem?_append_left h1]at h;exact .inl ⟨h1,h⟩
 · rw[List.getElem?_append_right h1]at h;rcases Nat.eq_or_lt_of_le h1 with h2 | h2
   · rw[h2,Nat.sub_self]at h;simp at h;exact .inr ⟨h2.symm,h.symm⟩
   · rw[List.getElem?_eq_none (by simp;omega)]at h;cases h
section
variable {C:Pc} {B:Nat→Prop} {a:World} {D:List Nat} {os:List Ob} {s s':Ps} {w w':World} {rr:Option Nat}
theorem FrR.lt (F:FrR C B a D os s w):C.g < a.heap.size:=F.bl _ (F.bh _ (yAC _))
theorem FrR.off (F:FrR C B a D os s w) {b:Nat} (h:w.heap.size≤b):Off B D b:=⟨F.bh b (yAD F.gr.size h),fun hd=>by have:=(F.ds b hd).2;omega⟩
theorem FrR.go' (F:FrR C B a D os s w) (hp:Pa C s' w') (hg:w.grownBy w' rr) (hr:rr=none∨rr=some C.g):FrR C B a D os s' w':=by
 have hz:Fz w (Off B D) rr:=by
  rcases hr with rfl | rfl
  · exact .none_ _ _
  · exact .box F.pa.box (by decide) (by decide) (fun h=>by have:=F.bl _ h.1;omega)
 refine⟨hp,zC F.gr ?_,F.bl,F.bh,fun b hb=>⟨(F.ds b hb).1,yAA (F.ds b hb).2 hg.size⟩,F.nd,fun i x hx=>(F.ob i x hx).keep hg hz ?_⟩
 · rcases hr with rfl | rfl
   · exact zAF hg _
   · exact hg
 · intro R hR e;have h1:=F.ob i x hx;rcases hr with rfl | rfl
   · cases e
   · injection e with e;cases x with
     | bx R' T cs=>injection hR with hR;subst hR;have:=(F.ds _ h1.2.1).1;have:=F.lt;omega
     | _=>cases hR
theorem FrR.snoc (F:FrR C B a D os s w) {x:Ob} (hx:x.blk=none) (h:x.Ok D (Off B D) w):FrR C B a D (os++[x]) s w:=by
 refine⟨F.pa,F.gr,F.bl,F.bh,F.ds,?_,?_⟩
 · intro i j y z R h1 h2 h3 h4;rcases zCr h1 with⟨_,h1⟩ | ⟨rfl,rfl⟩
   · rcases zCr h2 with⟨_,h2⟩ | ⟨rfl,rfl⟩
     · exact F.nd i j y z R h1 h2 h3 h4
     · rw[hx]at h4;cases h4
   · rw[hx]at h3;cases h3
 · intro i y h1;rcases zCr h1 with⟨_,h1⟩ | ⟨rfl,rfl⟩
   · exact F.ob i y h1
   · exact h
theorem Fr.n (F:Fr C B a D os s w) (hg:w.grownBy w' none):Fr C B a D os s w':=.mk (F.out.go' (F.out.pa.new hg) hg (.inl rfl))
theorem Fr.m (F:Fr C B a D os s w) (hp:Pa C s' w') (hg:w.grownBy w' (some C.g)):Fr C B a D os s' w':=.mk (F.out.go' hp hg (.inr rfl))
theorem Fr.dr (F:Fr C B a D os s w):Fr C B a D os s w.drew:=F.n (zAk w none)
theorem Fr.P (F:Fr C B a D os s w):Pa C s w:=F.out.pa
theorem Fr.box (F:Fr C B a D os s w) (cs:List Value) (T:TypeId) {R:Nat} (hR:w.heap.size=R) (h1:T≠24) (h2:T≠87):Fr C B a (R::D) (os++[.bx R T cs]) s (w.alloc (.cells cs.toArray T)):=by
 subst hR;have G:=F.out;have hg:=zG w (.cells cs.toArray T) none;have hs:w.heap.size < (w.alloc (.cells cs.toArray T)).heap.size:=by simp
 refine .mk ⟨G.pa.new hg,zC G.gr (zAF hg _),G.bl,G.bh,?_,?_,?_⟩
 · intro b hb;rcases List.mem_cons.1 hb with rfl | hb
   · exact⟨G.gr.size,hs⟩
   · exact⟨(G.ds b hb).1,Nat.lt_trans (G.ds b hb).2 hs⟩
 · have hn:∀(i:Nat) (y:Ob) (R:Nat),os[i]? =some y→y.blk=some R→R < w.heap.size:=by
    intro i y R h3 h4;have h5:=G.ob i y h3;cases y with
    | bx R' T' cs'=>injection h4 with h4;subst h4;exact(G.ds _ h5.2.1).2
    | _=>cases h4
   intro i j y z R h3 h4 h5 h6;rcases zCr h3 with⟨_,h3⟩ | ⟨rfl,rfl⟩
   · rcases zCr h4 with⟨_,h4⟩ | ⟨rfl,rfl⟩
     · exact G.nd i j y z R h3 h4 h5 h6
     · injection h6 with h6;have:=hn _ _ _ h3 h5;omega
   · rcases zCr h4 with⟨_,h4⟩ | ⟨rfl,rfl⟩
     · injection h5 with h5;have:=hn _ _ _ h4 h6;omega
     · rfl
 · intro i y h3;rcases zCr h3 with⟨_,h3⟩ | ⟨rfl,rfl⟩
   · refine((G.ob i y h3).sub (E:=w.heap.size::D) (Q:=Off B (w.heap.size::D)) ?_ (fun b hb=>List.mem_cons_of_mem _ hb)).keep hg (.none_ _ _) (fun R _=>by simp);intro b hb hl;refine⟨hb.1,fun h4=>?_⟩;rcases List.mem_cons.1 h4 with rfl | h4
     · omega
     · exact hb.2 h4
   · exact⟨Bx.new w cs T,by simp,h1,h2⟩
theorem Fr.bt (F:Fr C B a D os s w) (i:Nat) (T:TypeId) {R:Nat} {x:Ob} {d0 d1 d2 d3 d4 d5 d6 d7 d8:Value} (hR:w.heap.size=R) (_hi:os[i]? =some x:=by rfl) (_hc:x.cells=[d0,d1,d2,d3,d4,d5,d6,d7,d8]:=by rfl) (h1:T≠24:=by decide) (h2:T≠87:=by decide):Fr C B a (R::D) (os++[.bx R T [d0,d1,d2,d3,d4,d5,d6,d7,d8]]) s (w.alloc (.cells #[d0,d1,d2,d3,d4,d5,d6,d7,d8] T)):=F.box [d0,d1,d2,d3,d4,d5,d6,d7,d8] T hR h1 h2
theorem Fr.b (F:Fr C B a D os s w) (i:Nat) {R:Nat} {T:TypeId} {cs:List Value} (h:os[i]? =some (.bx R T cs):=by rfl):Bx w R T cs:=(F.out.ob i _ h).1
theorem Fr.c (F:Fr C B a D os s w) (i:Nat) {R:Nat} {T:TypeId} {v0 v1 v2 v3 v4 v5 v6 v7 v8:Value} (h:os[i]? =some (.bx R T [v0,v1,v2,v3,v4,v5,v6,v7,v8]):=by rfl):w.cell? ⟨R,0,none⟩=some v0∧w.cell? ⟨R,1,none⟩=some v1∧w.cell? ⟨R,2,none⟩=some v2∧w.cell? ⟨R,3,none⟩=some v3∧w.cell? ⟨R,4,none⟩=some v4∧w.cell? ⟨R,5,none⟩=some v5∧w.cell? ⟨R,6,none⟩=some v6∧w.cell? ⟨R,7,none⟩=some v7∧w.cell? ⟨R,8,none⟩=some v8:=(F.b i h).nine
theorem Fr.f (F:Fr C B a D os s w) (i:Nat) {R:Nat} {T:TypeId} {cs:List Value} (h:os[i]? =some (.bx R T cs):=by rfl):w.frozen? ⟨R,0,none⟩=false∧w.frozen? ⟨R,1,none⟩=false∧w.frozen? ⟨R,2,none⟩=false∧w.frozen? ⟨R,3,none⟩=false∧w.frozen? ⟨R,4,none⟩=false∧w.frozen? ⟨R,5,none⟩=false∧w.frozen? ⟨R,6,none⟩=false∧w.frozen? ⟨R,7,none⟩=false∧w.frozen? ⟨R,8,none⟩=false:=(F.b i h).nineF
theorem Fr.t (F:Fr C B a D os s w) (i:Nat) {t:Tr} {cs:List Value} (h:os[i]? =some (.tr t cs):=by rfl):TrC w (Off B D) t cs:=F.out.ob i _ h
theorem Fr.r (F:Fr C B a D os s w) (i:Nat) {v:Value} {l:List Tr} (h:os[i]? =some (.ro v l):=by rfl):RowP w (Off B D) v l:=F.out.ob i _ h
theorem Fr.k1 (F:Fr C B a D os s w):w.cell? ⟨C.g,1,none⟩=some (.int .i64 (s.k:Int))∧w.frozen? ⟨C.g,1,none⟩=false∧s.k < C.N:=⟨F.P.c1,F.P.f 1,F.P.kN⟩
theorem Fr.step (F:Fr C B a D os s w) (hk:s.k < C.L.length - 1):Fr C B a D os (zB s) (w.setCell ⟨C.g,1,none⟩ (.int .i64 ((s.k:Int)+1))):=F.m (F.P.stepI hk rfl) (zK w C.g 1 _)
theorem Fr.to (F:Fr C B a D os s w) {z:Int} {k':Nat} (hz:z=(k':Int)) (hk:k'≤C.L.length - 1):Fr C B a D os {s with k:=k'} (w.setCell ⟨C.g,1,none⟩ (.int .i64 z)):=F.m (F.P.to hz hk) (zK w C.g 1 _)
theorem Fr.step2 (F:Fr C B a D os s w) (hk:s.k+1+1≤C.L.length - 1):Fr C B a D os (zB (zB s)) (w.setCell ⟨C.g,1,none⟩ (.int .i64 ((s.k:Int)+2))):=F.to (k':=s.k+1+1) (by omega) hk
theorem Fr.back (F:Fr C B a D os (zB s) w) (hk:s.k≤C.L.length - 1):Fr C B a D os s (w.setCell ⟨C.g,1,none⟩ (.int .i64 (s.k:Int))):=F.to (k':=s.k) rfl hk
theorem FrR.setAt (F:FrR C B a D os s w) {i R:Nat} {T:TypeId} {cs cs':List Value} (hi:os[i]? =some (.bx R T cs)) (hg:w.grownBy w' (some R)) (hb:Bx w' R T cs'):FrR C B a D (os.set i (.bx R T cs')) s w':=by
 obtain⟨h1,h2,h3,h4⟩:=F.ob i _ hi;have hl:=F.ds R h2;have hil:i < os.length:=by
  rcases Nat.lt_or_ge i os.length with h5 | h5
  · exact h5
  · rw[List.getElem?_eq_none h5]at hi;cases hi
 refine⟨F.pa.grown hg (fun b hb=>by injection hb with hb;have:=F.lt;omega),zBP F.gr hl.1 hg,F.bl,F.bh,fun b hb=>⟨(F.ds b hb).1,yAA (F.ds b hb).2 hg.size⟩,?_,?_⟩
 · have hx:∀(j:Nat) (y:Ob),(os.set i (.bx R T cs'))[j]? =some y→∃z,os[j]? =some z∧z.blk=y.blk:=by
    intro j y hy;rw[List.getElem?_set]at hy;split at hy
    · rename_i e
      subst e
      (try rw[if_pos hil]at hy)
      injection hy with hy;subst hy;exact⟨_,hi,rfl⟩
    · exact⟨y,hy,rfl⟩
   intro j k y z R' h5 h6 h7 h8;obtain⟨y',h9,h10⟩:=hx j y h5;obtain⟨z',h11,h12⟩:=hx k z h6;exact F.nd j k y' z' R' h9 h11 (h10.trans h7) (h12.trans h8)
 · intro j y hy;rw[List.getElem?_set]at hy;split at hy
   · rename_i e
     subst e
     (try rw[if_pos hil]at hy)
     injection hy with hy;subst hy;exact⟨hb,h2,h3,h4⟩
   · rename_i e
     refine(F.ob j y hy).keep hg (.box h1 h3 h4 (fun h=>h.2 h2)) ?_;intro R' h5 h6;injection h6 with h6;subst h6;exact e (F.nd i j _ y R hi hy rfl h5)
theorem Fr.put9 (F:Fr C B a D os s w) (i:Nat) {R:Nat} {T:TypeId} {v0 v1 v2 v3 v4 v5 v6 v7 v8 d0 d1 d2 d3 d4 d5 d6 d7 d8:Value} (hi:os[i]? =some (.bx R T [v0,v1,v2,v3,v4,v5,v6,v7,v8])):Fr C B a D (os.set i (.bx R T [d0,d1,d2,d3,d4,d5,d6,d7,d8])) s (((((((((w.setCell ⟨R,0,none⟩ d0).setCell ⟨R,1,none⟩ d1).setCell ⟨R,2,none⟩ d2).setCell ⟨R,3,none⟩ d3).setCell ⟨R,4,none⟩ d4).setCell ⟨R,5,none⟩ d5).setCell ⟨R,6,none⟩ d6).setCell ⟨R,7,none⟩ d7).setCell ⟨R,8,none⟩ d8):=
 .mk (F.out.setAt hi zA6 ((F.b i hi).set9 rfl))
theorem Fr.put (F:Fr C B a D os s w) (i j:Nat) {R:Nat} {T:TypeId} {x:Ob} {v0 v1 v2 v3 v4 v5 v6 v7 v8 d0 d1 d2 d3 d4 d5 d6 d7 d8:Value} (hi:os[i]? =some (.bx R T [v0,v1,v2,v3,v4,v5,v6,v7,v8]):=by rfl) (_hj:os[j]? =some x:=by rfl) (_hc:x.cells=[d0,d1,d2,d3,d4,d5,d6,d7,d8]:=by rfl):Fr C B a D (os.set i (.bx R T [d0,d1,d2,d3,d4,d5,d6,d7,d8])) s (((((((((w.setCell ⟨R,0,none⟩ d0).setCell ⟨R,1,none⟩ d1).setCell ⟨R,2,none⟩ d2).setCell ⟨R,3,none⟩ d3).setCell ⟨R,4,none⟩ d4).setCell ⟨R,5,none⟩ d5).setCell ⟨R,6,none⟩ d6).setCell ⟨R,7,none⟩ d7).setCell ⟨R,8,none⟩ d8):=F.put9 i hi
theorem Fr.set (F:Fr C B a D os s w) (i j:Nat) (v:Value) {R:Nat} {T:TypeId} {cs:List Value} (hi:os[i]? =some (.bx R T cs):=by rfl):Fr C B a D (os.set i (.bx R T (cs.set j v))) s (w.setCell ⟨R,j,none⟩ v):=.mk (F.out.setAt hi (zK w R j v) ((F.b i hi).set j v))
theorem zCs {Pg:Program} {c:Code} {Qp:Exit→Act→World→Prop} {A:Act} (F:Fr C B a D os s w) (k:∀V,Fr C B a D os s V→Code.wp Pg c Qp A V):Code.wp Pg c Qp A w:=k w F
theorem zM {Pg:Program} {f:Func} {Ret:Ending→World→Prop} {A:Act} (F:Fr C B a D os s w) (k:∀V,Fr C B a D os s V→bodyPost Pg f Ret .ret A V):bodyPost Pg f Ret .ret A w:=k w F
theorem Fr.kB {f:FuncId} {args:Array Value} {b:Bool} (F:Fr C B a D os s w) (h:Calls prog f args w (zJW C s b w)) {Q:Ending→World→Prop} (k:∀w',Fr C B a D os s w'→Q (.returned (.bool b)) w'):Calls prog f args w Q:=h.mono fun _ w' ⟨h1,_,h3⟩=>h1▸k w' (F.n h3)
theorem Fr.kM {f:FuncId} {args:Array Value} {b:Bool} (F:Fr C B a D os s w) (h:Calls prog f args w (zRR C s' b w)) {Q:Ending→World→Prop} (k:∀w',Fr C B a D os s' w'→Q (.returned (.bool b)) w'):Calls prog f args w Q:=h.mono fun _ w' ⟨h1,h2,h3⟩=>h1▸k w' (F.m h2 h3)
theorem Fr.kN {f:FuncId} {args:Array Value} (F:Fr C B a D os s w) (h:Calls prog f args w (zQ0 C s' w)) {Q:Ending→World→Prop} (k:∀w',Fr C B a D os s' w'→Q (.returned (.tuple #[])) w'):Calls prog f args w Q:=h.mono fun _ w' ⟨h1,h2,h3⟩=>h1▸k w' (F.m h2 h3)
theorem Fr.kS {f:FuncId} {args:Array Value} {p:List UInt8×Ps} (F:Fr C B a D os s w) (h:Calls prog f args w (zRS C p w)) {Q:Ending→World→Prop} (k:∀w',Fr C B a D os p.2 w'→Q (.returned (.string ⟨p.1.toArray⟩)) w'):Calls prog f args w Q:=h.mono fun _ w' ⟨h1,h2,h3⟩=>h1▸k w' (F.m h2 h3)
theorem Fr.kS2 {f:FuncId} {args:Array Value} {nb:List UInt8} (F:Fr C B a D os s w) (h:Calls prog f args w (zRS C (nb,s') w)) {Q:Ending→World→Prop} (k:∀w',Fr C B a D os s' w'→Q (.returned (.string ⟨nb.toArray⟩)) w'):Calls prog f args w Q:=h.mono fun _ w' ⟨h1,h2,h3⟩=>h1▸k w' (F.m h2 h3)
theorem Fr.kQ {f:FuncId} {args:Array Value} {v:Value} (F:Fr C B a D os s w) (h:Calls prog f args w (fun e w'=>e=.returned v∧w.grownBy w' none)) {Q:Ending→World→Prop} (k:∀w',Fr C B a D os s w'→Q (.returned v) w'):Calls prog f args w Q:=h.mono fun _ w' ⟨h1,h3⟩=>h1▸k w' (F.n h3)
theorem Fr.addT {t:Tr} {cs:List Value} (F:Fr C B a D os s w) (hm:Pa C s' w') (hg:w.grownBy w' (some C.g)) (ht:TrC w' (w.heap.size≤·) t cs):Fr C B a D (os++[.tr t cs]) s' w':=
 .mk ((F.m hm hg).out.snoc rfl (TrC.sub (fun _ hb _=>F.out.off hb) _ _ ht))
theorem Fr.kD {f:FuncId} {args:Array Value} {p:Tr×Ps} (F:Fr C B a D os s w) (h:Calls prog f args w (zCP C p w)) {Q:Ending→World→Prop} (k:∀w' d0 d1 d2 d3 d4 d5 d6 d7 d8,Fr C B a D (os++[.tr p.1 [d0,d1,d2,d3,d4,d5,d6,d7,d8]]) p.2 w'→Q (.returned (.agg #[d0,d1,d2,d3,d4,d5,d6,d7,d8])) w'):Calls prog f args w Q:=
 h.mono fun _ w' ⟨d0,d1,d2,d3,d4,d5,d6,d7,d8,h1,h2,h3,h4⟩=>h1▸k w' d0 d1 d2 d3 d4 d5 d6 d7 d8 (F.addT h3 h4 h2)
theorem Fr.kX {f:FuncId} {args:Array Value} {p:Tr×Ps} (F:Fr C B a D os s w) (h:Calls prog f args w (zCP C p w)) {Q:Ending→World→Prop} (k:∀x,Hid (p=x)→∀w' d0 d1 d2 d3 d4 d5 d6 d7 d8,Fr C B a D (os++[.tr x.1 [d0,d1,d2,d3,d4,d5,d6,d7,d8]]) x.2 w'→Q (.returned (.agg #[d0,d1,d2,d3,d4,d5,d6,d7,d8])) w'):Calls prog f args w Q:=F.kD h (k p (zA rfl))
theorem Fr.al (F:Fr C B a D os s w) (o:Obj):Fr C B a D os s (w.alloc o):=F.n (zG w o none)
theorem Fr.kL {f:FuncId} {args:Array Value} {p:Tr×Ps} (F:Fr C B a D os s w) (h:Calls prog f args w (LstQ C p w)) {Q:Ending→World→Prop} (k:∀w' A n c,Hid (p.1.subs.length=n)→n≤c→c≤maxLen→Fr C B a D (os++[.ro (.slice A n c) p.1.subs]) p.2 w'→Q (.returned (.slice A n c)) w'):Calls prog f args w Q:=
 h.mono fun _ w' ⟨A,n,c,h1,h2,h3,h4,h5,h6,h7⟩=>h1▸k w' A n c (zA h2) h3 h4 (.mk ((F.m h6 h7).out.snoc rfl (h5.sub fun _ hb _=>F.out.off hb)))
theorem zPE {os:List Ob} {i:Nat} {x:Ob} (h:os[i]? =some x):i < os.length:=by
 rcases Nat.lt_or_ge i os.length with h5 | h5
 · exact h5
 · rw[List.getElem?_eq_none h5]at h;cases h
theorem FrR.rep (F:FrR C B a D os s w) {j:Nat} {x y:Ob} (hj:os[j]? =some x) (_hx:x.blk=none) (hy:y.blk=none) (h:y.Ok D (Off B D) w):FrR C B a D (os.set j y) s w:=by
 have hz:∀(i:Nat) (z:Ob) (R:Nat),(os.set j y)[i]? =some z→z.blk=some R→os[i]? =some z:=by
  intro i z R h1 h2;rw[List.getElem?_set]at h1;split at h1
  · split at h1
    · injection h1 with h1;subst h1;rw[hy]at h2;cases h2
    · cases h1
  · exact h1
 refine⟨F.pa,F.gr,F.bl,F.bh,F.ds,fun i k z z' R h1 h2 h3 h4=>F.nd i k z z' R (hz i z R h1 h3) (hz k z' R h2 h4) h3 h4,?_⟩;intro i z h1;rw[List.getElem?_set]at h1;split at h1
 · (try rw[if_pos (by rename_i e;subst e;exact zPE hj)]at h1)
   injection h1 with h1;subst h1;exact h
 · exact F.ob i z h1
theorem Fr.kR {f:FuncId} {args:Array Value} {p:Tr×Ps} (F:Fr C B a D os s w) (j:Nat) {v:Value} {l:List Tr} (hj:os[j]? =some (.ro v l)) (h:Calls prog f args w (zCP C p w)) {Q:Ending→World→Prop} (k:∀w' d0 d1 d2 d3 d4 d5 d6 d7 d8,Fr C B a D (os.set j (.rn w.heap.size v l)++[.tn w.heap.size p.1 [d0,d1,d2,d3,d4,d5,d6,d7,d8]]) p.2 w'→Q (.returned (.agg #[d0,d1,d2,d3,d4,d5,d6,d7,d8])) w'):Calls prog f args w Q:=
 h.mono fun _ w' ⟨d0,d1,d2,d3,d4,d5,d6,d7,d8,h1,h2,h3,h4⟩=>h1▸k w' d0 d1 d2 d3 d4 d5 d6 d7 d8
  (.mk (((F.out.rep (y:=.rn w.heap.size v l) hj rfl rfl ((F.r j hj).sub fun _ hb hl=>⟨hb,hl⟩)).go' h3 h4 (.inr rfl)).snoc (x:=.tn _ _ _) rfl ⟨TrC.sub (fun _ hb _=>⟨F.out.off hb,hb⟩) _ _ h2,h4.size⟩))
theorem Fr.kRX {f:FuncId} {args:Array Value} {p:Tr×Ps} (F:Fr C B a D os s w) (j:Nat) {v:Value} {l:List Tr} (hj:os[j]? =some (.ro v l)) (h:Calls prog f args w (zCP C p w)) {Q:Ending→World→Prop} (k:∀x,Hid (p=x)→∀w' d0 d1 d2 d3 d4 d5 d6 d7 d8,Fr C B a D (os.set j (.rn w.heap.size v l)++[.tn w.heap.size x.1 [d0,d1,d2,d3,d4,d5,d6,d7,d8]]) x.2 w'→Q (.returned (.agg #[d0,d1,d2,d3,d4,d5,d6,d7,d8])) w'):Calls prog f args w Q:=F.kR j hj h (k p (zA rfl))
def Ob.calm:Ob→Ob
 | .tr _ cs=>.vs cs
 | .tn _ _ cs=>.vs cs
 | .ro _ _=>.vs []
 | .rn _ _ _=>.vs []
 | x=>x
theorem FrR.grow (F:FrR C B a D os s w) {j:Nat} {v v':Value} {l l':List Tr} {x:Ob} (hj:os[j]? =some x) (hx:x.blk=none) (hr:RowP w (Off B D) v l) (hg:w.grownBy w' v.ownBlock) (hn:RowP w' (Off B D) v' l') (hB:∀b,B b→a.heap.size≤b):FrR C B a D ((os.map Ob.calm).set j (.ro v' l')) s w':=by
 have hcb:∀y:Ob,y.calm.blk=y.blk:=fun y=>by cases y<;>rfl
 have F1:FrR C B a D (os.map Ob.calm) s w':=by
  refine⟨F.pa.row hr (fun b hb=>F.bl b hb.1) hg,zGh F.gr (fun b hb=>?_) hg,F.bl,F.bh,fun b hb=>⟨(F.ds b hb).1,yAA (F.ds b hb).2 hg.size⟩,?_,?_⟩
  · exact hB b (hr.lt b hb).1.1
  · intro i k y z R h1 h2 h3 h4;rw[List.getElem?_map]at h1 h2;cases h5:os[i]? with
    | none=>rw[h5]at h1;cases h1
    | some y'=>
     cases h6:os[k]? with
     | none=>rw[h6]at h2;cases h2
     | some z'=>
      rw[h5]at h1;rw[h6]at h2;injection h1 with h1;injection h2 with h2;subst h1 h2;rw[hcb]at h3 h4;exact F.nd i k y' z' R h5 h6 h3 h4
  · intro i y h1;rw[List.getElem?_map]at h1;cases h5:os[i]? with
    | none=>rw[h5]at h1;cases h1
    | some y'=>
     rw[h5]at h1;injection h1 with h1;subst h1;have h6:=F.ob i y' h5;cases y' with
     | bx R T cs=>exact⟨h6.1.row hr (fun h=>h.2 h6.2.1) hg,h6.2⟩
     | lf T v n xs=>
      refine⟨h6.1,zBO h6.2 h6.1 hg (hr.fz (Q:=fun _=>False) (fun _ _ _ h=>h))⟩
     | _=>trivial
 exact F1.rep (x:=x.calm) (by rw[List.getElem?_map,hj];rfl) ((hcb x).trans hx) rfl hn
theorem Fr.snocS {ops:Array Oper} {o:Oper} {ac:Act} {K:Act→World→Prop} {Qx:Exit→Act→World→Prop} {E:Prop} (F:Fr C B a D os s w) (j m:Nat) {hi n cp:Nat} {A:Option Addr} {l:List Tr} {t:Tr} {c0 c1 c2 c3 c4 c5 c6 c7 c8:Value} (hj:os[j]? =some (.rn hi (.slice A n cp) l)) (hm:os[m]? =some (.tn hi t [c0,c1,c2,c3,c4,c5,c6,c7,c8])) (hB:∀b,B b→a.heap.size≤b) (hl:n≤4097) (hgd:o.guard=none) (x y:Operand)
 (ho:o.op=.call {callee:=.builtin .append,args:=#[x,y],argTypes:=#[70,70]})
 (hs:ac.eval x=.slice A n cp) (hx:ac.eval y=.slice (some ⟨w.heap.size,0,none⟩) 1 1)
 (h:∀A' cp' w',Fr C B a D ((os.map Ob.calm).set j (.ro (.slice A' (n+1) cp') (l++[t]))) s w'→K (ac.put o.dst (.slice A' (n+1) cp')) w'):
 if Region.wanted o (yielded ops ac.tmps)=true then Oper.wp prog o ac (w.alloc (.cells #[c0,c1,c2,c3,c4,c5,c6,c7,c8] 72)) K Qx else E:=by
 have hr:RowP w (fun b=>Off B D b∧b < hi) (.slice A n cp) l:=F.out.ob j _ hj;have hr2:=hr.sub (Q:=Off B D) fun _ hb _=>hb.1;have ht:TrC w (fun b=>Off B D b∧hi≤b) t [c0,c1,c2,c3,c4,c5,c6,c7,c8]:=(F.out.ob m _ hm).1;refine zGk (Px:=Off B D) (Q:=fun b=>Off B D b∧hi≤b) hgd x y ho hs hr.bounds.1 hr2 ht (fun b hb _=>hb.1) (fun b hb h2=>?_) (F.out.off (Nat.le_succ _)) hl hx ?_
 · have:=(hr.lt b hb).1.2;have:=h2.2;omega
 · intro A' cp' w' h1 h2;exact h A' cp' w' (.mk ((F.al (.cells #[c0,c1,c2,c3,c4,c5,c6,c7,c8] 72)).out.grow hj rfl (hr2.new (zG _ _ _)) h2 h1 hB))
theorem Fr.snocL {ops:Array Oper} {rest:List Oper} {o:Oper} {ac:Act} {Qx:Exit→Act→World→Prop} (F:Fr C B a D os s w) (j m:Nat) {hi n cp:Nat} {A:Option Addr} {l:List Tr} {t:Tr} {c0 c1 c2 c3 c4 c5 c6 c7 c8:Value} (hj:os[j]? =some (.rn hi (.slice A n cp) l)) (hm:os[m]? =some (.tn hi t [c0,c1,c2,c3,c4,c5,c6,c7,c8])) (hB:∀b,B b→a.heap.size≤b) (hl:n≤4097) (hgd:o.guard=none) (x y:Operand)
 (ho:o.op=.call {callee:=.builtin .append,args:=#[x,y],argTypes:=#[70,70]})
 (hs:ac.eval x=.slice A n cp) (hx:ac.eval y=.slice (some ⟨w.heap.size,0,none⟩) 1 1)
 (h:∀A' cp' w',Fr C B a D ((os.map Ob.calm).set j (.ro (.slice A' (n+1) cp') (l++[t]))) s w'→wpList prog ops Qx rest (ac.put o.dst (.slice A' (n+1) cp')) w'):
 wpList prog ops Qx (o::rest) ac (w.alloc (.cells #[c0,c1,c2,c3,c4,c5,c6,c7,c8] 72)):=by
 have hr:RowP w (fun b=>Off B D b∧b < hi) (.slice A n cp) l:=F.out.ob j _ hj;have hr2:=hr.sub (Q:=Off B D) fun _ hb _=>hb.1;have ht:TrC w (fun b=>Off B D b∧hi≤b) t [c0,c1,c2,c3,c4,c5,c6,c7,c8]:=(F.out.ob m _ hm).1;refine zCq (Px:=Off B D) (Q:=fun b=>Off B D b∧hi≤b) hgd x y ho hs hr.bounds.1 hr2 ht (fun b hb _=>hb.1) (fun b hb h2=>?_) (F.out.off (Nat.le_succ _)) hl hx ?_
 · have:=(hr.lt b hb).1.2;have:=h2.2;omega
 · intro A' cp' w' h1 h2;exact h A' cp' w' (.mk ((F.al (.cells #[c0,c1,c2,c3,c4,c5,c6,c7,c8] 72)).out.grow hj rfl (hr2.new (zG _ _ _)) h2 h1 hB))
theorem Fr.snoc0 {ops:Array Oper} {o:Oper} {ac:Act} {K:Act→World→Prop} {Qx:Exit→Act→World→Prop} {E:Prop} (F:Fr C B a D os s w) (m:Nat) (kk:Int) (nm:List UInt8) {lo:Nat} {t:Tr} {c0 c1 c2 c3 c4 c5 c6 c7 c8:Value} (hm:os[m]? =some (.tn lo t [c0,c1,c2,c3,c4,c5,c6,c7,c8])) (hgd:o.guard=none) (x y:Operand)
 (ho:o.op=.call {callee:=.builtin .append,args:=#[x,y],argTypes:=#[70,70]})
 (hs:ac.eval x=.slice none 0 0) (hx:ac.eval y=.slice (some ⟨w.heap.size,0,none⟩) 1 1)
 (h:∀A' cp' w',Fr C B a D (os++[.tn lo (trN kk nm [t]) [.int .i64 kk,.string ⟨nm.toArray⟩,.slice none 0 0,.int .i64 0,.int .i64 0,.bool false,.slice none 0 0,.slice none 0 0,.slice A' 1 cp']]) s w'→K (ac.put o.dst (.slice A' (0+1) cp')) w'):
 if Region.wanted o (yielded ops ac.tmps)=true then Oper.wp prog o ac (w.alloc (.cells #[c0,c1,c2,c3,c4,c5,c6,c7,c8] 72)) K Qx else E:=by
 have ht:=F.out.ob m _ hm;refine zGk (Px:=fun b=>Off B D b∧lo≤b) (Q:=fun b=>Off B D b∧lo≤b) hgd x y ho hs (l:=[]) rfl (RowP.nil _ _) ht.1 (fun b hb _=>hb) (fun b hb _=>by cases hb) ⟨F.out.off (Nat.le_succ _),Nat.le_succ_of_le ht.2⟩ (by omega) hx ?_;intro A' cp' w' h1 h2;have F2:=(F.al (.cells #[c0,c1,c2,c3,c4,c5,c6,c7,c8] 72)).n (w':=w') h2;refine h A' cp' w' (.mk (F2.out.snoc (x:=.tn _ _ _) rfl ⟨(show TrC _ _ _ _ from RowP.treeN h1),?_⟩));have h3:=h2.size;have h4:=ht.2;simp at h3;omega
theorem Fr.nar (F:Fr C B a D os s w) (j:Nat) {v:Value} {l:List Tr} (hj:os[j]? =some (.ro v l)):Fr C B a D (os.set j (.rn w.heap.size v l)) s w:=.mk (F.out.rep hj rfl rfl (RowP.sub (F.r j hj) fun _ hb hl=>⟨hb,hl⟩))
theorem Fr.leafM (F:Fr C B a D os s w) (kk:Int) (nm:List UInt8):Fr C B a D (os++[.tn w.heap.size (trN kk nm []) [.int .i64 kk,.string ⟨nm.toArray⟩,.slice none 0 0,.int .i64 0,.int .i64 0,.bool false,.slice none 0 0,.slice none 0 0,.slice none 0 0]]) s w:=.mk (F.out.snoc (x:=.tn _ _ _) rfl ⟨(show TrC _ _ _ _ from(RowP.nil _ _).treeN),yAC _⟩)
theorem Fr.rowN (F:Fr C B a D os s w) (i:Nat) {v:Value} {l:List Tr} (h:os[i]? =some (.ro v l)) (kk:Int) (nm:List UInt8):Fr C B a D (os++[.tr (trN kk nm l) [.int .i64 kk,.string ⟨nm.toArray⟩,.slice none 0 0,.int .i64 0,.int .i64 0,.bool false,.slice none 0 0,.slice none 0 0,v]]) s w:=.mk (F.out.snoc rfl (show TrC _ _ _ _ from(F.r i h).treeN))
theorem Fr.rowK (F:Fr C B a D os s w) (i:Nat) {v:Value} {l:List Tr} (h:os[i]? =some (.ro v l)) (kk:Int):Fr C B a D (os++[.tr (trK kk l) [.int .i64 kk,.string ⟨#[]⟩,.slice none 0 0,.int .i64 0,.int .i64 0,.bool false,.slice none 0 0,.slice none 0 0,v]]) s w:=.mk (F.out.snoc rfl (show TrC _ _ _ _ from(F.r i h).treeK))
theorem Fr.nil (F:Fr C B a D os s w):Fr C B a D (os++[.ro (.slice none 0 0) []]) s w:=.mk (F.out.snoc rfl (show RowP _ _ _ _ from RowP.nil _ _))
theorem Fr.leafN (F:Fr C B a D os s w) (kk:Int) (nm:List UInt8):Fr C B a D (os++[.tr (trN kk nm []) [.int .i64 kk,.string ⟨nm.toArray⟩,.slice none 0 0,.int .i64 0,.int .i64 0,.bool false,.slice none 0 0,.slice none 0 0,.slice none 0 0]]) s w:=.mk (F.out.snoc rfl (show TrC _ _ _ _ from(RowP.nil _ _).treeN))
theorem Fr.leafK (F:Fr C B a D os s w) (kk:Int):Fr C B a D (os++[.tr (trK kk []) [.int .i64 kk,.string ⟨#[]⟩,.slice none 0 0,.int .i64 0,.int .i64 0,.bool false,.slice none 0 0,.slice none 0 0,.slice none 0 0]]) s w:=.mk (F.out.snoc rfl (show TrC _ _ _ _ from(RowP.nil _ _).treeK))
def pkL (os:List Ob) (l:List Nat):List Ob:=l.map fun i=>os.getD i (.vs [])
theorem Fr.pkc (F:Fr C B a D os s w) (E:List Nat) (l:List Nat) (hE:∀b∈E,b∈D) (hl:l.Nodup) (hk:∀R∈(pkL os l).filterMap Ob.blk,R∈E):Fr C B a E (pkL os l) s w:=by
 have G:=F.out;have hat:∀(i:Nat) (x:Ob),(pkL os l)[i]? =some x→∃k,l[i]? =some k∧x=os.getD k (.vs []):=by
  intro i x h;unfold pkL at h;rw[List.getElem?_map]at h;cases h5:l[i]? with
  | none=>rw[h5]at h;cases h
  | some k=>rw[h5]at h;injection h with h;exact⟨k,rfl,h.symm⟩
 have hgd:∀k:Nat,os.getD k (.vs [])=.vs []∨os[k]? =some (os.getD k (.vs [])):=by
  intro k;rw[yAG];cases h5:os[k]? with
  | none=>exact .inl rfl
  | some x=>exact .inr rfl
 refine .mk ⟨G.pa,G.gr,G.bl,G.bh,fun b hb=>G.ds b (hE b hb),?_,?_⟩
 · intro i j x y R h1 h2 h3 h4;obtain⟨k1,e1,rfl⟩:=hat i x h1;obtain⟨k2,e2,rfl⟩:=hat j y h2;rcases hgd k1 with e3 | e3
   · rw[e3]at h3;cases h3
   rcases hgd k2 with e4 | e4
   · rw[e4]at h4;cases h4
   have e5:=G.nd k1 k2 _ _ R e3 e4 h3 h4;subst e5;have l1:i < l.length:=by
    rcases Nat.lt_or_ge i l.length with h5 | h5
    · exact h5
    · rw[List.getElem?_eq_none h5]at e1;cases e1
   exact(List.getElem?_inj l1 hl).1 (e1.trans e2.symm)
 · intro i x h1;obtain⟨k,e1,rfl⟩:=hat i x h1;rcases hgd k with e3 | e3
   · rw[e3];trivial
   · have h2:=G.ob k _ e3;have hs:∀b,Off B D b→Off B E b:=fun b hb=>⟨hb.1,fun h=>hb.2 (hE b h)⟩;have hk:∀R,(os.getD k (.vs [])).blk=some R→R∈E:=fun R h=>hk R (List.mem_filterMap.2 ⟨_,List.mem_of_getElem? h1,h⟩);generalize os.getD k (.vs [])=z at hk h2;cases z with
     | bx R T cs=>exact⟨h2.1,hk R rfl,h2.2.2⟩
     | tr t cs=>exact TrC.sub (fun b hb _=>hs b hb) _ _ h2
     | tn lo t cs=>exact⟨TrC.sub (fun b hb _=>⟨hs b hb.1,hb.2⟩) _ _ h2.1,h2.2⟩
     | ro v l=>exact RowP.sub h2 fun b hb _=>hs b hb
     | rn hi v l=>exact RowP.sub h2 fun b hb _=>⟨hs b hb.1,hb.2⟩
     | lf T v n xs=>exact h2
     | vs cs=>trivial
theorem Fr.pk (F:Fr C B a D os s w) (E:List Nat) (l:List Nat) (hE:∀b∈E,b∈D) (hl:l.Nodup) {r0 r1:Nat} (hr:(pkL os l).filterMap Ob.blk=[r0,r1]) (h0:r0∈E) (h1:r1∈E):Fr C B a E (pkL os l) s w:=F.pkc E l hE hl fun R h=>by
 rw[hr]at h;rcases List.mem_cons.1 h with rfl | h
 · assumption
 · rw[List.mem_singleton.1 h];assumption
theorem Fr.pk1 (F:Fr C B a D os s w) (E:List Nat) (l:List Nat) (hE:∀b∈E,b∈D) (hl:l.Nodup) {r0:Nat} (hr:(pkL os l).filterMap Ob.blk=[r0]) (h0:r0∈E):Fr C B a E (pkL os l) s w:=F.pkc E l hE hl fun R h=>by
 rw[hr]at h;rw[List.mem_singleton.1 h];assumption
theorem Fr.pk3 (F:Fr C B a D os s w) (E:List Nat) (l:List Nat) (hE:∀b∈E,b∈D) (hl:l.Nodup) {r0 r1 r2:Nat} (hr:(pkL os l).filterMap Ob.blk=[r0,r1,r2]) (h0:r0∈E) (h1:r1∈E) (h2:r2∈E):Fr C B a E (pkL os l) s w:=F.pkc E l hE hl fun R h=>by
 rw[hr]at h;rcases List.mem_cons.1 h with rfl | h
 · assumption
 rcases List.mem_cons.1 h with rfl | h
 · assumption
 · rw[List.mem_singleton.1 h];assumption
theorem Fr.kT {f:FuncId} {args:Array Value} {kd:Nat} {tx:List UInt8} {st:List UInt16} {nk nn:Int} {mg:List Nat} {ps:Nat} {nl:Bool} (F:Fr C B a D os s w) (h:Calls prog f args w (zRT C s kd tx st nk nn mg ps nl w)) {Q:Ending→World→Prop} (k:∀w' As Am c1 c2,Fr C B a D (os++[.vs [.int .i64 (kd:Int),.string ⟨tx.toArray⟩,.slice As st.length c1,.int .i64 nk,.int .i64 nn,.bool false,.slice Am mg.length c2,.int .i64 (ps:Int),.bool nl]]) s w'→Q (.returned (.agg #[.int .i64 (kd:Int),.string ⟨tx.toArray⟩,.slice As st.length c1,.int .i64 nk,.int .i64 nn,.bool false,.slice Am mg.length c2,.int .i64 (ps:Int),.bool nl])) w'):Calls prog f args w Q:=
 h.mono fun _ w' ⟨As,Am,c1,c2,h1,_,_,_,h5⟩=>h1▸k w' As Am c1 c2 (.mk ((F.n h5).out.snoc rfl trivial))
theorem Fr.kTl {f:FuncId} {args:Array Value} {kd:Nat} {tx:List UInt8} {st:List UInt16} {nk nn:Int} {mg:List Nat} {ps:Nat} {nl:Bool} (F:Fr C B a D os s w) (h:Calls prog f args w (zRT C s kd tx st nk nn mg ps nl w)) {Q:Ending→World→Prop} (k:∀w' As Am c1 c2,Fr C B a D (os++[.vs [.int .i64 (kd:Int),.string ⟨tx.toArray⟩,.slice As st.length c1,.int .i64 nk,.int .i64 nn,.bool false,.slice Am mg.length c2,.int .i64 (ps:Int),.bool nl]]++[.lf 24 (.slice As st.length c1) st.length (zAD st)]++[.lf 87 (.slice Am mg.length c2) mg.length (zBm mg)]) s w'→Q (.returned (.agg #[.int .i64 (kd:Int),.string ⟨tx.toArray⟩,.slice As st.length c1,.int .i64 nk,.int .i64 nn,.bool false,.slice Am mg.length c2,.int .i64 (ps:Int),.bool nl])) w'):Calls prog f args w Q:=
 h.mono fun _ w' ⟨As,Am,c1,c2,h1,h2,h3,_,h5⟩=>h1▸k w' As Am c1 c2 (.mk ((((F.n h5).out.snoc (x:=.vs _) rfl trivial).snoc (x:=.lf _ _ _ _) rfl ⟨.inl rfl,h2⟩).snoc (x:=.lf _ _ _ _) rfl ⟨.inr rfl,h3⟩))
theorem Fr.l (F:Fr C B a D os s w) (i:Nat) {T:TypeId} {v:Value} {n:Nat} {xs:List Value} (h:os[i]? =some (.lf T v n xs):=by rfl):w.ownsRow 0 T 1 v n xs:=(F.out.ob i _ h).2
theorem zRi {w:World} {P:Nat→Prop} {x:Nd} {vs vm:Value} (hk:x.kids=[]) (hs:w.ownsRow 0 24 1 vs x.str.length (zAD x.str)) (hm:w.ownsRow 0 87 1 vm x.mag.length (zBm x.mag)):TrC w P (.mk x []) (zPy x vs vm (.slice none 0 0)):=by
 rw[zDC];exact⟨vs,vm,.slice none 0 0,[],rfl,hk,hs,hm,yAJ _ _ _ _,(fun _ h=>by cases h),zBn.mpr rfl⟩
theorem Fr.leafX (F:Fr C B a D os s w) (x:Nd) {vs vm:Value} (hk:x.kids=[]) (hs:w.ownsRow 0 24 1 vs x.str.length (zAD x.str)) (hm:w.ownsRow 0 87 1 vm x.mag.length (zBm x.mag)):Fr C B a D (os++[.tr (.mk x []) (zPy x vs vm (.slice none 0 0))]) s w:=.mk (F.out.snoc rfl (zRi hk hs hm))
theorem Fr.kA {f:FuncId} {args:Array Value} {p:Tr×Ps} {w1:World} (F:Fr C B a D os s w) (h:Calls prog f args w1 (zPD C w p)) {Q:Ending→World→Prop} (k:∀x,Hid (p=x)→∀w' d0 d1 d2 d3 d4 d5 d6 d7 d8,Fr C B a D (os++[.tr x.1 [d0,d1,d2,d3,d4,d5,d6,d7,d8]]) x.2 w'→Q (.returned (.agg #[d0,d1,d2,d3,d4,d5,d6,d7,d8])) w'):Calls prog f args w1 Q:=
 h.mono fun _ w' ⟨d0,d1,d2,d3,d4,d5,d6,d7,d8,h1,h2,h3,h4⟩=>h1▸k p (zA rfl) w' d0 d1 d2 d3 d4 d5 d6 d7 d8 (F.addT h3 h4 h2)
theorem Fr.kO {f:FuncId} {args:Array Value} {p:Tr×Ps} (F:Fr C B a D os s w) (h:Calls prog f args w (NodR C (Off B D) p w)) {Q:Ending→World→Prop} (k:∀w' d0 d1 d2 d3 d4 d5 d6 d7 d8,Fr C B a D (os++[.tr p.1 [d0,d1,d2,d3,d4,d5,d6,d7,d8]]) p.2 w'→Q (.returned (.agg #[d0,d1,d2,d3,d4,d5,d6,d7,d8])) w'):Calls prog f args w Q:=
 h.mono fun _ w' ⟨d0,d1,d2,d3,d4,d5,d6,d7,d8,h1,h2,h3,h4⟩=>h1▸k w' d0 d1 d2 d3 d4 d5 d6 d7 d8 (.mk ((F.m h3 h4).out.snoc rfl (TrC.sub (fun _ hb _=>hb.elim id F.out.off) _ _ h2)))
theorem Fr.both (F:Fr C B a D os s w) (j:Nat) {x:Tr} {d0 d1 d2 d3 d4 d5 d6 d7 d8:Value} (hj:os[j]? =some (.tr x [d0,d1,d2,d3,d4,d5,d6,d7,d8])) (h:zc C s w (.both x)):Calls prog 202 #[.pointer (some ⟨C.g,0,none⟩),.agg #[d0,d1,d2,d3,d4,d5,d6,d7,d8]] w (NodR C (Off B D) (zF C.L (.both x) s) w):=h _ _ _ _ _ _ _ _ _ _ (fun b hb=>F.out.bl b hb.1) (F.t j hj)
theorem Fr.made0 (F:Fr C B a D os s w) (kk:Int) {Q:Ending→World→Prop} (k:∀w',Fr C B a D (os++[.tr (trK kk []) [.int .i64 kk,.string ⟨#[]⟩,.slice none 0 0,.int .i64 0,.int .i64 0,.bool false,.slice none 0 0,.slice none 0 0,.slice none 0 0]]) s w'→Q (.returned (.agg #[.int .i64 kk,.string ⟨#[]⟩,.slice none 0 0,.int .i64 0,.int .i64 0,.bool false,.slice none 0 0,.slice none 0 0,.slice none 0 0])) w'):Calls prog 58 #[.int .i64 kk,.slice none 0 0] w Q:=
 (zAS kk none 0 0).mono fun _ w' ⟨h1,h2⟩=>h1▸k w' (.mk ((F.n h2).out.snoc rfl (show TrC _ _ _ _ from(RowP.nil _ _).treeK)))
theorem Fr.named0 (F:Fr C B a D os s w) (kk:Int) (nm:List UInt8) {Q:Ending→World→Prop} (k:∀w',Fr C B a D (os++[.tr (trN kk nm []) [.int .i64 kk,.string ⟨nm.toArray⟩,.slice none 0 0,.int .i64 0,.int .i64 0,.bool false,.slice none 0 0,.slice none 0 0,.slice none 0 0]]) s w'→Q (.returned (.agg #[.int .i64 kk,.string ⟨nm.toArray⟩,.slice none 0 0,.int .i64 0,.int .i64 0,.bool false,.slice none 0 0,.slice none 0 0,.slice none 0 0])) w'):Calls prog 139 #[.int .i64 kk,.string ⟨nm.toArray⟩,.slice none 0 0] w Q:=
 (zBz kk ⟨nm.toArray⟩ none 0 0).mono fun _ w' ⟨h1,h2⟩=>h1▸k w' (.mk ((F.n h2).out.snoc rfl (show TrC _ _ _ _ from(RowP.nil _ _).treeN)))
theorem Fr.litG {l:List Tr} {cs:List Value} {n R:Nat} (F:Fr C B a D os s w) (hT:TrsC w (Off B D) l cs) (hn:n=l.length) (hl:n≤4097) (hR:w.heap.size=R) (hg:(w.alloc (.cells cs.toArray 72)).grownBy w' none):FrR C B a D os s w'∧RowP w' (Off B D) (.slice (some ⟨R,0,none⟩) n n) l:=by
 subst hR;exact⟨(F.n (zC (zG w (.cells cs.toArray 72) none) hg)).out,zIT hn hT hl (F.out.off (yAC _)) hg⟩
theorem Fr.litK {l:List Tr} {cs:List Value} {n R:Nat} (F:Fr C B a D os s w) (kk:Int) (hT:TrsC w (Off B D) l cs) (hn:n=l.length) (hl:n≤4097) (hR:w.heap.size=R) {Q:Ending→World→Prop} (k:∀w',Fr C B a D (os++[.tr (trK kk l) [.int .i64 kk,.string ⟨#[]⟩,.slice none 0 0,.int .i64 0,.int .i64 0,.bool false,.slice none 0 0,.slice none 0 0,.slice (some ⟨R,0,none⟩) n n]]) s w'→Q (.returned (.agg #[.int .i64 kk,.string ⟨#[]⟩,.slice none 0 0,.int .i64 0,.int .i64 0,.bool false,.slice none 0 0,.slice none 0 0,.slice (some ⟨R,0,none⟩) n n])) w'):Calls prog 58 #[.int .i64 kk,.slice (some ⟨R,0,none⟩) n n] (w.alloc (.cells cs.toArray 72)) Q:=
 (zAS kk _ n n).mono fun _ w' ⟨h1,h2⟩=>h1▸k w' (.mk ((F.litG hT hn hl hR h2).1.snoc rfl (show TrC _ _ _ _ from(F.litG hT hn hl hR h2).2.treeK)))
theorem Fr.litN {l:List Tr} {cs:List Value} {n R:Nat} (F:Fr C B a D os s w) (kk:Int) (nm:List UInt8) (hT:TrsC w (Off B D) l cs) (hn:n=l.length) (hl:n≤4097) (hR:w.heap.size=R) {Q:Ending→World→Prop} (k:∀w',Fr C B a D (os++[.tr (trN kk nm l) [.int .i64 kk,.string ⟨nm.toArray⟩,.slice none 0 0,.int .i64 0,.int .i64 0,.bool false,.slice none 0 0,.slice none 0 0,.slice (some ⟨R,0,none⟩) n n]]) s w'→Q (.returned (.agg #[.int .i64 kk,.string ⟨nm.toArray⟩,.slice none 0 0,.int .i64 0,.int .i64 0,.bool false,.slice none 0 0,.slice none 0 0,.slice (some ⟨R,0,none⟩) n n])) w'):Calls prog 139 #[.int .i64 kk,.string ⟨nm.toArray⟩,.slice (some ⟨R,0,none⟩) n n] (w.alloc (.cells cs.toArray 72)) Q:=
 (zBz kk ⟨nm.toArray⟩ _ n n).mono fun _ w' ⟨h1,h2⟩=>h1▸k w' (.mk ((F.litG hT hn hl hR h2).1.snoc rfl (show TrC _ _ _ _ from(F.litG hT hn hl hR h2).2.treeN)))
theorem Fr.litR {l:List Tr} {cs:List Value} {n R:Nat} (F:Fr C B a D os s w) (kk:Int) (hT:TrsC w (Off B D) l cs) (hn:n=l.length) (hl:n≤4097) (hR:w.heap.size=R) {Q:Ending→World→Prop} (k:∀w',Fr C B a D (os++[.ro (.slice (some ⟨R,0,none⟩) n n) l]++[.tr (trK kk l) [.int .i64 kk,.string ⟨#[]⟩,.slice none 0 0,.int .i64 0,.int .i64 0,.bool false,.slice none 0 0,.slice none 0 0,.slice (some ⟨R,0,none⟩) n n]]) s w'→Q (.returned (.agg #[.int .i64 kk,.string ⟨#[]⟩,.slice none 0 0,.int .i64 0,.int .i64 0,.bool false,.slice none 0 0,.slice none 0 0,.slice (some ⟨R,0,none⟩) n n])) w'):Calls prog 58 #[.int .i64 kk,.slice (some ⟨R,0,none⟩) n n] (w.alloc (.cells cs.toArray 72)) Q:=
 (zAS kk _ n n).mono fun _ w' ⟨h1,h2⟩=>h1▸k w' (.mk (((F.litG hT hn hl hR h2).1.snoc (x:=.ro (.slice (some ⟨R,0,none⟩) n n) l) rfl (F.litG hT hn hl hR h2).2).snoc rfl (show TrC _ _ _ _ from(F.litG hT hn hl hR h2).2.treeK)))
section
variable {kk:Int} {nm:List UInt8} {R:Nat} {t1 t2 t3:Tr} {e0 e1 e2 e3 e4 e5 e6 e7 e8 a0 a1 a2 a3 a4 a5 a6 a7 a8 p0 p1 p2 p3 p4 p5 p6 p7 p8:Value}
theorem Fr.ts1 (F:Fr C B a D os s w) (i:Nat) (h1:os[i]? =some (.tr t1 [e0,e1,e2,e3,e4,e5,e6,e7,e8]):=by rfl):TrsC w (Off B D) [t1] [e0,e1,e2,e3,e4,e5,e6,e7,e8]:=.single (F.t i h1)
theorem Fr.ts2 (F:Fr C B a D os s w) (i j:Nat) (h1:os[i]? =some (.tr t1 [e0,e1,e2,e3,e4,e5,e6,e7,e8]):=by rfl) (h2:os[j]? =some (.tr t2 [a0,a1,a2,a3,a4,a5,a6,a7,a8]):=by rfl):TrsC w (Off B D) [t1,t2] [e0,e1,e2,e3,e4,e5,e6,e7,e8,a0,a1,a2,a3,a4,a5,a6,a7,a8]:=TrsC.cons (F.t i h1) (.single (F.t j h2))
theorem Fr.ts3 (F:Fr C B a D os s w) (i j m:Nat) (h1:os[i]? =some (.tr t1 [e0,e1,e2,e3,e4,e5,e6,e7,e8]):=by rfl) (h2:os[j]? =some (.tr t2 [a0,a1,a2,a3,a4,a5,a6,a7,a8]):=by rfl) (h3:os[m]? =some (.tr t3 [p0,p1,p2,p3,p4,p5,p6,p7,p8]):=by rfl):TrsC w (Off B D) [t1,t2,t3] [e0,e1,e2,e3,e4,e5,e6,e7,e8,a0,a1,a2,a3,a4,a5,a6,a7,a8,p0,p1,p2,p3,p4,p5,p6,p7,p8]:=TrsC.cons (F.t i h1) (TrsC.cons (F.t j h2) (.single (F.t m h3)))
end
theorem Fr.sto (F:Fr C B a D os s w) (i:Nat) {t:Tr} {e0 e1 e2 e3 e4 e5 e6 e7 e8:Value} (h:os[i]? =some (.tr t [e0,e1,e2,e3,e4,e5,e6,e7,e8]):=by rfl):(∀(v:World) (a:Addr),(store a e0).run prog v=stored prog v a e0 .plain)∧(∀(v:World) (a:Addr),(store a e1).run prog v=stored prog v a e1 .plain)∧(∀(v:World) (a:Addr),(store a e2).run prog v=stored prog v a e2 .plain)∧(∀(v:World) (a:Addr),(store a e3).run prog v=stored prog v a e3 .plain)∧(∀(v:World) (a:Addr),(store a e4).run prog v=stored prog v a e4 .plain)∧(∀(v:World) (a:Addr),(store a e5).run prog v=stored prog v a e5 .plain)∧(∀(v:World) (a:Addr),(store a e6).run prog v=stored prog v a e6 .plain)∧(∀(v:World) (a:Addr),(store a e7).run prog v=stored prog v a e7 .plain)∧(∀(v:World) (a:Addr),(store a e8).run prog v=stored prog v a e8 .plain):=(F.t i h).sto
theorem Fr.ret {Pg:Program} {fn:Func} {A:Act} {p:Tr×Ps} {t:Tr} (F:Fr C B a D os s w) (j:Nat) {d0 d1 d2 d3 d4 d5 d6 d7 d8:Value} (hj:os[j]? =some (.tr t [d0,d1,d2,d3,d4,d5,d6,d7,d8])) (hr:(results fn A.tmps).run Pg w=.ok (.agg #[d0,d1,d2,d3,d4,d5,d6,d7,d8]) w) (hd:A.defers=[]) (e:p=(t,s)) (hB:∀b,B b→a.heap.size≤b):bodyPost Pg fn (zCP C p a) .ret A w:=by
 subst e;exact bodyPost_ret hr hd ⟨d0,d1,d2,d3,d4,d5,d6,d7,d8,rfl,.sub (fun b hb _=>hB b hb.1) _ _ (F.t j hj),F.P,F.out.gr⟩
end
theorem zP (L:List Tok) (k:Nat):∃tk,Hid (zL L k=tk):=⟨_,zA rfl⟩
theorem zAw {C:Pc} {s:Ps} {w:World} (h:Pa C s w) (v:List UInt8) (hb:onP C.L v s=true):Calls prog 95 #[.pointer (some ⟨C.g,0,none⟩),.string ⟨v.toArray⟩] w (zRR C (zB s) true w):=zAV h v hb
theorem zA1 {C:Pc} {s:Ps} {w:World} (h:Pa C s w) (v:List UInt8) (hb:onP C.L v s=false):Calls prog 95 #[.pointer (some ⟨C.g,0,none⟩),.string ⟨v.toArray⟩] w (zRR C s false w):=zAV h v hb
theorem zAg {C:Pc} {s:Ps} {w:World} {ph:Ph} {f:FuncId} {args:Array Value} (hp:Pre C.L ph s) (h:Pa C s w) (k:Hid (Lst C.L)→C.N≤4097→s.k≤C.L.length - 1→∀r W X,Hid (zE C.L (zF C.L) ph s=r)→w.alloc (.cells #[.int .i64 0,.string ⟨#[]⟩,.slice none 0 0,.int .i64 0,.int .i64 0,.bool false,.slice none 0 0,.slice none 0 0,.slice none 0 0] 72)=W→w.heap.size=X→Fr C (w.heap.size≤·) w [X] [.bx X 72 [.int .i64 0,.string ⟨#[]⟩,.slice none 0 0,.int .i64 0,.int .i64 0,.bool false,.slice none 0 0,.slice none 0 0,.slice none 0 0]] s W→Calls prog f args w (zCP C r w)):Calls prog f args w (zCP C (zF C.L ph s) w):=by
 refine k (zA h.cx.lst) h.cx.n4 hp.1 _ _ _ (zA (zAH h.cx.lst hp).symm) rfl rfl ?_;have F0:FrR C (w.heap.size≤·) w [] [] s w:=⟨h,⟨rfl,rfl,rfl,yAC _,fun _ _ _=>rfl⟩,fun b hb=>yAA h.lt hb,fun _ hb=>hb,(fun _ hb=>by cases hb),(fun _ _ _ _ _ hb=>by cases hb),fun _ _ hb=>by cases hb⟩;exact(Fr.mk F0).box zFO 72 rfl (by decide) (by decide)
theorem zQ1 {C:Pc} {s:Ps} {w:World} {x:Tr} {Q:Nat→Prop} {d0 d1 d2 d3 d4 d5 d6 d7 d8:Value} {f:FuncId} {args:Array Value} {Ret:Ending→World→Prop} (h:Pa C s w) (hQ:∀b,Q b→C.g < b) (ht:TrC w Q x [d0,d1,d2,d3,d4,d5,d6,d7,d8]) (k:Hid (Lst C.L)→C.N≤4097→s.k≤C.L.length - 1→∀W0 W R X,w.alloc (.cells #[d0,d1,d2,d3,d4,d5,d6,d7,d8] 72)=W0→W0.alloc (.cells #[.int .i64 0,.string ⟨#[]⟩,.slice none 0 0,.int .i64 0,.int .i64 0,.bool false,.slice none 0 0,.slice none 0 0,.slice none 0 0] 72)=W→w.heap.size=R→W0.heap.size=X→R+1=X→Fr C (fun b=>Q b∨w.heap.size≤b) w [X,R] [.tr x [d0,d1,d2,d3,d4,d5,d6,d7,d8],.bx R 72 [d0,d1,d2,d3,d4,d5,d6,d7,d8],.bx X 72 [.int .i64 0,.string ⟨#[]⟩,.slice none 0 0,.int .i64 0,.int .i64 0,.bool false,.slice none 0 0,.slice none 0 0,.slice none 0 0]] s W→Calls prog f args w Ret):Calls prog f args w Ret:=by
 refine k (zA h.cx.lst) h.cx.n4 h.hi _ _ _ _ rfl rfl rfl rfl (by simp) ?_;have F0:FrR C (fun b=>Q b∨w.heap.size≤b) w [] [] s w:=⟨h,⟨rfl,rfl,rfl,yAC _,fun _ _ _=>rfl⟩,fun b hb=>hb.elim (hQ b) (fun hb=>yAA h.lt hb),fun _ hb=>.inr hb,(fun _ hb=>by cases hb),(fun _ _ _ _ _ hb=>by cases hb),fun _ _ hb=>by cases hb⟩;exact((Fr.mk (F0.snoc (x:=.tr x _) rfl (TrC.sub (fun b hb _=>⟨.inl hb,by simp⟩) _ _ ht))).box [d0,d1,d2,d3,d4,d5,d6,d7,d8] 72 rfl (by decide) (by decide)).box zFO 72 rfl (by decide) (by decide)
theorem zRV {C:Pc} {s:Ps} {w:World} {l:List Tr} {f:FuncId} {args:Array Value} (hp:Pre C.L (.body l) s) (h:Pa C s w) {a:World} {A:Option Addr} {n cp:Nat} (hga:a.grownBy w (some C.g)) (hgA:C.g < a.heap.size) (hrow:RowP w (a.heap.size≤·) (.slice A n cp) l) (k:Hid (Lst C.L)→C.N≤4097→s.k≤C.L.length - 1→∀r W X,Hid (zE C.L (zF C.L) (.body l) s=r)→w.alloc (.cells #[.int .i64 0,.string ⟨#[]⟩,.slice none 0 0,.int .i64 0,.int .i64 0,.bool false,.slice none 0 0,.slice none 0 0,.slice none 0 0] 72)=W→w.heap.size=X→Fr C (a.heap.size≤·) a [X] [.ro (.slice A n cp) l,.bx X 72 [.int .i64 0,.string ⟨#[]⟩,.slice none 0 0,.int .i64 0,.int .i64 0,.bool false,.slice none 0 0,.slice none 0 0,.slice none 0 0]] s W→Calls prog f args w (zPD C a r)):Calls prog f args w (zPD C a (zF C.L (.body l) s)):=by
 refine k (zA h.cx.lst) h.cx.n4 hp.1 _ _ _ (zA (zAH h.cx.lst hp).symm) rfl rfl ?_;have F0:FrR C (a.heap.size≤·) a [] [] s w:=⟨h,hga,fun b hb=>yAA hgA hb,fun _ hb=>hb,(fun _ hb=>by cases hb),(fun _ _ _ _ _ hb=>by cases hb),fun _ _ hb=>by cases hb⟩;exact(Fr.mk (F0.snoc (x:=.ro (.slice A n cp) l) rfl (RowP.sub hrow fun b hb _=>⟨hb,by simp⟩))).box zFO 72 rfl (by decide) (by decide)
theorem zJZ {C:Pc} {s:Ps} {w:World} (hp:Pre C.L (.within) s) (K:KP C (zZ C.L (.within) s)) (h:Pa C s w):zc C s w (.within):=by
 refine zAg hp h fun HL hlen hsk r W X HR hW hX F0=>?_;have HK:=zA K;clear K h hp;go_enter func178,ntmps178;go_upto_region 1 with(fail);clear hW hX;have hn:=zA (zU (w:=[40]) HL.out hsk);go_wp2_with fail;refine F0.kN (zr F0.P [40]) fun w1 F1=>?_;go_wp2_with fail;refine F1.kD (HK.out.rank (q:=.assign) ⟨F1.P.hi,trivial⟩ F1.P hn.out.adv.le (by simp[ze])) fun w2 d2_0 d2_1 d2_2 d2_3 d2_4 d2_5 d2_6 d2_7 d2_8 F2=>?_;obtain⟨_,_,_,_,_,_,_,_,_⟩:=F2.sto 1;have F3:=F2.bt 1 72 rfl;go_wp2_with fail;refine F3.kN (zr F3.P [41]) fun w4 F4=>?_;obtain⟨_,_,_,_,_,_,_,_,_⟩:=F4.c 2;obtain⟨_,_,_,_,_,_,_,_,_⟩:=F4.c 0;obtain⟨_,_,_,_,_,_,_,_,_⟩:=F4.f 0;go_wp2_with fail;refine zM (F4.put 0 1) fun V5 F5=>?_;have q:=F5.c 0;exact F5.ret 1 rfl (by simp[results,results178,go_sem,q]) rfl (HR.out.symm.trans (by
  unfold zE;dsimp only
  )) (fun _ h=>h)
theorem zJa {C:Pc} {s:Ps} {w:World} (hp:Pre C.L (.simple) s) (K:KP C (zZ C.L (.simple) s)) (h:Pa C s w):zc C s w (.simple):=by
 refine zAg hp h fun HL hlen hsk r W X HR hW hX F0=>?_;have HK:=zA K;clear K h hp;go_enter func148,ntmps148;go_upto_region 1 with(fail);clear hW hX;go_wp2_with fail;refine F0.kD (HK.out.rank (q:=.assign) ⟨F0.P.hi,trivial⟩ F0.P (yAC _) (by simp[ze])) fun w1 d1_0 d1_1 d1_2 d1_3 d1_4 d1_5 d1_6 d1_7 d1_8 F1=>?_;obtain⟨_,_,_,_,_,_,_,_,_⟩:=F1.sto 1;go_wp2_with fail;refine F1.litK _ (n:=1) (F1.ts1 1) rfl (by simp) rfl fun w2 F2=>?_;have F3:=F2.bt 2 72 rfl;go_wp2_with fail;refine F3.kN (zBJ F3.P) fun w4 F4=>?_;obtain⟨_,_,_,_,_,_,_,_,_⟩:=F4.c 3;obtain⟨_,_,_,_,_,_,_,_,_⟩:=F4.c 0;obtain⟨_,_,_,_,_,_,_,_,_⟩:=F4.f 0;go_wp2_with fail;refine zM (F4.put 0 2) fun V5 F5=>?_;have q:=F5.c 0;exact F5.ret 2 rfl (by simp[results,results148,go_sem,q]) rfl (HR.out.symm.trans (by
  unfold zE;dsimp only
  )) (fun _ h=>h)
theorem zJb {C:Pc} {v:List UInt8} {s:Ps} {w:World} (hp:Pre C.L (.clause v) s) (K:KP C (zZ C.L (.clause v) s)) (h:Pa C s w):zc C s w (.clause v):=by
 refine zAg hp h fun HL hlen hsk r W X HR hW hX F0=>?_;have HK:=zA K;clear K h hp;go_enter func197,ntmps197;go_upto_region 1 with(fail);clear hW hX;go_wp2_with fail;refine F0.made0 _ fun w1 F1=>?_;have F2:=F1.bt 1 72 rfl
 by_cases hon:onP C.L v s=true
 · have HO:=zA hon;clear hon;go_wp2_with fail;refine F2.kB (zAL F2.P v HO.out) fun w3 F3=>?_;go_wp2_with fail;refine F3.kN (zr F3.P v) fun w4 F4=>?_;obtain⟨_,_,_,_,_,_,_,_,_⟩:=F4.c 2;obtain⟨_,_,_,_,_,_,_,_,_⟩:=F4.c 0;obtain⟨_,_,_,_,_,_,_,_,_⟩:=F4.f 0;go_wp2_with fail;refine zM (F4.put 0 1) fun V5 F5=>?_;have q:=F5.c 0;exact F5.ret 1 rfl (by simp[results,results197,go_sem,q]) rfl (HR.out.symm.trans (by
    unfold zE;dsimp only;rw[if_pos HO.out])) (fun _ h=>h)
 · have HO:=zA (show onP C.L v s=false by simpa using hon);clear hon;go_wp2_with fail;refine F2.kB (zAL F2.P v HO.out) fun w6 F6=>?_;go_wp2_with fail;refine F6.kD (HK.out.rank (q:=.assign) ⟨F6.P.hi,trivial⟩ F6.P (yAC _) (by simp[ze])) fun w7 d7_0 d7_1 d7_2 d7_3 d7_4 d7_5 d7_6 d7_7 d7_8 F7=>?_;obtain⟨_,_,_,_,_,_,_,_,_⟩:=F7.sto 3;obtain⟨_,_,_,_,_,_,_,_,_⟩:=F7.c 2;obtain⟨_,_,_,_,_,_,_,_,_⟩:=F7.f 2;go_upto_region 4 with(fail);refine zCs (F7.put 2 3) fun w8 F8=>?_;go_wp2_with fail;refine F8.kN (zr F8.P v) fun w9 F9=>?_;obtain⟨_,_,_,_,_,_,_,_,_⟩:=F9.c 2;obtain⟨_,_,_,_,_,_,_,_,_⟩:=F9.c 0;obtain⟨_,_,_,_,_,_,_,_,_⟩:=F9.f 0;go_wp2_with fail;refine zM (F9.put 0 3) fun V10 F10=>?_;have q:=F10.c 0;exact F10.ret 3 rfl (by simp[results,results197,go_sem,q]) rfl (HR.out.symm.trans (by
    unfold zE;dsimp only;rw[if_neg (by rw[HO.out];decide)])) (fun _ h=>h)
end Go.Proofs.YtlohaclgbfhijaaGreatDoor
