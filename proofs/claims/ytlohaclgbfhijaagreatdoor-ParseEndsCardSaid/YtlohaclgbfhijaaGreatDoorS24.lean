/- Joined for the claim ParseEnds: the parser, the lexer and the trees as they are walked, made short by a program of mine. -/
import Derived.Test.YtlohaclgbfhijaaGreatDoorS23
import Derived.Test.YtlohaclgbfhijaaGreatDoorS21
import Derived.Test.YtlohaclgbfhijaaGreatDoorS22
set_option maxHeartbeats 16000000
set_option maxRecDepth 1000000
namespace Go.Proofs.YtlohaclgbfhijaaGreatDoor
def zSe:List UInt8:=[59,123,125,40,41]
theorem zKr:∀b∈zBf++zBU,∀c∈zSe,b.head? =some c→b=[c]:=by decide+kernel
theorem zNi:∀c∈zSe,zBK [c]=1∧zBI c.toUInt16=false∧zQ c.toUInt16=false∧(zFQ c.toUInt16 || zw c.toUInt16)=false∧c.toUInt16.toNat≤127∧c.toUInt16.toUInt8=c∧c.toUInt16.toNat≠39∧c.toUInt16.toNat≠34∧c.toUInt16.toNat≠46∧c.toUInt16.toNat≠47∧[c]≠[63,46]:=by decide+kernel
theorem zKs {b:List UInt8} (h:∀x∈zBf++zBU,b≠x):zBK b=0:=by
 unfold zBK
 rw[if_neg (fun h2=>h b (List.mem_append_left _ h2) rfl),if_neg (fun h2=>h b (List.mem_append_right _ h2) rfl)]
theorem zPx {c:UInt8} (hc:c∈zSe) (z:Bool) (s:List UInt16):zAo z (c.toUInt16::s)=(0,{zo with kind:=5,text:=[c]},1):=by
 obtain⟨g1,g2,g3,g4,g5,g6,g7,g8,g9,g10,g11⟩:=zNi c hc
 have hlong:∀n,zAS (c.toUInt16::s) (n+2)=0:=by
  intro n
  unfold zAS
  split
  · rename_i h
    simp only[Bool.and_eq_true,decide_eq_true_eq]at h
    have hlen:n+2≤(c.toUInt16::s).length:=h.1.1
    refine zKs (fun x hx e=>?_)
    have h1:(asc ((c.toUInt16::s).take (n+2))).head? =some c:=by
     rw[List.take_succ_cons]
     show some c.toUInt16.toUInt8=some c
     rw[g6]
    rw[e]at h1
    have h2:=zKr x hx c hc h1
    have h3:(asc ((c.toUInt16::s).take (n+2))).length=n+2:=by
     unfold asc
     rw[List.length_map,List.length_take]
     omega
    rw[e,h2]at h3
    simp at h3
  · rfl
 have h1:zAS (c.toUInt16::s) 1=1:=by
  unfold zAS
  have e:asc ((c.toUInt16::s).take 1)=[c]:=by
   show [c.toUInt16.toUInt8]=[c]
   rw[g6]
  rw[e,decide_eq_false g11]
  simp only[List.take_succ_cons,List.take_zero,List.all_cons,List.all_nil,Bool.and_true,Bool.false_and,Bool.not_false]
  rw[if_pos (by rw[decide_eq_true g5];simp),g1]
 have hN:zAs (c.toUInt16::s) 4=some 1:=by
  rw[zAs,if_neg (by rw[hlong 2];simp),zAs,if_neg (by rw[hlong 1];simp),zAs,if_neg (by rw[hlong 0];simp),zAs,if_pos (by rw[h1];decide)]
 rw[zAY,if_neg (by rw[g2];decide),if_neg (by rw[g3];decide),if_neg (by
  rw[beq_eq_false_iff_ne.2 g7,beq_eq_false_iff_ne.2 g8];decide),if_neg (by
  rw[beq_eq_false_iff_ne.2 g9];simp)]
 unfold zBY
 rw[hN]
 simp only
 rw[h1,if_neg (by decide)]
 show((0,{zo with kind:=5,text:=[c.toUInt16.toUInt8]},1):Ans)=_
 rw[g6]
theorem zPy {c:UInt8} (hc:c∈zSe) (k:Nat) (s:List UInt16):zBb k (c.toUInt16::s)=zBZ {zo with kind:=5,text:=[c],pos:=k} (zBb (k+1) s):=by
 obtain⟨g1,g2,g3,g4,g5,g6,g7,g8,g9,g10,g11⟩:=zNi c hc
 have hst:∀a:UInt8,zi [47,a] (c.toUInt16::s)=false:=fun a=>by
  unfold zi
  simp only[List.map_cons,List.map_nil,List.isPrefixOf]
  rw[show((47:UInt8).toUInt16==c.toUInt16)=false from beq_eq_false_iff_ne.2 (fun e=>g10 (by rw[←e];rfl))]
  rfl
 have hp:zd (c.toUInt16::s)=(0,false,0):=by
  show zA4 (c.toUInt16::s) false=_
  exact zCy g4 (by rw[hst,hst];rfl) false
 have ht:zAA k (c.toUInt16::s)=(0,{zo with kind:=5,text:=[c]},1):=by
  unfold zAA
  rw[hp]
  exact zPx hc _ s
 rw[zCC (by rw[hp]) (by rw[hp];simp) (by rw[ht]),hp,ht]
 rfl
def nlB (B:List Tok):List Tok:=match B with | []=>[] | t::r=>{t with nl:=true}::r
theorem zNj (B:List Tok):nl0 (B,0,0)=(nlB B,0,0):=rfl
theorem zRX (B:List Tok):(nlB B).length=B.length:=by cases B<;>rfl
theorem zRY (j:Nat) (B:List Tok):zKz j (B,0,0)=(B.map (zBO j),0,0):=by unfold zKz;simp
theorem zPz (t:Tok) (B:List Tok):zBZ t (B,0,0)=(t::B,0,0):=by unfold zBZ;simp
theorem zNk (I B:List Tok):zGU I (B,0,0)=(I++B,0,0):=by unfold zGU;simp
theorem zGu {I R:List Tok} {i:Nat} (h:i < I.length):zM (I++R) i=zM I i:=by
 unfold zM
 simp only[List.getD_eq_getElem?_getD]
 rw[List.getElem?_append_left h]
theorem zFN {I R:List Tok} {i:Nat}:zM (I++R) (i+I.length)=zM R i:=by
 unfold zM
 simp only[List.getD_eq_getElem?_getD]
 rw[List.getElem?_append_right (by omega),Nat.add_sub_cancel]
theorem zP0 (B:List Tok) (j i:Nat) (h:i < B.length):zM (B.map (zBO j)) i=zBO j (zM B i):=by
 unfold zM
 simp only[List.getD_eq_getElem?_getD,List.getElem?_map]
 rw[List.getElem?_eq_getElem h]
 rfl
theorem zP1 (B:List Tok) (i:Nat):zMz (zM B i) (zM (nlB B) i)∧(0 < i→(zM B i).nl=(zM (nlB B) i).nl):=by
 cases B with
 | nil=>exact⟨⟨rfl,rfl,rfl,rfl,rfl,rfl⟩,fun _=>rfl⟩
 | cons t r=>
  cases i with
  | zero=>exact⟨⟨rfl,rfl,rfl,rfl,rfl,rfl⟩,fun h=>absurd h (by decide)⟩
  | succ i=>
   have:zM (nlB (t::r)) (i+1)=zM (t::r) (i+1):=by unfold zM nlB;simp
   rw[this]
   exact⟨⟨rfl,rfl,rfl,rfl,rfl,rfl⟩,fun _=>rfl⟩
theorem zKt (B:List Tok) (j i:Nat) (h:i < B.length):zMz (zM B i) (zM (nlB (B.map (zBO j))) i)∧(0 < i→(zM B i).nl=(zM (nlB (B.map (zBO j))) i).nl):=by
 have:=zP1 (B.map (zBO j)) i
 rw[zP0 B j i h]at this
 exact this
theorem zP2 {u v:List UInt16} {A B:List Tok} (h:∀x r,v=x::r→x.toNat≠35) (hl:u.length+3+v.length≤4096) (hu:zCH u=(A,0,0)) (hv:zCH v=(B,0,0)):
 ∃C,zCH (u++10::59::10::v)=(C,0,0)∧C.length=A.length+B.length∧(∀i,i < A.length - 1→zM C i=zM A i)∧(isT (zM C (A.length - 1)) [59]=true∧(zM C (A.length - 1)).kind=5)∧
  (∀i,i < B.length→zMz (zM B i) (zM C (i+A.length))∧(0 < i→(zM B i).nl=(zM C (i+A.length)).nl)):=by
 rw[zBF (by omega)]at hu hv
 obtain⟨init,b,h1,h2⟩:=zPv (x:=10) (v:=59::10::v) (u.length+1) u 0 (by omega) (.inl rfl) (by rw[hu])
 rw[hu,Nat.zero_add]at h1
 simp only at h1
 have h3:zBb (u.length+2) (10::v)=(nlB (B.map (zBO (u.length+3))),0,0):=by
  rw[zFJ (by decide),if_pos (by decide),zHX (u.length+2+1) h,hv,zRY,zNj]
 have h4:zBb (u.length+1) (59::10::v)=({zo with kind:=5,text:=[59],pos:=u.length+1}::nlB (B.map (zBO (u.length+3))),0,0):=by
  have:=zPy (c:=59) (by decide) (u.length+1) (10::v)
  rw[h3,zPz]at this
  exact this
 have h5:zBb (0+u.length) (10::59::10::v)=({zo with kind:=5,text:=[59],pos:=u.length+1,nl:=true}::nlB (B.map (zBO (u.length+3))),0,0):=by
  rw[Nat.zero_add,zFJ (by decide),if_pos (by decide),h4,zNj]
  rfl
 rw[h5,zNj]at h2
 have h6:zBb 0 (u++10::59::10::v)=(init++{zo with kind:=5,text:=[59],pos:=u.length+1,nl:=true}::nlB (B.map (zBO (u.length+3))),0,0):=by
  rw[h2]
  cases b
  · rw[if_neg (by decide),zNk]
  · rw[if_pos rfl,zNk];rfl
 have hA:A.length=init.length+1:=by rw[h1];simp
 refine⟨init++{zo with kind:=5,text:=[59],pos:=u.length+1,nl:=true}::nlB (B.map (zBO (u.length+3))),?_,?_,?_,?_,?_⟩
 · rw[zBF (by simp;omega),h6]
 · rw[List.length_append,List.length_cons,zRX,List.length_map]
   omega
 · intro i hi
   rw[h1,zGu (by omega),zGu (by omega)]
 · rw[show A.length - 1=0+init.length by omega,zFN]
   exact⟨rfl,rfl⟩
 · intro i hi
   rw[show i+A.length=(i+1)+init.length by omega,zFN]
   have:zM ({zo with kind:=5,text:=[59],pos:=u.length+1,nl:=true}::nlB (B.map (zBO (u.length+3)))) (i+1)=zM (nlB (B.map (zBO (u.length+3)))) i:=by unfold zM;simp
   rw[this]
   exact zKt B _ i hi
theorem zK (a b:List Tr):sizes (a++b)=sizes a+sizes b:=by
 induction a with
 | nil=>rw[List.nil_append,zH,Nat.zero_add]
 | cons t r ih=>rw[List.cons_append,zG,zG,ih];omega
theorem zII (a b:List Tr):depL (a++b)=max (depL a) (depL b):=by
 induction a with
 | nil=>rw[List.nil_append,zDR];omega
 | cons t r ih=>rw[List.cons_append,zDS,zDS,ih];omega
theorem zIJ {u:List UInt16} {ts:List Nd} {at_:Nat} (h:zAT u=(ts,at_,0)):∃L,zCH u=(L,0,0)∧Lst L∧(zI L (.program []) s0).2.bad=0∧(zI L (.program []) s0).1.size≤4096∧depT (zI L (.program []) s0).1≤48∧ts=flatT 0 (zI L (.program []) s0).1∧at_=0:=by
 obtain⟨⟨L,a,e⟩,hL⟩:∃q,zCH u=q:=⟨_,rfl⟩
 unfold zAT at h
 rw[hL]at h
 simp only at h
 by_cases he:e≠0
 · rw[if_pos he]at h
   simp only[Prod.mk.injEq]at h
   exact absurd h.2.2 he
 rw[if_neg he]at h
 have he':=Decidable.not_not.1 he
 subst he'
 have hl:¬4096 < u.length:=by
  intro h1
  unfold zCH at hL
  rw[if_pos h1]at hL
  simp only[Prod.mk.injEq]at hL
  omega
 have ha:=zNV (u:=u) (by omega) (by rw[hL])
 rw[hL]at ha
 simp only at ha
 subst ha
 refine⟨L,hL,zEC hL,?_⟩
 show(zI L (.program []) ⟨0,0,0⟩).2.bad=0∧_
 by_cases hb:(zI L (.program []) ⟨0,0,0⟩).2.bad≠0
 · rw[if_pos hb]at h
   simp only[Prod.mk.injEq]at h
   exact absurd h.2.2 hb
 rw[if_neg hb]at h
 by_cases hs:4096 < (zI L (.program []) ⟨0,0,0⟩).1.size
 · rw[if_pos hs]at h
   simp only[Prod.mk.injEq]at h
   omega
 rw[if_neg hs]at h
 by_cases hd:48 < depT (zI L (.program []) ⟨0,0,0⟩).1
 · rw[if_pos hd]at h
   simp only[Prod.mk.injEq]at h
   omega
 rw[if_neg hd]at h
 simp only[Prod.mk.injEq]at h
 exact⟨Decidable.not_not.1 hb,Nat.le_of_not_lt hs,Nat.le_of_not_lt hd,h.1.symm,h.2.1.symm⟩
theorem zP3 {u:List UInt16} {L:List Tok} {a:Nat} (hL:zCH u=(L,a,0)) (hb:(zI L (.program []) s0).2.bad=0) (hs:(zI L (.program []) s0).1.size≤4096) (hd:depT (zI L (.program []) s0).1≤48):zAT u=(flatT 0 (zI L (.program []) s0).1,0,0):=by
 unfold zAT
 rw[hL]
 simp only
 rw[if_neg (by simp)]
 unfold s0 at hb hs hd⊢
 rw[if_neg (fun h=>h hb),if_neg (Nat.not_lt.2 hs),if_neg (Nat.not_lt.2 hd)]
def zCV (ts:List Nd):Nat:=(atN ts 0).kids.length
theorem zC3 (x:Nd) (l:List Tr):zCV (flatT 0 (.mk x l))=l.length:=by
 unfold zCV atN
 rw[zA1]
 simp[zDl]
theorem zP4 {u v:List UInt16} {ta tb:List Nd} {a1 a2:Nat} (h:∀x r,v=x::r→x.toNat≠35) (hl:u.length≤2000) (hl2:v.length≤2000) (hu:zAT u=(ta,a1,0)) (hv:zAT v=(tb,a2,0)) (hn:ta.length+tb.length < 4096):
 ∃tc more,zAT (u++10::59::10::v)=(tc,0,0)∧more≤1∧tc.length+1=ta.length+tb.length+more∧zCV tc=zCV ta+zCV tb+more∧0 < ta.length∧0 < tb.length∧0 < tc.length:=by
 obtain⟨A,g1,g2,g3,g4,g5,g6,_⟩:=zIJ hu
 obtain⟨B,k1,k2,k3,k4,k5,k6,_⟩:=zIJ hv
 obtain⟨C,c1,c2,c3,c4,c5⟩:=zP2 h (by omega) g1 k1
 have hC:=zEC c1
 have hAp:=g2.pos
 have hBp:=k2.pos
 obtain⟨IA,IB,more,m1,m2,m3,m4,m5⟩:=zPh g2 k2 hC c2 (fun i hi=>by rw[c3 i hi];exact⟨⟨rfl,rfl,rfl,rfl,rfl,rfl⟩,fun _=>rfl⟩) c4.1 c4.2 (fun i hi=>c5 i (by omega)) g3 k3
 rw[m1]at g4 g5 g6
 rw[m2]at k4 k5 k6
 unfold trK at g4 g5 g6 k4 k5 k6
 rw[zN]at g4 k4
 rw[zFX]at g5 k5
 have la:ta.length=1+sizes IA:=by rw[g6,flatT_len,zN]
 have lb:tb.length=1+sizes IB:=by rw[k6,flatT_len,zN]
 have hmore:sizes more=more.length∧depL more≤1∧more.length≤1:=by
  rcases m3 with rfl | rfl
  · exact⟨by rw[zH];rfl,by rw[zDR];omega,by simp⟩
  · refine⟨?_,?_,by simp⟩
    · unfold trK;rw[zG,zN,zH];rfl
    · unfold trK;rw[zDS,zFX,zDR];omega
 have hsz:(zI C (.program []) s0).1.size=1+(sizes IA+sizes more+sizes IB):=by
  rw[m4];unfold trK;rw[zN,zK,zK]
 have hdp:depT (zI C (.program []) s0).1≤48:=by
  rw[m4];unfold trK;rw[zFX,zII,zII];omega
 refine⟨flatT 0 (zI C (.program []) s0).1,more.length,zP3 c1 m5 (by omega) hdp,hmore.2.2,?_,?_,by omega,by omega,?_⟩
 · rw[flatT_len,hsz];omega
 · rw[m4,g6,k6]
   unfold trK
   rw[zC3,zC3,zC3,List.length_append,List.length_append]
   omega
 · rw[flatT_len,hsz];omega
open Go.RowKit
def ParseQ (q:List Nd×Nat×Nat) (w:World) (e:Ending) (w':World):Prop:=
 ∃A n c,e=.returned (.tuple #[.agg #[.slice A n c],.int .i64 (q.2.1:Int),.int .i64 (q.2.2:Int)])∧NdsR w' w'.heap.size A n q.1∧n≤c∧c≤maxLen∧Below w.heap.size w w'
theorem ParseQ.nil {q:List Nd×Nat×Nat} {w w':World} {a e:Nat} (hq:q=([],a,e)) (hb:Below w.heap.size w w'):ParseQ q w (.returned (.tuple #[.agg #[.slice none 0 0],.int .i64 (a:Int),.int .i64 (e:Int)])) w':=by
 subst hq
 exact⟨none,0,0,rfl,⟨rfl,fun h=>absurd h (Nat.lt_irrefl _)⟩,Nat.le_refl _,Nat.zero_le _,hb⟩
theorem zNl {A:Option Addr} {B n c:Nat} {u:List UInt16} {w:World} (hB:B≤w.heap.size) (hn:u.length=n) (ha:Reads w B 1 A n (zAH u)) (hc:n≤c) (hc2:c≤maxLen) (hT:Tab w) (hsz:(zI (zCH u).1 (.program []) ⟨0,0,0⟩).1.size≤1000000):
 Calls Tryz.prog 16 #[.slice A n c] w (ParseQ (zAT u) w):=by
 obtain⟨W,hW⟩:∃W,w.alloc (.cells #[.slice none 0 0] 27)=W:=⟨_,rfl⟩
 have hbW:Below w.heap.size w W:=by rw[←hW];exact(Below.refl _ _).alloc (Nat.le_refl _) _
 obtain⟨X,hX⟩:∃X,w.heap.size=X:=⟨_,rfl⟩
 have HX:=zD (show Bx W X 27 [.slice none 0 0] by rw[←hW,←hX];exact Bx.new w _ _)
 have HBW:=zD hbW
 have hWs:w.heap.size≤W.heap.size:=hbW.size
 have HTk:=zD (zHE (w:=W) (Nat.le_trans hB hWs) hn (ha.below (hbW.mono hB)) hc hc2)
 have HTW:=zD (hT.below hT.lt hbW)
 have HRw:=zD hX
 obtain⟨⟨L,at_,e⟩,hL⟩:∃q,zCH u=q:=⟨_,rfl⟩
 rw[hL]at HTk hsz
 have HL:=zD hL
 have HSZ:=zD hsz
 clear hbW hB hn ha hc hc2 hT hsz hL
 have zX:W.cell? ⟨X,0,none⟩=some (.slice none 0 0):=HX.out.cell 0
 have fX:W.frozen? ⟨X,0,none⟩=false:=HX.out.frozen 0
 go_enter Tryz.func16,Tryz.ntmps16
 go_upto_region 1 with(fail)
 clear hW hX
 go_wp2_with fail
 refine HTk.out.mono ?_
 rintro ev1 w1 ⟨v,rfl,htok,hb1⟩
 have HB1:=zD hb1
 have HX1:=zD (HX.out.grown (zz none hb1) (by simp))
 have HTok:=zD htok
 obtain⟨lc,hown,_⟩:=htok
 obtain⟨AT,cT,rfl,_,_⟩:=zb hown
 clear hown hb1 HTk
 by_cases he:e=0
 · subst he
   have he0:(((0:Nat):Int) !=0)=false:=rfl
   have hLst:=zEC HL.out
   have HTL:=zD (zRW HL.out)
   have hul:u.length≤4096:=by
    apply Nat.le_of_not_lt
    intro h1
    have h2:=HL.out
    unfold zCH at h2
    rw[if_pos h1]at h2
    simp only[Prod.mk.injEq]at h2
    omega
   have hLl:L.length≤4097:=by
    have h1:=zGr hul
    rw[HL.out]at h1
    exact Nat.le_trans h1 (by omega)
   have HLM:=zD (zNh HL.out)
   obtain⟨g,hg⟩:∃g,w1.heap.size=g:=⟨_,rfl⟩
   obtain⟨W2,hW2⟩:∃W2,w1.alloc (.cells #[.slice AT L.length cT,.int .i64 0,.int .i64 0,.int .i64 0] 69)=W2:=⟨_,rfl⟩
   have hg12:w1.grownBy W2 none:=by rw[←hW2];exact zL _ _ _
   have HP:=zD (show Pa ⟨g,L,AT,L.length,cT,w1⟩ ⟨0,0,0⟩ W2 from by
    refine⟨⟨hLst,rfl,hLl,?_,by show w1.heap.size≤g;omega⟩,?_,?_,Nat.zero_le _⟩
    · exact HTok.out.base (Nat.zero_le _)
    · show Below w1.heap.size w1 W2
      rw[←hW2];exact(Below.refl _ _).alloc (Nat.le_refl _) _
    · show Bx W2 g _ _
      rw[←hW2,←hg]
      exact Bx.new w1 [.slice AT L.length cT,.int .i64 0,.int .i64 0,.int .i64 0] _)
   have hgX:X < g:=by have:=HX1.out.lt;omega
   have HX2:=zD (HX1.out.grown hg12 (by simp))
   have HB2:=zD (show Below w.heap.size w W2 from(HBW.out.trans (HB1.out.mono hWs)).trans (by
    have h0:Below w1.heap.size w1 W2:=by rw[←hW2];exact(Below.refl _ _).alloc (Nat.le_refl _) _
    exact h0.mono (Nat.le_trans hWs HB1.out.size)))
   have HT1:=zD (HTW.out.below HTW.out.lt HB1.out)
   obtain⟨⟨tr,s⟩,hr⟩:∃q,zI L (.program []) ⟨0,0,0⟩=q:=⟨_,rfl⟩
   have HSZ2:=zD (show tr.size≤1000000 by have:=HSZ.out;rw[hr]at this;exact this)
   have HNB:=zD (show NB tr by have:=zSB HTL.out HLM.out (.program []) ⟨0,0,0⟩ zCw;rw[hr]at this;exact this)
   have cp:Calls Tryz.prog 34 #[.pointer (some ⟨g,0,none⟩)] W2 (zCk ⟨g,L,AT,L.length,cT,w1⟩ (zI L (.program []) ⟨0,0,0⟩) W2):=zHT (C:=⟨g,L,AT,L.length,cT,w1⟩) HT1.out HTL.out ⟨Nat.zero_le _,trivial⟩ HP.out
   rw[hr]at cp
   have HCP:=zD cp
   have HR:=zD hr
   clear cp hr hLst hg12 HTok HX HX1 zX fX HSZ
   go_upto_region 5 with(fail)
   clear hW2
   go_wp2_with fail
   refine HCP.out.mono ?_
   rintro ev3 w3 ⟨d0,d1,d2,d3,d4,d5,d6,d7,d8,rfl,ht3,hp3,hg3⟩
   have HP3:=zD (show Pa ⟨g,L,AT,L.length,cT,w1⟩ s w3 from hp3)
   have HX3:=zD (HX2.out.gg hg3 (by show g≠X;omega))
   have HB3:=zD (HB2.out.trans (zAf hg3 (show w.heap.size≤g by rw[HRw.out];omega) (by show g≤W2.heap.size;exact Nat.le_of_lt HP.out.lt)))
   have HT3:=zD (show TrC w3 _ tr _ from ht3)
   obtain⟨so_0,so_1,so_2,so_3,so_4,so_5,so_6,so_7,so_8⟩:=HT3.out.sto
   clear ht3 hp3 hg3 HCP HP HX2 HB2
   obtain⟨W4,hW4⟩:∃W4,w3.alloc (.cells #[d0,d1,d2,d3,d4,d5,d6,d7,d8] 72)=W4:=⟨_,rfl⟩
   have hg34:w3.grownBy W4 none:=by rw[←hW4];exact zL _ _ _
   obtain⟨R,hR⟩:∃R,w3.heap.size=R:=⟨_,rfl⟩
   have HR4:=zD (show Bx W4 R 72 [d0,d1,d2,d3,d4,d5,d6,d7,d8] by rw[←hW4,←hR];exact Bx.new w3 _ _)
   have HP4:=zD (HP3.out.new hg34)
   have HX4:=zD (HX3.out.grown hg34 (by simp))
   have HT4:=zD (TrC.keep hg34 (.none_ _ _) _ _ HT3.out)
   have HB4:=zD (HB3.out.trans (show Below w.heap.size w3 W4 by
    have h0:Below w3.heap.size w3 W4:=by rw[←hW4];exact(Below.refl _ _).alloc (Nat.le_refl _) _
    exact h0.mono HB3.out.size))
   clear hg34 HP3 HX3 HT3 HB3
   go_upto_region 6 with(fail)
   clear hW4 hR
   have cb:W4.cell? ⟨g,2,none⟩=some (.int .i64 (s.bad:Int)):=HP4.out.c2
   have cf:W4.cell? ⟨g,3,none⟩=some (.int .i64 (zQS L s:Int)):=HP4.out.c3
   have zX:W4.cell? ⟨X,0,none⟩=some (.slice none 0 0):=HX4.out.cell 0
   have fX:W4.frozen? ⟨X,0,none⟩=false:=HX4.out.frozen 0
   by_cases hb:s.bad=0
   · have hb1:((s.bad:Int) !=0)=false:=by rw[bne_eq_false_iff_eq];omega
     have HBD:=zD hb
     clear hb
     obtain⟨zr_0,zr_1,zr_2,zr_3,zr_4,zr_5,zr_6,zr_7,zr_8⟩:=HR4.out.nine
     have HF:=zD (zPc HT4.out HSZ2.out)
     go_wp2_with fail
     refine HF.out.mono ?_
     rintro ev5 w5 ⟨A5,n5,c5,rfl,hl5,hg5⟩
     have hrd:=hl5.reads (nq_flatT HNB.out 0) (zFs tr) (by rw[flatT_len];exact HSZ2.out)
     have HN5:=zD hrd.1
     have hn5:n5=tr.size:=by rw[←flatT_len 0 tr];exact hrd.1.1.symm
     have hc5:=zD hrd.2
     have HX5:=zD (HX4.out.grown hg5 (by simp))
     have HB5:=zD (HB4.out.trans (show Below w.heap.size W4 w5 from⟨hg5.os,hg5.tape,hg5.output,hg5.size,fun i hi=>hg5.block i (Nat.lt_of_lt_of_le hi HB4.out.size) (by simp)⟩))
     have HN5e:=zD hn5
     have HLd:=zD hl5
     clear hl5 hg5 hrd HF zr_0 zr_1 zr_2 zr_3 zr_4 zr_5 zr_6 zr_7 zr_8 cb cf zX fX so_0 so_1 so_2 so_3 so_4 so_5 so_6 so_7 so_8 hn5
     obtain⟨W6,hW6⟩:∃W6,w5.alloc (.cells #[.slice A5 n5 c5] 27)=W6:=⟨_,rfl⟩
     have hg56:w5.grownBy W6 none:=by rw[←hW6];exact zL _ _ _
     obtain⟨T,hT⟩:∃T,w5.heap.size=T:=⟨_,rfl⟩
     have HT6:=zD (show Bx W6 T 27 [.slice A5 n5 c5] by rw[←hW6,←hT];exact Bx.new w5 _ _)
     have hXT:X < T:=by have:=HX5.out.lt;omega
     have HX6:=zD (HX5.out.grown hg56 (by simp))
     have hbel56:Below w5.heap.size w5 W6:=by rw[←hW6];exact(Below.refl _ _).alloc (Nat.le_refl _) _
     have HN6:=zD ((HN5.out.below hbel56).more hbel56.size)
     have HB6:=zD (HB5.out.trans (hbel56.mono HB5.out.size))
     have HLd6:=zD (HLd.out.new hg56)
     clear hg56 HN5 HX5 HB5 hbel56 HLd
     go_upto_region 9 with(fail)
     clear hW6 hT
     have zT:W6.cell? ⟨T,0,none⟩=some (.slice A5 n5 c5):=HT6.out.cell 0
     have zX:W6.cell? ⟨X,0,none⟩=some (.slice none 0 0):=HX6.out.cell 0
     have fX:W6.frozen? ⟨X,0,none⟩=false:=HX6.out.frozen 0
     have hn1:0 < n5:=by have:=zBk tr;have:=HN5e.out;omega
     by_cases hlong:4096 < n5
     · have hl2:(4096:Int) < (n5:Int):=by omega
       have HLO:=zD hlong
       clear hlong
       go_wp2_with fail
       have hz0:(W6.setCell ⟨X,0,none⟩ (.slice none 0 0)).cell? ⟨X,0,none⟩=some (.slice none 0 0):=(HX6.out.set 0 _).cell 0
       refine bodyPost_ret (v:=.tuple #[.agg #[.slice none 0 0],.int .i64 0,.int .i64 3]) (by simp[results,Tryz.results16,go_sem,hz0]) rfl ?_
       refine ParseQ.nil (a:=0) (e:=3) ?_ (HB6.out.trans (zAf (zR W6 X 0 _) (by rw[HRw.out];exact Nat.le_refl _) (Nat.le_of_lt HX6.out.lt)))
       unfold zAT
       rw[HL.out]
       simp only[HR.out]
       rw[if_neg (by simp),if_neg (by rw[HBD.out];simp),if_pos (by have:=HLO.out;have:=HN5e.out;omega)]
     · have hl2:¬((4096:Int) < (n5:Int)):=by omega
       have HD:=zD (zPf (w:=W6) (c:=c5) HN6.out (Nat.le_refl _) hn1 (by omega) (zFs tr) (fun x hx=>Nat.le_trans (kids_flatT tr 0 x hx) HSZ2.out) rfl)
       have HLO:=zD hlong
       clear hlong
       go_wp2_with fail
       refine HD.out.mono ?_
       rintro ev7 w7 ⟨A7,c7,rfl,hq7,hc7,hr7,hb7⟩
       have HX7:=zD (HX6.out.grown (zz none hb7) (by simp))
       have HT7:=zD (HT6.out.grown (zz none hb7) (by simp))
       have HB7:=zD (HB6.out.trans (hb7.mono HB6.out.size))
       have HN7:=zD ((HN6.out.below hb7).more hb7.size)
       have HM:=zD (zRS (c:=c7) hq7 hn1 (by have:=HLO.out;omega) hr7 (show zEj (zIP (flatT 0 tr))=depT tr from zLF tr))
       have HLd7:=zD (HLd6.out.new (zz none hb7))
       clear hq7 hc7 hr7 hb7 HD zT zX fX
       go_wp2_with fail
       refine HM.out.mono ?_
       rintro ev8 w8 ⟨rfl,rfl⟩
       have zT:w7.cell? ⟨T,0,none⟩=some (.slice A5 n5 c5):=HT7.out.cell 0
       have zX:w7.cell? ⟨X,0,none⟩=some (.slice none 0 0):=HX7.out.cell 0
       have fX:w7.frozen? ⟨X,0,none⟩=false:=HX7.out.frozen 0
       by_cases hdeep:48 < depT tr
       · have hd2:(48:Int) < (depT tr:Int):=by omega
         have HDE:=zD hdeep
         clear hdeep
         go_wp2_with fail
         have hz0:(w7.setCell ⟨X,0,none⟩ (.slice none 0 0)).cell? ⟨X,0,none⟩=some (.slice none 0 0):=(HX7.out.set 0 _).cell 0
         refine bodyPost_ret (v:=.tuple #[.agg #[.slice none 0 0],.int .i64 0,.int .i64 7]) (by simp[results,Tryz.results16,go_sem,hz0]) rfl ?_
         refine ParseQ.nil (a:=0) (e:=7) ?_ (HB7.out.trans (zAf (zR w7 X 0 _) (by rw[HRw.out];exact Nat.le_refl _) (Nat.le_of_lt HX7.out.lt)))
         unfold zAT
         rw[HL.out]
         simp only[HR.out]
         rw[if_neg (by simp),if_neg (by rw[HBD.out];simp),if_neg (by have:=HLO.out;have:=HN5e.out;omega),if_pos HDE.out]
       · have hd2:¬((48:Int) < (depT tr:Int)):=by omega
         have HDE:=zD hdeep
         clear hdeep
         go_wp2_with fail
         have hz0:(w7.setCell ⟨X,0,none⟩ (.slice A5 n5 c5)).cell? ⟨X,0,none⟩=some (.slice A5 n5 c5):=(HX7.out.set 0 _).cell 0
         refine bodyPost_ret (v:=.tuple #[.agg #[.slice A5 n5 c5],.int .i64 0,.int .i64 0]) (by simp[results,Tryz.results16,go_sem,hz0]) rfl ?_
         have hpf:zAT u=(flatT 0 tr,0,0):=by
          unfold zAT
          rw[HL.out]
          simp only[HR.out]
          rw[if_neg (by simp),if_neg (by rw[HBD.out];simp),if_neg (by have:=HLO.out;have:=HN5e.out;omega),if_neg HDE.out]
         rw[hpf]
         have hfin:=(HLd7.out.var (u:=.slice A5 n5 c5) HX7.out).reads (nq_flatT HNB.out 0) (zFs tr) (by rw[flatT_len];exact HSZ2.out)
         exact⟨A5,n5,c5,rfl,hfin.1,hfin.2.1,hfin.2.2,HB7.out.trans (zAf (zR w7 X 0 _) (by rw[HRw.out];exact Nat.le_refl _) (Nat.le_of_lt HX7.out.lt))⟩
   · have hb1:((s.bad:Int) !=0)=true:=by rw[bne_iff_ne];omega
     have HBD:=zD hb
     clear hb
     go_wp2_with fail
     have HPF:=zD (show zAT u=([],zQS L s,s.bad)from by
      unfold zAT
      rw[HL.out]
      simp only[HR.out]
      rw[if_neg (by simp),if_pos HBD.out]
      unfold zQS
      rw[if_neg HBD.out])
     go_region_law (fail)
     all_goals
      go_wp2_with fail
      have hz0:(W4.setCell ⟨X,0,none⟩ (.slice none 0 0)).cell? ⟨X,0,none⟩=some (.slice none 0 0):=(HX4.out.set 0 _).cell 0
      refine bodyPost_ret (v:=.tuple #[.agg #[.slice none 0 0],.int .i64 (zQS L s:Int),.int .i64 (s.bad:Int)]) (by simp[results,Tryz.results16,go_sem,hz0]) rfl ?_
      exact ParseQ.nil HPF.out (HB4.out.trans (zAf (show W4.grownBy (W4.setCell ⟨X,0,none⟩ (.slice none 0 0)).drew (some X)from zF (zR W4 X 0 _) (zAc _ _)) (by rw[HRw.out];exact Nat.le_refl _) (Nat.le_of_lt HX4.out.lt)))
 · have he1:((e:Int) !=0)=true:=by rw[bne_iff_ne];omega
   have HE:=zD he
   clear he
   have zX:w1.cell? ⟨X,0,none⟩=some (.slice none 0 0):=HX1.out.cell 0
   have fX:w1.frozen? ⟨X,0,none⟩=false:=HX1.out.frozen 0
   go_wp2_with fail
   have hz0:(w1.setCell ⟨X,0,none⟩ (.slice none 0 0)).cell? ⟨X,0,none⟩=some (.slice none 0 0):=(HX1.out.set 0 _).cell 0
   refine bodyPost_ret (v:=.tuple #[.agg #[.slice none 0 0],.int .i64 (at_:Int),.int .i64 (e:Int)]) (by simp[results,Tryz.results16,go_sem,hz0]) rfl ?_
   refine ParseQ.nil (by unfold zAT;rw[HL.out];exact if_pos HE.out) ?_
   have h1:Below w.heap.size w w1:=HBW.out.trans (HB1.out.mono hWs)
   exact h1.trans (zAf (zR w1 X 0 _) (by rw[HRw.out];exact Nat.le_refl _) (Nat.le_of_lt HX1.out.lt))
end Go.Proofs.YtlohaclgbfhijaaGreatDoor
