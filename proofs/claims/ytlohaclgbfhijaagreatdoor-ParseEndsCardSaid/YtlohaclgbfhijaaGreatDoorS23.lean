/- Joined for the claim ParseEnds: the parser, the lexer and the trees as they are walked, made short by a program of mine. -/
import Derived.Test.YtlohaclgbfhijaaGreatDoorS22
import Derived.Test.YtlohaclgbfhijaaGreatDoorS09
import Derived.Test.YtlohaclgbfhijaaGreatDoorS10
import Derived.Test.YtlohaclgbfhijaaGreatDoorS07
import Derived.Test.YtlohaclgbfhijaaGreatDoorS21
set_option maxHeartbeats 16000000
set_option maxRecDepth 1000000
namespace Go.Proofs.YtlohaclgbfhijaaGreatDoor
def s0:Ps:=⟨0,0,0⟩
theorem zNQ {L:List Tok} (hL:Lst L) {s:Ps} (hs:s.k≤L.length - 1) (h:isT (zM L s.k) [59]=true) (hk:(zM L s.k).kind=5):zI L .item s=(trK 2 [],stepP s):=by
 have h1:zI L .statement s=(trK 2 [],stepP s):=by
  rw[zt hL ⟨hs,trivial⟩]
  unfold zE
  dsimp only
  rw[if_neg (by omega),if_neg (by omega),if_pos (show onP L [59] s=true from h)]
 rw[zt hL ⟨hs,trivial⟩]
 unfold zE
 dsimp only
 rw[if_neg (by unfold onP;rw[zCU h (by decide),zCU h (by decide)];decide),if_neg (by unfold onP;rw[zCU h (by decide)];decide)]
 exact h1
theorem zFt {t:Tok} (h:t.kind=0) (w:List UInt8):isT t w=false:=by
 cases hh:isT t w with
 | false=>rfl
 | true=>exact absurd h (zCu hh)
section
variable {L1 L2 L3:List Tok}
theorem zPg (h2:Lst L2) (h3:Lst L3) {d:Nat} (hlen:L3.length=d+L2.length) (hB:∀i,i < L2.length - 1→zMz (zM L2 i) (zM L3 (i+d))∧(0 < i→(zM L2 i).nl=(zM L3 (i+d)).nl)):Sim L2 L3 0 d (L2.length - 1) true:=by
 have hp:=h2.pos
 have e:L2.length - 1+d=L3.length - 1:=by omega
 refine⟨h2,h3,Nat.le_refl _,by omega,fun i _ hi=>(hB i hi).1,fun i h0 hi=>(hB i hi).2 h0,zPY (by rw[e];exact h3.last),fun h=>?_,fun _=>.inr ⟨by rw[e];exact zFt h3.last _,.inr (.inl (by rw[e];exact h3.last))⟩⟩
 rw[e,zFt h3.last]at h
 cases h
theorem zNR (h2:Lst L2) (h3:Lst L3) {d:Nat} (hlen:L3.length=d+L2.length) (hB:∀i,i < L2.length - 1→zMz (zM L2 i) (zM L3 (i+d))∧(0 < i→(zM L2 i).nl=(zM L3 (i+d)).nl)) {items:List Tr} {e:Ps} (p:Path L2 s0 items e) (he:e.k=L2.length - 1) (hb:e.bad=0):Path L3 (shP d s0) items (shP d e):=by
 have hp:=h2.pos
 have S:=zPg h2 h3 hlen hB
 rcases zID S rfl p (Nat.zero_le _) ⟨hb,by omega⟩ (Nat.zero_le _)with h | ⟨_,h,_⟩
 · exact h
 · rw[show L2.length - 1+d=L3.length - 1 by omega,zFt h3.last]at h
   cases h
theorem zPh (h1:Lst L1) (h2:Lst L2) (h3:Lst L3) (hlen:L3.length=L1.length+L2.length)
 (hA:∀i,i < L1.length - 1→zMz (zM L1 i) (zM L3 i)∧(0 < i→(zM L1 i).nl=(zM L3 i).nl))
 (hs:isT (zM L3 (L1.length - 1)) [59]=true) (hk:(zM L3 (L1.length - 1)).kind=5)
 (hB:∀i,i < L2.length - 1→zMz (zM L2 i) (zM L3 (i+L1.length))∧(0 < i→(zM L2 i).nl=(zM L3 (i+L1.length)).nl))
 (r1:(zI L1 (.program []) s0).2.bad=0) (r2:(zI L2 (.program []) s0).2.bad=0):
 ∃IA IB more,(zI L1 (.program []) s0).1=trK 1 IA∧(zI L2 (.program []) s0).1=trK 1 IB∧(more=[]∨more=[trK 2 []])∧(zI L3 (.program []) s0).1=trK 1 (IA++more++IB)∧(zI L3 (.program []) s0).2.bad=0:=by
 have hp1:=h1.pos
 have hp2:=h2.pos
 obtain⟨IA,e1,p1,k1,b1,g1⟩:=zGm h1 (L1.length+1) [] s0 (by show L1.length - 0 < _;omega) (Nat.zero_le _) r1
 obtain⟨IB,e2,p2,k2,b2,g2⟩:=zGm h2 (L2.length+1) [] s0 (by show L2.length - 0 < _;omega) (Nat.zero_le _) r2
 have hne:isT (zM L3 (L1.length - 1+0+1)) [101,108,115,101]=false:=by
  rw[show L1.length - 1+0+1=L1.length by omega]
  rcases Nat.eq_zero_or_pos (L2.length - 1)with h0 | h0
  · have:=h3.last
    rw[show L3.length - 1=L1.length by omega]at this
    exact zFt this _
  · have:=zKe (w:=[101,108,115,101]) h2 p2 (Nat.zero_le _) b2 (by rw[k2];show 0≠_;omega) (by decide)
    have h4:=zBN (hB 0 h0).1 [101,108,115,101]
    rw[Nat.zero_add]at h4
    rw[h4]
    exact this
 have S1:Sim L1 L3 0 0 (L1.length - 1) true:=⟨h1,h3,Nat.le_refl _,by omega,fun i _ hi=>(hA i hi).1,fun i h0 hi=>(hA i hi).2 h0,zNP hs hk,fun h=>by
  have h5:=(zBd hs).1
  have h6:=(zBd h).1
  rw[show L1.length - 1+0=L1.length - 1 from rfl,h5]at h6
  exact absurd h6 (by decide),fun _=>.inl ⟨hs,hne⟩⟩
 have f1:e1.far=0:=(p1.adv h1 (Nat.zero_le _)).far b1
 have tail:=zNR h2 h3 (d:=L1.length) (by omega) hB p2 k2 b2
 have est:(⟨L1.length,0,0⟩:Ps)=shP L1.length s0:=by unfold shP s0;simp
 have hend:(zM L3 (shP L1.length e2).k).kind=0:=by
  show(zM L3 (e2.k+L1.length)).kind=0
  rw[k2,show L2.length - 1+L1.length=L3.length - 1 by omega]
  exact h3.last
 have hz:shP 0 s0=s0:=rfl
 have e1eq:e1=⟨L1.length - 1,0,0⟩:=by cases e1;simp only at k1 b1 f1;rw[k1,b1,f1]
 rcases zID S1 rfl p1 (Nat.zero_le _) ⟨b1,by omega⟩ (Nat.zero_le _)with h | ⟨_,_,h⟩
 · rw[hz]at h
   have hse:shP 0 e1=⟨L1.length - 1,0,0⟩:=by rw[e1eq];rfl
   rw[hse]at h
   have hsi:=zNQ h3 (s:=⟨L1.length - 1,0,0⟩) (by show L1.length - 1≤_;omega) hs hk
   have h6:Path L3 ⟨L1.length - 1,0,0⟩ ([trK 2 []]++IB) (shP L1.length e2):=by
    have h7:Path L3 (zI L3 .item ⟨L1.length - 1,0,0⟩).2 IB (shP L1.length e2):=by
     rw[hsi]
     have:stepP ⟨L1.length - 1,0,0⟩=(⟨L1.length,0,0⟩:Ps):=by unfold stepP;simp only[Ps.mk.injEq,and_true];omega
     rw[this,est]
     exact tail
    have h8:=Path.cons (L:=L3) (s:=⟨L1.length - 1,0,0⟩) (by show(zM L3 (L1.length - 1)).kind≠0;omega) h7
    rw[hsi]at h8
    exact h8
   have h9:=(h.app h6).prog h3 (Nat.zero_le _) hend []
   refine⟨IA,IB,[trK 2 []],by rw[g1];rfl,by rw[g2];rfl,.inr rfl,?_,?_⟩
   · rw[h9,List.nil_append,List.append_assoc]
   · rw[h9];exact b2
 · rw[hz]at h
   have hse:stepP (shP 0 e1)=⟨L1.length,0,0⟩:=by rw[e1eq];unfold stepP shP;simp only[Ps.mk.injEq,and_true];omega
   rw[hse,est]at h
   have h9:=(h.app tail).prog h3 (Nat.zero_le _) hend []
   refine⟨IA,IB,[],by rw[g1];rfl,by rw[g2];rfl,.inl rfl,?_,?_⟩
   · rw[h9,List.nil_append,List.append_nil]
   · rw[h9];exact b2
end
def LN (L:List Tok) (s e:Ps):Prop:=e.bad=0→s.k < e.k→isT (zM L (e.k - 1)) [59]=false
section
variable {L:List Tok} {a s e c:Ps}
theorem LN.refl (s:Ps):LN L s s:=fun _ h=>absurd h (Nat.lt_irrefl _)
theorem LN.bad (h:e.bad≠0):LN L s e:=fun hb=>absurd hb h
theorem LN.trans (h:LN L a s) (k:LN L s e) (y:Adv L s e):LN L a e:=fun hb hk=>by
 rcases Nat.lt_or_ge s.k e.k with h1 | h1
 · exact k hb h1
 · have e1:s.k=e.k:=by have:=y.le;omega
   have hb1:s.bad=0:=by
    rcases Nat.eq_zero_or_pos s.bad with hz | hz
    · exact hz
    · exact absurd hb (y.bad (by omega))
   have:=h hb1 (by omega)
   rwa [e1]at this
theorem LN.step (h:isT (zM L s.k) [59]=false):LN L s (stepP s):=fun _ _=>h
theorem LN.on {w:List UInt8} (h:onP L w s=true) (hw:w≠[59]):LN L s (stepP s):=LN.step (zCU h hw)
theorem LN.need {w:List UInt8} (hw:w≠[59]):LN L s (zO L w s):=by
 unfold zO
 split
 · rename_i h;exact LN.on h hw
 · exact LN.bad zv
theorem LN.word {t:List UInt8} (h:(zM L s.k).text=t) (hw:t≠[59]):LN L s (stepP s):=LN.step (by unfold isT;rw[h,decide_eq_false hw];rfl)
end
def Semi (L:List Tok):Prop:=∀i,isT (zM L i) [59]=true→(zM L i).kind=5
section
variable {L:List Tok} {R:Ph→Ps→Tr×Ps} {s:Ps}
theorem Semi.kind (hS:Semi L) {i:Nat} (h:(zM L i).kind≠5):isT (zM L i) [59]=false:=by
 cases hh:isT (zM L i) [59]with
 | false=>rfl
 | true=>exact absurd (hS i hh) h
end
section
variable {L L1 L3:List Tok} {s e:Ps} {y:Tr}
theorem Stop.off (h:Stop (zM L e.k)) {w:List UInt8} (hw:w∈zSa):¬onP L w e=true:=by
 unfold onP
 rw[h.words w hw]
 decide
end
theorem zDC {a:UInt8} {s:List UInt8} {x:UInt16} {r:List UInt16} (h:x≠a.toUInt16):zi (a::s) (x::r)=false:=by
 unfold zi
 rw[List.map_cons,List.isPrefixOf]
 rw[show(a.toUInt16==x)=false from beq_eq_false_iff_ne.2 (fun e=>h e.symm),Bool.false_and]
theorem zGo:∀b∈zDk++zCq,zQL b=true:=by decide+kernel
theorem zPi {b:List UInt8} (h:0 < zB2 b):zQL b=true:=by
 unfold zB2 at h
 by_cases h1:b∈zDk
 · exact zGo b (List.mem_append_left _ h1)
 · rw[if_neg h1]at h
   by_cases h2:b∈zCq
   · exact zGo b (List.mem_append_right _ h2)
   · rw[if_neg h2]at h;omega
theorem zNS:∀b∈zBf,zCH (zAg b)=([{zo with kind:=5,text:=b},setAt zo b.length false],0,0)∧zFT b=false∧zB2 b=0:=by decide+kernel
theorem zPj {b:List UInt8} (h:zBK b=1):zCH (zAg b)=([{zo with kind:=5,text:=b},setAt zo b.length false],0,0)∧zFT b=false∧zB2 b=0:=by
 refine zNS b ?_
 unfold zBK at h
 by_cases h1:b∈zBf
 · exact h1
 · rw[if_neg h1]at h
   split at h<;>cases h
def zBO (j:Nat) (t:Tok):Tok:={t with pos:=t.pos+j}
def zKz (j:Nat) (q:List Tok×Nat×Nat):List Tok×Nat×Nat:=(q.1.map (zBO j),if q.2.2≠0 then q.2.1+j else q.2.1,q.2.2)
theorem zGp (j:Nat) (t:Tok) (q:List Tok×Nat×Nat):zKz j (zBZ t q)=zBZ (zBO j t) (zKz j q):=by
 unfold zKz zBZ
 by_cases h:q.2.2≠0
 · simp[h]
 · simp[Decidable.not_not.1 h]
theorem zPk {l:List UInt16} (h:∀x r,l=x::r→x.toNat≠35):zAo true l=zAo false l:=by
 cases l with
 | nil=>rfl
 | cons x r=>
  have hx:=h x r rfl
  rw[zAY,zAY]
  have hs:zBY true (x::r)=zBY false (x::r):=by
   unfold zBY
   rw[zDC (fun e=>hx (by rw[e];rfl))]
   rfl
  rw[hs]
theorem zNT {k m:Nat} (hk:1≤k) (hm:1≤m) (l:List UInt16):zAA k l=zAA m l:=by
 unfold zAA
 rw[show(k+(zd l).1==0)=false from beq_eq_false_iff_ne.2 (by omega),show(m+(zd l).1==0)=false from beq_eq_false_iff_ne.2 (by omega)]
theorem zKf {k:Nat} (hk:1≤k) {l:List UInt16} (h:∀x r,l=x::r→x.toNat≠35):zAA 0 l=zAA k l:=by
 unfold zAA
 by_cases hp:(zd l).1=0
 · rw[hp,List.drop_zero,show(0+0==0)=true from rfl,show(k+0==0)=false from beq_eq_false_iff_ne.2 (by omega)]
   exact zPk h
 · rw[show(k+(zd l).1==0)=false from beq_eq_false_iff_ne.2 (by omega),show(0+(zd l).1==0)=false from beq_eq_false_iff_ne.2 (by omega)]
theorem zCQ (t:Tok) (k j:Nat) (nl:Bool):setAt t (k+j) nl=zBO j (setAt t k nl):=rfl
theorem zKg (j:Nat):∀(f k:Nat) (l:List UInt16),1≤k→zCr f (k+j) l=zKz j (zCr f k l):=by
 intro f
 induction f with
 | zero=>intro k l _;rfl
 | succ f ih=>
  intro k l hk
  rw[zCr,zCr]
  have ht:=zNT (k:=k+j) (m:=k) (by omega) hk l
  rw[ht]
  by_cases h1:(zd l).2.2≠0
  · rw[if_pos h1,if_pos h1]
    simp only[zKz,List.map_nil,if_pos h1,Prod.mk.injEq,and_true,true_and]
    omega
  rw[if_neg h1,if_neg h1]
  by_cases h2:l.drop (zd l).1=[]
  · rw[if_pos h2,if_pos h2,show k+j+(zd l).1=k+(zd l).1+j by omega,zCQ]
    rfl
  rw[if_neg h2,if_neg h2]
  by_cases h3:(zAA k l).1≠0
  · rw[if_pos h3,if_pos h3]
    simp only[zKz,List.map_nil,if_pos h3,Prod.mk.injEq,and_true,true_and]
    omega
  rw[if_neg h3,if_neg h3,show k+j+(zd l).1+(zAA k l).2.2=k+(zd l).1+(zAA k l).2.2+j by omega,ih _ _ (by omega),zGp,show k+j+(zd l).1=k+(zd l).1+j by omega,zCQ]
theorem zHX (j:Nat) {l:List UInt16} (h:∀x r,l=x::r→x.toNat≠35):zBb j l=zKz j (zBb 0 l):=by
 by_cases hj:j=0
 · subst hj
   have h0:zBO 0=id:=by funext t;simp[zBO]
   unfold zKz
   rw[h0]
   simp
 unfold zBb
 rw[zCr,zCr]
 have ht:=zKf (k:=j) (by omega) h
 rw[ht]
 by_cases h1:(zd l).2.2≠0
 · rw[if_pos h1,if_pos h1]
   simp only[zKz,List.map_nil,if_pos h1,Prod.mk.injEq,and_true,true_and]
   omega
 rw[if_neg h1,if_neg h1]
 by_cases h2:l.drop (zd l).1=[]
 · rw[if_pos h2,if_pos h2,show j+(zd l).1=0+(zd l).1+j by omega,zCQ]
   rfl
 rw[if_neg h2,if_neg h2]
 by_cases h3:(zAA j l).1≠0
 · rw[if_pos h3,if_pos h3]
   simp only[zKz,List.map_nil,if_pos h3,Prod.mk.injEq,and_true,true_and]
   omega
 have hlen:=zCB (k:=j) (l:=l) (Decidable.not_not.1 h3)
 rw[if_neg h3,if_neg h3,show j+(zd l).1+(zAA j l).2.2=0+(zd l).1+(zAA j l).2.2+j by omega,zKg j _ _ _ (by omega),zGp,show j+(zd l).1=0+(zd l).1+j by omega,zCQ]
theorem zPl:∀(f:Nat) (l:List UInt16) (nl:Bool),zBe f l nl=((zBe f l false).1,if(zBe f l false).2.2≠0 then false else nl || (zBe f l false).2.1,(zBe f l false).2.2):=by
 intro f
 induction f with
 | zero=>intro l nl;simp[zBe]
 | succ f ih=>
  intro l nl
  cases l with
  | nil=>simp[zBe]
  | cons x r=>
   rw[zBe,zBe]
   by_cases h1:(zFQ x || zw x)=true
   · rw[if_pos h1,if_pos h1,ih r (nl || zw x),ih r (false || zw x)]
     simp only[zCG]
     by_cases h2:(zBe f r false).2.2≠0
     · simp[h2]
     · simp[Decidable.not_not.1 h2,Bool.or_assoc]
   rw[if_neg h1,if_neg h1]
   by_cases h2:(zi [47,47] (x::r) || zi [47,42] (x::r))=true
   · rw[if_pos h2,if_pos h2]
     by_cases h3:(zq (x::r)).2.2≠0
     · rw[if_pos h3,if_pos h3]
       simp[h3]
     · rw[if_neg h3,if_neg h3,ih _ (nl || (zq (x::r)).2.1),ih _ (false || (zq (x::r)).2.1)]
       simp only[zCG]
       by_cases h4:(zBe f ((x::r).drop (zq (x::r)).1) false).2.2≠0
       · simp[h4]
       · simp[Decidable.not_not.1 h4,Bool.or_assoc]
   rw[if_neg h2,if_neg h2]
   simp
theorem zIE (l:List UInt16) (nl:Bool):zA4 l nl=((zd l).1,if(zd l).2.2≠0 then false else nl || (zd l).2.1,(zd l).2.2):=zPl _ l nl
def nl0 (q:List Tok×Nat×Nat):List Tok×Nat×Nat:=(match q.1 with | []=>[] | t::r=>{t with nl:=true}::r,q.2)
theorem zPm {t:Tok} {q:List Tok×Nat×Nat}:nl0 (zBZ t q)=zBZ {t with nl:=true} q:=by
 unfold nl0 zBZ
 by_cases h:q.2.2≠0
 · simp[h]
 · simp[Decidable.not_not.1 h]
theorem zNU (k:Nat) (l:List UInt16):zBb k l=if(zd l).2.2≠0 then([],k+(zd l).1,(zd l).2.2)
 else if l.drop (zd l).1=[]then([setAt zo (k+(zd l).1) (zd l).2.1],0,0)
 else if(zAA k l).1≠0 then([],k+(zd l).1,(zAA k l).1)
 else zBZ (setAt (zAA k l).2.1 (k+(zd l).1) (zd l).2.1) (zBb (k+(zd l).1+(zAA k l).2.2) (l.drop ((zd l).1+(zAA k l).2.2))):=by
 by_cases h1:(zd l).2.2≠0
 · rw[if_pos h1,zDY h1]
 · rw[if_neg h1]
   have h1':=Decidable.not_not.1 h1
   by_cases h2:l.drop (zd l).1=[]
   · rw[if_pos h2,zD9 h1' h2]
   · rw[if_neg h2]
     by_cases h3:(zAA k l).1≠0
     · rw[if_pos h3,zEA h1' h2 h3]
     · rw[if_neg h3,zCC h1' h2 (Decidable.not_not.1 h3)]
theorem zGq {k k' j:Nat} {l l':List UInt16} {b:Bool} (hp:(zd l).1=j+(zd l').1) (he:(zd l).2.2=(zd l').2.2) (hn:(zd l').2.2=0→(zd l).2.1=(b || (zd l').2.1)) (hd:∀n,l.drop (j+n)=l'.drop n) (hk:k+j=k') (hz:zAA k l=zAA k' l'):
 zBb k l=if b=true then nl0 (zBb k' l')else zBb k' l':=by
 subst hk
 rw[zNU k l,zNU (k+j) l',hz,hp,he]
 by_cases h1:(zd l').2.2≠0
 · rw[if_pos h1,if_pos h1]
   cases b<;>simp[nl0,Nat.add_assoc]
 rw[if_neg h1,if_neg h1,hd,hn (Decidable.not_not.1 h1)]
 by_cases h2:l'.drop (zd l').1=[]
 · rw[if_pos h2,if_pos h2]
   cases b<;>simp[nl0,setAt,Nat.add_assoc]
 rw[if_neg h2,if_neg h2]
 by_cases h3:(zAA (k+j) l').1≠0
 · rw[if_pos h3,if_pos h3]
   cases b<;>simp[nl0,Nat.add_assoc]
 rw[if_neg h3,if_neg h3,←Nat.add_assoc k j,Nat.add_assoc j,hd]
 cases b
 · simp
 · rw[if_pos rfl,zPm]
   simp[setAt]
theorem zKh {x:UInt16} {r:List UInt16} (h:(zFQ x || zw x)=true):zd (x::r)=(1+(zd r).1,if(zd r).2.2≠0 then false else zw x || (zd r).2.1,(zd r).2.2):=by
 show zA4 (x::r) false=_
 rw[zCK h,zIE]
 rfl
theorem zFJ {x:UInt16} {r:List UInt16} (h:(zFQ x || zw x)=true) (k:Nat):zBb k (x::r)=if zw x=true then nl0 (zBb (k+1) r)else zBb (k+1) r:=by
 have hp:=zKh (r:=r) h
 refine zGq (j:=1) (by rw[hp]) (by rw[hp]) (fun h0=>by rw[hp];simp[h0]) (fun n=>by rw[Nat.add_comm];rfl) rfl ?_
 unfold zAA
 rw[hp]
 simp only
 rw[show k+(1+(zd r).1)=k+1+(zd r).1 by omega,Nat.add_comm 1]
 rfl
theorem zNV {u:List UInt16} (hl:u.length≤4096) (h:(zCH u).2.2=0):(zCH u).2.1=0:=by
 rw[zBF (by omega)]at h⊢
 exact zEZ _ _ _ h
theorem zPn {u:List UInt16} (hl:u.length≤4096) (h:(zCH u).2.2≠0):(zCH u).1=[]:=by
 rw[zBF (by omega)]at h⊢
 exact zFd _ _ _ h
theorem zNW:∀(f k:Nat) (l:List UInt16),(zCr f k l).1.length≤f:=by
 intro f
 induction f with
 | zero=>intro k l;simp[zCr]
 | succ f ih=>
  intro k l
  rw[zCr]
  split
  · simp
  · split
    · simp
    · split
      · simp
      · unfold zBZ
        split
        · simp
        · have:=ih (k+(zd l).1+(zAA k l).2.2) (l.drop ((zd l).1+(zAA k l).2.2))
          simp only[List.length_cons]
          omega
theorem zGr {u:List UInt16} (hl:u.length≤4096):(zCH u).1.length≤u.length+1:=by
 rw[zBF (by omega)]
 exact zNW _ _ _
theorem zHY:∀(f v:Nat),(zAn f v).length≤f:=by
 intro f
 induction f with
 | zero=>intro v;simp[zAn]
 | succ f ih=>
  intro v
  rw[zAn]
  split
  · simp
  · have:=ih (v / 4294967296)
    simp only[List.length_cons]
    omega
theorem zKi (q:UInt16):∀(f:Nat) (l acc:List UInt16),(zCX q f l acc).2.1.length≤acc.length+l.length:=by
 intro f
 induction f with
 | zero=>intro l acc;simp[zCX]
 | succ f ih=>
  intro l acc
  cases l with
  | nil=>simp[zCX]
  | cons x r=>
   rw[zCX]
   split
   · simp
   · split
     · simp
     · split
       · split
         · simp
         · rename_i h4
           have h5:=zDn (Decidable.not_not.1 h4)
           have:=ih (r.drop (zC6 r).2.2) (acc++[(zC6 r).2.1])
           rw[List.length_drop,List.length_append]at this
           simp only[List.length_cons,List.length_nil]at this⊢
           omega
       · have:=ih r (acc++[x])
         rw[List.length_append]at this
         simp only[List.length_cons,List.length_nil]at this⊢
         omega
structure SmallT (n:Nat) (t:Tok):Prop where
 str:t.str.length≤n
 mag:t.mag.length≤9
 text:t.text.length≤n
theorem SmallT.no (n:Nat):SmallT n zo:=⟨by simp[zo],by simp[zo],by simp[zo]⟩
theorem zHZ (z:Bool) (l:List UInt16):SmallT l.length (zAo z l).2.1:=by
 cases l with
 | nil=>exact SmallT.no _
 | cons x r=>
  rw[zAY]
  split
  · unfold zDD
    split
    · exact SmallT.no _
    · refine⟨by simp[zo],by simp[zo],?_⟩
      have:=zAy zA0 (x::r)
      simpa [asc]using this
  · split
    · unfold zBg zBq
      split
      · exact SmallT.no _
      · split
        · unfold zGw
          split
          · exact SmallT.no _
          · split
            · exact SmallT.no _
            · exact⟨by simp[zo],zHY 9 _,by simp[zo]⟩
        · split
          · exact SmallT.no _
          · split
            · exact SmallT.no _
            · split
              · exact SmallT.no _
              · exact⟨by simp[zo],by simp[zo],by simp[zo]⟩
    · split
      · unfold zAr
        split
        · exact SmallT.no _
        · refine⟨?_,by simp[zo],by simp[zo]⟩
          have:=zKi x (r.length+1) r []
          simp only[List.length_nil,List.length_cons]at this⊢
          unfold zIN
          omega
      · split
        · exact SmallT.no _
        · unfold zBY
          split
          · split
            · exact SmallT.no _
            · refine⟨by simp[zo],by simp[zo],?_⟩
              simp only[asc,List.length_map]
              exact List.length_take_le' _ _
          · split<;>exact SmallT.no _
theorem SmallT.set {n:Nat} {t:Tok} (h:SmallT n t) (k:Nat) (nl:Bool):SmallT n (setAt t k nl):=⟨h.str,h.mag,h.text⟩
theorem SmallT.more {n m:Nat} {t:Tok} (h:SmallT n t) (hn:n≤m):SmallT m t:=⟨by have:=h.str;omega,h.mag,by have:=h.text;omega⟩
theorem zKj:∀(f k:Nat) (l:List UInt16),∀t∈(zCr f k l).1,SmallT l.length t∧k≤t.pos∧t.pos≤k+l.length:=by
 intro f
 induction f with
 | zero=>intro k l t ht;simp[zCr]at ht
 | succ f ih=>
  intro k l t
  rw[zCr]
  by_cases h1:(zd l).2.2≠0
  · rw[if_pos h1];intro h;simp at h
  rw[if_neg h1]
  have hpl:=zEL l
  by_cases h2:l.drop (zd l).1=[]
  · rw[if_pos h2]
    intro h
    simp only[List.mem_singleton]at h
    subst h
    exact⟨(SmallT.no _).set _ _,by simp[setAt],by simp[setAt];omega⟩
  rw[if_neg h2]
  by_cases h3:(zAA k l).1≠0
  · rw[if_pos h3];intro h;simp at h
  rw[if_neg h3]
  have hlen:=zCB (k:=k) (l:=l) (Decidable.not_not.1 h3)
  unfold zBZ
  split
  · intro h;simp at h
  · intro h
    rcases List.mem_cons.1 h with h | h
    · subst h
      refine⟨SmallT.set ?_ _ _,by simp[setAt],by simp[setAt];omega⟩
      have:=zHZ (k+(zd l).1==0) (l.drop (zd l).1)
      rw[List.length_drop]at this
      exact this.more (by omega)
    · have:=ih _ _ t h
      rw[List.length_drop]at this
      exact⟨this.1.more (by omega),by omega,by omega⟩
theorem zKk {u:List UInt16} (hl:u.length≤4096):∀t∈(zCH u).1,SmallT u.length t∧t.pos≤u.length:=by
 rw[zBF (by omega)]
 intro t ht
 have:=zKj _ _ _ t ht
 exact⟨this.1,by omega⟩
def zSE (t:Tok):Prop:=t.kind=1∨t.kind=5∨t.kind=6
structure TokOk (l:List UInt16) (t:Tok) (n:Nat):Prop where
 kind:t.kind≠0
 txt:zSE t→t.text.length=n∧l.take n=zAg t.text∧(t.kind=1↔zFT t.text=true)∧(t.kind=5↔zBK t.text=1)∧(t.kind=6↔0 < zB2 t.text)
theorem zQW {x:UInt16} (h:zA0 x=true):x.toNat < 128:=by
 unfold zA0 zBI zQ at h
 simp only[Bool.or_eq_true,Bool.and_eq_true,decide_eq_true_eq,beq_iff_eq]at h
 omega
theorem zIF {d:List UInt16} (h:∀x∈d,x.toNat < 256):zAg (asc d)=d:=by
 unfold zAg asc
 rw[List.map_map]
 conv=>rhs;rw[←List.map_id d]
 refine List.map_congr_left fun x hx=>?_
 have h1:=h x hx
 refine UInt16.toNat_inj.1 ?_
 show x.toNat % 256=x.toNat
 omega
theorem zFK:∀b∈zBf++zBU,∀c∈b.head?,zBI c.toUInt16=false:=by decide+kernel
theorem zNX {c:UInt8} {r:List UInt8} (h:zBI c.toUInt16=true):zBK (c::r)=0:=by
 unfold zBK
 rw[if_neg,if_neg]
 · intro hm
   have:=zFK _ (List.mem_append_right _ hm) c rfl
   rw[h]at this;cases this
 · intro hm
   have:=zFK _ (List.mem_append_left _ hm) c rfl
   rw[h]at this;cases this
theorem zKl {p:UInt16→Bool} (l:List UInt16):l.take (l.takeWhile p).length=l.takeWhile p:=by
 conv=>lhs;arg 2;rw[←List.takeWhile_append_dropWhile (p:=p) (l:=l)]
 rw[List.take_left]
theorem zPo {x:UInt16} {r:List UInt16} (hx:zBI x=true) (h:(zDD (x::r)).1=0):TokOk (x::r) (zDD (x::r)).2.1 (zDD (x::r)).2.2:=by
 unfold zDD at h⊢
 by_cases h1:zi [92] ((x::r).drop ((x::r).takeWhile zA0).length)=true
 · rw[if_pos h1]at h;cases h
 · rw[if_neg h1]
   obtain⟨d,hd⟩:∃d,(x::r).takeWhile zA0=d:=⟨_,rfl⟩
   have htk:=zKl (p:=zA0) (x::r)
   have hall:∀y∈d,zA0 y=true:=by rw[←hd];exact List.all_eq_true.1 List.all_takeWhile
   have hd0:d=x::r.takeWhile zA0:=by rw[←hd,List.takeWhile_cons_of_pos (by unfold zA0;rw[hx];rfl)]
   rw[hd]at htk⊢
   have hasc:zAg (asc d)=d:=zIF fun y hy=>by have:=zQW (hall y hy);omega
   have hxx:x.toUInt8.toUInt16=x:=by
    have h2:(zAg (asc d))[0]? =d[0]? :=by rw[hasc]
    rw[hd0]at h2
    simpa [zAg,asc]using h2
   have hlet:zBI x.toUInt8.toUInt16=true:=by rw[hxx];exact hx
   have hrun:zQL (asc d)=true:=by
    rw[hd0]
    show(zBI x.toUInt8.toUInt16&&((r.takeWhile zA0).map (·.toUInt8)).all fun c=>zA0 c.toUInt16)=true
    rw[hlet,Bool.true_and,List.all_eq_true]
    intro c hc
    obtain⟨y,hy,rfl⟩:=List.mem_map.1 hc
    have hy1:zA0 y=true:=hall y (by rw[hd0];simp[hy])
    have hy2:=zQW hy1
    have:y.toUInt8.toUInt16=y:=by
     refine UInt16.toNat_inj.1 ?_
     show y.toNat % 256=y.toNat
     omega
    rw[this];exact hy1
   have hsg:zBK (asc d)=0:=by rw[hd0];exact zNX hlet
   refine⟨?_,fun _=>⟨by simp[asc],by rw[htk,hasc],?_,?_,?_⟩⟩
   · simp only
     split<;>simp
   · unfold zFT
     rw[hrun,Bool.true_and,beq_iff_eq]
     by_cases hw:0 < zB2 (asc d)
     · simp only[hw,if_true];constructor
       · intro h;cases h
       · intro h;omega
     · simp only[hw,if_false,true_iff];omega
   · rw[hsg]
     by_cases hw:0 < zB2 (asc d)<;>simp[hw]
   · by_cases hw:0 < zB2 (asc d)<;>simp[hw]
theorem zPp {z:Bool} {l:List UInt16} (h:(zBY z l).1=0):TokOk l (zBY z l).2.1 (zBY z l).2.2:=by
 unfold zBY at h⊢
 cases hs:zAs l 4 with
 | none=>
  rw[hs]at h
  simp only at h
  split at h<;>cases h
 | some n=>
  have h5:=zDo hs
  have h6:=zDp h5.2.2
  rw[hs]at h
  simp only at h⊢
  by_cases h2:zAS l n=2
  · rw[if_pos h2]at h;cases h
  · rw[if_neg h2]
    have h7:=h5.2.2
    have h8:zAS l n=zBK (asc (l.take n))∧(l.take n).all (fun x=>decide (x.toNat≤127))=true:=by
     unfold zAS at h7⊢
     split at h7
     · rename_i h9
       rw[if_pos h9]
       simp only[Bool.and_eq_true]at h9
       exact⟨rfl,h9.1.2⟩
     · exact absurd rfl h7
    have h1:zBK (asc (l.take n))=1:=by
     have:=zMN (asc (l.take n))
     rw[h8.1]at h2 h7
     omega
    obtain⟨_,hn,hw⟩:=zPj h1
    refine⟨by simp,fun _=>⟨by simp[asc];omega,(zIF fun y hy=>by have:=List.all_eq_true.1 h8.2 y hy;simp at this;omega).symm,?_,?_,?_⟩⟩
    · simp only;rw[hn];simp
    · simp only;rw[h1];simp
    · simp only;rw[hw];simp
theorem zIG {l:List UInt16} {t:Tok} {n:Nat} (h:t.kind=2∨t.kind=3∨t.kind=4):TokOk l t n:=by
 refine⟨by omega,fun hx=>?_⟩
 unfold zSE at hx
 omega
theorem zIH {z:Bool} {l:List UInt16} (h:(zAo z l).1=0):TokOk l (zAo z l).2.1 (zAo z l).2.2:=by
 cases l with
 | nil=>cases h
 | cons x r=>
  rw[zAY]at h⊢
  by_cases c1:zBI x=true
  · rw[if_pos c1]at h⊢;exact zPo c1 h
  rw[if_neg c1]at h⊢
  by_cases c2:zQ x=true
  · rw[if_pos c2]at h⊢
    refine zIG ?_
    unfold zBg zBq at h⊢
    split at h
    · cases h
    · rename_i d1
      rw[if_neg d1]
      split at h
      · rename_i d2
        rw[if_pos d2]
        unfold zGw at h⊢
        split at h
        · cases h
        · rename_i d3
          rw[if_neg d3]
          split at h
          · cases h
          · rename_i d4;rw[if_neg d4];simp
      · rename_i d2
        rw[if_neg d2]
        split at h
        · cases h
        · rename_i d3
          rw[if_neg d3]
          split at h
          · cases h
          · rename_i d4
            rw[if_neg d4]
            split at h
            · cases h
            · rename_i d5;rw[if_neg d5];simp
  rw[if_neg c2]at h⊢
  by_cases c3:(x.toNat==39 || x.toNat==34)=true
  · rw[if_pos c3]at h⊢
    refine zIG ?_
    unfold zAr at h⊢
    split at h
    · rename_i d1;exact absurd h d1
    · rename_i d1;rw[if_neg d1];simp
  rw[if_neg c3]at h⊢
  by_cases c4:(x.toNat==46&&zAx 0 zQ r)=true
  · rw[if_pos c4]at h;cases h
  rw[if_neg c4]at h⊢
  exact zPp h
def zPq (u:List UInt16):Nat→List Tok→Prop
 | _,[]=>False
 | e,t::r=>e≤t.pos∧((r=[]∧t.kind=0∧t.pos=u.length)∨(r≠[]∧∃n,1≤n∧t.pos+n≤u.length∧TokOk (u.drop t.pos) t n∧zPq u (t.pos+n) r))
theorem zKm (u:List UInt16):∀(m k:Nat),u.length - k < m→k≤u.length→(zBb k (u.drop k)).2.2=0→zPq u k (zBb k (u.drop k)).1:=by
 intro m
 induction m with
 | zero=>intro k h;omega
 | succ m ih=>
  intro k hm hk h
  have hpe:(zd (u.drop k)).2.2=0:=by
   by_cases h1:(zd (u.drop k)).2.2≠0
   · rw[zDY h1]at h;exact absurd h h1
   · exact Decidable.not_not.1 h1
  have hpl:=zEL (u.drop k)
  rw[List.length_drop]at hpl
  by_cases h2:(u.drop k).drop (zd (u.drop k)).1=[]
  · have h3:(zd (u.drop k)).1=u.length - k:=by
     have:=congrArg List.length h2
     rw[List.length_drop,List.length_drop]at this
     simp only[List.length_nil]at this
     omega
    rw[zD9 hpe h2]
    refine⟨by simp[setAt],.inl ⟨rfl,rfl,?_⟩⟩
    simp only[setAt]
    omega
  · have hte:(zAA k (u.drop k)).1=0:=by
     by_cases h3:(zAA k (u.drop k)).1≠0
     · rw[zEA hpe h2 h3]at h;exact absurd h h3
     · exact Decidable.not_not.1 h3
    have hlen:=zCB hte
    rw[List.length_drop]at hlen
    have hmo:=zCC hpe h2 hte
    have hok:TokOk ((u.drop k).drop (zd (u.drop k)).1) (zAA k (u.drop k)).2.1 (zAA k (u.drop k)).2.2:=zIH hte
    rw[List.drop_drop]at hmo
    rw[hmo]at h⊢
    have h4:(zBb (k+(zd (u.drop k)).1+(zAA k (u.drop k)).2.2) (u.drop (k+((zd (u.drop k)).1+(zAA k (u.drop k)).2.2)))).2.2=0:=by
     unfold zBZ at h
     by_cases h5:(zBb (k+(zd (u.drop k)).1+(zAA k (u.drop k)).2.2) (u.drop (k+((zd (u.drop k)).1+(zAA k (u.drop k)).2.2)))).2.2≠0
     · rw[if_pos h5]at h;exact absurd h h5
     · exact Decidable.not_not.1 h5
    rw[show k+((zd (u.drop k)).1+(zAA k (u.drop k)).2.2)=k+(zd (u.drop k)).1+(zAA k (u.drop k)).2.2 by omega]at h4⊢
    have hc:=ih (k+(zd (u.drop k)).1+(zAA k (u.drop k)).2.2) (by omega) (by omega) h4
    unfold zBZ
    rw[if_neg (by rw[h4];simp)]
    refine⟨by simp[setAt],.inr ⟨fun e=>by rw[e]at hc;exact hc,(zAA k (u.drop k)).2.2,hlen.1,by simp only[setAt];omega,?_,hc⟩⟩
    rw[List.drop_drop]at hok
    exact⟨hok.kind,hok.txt⟩
theorem zNY {u:List UInt16} {ts:List Tok} (hl:u.length≤4096) (hq:zCH u=(ts,0,0)):zPq u 0 ts:=by
 rw[zBF (by omega)]at hq
 have:=zKm u (u.length+1) 0 (by omega) (Nat.zero_le _) (by rw[List.drop_zero,hq])
 rwa [List.drop_zero,hq]at this
section
variable {x:UInt16} {v:List UInt16}
theorem zDe {p:UInt16→Bool} (hp:p x=false) (l:List UInt16):(l++x::v).takeWhile p=l.takeWhile p:=by
 induction l with
 | nil=>rw[List.nil_append,List.takeWhile_cons_of_neg (by rw[hp];simp)];rfl
 | cons c r ih=>
  rw[List.cons_append]
  by_cases h:p c=true
  · rw[List.takeWhile_cons_of_pos h,List.takeWhile_cons_of_pos h,ih]
  · rw[List.takeWhile_cons_of_neg h,List.takeWhile_cons_of_neg h]
theorem zCR {k:Nat} {p:UInt16→Bool} (hp:p x=false) {l:List UInt16} (hk:k≤l.length):zAx k p (l++x::v)=zAx k p l:=by
 unfold zAx
 by_cases h:k < l.length
 · rw[List.getElem?_append_left h]
 · obtain rfl:k=l.length:=by omega
   rw[List.getElem?_append_right (Nat.le_refl _),Nat.sub_self,List.getElem?_eq_none (Nat.le_refl _)]
   simp[hp]
theorem zFL (c:UInt8) (y:UInt16) (s:List UInt16):zi [c] (y::s)=(c.toUInt16==y):=by simp[zi,List.isPrefixOf]
theorem zDK {c:UInt8} (hc:x≠c.toUInt16) (l:List UInt16):zi [c] (l++x::v)=zi [c] l:=by
 cases l with
 | nil=>rw[List.nil_append,zDC hc];rfl
 | cons y r=>rw[List.cons_append,zFL,zFL]
theorem zBT {a c:UInt8} (hc:x≠c.toUInt16) (y:UInt16) (r:List UInt16):zi [a,c] (y::r++x::v)=zi [a,c] (y::r):=by
 cases r with
 | nil=>
  simp only[zi,List.map_cons,List.map_nil,List.cons_append,List.nil_append,List.isPrefixOf]
  rw[show(c.toUInt16==x)=false from beq_eq_false_iff_ne.2 (fun e=>hc e.symm)]
  simp
 | cons z s=>simp[zi,List.isPrefixOf]
theorem zNZ (hx:x=10∨x=32) (l:List UInt16):zDD (l++x::v)=zDD l:=by
 have h1:zA0 x=false:=by rcases hx with rfl | rfl<;>decide
 have h2:x≠(92:UInt8).toUInt16:=by rcases hx with rfl | rfl<;>decide
 unfold zDD
 rw[zDe h1,List.drop_append_of_le_length (zAy _ _),zDK h2]
theorem zPr (hx:x=10∨x=32) (d r:List UInt16):zBq d (r++x::v)=zBq d r:=by
 have h1:x≠(110:UInt8).toUInt16:=by rcases hx with rfl | rfl<;>decide
 have h2:∀z,zu z x=false:=by intro z;rcases hx with rfl | rfl<;>cases z<;>decide
 have h3:zBI x=false:=by rcases hx with rfl | rfl<;>decide
 have h4:zQ x=false:=by rcases hx with rfl | rfl<;>decide
 unfold zBq
 rw[zDK h1,zCR (h2 _) (Nat.zero_le _),zCR h3 (Nat.zero_le _)]
 cases r with
 | nil=>rfl
 | cons y s=>
  have hb:∀a b,zGw a b ((y::s++x::v).drop 1)=zGw a b ((y::s).drop 1):=by
   intro a b
   unfold zGw
   simp only[List.cons_append,List.drop_succ_cons,List.drop_zero]
   rw[zCR h3 (Nat.zero_le _),zCR h4 (Nat.zero_le _)]
  rw[hb]
theorem zGs (hx:x=10∨x=32) (l:List UInt16):zBg (l++x::v)=zBg l:=by
 have h1:zQ x=false:=by rcases hx with rfl | rfl<;>decide
 unfold zBg
 rw[zDe h1,List.drop_append_of_le_length (zAy _ _),zPr hx]
theorem zGt {n:Nat} {l:List UInt16} (h:(zBr n l).1=0) (y:List UInt16):zBr n (l++y)=zBr n l:=by
 have hl:=zHo h
 unfold zBr
 rw[List.take_append_of_le_length hl.2,decide_eq_true hl.2,decide_eq_true (by rw[List.length_append];omega)]
theorem zPs (hx:x=10∨x=32) {l:List UInt16} (h:(zC6 l).1=0):zC6 (l++x::v)=zC6 l:=by
 have h1:zQ x=false:=by rcases hx with rfl | rfl<;>decide
 have h2:x≠(123:UInt8).toUInt16:=by rcases hx with rfl | rfl<;>decide
 cases l with
 | nil=>cases h
 | cons c r=>
  rw[List.cons_append,zDW,zDW]
  rw[zDW]at h
  by_cases hs:(zBs c).isSome=true
  · rw[if_pos hs,if_pos hs]
  · rw[if_neg hs]at h⊢
    rw[if_neg hs]
    unfold zQX at h⊢
    rw[zCR h1 (Nat.zero_le _),zDK h2]
    by_cases c1:(c.toNat==48&& !zAx 0 zQ r)=true
    · rw[if_pos c1,if_pos c1]
    rw[if_neg c1]at h⊢
    rw[if_neg c1]
    by_cases c2:zQ c=true
    · rw[if_pos c2,if_pos c2]
    rw[if_neg c2]at h⊢
    rw[if_neg c2]
    by_cases c3:(zw c || zFR c || (c.toNat==117&&zi [123] r))=true
    · rw[if_pos c3,if_pos c3]
    rw[if_neg c3]at h⊢
    rw[if_neg c3]
    have hm:∀n,(more 1 (zBr n r)).1=0→(zBr n r).1=0:=by
     intro n hn
     unfold more at hn
     by_cases h0:(zBr n r).1=0
     · exact h0
     · rw[if_neg h0]at hn;exact hn
    by_cases c4:c.toNat=120
    · rw[if_pos c4]at h⊢
      rw[if_pos c4,zGt (hm _ h)]
    rw[if_neg c4]at h⊢
    rw[if_neg c4]
    by_cases c5:c.toNat=117
    · rw[if_pos c5]at h⊢
      rw[if_pos c5,zGt (hm _ h)]
    rw[if_neg c5,if_neg c5]
theorem zPt (hx:x=10∨x=32) (q:UInt16):∀(f:Nat) (l acc:List UInt16),(zCX q f l acc).1=0→zCX q f (l++x::v) acc=zCX q f l acc:=by
 intro f
 induction f with
 | zero=>intro l acc h;cases h
 | succ f ih=>
  intro l acc
  cases l with
  | nil=>intro h;cases h
  | cons c r=>
   rw[List.cons_append,zCX,zCX]
   by_cases h1:zw c=true
   · rw[if_pos h1];intro h;cases h
   rw[if_neg h1,if_neg h1]
   by_cases h2:c=q
   · rw[if_pos h2,if_pos h2];intro _;rfl
   rw[if_neg h2,if_neg h2]
   by_cases h3:c.toNat=92
   · rw[if_pos h3,if_pos h3]
     by_cases h4:(zC6 r).1≠0
     · rw[if_pos h4];intro h;exact absurd h h4
     · have h5:=Decidable.not_not.1 h4
       rw[if_neg h4,zPs hx h5,if_neg h4]
       intro h
       have h6:=zDn h5
       rw[List.drop_append_of_le_length h6.2,ih _ _ h]
   · rw[if_neg h3,if_neg h3]
     intro h
     rw[ih _ _ h]
theorem zNa (q:UInt16):∀(f g:Nat) (l acc:List UInt16),f≤g→(zCX q f l acc).1=0→zCX q g l acc=zCX q f l acc:=by
 intro f
 induction f with
 | zero=>intro g l acc _ h;cases h
 | succ f ih=>
  intro g l acc hg
  obtain⟨g,rfl⟩:∃m,g=m+1:=⟨g - 1,by omega⟩
  cases l with
  | nil=>intro h;cases h
  | cons c r=>
   rw[zCX,zCX]
   by_cases h1:zw c=true
   · rw[if_pos h1];intro h;cases h
   rw[if_neg h1,if_neg h1]
   by_cases h2:c=q
   · rw[if_pos h2,if_pos h2];intro _;rfl
   rw[if_neg h2,if_neg h2]
   by_cases h3:c.toNat=92
   · rw[if_pos h3,if_pos h3]
     by_cases h4:(zC6 r).1≠0
     · rw[if_pos h4];intro h;exact absurd h h4
     · rw[if_neg h4,if_neg h4]
       intro h
       rw[ih g _ _ (by omega) h]
   · rw[if_neg h3,if_neg h3]
     intro h
     rw[ih g _ _ (by omega) h]
theorem zHa (hx:x=10∨x=32) {q:UInt16} {l:List UInt16} (h:(zAr q l).1=0):zAr q (l++x::v)=zAr q l:=by
 have h1:(zIN q l).1=0:=by
  unfold zAr at h
  by_cases h2:(zIN q l).1≠0
  · rw[if_pos h2]at h;exact absurd h h2
  · exact Decidable.not_not.1 h2
 have h3:zIN q (l++x::v)=zIN q l:=by
  unfold zIN at h1⊢
  have h4:=zPt (v:=v) hx q _ _ _ h1
  rw[zNa q (l.length+1) ((l++x::v).length+1) _ _ (by rw[List.length_append];omega) (by rw[h4];exact h1),h4]
 unfold zAr
 rw[h3]
theorem zHb:∀b∈zBf++zBU,(10:UInt8)∉b∧(32:UInt8)∉b:=by decide+kernel
theorem zKn {b:List UInt8} (h:(10:UInt8)∈b∨(32:UInt8)∈b):zBK b=0:=by
 unfold zBK
 have hn:∀s,b∈s→s=zBf∨s=zBU→False:=by
  intro s hb hs
  have h2:b∈zBf++zBU:=by rcases hs with rfl | rfl;exact List.mem_append_left _ hb;exact List.mem_append_right _ hb
  obtain⟨h3,h4⟩:=zHb b h2
  rcases h with h | h
  · exact h3 h
  · exact h4 h
 rw[if_neg (fun hb=>hn _ hb (.inl rfl)),if_neg (fun hb=>hn _ hb (.inr rfl))]
theorem zFM (hx:x=10∨x=32) (l:List UInt16) (n:Nat):zAS (l++x::v) n=zAS l n:=by
 have h1:zQ x=false:=by rcases hx with rfl | rfl<;>decide
 by_cases hn:n≤l.length
 · unfold zAS
   rw[List.take_append_of_le_length hn,decide_eq_true hn,decide_eq_true (by rw[List.length_append];omega)]
   by_cases ha:asc (l.take n)=[63,46]
   · have h2:n=2:=by
      have:=congrArg List.length ha
      simp only[asc,List.length_map,List.length_take,List.length_cons,List.length_nil]at this
      omega
     rw[zCR h1 (by omega)]
   · rw[decide_eq_false ha]
     simp
 · have h2:zAS l n=0:=by
    unfold zAS
    rw[decide_eq_false hn]
    simp
   rw[h2]
   unfold zAS
   split
   · refine zKn ?_
     have hm:x∈(l++x::v).take n:=by
      rw[List.take_append]
      refine List.mem_append_right _ ?_
      obtain⟨m,hm⟩:∃m,n - l.length=m+1:=⟨n - l.length - 1,by omega⟩
      rw[hm,List.take_succ_cons]
      simp
     have hm2:x.toUInt8∈asc ((l++x::v).take n):=List.mem_map_of_mem hm
     rcases hx with rfl | rfl
     · exact .inl hm2
     · exact .inr hm2
   · rfl
theorem zNb (hx:x=10∨x=32) (l:List UInt16):∀m,zAs (l++x::v) m=zAs l m:=by
 intro m
 induction m with
 | zero=>rfl
 | succ m ih=>rw[zAs,zAs,zFM hx,ih]
theorem zNc (hx:x=10∨x=32) {z:Bool} {l:List UInt16} (h:(zBY z l).1=0):zBY z (l++x::v)=zBY z l:=by
 unfold zBY at h⊢
 rw[zNb hx]
 cases hs:zAs l 4 with
 | none=>
  rw[hs]at h
  simp only at h
  split at h<;>cases h
 | some n=>
  have h5:=zDo hs
  have h6:=zDp h5.2.2
  simp only
  rw[zFM hx,List.take_append_of_le_length h6]
theorem zKo (hx:x=10∨x=32) {z:Bool} {l:List UInt16} (h:(zAo z l).1=0):zAo z (l++x::v)=zAo z l:=by
 have h1:zQ x=false:=by rcases hx with rfl | rfl<;>decide
 cases l with
 | nil=>cases h
 | cons c r=>
  rw[zAY]at h
  rw[List.cons_append,zAY,zAY,←List.cons_append]
  by_cases c1:zBI c=true
  · rw[if_pos c1,if_pos c1,zNZ hx]
  rw[if_neg c1]at h⊢
  rw[if_neg c1]
  by_cases c2:zQ c=true
  · rw[if_pos c2,if_pos c2,zGs hx]
  rw[if_neg c2]at h⊢
  rw[if_neg c2]
  by_cases c3:(c.toNat==39 || c.toNat==34)=true
  · rw[if_pos c3]at h⊢
    rw[if_pos c3,zHa hx h]
  rw[if_neg c3]at h⊢
  rw[if_neg c3,zCR h1 (Nat.zero_le _)]
  by_cases c4:(c.toNat==46&&zAx 0 zQ r)=true
  · rw[if_pos c4,if_pos c4]
  rw[if_neg c4]at h⊢
  rw[if_neg c4,zNc hx h]
def Ahead (x:UInt16) (l:List UInt16):Prop:=x=10∨x=32∧∀i,zi [47,47] (l.drop i)=false
theorem Ahead.stop {l:List UInt16} (h:Ahead x l):x=10∨x=32:=by
 rcases h with h | h
 · exact .inl h
 · exact .inr h.1
theorem Ahead.drop {l:List UInt16} (h:Ahead x l) (n:Nat):Ahead x (l.drop n):=by
 rcases h with h | ⟨h,h2⟩
 · exact .inl h
 · exact .inr ⟨h,fun i=>by rw[List.drop_drop];exact h2 _⟩
theorem zHc (hx:x=10∨x=32):∀(l:List UInt16) (nl st:Bool),(zBQ true l nl st).2.2=0→zBQ true (l++x::v) nl st=zBQ true l nl st:=by
 intro l
 have h47:x≠(47:UInt8).toUInt16:=by rcases hx with rfl | rfl<;>decide
 induction l with
 | nil=>intro nl st h;cases h
 | cons c r ih=>
  intro nl st
  rw[List.cons_append,zBQ,zBQ,←List.cons_append,zBT h47]
  by_cases h1:(true&&zi [42,47] (c::r))=true
  · rw[if_pos h1,if_pos h1];intro _;rfl
  rw[if_neg h1,if_neg h1,if_neg (by simp),if_neg (by simp)]
  intro h
  rw[ih _ _ h]
theorem zHd:∀(l:List UInt16) (nl st:Bool),zBQ false (l++10::v) nl st=zBQ false l nl st:=by
 intro l
 induction l with
 | nil=>
  intro nl st
  rw[List.nil_append,zBQ,zBQ,if_neg (by simp),if_pos (by decide)]
  rfl
 | cons c r ih=>
  intro nl st
  rw[List.cons_append]
  simp only[zBQ,Bool.false_and,Bool.false_eq_true,if_false,Bool.not_false,Bool.true_and]
  rw[ih]
theorem zHe {l:List UInt16} (ha:Ahead x l) (hs:(zi [47,47] l || zi [47,42] l)=true) (h:(zq l).2.2=0):zq (l++x::v)=zq l:=by
 have hx:=ha.stop
 have h42:x≠(42:UInt8).toUInt16:=by rcases hx with rfl | rfl<;>decide
 have h2:=zBm hs
 have hst:zi [47,42] (l++x::v)=zi [47,42] l:=by
  cases l with
  | nil=>simp at h2
  | cons c r=>exact zBT h42 c r
 unfold zq at h⊢
 rw[hst,List.drop_append_of_le_length h2]
 cases hl:zi [47,42] l with
 | true=>
  rw[hl]at h
  rw[zHc hx _ _ _ h]
 | false=>
  rcases ha with rfl | ⟨_,h3⟩
  · rw[zHd]
  · have:=h3 0
    rw[List.drop_zero]at this
    rw[this,hl]at hs
    cases hs
theorem zNd:∀(n:Nat) (l:List UInt16) (b:Bool),l.length < n→Ahead x l→(zA4 l b).2.2=0→zA4 (l++x::v) b=if(zA4 l b).1 < l.length then zA4 l b else zCG l.length (zA4 (x::v) (zA4 l b).2.1):=by
 intro n
 induction n with
 | zero=>intro l b h;omega
 | succ n ih=>
  intro l b hl ha
  have hx:=ha.stop
  have h47:x≠(47:UInt8).toUInt16:=by rcases hx with rfl | rfl<;>decide
  have h42:x≠(42:UInt8).toUInt16:=by rcases hx with rfl | rfl<;>decide
  cases l with
  | nil=>
   intro _
   rw[List.nil_append,zGA,if_neg (by simp)]
   simp[zCG]
  | cons c r=>
   simp only[List.length_cons]at hl
   by_cases h1:(zFQ c || zw c)=true
   · rw[zCK h1,List.cons_append,zCK h1]
     intro h
     have h2:=ih r (b || zw c) (by omega) (by have:=ha.drop 1;exact this) h
     rw[h2]
     by_cases h3:(zA4 r (b || zw c)).1 < r.length
     · rw[if_pos h3,if_pos (show(zCG 1 (zA4 r (b || zw c))).1 < (c::r).length by simp only[zCG,List.length_cons];omega)]
     · rw[if_neg h3,if_neg (show¬(zCG 1 (zA4 r (b || zw c))).1 < (c::r).length by simp only[zCG,List.length_cons];omega)]
       simp only[zCG,List.length_cons,Prod.mk.injEq,and_true]
       omega
   · have h1':(zFQ c || zw c)=false:=by simpa using h1
     by_cases h2:(zi [47,47] (c::r) || zi [47,42] (c::r))=true
     · have h2':(zi [47,47] (c::r++x::v) || zi [47,42] (c::r++x::v))=true:=by rw[zBT h47,zBT h42];exact h2
       have hrl:=zCd (zBm h2)
       rw[zBx h1' h2]
       by_cases h3:(zq (c::r)).2.2≠0
       · rw[if_pos h3];intro h;exact absurd h h3
       · rw[if_neg h3]
         intro h
         have hra:=zHe (v:=v) ha h2 (Decidable.not_not.1 h3)
         have hd:(c::r++x::v).drop (zq (c::r)).1=(c::r).drop (zq (c::r)).1++x::v:=List.drop_append_of_le_length hrl.2
         have hp:zA4 (c::r++x::v) b=_:=zBx (x:=c) (r:=r++x::v) h1' h2' b
         rw[←List.cons_append,hra,if_neg h3,hd]at hp
         rw[hp]
         have h4:=ih ((c::r).drop (zq (c::r)).1) (b || (zq (c::r)).2.1) (by rw[List.length_drop,List.length_cons];omega) (ha.drop _) h
         rw[h4,List.length_drop]
         by_cases h5:(zA4 ((c::r).drop (zq (c::r)).1) (b || (zq (c::r)).2.1)).1 < (c::r).length - (zq (c::r)).1
         · rw[if_pos h5,if_pos (show(zCG (zq (c::r)).1 (zA4 ((c::r).drop (zq (c::r)).1) (b || (zq (c::r)).2.1))).1 < (c::r).length by simp only[zCG];omega)]
         · rw[if_neg h5,if_neg (show¬(zCG (zq (c::r)).1 (zA4 ((c::r).drop (zq (c::r)).1) (b || (zq (c::r)).2.1))).1 < (c::r).length by simp only[zCG];omega)]
           simp only[zCG,Prod.mk.injEq,and_true]
           omega
     · have h2':(zi [47,47] (c::r) || zi [47,42] (c::r))=false:=by simpa using h2
       have h3':(zi [47,47] (c::r++x::v) || zi [47,42] (c::r++x::v))=false:=by rw[zBT h47,zBT h42];exact h2'
       rw[zCy h1' h2']
       intro _
       rw[if_pos (by simp)]
       exact zCy (x:=c) (r:=r++x::v) h1' h3' b
theorem zPu (k:Nat) (l:List UInt16) (b:Bool):zGU [] (if b=true then nl0 (zBb k l)else zBb k l)=if b=true then nl0 (zBb k l)else zBb k l:=by
 have h1:(zBb k l).2.2≠0→(zBb k l).1=[]:=zFd _ _ _
 have h2:(zBb k l).2.2=0→(zBb k l).2.1=0:=zEZ _ _ _
 obtain⟨⟨ts,a,e⟩,hq⟩:∃q,zBb k l=q:=⟨_,rfl⟩
 rw[hq]at h1 h2⊢
 simp only at h1 h2
 by_cases he:e=0
 · have:=h2 he
   subst this he
   cases b<;>simp[zGU,nl0]
 · have:=h1 he
   subst this
   cases b<;>simp[zGU,nl0,he]
theorem zKp (t:Tok) (acc:List Tok) (q:List Tok×Nat×Nat):zBZ t (zGU acc q)=zGU (t::acc) q:=by
 unfold zBZ zGU
 by_cases h:q.2.2≠0
 · rw[if_pos h,if_pos h];simp only;rw[if_pos h]
 · rw[if_neg h,if_neg h];simp
theorem zPv:∀(n:Nat) (l:List UInt16) (k:Nat),l.length < n→Ahead x l→(zBb k l).2.2=0→∃init b,(zBb k l).1=init++[setAt zo (k+l.length) b]∧
 zBb k (l++x::v)=zGU init (if b=true then nl0 (zBb (k+l.length) (x::v))else zBb (k+l.length) (x::v)):=by
 intro n
 induction n with
 | zero=>intro l k h;omega
 | succ n ih=>
  intro l k hl ha h
  have hx:=ha.stop
  have hpe:(zd l).2.2=0:=by
   by_cases h1:(zd l).2.2≠0
   · rw[zDY h1]at h;exact absurd h h1
   · exact Decidable.not_not.1 h1
  have hpa:=zNd (v:=v) (l.length+1) l false (by omega) ha hpe
  have hpl:=zEL l
  by_cases h2:l.drop (zd l).1=[]
  · have hpn:(zd l).1=l.length:=by
     have:=congrArg List.length h2
     rw[List.length_drop]at this
     simp at this
     omega
    rw[show zA4 l false=zd l from rfl,hpn,if_neg (by omega),zIE (x::v)]at hpa
    have hpa':zd (l++x::v)=_:=hpa
    refine⟨[],(zd l).2.1,by rw[zD9 hpe h2,hpn];rfl,?_⟩
    have hlike:=zGq (k:=k) (k':=k+l.length) (j:=l.length) (l:=l++x::v) (l':=x::v) (b:=(zd l).2.1) (by rw[hpa'];rfl) (by rw[hpa'];rfl)
     (fun h0=>by rw[hpa'];simp[zCG,h0]) (fun m=>by rw[List.drop_append];simp) rfl
     (by
      unfold zAA
      rw[hpa']
      simp only[zCG]
      rw[show k+(l.length+(zd (x::v)).1)=k+l.length+(zd (x::v)).1 by omega,List.drop_append,List.drop_of_length_le (l:=l) (by omega),Nat.add_sub_cancel_left,List.nil_append])
    rw[hlike]
    exact(zPu _ _ _).symm
  · have hpn:(zd l).1 < l.length:=by
     rcases Nat.lt_or_ge (zd l).1 l.length with h3 | h3
     · exact h3
     · exact absurd (List.drop_of_length_le h3) h2
    have hpa':zd (l++x::v)=zd l:=by
     have:=hpa
     rw[show zA4 l false=zd l from rfl,if_pos hpn]at this
     exact this
    have hte:(zAA k l).1=0:=by
     by_cases h3:(zAA k l).1≠0
     · rw[zEA hpe h2 h3]at h;exact absurd h h3
     · exact Decidable.not_not.1 h3
    have hta:zAA k (l++x::v)=zAA k l:=by
     unfold zAA at hte⊢
     rw[hpa',List.drop_append_of_le_length hpl]
     exact zKo hx hte
    have hlen:=zCB hte
    have hm:=zCC hpe h2 hte
    have hd2:(l++x::v).drop (zd (l++x::v)).1≠[]:=by
     rw[hpa',List.drop_append_of_le_length hpl]
     simp
    have hm2:=zCC (k:=k) (l:=l++x::v) (by rw[hpa'];exact hpe) hd2 (by rw[hta];exact hte)
    rw[hpa',hta,List.drop_append_of_le_length hlen.2]at hm2
    have h4:(zBb (k+(zd l).1+(zAA k l).2.2) (l.drop ((zd l).1+(zAA k l).2.2))).2.2=0:=by
     rw[hm]at h
     unfold zBZ at h
     by_cases h5:(zBb (k+(zd l).1+(zAA k l).2.2) (l.drop ((zd l).1+(zAA k l).2.2))).2.2≠0
     · rw[if_pos h5]at h;exact absurd h h5
     · exact Decidable.not_not.1 h5
    obtain⟨init,b,h6,h7⟩:=ih _ (k+(zd l).1+(zAA k l).2.2) (by rw[List.length_drop];omega) (ha.drop _) h4
    have hk:k+(zd l).1+(zAA k l).2.2+(l.drop ((zd l).1+(zAA k l).2.2)).length=k+l.length:=by rw[List.length_drop];omega
    rw[hk]at h6 h7
    refine⟨setAt (zAA k l).2.1 (k+(zd l).1) (zd l).2.1::init,b,?_,?_⟩
    · rw[hm]
      unfold zBZ
      rw[if_neg (by rw[h4];simp),h6]
      rfl
    · rw[hm2,h7,zKp]
end
theorem zPw {Q:Tok→Prop} (hq:∀z l,(zAo z l).1=0→∀k nl,Q (setAt (zAo z l).2.1 k nl)):∀(f k:Nat) (l:List UInt16),∀t∈(zCr f k l).1,t.kind=0∨Q t:=by
 intro f
 induction f with
 | zero=>intro k l t ht;cases ht
 | succ f ih=>
  intro k l t ht
  rw[zCr]at ht
  split at ht
  · cases ht
  · split at ht
    · simp only[List.mem_singleton]at ht
      subst ht
      exact .inl rfl
    · split at ht
      · cases ht
      · rename_i h3
        unfold zBZ at ht
        split at ht
        · cases ht
        · rcases List.mem_cons.1 ht with rfl | h4
          · exact .inr (hq _ _ (Decidable.not_not.1 h3) _ _)
          · exact ih _ _ t h4
theorem zNe {u:List UInt16}:∀{ts:List Tok} {e:Nat},zPq u e ts→Lst ts:=by
 intro ts
 induction ts with
 | nil=>intro e h;exact h.elim
 | cons t r ih=>
  intro e h
  rcases h.2 with⟨h1,h2,_⟩ | ⟨h1,n,_,_,hok,h2⟩
  · subst h1
    exact⟨by simp,h2,fun i hi=>by simp at hi⟩
  · have L:=ih h2
    have hp:=L.pos
    have hs:∀i,zM (t::r) (i+1)=zM r i:=fun i=>by unfold zM;simp
    refine⟨by simp,?_,fun i hi=>?_⟩
    · have:=L.last
      rw[←hs]at this
      rwa [show(t::r).length - 1=r.length - 1+1 by simp;omega]
    · cases i with
      | zero=>exact hok.kind
      | succ i=>
       rw[hs]
       exact L.mid i (by simp at hi;omega)
theorem zEC {u:List UInt16} {ts:List Tok} {a:Nat} (h:zCH u=(ts,a,0)):Lst ts:=by
 by_cases hl:4096 < u.length
 · unfold zCH at h
   rw[if_pos hl]at h
   simp only[Prod.mk.injEq]at h
   omega
 · have ha:=zNV (u:=u) (by omega) (by rw[h])
   rw[h]at ha
   simp only at ha
   subst ha
   exact zNe (zNY (by omega) h)
theorem zKq:∀{f w:Nat},w < 4294967296^f→zAn f w=[]→w=0:=by
 intro f w h hn
 cases f with
 | zero=>omega
 | succ f=>
  rw[zAn]at hn
  split at hn
  · assumption
  · cases hn
theorem zHf:∀(f v:Nat),v < 4294967296^f→∀x,(zAn f v).getLast? =some x→x≠0:=by
 intro f
 induction f with
 | zero=>intro v _ x h;cases h
 | succ f ih=>
  intro v hv x h
  rw[zAn]at h
  split at h
  · cases h
  · rename_i h0
    have hdiv:v / 4294967296 < 4294967296^f:=by
     rw[Nat.div_lt_iff_lt_mul (by decide)]
     rw[Nat.pow_succ]at hv
     exact hv
    rw[List.getLast?_cons]at h
    injection h with h
    cases hl:(zAn f (v / 4294967296)).getLast? with
    | none=>
     rw[hl]at h
     have h1:zAn f (v / 4294967296)=[]:=List.getLast?_eq_none_iff.1 hl
     have h2:=zKq hdiv h1
     simp only[Option.getD_none]at h
     omega
    | some y=>
     rw[hl]at h
     simp only[Option.getD_some]at h
     subst h
     exact ih _ hdiv _ hl
theorem zRV {v:Nat} (h:v < zEl):zF0 false (zA7 v)=true:=by
 unfold zF0
 rw[decide_eq_true (zDP h),Bool.true_and]
 cases hl:(zA7 v).getLast? with
 | none=>rfl
 | some x=>
  have h9:v < 4294967296^9:=Nat.lt_of_lt_of_le h (by unfold zEl;exact Nat.pow_le_pow_right (by decide) (by decide))
  have:=zHf 9 v h9 x hl
  simp[this]
structure TGn (t:Tok):Prop where
 num:t.kind=2→t.nk=0∧0≤t.nn∧t.nn≤9007199254740991
 big:t.kind=3→zF0 false t.mag=true
 limb:∀y∈t.mag,y < 4294967296
theorem TGn.other {t:Tok} (h2:t.kind≠2) (h3:t.kind≠3) (hm:t.mag=[]):TGn t:=⟨fun h=>absurd h h2,fun h=>absurd h h3,by rw[hm];simp⟩
theorem zNf {z:Bool} {l:List UInt16} (h:(zAo z l).1=0):TGn (zAo z l).2.1:=by
 cases l with
 | nil=>exact absurd (show(5:Nat)=0 from h) (by decide)
 | cons x r=>
  rw[zAY]at h⊢
  split
  · unfold zDD
    split
    · exact .other (by simp[zo,bad]) (by simp[zo,bad]) (by simp[zo,bad])
    · refine .other ?_ ?_ rfl<;>(simp only;split<;>decide)
  · rename_i hx
    rw[if_neg hx]at h
    split
    · rename_i h2
      rw[if_pos h2]at h
      unfold zBg zBq at h⊢
      split
      · exact .other (by simp[zo,bad]) (by simp[zo,bad]) (by simp[zo,bad])
      · rename_i c1
        rw[if_neg c1]at h
        split
        · rename_i c2
          rw[if_pos c2]at h
          unfold zGw at h⊢
          split
          · exact .other (by simp[zo,bad]) (by simp[zo,bad]) (by simp[zo,bad])
          · rename_i c3
            split
            · exact .other (by simp[zo,bad]) (by simp[zo,bad]) (by simp[zo,bad])
            · exact⟨fun h=>absurd h (by simp),fun _=>zRV (Nat.lt_of_not_le c3),zD4 _⟩
        · split
          · exact .other (by simp[zo,bad]) (by simp[zo,bad]) (by simp[zo,bad])
          · split
            · exact .other (by simp[zo,bad]) (by simp[zo,bad]) (by simp[zo,bad])
            · split
              · exact .other (by simp[zo,bad]) (by simp[zo,bad]) (by simp[zo,bad])
              · rename_i c5
                exact⟨fun _=>⟨rfl,Int.natCast_nonneg _,by show((zr _:Nat):Int)≤_;omega⟩,fun h=>absurd h (by simp),by simp[zo]⟩
    · rename_i h2
      rw[if_neg h2]at h
      split
      · unfold zAr
        split<;>exact .other (by simp[zo,bad]) (by simp[zo,bad]) (by simp[zo,bad])
      · split
        · exact .other (by simp[zo,bad]) (by simp[zo,bad]) (by simp[zo,bad])
        · unfold zBY
          split
          · split<;>exact .other (by simp[zo,bad]) (by simp[zo,bad]) (by simp[zo,bad])
          · split<;>exact .other (by simp[zo,bad]) (by simp[zo,bad]) (by simp[zo,bad])
theorem zRW {u:List UInt16} {ts:List Tok} {a:Nat} (h:zCH u=(ts,a,0)):TL ts:=by
 have hl:u.length≤4096:=by
  apply Nat.le_of_not_lt
  intro hl
  unfold zCH at h
  rw[if_pos hl]at h
  simp only[Prod.mk.injEq]at h
  omega
 have hsm:=zKk hl
 rw[h]at hsm
 have hall:∀t∈ts,t.kind=0∨(TGn t∧(t.kind=1→zFT t.text=true)∧(t.kind=6→zQL t.text=true)):=by
  have h2:ts=(zCr (u.length+1) 0 u).1:=by
   unfold zCH at h
   rw[if_neg (by omega)]at h
   rw[h]
  rw[h2]
  refine zPw (Q:=fun t=>TGn t∧(t.kind=1→zFT t.text=true)∧(t.kind=6→zQL t.text=true)) (fun z l hz k nl=>?_) _ _ _
  have h3:=zNf hz
  have h4:=zIH hz
  refine⟨⟨h3.num,h3.big,h3.limb⟩,fun hk=>?_,fun hk=>?_⟩
  · exact(h4.txt (.inl hk)).2.2.1.1 hk
  · exact zPi ((h4.txt (.inr (.inr hk))).2.2.2.2.1 hk)
 intro i
 by_cases hi:i < ts.length
 · have hm:zM ts i∈ts:=by
    unfold zM
    rw[List.getD_eq_getElem?_getD,List.getElem?_eq_getElem hi]
    exact List.getElem_mem hi
   have hs:=(hsm _ hm).1
   rcases hall _ hm with h0 | ⟨h1,h2,h3⟩
   · exact⟨fun h=>by omega,fun h=>by omega,fun h=>by omega,fun h=>by omega,fun h=>by omega,by have:=hs.text;omega⟩
   · exact⟨h2,h3,h1.num,h1.big,fun _=>by have:=hs.str;omega,by have:=hs.text;omega⟩
 · have e:zM ts i=zo:=by
    unfold zM
    rw[List.getD_eq_getElem?_getD,List.getElem?_eq_none (by omega)]
    rfl
   rw[e]
   exact⟨fun h=>absurd h (by decide),fun h=>absurd h (by decide),fun h=>absurd h (by decide),fun h=>absurd h (by decide),fun h=>absurd h (by decide),by simp[zo]⟩
theorem zNg {Q:Tok→Prop} (h0:∀k nl,Q (setAt zo k nl)) (hq:∀z l,(zAo z l).1=0→∀k nl,Q (setAt (zAo z l).2.1 k nl)):∀(f k:Nat) (l:List UInt16),∀t∈(zCr f k l).1,Q t:=by
 intro f
 induction f with
 | zero=>intro k l t ht;cases ht
 | succ f ih=>
  intro k l t ht
  rw[zCr]at ht
  split at ht
  · cases ht
  · split at ht
    · simp only[List.mem_singleton]at ht
      subst ht
      exact h0 _ _
    · split at ht
      · cases ht
      · rename_i h3
        unfold zBZ at ht
        split at ht
        · cases ht
        · rcases List.mem_cons.1 ht with rfl | h4
          · exact hq _ _ (Decidable.not_not.1 h3) _ _
          · exact ih _ _ t h4
def zSF (L:List Tok):Prop:=∀i,∀y∈(zM L i).mag,y < 4294967296
theorem zNh {u:List UInt16} {ts:List Tok} {a:Nat} (h:zCH u=(ts,a,0)):zSF ts:=by
 have hl:¬4096 < u.length:=by
  intro hl
  unfold zCH at h
  rw[if_pos hl]at h
  simp only[Prod.mk.injEq]at h
  omega
 have hall:∀t∈ts,∀y∈t.mag,y < 4294967296:=by
  have h2:ts=(zCr (u.length+1) 0 u).1:=by
   unfold zCH at h
   rw[if_neg hl]at h
   rw[h]
  rw[h2]
  exact zNg (Q:=fun t=>∀y∈t.mag,y < 4294967296) (fun k nl=>by simp[setAt,zo]) (fun z l hz k nl=>(zNf hz).limb) _ _ _
 intro i
 by_cases hi:i < ts.length
 · have hm:zM ts i∈ts:=by
    unfold zM
    rw[List.getD_eq_getElem?_getD,List.getElem?_eq_getElem hi]
    exact List.getElem_mem hi
   exact hall _ hm
 · have e:zM ts i=zo:=by
    unfold zM
    rw[List.getD_eq_getElem?_getD,List.getElem?_eq_none (by omega)]
    rfl
   rw[e]
   simp[zo]
end Go.Proofs.YtlohaclgbfhijaaGreatDoor
