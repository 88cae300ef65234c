/- Joined for the claim ParseBlocks: the parser, the lexer and the trees as they are walked, made short by a program of mine. -/
import Derived.Test.YtlohaclgbfhijaaGreatDoorS22
import Derived.Test.YtlohaclgbfhijaaGreatDoorS07
import Derived.Test.YtlohaclgbfhijaaGreatDoorS20
import Derived.Test.YtlohaclgbfhijaaGreatDoorS01
set_option maxHeartbeats 16000000
set_option maxRecDepth 1000000
namespace Go.Proofs.YtlohaclgbfhijaaGreatDoor
def zCw (j:Nat) (t:Tok):Tok:={t with pos:=t.pos+j}
def zLo (j:Nat) (q:List Tok×Nat×Nat):List Tok×Nat×Nat:=(q.1.map (zCw j),if q.2.2≠0 then q.2.1+j else q.2.1,q.2.2)
theorem zHw (j:Nat) (t:Tok) (q:List Tok×Nat×Nat):zLo j (zBq t q)=zBq (zCw j t) (zLo j q):=by
 unfold zLo zBq
 by_cases h:q.2.2≠0
 · simp[h]
 · simp[yAL.1 h]
theorem zQv {l:List UInt16} (h:∀x r,l=x::r→x.toNat≠35):zA2 true l=zA2 false l:=by
 cases l with
 | nil=>rfl
 | cons x r=>
  have hx:=h x r rfl;rw[zAj,zAj];have hs:zBp true (x::r)=zBp false (x::r):=by
   unfold zBp;rw[zDf (fun e=>hx (by rw[e];rfl))];rfl
  rw[hs]
theorem zN4 {k m:Nat} (hk:1≤k) (hm:1≤m) (l:List UInt16):zz k l=zz m l:=by
 unfold zz;rw[show(k+(za l).1==0)=false from yA.2 (by omega),show(m+(za l).1==0)=false from yA.2 (by omega)]
theorem zLS {k:Nat} (hk:1≤k) {l:List UInt16} (h:∀x r,l=x::r→x.toNat≠35):zz 0 l=zz k l:=by
 unfold zz
 by_cases hp:(za l).1=0
 · rw[hp,List.drop_zero,show(0+0==0)=true from rfl,show(k+0==0)=false from yA.2 (by omega)];exact zQv h
 · rw[show(k+(za l).1==0)=false from yA.2 (by omega),show(0+(za l).1==0)=false from yA.2 (by omega)]
theorem zCs (t:Tok) (k j:Nat) (nl:Bool):setAt t (k+j) nl=zCw j (setAt t k nl):=rfl
theorem zLT (j:Nat):∀(f k:Nat) (l:List UInt16),1≤k→zDP f (k+j) l=zLo j (zDP f k l):=by
 intro f
 induction f with
 | zero=>intro k l _;rfl
 | succ f ih=>
  intro k l hk;rw[zDP,zDP];have ht:=zN4 (k:=k+j) (m:=k) (by omega) hk l;rw[ht]
  by_cases h1:(za l).2.2≠0
  · rw[if_pos h1,if_pos h1];simp only[zLo,List.map_nil,if_pos h1,Prod.mk.injEq,and_true,true_and];omega
  rw[if_neg h1,if_neg h1]
  by_cases h2:l.drop (za l).1=[]
  · rw[if_pos h2,if_pos h2,show k+j+(za l).1=k+(za l).1+j by omega,zCs];rfl
  rw[if_neg h2,if_neg h2]
  by_cases h3:(zz k l).1≠0
  · rw[if_pos h3,if_pos h3];simp only[zLo,List.map_nil,if_pos h3,Prod.mk.injEq,and_true,true_and];omega
  rw[if_neg h3,if_neg h3,show k+j+(za l).1+(zz k l).2.2=k+(za l).1+(zz k l).2.2+j by omega,ih _ _ (by omega),zHw,show k+j+(za l).1=k+(za l).1+j by omega,zCs]
theorem zIt (j:Nat) {l:List UInt16} (h:∀x r,l=x::r→x.toNat≠35):zBh j l=zLo j (zBh 0 l):=by
 by_cases hj:j=0
 · subst hj;have h0:zCw 0=id:=by funext t;simp[zCw]
   unfold zLo;rw[h0];simp
 unfold zBh;rw[zDP,zDP];have ht:=zLS (k:=j) (by omega) h;rw[ht]
 by_cases h1:(za l).2.2≠0
 · rw[if_pos h1,if_pos h1];simp only[zLo,List.map_nil,if_pos h1,Prod.mk.injEq,and_true,true_and];omega
 rw[if_neg h1,if_neg h1]
 by_cases h2:l.drop (za l).1=[]
 · rw[if_pos h2,if_pos h2,show j+(za l).1=0+(za l).1+j by omega,zCs];rfl
 rw[if_neg h2,if_neg h2]
 by_cases h3:(zz j l).1≠0
 · rw[if_pos h3,if_pos h3];simp only[zLo,List.map_nil,if_pos h3,Prod.mk.injEq,and_true,true_and];omega
 have hlen:=zCc (k:=j) (l:=l) (yAL.1 h3);rw[if_neg h3,if_neg h3,show j+(za l).1+(zz j l).2.2=0+(za l).1+(zz j l).2.2+j by omega,zLT j _ _ _ (by omega),zHw,show j+(za l).1=0+(za l).1+j by omega,zCs]
theorem zQw:∀(f:Nat) (l:List UInt16) (nl:Bool),zBu f l nl=((zBu f l false).1,if(zBu f l false).2.2≠0 then false else nl || (zBu f l false).2.1,(zBu f l false).2.2):=by
 intro f
 induction f with
 | zero=>intro l nl;simp[zBu]
 | succ f ih=>
  intro l nl;cases l with
  | nil=>simp[zBu]
  | cons x r=>
   rw[zBu,zBu]
   by_cases h1:(zGO x || zw x)=true
   · rw[if_pos h1,if_pos h1,ih r (nl || zw x),ih r (false || zw x)];simp only[zCi]
     by_cases h2:(zBu f r false).2.2≠0
     · simp[h2]
     · simp[yAL.1 h2,Bool.or_assoc]
   rw[if_neg h1,if_neg h1]
   by_cases h2:(zg [47,47] (x::r) || zg [47,42] (x::r))=true
   · rw[if_pos h2,if_pos h2]
     by_cases h3:(zq (x::r)).2.2≠0
     · rw[if_pos h3,if_pos h3];simp[h3]
     · rw[if_neg h3,if_neg h3,ih _ (nl || (zq (x::r)).2.1),ih _ (false || (zq (x::r)).2.1)];simp only[zCi]
       by_cases h4:(zBu f ((x::r).drop (zq (x::r)).1) false).2.2≠0
       · simp[h4]
       · simp[yAL.1 h4,Bool.or_assoc]
   rw[if_neg h2,if_neg h2];simp
theorem zJn (l:List UInt16) (nl:Bool):zBJ l nl=((za l).1,if(za l).2.2≠0 then false else nl || (za l).2.1,(za l).2.2):=zQw _ l nl
def nl0 (q:List Tok×Nat×Nat):List Tok×Nat×Nat:=(match q.1 with | []=>[] | t::r=>{t with nl:=true}::r,q.2)
theorem zQx {t:Tok} {q:List Tok×Nat×Nat}:nl0 (zBq t q)=zBq {t with nl:=true} q:=by
 unfold nl0 zBq
 by_cases h:q.2.2≠0
 · simp[h]
 · simp[yAL.1 h]
theorem zN5 (k:Nat) (l:List UInt16):zBh k l=if(za l).2.2≠0 then([],k+(za l).1,(za l).2.2)
 else if l.drop (za l).1=[]then([setAt zm (k+(za l).1) (za l).2.1],0,0)
 else if(zz k l).1≠0 then([],k+(za l).1,(zz k l).1)
 else zBq (setAt (zz k l).2.1 (k+(za l).1) (za l).2.1) (zBh (k+(za l).1+(zz k l).2.2) (l.drop ((za l).1+(zz k l).2.2))):=by
 by_cases h1:(za l).2.2≠0
 · rw[if_pos h1,zD5 h1]
 · rw[if_neg h1];have h1':=yAL.1 h1
   by_cases h2:l.drop (za l).1=[]
   · rw[if_pos h2,zD6 h1' h2]
   · rw[if_neg h2]
     by_cases h3:(zz k l).1≠0
     · rw[if_pos h3,zEv h1' h2 h3]
     · rw[if_neg h3,zCd h1' h2 (yAL.1 h3)]
theorem zHx {k k' j:Nat} {l l':List UInt16} {b:Bool} (hp:(za l).1=j+(za l').1) (he:(za l).2.2=(za l').2.2) (hn:(za l').2.2=0→(za l).2.1=(b || (za l').2.1)) (hd:∀n,l.drop (j+n)=l'.drop n) (hk:k+j=k') (hz:zz k l=zz k' l'):
 zBh k l=if b=true then nl0 (zBh k' l')else zBh k' l':=by
 subst hk;rw[zN5 k l,zN5 (k+j) l',hz,hp,he]
 by_cases h1:(za l').2.2≠0
 · rw[if_pos h1,if_pos h1];cases b<;>simp[nl0,Nat.add_assoc]
 rw[if_neg h1,if_neg h1,hd,hn (yAL.1 h1)]
 by_cases h2:l'.drop (za l').1=[]
 · rw[if_pos h2,if_pos h2];cases b<;>simp[nl0,setAt,Nat.add_assoc]
 rw[if_neg h2,if_neg h2]
 by_cases h3:(zz (k+j) l').1≠0
 · rw[if_pos h3,if_pos h3];cases b<;>simp[nl0,Nat.add_assoc]
 rw[if_neg h3,if_neg h3,←Nat.add_assoc k j,Nat.add_assoc j,hd];cases b
 · simp
 · rw[if_pos rfl,zQx];simp[setAt]
theorem zLU {x:UInt16} {r:List UInt16} (h:(zGO x || zw x)=true):za (x::r)=(1+(za r).1,if(za r).2.2≠0 then false else zw x || (za r).2.1,(za r).2.2):=by
 show zBJ (x::r) false=_;rw[zCm h,zJn];rfl
theorem zLV {x:UInt16} {r:List UInt16} (h:(zGO x || zw x)=true) (k:Nat):zBh k (x::r)=if zw x=true then nl0 (zBh (k+1) r)else zBh (k+1) r:=by
 have hp:=zLU (r:=r) h;refine zHx (j:=1) (by rw[hp]) (by rw[hp]) (fun h0=>by rw[hp];simp[h0]) (fun n=>by rw[Nat.add_comm];rfl) rfl ?_;unfold zz;rw[hp];simp only;rw[show k+(1+(za r).1)=k+1+(za r).1 by omega,Nat.add_comm 1];rfl
theorem zN6 {u:List UInt16} (hl:u.length≤4096) (h:(zCk u).2.2=0):(zCk u).2.1=0:=by
 rw[zBU (by omega)]at h⊢;exact zFO _ _ _ h
theorem zQy {u:List UInt16} (hl:u.length≤4096) (h:(zCk u).2.2≠0):(zCk u).1=[]:=by
 rw[zBU (by omega)]at h⊢;exact zGb _ _ _ h
theorem zN7:∀(f k:Nat) (l:List UInt16),(zDP f k l).1.length≤f:=by
 intro f
 induction f with
 | zero=>intro k l;simp[zDP]
 | succ f ih=>
  intro k l;rw[zDP];split
  · simp
  · split
    · simp
    · split
      · simp
      · unfold zBq;split
        · simp
        · have:=ih (k+(za l).1+(zz k l).2.2) (l.drop ((za l).1+(zz k l).2.2));simp only[List.length_cons];omega
theorem zHy {u:List UInt16} (hl:u.length≤4096):(zCk u).1.length≤u.length+1:=by
 rw[zBU (by omega)];exact zN7 _ _ _
theorem zIu:∀(f v:Nat),(zA1 f v).length≤f:=by
 intro f
 induction f with
 | zero=>intro v;simp[zA1]
 | succ f ih=>
  intro v;rw[zA1];split
  · simp
  · have:=ih (v / 4294967296);simp only[List.length_cons];omega
theorem zLW (q:UInt16):∀(f:Nat) (l acc:List UInt16),(zCz q f l acc).2.1.length≤acc.length+l.length:=by
 intro f
 induction f with
 | zero=>intro l acc;simp[zCz]
 | succ f ih=>
  intro l acc;cases l with
  | nil=>simp[zCz]
  | cons x r=>
   rw[zCz];split
   · simp
   · split
     · simp
     · split
       · split
         · simp
         · rename_i h4
           have h5:=zEO (yAL.1 h4);have:=ih (r.drop (zDb r).2.2) (acc++[(zDb r).2.1]);rw[List.length_drop,List.length_append]at this;simp only[List.length_cons,List.length_nil]at this⊢;omega
       · have:=ih r (acc++[x]);rw[List.length_append]at this;simp only[List.length_cons,List.length_nil]at this⊢;omega
structure SmallT (n:Nat) (t:Tok):Prop where
 str:t.str.length≤n
 mag:t.mag.length≤9
 text:t.text.length≤n
theorem SmallT.no (n:Nat):SmallT n zm:=⟨by simp[zm],by simp[zm],by simp[zm]⟩
theorem zIv (z:Bool) (l:List UInt16):SmallT l.length (zA2 z l).2.1:=by
 cases l with
 | nil=>exact SmallT.no _
 | cons x r=>
  rw[zAj];split
  · unfold zDg;split
    · exact SmallT.no _
    · refine⟨by simp[zm],by simp[zm],?_⟩;have:=zBG zAw (x::r);simpa [asc]using this
  · split
    · unfold zBw zB7;split
      · exact SmallT.no _
      · split
        · unfold zH6;split
          · exact SmallT.no _
          · split
            · exact SmallT.no _
            · exact⟨by simp[zm],zIu 9 _,by simp[zm]⟩
        · split
          · exact SmallT.no _
          · split
            · exact SmallT.no _
            · split
              · exact SmallT.no _
              · exact⟨by simp[zm],by simp[zm],by simp[zm]⟩
    · split
      · unfold zA5;split
        · exact SmallT.no _
        · refine⟨?_,by simp[zm],by simp[zm]⟩;have:=zLW x (r.length+1) r [];simp only[List.length_nil,List.length_cons]at this⊢;unfold zJz;omega
      · split
        · exact SmallT.no _
        · unfold zBp;split
          · split
            · exact SmallT.no _
            · refine⟨by simp[zm],by simp[zm],?_⟩;simp only[asc,List.length_map];exact List.length_take_le' _ _
          · split<;>exact SmallT.no _
theorem SmallT.set {n:Nat} {t:Tok} (h:SmallT n t) (k:Nat) (nl:Bool):SmallT n (setAt t k nl):=⟨h.str,h.mag,h.text⟩
theorem SmallT.more {n m:Nat} {t:Tok} (h:SmallT n t) (hn:n≤m):SmallT m t:=⟨by have:=h.str;omega,h.mag,by have:=h.text;omega⟩
theorem zLX:∀(f k:Nat) (l:List UInt16),∀t∈(zDP f k l).1,SmallT l.length t∧k≤t.pos∧t.pos≤k+l.length:=by
 intro f
 induction f with
 | zero=>intro k l t ht;simp[zDP]at ht
 | succ f ih=>
  intro k l t;rw[zDP]
  by_cases h1:(za l).2.2≠0
  · rw[if_pos h1];intro h;simp at h
  rw[if_neg h1];have hpl:=zFA l
  by_cases h2:l.drop (za l).1=[]
  · rw[if_pos h2];intro h;simp only[List.mem_singleton]at h;subst h;exact⟨(SmallT.no _).set _ _,by simp[setAt],by simp[setAt];omega⟩
  rw[if_neg h2]
  by_cases h3:(zz k l).1≠0
  · rw[if_pos h3];intro h;simp at h
  rw[if_neg h3];have hlen:=zCc (k:=k) (l:=l) (yAL.1 h3);unfold zBq;split
  · intro h;simp at h
  · intro h;rcases List.mem_cons.1 h with h | h
    · subst h;refine⟨SmallT.set ?_ _ _,by simp[setAt],by simp[setAt];omega⟩;have:=zIv (k+(za l).1==0) (l.drop (za l).1);rw[List.length_drop]at this;exact this.more (by omega)
    · have:=ih _ _ t h;rw[List.length_drop]at this;exact⟨this.1.more (by omega),by omega,by omega⟩
theorem zLY {u:List UInt16} (hl:u.length≤4096):∀t∈(zCk u).1,SmallT u.length t∧t.pos≤u.length:=by
 rw[zBU (by omega)];intro t ht;have:=zLX _ _ _ t ht;exact⟨this.1,by omega⟩
def zUD (t:Tok):Prop:=t.kind=1∨t.kind=5∨t.kind=6
structure TokOk (l:List UInt16) (t:Tok) (n:Nat):Prop where
 kind:t.kind≠0
 txt:zUD t→t.text.length=n∧l.take n=zAo t.text∧(t.kind=1↔zCx t.text=true)∧(t.kind=5↔zBY t.text=1)∧(t.kind=6↔0 < zCG t.text)
theorem zRy {x:UInt16} (h:zAw x=true):x.toNat < 128:=by
 unfold zAw zA4 zP at h;simp only[Bool.or_eq_true,Bool.and_eq_true,decide_eq_true_eq,beq_iff_eq]at h;omega
theorem zJo {d:List UInt16} (h:∀x∈d,x.toNat < 256):zAo (asc d)=d:=by
 unfold zAo asc;rw[List.map_map]
 conv=>rhs;rw[←List.map_id d]
 refine List.map_congr_left fun x hx=>?_;have h1:=h x hx;refine UInt16.toNat_inj.1 ?_;show x.toNat % 256=x.toNat
 omega
theorem zGG:∀b∈zBv++zBl,∀c∈b.head?,zA4 c.toUInt16=false:=by decide+kernel
theorem zN8 {c:UInt8} {r:List UInt8} (h:zA4 c.toUInt16=true):zBY (c::r)=0:=by
 unfold zBY;rw[if_neg,if_neg]
 · intro hm;have:=zGG _ (List.mem_append_right _ hm) c rfl;rw[h]at this;cases this
 · intro hm;have:=zGG _ (List.mem_append_left _ hm) c rfl;rw[h]at this;cases this
theorem zLZ {p:UInt16→Bool} (l:List UInt16):l.take (l.takeWhile p).length=l.takeWhile p:=by
 conv=>lhs;arg 2;rw[←List.takeWhile_append_dropWhile (p:=p) (l:=l)]
 rw[List.take_left]
theorem zQz {x:UInt16} {r:List UInt16} (hx:zA4 x=true) (h:(zDg (x::r)).1=0):TokOk (x::r) (zDg (x::r)).2.1 (zDg (x::r)).2.2:=by
 unfold zDg at h⊢
 by_cases h1:zg [92] ((x::r).drop ((x::r).takeWhile zAw).length)=true
 · rw[if_pos h1]at h;cases h
 · rw[if_neg h1];obtain⟨d,hd⟩:∃d,(x::r).takeWhile zAw=d:=⟨_,rfl⟩;have htk:=zLZ (p:=zAw) (x::r);have hall:∀y∈d,zAw y=true:=by rw[←hd];exact List.all_eq_true.1 List.all_takeWhile
   have hd0:d=x::r.takeWhile zAw:=by rw[←hd,List.takeWhile_cons_of_pos (by unfold zAw;rw[hx];rfl)]
   rw[hd]at htk⊢;have hasc:zAo (asc d)=d:=zJo fun y hy=>by have:=zRy (hall y hy);omega
   have hxx:x.toUInt8.toUInt16=x:=by
    have h2:(zAo (asc d))[0]? =d[0]? :=by rw[hasc]
    rw[hd0]at h2;simpa [zAo,asc]using h2
   have hlet:zA4 x.toUInt8.toUInt16=true:=by rw[hxx];exact hx
   have hrun:zGt (asc d)=true:=by
    rw[hd0];show(zA4 x.toUInt8.toUInt16&&((r.takeWhile zAw).map (·.toUInt8)).all fun c=>zAw c.toUInt16)=true;rw[hlet,Bool.true_and,List.all_eq_true];intro c hc;obtain⟨y,hy,rfl⟩:=List.mem_map.1 hc;have hy1:zAw y=true:=hall y (by rw[hd0];simp[hy]);have hy2:=zRy hy1;have:y.toUInt8.toUInt16=y:=by
     refine UInt16.toNat_inj.1 ?_;show y.toNat % 256=y.toNat
     omega
    rw[this];exact hy1
   have hsg:zBY (asc d)=0:=by rw[hd0];exact zN8 hlet
   refine⟨?_,fun _=>⟨by simp[asc],by rw[htk,hasc],?_,?_,?_⟩⟩
   · simp only;split<;>simp
   · unfold zCx;rw[hrun,Bool.true_and,beq_iff_eq]
     by_cases hw:0 < zCG (asc d)
     · simp only[hw,if_true];constructor
       · intro h;cases h
       · intro h;omega
     · simp only[hw,if_false,true_iff];omega
   · rw[hsg]
     by_cases hw:0 < zCG (asc d)<;>simp[hw]
   · by_cases hw:0 < zCG (asc d)<;>simp[hw]
theorem zQ0 {z:Bool} {l:List UInt16} (h:(zBp z l).1=0):TokOk l (zBp z l).2.1 (zBp z l).2.2:=by
 unfold zBp at h⊢;cases hs:zA6 l 4 with
 | none=>
  rw[hs]at h;simp only at h;split at h<;>cases h
 | some n=>
  have h5:=zEP hs;have h6:=zEQ h5.2.2;rw[hs]at h;simp only at h⊢
  by_cases h2:zAc l n=2
  · rw[if_pos h2]at h;cases h
  · rw[if_neg h2];have h7:=h5.2.2;have h8:zAc l n=zBY (asc (l.take n))∧(l.take n).all (fun x=>decide (x.toNat≤127))=true:=by
     unfold zAc at h7⊢;split at h7
     · rename_i h9
       rw[if_pos h9];simp only[Bool.and_eq_true]at h9;exact⟨rfl,h9.1.2⟩
     · exact absurd rfl h7
    have h1:zBY (asc (l.take n))=1:=by
     have:=zMk (asc (l.take n));rw[h8.1]at h2 h7;omega
    obtain⟨_,hn,hw⟩:=zQu h1;refine⟨by simp,fun _=>⟨by simp[asc];omega,(zJo fun y hy=>by have:=List.all_eq_true.1 h8.2 y hy;simp at this;omega).symm,?_,?_,?_⟩⟩
    · simp only;rw[hn];simp
    · simp only;rw[h1];simp
    · simp only;rw[hw];simp
theorem zJp {l:List UInt16} {t:Tok} {n:Nat} (h:t.kind=2∨t.kind=3∨t.kind=4):TokOk l t n:=by
 refine⟨by omega,fun hx=>?_⟩;unfold zUD at hx;omega
theorem zJq {z:Bool} {l:List UInt16} (h:(zA2 z l).1=0):TokOk l (zA2 z l).2.1 (zA2 z l).2.2:=by
 cases l with
 | nil=>cases h
 | cons x r=>
  rw[zAj]at h⊢
  by_cases c1:zA4 x=true
  · rw[if_pos c1]at h⊢;exact zQz c1 h
  rw[if_neg c1]at h⊢
  by_cases c2:zP x=true
  · rw[if_pos c2]at h⊢;refine zJp ?_;unfold zBw zB7 at h⊢;split at h
    · cases h
    · rename_i d1
      rw[if_neg d1];split at h
      · rename_i d2
        rw[if_pos d2];unfold zH6 at h⊢;split at h
        · cases h
        · rename_i d3
          rw[if_neg d3];split at h
          · cases h
          · rename_i d4;rw[if_neg d4];simp
      · rename_i d2
        rw[if_neg d2];split at h
        · cases h
        · rename_i d3
          rw[if_neg d3];split at h
          · cases h
          · rename_i d4
            rw[if_neg d4];split at h
            · cases h
            · rename_i d5;rw[if_neg d5];simp
  rw[if_neg c2]at h⊢
  by_cases c3:(x.toNat==39 || x.toNat==34)=true
  · rw[if_pos c3]at h⊢;refine zJp ?_;unfold zA5 at h⊢;split at h
    · rename_i d1;exact absurd h d1
    · rename_i d1;rw[if_neg d1];simp
  rw[if_neg c3]at h⊢
  by_cases c4:(x.toNat==46&&zBF 0 zP r)=true
  · rw[if_pos c4]at h;cases h
  rw[if_neg c4]at h⊢;exact zQ0 h
def zQ1 (u:List UInt16):Nat→List Tok→Prop
 | _,[]=>False
 | e,t::r=>e≤t.pos∧((r=[]∧t.kind=0∧t.pos=u.length)∨(r≠[]∧∃n,1≤n∧t.pos+n≤u.length∧TokOk (u.drop t.pos) t n∧zQ1 u (t.pos+n) r))
theorem zLa (u:List UInt16):∀(m k:Nat),u.length - k < m→k≤u.length→(zBh k (u.drop k)).2.2=0→zQ1 u k (zBh k (u.drop k)).1:=by
 intro m
 induction m with
 | zero=>intro k h;omega
 | succ m ih=>
  intro k hm hk h;have hpe:(za (u.drop k)).2.2=0:=by
   by_cases h1:(za (u.drop k)).2.2≠0
   · rw[zD5 h1]at h;exact absurd h h1
   · exact yAL.1 h1
  have hpl:=zFA (u.drop k);rw[List.length_drop]at hpl
  by_cases h2:(u.drop k).drop (za (u.drop k)).1=[]
  · have h3:(za (u.drop k)).1=u.length - k:=by
     have:=congrArg List.length h2;rw[List.length_drop,List.length_drop]at this;simp only[List.length_nil]at this;omega
    rw[zD6 hpe h2];refine⟨by simp[setAt],.inl ⟨rfl,rfl,?_⟩⟩;simp only[setAt];omega
  · have hte:(zz k (u.drop k)).1=0:=by
     by_cases h3:(zz k (u.drop k)).1≠0
     · rw[zEv hpe h2 h3]at h;exact absurd h h3
     · exact yAL.1 h3
    have hlen:=zCc hte;rw[List.length_drop]at hlen;have hmo:=zCd hpe h2 hte;have hok:TokOk ((u.drop k).drop (za (u.drop k)).1) (zz k (u.drop k)).2.1 (zz k (u.drop k)).2.2:=zJq hte;rw[List.drop_drop]at hmo;rw[hmo]at h⊢;have h4:(zBh (k+(za (u.drop k)).1+(zz k (u.drop k)).2.2) (u.drop (k+((za (u.drop k)).1+(zz k (u.drop k)).2.2)))).2.2=0:=by
     unfold zBq at h
     by_cases h5:(zBh (k+(za (u.drop k)).1+(zz k (u.drop k)).2.2) (u.drop (k+((za (u.drop k)).1+(zz k (u.drop k)).2.2)))).2.2≠0
     · rw[if_pos h5]at h;exact absurd h h5
     · exact yAL.1 h5
    rw[show k+((za (u.drop k)).1+(zz k (u.drop k)).2.2)=k+(za (u.drop k)).1+(zz k (u.drop k)).2.2 by omega]at h4⊢;have hc:=ih (k+(za (u.drop k)).1+(zz k (u.drop k)).2.2) (by omega) (by omega) h4;unfold zBq;rw[if_neg (by rw[h4];simp)];refine⟨by simp[setAt],.inr ⟨fun e=>by rw[e]at hc;exact hc,(zz k (u.drop k)).2.2,hlen.1,by simp only[setAt];omega,?_,hc⟩⟩;rw[List.drop_drop]at hok;exact⟨hok.kind,hok.txt⟩
theorem zN9 {u:List UInt16} {ts:List Tok} (hl:u.length≤4096) (hq:zCk u=(ts,0,0)):zQ1 u 0 ts:=by
 rw[zBU (by omega)]at hq;have:=zLa u (u.length+1) 0 (by omega) (yAF _) (by rw[List.drop_zero,hq]);rwa [List.drop_zero,hq]at this
section
variable {x:UInt16} {v:List UInt16}
theorem zEF {p:UInt16→Bool} (hp:p x=false) (l:List UInt16):(l++x::v).takeWhile p=l.takeWhile p:=by
 induction l with
 | nil=>rw[List.nil_append,List.takeWhile_cons_of_neg (by rw[hp];simp)];rfl
 | cons c r ih=>
  rw[List.cons_append]
  by_cases h:p c=true
  · rw[List.takeWhile_cons_of_pos h,List.takeWhile_cons_of_pos h,ih]
  · rw[List.takeWhile_cons_of_neg h,List.takeWhile_cons_of_neg h]
theorem zCt {k:Nat} {p:UInt16→Bool} (hp:p x=false) {l:List UInt16} (hk:k≤l.length):zBF k p (l++x::v)=zBF k p l:=by
 unfold zBF
 by_cases h:k < l.length
 · rw[List.getElem?_append_left h]
 · obtain rfl:k=l.length:=by omega
   rw[List.getElem?_append_right (yAD _),Nat.sub_self,List.getElem?_eq_none (yAD _)];simp[hp]
theorem zGH (c:UInt8) (y:UInt16) (s:List UInt16):zg [c] (y::s)=(c.toUInt16==y):=by simp[zg,List.isPrefixOf]
theorem zDq {c:UInt8} (hc:x≠c.toUInt16) (l:List UInt16):zg [c] (l++x::v)=zg [c] l:=by
 cases l with
 | nil=>rw[List.nil_append,zDf hc];rfl
 | cons y r=>rw[List.cons_append,zGH,zGH]
theorem zBk {a c:UInt8} (hc:x≠c.toUInt16) (y:UInt16) (r:List UInt16):zg [a,c] (y::r++x::v)=zg [a,c] (y::r):=by
 cases r with
 | nil=>
  simp only[zg,List.map_cons,List.map_nil,List.cons_append,List.nil_append,List.isPrefixOf];rw[show(c.toUInt16==x)=false from yA.2 (fun e=>hc e.symm)];simp
 | cons z s=>simp[zg,List.isPrefixOf]
theorem zOA (hx:x=10∨x=32) (l:List UInt16):zDg (l++x::v)=zDg l:=by
 have h1:zAw x=false:=by rcases hx with rfl | rfl<;>decide
 have h2:x≠(92:UInt8).toUInt16:=by rcases hx with rfl | rfl<;>decide
 unfold zDg;rw[zEF h1,List.drop_append_of_le_length (zBG _ _),zDq h2]
theorem zQ2 (hx:x=10∨x=32) (d r:List UInt16):zB7 d (r++x::v)=zB7 d r:=by
 have h1:x≠(110:UInt8).toUInt16:=by rcases hx with rfl | rfl<;>decide
 have h2:∀z,zu z x=false:=by intro z;rcases hx with rfl | rfl<;>cases z<;>decide
 have h3:zA4 x=false:=by rcases hx with rfl | rfl<;>decide
 have h4:zP x=false:=by rcases hx with rfl | rfl<;>decide
 unfold zB7;rw[zDq h1,zCt (h2 _) (yAF _),zCt h3 (yAF _)];cases r with
 | nil=>rfl
 | cons y s=>
  have hb:∀a b,zH6 a b ((y::s++x::v).drop 1)=zH6 a b ((y::s).drop 1):=by
   intro a b;unfold zH6;simp only[List.cons_append,List.drop_succ_cons,List.drop_zero];rw[zCt h3 (yAF _),zCt h4 (yAF _)]
  rw[hb]
theorem zHz (hx:x=10∨x=32) (l:List UInt16):zBw (l++x::v)=zBw l:=by
 have h1:zP x=false:=by rcases hx with rfl | rfl<;>decide
 unfold zBw;rw[zEF h1,List.drop_append_of_le_length (zBG _ _),zQ2 hx]
theorem zH0 {n:Nat} {l:List UInt16} (h:(zB8 n l).1=0) (y:List UInt16):zB8 n (l++y)=zB8 n l:=by
 have hl:=zJJ h;unfold zB8;rw[List.take_append_of_le_length hl.2,decide_eq_true hl.2,decide_eq_true (by rw[List.length_append];omega)]
theorem zQ3 (hx:x=10∨x=32) {l:List UInt16} (h:(zDb l).1=0):zDb (l++x::v)=zDb l:=by
 have h1:zP x=false:=by rcases hx with rfl | rfl<;>decide
 have h2:x≠(123:UInt8).toUInt16:=by rcases hx with rfl | rfl<;>decide
 cases l with
 | nil=>cases h
 | cons c r=>
  rw[List.cons_append,zD3,zD3];rw[zD3]at h
  by_cases hs:(zB9 c).isSome=true
  · rw[if_pos hs,if_pos hs]
  · rw[if_neg hs]at h⊢;rw[if_neg hs];unfold zR2 at h⊢;rw[zCt h1 (yAF _),zDq h2]
    by_cases c1:(c.toNat==48&& !zBF 0 zP r)=true
    · rw[if_pos c1,if_pos c1]
    rw[if_neg c1]at h⊢;rw[if_neg c1]
    by_cases c2:zP c=true
    · rw[if_pos c2,if_pos c2]
    rw[if_neg c2]at h⊢;rw[if_neg c2]
    by_cases c3:(zw c || zGP c || (c.toNat==117&&zg [123] r))=true
    · rw[if_pos c3,if_pos c3]
    rw[if_neg c3]at h⊢;rw[if_neg c3];have hm:∀n,(more 1 (zB8 n r)).1=0→(zB8 n r).1=0:=by
     intro n hn;unfold more at hn
     by_cases h0:(zB8 n r).1=0
     · exact h0
     · rw[if_neg h0]at hn;exact hn
    by_cases c4:c.toNat=120
    · rw[if_pos c4]at h⊢;rw[if_pos c4,zH0 (hm _ h)]
    rw[if_neg c4]at h⊢;rw[if_neg c4]
    by_cases c5:c.toNat=117
    · rw[if_pos c5]at h⊢;rw[if_pos c5,zH0 (hm _ h)]
    rw[if_neg c5,if_neg c5]
theorem zQ4 (hx:x=10∨x=32) (q:UInt16):∀(f:Nat) (l acc:List UInt16),(zCz q f l acc).1=0→zCz q f (l++x::v) acc=zCz q f l acc:=by
 intro f
 induction f with
 | zero=>intro l acc h;cases h
 | succ f ih=>
  intro l acc;cases l with
  | nil=>intro h;cases h
  | cons c r=>
   rw[List.cons_append,zCz,zCz]
   by_cases h1:zw c=true
   · rw[if_pos h1];intro h;cases h
   rw[if_neg h1,if_neg h1]
   by_cases h2:c=q
   · rw[if_pos h2,if_pos h2];intro _;rfl
   rw[if_neg h2,if_neg h2]
   by_cases h3:c.toNat=92
   · rw[if_pos h3,if_pos h3]
     by_cases h4:(zDb r).1≠0
     · rw[if_pos h4];intro h;exact absurd h h4
     · have h5:=yAL.1 h4;rw[if_neg h4,zQ3 hx h5,if_neg h4];intro h;have h6:=zEO h5;rw[List.drop_append_of_le_length h6.2,ih _ _ h]
   · rw[if_neg h3,if_neg h3];intro h;rw[ih _ _ h]
theorem zOB (q:UInt16):∀(f g:Nat) (l acc:List UInt16),f≤g→(zCz q f l acc).1=0→zCz q g l acc=zCz q f l acc:=by
 intro f
 induction f with
 | zero=>intro g l acc _ h;cases h
 | succ f ih=>
  intro g l acc hg;obtain⟨g,rfl⟩:∃m,g=m+1:=⟨g - 1,by omega⟩;cases l with
  | nil=>intro h;cases h
  | cons c r=>
   rw[zCz,zCz]
   by_cases h1:zw c=true
   · rw[if_pos h1];intro h;cases h
   rw[if_neg h1,if_neg h1]
   by_cases h2:c=q
   · rw[if_pos h2,if_pos h2];intro _;rfl
   rw[if_neg h2,if_neg h2]
   by_cases h3:c.toNat=92
   · rw[if_pos h3,if_pos h3]
     by_cases h4:(zDb r).1≠0
     · rw[if_pos h4];intro h;exact absurd h h4
     · rw[if_neg h4,if_neg h4];intro h;rw[ih g _ _ (by omega) h]
   · rw[if_neg h3,if_neg h3];intro h;rw[ih g _ _ (by omega) h]
theorem zIw (hx:x=10∨x=32) {q:UInt16} {l:List UInt16} (h:(zA5 q l).1=0):zA5 q (l++x::v)=zA5 q l:=by
 have h1:(zJz q l).1=0:=by
  unfold zA5 at h
  by_cases h2:(zJz q l).1≠0
  · rw[if_pos h2]at h;exact absurd h h2
  · exact yAL.1 h2
 have h3:zJz q (l++x::v)=zJz q l:=by
  unfold zJz at h1⊢;have h4:=zQ4 (v:=v) hx q _ _ _ h1;rw[zOB q (l.length+1) ((l++x::v).length+1) _ _ (by rw[List.length_append];omega) (by rw[h4];exact h1),h4]
 unfold zA5;rw[h3]
theorem zIx:∀b∈zBv++zBl,(10:UInt8)∉b∧(32:UInt8)∉b:=by decide+kernel
theorem zLb {b:List UInt8} (h:(10:UInt8)∈b∨(32:UInt8)∈b):zBY b=0:=by
 unfold zBY;have hn:∀s,b∈s→s=zBv∨s=zBl→False:=by
  intro s hb hs;have h2:b∈zBv++zBl:=by rcases hs with rfl | rfl;exact List.mem_append_left _ hb;exact List.mem_append_right _ hb
  obtain⟨h3,h4⟩:=zIx b h2;rcases h with h | h
  · exact h3 h
  · exact h4 h
 rw[if_neg (fun hb=>hn _ hb (.inl rfl)),if_neg (fun hb=>hn _ hb (.inr rfl))]
theorem zGI (hx:x=10∨x=32) (l:List UInt16) (n:Nat):zAc (l++x::v) n=zAc l n:=by
 have h1:zP x=false:=by rcases hx with rfl | rfl<;>decide
 by_cases hn:n≤l.length
 · unfold zAc;rw[List.take_append_of_le_length hn,decide_eq_true hn,decide_eq_true (by rw[List.length_append];omega)]
   by_cases ha:asc (l.take n)=[63,46]
   · have h2:n=2:=by
      have:=congrArg List.length ha;simp only[asc,List.length_map,List.length_take,List.length_cons,List.length_nil]at this;omega
     rw[zCt h1 (by omega)]
   · rw[yAJ ha];simp
 · have h2:zAc l n=0:=by
    unfold zAc;rw[yAJ hn];simp
   rw[h2];unfold zAc;split
   · refine zLb ?_;have hm:x∈(l++x::v).take n:=by
      rw[List.take_append];refine List.mem_append_right _ ?_;obtain⟨m,hm⟩:∃m,n - l.length=m+1:=⟨n - l.length - 1,by omega⟩;rw[hm,List.take_succ_cons];simp
     have hm2:x.toUInt8∈asc ((l++x::v).take n):=List.mem_map_of_mem hm;rcases hx with rfl | rfl
     · exact .inl hm2
     · exact .inr hm2
   · rfl
theorem zOC (hx:x=10∨x=32) (l:List UInt16):∀m,zA6 (l++x::v) m=zA6 l m:=by
 intro m
 induction m with
 | zero=>rfl
 | succ m ih=>rw[zA6,zA6,zGI hx,ih]
theorem zOD (hx:x=10∨x=32) {z:Bool} {l:List UInt16} (h:(zBp z l).1=0):zBp z (l++x::v)=zBp z l:=by
 unfold zBp at h⊢;rw[zOC hx];cases hs:zA6 l 4 with
 | none=>
  rw[hs]at h;simp only at h;split at h<;>cases h
 | some n=>
  have h5:=zEP hs;have h6:=zEQ h5.2.2;simp only;rw[zGI hx,List.take_append_of_le_length h6]
theorem zLc (hx:x=10∨x=32) {z:Bool} {l:List UInt16} (h:(zA2 z l).1=0):zA2 z (l++x::v)=zA2 z l:=by
 have h1:zP x=false:=by rcases hx with rfl | rfl<;>decide
 cases l with
 | nil=>cases h
 | cons c r=>
  rw[zAj]at h;rw[List.cons_append,zAj,zAj,←List.cons_append]
  by_cases c1:zA4 c=true
  · rw[if_pos c1,if_pos c1,zOA hx]
  rw[if_neg c1]at h⊢;rw[if_neg c1]
  by_cases c2:zP c=true
  · rw[if_pos c2,if_pos c2,zHz hx]
  rw[if_neg c2]at h⊢;rw[if_neg c2]
  by_cases c3:(c.toNat==39 || c.toNat==34)=true
  · rw[if_pos c3]at h⊢;rw[if_pos c3,zIw hx h]
  rw[if_neg c3]at h⊢;rw[if_neg c3,zCt h1 (yAF _)]
  by_cases c4:(c.toNat==46&&zBF 0 zP r)=true
  · rw[if_pos c4,if_pos c4]
  rw[if_neg c4]at h⊢;rw[if_neg c4,zOD hx h]
def Ahead (x:UInt16) (l:List UInt16):Prop:=x=10∨x=32∧∀i,zg [47,47] (l.drop i)=false
theorem Ahead.stop {l:List UInt16} (h:Ahead x l):x=10∨x=32:=by
 rcases h with h | h
 · exact .inl h
 · exact .inr h.1
theorem Ahead.drop {l:List UInt16} (h:Ahead x l) (n:Nat):Ahead x (l.drop n):=by
 rcases h with h | ⟨h,h2⟩
 · exact .inl h
 · exact .inr ⟨h,fun i=>by rw[List.drop_drop];exact h2 _⟩
theorem zIy (hx:x=10∨x=32):∀(l:List UInt16) (nl st:Bool),(zBe true l nl st).2.2=0→zBe true (l++x::v) nl st=zBe true l nl st:=by
 intro l;have h47:x≠(47:UInt8).toUInt16:=by rcases hx with rfl | rfl<;>decide
 induction l with
 | nil=>intro nl st h;cases h
 | cons c r ih=>
  intro nl st;rw[List.cons_append,zBe,zBe,←List.cons_append,zBk h47]
  by_cases h1:(true&&zg [42,47] (c::r))=true
  · rw[if_pos h1,if_pos h1];intro _;rfl
  rw[if_neg h1,if_neg h1,if_neg (by simp),if_neg (by simp)];intro h;rw[ih _ _ h]
theorem zIz:∀(l:List UInt16) (nl st:Bool),zBe false (l++10::v) nl st=zBe false l nl st:=by
 intro l
 induction l with
 | nil=>
  intro nl st;rw[List.nil_append,zBe,zBe,if_neg (by simp),if_pos (by decide)];rfl
 | cons c r ih=>
  intro nl st;rw[List.cons_append];simp only[zBe,Bool.false_and,Bool.false_eq_true,if_false,Bool.not_false,Bool.true_and];rw[ih]
theorem zI0 {l:List UInt16} (ha:Ahead x l) (hs:(zg [47,47] l || zg [47,42] l)=true) (h:(zq l).2.2=0):zq (l++x::v)=zq l:=by
 have hx:=ha.stop;have h42:x≠(42:UInt8).toUInt16:=by rcases hx with rfl | rfl<;>decide
 have h2:=zB4 hs;have hst:zg [47,42] (l++x::v)=zg [47,42] l:=by
  cases l with
  | nil=>simp at h2
  | cons c r=>exact zBk h42 c r
 unfold zq at h⊢;rw[hst,List.drop_append_of_le_length h2];cases hl:zg [47,42] l with
 | true=>
  rw[hl]at h;rw[zIy hx _ _ _ h]
 | false=>
  rcases ha with rfl | ⟨_,h3⟩
  · rw[zIz]
  · have:=h3 0;rw[List.drop_zero]at this;rw[this,hl]at hs;cases hs
theorem zOE:∀(n:Nat) (l:List UInt16) (b:Bool),l.length < n→Ahead x l→(zBJ l b).2.2=0→zBJ (l++x::v) b=if(zBJ l b).1 < l.length then zBJ l b else zCi l.length (zBJ (x::v) (zBJ l b).2.1):=by
 intro n
 induction n with
 | zero=>intro l b h;omega
 | succ n ih=>
  intro l b hl ha;have hx:=ha.stop;have h47:x≠(47:UInt8).toUInt16:=by rcases hx with rfl | rfl<;>decide
  have h42:x≠(42:UInt8).toUInt16:=by rcases hx with rfl | rfl<;>decide
  cases l with
  | nil=>
   intro _;rw[List.nil_append,zHC,if_neg (by simp)];simp[zCi]
  | cons c r=>
   simp only[List.length_cons]at hl
   by_cases h1:(zGO c || zw c)=true
   · rw[zCm h1,List.cons_append,zCm h1];intro h;have h2:=ih r (b || zw c) (by omega) (by have:=ha.drop 1;exact this) h;rw[h2]
     by_cases h3:(zBJ r (b || zw c)).1 < r.length
     · rw[if_pos h3,if_pos (show(zCi 1 (zBJ r (b || zw c))).1 < (c::r).length by simp only[zCi,List.length_cons];omega)]
     · rw[if_neg h3,if_neg (show¬(zCi 1 (zBJ r (b || zw c))).1 < (c::r).length by simp only[zCi,List.length_cons];omega)];simp only[zCi,List.length_cons,Prod.mk.injEq,and_true];omega
   · have h1':(zGO c || zw c)=false:=by simpa using h1
     by_cases h2:(zg [47,47] (c::r) || zg [47,42] (c::r))=true
     · have h2':(zg [47,47] (c::r++x::v) || zg [47,42] (c::r++x::v))=true:=by rw[zBk h47,zBk h42];exact h2
       have hrl:=zDC (zB4 h2);rw[zCO h1' h2]
       by_cases h3:(zq (c::r)).2.2≠0
       · rw[if_pos h3];intro h;exact absurd h h3
       · rw[if_neg h3];intro h;have hra:=zI0 (v:=v) ha h2 (yAL.1 h3);have hd:(c::r++x::v).drop (zq (c::r)).1=(c::r).drop (zq (c::r)).1++x::v:=List.drop_append_of_le_length hrl.2;have hp:zBJ (c::r++x::v) b=_:=zCO (x:=c) (r:=r++x::v) h1' h2' b;rw[←List.cons_append,hra,if_neg h3,hd]at hp;rw[hp];have h4:=ih ((c::r).drop (zq (c::r)).1) (b || (zq (c::r)).2.1) (by rw[List.length_drop,List.length_cons];omega) (ha.drop _) h;rw[h4,List.length_drop]
         by_cases h5:(zBJ ((c::r).drop (zq (c::r)).1) (b || (zq (c::r)).2.1)).1 < (c::r).length - (zq (c::r)).1
         · rw[if_pos h5,if_pos (show(zCi (zq (c::r)).1 (zBJ ((c::r).drop (zq (c::r)).1) (b || (zq (c::r)).2.1))).1 < (c::r).length by simp only[zCi];omega)]
         · rw[if_neg h5,if_neg (show¬(zCi (zq (c::r)).1 (zBJ ((c::r).drop (zq (c::r)).1) (b || (zq (c::r)).2.1))).1 < (c::r).length by simp only[zCi];omega)];simp only[zCi,Prod.mk.injEq,and_true];omega
     · have h2':(zg [47,47] (c::r) || zg [47,42] (c::r))=false:=by simpa using h2
       have h3':(zg [47,47] (c::r++x::v) || zg [47,42] (c::r++x::v))=false:=by rw[zBk h47,zBk h42];exact h2'
       rw[zDS h1' h2'];intro _;rw[if_pos (by simp)];exact zDS (x:=c) (r:=r++x::v) h1' h3' b
theorem zQ5 (k:Nat) (l:List UInt16) (b:Bool):zHW [] (if b=true then nl0 (zBh k l)else zBh k l)=if b=true then nl0 (zBh k l)else zBh k l:=by
 have h1:(zBh k l).2.2≠0→(zBh k l).1=[]:=zGb _ _ _;have h2:(zBh k l).2.2=0→(zBh k l).2.1=0:=zFO _ _ _;obtain⟨⟨ts,a,e⟩,hq⟩:∃q,zBh k l=q:=⟨_,rfl⟩;rw[hq]at h1 h2⊢;simp only at h1 h2
 by_cases he:e=0
 · have:=h2 he;subst this he;cases b<;>simp[zHW,nl0]
 · have:=h1 he;subst this;cases b<;>simp[zHW,nl0,he]
theorem zLd (t:Tok) (acc:List Tok) (q:List Tok×Nat×Nat):zBq t (zHW acc q)=zHW (t::acc) q:=by
 unfold zBq zHW
 by_cases h:q.2.2≠0
 · rw[if_pos h,if_pos h];simp only;rw[if_pos h]
 · rw[if_neg h,if_neg h];simp
theorem zQ6:∀(n:Nat) (l:List UInt16) (k:Nat),l.length < n→Ahead x l→(zBh k l).2.2=0→∃init b,(zBh k l).1=init++[setAt zm (k+l.length) b]∧
 zBh k (l++x::v)=zHW init (if b=true then nl0 (zBh (k+l.length) (x::v))else zBh (k+l.length) (x::v)):=by
 intro n
 induction n with
 | zero=>intro l k h;omega
 | succ n ih=>
  intro l k hl ha h;have hx:=ha.stop;have hpe:(za l).2.2=0:=by
   by_cases h1:(za l).2.2≠0
   · rw[zD5 h1]at h;exact absurd h h1
   · exact yAL.1 h1
  have hpa:=zOE (v:=v) (l.length+1) l false (by omega) ha hpe;have hpl:=zFA l
  by_cases h2:l.drop (za l).1=[]
  · have hpn:(za l).1=l.length:=by
     have:=congrArg List.length h2;rw[List.length_drop]at this;simp at this;omega
    rw[show zBJ l false=za l from rfl,hpn,if_neg (by omega),zJn (x::v)]at hpa;have hpa':za (l++x::v)=_:=hpa;refine⟨[],(za l).2.1,by rw[zD6 hpe h2,hpn];rfl,?_⟩;have hlike:=zHx (k:=k) (k':=k+l.length) (j:=l.length) (l:=l++x::v) (l':=x::v) (b:=(za l).2.1) (by rw[hpa'];rfl) (by rw[hpa'];rfl)
     (fun h0=>by rw[hpa'];simp[zCi,h0]) (fun m=>by rw[List.drop_append];simp) rfl
     (by
      unfold zz;rw[hpa'];simp only[zCi];rw[show k+(l.length+(za (x::v)).1)=k+l.length+(za (x::v)).1 by omega,List.drop_append,List.drop_of_length_le (l:=l) (by omega),Nat.add_sub_cancel_left,List.nil_append])
    rw[hlike];exact(zQ5 _ _ _).symm
  · have hpn:(za l).1 < l.length:=by
     rcases Nat.lt_or_ge (za l).1 l.length with h3 | h3
     · exact h3
     · exact absurd (List.drop_of_length_le h3) h2
    have hpa':za (l++x::v)=za l:=by
     have:=hpa;rw[show zBJ l false=za l from rfl,if_pos hpn]at this;exact this
    have hte:(zz k l).1=0:=by
     by_cases h3:(zz k l).1≠0
     · rw[zEv hpe h2 h3]at h;exact absurd h h3
     · exact yAL.1 h3
    have hta:zz k (l++x::v)=zz k l:=by
     unfold zz at hte⊢;rw[hpa',List.drop_append_of_le_length hpl];exact zLc hx hte
    have hlen:=zCc hte;have hm:=zCd hpe h2 hte;have hd2:(l++x::v).drop (za (l++x::v)).1≠[]:=by
     rw[hpa',List.drop_append_of_le_length hpl];simp
    have hm2:=zCd (k:=k) (l:=l++x::v) (by rw[hpa'];exact hpe) hd2 (by rw[hta];exact hte);rw[hpa',hta,List.drop_append_of_le_length hlen.2]at hm2;have h4:(zBh (k+(za l).1+(zz k l).2.2) (l.drop ((za l).1+(zz k l).2.2))).2.2=0:=by
     rw[hm]at h;unfold zBq at h
     by_cases h5:(zBh (k+(za l).1+(zz k l).2.2) (l.drop ((za l).1+(zz k l).2.2))).2.2≠0
     · rw[if_pos h5]at h;exact absurd h h5
     · exact yAL.1 h5
    obtain⟨init,b,h6,h7⟩:=ih _ (k+(za l).1+(zz k l).2.2) (by rw[List.length_drop];omega) (ha.drop _) h4;have hk:k+(za l).1+(zz k l).2.2+(l.drop ((za l).1+(zz k l).2.2)).length=k+l.length:=by rw[List.length_drop];omega
    rw[hk]at h6 h7;refine⟨setAt (zz k l).2.1 (k+(za l).1) (za l).2.1::init,b,?_,?_⟩
    · rw[hm];unfold zBq;rw[if_neg (by rw[h4];simp),h6];rfl
    · rw[hm2,h7,zLd]
end
theorem zQ7 {Q:Tok→Prop} (hq:∀z l,(zA2 z l).1=0→∀k nl,Q (setAt (zA2 z l).2.1 k nl)):∀(f k:Nat) (l:List UInt16),∀t∈(zDP f k l).1,t.kind=0∨Q t:=by
 intro f
 induction f with
 | zero=>intro k l t ht;cases ht
 | succ f ih=>
  intro k l t ht;rw[zDP]at ht;split at ht
  · cases ht
  · split at ht
    · simp only[List.mem_singleton]at ht;subst ht;exact .inl rfl
    · split at ht
      · cases ht
      · rename_i h3
        unfold zBq at ht;split at ht
        · cases ht
        · rcases List.mem_cons.1 ht with rfl | h4
          · exact .inr (hq _ _ (yAL.1 h3) _ _)
          · exact ih _ _ t h4
theorem zOF {u:List UInt16}:∀{ts:List Tok} {e:Nat},zQ1 u e ts→Lst ts:=by
 intro ts
 induction ts with
 | nil=>intro e h;exact h.elim
 | cons t r ih=>
  intro e h;rcases h.2 with⟨h1,h2,_⟩ | ⟨h1,n,_,_,hok,h2⟩
  · subst h1;exact⟨by simp,h2,fun i hi=>by simp at hi⟩
  · have L:=ih h2;have hp:=L.pos;have hs:∀i,zH (t::r) (i+1)=zH r i:=fun i=>by unfold zH;simp
    refine⟨by simp,?_,fun i hi=>?_⟩
    · have:=L.last;rw[←hs]at this;rwa [show(t::r).length - 1=r.length - 1+1 by simp;omega]
    · cases i with
      | zero=>exact hok.kind
      | succ i=>
       rw[hs];exact L.mid i (by simp at hi;omega)
theorem zEz {u:List UInt16} {ts:List Tok} {a:Nat} (h:zCk u=(ts,a,0)):Lst ts:=by
 by_cases hl:4096 < u.length
 · unfold zCk at h;rw[if_pos hl]at h;simp only[Prod.mk.injEq]at h;omega
 · have ha:=zN6 (u:=u) (by omega) (by rw[h]);rw[h]at ha;simp only at ha;subst ha;exact zOF (zN9 (by omega) h)
theorem zLe:∀{f w:Nat},w < 4294967296^f→zA1 f w=[]→w=0:=by
 intro f w h hn;cases f with
 | zero=>omega
 | succ f=>
  rw[zA1]at hn;split at hn
  · assumption
  · cases hn
theorem zI1:∀(f v:Nat),v < 4294967296^f→∀x,(zA1 f v).getLast? =some x→x≠0:=by
 intro f
 induction f with
 | zero=>intro v _ x h;cases h
 | succ f ih=>
  intro v hv x h;rw[zA1]at h;split at h
  · cases h
  · rename_i h0
    have hdiv:v / 4294967296 < 4294967296^f:=by
     rw[Nat.div_lt_iff_lt_mul (by decide)];rw[Nat.pow_succ]at hv;exact hv
    rw[List.getLast?_cons]at h;injection h with h;cases hl:(zA1 f (v / 4294967296)).getLast? with
    | none=>
     rw[hl]at h;have h1:zA1 f (v / 4294967296)=[]:=List.getLast?_eq_none_iff.1 hl;have h2:=zLe hdiv h1;simp only[Option.getD_none]at h;omega
    | some y=>
     rw[hl]at h;simp only[Option.getD_some]at h;subst h;exact ih _ hdiv _ hl
theorem zTR {v:Nat} (h:v < zFi):zC3 false (zBL v)=true:=by
 unfold zC3;rw[decide_eq_true (zDw h),Bool.true_and];cases hl:(zBL v).getLast? with
 | none=>rfl
 | some x=>
  have h9:v < 4294967296^9:=yAA h (by unfold zFi;exact Nat.pow_le_pow_right (by decide) (by decide));have:=zI1 9 v h9 x hl;simp[this]
structure TGn (t:Tok):Prop where
 num:t.kind=2→t.nk=0∧0≤t.nn∧t.nn≤9007199254740991
 big:t.kind=3→zC3 false t.mag=true
 limb:∀y∈t.mag,y < 4294967296
theorem TGn.other {t:Tok} (h2:t.kind≠2) (h3:t.kind≠3) (hm:t.mag=[]):TGn t:=⟨fun h=>absurd h h2,fun h=>absurd h h3,by rw[hm];simp⟩
theorem zOG {z:Bool} {l:List UInt16} (h:(zA2 z l).1=0):TGn (zA2 z l).2.1:=by
 cases l with
 | nil=>exact absurd (show(5:Nat)=0 from h) (by decide)
 | cons x r=>
  rw[zAj]at h⊢;split
  · unfold zDg;split
    · exact .other (by simp[zm,bad]) (by simp[zm,bad]) (by simp[zm,bad])
    · refine .other ?_ ?_ rfl<;>(simp only;split<;>decide)
  · rename_i hx
    rw[if_neg hx]at h;split
    · rename_i h2
      rw[if_pos h2]at h;unfold zBw zB7 at h⊢;split
      · exact .other (by simp[zm,bad]) (by simp[zm,bad]) (by simp[zm,bad])
      · rename_i c1
        rw[if_neg c1]at h;split
        · rename_i c2
          rw[if_pos c2]at h;unfold zH6 at h⊢;split
          · exact .other (by simp[zm,bad]) (by simp[zm,bad]) (by simp[zm,bad])
          · rename_i c3
            split
            · exact .other (by simp[zm,bad]) (by simp[zm,bad]) (by simp[zm,bad])
            · exact⟨fun h=>absurd h (by simp),fun _=>zTR (Nat.lt_of_not_le c3),zEo _⟩
        · split
          · exact .other (by simp[zm,bad]) (by simp[zm,bad]) (by simp[zm,bad])
          · split
            · exact .other (by simp[zm,bad]) (by simp[zm,bad]) (by simp[zm,bad])
            · split
              · exact .other (by simp[zm,bad]) (by simp[zm,bad]) (by simp[zm,bad])
              · rename_i c5
                exact⟨fun _=>⟨rfl,Int.natCast_nonneg _,by show((zr _:Nat):Int)≤_;omega⟩,fun h=>absurd h (by simp),by simp[zm]⟩
    · rename_i h2
      rw[if_neg h2]at h;split
      · unfold zA5;split<;>exact .other (by simp[zm,bad]) (by simp[zm,bad]) (by simp[zm,bad])
      · split
        · exact .other (by simp[zm,bad]) (by simp[zm,bad]) (by simp[zm,bad])
        · unfold zBp;split
          · split<;>exact .other (by simp[zm,bad]) (by simp[zm,bad]) (by simp[zm,bad])
          · split<;>exact .other (by simp[zm,bad]) (by simp[zm,bad]) (by simp[zm,bad])
theorem zOH {u:List UInt16} {ts:List Tok} {a:Nat} (h:zCk u=(ts,a,0)):TL ts:=by
 have hl:u.length≤4096:=by
  apply Nat.le_of_not_lt;intro hl;unfold zCk at h;rw[if_pos hl]at h;simp only[Prod.mk.injEq]at h;omega
 have hsm:=zLY hl;rw[h]at hsm;have hall:∀t∈ts,t.kind=0∨(TGn t∧(t.kind=1→zCx t.text=true)∧(t.kind=6→zGt t.text=true)):=by
  have h2:ts=(zDP (u.length+1) 0 u).1:=by
   unfold zCk at h;rw[if_neg (by omega)]at h;rw[h]
  rw[h2];refine zQ7 (Q:=fun t=>TGn t∧(t.kind=1→zCx t.text=true)∧(t.kind=6→zGt t.text=true)) (fun z l hz k nl=>?_) _ _ _;have h3:=zOG hz;have h4:=zJq hz;refine⟨⟨h3.num,h3.big,h3.limb⟩,fun hk=>?_,fun hk=>?_⟩
  · exact(h4.txt (.inl hk)).2.2.1.1 hk
  · exact zQt ((h4.txt (.inr (.inr hk))).2.2.2.2.1 hk)
 intro i
 by_cases hi:i < ts.length
 · have hm:zH ts i∈ts:=by
    unfold zH;rw[yAH,yAC hi];exact List.getElem_mem hi
   have hs:=(hsm _ hm).1;rcases hall _ hm with h0 | ⟨h1,h2,h3⟩
   · exact⟨fun h=>by omega,fun h=>by omega,fun h=>by omega,fun h=>by omega,fun h=>by omega,by have:=hs.text;omega⟩
   · exact⟨h2,h3,h1.num,h1.big,fun _=>by have:=hs.str;omega,by have:=hs.text;omega⟩
 · have e:zH ts i=zm:=by
    unfold zH;rw[yAH,List.getElem?_eq_none (by omega)];rfl
   rw[e];exact⟨fun h=>absurd h (by decide),fun h=>absurd h (by decide),fun h=>absurd h (by decide),fun h=>absurd h (by decide),fun h=>absurd h (by decide),by simp[zm]⟩
theorem zOI {Q:Tok→Prop} (h0:∀k nl,Q (setAt zm k nl)) (hq:∀z l,(zA2 z l).1=0→∀k nl,Q (setAt (zA2 z l).2.1 k nl)):∀(f k:Nat) (l:List UInt16),∀t∈(zDP f k l).1,Q t:=by
 intro f
 induction f with
 | zero=>intro k l t ht;cases ht
 | succ f ih=>
  intro k l t ht;rw[zDP]at ht;split at ht
  · cases ht
  · split at ht
    · simp only[List.mem_singleton]at ht;subst ht;exact h0 _ _
    · split at ht
      · cases ht
      · rename_i h3
        unfold zBq at ht;split at ht
        · cases ht
        · rcases List.mem_cons.1 ht with rfl | h4
          · exact hq _ _ (yAL.1 h3) _ _
          · exact ih _ _ t h4
def zUE (L:List Tok):Prop:=∀i,∀y∈(zH L i).mag,y < 4294967296
theorem zOJ {u:List UInt16} {ts:List Tok} {a:Nat} (h:zCk u=(ts,a,0)):zUE ts:=by
 have hl:¬4096 < u.length:=by
  intro hl;unfold zCk at h;rw[if_pos hl]at h;simp only[Prod.mk.injEq]at h;omega
 have hall:∀t∈ts,∀y∈t.mag,y < 4294967296:=by
  have h2:ts=(zDP (u.length+1) 0 u).1:=by
   unfold zCk at h;rw[if_neg hl]at h;rw[h]
  rw[h2];exact zOI (Q:=fun t=>∀y∈t.mag,y < 4294967296) (fun k nl=>by simp[setAt,zm]) (fun z l hz k nl=>(zOG hz).limb) _ _ _
 intro i
 by_cases hi:i < ts.length
 · have hm:zH ts i∈ts:=by
    unfold zH;rw[yAH,yAC hi];exact List.getElem_mem hi
   exact hall _ hm
 · have e:zH ts i=zm:=by
    unfold zH;rw[yAH,List.getElem?_eq_none (by omega)];rfl
   rw[e];simp[zm]
def zUd:List UInt8:=[59,123,125,40,41]
theorem zLf:∀b∈zBv++zBl,∀c∈zUd,b.head? =some c→b=[c]:=by decide+kernel
theorem zOK:∀c∈zUd,zBY [c]=1∧zA4 c.toUInt16=false∧zP c.toUInt16=false∧(zGO c.toUInt16 || zw c.toUInt16)=false∧c.toUInt16.toNat≤127∧c.toUInt16.toUInt8=c∧c.toUInt16.toNat≠39∧c.toUInt16.toNat≠34∧c.toUInt16.toNat≠46∧c.toUInt16.toNat≠47∧[c]≠[63,46]:=by decide+kernel
theorem zLg {b:List UInt8} (h:∀x∈zBv++zBl,b≠x):zBY b=0:=by
 unfold zBY;rw[if_neg (fun h2=>h b (List.mem_append_left _ h2) rfl),if_neg (fun h2=>h b (List.mem_append_right _ h2) rfl)]
theorem zQ8 {c:UInt8} (hc:c∈zUd) (z:Bool) (s:List UInt16):zA2 z (c.toUInt16::s)=(0,{zm with kind:=5,text:=[c]},1):=by
 obtain⟨g1,g2,g3,g4,g5,g6,g7,g8,g9,g10,g11⟩:=zOK c hc;have hlong:∀n,zAc (c.toUInt16::s) (n+2)=0:=by
  intro n;unfold zAc;split
  · rename_i h
    simp only[Bool.and_eq_true,decide_eq_true_eq]at h;have hlen:n+2≤(c.toUInt16::s).length:=h.1.1;refine zLg (fun x hx e=>?_);have h1:(asc ((c.toUInt16::s).take (n+2))).head? =some c:=by
     rw[List.take_succ_cons];show some c.toUInt16.toUInt8=some c;rw[g6]
    rw[e]at h1;have h2:=zLf x hx c hc h1;have h3:(asc ((c.toUInt16::s).take (n+2))).length=n+2:=by
     unfold asc;rw[List.length_map,List.length_take];omega
    rw[e,h2]at h3;simp at h3
  · rfl
 have h1:zAc (c.toUInt16::s) 1=1:=by
  unfold zAc;have e:asc ((c.toUInt16::s).take 1)=[c]:=by
   show [c.toUInt16.toUInt8]=[c];rw[g6]
  rw[e,yAJ g11];simp only[List.take_succ_cons,List.take_zero,List.all_cons,List.all_nil,Bool.and_true,Bool.false_and,Bool.not_false];rw[if_pos (by rw[decide_eq_true g5];simp),g1]
 have hN:zA6 (c.toUInt16::s) 4=some 1:=by
  rw[zA6,if_neg (by rw[hlong 2];simp),zA6,if_neg (by rw[hlong 1];simp),zA6,if_neg (by rw[hlong 0];simp),zA6,if_pos (by rw[h1];decide)]
 rw[zAj,if_neg (by rw[g2];decide),if_neg (by rw[g3];decide),if_neg (by
  rw[yA.2 g7,yA.2 g8];decide),if_neg (by
  rw[yA.2 g9];simp)]
 unfold zBp;rw[hN];simp only;rw[h1,if_neg (by decide)];show((0,{zm with kind:=5,text:=[c.toUInt16.toUInt8]},1):Ans)=_;rw[g6]
theorem zJr {c:UInt8} (hc:c∈zUd) (k:Nat) (s:List UInt16):zBh k (c.toUInt16::s)=zBq {zm with kind:=5,text:=[c],pos:=k} (zBh (k+1) s):=by
 obtain⟨g1,g2,g3,g4,g5,g6,g7,g8,g9,g10,g11⟩:=zOK c hc;have hst:∀a:UInt8,zg [47,a] (c.toUInt16::s)=false:=fun a=>by
  unfold zg;simp only[List.map_cons,List.map_nil,List.isPrefixOf];rw[show((47:UInt8).toUInt16==c.toUInt16)=false from yA.2 (fun e=>g10 (by rw[←e];rfl))];rfl
 have hp:za (c.toUInt16::s)=(0,false,0):=by
  show zBJ (c.toUInt16::s) false=_;exact zDS g4 (by rw[hst,hst];rfl) false
 have ht:zz k (c.toUInt16::s)=(0,{zm with kind:=5,text:=[c]},1):=by
  unfold zz;rw[hp];exact zQ8 hc _ s
 rw[zCd (by rw[hp]) (by rw[hp];simp) (by rw[ht]),hp,ht];rfl
def nlB (B:List Tok):List Tok:=match B with | []=>[] | t::r=>{t with nl:=true}::r
theorem zRz (B:List Tok):nl0 (B,0,0)=(nlB B,0,0):=rfl
theorem zTS (j:Nat) (B:List Tok):zLo j (B,0,0)=(B.map (zCw j),0,0):=by unfold zLo;simp
theorem zJs (t:Tok) (B:List Tok):zBq t (B,0,0)=(t::B,0,0):=by unfold zBq;simp
theorem zOL (I B:List Tok):zHW I (B,0,0)=(I++B,0,0):=by unfold zHW;simp
theorem zH1 {I R:List Tok} {i:Nat} (h:i < I.length):zH (I++R) i=zH I i:=by
 unfold zH;simp only[yAH];rw[List.getElem?_append_left h]
theorem zGJ {I R:List Tok} {i:Nat}:zH (I++R) (i+I.length)=zH R i:=by
 unfold zH;simp only[yAH];rw[List.getElem?_append_right (by omega),Nat.add_sub_cancel]
theorem zQ9 (B:List Tok) (j i:Nat) (h:i < B.length):zH (B.map (zCw j)) i=zCw j (zH B i):=by
 unfold zH;simp only[yAH,List.getElem?_map];rw[yAC h];rfl
theorem zc (a b:List Tr):sizes (a++b)=sizes a+sizes b:=by
 induction a with
 | nil=>rw[List.nil_append,zO,Nat.zero_add]
 | cons t r ih=>rw[List.cons_append,zL,zL,ih];omega
theorem zJt {u:List UInt16} {ts:List Nd} {at_:Nat} (h:zAg u=(ts,at_,0)):∃L,zCk u=(L,0,0)∧Lst L∧(zG L (.program []) s0).2.bad=0∧(zG L (.program []) s0).1.size≤4096∧depT (zG L (.program []) s0).1≤48∧ts=flatT 0 (zG L (.program []) s0).1∧at_=0:=by
 obtain⟨⟨L,a,e⟩,hL⟩:∃q,zCk u=q:=⟨_,rfl⟩;unfold zAg at h;rw[hL]at h;simp only at h
 by_cases he:e≠0
 · rw[if_pos he]at h;simp only[Prod.mk.injEq]at h;exact absurd h.2.2 he
 rw[if_neg he]at h;have he':=yAL.1 he;subst he';have hl:¬4096 < u.length:=by
  intro h1;unfold zCk at hL;rw[if_pos h1]at hL;simp only[Prod.mk.injEq]at hL;omega
 have ha:=zN6 (u:=u) (by omega) (by rw[hL]);rw[hL]at ha;simp only at ha;subst ha;refine⟨L,hL,zEz hL,?_⟩;show(zG L (.program []) ⟨0,0,0⟩).2.bad=0∧_
 by_cases hb:(zG L (.program []) ⟨0,0,0⟩).2.bad≠0
 · rw[if_pos hb]at h;simp only[Prod.mk.injEq]at h;exact absurd h.2.2 hb
 rw[if_neg hb]at h
 by_cases hs:4096 < (zG L (.program []) ⟨0,0,0⟩).1.size
 · rw[if_pos hs]at h;simp only[Prod.mk.injEq]at h;omega
 rw[if_neg hs]at h
 by_cases hd:48 < depT (zG L (.program []) ⟨0,0,0⟩).1
 · rw[if_pos hd]at h;simp only[Prod.mk.injEq]at h;omega
 rw[if_neg hd]at h;simp only[Prod.mk.injEq]at h;exact⟨yAL.1 hb,Nat.le_of_not_lt hs,Nat.le_of_not_lt hd,h.1.symm,h.2.1.symm⟩
theorem zRA {u:List UInt16} {L:List Tok} {a:Nat} (hL:zCk u=(L,a,0)) (hb:(zG L (.program []) s0).2.bad=0) (hs:(zG L (.program []) s0).1.size≤4096) (hd:depT (zG L (.program []) s0).1≤48):zAg u=(flatT 0 (zG L (.program []) s0).1,0,0):=by
 unfold zAg;rw[hL];simp only;rw[if_neg (by simp)];unfold s0 at hb hs hd⊢;rw[if_neg (fun h=>h hb),if_neg (Nat.not_lt.2 hs),if_neg (Nat.not_lt.2 hd)]
def zJu (ts:List Nd):Nat:=(atN ts 0).kids.length
theorem zLh (x:Nd) (l:List Tr):zJu (flatT 0 (.mk x l))=l.length:=by
 unfold zJu atN;rw[zAZ];simp[zBg]
end Go.Proofs.YtlohaclgbfhijaaGreatDoor
