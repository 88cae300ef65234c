/- Joined for the claim EarlyRoot: the parser, the lexer and the trees as they are walked, made short by a program of mine. -/
import Derived.Test.YtlohaclgbfhijaaGreatDoorE22
import Derived.Test.YtlohaclgbfhijaaGreatDoorE12
import Derived.Test.YtlohaclgbfhijaaGreatDoorE11
import Derived.Test.YtlohaclgbfhijaaGreatDoorE21
import Derived.Test.YtlohaclgbfhijaaGreatDoorE01
set_option maxHeartbeats 16000000
set_option maxRecDepth 1000000
namespace Go.Proofs.YtlohaclgbfhijaaGreatDoor
open Go.Proofs.Tryz
theorem zGv:∀b∈zDL++zCU,zG3 b=true:=by decide+kernel
theorem zOX {b:List UInt8} (h:0 < zBf b):zG3 b=true:=by
 unfold zBf at h
 by_cases h1:b∈zDL
 · exact zGv b (List.mem_append_left _ h1)
 · rw[if_neg h1]at h
   by_cases h2:b∈zCU
   · exact zGv b (List.mem_append_right _ h2)
   · rw[if_neg h2]at h;omega
theorem zMD:∀b∈zCk,zCD (zAt b)=([{zj with kind:=5,text:=b},setAt zj b.length false],0,0)∧zCl b=false∧zBf b=0:=by decide+kernel
theorem zOY {b:List UInt8} (h:zBV b=1):zCD (zAt b)=([{zj with kind:=5,text:=b},setAt zj b.length false],0,0)∧zCl b=false∧zBf b=0:=by
 refine zMD b ?_;unfold zBV at h
 by_cases h1:b∈zCk
 · exact h1
 · rw[if_neg h1]at h;split at h<;>cases h
theorem zME {u:List UInt16} (hl:u.length≤4096) (h:(zCD u).2.2=0):(zCD u).2.1=0:=by
 rw[zBY (by omega)]at h⊢;exact zGg _ _ _ h
theorem zOZ {u:List UInt16} (hl:u.length≤4096) (h:(zCD u).2.2≠0):(zCD u).1=[]:=by
 rw[zBY (by omega)]at h⊢;exact zIP _ _ _ h
theorem zMF:∀(f k:Nat) (l:List UInt16),(zDI f k l).1.length≤f:=by
 intro f
 induction f with
 | zero=>intro k l;simp[zDI]
 | succ f ih=>
  intro k l;rw[zDI];split
  · simp
  · split
    · simp
    · split
      · simp
      · unfold zDn;split
        · simp
        · have:=ih (k+(zAB l).1+(zAi k l).2.2) (l.drop ((zAB l).1+(zAi k l).2.2));simp only[List.length_cons];omega
theorem zGw {u:List UInt16} (hl:u.length≤4096):(zCD u).1.length≤u.length+1:=by
 rw[zBY (by omega)];exact zMF _ _ _
theorem zHq:∀(f v:Nat),(zAh f v).length≤f:=by
 intro f
 induction f with
 | zero=>intro v;simp[zAh]
 | succ f ih=>
  intro v;rw[zAh];split
  · simp
  · have:=ih (v / 4294967296);simp only[List.length_cons];omega
theorem zJt (q:UInt16):∀(f:Nat) (l acc:List UInt16),(zDd q f l acc).2.1.length≤acc.length+l.length:=by
 intro f
 induction f with
 | zero=>intro l acc;simp[zDd]
 | succ f ih=>
  intro l acc;cases l with
  | nil=>simp[zDd]
  | cons x r=>
   rw[zDd];split
   · simp
   · split
     · simp
     · split
       · split
         · simp
         · rename_i h4
           have h5:=zEC (Decidable.not_not.1 h4);have:=ih (r.drop (zDM r).2.2) (acc++[(zDM r).2.1]);rw[List.length_drop,List.length_append]at this;simp only[List.length_cons,List.length_nil]at this⊢;omega
       · have:=ih r (acc++[x]);rw[List.length_append]at this;simp only[List.length_cons,List.length_nil]at this⊢;omega
structure SmallT (n:Nat) (t:Tok):Prop where
 str:t.str.length≤n
 mag:t.mag.length≤9
 text:t.text.length≤n
theorem SmallT.no (n:Nat):SmallT n zj:=⟨by simp[zj],by simp[zj],by simp[zj]⟩
theorem zHr (z:Bool) (l:List UInt16):SmallT l.length (zA9 z l).2.1:=by
 cases l with
 | nil=>exact SmallT.no _
 | cons x r=>
  rw[zBb];split
  · unfold zDm;split
    · exact SmallT.no _
    · refine⟨by simp[zj],by simp[zj],?_⟩;have:=zBL zAe (x::r);simpa [asc]using this
  · split
    · unfold zB1 zBt;split
      · exact SmallT.no _
      · split
        · unfold zIi;split
          · exact SmallT.no _
          · split
            · exact SmallT.no _
            · exact⟨by simp[zj],zHq 9 _,by simp[zj]⟩
        · split
          · exact SmallT.no _
          · split
            · exact SmallT.no _
            · split
              · exact SmallT.no _
              · exact⟨by simp[zj],by simp[zj],by simp[zj]⟩
    · split
      · unfold zBD;split
        · exact SmallT.no _
        · refine⟨?_,by simp[zj],by simp[zj]⟩;have:=zJt x (r.length+1) r [];simp only[List.length_nil,List.length_cons]at this⊢;unfold zO1;omega
      · split
        · exact SmallT.no _
        · unfold zCA;split
          · split
            · exact SmallT.no _
            · refine⟨by simp[zj],by simp[zj],?_⟩;simp only[asc,List.length_map];exact List.length_take_le' _ _
          · split<;>exact SmallT.no _
theorem SmallT.set {n:Nat} {t:Tok} (h:SmallT n t) (k:Nat) (nl:Bool):SmallT n (setAt t k nl):=⟨h.str,h.mag,h.text⟩
theorem SmallT.more {n m:Nat} {t:Tok} (h:SmallT n t) (hn:n≤m):SmallT m t:=⟨by have:=h.str;omega,h.mag,by have:=h.text;omega⟩
theorem zJu:∀(f k:Nat) (l:List UInt16),∀t∈(zDI f k l).1,SmallT l.length t∧k≤t.pos∧t.pos≤k+l.length:=by
 intro f
 induction f with
 | zero=>intro k l t ht;simp[zDI]at ht
 | succ f ih=>
  intro k l t;rw[zDI]
  by_cases h1:(zAB l).2.2≠0
  · rw[if_pos h1];intro h;simp at h
  rw[if_neg h1];have hpl:=zFW l
  by_cases h2:l.drop (zAB l).1=[]
  · rw[if_pos h2];intro h;simp only[List.mem_singleton]at h;subst h;exact⟨(SmallT.no _).set _ _,by simp[setAt],by simp[setAt];omega⟩
  rw[if_neg h2]
  by_cases h3:(zAi k l).1≠0
  · rw[if_pos h3];intro h;simp at h
  rw[if_neg h3];have hlen:=zC2 (k:=k) (l:=l) (Decidable.not_not.1 h3);unfold zDn;split
  · intro h;simp at h
  · intro h;rcases List.mem_cons.1 h with h | h
    · subst h;refine⟨SmallT.set ?_ _ _,by simp[setAt],by simp[setAt];omega⟩;have:=zHr (k+(zAB l).1==0) (l.drop (zAB l).1);rw[List.length_drop]at this;exact this.more (by omega)
    · have:=ih _ _ t h;rw[List.length_drop]at this;exact⟨this.1.more (by omega),by omega,by omega⟩
theorem zJv {u:List UInt16} (hl:u.length≤4096):∀t∈(zCD u).1,SmallT u.length t∧t.pos≤u.length:=by
 rw[zBY (by omega)];intro t ht;have:=zJu _ _ _ t ht;exact⟨this.1,by omega⟩
def zQ7 (t:Tok):Prop:=t.kind=1∨t.kind=5∨t.kind=6
structure TokOk (l:List UInt16) (t:Tok) (n:Nat):Prop where
 kind:t.kind≠0
 txt:zQ7 t→t.text.length=n∧l.take n=zAt t.text∧(t.kind=1↔zCl t.text=true)∧(t.kind=5↔zBV t.text=1)∧(t.kind=6↔0 < zBf t.text)
theorem zPG {x:UInt16} (h:zAe x=true):x.toNat < 128:=by
 unfold zAe zAs zO at h;simp only[Bool.or_eq_true,Bool.and_eq_true,decide_eq_true_eq,beq_iff_eq]at h;omega
theorem zId {d:List UInt16} (h:∀x∈d,x.toNat < 256):zAt (asc d)=d:=by
 unfold zAt asc;rw[List.map_map]
 conv=>rhs;rw[←List.map_id d]
 refine List.map_congr_left fun x hx=>?_;have h1:=h x hx;refine UInt16.toNat_inj.1 ?_;show x.toNat % 256=x.toNat
 omega
theorem zFQ:∀b∈zCk++zCv,∀c∈b.head?,zAs c.toUInt16=false:=by decide+kernel
theorem zMG {c:UInt8} {r:List UInt8} (h:zAs c.toUInt16=true):zBV (c::r)=0:=by
 unfold zBV;rw[if_neg,if_neg]
 · intro hm;have:=zFQ _ (List.mem_append_right _ hm) c rfl;rw[h]at this;cases this
 · intro hm;have:=zFQ _ (List.mem_append_left _ hm) c rfl;rw[h]at this;cases this
theorem zJw {p:UInt16→Bool} (l:List UInt16):l.take (l.takeWhile p).length=l.takeWhile p:=by
 conv=>lhs;arg 2;rw[←List.takeWhile_append_dropWhile (p:=p) (l:=l)]
 rw[List.take_left]
theorem zOa {x:UInt16} {r:List UInt16} (hx:zAs x=true) (h:(zDm (x::r)).1=0):TokOk (x::r) (zDm (x::r)).2.1 (zDm (x::r)).2.2:=by
 unfold zDm at h⊢
 by_cases h1:zq [92] ((x::r).drop ((x::r).takeWhile zAe).length)=true
 · rw[if_pos h1]at h;cases h
 · rw[if_neg h1];obtain⟨d,hd⟩:∃d,(x::r).takeWhile zAe=d:=⟨_,rfl⟩;have htk:=zJw (p:=zAe) (x::r);have hall:∀y∈d,zAe y=true:=by rw[←hd];exact List.all_eq_true.1 List.all_takeWhile
   have hd0:d=x::r.takeWhile zAe:=by rw[←hd,List.takeWhile_cons_of_pos (by unfold zAe;rw[hx];rfl)]
   rw[hd]at htk⊢;have hasc:zAt (asc d)=d:=zId fun y hy=>by have:=zPG (hall y hy);omega
   have hxx:x.toUInt8.toUInt16=x:=by
    have h2:(zAt (asc d))[0]? =d[0]? :=by rw[hasc]
    rw[hd0]at h2;simpa [zAt,asc]using h2
   have hlet:zAs x.toUInt8.toUInt16=true:=by rw[hxx];exact hx
   have hrun:zG3 (asc d)=true:=by
    rw[hd0];show(zAs x.toUInt8.toUInt16&&((r.takeWhile zAe).map (·.toUInt8)).all fun c=>zAe c.toUInt16)=true;rw[hlet,Bool.true_and,List.all_eq_true];intro c hc;obtain⟨y,hy,rfl⟩:=List.mem_map.1 hc;have hy1:zAe y=true:=hall y (by rw[hd0];simp[hy]);have hy2:=zPG hy1;have:y.toUInt8.toUInt16=y:=by
     refine UInt16.toNat_inj.1 ?_;show y.toNat % 256=y.toNat
     omega
    rw[this];exact hy1
   have hsg:zBV (asc d)=0:=by rw[hd0];exact zMG hlet
   refine⟨?_,fun _=>⟨by simp[asc],by rw[htk,hasc],?_,?_,?_⟩⟩
   · simp only;split<;>simp
   · unfold zCl;rw[hrun,Bool.true_and,beq_iff_eq]
     by_cases hw:0 < zBf (asc d)
     · simp only[hw,if_true];constructor
       · intro h;cases h
       · intro h;omega
     · simp only[hw,if_false,true_iff];omega
   · rw[hsg]
     by_cases hw:0 < zBf (asc d)<;>simp[hw]
   · by_cases hw:0 < zBf (asc d)<;>simp[hw]
theorem zOb {z:Bool} {l:List UInt16} (h:(zCA z l).1=0):TokOk l (zCA z l).2.1 (zCA z l).2.2:=by
 unfold zCA at h⊢;cases hs:zBE l 4 with
 | none=>
  rw[hs]at h;simp only at h;split at h<;>cases h
 | some n=>
  have h5:=zE7 hs;have h6:=zE8 h5.2.2;rw[hs]at h;simp only at h⊢
  by_cases h2:zAq l n=2
  · rw[if_pos h2]at h;cases h
  · rw[if_neg h2];have h7:=h5.2.2;have h8:zAq l n=zBV (asc (l.take n))∧(l.take n).all (fun x=>decide (x.toNat≤127))=true:=by
     unfold zAq at h7⊢;split at h7
     · rename_i h9
       rw[if_pos h9];simp only[Bool.and_eq_true]at h9;exact⟨rfl,h9.1.2⟩
     · exact absurd rfl h7
    have h1:zBV (asc (l.take n))=1:=by
     have:=zLW (asc (l.take n));rw[h8.1]at h2 h7;omega
    obtain⟨_,hn,hw⟩:=zOY h1;refine⟨by simp,fun _=>⟨by simp[asc];omega,(zId fun y hy=>by have:=List.all_eq_true.1 h8.2 y hy;simp at this;omega).symm,?_,?_,?_⟩⟩
    · simp only;rw[hn];simp
    · simp only;rw[h1];simp
    · simp only;rw[hw];simp
theorem zIe {l:List UInt16} {t:Tok} {n:Nat} (h:t.kind=2∨t.kind=3∨t.kind=4):TokOk l t n:=by
 refine⟨by omega,fun hx=>?_⟩;unfold zQ7 at hx;omega
theorem zIf {z:Bool} {l:List UInt16} (h:(zA9 z l).1=0):TokOk l (zA9 z l).2.1 (zA9 z l).2.2:=by
 cases l with
 | nil=>cases h
 | cons x r=>
  rw[zBb]at h⊢
  by_cases c1:zAs x=true
  · rw[if_pos c1]at h⊢;exact zOa c1 h
  rw[if_neg c1]at h⊢
  by_cases c2:zO x=true
  · rw[if_pos c2]at h⊢;refine zIe ?_;unfold zB1 zBt at h⊢;split at h
    · cases h
    · rename_i d1
      rw[if_neg d1];split at h
      · rename_i d2
        rw[if_pos d2];unfold zIi at h⊢;split at h
        · cases h
        · rename_i d3
          rw[if_neg d3];split at h
          · cases h
          · rename_i d4;rw[if_neg d4];simp
      · rename_i d2
        rw[if_neg d2];split at h
        · cases h
        · rename_i d3
          rw[if_neg d3];split at h
          · cases h
          · rename_i d4
            rw[if_neg d4];split at h
            · cases h
            · rename_i d5;rw[if_neg d5];simp
  rw[if_neg c2]at h⊢
  by_cases c3:(x.toNat==39 || x.toNat==34)=true
  · rw[if_pos c3]at h⊢;refine zIe ?_;unfold zBD at h⊢;split at h
    · rename_i d1;exact absurd h d1
    · rename_i d1;rw[if_neg d1];simp
  rw[if_neg c3]at h⊢
  by_cases c4:(x.toNat==46&&zAy 0 zO r)=true
  · rw[if_pos c4]at h;cases h
  rw[if_neg c4]at h⊢;exact zOb h
def zOc (u:List UInt16):Nat→List Tok→Prop
 | _,[]=>False
 | e,t::r=>e≤t.pos∧((r=[]∧t.kind=0∧t.pos=u.length)∨(r≠[]∧∃n,1≤n∧t.pos+n≤u.length∧TokOk (u.drop t.pos) t n∧zOc u (t.pos+n) r))
theorem zJx (u:List UInt16):∀(m k:Nat),u.length - k < m→k≤u.length→(zE9 k (u.drop k)).2.2=0→zOc u k (zE9 k (u.drop k)).1:=by
 intro m
 induction m with
 | zero=>intro k h;omega
 | succ m ih=>
  intro k hm hk h;have hpe:(zAB (u.drop k)).2.2=0:=by
   by_cases h1:(zAB (u.drop k)).2.2≠0
   · rw[zF6 h1]at h;exact absurd h h1
   · exact Decidable.not_not.1 h1
  have hpl:=zFW (u.drop k);rw[List.length_drop]at hpl
  by_cases h2:(u.drop k).drop (zAB (u.drop k)).1=[]
  · have h3:(zAB (u.drop k)).1=u.length - k:=by
     have:=congrArg List.length h2;rw[List.length_drop,List.length_drop]at this;simp only[List.length_nil]at this;omega
    rw[zH0 hpe h2];refine⟨by simp[setAt],.inl ⟨rfl,rfl,?_⟩⟩;simp only[setAt];omega
  · have hte:(zAi k (u.drop k)).1=0:=by
     by_cases h3:(zAi k (u.drop k)).1≠0
     · rw[zH1 hpe h2 h3]at h;exact absurd h h3
     · exact Decidable.not_not.1 h3
    have hlen:=zC2 hte;rw[List.length_drop]at hlen;have hmo:=zF7 hpe h2 hte;have hok:TokOk ((u.drop k).drop (zAB (u.drop k)).1) (zAi k (u.drop k)).2.1 (zAi k (u.drop k)).2.2:=zIf hte;rw[List.drop_drop]at hmo;rw[hmo]at h⊢;have h4:(zE9 (k+(zAB (u.drop k)).1+(zAi k (u.drop k)).2.2) (u.drop (k+((zAB (u.drop k)).1+(zAi k (u.drop k)).2.2)))).2.2=0:=by
     unfold zDn at h
     by_cases h5:(zE9 (k+(zAB (u.drop k)).1+(zAi k (u.drop k)).2.2) (u.drop (k+((zAB (u.drop k)).1+(zAi k (u.drop k)).2.2)))).2.2≠0
     · rw[if_pos h5]at h;exact absurd h h5
     · exact Decidable.not_not.1 h5
    rw[show k+((zAB (u.drop k)).1+(zAi k (u.drop k)).2.2)=k+(zAB (u.drop k)).1+(zAi k (u.drop k)).2.2 by omega]at h4⊢;have hc:=ih (k+(zAB (u.drop k)).1+(zAi k (u.drop k)).2.2) (by omega) (by omega) h4;unfold zDn;rw[if_neg (by rw[h4];simp)];refine⟨by simp[setAt],.inr ⟨fun e=>by rw[e]at hc;exact hc,(zAi k (u.drop k)).2.2,hlen.1,by simp only[setAt];omega,?_,hc⟩⟩;rw[List.drop_drop]at hok;exact⟨hok.kind,hok.txt⟩
theorem zMH {u:List UInt16} {ts:List Tok} (hl:u.length≤4096) (hq:zCD u=(ts,0,0)):zOc u 0 ts:=by
 rw[zBY (by omega)]at hq;have:=zJx u (u.length+1) 0 (by omega) (yAE _) (by rw[List.drop_zero,hq]);rwa [List.drop_zero,hq]at this
theorem zOd {Q:Tok→Prop} (hq:∀z l,(zA9 z l).1=0→∀k nl,Q (setAt (zA9 z l).2.1 k nl)):∀(f k:Nat) (l:List UInt16),∀t∈(zDI f k l).1,t.kind=0∨Q t:=by
 intro f
 induction f with
 | zero=>intro k l t ht;cases ht
 | succ f ih=>
  intro k l t ht;rw[zDI]at ht;split at ht
  · cases ht
  · split at ht
    · simp only[List.mem_singleton]at ht;subst ht;exact .inl rfl
    · split at ht
      · cases ht
      · rename_i h3
        unfold zDn at ht;split at ht
        · cases ht
        · rcases List.mem_cons.1 ht with rfl | h4
          · exact .inr (hq _ _ (Decidable.not_not.1 h3) _ _)
          · exact ih _ _ t h4
theorem zMI {u:List UInt16}:∀{ts:List Tok} {e:Nat},zOc u e ts→Lst ts:=by
 intro ts
 induction ts with
 | nil=>intro e h;exact h.elim
 | cons t r ih=>
  intro e h;rcases h.2 with⟨h1,h2,_⟩ | ⟨h1,n,_,_,hok,h2⟩
  · subst h1;exact⟨by simp,h2,fun i hi=>by simp at hi⟩
  · have L:=ih h2;have hp:=L.pos;have hs:∀i,zL (t::r) (i+1)=zL r i:=fun i=>by unfold zL;simp
    refine⟨by simp,?_,fun i hi=>?_⟩
    · have:=L.last;rw[←hs]at this;rwa [show(t::r).length - 1=r.length - 1+1 by simp;omega]
    · cases i with
      | zero=>exact hok.kind
      | succ i=>
       rw[hs];exact L.mid i (by simp at hi;omega)
theorem zFw {u:List UInt16} {ts:List Tok} {a:Nat} (h:zCD u=(ts,a,0)):Lst ts:=by
 by_cases hl:4096 < u.length
 · unfold zCD at h;rw[if_pos hl]at h;simp only[Prod.mk.injEq]at h;omega
 · have ha:=zME (u:=u) (by omega) (by rw[h]);rw[h]at ha;simp only at ha;subst ha;exact zMI (zMH (by omega) h)
theorem zJy:∀{f w:Nat},w < 4294967296^f→zAh f w=[]→w=0:=by
 intro f w h hn;cases f with
 | zero=>omega
 | succ f=>
  rw[zAh]at hn;split at hn
  · assumption
  · cases hn
theorem zHs:∀(f v:Nat),v < 4294967296^f→∀x,(zAh f v).getLast? =some x→x≠0:=by
 intro f
 induction f with
 | zero=>intro v _ x h;cases h
 | succ f ih=>
  intro v hv x h;rw[zAh]at h;split at h
  · cases h
  · rename_i h0
    have hdiv:v / 4294967296 < 4294967296^f:=by
     rw[Nat.div_lt_iff_lt_mul (by decide)];rw[Nat.pow_succ]at hv;exact hv
    rw[List.getLast?_cons]at h;injection h with h;cases hl:(zAh f (v / 4294967296)).getLast? with
    | none=>
     rw[hl]at h;have h1:zAh f (v / 4294967296)=[]:=List.getLast?_eq_none_iff.1 hl;have h2:=zJy hdiv h1;simp only[Option.getD_none]at h;omega
    | some y=>
     rw[hl]at h;simp only[Option.getD_some]at h;subst h;exact ih _ hdiv _ hl
theorem zQY {v:Nat} (h:v < zEn):zCg false (zAz v)=true:=by
 unfold zCg;rw[decide_eq_true (zDB h),Bool.true_and];cases hl:(zAz v).getLast? with
 | none=>rfl
 | some x=>
  have h9:v < 4294967296^9:=yAA h (by unfold zEn;exact Nat.pow_le_pow_right (by decide) (by decide));have:=zHs 9 v h9 x hl;simp[this]
structure TGn (t:Tok):Prop where
 num:t.kind=2→t.nk=0∧0≤t.nn∧t.nn≤9007199254740991
 big:t.kind=3→zCg false t.mag=true
 limb:∀y∈t.mag,y < 4294967296
theorem TGn.other {t:Tok} (h2:t.kind≠2) (h3:t.kind≠3) (hm:t.mag=[]):TGn t:=⟨fun h=>absurd h h2,fun h=>absurd h h3,by rw[hm];simp⟩
theorem zMJ {z:Bool} {l:List UInt16} (h:(zA9 z l).1=0):TGn (zA9 z l).2.1:=by
 cases l with
 | nil=>exact absurd (show(5:Nat)=0 from h) (by decide)
 | cons x r=>
  rw[zBb]at h⊢;split
  · unfold zDm;split
    · exact .other (by simp[zj,bad]) (by simp[zj,bad]) (by simp[zj,bad])
    · refine .other ?_ ?_ rfl<;>(simp only;split<;>decide)
  · rename_i hx
    rw[if_neg hx]at h;split
    · rename_i h2
      rw[if_pos h2]at h;unfold zB1 zBt at h⊢;split
      · exact .other (by simp[zj,bad]) (by simp[zj,bad]) (by simp[zj,bad])
      · rename_i c1
        rw[if_neg c1]at h;split
        · rename_i c2
          rw[if_pos c2]at h;unfold zIi at h⊢;split
          · exact .other (by simp[zj,bad]) (by simp[zj,bad]) (by simp[zj,bad])
          · rename_i c3
            split
            · exact .other (by simp[zj,bad]) (by simp[zj,bad]) (by simp[zj,bad])
            · exact⟨fun h=>absurd h (by simp),fun _=>zQY (Nat.lt_of_not_le c3),zDu _⟩
        · split
          · exact .other (by simp[zj,bad]) (by simp[zj,bad]) (by simp[zj,bad])
          · split
            · exact .other (by simp[zj,bad]) (by simp[zj,bad]) (by simp[zj,bad])
            · split
              · exact .other (by simp[zj,bad]) (by simp[zj,bad]) (by simp[zj,bad])
              · rename_i c5
                exact⟨fun _=>⟨rfl,Int.natCast_nonneg _,by show((zg _:Nat):Int)≤_;omega⟩,fun h=>absurd h (by simp),by simp[zj]⟩
    · rename_i h2
      rw[if_neg h2]at h;split
      · unfold zBD;split<;>exact .other (by simp[zj,bad]) (by simp[zj,bad]) (by simp[zj,bad])
      · split
        · exact .other (by simp[zj,bad]) (by simp[zj,bad]) (by simp[zj,bad])
        · unfold zCA;split
          · split<;>exact .other (by simp[zj,bad]) (by simp[zj,bad]) (by simp[zj,bad])
          · split<;>exact .other (by simp[zj,bad]) (by simp[zj,bad]) (by simp[zj,bad])
theorem zQZ {u:List UInt16} {ts:List Tok} {a:Nat} (h:zCD u=(ts,a,0)):TL ts:=by
 have hl:u.length≤4096:=by
  apply Nat.le_of_not_lt;intro hl;unfold zCD at h;rw[if_pos hl]at h;simp only[Prod.mk.injEq]at h;omega
 have hsm:=zJv hl;rw[h]at hsm;have hall:∀t∈ts,t.kind=0∨(TGn t∧(t.kind=1→zCl t.text=true)∧(t.kind=6→zG3 t.text=true)):=by
  have h2:ts=(zDI (u.length+1) 0 u).1:=by
   unfold zCD at h;rw[if_neg (by omega)]at h;rw[h]
  rw[h2];refine zOd (Q:=fun t=>TGn t∧(t.kind=1→zCl t.text=true)∧(t.kind=6→zG3 t.text=true)) (fun z l hz k nl=>?_) _ _ _;have h3:=zMJ hz;have h4:=zIf hz;refine⟨⟨h3.num,h3.big,h3.limb⟩,fun hk=>?_,fun hk=>?_⟩
  · exact(h4.txt (.inl hk)).2.2.1.1 hk
  · exact zOX ((h4.txt (.inr (.inr hk))).2.2.2.2.1 hk)
 intro i
 by_cases hi:i < ts.length
 · have hm:zL ts i∈ts:=by
    unfold zL;rw[yAG,yAB hi];exact List.getElem_mem hi
   have hs:=(hsm _ hm).1;rcases hall _ hm with h0 | ⟨h1,h2,h3⟩
   · exact⟨fun h=>by omega,fun h=>by omega,fun h=>by omega,fun h=>by omega,fun h=>by omega,by have:=hs.text;omega⟩
   · exact⟨h2,h3,h1.num,h1.big,fun _=>by have:=hs.str;omega,by have:=hs.text;omega⟩
 · have e:zL ts i=zj:=by
    unfold zL;rw[yAG,List.getElem?_eq_none (by omega)];rfl
   rw[e];exact⟨fun h=>absurd h (by decide),fun h=>absurd h (by decide),fun h=>absurd h (by decide),fun h=>absurd h (by decide),fun h=>absurd h (by decide),by simp[zj]⟩
theorem zMK {Q:Tok→Prop} (h0:∀k nl,Q (setAt zj k nl)) (hq:∀z l,(zA9 z l).1=0→∀k nl,Q (setAt (zA9 z l).2.1 k nl)):∀(f k:Nat) (l:List UInt16),∀t∈(zDI f k l).1,Q t:=by
 intro f
 induction f with
 | zero=>intro k l t ht;cases ht
 | succ f ih=>
  intro k l t ht;rw[zDI]at ht;split at ht
  · cases ht
  · split at ht
    · simp only[List.mem_singleton]at ht;subst ht;exact h0 _ _
    · split at ht
      · cases ht
      · rename_i h3
        unfold zDn at ht;split at ht
        · cases ht
        · rcases List.mem_cons.1 ht with rfl | h4
          · exact hq _ _ (Decidable.not_not.1 h3) _ _
          · exact ih _ _ t h4
def zQ8 (L:List Tok):Prop:=∀i,∀y∈(zL L i).mag,y < 4294967296
theorem zML {u:List UInt16} {ts:List Tok} {a:Nat} (h:zCD u=(ts,a,0)):zQ8 ts:=by
 have hl:¬4096 < u.length:=by
  intro hl;unfold zCD at h;rw[if_pos hl]at h;simp only[Prod.mk.injEq]at h;omega
 have hall:∀t∈ts,∀y∈t.mag,y < 4294967296:=by
  have h2:ts=(zDI (u.length+1) 0 u).1:=by
   unfold zCD at h;rw[if_neg hl]at h;rw[h]
  rw[h2];exact zMK (Q:=fun t=>∀y∈t.mag,y < 4294967296) (fun k nl=>by simp[setAt,zj]) (fun z l hz k nl=>(zMJ hz).limb) _ _ _
 intro i
 by_cases hi:i < ts.length
 · have hm:zL ts i∈ts:=by
    unfold zL;rw[yAG,yAB hi];exact List.getElem_mem hi
   exact hall _ hm
 · have e:zL ts i=zj:=by
    unfold zL;rw[yAG,List.getElem?_eq_none (by omega)];rfl
   rw[e];simp[zj]
theorem zW (a b:List Tr):sizes (a++b)=sizes a+sizes b:=by
 induction a with
 | nil=>rw[List.nil_append,zJ,Nat.zero_add]
 | cons t r ih=>rw[List.cons_append,zI,zI,ih];omega
theorem zOe {u:List UInt16} {ts:List Nd} {at_:Nat} (h:zBc u=(ts,at_,0)):∃L,zCD u=(L,0,0)∧Lst L∧(zF L (.program []) s0).2.bad=0∧(zF L (.program []) s0).1.size≤4096∧depT (zF L (.program []) s0).1≤48∧ts=flatT 0 (zF L (.program []) s0).1∧at_=0:=by
 obtain⟨⟨L,a,e⟩,hL⟩:∃q,zCD u=q:=⟨_,rfl⟩;unfold zBc at h;rw[hL]at h;simp only at h
 by_cases he:e≠0
 · rw[if_pos he]at h;simp only[Prod.mk.injEq]at h;exact absurd h.2.2 he
 rw[if_neg he]at h;have he':=Decidable.not_not.1 he;subst he';have hl:¬4096 < u.length:=by
  intro h1;unfold zCD at hL;rw[if_pos h1]at hL;simp only[Prod.mk.injEq]at hL;omega
 have ha:=zME (u:=u) (by omega) (by rw[hL]);rw[hL]at ha;simp only at ha;subst ha;refine⟨L,hL,zFw hL,?_⟩;show(zF L (.program []) ⟨0,0,0⟩).2.bad=0∧_
 by_cases hb:(zF L (.program []) ⟨0,0,0⟩).2.bad≠0
 · rw[if_pos hb]at h;simp only[Prod.mk.injEq]at h;exact absurd h.2.2 hb
 rw[if_neg hb]at h
 by_cases hs:4096 < (zF L (.program []) ⟨0,0,0⟩).1.size
 · rw[if_pos hs]at h;simp only[Prod.mk.injEq]at h;omega
 rw[if_neg hs]at h
 by_cases hd:48 < depT (zF L (.program []) ⟨0,0,0⟩).1
 · rw[if_pos hd]at h;simp only[Prod.mk.injEq]at h;omega
 rw[if_neg hd]at h;simp only[Prod.mk.injEq]at h;exact⟨Decidable.not_not.1 hb,Nat.le_of_not_lt hs,Nat.le_of_not_lt hd,h.1.symm,h.2.1.symm⟩
open Go.RowKit
def ParseQ (q:List Nd×Nat×Nat) (w:World) (e:Ending) (w':World):Prop:=
 ∃A n c,e=.returned (.tuple #[.agg #[.slice A n c],.int .i64 (q.2.1:Int),.int .i64 (q.2.2:Int)])∧NdsR w' w'.heap.size A n q.1∧n≤c∧c≤maxLen∧Below w.heap.size w w'
theorem ParseQ.nil {q:List Nd×Nat×Nat} {w w':World} {a e:Nat} (hq:q=([],a,e)) (hb:Below w.heap.size w w'):ParseQ q w (.returned (.tuple #[.agg #[.slice none 0 0],.int .i64 (a:Int),.int .i64 (e:Int)])) w':=by
 subst hq;exact⟨none,0,0,rfl,⟨rfl,fun h=>absurd h (Nat.lt_irrefl _)⟩,yAC _,yAE _,hb⟩
theorem zMM {A:Option Addr} {B n c:Nat} {u:List UInt16} {w:World} (hB:B≤w.heap.size) (hn:u.length=n) (ha:Reads w B 1 A n (zAD u)) (hc:n≤c) (hc2:c≤maxLen) (hT:Tab w) (hsz:(zF (zCD u).1 (.program []) ⟨0,0,0⟩).1.size≤1000000):
 Calls prog 16 #[.slice A n c] w (ParseQ (zBc u) w):=by
 obtain⟨W,hW⟩:∃W,w.alloc (.cells #[.slice none 0 0] 27)=W:=⟨_,rfl⟩;have hbW:Below w.heap.size w W:=by rw[←hW];exact(Below.refl _ _).alloc (yAC _) _
 obtain⟨X,hX⟩:∃X,w.heap.size=X:=⟨_,rfl⟩;have HX:=zA (show Bx W X 27 [.slice none 0 0] by rw[←hW,←hX];exact Bx.new w _ _);have HBW:=zA hbW;have hWs:w.heap.size≤W.heap.size:=hbW.size;have HTk:=zA (zHa (w:=W) (yAD hB hWs) hn (ha.below (hbW.mono hB)) hc hc2);have HTW:=zA (hT.below hT.lt hbW);have HRw:=zA hX;obtain⟨⟨L,at_,e⟩,hL⟩:∃q,zCD u=q:=⟨_,rfl⟩;rw[hL]at HTk hsz;have HL:=zA hL;have HSZ:=zA hsz;clear hbW hB hn ha hc hc2 hT hsz hL;have zX:W.cell? ⟨X,0,none⟩=some (.slice none 0 0):=HX.out.cell 0;have fX:W.frozen? ⟨X,0,none⟩=false:=HX.out.frozen 0;go_enter func16,ntmps16;go_upto_region 1 with(fail);clear hW hX;go_wp2_with fail;refine HTk.out.mono ?_;rintro ev1 w1 ⟨v,rfl,htok,hb1⟩;have HB1:=zA hb1;have HX1:=zA (HX.out.grown (zi none hb1) (by simp));have HTok:=zA htok;obtain⟨lc,hown,_⟩:=htok;obtain⟨AT,cT,rfl,_,_⟩:=zR hown;clear hown hb1 HTk
 by_cases he:e=0
 · subst he;have he0:(((0:Nat):Int) !=0)=false:=rfl;have hLst:=zFw HL.out;have HTL:=zA (zQZ HL.out);have hul:u.length≤4096:=by
    apply Nat.le_of_not_lt;intro h1;have h2:=HL.out;unfold zCD at h2;rw[if_pos h1]at h2;simp only[Prod.mk.injEq]at h2;omega
   have hLl:L.length≤4097:=by
    have h1:=zGw hul;rw[HL.out]at h1;exact yAD h1 (by omega)
   have HLM:=zA (zML HL.out);obtain⟨g,hg⟩:∃g,w1.heap.size=g:=⟨_,rfl⟩;obtain⟨W2,hW2⟩:∃W2,w1.alloc (.cells #[.slice AT L.length cT,.int .i64 0,.int .i64 0,.int .i64 0] 69)=W2:=⟨_,rfl⟩;have hg12:w1.grownBy W2 none:=by rw[←hW2];exact zG _ _ _
   have HP:=zA (show Pa ⟨g,L,AT,L.length,cT,w1⟩ ⟨0,0,0⟩ W2 from by
    refine⟨⟨hLst,rfl,hLl,?_,by show w1.heap.size≤g;omega⟩,?_,?_,yAE _⟩
    · exact HTok.out.base (yAE _)
    · show Below w1.heap.size w1 W2;rw[←hW2];exact(Below.refl _ _).alloc (yAC _) _
    · show Bx W2 g _ _;rw[←hW2,←hg];exact Bx.new w1 [.slice AT L.length cT,.int .i64 0,.int .i64 0,.int .i64 0] _)
   have hgX:X < g:=by have:=HX1.out.lt;omega
   have HX2:=zA (HX1.out.grown hg12 (by simp));have HB2:=zA (show Below w.heap.size w W2 from(HBW.out.trans (HB1.out.mono hWs)).trans (by
    have h0:Below w1.heap.size w1 W2:=by rw[←hW2];exact(Below.refl _ _).alloc (yAC _) _
    exact h0.mono (yAD hWs HB1.out.size)))
   have HT1:=zA (HTW.out.below HTW.out.lt HB1.out);obtain⟨⟨tr,s⟩,hr⟩:∃q,zF L (.program []) ⟨0,0,0⟩=q:=⟨_,rfl⟩;have HSZ2:=zA (show tr.size≤1000000 by have:=HSZ.out;rw[hr]at this;exact this);have HNB:=zA (show NB tr by have:=zQ6 HTL.out HLM.out (.program []) ⟨0,0,0⟩ zCY;rw[hr]at this;exact this);have cp:Calls prog 34 #[.pointer (some ⟨g,0,none⟩)] W2 (zCP ⟨g,L,AT,L.length,cT,w1⟩ (zF L (.program []) ⟨0,0,0⟩) W2):=zHo (C:=⟨g,L,AT,L.length,cT,w1⟩) HT1.out HTL.out ⟨yAE _,trivial⟩ HP.out;rw[hr]at cp;have HCP:=zA cp;have HR:=zA hr;clear cp hr hLst hg12 HTok HX HX1 zX fX HSZ;go_upto_region 5 with(fail);clear hW2;go_wp2_with fail;refine HCP.out.mono ?_;rintro ev3 w3 ⟨d0,d1,d2,d3,d4,d5,d6,d7,d8,rfl,ht3,hp3,hg3⟩;have HP3:=zA (show Pa ⟨g,L,AT,L.length,cT,w1⟩ s w3 from hp3);have HX3:=zA (HX2.out.gg hg3 (by show g≠X;omega));have HB3:=zA (HB2.out.trans (zAK hg3 (show w.heap.size≤g by rw[HRw.out];omega) (by show g≤W2.heap.size;exact Nat.le_of_lt HP.out.lt)));have HT3:=zA (show TrC w3 _ tr _ from ht3);obtain⟨so_0,so_1,so_2,so_3,so_4,so_5,so_6,so_7,so_8⟩:=HT3.out.sto;clear ht3 hp3 hg3 HCP HP HX2 HB2;obtain⟨W4,hW4⟩:∃W4,w3.alloc (.cells #[d0,d1,d2,d3,d4,d5,d6,d7,d8] 72)=W4:=⟨_,rfl⟩;have hg34:w3.grownBy W4 none:=by rw[←hW4];exact zG _ _ _
   obtain⟨R,hR⟩:∃R,w3.heap.size=R:=⟨_,rfl⟩;have HR4:=zA (show Bx W4 R 72 [d0,d1,d2,d3,d4,d5,d6,d7,d8] by rw[←hW4,←hR];exact Bx.new w3 _ _);have HP4:=zA (HP3.out.new hg34);have HX4:=zA (HX3.out.grown hg34 (by simp));have HT4:=zA (TrC.keep hg34 (.none_ _ _) _ _ HT3.out);have HB4:=zA (HB3.out.trans (show Below w.heap.size w3 W4 by
    have h0:Below w3.heap.size w3 W4:=by rw[←hW4];exact(Below.refl _ _).alloc (yAC _) _
    exact h0.mono HB3.out.size))
   clear hg34 HP3 HX3 HT3 HB3;go_upto_region 6 with(fail);clear hW4 hR;have cb:W4.cell? ⟨g,2,none⟩=some (.int .i64 (s.bad:Int)):=HP4.out.c2;have cf:W4.cell? ⟨g,3,none⟩=some (.int .i64 (zPB L s:Int)):=HP4.out.c3;have zX:W4.cell? ⟨X,0,none⟩=some (.slice none 0 0):=HX4.out.cell 0;have fX:W4.frozen? ⟨X,0,none⟩=false:=HX4.out.frozen 0
   by_cases hb:s.bad=0
   · have hb1:((s.bad:Int) !=0)=false:=by rw[bne_eq_false_iff_eq];omega
     have HBD:=zA hb;clear hb;obtain⟨zr_0,zr_1,zr_2,zr_3,zr_4,zr_5,zr_6,zr_7,zr_8⟩:=HR4.out.nine;have HF:=zA (zOW HT4.out HSZ2.out);go_wp2_with fail;refine HF.out.mono ?_;rintro ev5 w5 ⟨A5,n5,c5,rfl,hl5,hg5⟩;have hrd:=hl5.reads (nq_flatT HNB.out 0) (zFv tr) (by rw[flatT_len];exact HSZ2.out);have HN5:=zA hrd.1;have hn5:n5=tr.size:=by rw[←flatT_len 0 tr];exact hrd.1.1.symm
     have hc5:=zA hrd.2;have HX5:=zA (HX4.out.grown hg5 (by simp));have HB5:=zA (HB4.out.trans (show Below w.heap.size W4 w5 from⟨hg5.os,hg5.tape,hg5.output,hg5.size,fun i hi=>hg5.block i (yAA hi HB4.out.size) (by simp)⟩));have HN5e:=zA hn5;have HLd:=zA hl5;clear hl5 hg5 hrd HF zr_0 zr_1 zr_2 zr_3 zr_4 zr_5 zr_6 zr_7 zr_8 cb cf zX fX so_0 so_1 so_2 so_3 so_4 so_5 so_6 so_7 so_8 hn5;obtain⟨W6,hW6⟩:∃W6,w5.alloc (.cells #[.slice A5 n5 c5] 27)=W6:=⟨_,rfl⟩;have hg56:w5.grownBy W6 none:=by rw[←hW6];exact zG _ _ _
     obtain⟨T,hT⟩:∃T,w5.heap.size=T:=⟨_,rfl⟩;have HT6:=zA (show Bx W6 T 27 [.slice A5 n5 c5] by rw[←hW6,←hT];exact Bx.new w5 _ _);have hXT:X < T:=by have:=HX5.out.lt;omega
     have HX6:=zA (HX5.out.grown hg56 (by simp));have hbel56:Below w5.heap.size w5 W6:=by rw[←hW6];exact(Below.refl _ _).alloc (yAC _) _
     have HN6:=zA ((HN5.out.below hbel56).more hbel56.size);have HB6:=zA (HB5.out.trans (hbel56.mono HB5.out.size));have HLd6:=zA (HLd.out.new hg56);clear hg56 HN5 HX5 HB5 hbel56 HLd;go_upto_region 9 with(fail);clear hW6 hT;have zT:W6.cell? ⟨T,0,none⟩=some (.slice A5 n5 c5):=HT6.out.cell 0;have zX:W6.cell? ⟨X,0,none⟩=some (.slice none 0 0):=HX6.out.cell 0;have fX:W6.frozen? ⟨X,0,none⟩=false:=HX6.out.frozen 0;have hn1:0 < n5:=by have:=zBi tr;have:=HN5e.out;omega
     by_cases hlong:4096 < n5
     · have hl2:(4096:Int) < (n5:Int):=by omega
       have HLO:=zA hlong;clear hlong;go_wp2_with fail;have hz0:(W6.setCell ⟨X,0,none⟩ (.slice none 0 0)).cell? ⟨X,0,none⟩=some (.slice none 0 0):=(HX6.out.set 0 _).cell 0;refine bodyPost_ret (v:=.tuple #[.agg #[.slice none 0 0],.int .i64 0,.int .i64 3]) (by simp[results,results16,go_sem,hz0]) rfl ?_;refine ParseQ.nil (a:=0) (e:=3) ?_ (HB6.out.trans (zAK (zK W6 X 0 _) (by rw[HRw.out];exact yAC _) (Nat.le_of_lt HX6.out.lt)));unfold zBc;rw[HL.out];simp only[HR.out];rw[if_neg (by simp),if_neg (by rw[HBD.out];simp),if_pos (by have:=HLO.out;have:=HN5e.out;omega)]
     · have hl2:¬((4096:Int) < (n5:Int)):=by omega
       have HD:=zA (zIB (w:=W6) (c:=c5) HN6.out (yAC _) hn1 (by omega) (zFv tr) (fun x hx=>yAD (kids_flatT tr 0 x hx) HSZ2.out) rfl);have HLO:=zA hlong;clear hlong;go_wp2_with fail;refine HD.out.mono ?_;rintro ev7 w7 ⟨A7,c7,rfl,hq7,hc7,hr7,hb7⟩;have HX7:=zA (HX6.out.grown (zi none hb7) (by simp));have HT7:=zA (HT6.out.grown (zi none hb7) (by simp));have HB7:=zA (HB6.out.trans (hb7.mono HB6.out.size));have HN7:=zA ((HN6.out.below hb7).more hb7.size);have HM:=zA (zKZ (c:=c7) hq7 hn1 (by have:=HLO.out;omega) hr7 (show zD8 (zG4 (flatT 0 tr))=depT tr from zF3 tr));have HLd7:=zA (HLd6.out.new (zi none hb7));clear hq7 hc7 hr7 hb7 HD zT zX fX;go_wp2_with fail;refine HM.out.mono ?_;rintro ev8 w8 ⟨rfl,rfl⟩;have zT:w7.cell? ⟨T,0,none⟩=some (.slice A5 n5 c5):=HT7.out.cell 0;have zX:w7.cell? ⟨X,0,none⟩=some (.slice none 0 0):=HX7.out.cell 0;have fX:w7.frozen? ⟨X,0,none⟩=false:=HX7.out.frozen 0
       by_cases hdeep:48 < depT tr
       · have hd2:(48:Int) < (depT tr:Int):=by omega
         have HDE:=zA hdeep;clear hdeep;go_wp2_with fail;have hz0:(w7.setCell ⟨X,0,none⟩ (.slice none 0 0)).cell? ⟨X,0,none⟩=some (.slice none 0 0):=(HX7.out.set 0 _).cell 0;refine bodyPost_ret (v:=.tuple #[.agg #[.slice none 0 0],.int .i64 0,.int .i64 7]) (by simp[results,results16,go_sem,hz0]) rfl ?_;refine ParseQ.nil (a:=0) (e:=7) ?_ (HB7.out.trans (zAK (zK w7 X 0 _) (by rw[HRw.out];exact yAC _) (Nat.le_of_lt HX7.out.lt)));unfold zBc;rw[HL.out];simp only[HR.out];rw[if_neg (by simp),if_neg (by rw[HBD.out];simp),if_neg (by have:=HLO.out;have:=HN5e.out;omega),if_pos HDE.out]
       · have hd2:¬((48:Int) < (depT tr:Int)):=by omega
         have HDE:=zA hdeep;clear hdeep;go_wp2_with fail;have hz0:(w7.setCell ⟨X,0,none⟩ (.slice A5 n5 c5)).cell? ⟨X,0,none⟩=some (.slice A5 n5 c5):=(HX7.out.set 0 _).cell 0;refine bodyPost_ret (v:=.tuple #[.agg #[.slice A5 n5 c5],.int .i64 0,.int .i64 0]) (by simp[results,results16,go_sem,hz0]) rfl ?_;have hpf:zBc u=(flatT 0 tr,0,0):=by
          unfold zBc;rw[HL.out];simp only[HR.out];rw[if_neg (by simp),if_neg (by rw[HBD.out];simp),if_neg (by have:=HLO.out;have:=HN5e.out;omega),if_neg HDE.out]
         rw[hpf];have hfin:=(HLd7.out.var (u:=.slice A5 n5 c5) HX7.out).reads (nq_flatT HNB.out 0) (zFv tr) (by rw[flatT_len];exact HSZ2.out);exact⟨A5,n5,c5,rfl,hfin.1,hfin.2.1,hfin.2.2,HB7.out.trans (zAK (zK w7 X 0 _) (by rw[HRw.out];exact yAC _) (Nat.le_of_lt HX7.out.lt))⟩
   · have hb1:((s.bad:Int) !=0)=true:=by rw[bne_iff_ne];omega
     have HBD:=zA hb;clear hb;go_wp2_with fail;have HPF:=zA (show zBc u=([],zPB L s,s.bad)from by
      unfold zBc;rw[HL.out];simp only[HR.out];rw[if_neg (by simp),if_pos HBD.out];unfold zPB;rw[if_neg HBD.out])
     go_region_law (fail)
     all_goals
      go_wp2_with fail;have hz0:(W4.setCell ⟨X,0,none⟩ (.slice none 0 0)).cell? ⟨X,0,none⟩=some (.slice none 0 0):=(HX4.out.set 0 _).cell 0;refine bodyPost_ret (v:=.tuple #[.agg #[.slice none 0 0],.int .i64 (zPB L s:Int),.int .i64 (s.bad:Int)]) (by simp[results,results16,go_sem,hz0]) rfl ?_;exact ParseQ.nil HPF.out (HB4.out.trans (zAK (show W4.grownBy (W4.setCell ⟨X,0,none⟩ (.slice none 0 0)).drew (some X)from zC (zK W4 X 0 _) (zAk _ _)) (by rw[HRw.out];exact yAC _) (Nat.le_of_lt HX4.out.lt)))
 · have he1:((e:Int) !=0)=true:=by rw[bne_iff_ne];omega
   have HE:=zA he;clear he;have zX:w1.cell? ⟨X,0,none⟩=some (.slice none 0 0):=HX1.out.cell 0;have fX:w1.frozen? ⟨X,0,none⟩=false:=HX1.out.frozen 0;go_wp2_with fail;have hz0:(w1.setCell ⟨X,0,none⟩ (.slice none 0 0)).cell? ⟨X,0,none⟩=some (.slice none 0 0):=(HX1.out.set 0 _).cell 0;refine bodyPost_ret (v:=.tuple #[.agg #[.slice none 0 0],.int .i64 (at_:Int),.int .i64 (e:Int)]) (by simp[results,results16,go_sem,hz0]) rfl ?_;refine ParseQ.nil (by unfold zBc;rw[HL.out];exact if_pos HE.out) ?_;have h1:Below w.heap.size w w1:=HBW.out.trans (HB1.out.mono hWs);exact h1.trans (zAK (zK w1 X 0 _) (by rw[HRw.out];exact yAC _) (Nat.le_of_lt HX1.out.lt))
end Go.Proofs.YtlohaclgbfhijaaGreatDoor
