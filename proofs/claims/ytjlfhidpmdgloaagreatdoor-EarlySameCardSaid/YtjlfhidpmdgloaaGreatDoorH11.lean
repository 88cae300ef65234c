/- Joined for the claim EarlySame: the parser, the lexer and the trees as they are walked, made short by a program of mine. -/
import Derived.Test.YtjlfhidpmdgloaaGreatDoorH10
import Derived.Test.YtjlfhidpmdgloaaGreatDoorH05
import Derived.Test.YtjlfhidpmdgloaaGreatDoorH01
import Derived.Test.YtjlfhidpmdgloaaGreatDoorH04
import Derived.Laws.IdiomStrings
import Derived.Test.YtjlfhidpmdgloaaGreatDoorH03
set_option maxHeartbeats 16000000
set_option maxRecDepth 1000000
namespace Go.Proofs.YtjlfhidpmdgloaaGreatDoor
open Go.Proofs.Tryz
variable {w:World} {n c B k X cap r:Nat} {A:jQ} {l u xs:jH} {ts:List Nd} {p:UInt16→Bool} {z:Bool} {T:TypeId} {t:Tok} {Q:Tok→Prop}
def zYY (t:Tok):Prop:=t.kind=1∨t.kind=5∨t.kind=6
structure TokOk (l:jH) (t:Tok) (n:Nat):Prop where
 kind:t.kind≠0
 txt:zYY t→t.text.length=n∧l.take n=zV t.text∧(t.kind=1↔zBn t.text=true)∧(t.kind=5↔zCA t.text=1)∧(t.kind=6↔0 < zCS t.text)
theorem zVz {x:UInt16} (h:zAu x=true):x.toNat < 128:=by
 unfold zAu zAx zJ at h;simp only[yBU,yAQ,yBG,yBL]at h;omega
theorem zMX {d:jH} (h:∀x∈d,x.toNat < 256):zV (asc d)=d:=by
 unfold zV asc;rw[List.map_map]
 conv=>rhs;rw[←List.map_id d]
 refine List.map_congr_left fun x b=>?_;have h1:=h x b;refine yBS.1 ?_;show x.toNat % 256=x.toNat
 omega
theorem zHw:∀b∈zl++zCn,∀c∈b.head?,zAx c.toUInt16=false:=by decide+kernel
theorem zRE {c:UInt8} {r:jE} (h:zAx c.toUInt16=true):zCA (c::r)=0:=by
 unfold zCA;rw[if_neg,if_neg]
 · intro b;have:=zHw _ (yBX _ b) c rfl;rw[h]at this;cases this
 · intro b;have:=zHw _ (yCJ _ b) c rfl;rw[h]at this;cases this
theorem zOE (l:jH):l.take (l.takeWhile p).length=l.takeWhile p:=by
 conv=>lhs;arg 2;rw[←List.takeWhile_append_dropWhile (p:=p) (l:=l)]
 rw[List.take_left]
theorem zUd {x:UInt16} {r:jH} (s:zAx x=true) (h:(zCm (x::r)).1=0):TokOk (x::r) (zCm (x::r)).2.1 (zCm (x::r)).2.2:=by
 unfold zCm at h⊢
 by_cases h1:zg [92] ((x::r).drop ((x::r).takeWhile zAu).length)=true
 · rw[if_pos h1]at h;cases h
 · rw[if_neg h1];obtain⟨d,m⟩:=jx ((x::r).takeWhile zAu);have k:=zOE (p:=zAu) (x::r);have f:∀y∈d,zAu y=true:=by rw[←m];exact yBH.1 List.all_takeWhile
   have b:d=x::r.takeWhile zAu:=by rw[←m,yBY (by unfold zAu;rw[s];rfl)]
   rw[m]at k⊢;have g:zV (asc d)=d:=zMX fun y o=>by have:=zVz (f y o);omega
   have t:x.toUInt8.toUInt16=x:=by
    have u:(zV (asc d))[0]? =d[0]? :=by rw[g]
    rw[b]at u;simpa [zV,asc]using u
   have j:zAx x.toUInt8.toUInt16=true:=by rw[t];exact s
   have q:zGL (asc d)=true:=by
    rw[b];show(zAx x.toUInt8.toUInt16&&((r.takeWhile zAu).map (·.toUInt8)).all fun c=>zAu c.toUInt16)=true;rw[j,yC,yBH];intro c z;obtain⟨y,o,rfl⟩:=List.mem_map.1 z;have l:zAu y=true:=f y (by rw[b];simp[o]);have A:=zVz l;have:y.toUInt8.toUInt16=y:=by
     refine yBS.1 ?_;show y.toNat % 256=y.toNat
     omega
    rw[this];exact l
   have v:zCA (asc d)=0:=by rw[b];exact zRE j
   refine⟨?_,fun _=>⟨by simp[asc],by rw[k,g],?_,?_,?_⟩⟩
   · simp only;split<;>simp
   · unfold zBn;rw[q,yC,yBL]
     by_cases e:0 < zCS (asc d)
     · simp only[e,if_true];constructor
       · intro h;cases h
       · intro h;omega
     · simp only[e,if_false,true_iff];omega
   · rw[v]
     by_cases e:0 < zCS (asc d)<;>simp[e]
   · by_cases e:0 < zCS (asc d)<;>simp[e]
theorem zUe (h:(zCI z l).1=0):TokOk l (zCI z l).2.1 (zCI z l).2.2:=by
 unfold zCI at h⊢;cases hs:zBa l 4 with
 | none=>
  rw[hs]at h;simp only at h;split at h<;>cases h
 | some n=>
  have e:=zFW hs;have h6:=zFX e.2.2;rw[hs]at h;simp only at h⊢
  by_cases c:zAy l n=2
  · rw[if_pos c]at h;cases h
  · rw[if_neg c];have b:=e.2.2;have f:zAy l n=zCA (asc (l.take n))∧(l.take n).all (fun x=>decide (x.toNat≤127))=true:=by
     unfold zAy at b⊢;split at b
     · rename_i d
       rw[if_pos d];simp only[yAQ]at d;exact⟨rfl,d.1.2⟩
     · exact absurd rfl b
    have h1:zCA (asc (l.take n))=1:=by
     have:=zQS (asc (l.take n));rw[f.1]at c b;omega
    obtain⟨_,g,j⟩:=zUa h1;refine⟨by simp,fun _=>⟨by simp[asc];omega,(zMX fun y k=>by have:=yBH.1 f.2 y k;simp at this;omega).symm,?_,?_,?_⟩⟩
    · simp only;rw[g];simp
    · simp only;rw[h1];simp
    · simp only;rw[j];simp
theorem zMY (h:t.kind=2∨t.kind=3∨t.kind=4):TokOk l t n:=by
 refine⟨by omega,fun b=>?_⟩;unfold zYY at b;omega
theorem zMZ (h:(zAU z l).1=0):TokOk l (zAU z l).2.1 (zAU z l).2.2:=by
 cases l with
 | nil=>cases h
 | cons x r=>
  rw[zA3]at h⊢
  by_cases c1:zAx x=true
  · rw[if_pos c1]at h⊢;exact zUd c1 h
  rw[if_neg c1]at h⊢
  by_cases c2:zJ x=true
  · rw[if_pos c2]at h⊢;refine zMY ?_;unfold zBf zBx at h⊢;split at h
    · cases h
    · rename_i d1
      rw[if_neg d1];split at h
      · rename_i d2
        rw[if_pos d2];unfold zIy at h⊢;split at h
        · cases h
        · rename_i d3
          rw[if_neg d3];split at h
          · cases h
          · rename_i d4;rw[if_neg d4];simp
      · rename_i d2
        rw[if_neg d2];split at h
        · cases h
        · rename_i d3
          rw[if_neg d3];split at h
          · cases h
          · rename_i d4
            rw[if_neg d4];split at h
            · cases h
            · rename_i d5;rw[if_neg d5];simp
  rw[if_neg c2]at h⊢
  by_cases c3:(x.toNat==39 || x.toNat==34)=true
  · rw[if_pos c3]at h⊢;refine zMY ?_;unfold zAv at h⊢;split at h
    · rename_i d1;exact absurd h d1
    · rename_i d1;rw[if_neg d1];simp
  rw[if_neg c3]at h⊢
  by_cases c4:(x.toNat==46&&zBE 0 zJ r)=true
  · rw[if_pos c4]at h;cases h
  rw[if_neg c4]at h⊢;exact zUe h
def zUf (u:jH):Nat→List Tok→Prop
 | _,[]=>False
 | e,t::r=>e≤t.pos∧((r=[]∧t.kind=0∧t.pos=u.length)∨(r≠[]∧∃n,1≤n∧t.pos+n≤u.length∧TokOk (u.drop t.pos) t n∧zUf u (t.pos+n) r))
theorem zOF (u:jH):∀(m k:Nat),u.length - k < m→k≤u.length→(zGa k (u.drop k)).2.2=0→zUf u k (zGa k (u.drop k)).1:=by
 intro m
 induction m with
 | zero=>intro k h;omega
 | succ m s=>
  intro k t hk h;have b:(zAM (u.drop k)).2.2=0:=by
   by_cases h1:(zAM (u.drop k)).2.2≠0
   · rw[zI8 h1]at h;exact absurd h h1
   · exact Decidable.not_not.1 h1
  have r:=zIK (u.drop k);rw[yAR]at r
  by_cases g:(u.drop k).drop (zAM (u.drop k)).1=[]
  · have j:(zAM (u.drop k)).1=u.length - k:=by
     have:=congrArg List.length g;rw[yAR,yAR]at this;simp only[yBA]at this;omega
    rw[zIL b g];refine⟨by simp[setAt],.inl ⟨rfl,rfl,?_⟩⟩;simp only[setAt];omega
  · have c:(zA6 k (u.drop k)).1=0:=by
     by_cases j:(zA6 k (u.drop k)).1≠0
     · rw[zLr b g j]at h;exact absurd h j
     · exact Decidable.not_not.1 j
    have d:=zEs c;rw[yAR]at d;have l:=zEt b g c;have f:TokOk ((u.drop k).drop (zAM (u.drop k)).1) (zA6 k (u.drop k)).2.1 (zA6 k (u.drop k)).2.2:=zMZ c;rw[yCC]at l;rw[l]at h⊢;have o:(zGa (k+(zAM (u.drop k)).1+(zA6 k (u.drop k)).2.2) (u.drop (k+((zAM (u.drop k)).1+(zA6 k (u.drop k)).2.2)))).2.2=0:=by
     unfold zFy at h
     by_cases p:(zGa (k+(zAM (u.drop k)).1+(zA6 k (u.drop k)).2.2) (u.drop (k+((zAM (u.drop k)).1+(zA6 k (u.drop k)).2.2)))).2.2≠0
     · rw[if_pos p]at h;exact absurd h p
     · exact Decidable.not_not.1 p
    rw[show k+((zAM (u.drop k)).1+(zA6 k (u.drop k)).2.2)=k+(zAM (u.drop k)).1+(zA6 k (u.drop k)).2.2 by omega]at o⊢;have q:=s (k+(zAM (u.drop k)).1+(zA6 k (u.drop k)).2.2) jo jo o;unfold zFy;rw[if_neg (by rw[o];simp)];refine⟨by simp[setAt],.inr ⟨fun e=>by rw[e]at q;exact q,(zA6 k (u.drop k)).2.2,d.1,by simp only[setAt];omega,?_,q⟩⟩;rw[yCC]at f;exact⟨f.kind,f.txt⟩
theorem zRF {ts:List Tok} (c:u.length≤4096) (b:zDX u=(ts,0,0)):zUf u 0 ts:=by
 rw[zB2 jo]at b;have:=zOF u (u.length+1) 0 jo (yAE _) (by rw[List.drop_zero,b]);rwa [List.drop_zero,b]at this
section
variable {x:UInt16} {v:jH}
theorem zE9 (b:p x=false) (l:jH):(l++x::v).takeWhile p=l.takeWhile p:=by
 induction l with
 | nil=>rw[yAY,List.takeWhile_cons_of_neg (by rw[b];simp)];rfl
 | cons c r d=>
  rw[yAP]
  by_cases h:p c=true
  · rw[yBY h,yBY h,d]
  · rw[List.takeWhile_cons_of_neg h,List.takeWhile_cons_of_neg h]
theorem zDQ (b:p x=false) (hk:k≤l.length):zBE k p (l++x::v)=zBE k p l:=by
 unfold zBE
 by_cases h:k < l.length
 · rw[yBD h]
 · obtain rfl:k=l.length:=by omega
   rw[yAX (yAC _),yCS,yBC (yAC _)];simp[b]
theorem zHx (c:UInt8) (y:UInt16) (s:jH):zg [c] (y::s)=(c.toUInt16==y):=by simp[zg,List.isPrefixOf]
theorem zEh {c:UInt8} (b:x≠c.toUInt16) (l:jH):zg [c] (l++x::v)=zg [c] l:=by
 cases l with
 | nil=>rw[yAY,zB9 b];rfl
 | cons y r=>rw[yAP,zHx,zHx]
theorem zRG (b:x=10∨x=32) (l:jH):zCm (l++x::v)=zCm l:=by
 have h1:zAu x=false:=by rcases b with rfl | rfl<;>decide
 have c:x≠(92:UInt8).toUInt16:=by rcases b with rfl | rfl<;>decide
 unfold zCm;rw[zE9 h1,List.drop_append_of_le_length (zBR _ _),zEh c]
theorem zUg (c:x=10∨x=32) (d r:jH):zBx d (r++x::v)=zBx d r:=by
 have h1:x≠(110:UInt8).toUInt16:=by rcases c with rfl | rfl<;>decide
 have f:∀z,zy z x=false:=by intro z;rcases c with rfl | rfl<;>cases z<;>decide
 have e:zAx x=false:=by rcases c with rfl | rfl<;>decide
 have g:zJ x=false:=by rcases c with rfl | rfl<;>decide
 unfold zBx;rw[zEh h1,zDQ (f _) (yAE _),zDQ e (yAE _)];cases r with
 | nil=>rfl
 | cons y s=>
  have hb:∀a b,zIy a b ((y::s++x::v).drop 1)=zIy a b ((y::s).drop 1):=by
   intro a b;unfold zIy;simp only[yAP,List.drop_succ_cons,List.drop_zero];rw[zDQ e (yAE _),zDQ g (yAE _)]
  rw[hb]
theorem zJ0 (b:x=10∨x=32) (l:jH):zBf (l++x::v)=zBf l:=by
 have h1:zJ x=false:=by rcases b with rfl | rfl<;>decide
 unfold zBf;rw[zE9 h1,List.drop_append_of_le_length (zBR _ _),zUg b]
theorem zJ1 (h:(zCT n l).1=0) (y:jH):zCT n (l++y)=zCT n l:=by
 have b:=zLq h;unfold zCT;rw[List.take_append_of_le_length b.2,yBE b.2,yBE (by rw[yAN];omega)]
theorem zUh (d:x=10∨x=32) (h:(zEI l).1=0):zEI (l++x::v)=zEI l:=by
 have h1:zJ x=false:=by rcases d with rfl | rfl<;>decide
 have g:x≠(123:UInt8).toUInt16:=by rcases d with rfl | rfl<;>decide
 cases l with
 | nil=>cases h
 | cons c r=>
  rw[yAP,zEq,zEq];rw[zEq]at h
  by_cases hs:(zBz c).isSome=true
  · rw[if_pos hs,if_pos hs]
  · rw[if_neg hs]at h⊢;rw[if_neg hs];unfold zSL at h⊢;rw[zDQ h1 (yAE _),zEh g]
    by_cases c1:(c.toNat==48&& !zBE 0 zJ r)=true
    · rw[if_pos c1,if_pos c1]
    rw[if_neg c1]at h⊢;rw[if_neg c1]
    by_cases c2:zJ c=true
    · rw[if_pos c2,if_pos c2]
    rw[if_neg c2]at h⊢;rw[if_neg c2]
    by_cases c3:(zAG c || zH9 c || (c.toNat==117&&zg [123] r))=true
    · rw[if_pos c3,if_pos c3]
    rw[if_neg c3]at h⊢;rw[if_neg c3];have e:∀n,(more 1 (zCT n r)).1=0→(zCT n r).1=0:=by
     intro n b;unfold more at b
     by_cases f:(zCT n r).1=0
     · exact f
     · rw[if_neg f]at b;exact b
    by_cases c4:c.toNat=120
    · rw[if_pos c4]at h⊢;rw[if_pos c4,zJ1 (e _ h)]
    rw[if_neg c4]at h⊢;rw[if_neg c4]
    by_cases c5:c.toNat=117
    · rw[if_pos c5]at h⊢;rw[if_pos c5,zJ1 (e _ h)]
    rw[if_neg c5,if_neg c5]
theorem zUi (m:x=10∨x=32) (q:UInt16):∀(f:Nat) (l b:jH),(zDH q f l b).1=0→zDH q f (l++x::v) b=zDH q f l b:=by
 intro f
 induction f with
 | zero=>intro l b h;cases h
 | succ f j=>
  intro l b;cases l with
  | nil=>intro h;cases h
  | cons c r=>
   rw[yAP,zDH,zDH]
   by_cases h1:zAG c=true
   · rw[if_pos h1];intro h;cases h
   rw[if_neg h1,if_neg h1]
   by_cases e:c=q
   · rw[if_pos e,if_pos e];intro _;rfl
   rw[if_neg e,if_neg e]
   by_cases g:c.toNat=92
   · rw[if_pos g,if_pos g]
     by_cases d:(zEI r).1≠0
     · rw[if_pos d];intro h;exact absurd h d
     · have k:=Decidable.not_not.1 d;rw[if_neg d,zUh m k,if_neg d];intro h;have h6:=zFV k;rw[List.drop_append_of_le_length h6.2,j _ _ h]
   · rw[if_neg g,if_neg g];intro h;rw[j _ _ h]
theorem zRH (q:UInt16):∀(f g:Nat) (l b:jH),f≤g→(zDH q f l b).1=0→zDH q g l b=zDH q f l b:=by
 intro f
 induction f with
 | zero=>intro g l b _ h;cases h
 | succ f k=>
  intro g l b hg;obtain⟨g,rfl⟩:∃m,g=m+1:=⟨g - 1,by omega⟩;cases l with
  | nil=>intro h;cases h
  | cons c r=>
   rw[zDH,zDH]
   by_cases h1:zAG c=true
   · rw[if_pos h1];intro h;cases h
   rw[if_neg h1,if_neg h1]
   by_cases d:c=q
   · rw[if_pos d,if_pos d];intro _;rfl
   rw[if_neg d,if_neg d]
   by_cases e:c.toNat=92
   · rw[if_pos e,if_pos e]
     by_cases j:(zEI r).1≠0
     · rw[if_pos j];intro h;exact absurd h j
     · rw[if_neg j,if_neg j];intro h;rw[k g _ _ jo h]
   · rw[if_neg e,if_neg e];intro h;rw[k g _ _ jo h]
theorem zLK (d:x=10∨x=32) {q:UInt16} (h:(zAv q l).1=0):zAv q (l++x::v)=zAv q l:=by
 have h1:(zKU q l).1=0:=by
  unfold zAv at h
  by_cases b:(zKU q l).1≠0
  · rw[if_pos b]at h;exact absurd h b
  · exact Decidable.not_not.1 b
 have e:zKU q (l++x::v)=zKU q l:=by
  unfold zKU at h1⊢;have c:=zUi (v:=v) d q _ _ _ h1;rw[zRH q (l.length+1) ((l++x::v).length+1) _ _ (by rw[yAN];omega) (by rw[c];exact h1),c]
 unfold zAv;rw[e]
theorem zLL:∀b∈zl++zCn,(10:UInt8)∉b∧(32:UInt8)∉b:=by decide+kernel
theorem zOG {b:jE} (h:(10:UInt8)∈b∨(32:UInt8)∈b):zCA b=0:=by
 unfold zCA;have c:∀s,b∈s→s=zl∨s=zCn→False:=by
  intro s hb hs;have d:b∈zl++zCn:=by rcases hs with rfl | rfl;exact yCJ _ hb;exact yBX _ hb
  obtain⟨e,f⟩:=zLL b d;rcases h with h | h
  · exact e h
  · exact f h
 rw[if_neg (fun hb=>c _ hb (.inl rfl)),if_neg (fun hb=>c _ hb (.inr rfl))]
theorem zHy (e:x=10∨x=32) (l:jH) (n:Nat):zAy (l++x::v) n=zAy l n:=by
 have h1:zJ x=false:=by rcases e with rfl | rfl<;>decide
 by_cases c:n≤l.length
 · unfold zAy;rw[List.take_append_of_le_length c,yBE c,yBE (by rw[yAN];omega)]
   by_cases f:asc (l.take n)=[63,46]
   · have g:n=2:=by
      have:=congrArg List.length f;simp only[asc,List.length_map,yBK,yAO,yBA]at this;omega
     rw[zDQ h1 jo]
   · rw[yAI f];simp
 · have g:zAy l n=0:=by
    unfold zAy;rw[yAI c];simp
   rw[g];unfold zAy;split
   · refine zOG ?_;have d:x∈(l++x::v).take n:=by
      rw[List.take_append];refine yBX _ ?_;obtain⟨m,d⟩:∃m,n - l.length=m+1:=⟨n - l.length - 1,by omega⟩;rw[d,List.take_succ_cons];simp
     have b:x.toUInt8∈asc ((l++x::v).take n):=List.mem_map_of_mem d;rcases e with rfl | rfl
     · exact .inl b
     · exact .inr b
   · rfl
theorem zRI (b:x=10∨x=32) (l:jH):∀m,zBa (l++x::v) m=zBa l m:=by
 intro m
 induction m with
 | zero=>rfl
 | succ m c=>rw[zBa,zBa,zHy b,c]
theorem zRJ (b:x=10∨x=32) (h:(zCI z l).1=0):zCI z (l++x::v)=zCI z l:=by
 unfold zCI at h⊢;rw[zRI b];cases hs:zBa l 4 with
 | none=>
  rw[hs]at h;simp only at h;split at h<;>cases h
 | some n=>
  have c:=zFW hs;have h6:=zFX c.2.2;simp only;rw[zHy b,List.take_append_of_le_length h6]
theorem zOH (b:x=10∨x=32) (h:(zAU z l).1=0):zAU z (l++x::v)=zAU z l:=by
 have h1:zJ x=false:=by rcases b with rfl | rfl<;>decide
 cases l with
 | nil=>cases h
 | cons c r=>
  rw[zA3]at h;rw[yAP,zA3,zA3,←yAP]
  by_cases c1:zAx c=true
  · rw[if_pos c1,if_pos c1,zRG b]
  rw[if_neg c1]at h⊢;rw[if_neg c1]
  by_cases c2:zJ c=true
  · rw[if_pos c2,if_pos c2,zJ0 b]
  rw[if_neg c2]at h⊢;rw[if_neg c2]
  by_cases c3:(c.toNat==39 || c.toNat==34)=true
  · rw[if_pos c3]at h⊢;rw[if_pos c3,zLK b h]
  rw[if_neg c3]at h⊢;rw[if_neg c3,zDQ h1 (yAE _)]
  by_cases c4:(c.toNat==46&&zBE 0 zJ r)=true
  · rw[if_pos c4,if_pos c4]
  rw[if_neg c4]at h⊢;rw[if_neg c4,zRJ b h]
def Ahead (x:UInt16) (l:jH):Prop:=x=10∨x=32∧∀i,zg [47,47] (l.drop i)=false
theorem Ahead.stop (h:Ahead x l):x=10∨x=32:=by
 rcases h with h | h
 · exact .inl h
 · exact .inr h.1
theorem Ahead.drop (h:Ahead x l) (n:Nat):Ahead x (l.drop n):=by
 rcases h with h | ⟨h,b⟩
 · exact .inl h
 · exact .inr ⟨h,fun i=>by rw[yCC];exact b _⟩
end
theorem zUj (c:∀z l,(zAU z l).1=0→∀k nl,Q (setAt (zAU z l).2.1 k nl)):∀(f k:Nat) (l:jH),∀t∈(zFJ f k l).1,t.kind=0∨Q t:=by
 intro f
 induction f with
 | zero=>intro k l t b;cases b
 | succ f d=>
  intro k l t b;rw[zFJ]at b;split at b
  · cases b
  · split at b
    · simp only[yBT]at b;subst b;exact .inl rfl
    · split at b
      · cases b
      · rename_i e
        unfold zFy at b;split at b
        · cases b
        · rcases yAW.1 b with rfl | g
          · exact .inr (c _ _ (Decidable.not_not.1 e) _ _)
          · exact d _ _ t g
theorem zRK:∀{ts:List Tok} {e:Nat},zUf u e ts→Lst ts:=by
 intro ts
 induction ts with
 | nil=>intro e h;exact h.elim
 | cons t r d=>
  intro e h;rcases h.2 with⟨h1,b,_⟩ | ⟨h1,n,_,_,c,b⟩
  · subst h1;exact⟨by simp,b,fun i hi=>by simp at hi⟩
  · have L:=d b;have f:=L.pos;have hs:∀i,zH (t::r) (i+1)=zH r i:=fun i=>by unfold zH;simp
    refine⟨by simp,?_,fun i hi=>?_⟩
    · have:=L.last;rw[←hs]at this;rwa [show(t::r).length - 1=r.length - 1+1 by simp;omega]
    · cases i with
      | zero=>exact c.kind
      | succ i=>
       rw[hs];exact L.mid i (by simp at hi;omega)
theorem zGF {ts:List Tok} {a:Nat} (h:zDX u=(ts,a,0)):Lst ts:=by
 by_cases c:4096 < u.length
 · unfold zDX at h;rw[if_pos c]at h;simp only[yAU]at h;omega
 · have b:=zRC (u:=u) jo (by rw[h]);rw[h]at b;simp only at b;subst b;exact zRK (zRF jo h)
theorem zOI:∀{f w:Nat},w < 4294967296^f→zBH f w=[]→w=0:=by
 intro f w h b;cases f with
 | zero=>omega
 | succ f=>
  rw[zBH]at b;split at b
  · assumption
  · cases b
theorem zLM:∀(f v:Nat),v < 4294967296^f→∀x,(zBH f v).getLast? =some x→x≠0:=by
 intro f
 induction f with
 | zero=>intro v _ x h;cases h
 | succ f c=>
  intro v hv x h;rw[zBH]at h;split at h
  · cases h
  · rename_i d
    have b:v / 4294967296 < 4294967296^f:=by
     rw[Nat.div_lt_iff_lt_mul jd];rw[yCP]at hv;exact hv
    rw[List.getLast?_cons]at h;injection h with h;cases hl:(zBH f (v / 4294967296)).getLast? with
    | none=>
     rw[hl]at h;have h1:zBH f (v / 4294967296)=[]:=List.getLast?_eq_none_iff.1 hl;have e:=zOI b h1;simp only[Option.getD_none]at h;omega
    | some y=>
     rw[hl]at h;simp only[yCI]at h;subst h;exact c _ b _ hl
theorem zXS {v:Nat} (h:v < zGM):zBL false (limbs v)=true:=by
 unfold zBL;rw[yBE (zE2 h),yC];cases hl:(limbs v).getLast? with
 | none=>rfl
 | some x=>
  have b:v < 4294967296^9:=yAA h (by unfold zGM;exact Nat.pow_le_pow_right jd jd);have:=zLM 9 v b x hl;simp[this]
structure TGn (t:Tok):Prop where
 num:t.kind=2→t.nk=0∧0≤t.nn∧t.nn≤9007199254740991
 big:t.kind=3→zBL false t.mag=true
 limb:∀y∈t.mag,y < 4294967296
theorem TGn.other (b:t.kind≠2) (c:t.kind≠3) (d:t.mag=[]):TGn t:=⟨fun h=>absurd h b,fun h=>absurd h c,by rw[d];simp⟩
theorem zRL (h:(zAU z l).1=0):TGn (zAU z l).2.1:=by
 cases l with
 | nil=>exact absurd (show(5:Nat)=0 from h) jd
 | cons x r=>
  rw[zA3]at h⊢;split
  · unfold zCm;split
    · exact .other (by simp[zh,bad]) (by simp[zh,bad]) (by simp[zh,bad])
    · refine .other ?_ ?_ rfl<;>(simp only;split<;>decide)
  · rename_i c
    rw[if_neg c]at h;split
    · rename_i b
      rw[if_pos b]at h;unfold zBf zBx at h⊢;split
      · exact .other (by simp[zh,bad]) (by simp[zh,bad]) (by simp[zh,bad])
      · rename_i c1
        rw[if_neg c1]at h;split
        · rename_i c2
          rw[if_pos c2]at h;unfold zIy at h⊢;split
          · exact .other (by simp[zh,bad]) (by simp[zh,bad]) (by simp[zh,bad])
          · rename_i c3
            split
            · exact .other (by simp[zh,bad]) (by simp[zh,bad]) (by simp[zh,bad])
            · exact⟨fun h=>absurd h js,fun _=>zXS (Nat.lt_of_not_le c3),zF7 _⟩
        · split
          · exact .other (by simp[zh,bad]) (by simp[zh,bad]) (by simp[zh,bad])
          · split
            · exact .other (by simp[zh,bad]) (by simp[zh,bad]) (by simp[zh,bad])
            · split
              · exact .other (by simp[zh,bad]) (by simp[zh,bad]) (by simp[zh,bad])
              · rename_i c5
                exact⟨fun _=>⟨rfl,Int.natCast_nonneg _,by show((zn _:Nat):Int)≤_;omega⟩,fun h=>absurd h js,by simp[zh]⟩
    · rename_i b
      rw[if_neg b]at h;split
      · unfold zAv;split<;>exact .other (by simp[zh,bad]) (by simp[zh,bad]) (by simp[zh,bad])
      · split
        · exact .other (by simp[zh,bad]) (by simp[zh,bad]) (by simp[zh,bad])
        · unfold zCI;split
          · split<;>exact .other (by simp[zh,bad]) (by simp[zh,bad]) (by simp[zh,bad])
          · split<;>exact .other (by simp[zh,bad]) (by simp[zh,bad]) (by simp[zh,bad])
theorem zXT {ts:List Tok} {a:Nat} (h:zDX u=(ts,a,0)):TL ts:=by
 have d:u.length≤4096:=by
  apply Nat.le_of_not_lt;intro d;unfold zDX at h;rw[if_pos d]at h;simp only[yAU]at h;omega
 have c:=zOD d;rw[h]at c;have f:∀t∈ts,t.kind=0∨(TGn t∧(t.kind=1→zBn t.text=true)∧(t.kind=6→zGL t.text=true)):=by
  have g:ts=(zFJ (u.length+1) 0 u).1:=by
   unfold zDX at h;rw[jn]at h;rw[h]
  rw[g];refine zUj (Q:=fun t=>TGn t∧(t.kind=1→zBn t.text=true)∧(t.kind=6→zGL t.text=true)) (fun z l j k nl=>?_) _ _ _;have b:=zRL j;have m:=zMZ j;refine⟨⟨b.num,b.big,b.limb⟩,fun hk=>?_,fun hk=>?_⟩
  · exact(m.txt (.inl hk)).2.2.1.1 hk
  · exact zUZ ((m.txt (.inr (.inr hk))).2.2.2.2.1 hk)
 intro i
 by_cases hi:i < ts.length
 · have o:zH ts i∈ts:=by
    unfold zH;rw[yAG,yAB hi];exact yAZ hi
   have hs:=(c _ o).1;rcases f _ o with p | ⟨h1,g,b⟩
   · exact⟨fun h=>by omega,fun h=>by omega,fun h=>by omega,fun h=>by omega,fun h=>by omega,by have:=hs.text;omega⟩
   · exact⟨g,b,h1.num,h1.big,fun _=>by have:=hs.str;omega,by have:=hs.text;omega⟩
 · have e:zH ts i=zh:=by
    unfold zH;rw[yAG,yBC jo];rfl
   rw[e];exact⟨fun h=>absurd h jd,fun h=>absurd h jd,fun h=>absurd h jd,fun h=>absurd h jd,fun h=>absurd h jd,by simp[zh]⟩
theorem zRM (c:∀k nl,Q (setAt zh k nl)) (d:∀z l,(zAU z l).1=0→∀k nl,Q (setAt (zAU z l).2.1 k nl)):∀(f k:Nat) (l:jH),∀t∈(zFJ f k l).1,Q t:=by
 intro f
 induction f with
 | zero=>intro k l t b;cases b
 | succ f e=>
  intro k l t b;rw[zFJ]at b;split at b
  · cases b
  · split at b
    · simp only[yBT]at b;subst b;exact c _ _
    · split at b
      · cases b
      · rename_i g
        unfold zFy at b;split at b
        · cases b
        · rcases yAW.1 b with rfl | j
          · exact d _ _ (Decidable.not_not.1 g) _ _
          · exact e _ _ t j
def zYZ (L:List Tok):Prop:=∀i,∀y∈(zH L i).mag,y < 4294967296
theorem zRN {ts:List Tok} {a:Nat} (h:zDX u=(ts,a,0)):zYZ ts:=by
 have b:¬4096 < u.length:=by
  intro b;unfold zDX at h;rw[if_pos b]at h;simp only[yAU]at h;omega
 have c:∀t∈ts,∀y∈t.mag,y < 4294967296:=by
  have d:ts=(zFJ (u.length+1) 0 u).1:=by
   unfold zDX at h;rw[if_neg b]at h;rw[h]
  rw[d];exact zRM (Q:=fun t=>∀y∈t.mag,y < 4294967296) (fun k nl=>by simp[setAt,zh]) (fun z l f k nl=>(zRL f).limb) _ _ _
 intro i
 by_cases hi:i < ts.length
 · have g:zH ts i∈ts:=by
    unfold zH;rw[yAG,yAB hi];exact yAZ hi
   exact c _ g
 · have e:zH ts i=zh:=by
    unfold zH;rw[yAG,yBC jo];rfl
   rw[e];simp[zh]
theorem zFA (a b:List Tr):sizes (a++b)=sizes a+sizes b:=by
 induction a with
 | nil=>rw[yAY,zo,yCK]
 | cons t r c=>rw[yAP,zY,zY,c];omega
theorem zUk {at_:Nat} (h:zBt u=(ts,at_,0)):∃L,zDX u=(L,0,0)∧Lst L∧(zE L (.program []) s0).2.bad=0∧(zE L (.program []) s0).1.size≤4096∧depT (zE L (.program []) s0).1≤48∧ts=flatT 0 (zE L (.program []) s0).1∧at_=0:=by
 obtain⟨⟨L,a,e⟩,b⟩:=jx (zDX u);unfold zBt at h;rw[b]at h;simp only at h
 by_cases c:e≠0
 · rw[if_pos c]at h;simp only[yAU]at h;exact absurd h.2.2 c
 rw[if_neg c]at h;have g:=Decidable.not_not.1 c;subst g;have j:¬4096 < u.length:=by
  intro h1;unfold zDX at b;rw[if_pos h1]at b;simp only[yAU]at b;omega
 have d:=zRC (u:=u) jo (by rw[b]);rw[b]at d;simp only at d;subst d;refine⟨L,b,zGF b,?_⟩;show(zE L (.program []) ⟨0,0,0⟩).2.bad=0∧_
 by_cases hb:(zE L (.program []) ⟨0,0,0⟩).2.bad≠0
 · rw[if_pos hb]at h;simp only[yAU]at h;exact absurd h.2.2 hb
 rw[if_neg hb]at h
 by_cases hs:4096 < (zE L (.program []) ⟨0,0,0⟩).1.size
 · rw[if_pos hs]at h;simp only[yAU]at h;omega
 rw[if_neg hs]at h
 by_cases f:48 < depT (zE L (.program []) ⟨0,0,0⟩).1
 · rw[if_pos f]at h;simp only[yAU]at h;omega
 rw[if_neg f]at h;simp only[yAU]at h;exact⟨Decidable.not_not.1 hb,Nat.le_of_not_lt hs,Nat.le_of_not_lt f,h.1.symm,h.2.1.symm⟩
open Go.RowKit
def ParseQ (q:List Nd×Nat×Nat) (w:World) (e:Ending) (w':World):Prop:=
 ∃A n c,e=.returned (.tuple #[.agg #[.slice A n c],q.2.1,q.2.2])∧NdsR w' w'.heap.size A n q.1∧n≤c∧c≤maxLen∧jY w w'
theorem ParseQ.nil {q:List Nd×Nat×Nat} {w':World} {a e:Nat} (b:q=([],a,e)) (hb:jY w w'):ParseQ q w (.returned (.tuple #[.agg #[()],a,e])) w':=by
 subst b;exact⟨none,0,0,rfl,⟨rfl,fun h=>absurd h (Nat.lt_irrefl _)⟩,yAC _,yAE _,hb⟩
theorem zRO (hB:B≤w.heap.size) (hn:u.length=n) (ha:Reads w B 1 A n (zAC u)) (hc:n≤c) (c4:c≤maxLen) (hT:Tab w) (a6:(zE (zDX u).1 (.program []) ⟨0,0,0⟩).1.size≤1000000):
 Calls prog 7 #[.slice A n c] w (ParseQ (zBt u) w):=by
 obtain⟨W,hW⟩:=jx (w.alloc (.cells #[()] 24));have J:jY w W:=jb hW;obtain⟨X,hX⟩:=jx w.heap.size;have HX:=zA (show Bx W X 24 [()] by rw[←hW,←hX];exact Bx.new w _ _);have c6:=zA J;have a1:w.heap.size≤W.heap.size:=J.size;have a7:=zA (zK2 (w:=W) (yAD hB a1) hn (ha.below (J.mono hB)) hc c4);have c8:=zA (hT.below hT.lt J);have D:=zA hX;obtain⟨⟨L,at_,e⟩,hL⟩:=jx (zDX u);rw[hL]at a7 a6;have z:=zA hL;have c9:=zA a6;clear J hB hn ha hc c4 hT a6 hL;have S:W.cell? X=some (.slice none 0 0):=HX.out.cell 0;have U:W.frozen? X=false:=HX.out.frozen 0;go_enter func7,ntmps7;go_upto_region 1 with(fail);clear hW hX;go_wp2_with fail;refine a7.out.mono ?_;rintro k3 w1 ⟨v,rfl,a8,M⟩;have a2:=zA M;have m:=zA (HX.out.grown (zw none M) js);have a9:=zA a8;obtain⟨lc,b0,_⟩:=a8;obtain⟨AT,cT,rfl,_,_⟩:=zP b0;clear b0 M a7
 by_cases he:e=0
 · subst he;have k4:(((0:Nat):Int) !=0)=false:=rfl;have b1:=zGF z;have d9:=zA (zXT z);have j1:u.length≤4096:=by
    apply Nat.le_of_not_lt;intro h1;have h2:=z.out;unfold zDX at h2;rw[if_pos h1]at h2;simp only[yAU]at h2;omega
   have j2:L.length≤4097:=by
    have h1:=zJz j1;rw[z.out]at h1;exact yAD h1 jo
   have j3:=zA (zRN z);obtain⟨g,hg⟩:=jx w1.heap.size;obtain⟨o,N⟩:=jx (w1.alloc (.cells #[.slice AT L.length cT,(0:Int),(0:Int),(0:Int)] 50));have b2:w1.grownBy o none:=by rw[←N];exact zG _ _ _
   have HP:=zA (show Pa ⟨g,L,AT,L.length,cT,w1⟩ ⟨0,0,0⟩ o from by
    refine⟨⟨b1,rfl,j2,?_,by show w1.heap.size≤g;omega⟩,?_,?_,yAE _⟩
    · exact a9.out.base (yAE _)
    · show jY w1 o;rw[←N];exact ja
    · show Bx o g _ _;rw[←N,←hg];exact Bx.new w1 [.slice AT L.length cT,(0:Int),(0:Int),(0:Int)] _)
   have k5:X < g:=by have:=m.out.lt;omega
   have e0:=zA (m.out.grown b2 js);have e1:=zA (show jY w o from(c6.out.trans (a2.out.mono a1)).trans (by
    have h0:jY w1 o:=jb N;exact h0.mono (yAD a1 a2.out.size)))
   have j4:=zA (c8.out.below c8.out.lt a2);obtain⟨⟨tr,s⟩,hr⟩:=jx (zE L (.program []) ⟨0,0,0⟩);have F:=zA (show tr.size≤1000000 by have:=c9.out;rwa[hr]at this);have e2:=zA (show NB tr by have:=zYX d9 j3 (.program []) ⟨0,0,0⟩ zD6;rwa[hr]at this);have cp:Calls prog 16 #[.pointer (some g)] o (zDb ⟨g,L,AT,L.length,cT,w1⟩ (zE L (.program []) ⟨0,0,0⟩) o):=zLG (C:=⟨g,L,AT,L.length,cT,w1⟩) j4 d9 ⟨yAE _,trivial⟩ HP;rw[hr]at cp;have e3:=zA cp;have HR:=zA hr;clear cp hr b1 b2 a9 HX m S U c9;go_upto_region 5 with(fail);clear N;go_wp2_with fail;refine e3.out.mono ?_;rintro k6 w3 ⟨d0,d1,d2,d3,d4,d5,d6,d7,d8,rfl,e4,e5,b3⟩;have e6:=zA (show Pa ⟨g,L,AT,L.length,cT,w1⟩ s w3 from e5);have e7:=zA (e0.out.gg b3 (by show g≠X;omega));have b4:=zA (e1.out.trans (zAg b3 (show w.heap.size≤g by rw[D.out];omega) (by show g≤o.heap.size;exact yAM HP.out.lt)));have b5:=zA (show TrC w3 _ tr _ from e4);obtain⟨f8,f9,g0,g1,g2,g3,g4,g5,g6⟩:=b5.out.sto;clear e4 e5 b3 e3 HP e0 e1;obtain⟨b,a3⟩:=jx (w3.alloc (.cells #[d0,d1,d2,d3,d4,d5,d6,d7,d8] 61));have G:w3.grownBy b none:=by rw[←a3];exact zG _ _ _
   obtain⟨R,hR⟩:=jx w3.heap.size;have j5:=zA (show Bx b R 61 [d0,d1,d2,d3,d4,d5,d6,d7,d8] by rw[←a3,←hR];exact Bx.new w3 _ _);have e8:=zA (e6.out.new G);have O:=zA (e7.out.grown G js);have j6:=zA (TrC.keep G (.none_ _ _) _ _ b5);have b6:=zA (b4.out.trans (show Below w.heap.size w3 b by
    have h0:jY w3 b:=jb a3;exact h0.mono b4.out.size))
   clear G e6 e7 b5 b4;go_upto_region 6 with(fail);clear a3 hR;have cb:b.cell? ⟨g,2,none⟩=some (.int .i64 (s.bad:Int)):=e8.out.c2;have cf:b.cell? ⟨g,3,none⟩=some (.int .i64 (zVu L s:Int)):=e8.out.c3;have S:b.cell? X=some (.slice none 0 0):=O.out.cell 0;have U:b.frozen? X=false:=O.out.frozen 0
   by_cases hb:s.bad=0
   · have M:((s.bad:Int) !=0)=false:=by rw[bne_eq_false_iff_eq];omega
     have E:=zA hb;clear hb;obtain⟨g7,g8,g9,h3,h4,h5,h6,h7,h8⟩:=j5.out.nine;have HF:=zA (zUX j6 F);go_wp2_with fail;refine HF.out.mono ?_;rintro k7 V ⟨H,d,c5,rfl,b7,p⟩;have a4:=b7.reads (nq_flatT e2 0) (zIl tr) (by rw[flatT_len];exact F.out);have e9:=zA a4.1;have f0:d=tr.size:=by rw[←flatT_len 0 tr];exact a4.1.1.symm
     have k8:=zA a4.2;have b8:=zA (O.out.grown p js);have b9:=zA (b6.out.trans (show Below w.heap.size b V from⟨p.os,p.tape,p.output,p.size,fun i hi=>p.block i (yAA hi b6.out.size) js⟩));have I:=zA f0;have f1:=zA b7;clear b7 p a4 HF g7 g8 g9 h3 h4 h5 h6 h7 h8 cb cf S U f8 f9 g0 g1 g2 g3 g4 g5 g6 f0;obtain⟨r,a5⟩:=jx (V.alloc (.cells #[.slice H d c5] 24));have Y:V.grownBy r none:=by rw[←a5];exact zG _ _ _
     obtain⟨T,hT⟩:=jx V.heap.size;have f2:=zA (show Bx r T 24 [.slice H d c5] by rw[←a5,←hT];exact Bx.new V _ _);have k9:X < T:=by have:=b8.out.lt;omega
     have P:=zA (b8.out.grown Y js);have f:jY V r:=jb a5;have f3:=zA ((e9.out.below f).more f.size);have c0:=zA (b9.out.trans (f.mono b9.out.size));have h9:=zA (f1.out.new Y);clear Y e9 b8 b9 f f1;go_upto_region 9 with(fail);clear a5 hT;have zT:r.cell? T=some (.slice H d c5):=f2.out.cell 0;have S:r.cell? X=some (.slice none 0 0):=P.out.cell 0;have U:r.frozen? X=false:=P.out.frozen 0;have f4:0 < d:=by have:=zBF tr;have:=I.out;omega
     by_cases k:4096 < d
     · have j7:(4096:Int) < (d:Int):=by omega
       have Q:=zA k;clear k;go_wp2_with fail;have j:(r.setCell X (.slice none 0 0)).cell? X=some (.slice none 0 0):=(P.out.set 0 _).cell 0;refine bodyPost_ret (v:=.tuple #[.agg #[()],(0:Int),(3:Int)]) (by simp[results,results7,go_sem,j]) rfl ?_;refine ParseQ.nil (a:=0) (e:=3) ?_ (c0.out.trans (zAg (zM r X 0 _) (by rw[D.out];exact yAC _) (yAM P.out.lt)));unfold zBt;rw[z.out];simp only[HR.out];rw[if_neg js,if_neg (by rw[E.out];simp),if_pos (by have:=Q.out;have:=I.out;omega)]
     · have j7:¬((4096:Int) < (d:Int)):=by omega
       have HD:=zA (zL4 (w:=r) (c:=c5) f3 (yAC _) f4 jo (zIl tr) (fun x hx=>yAD (kids_flatT tr 0 x hx) F) rfl);have Q:=zA k;clear k;go_wp2_with fail;refine HD.out.mono ?_;rintro l0 w7 ⟨A7,c7,rfl,f5,j8,f6,t⟩;have y:=zA (P.out.grown (zw none t) js);have j9:=zA (f2.out.grown (zw none t) js);have f7:=zA (c0.out.trans (t.mono c0.out.size));have l1:=zA ((f3.out.below t).more t.size);have HM:=zA (zPZ (c:=c7) f5 f4 (by have:=Q.out;omega) f6 (show zGN (zKV (flatT 0 tr))=depT tr from zGR tr));have j0:=zA (h9.out.new (zw none t));clear f5 j8 f6 t HD zT S U;go_wp2_with fail;refine HM.out.mono ?_;rintro l2 w8 ⟨rfl,rfl⟩;have zT:w7.cell? T=some (.slice H d c5):=j9.out.cell 0;have S:w7.cell? X=some (.slice none 0 0):=y.out.cell 0;have U:w7.frozen? X=false:=y.out.frozen 0
       by_cases l:48 < depT tr
       · have k0:(48:Int) < (depT tr:Int):=by omega
         have c1:=zA l;clear l;go_wp2_with fail;have j:(w7.setCell X (.slice none 0 0)).cell? X=some (.slice none 0 0):=(y.out.set 0 _).cell 0;refine bodyPost_ret (v:=.tuple #[.agg #[()],(0:Int),(7:Int)]) (by simp[results,results7,go_sem,j]) rfl ?_;refine ParseQ.nil (a:=0) (e:=7) ?_ (f7.out.trans (zAg (zM w7 X 0 _) (by rw[D.out];exact yAC _) (yAM y.out.lt)));unfold zBt;rw[z.out];simp only[HR.out];rw[if_neg js,if_neg (by rw[E.out];simp),if_neg (by have:=Q.out;have:=I.out;omega),if_pos c1.out]
       · have k0:¬((48:Int) < (depT tr:Int)):=by omega
         have c1:=zA l;clear l;go_wp2_with fail;have j:(w7.setCell X (.slice H d c5)).cell? X=some (.slice H d c5):=(y.out.set 0 _).cell 0;refine bodyPost_ret (v:=.tuple #[.agg #[.slice H d c5],(0:Int),(0:Int)]) (by simp[results,results7,go_sem,j]) rfl ?_;have k1:zBt u=(flatT 0 tr,0,0):=by
          unfold zBt;rw[z.out];simp only[HR.out];rw[if_neg js,if_neg (by rw[E.out];simp),if_neg (by have:=Q.out;have:=I.out;omega),if_neg c1.out]
         rw[k1];have a0:=(j0.out.var (u:=.slice H d c5) y).reads (nq_flatT e2 0) (zIl tr) (by rw[flatT_len];exact F.out);exact⟨H,d,c5,rfl,a0.1,a0.2.1,a0.2.2,f7.out.trans (zAg (zM w7 X 0 _) (by rw[D.out];exact yAC _) (yAM y.out.lt))⟩
   · have M:((s.bad:Int) !=0)=true:=by rw[yBM];omega
     have E:=zA hb;clear hb;go_wp2_with fail;have k2:=zA (show zBt u=([],zVu L s,s.bad)from by
      unfold zBt;rw[z.out];simp only[HR.out];rw[if_neg js,if_pos E.out];unfold zVu;rw[if_neg E.out])
     go_region_law (fail)
     all_goals
      go_wp2_with fail;have j:(b.setCell X (.slice none 0 0)).cell? X=some (.slice none 0 0):=(O.out.set 0 _).cell 0;refine bodyPost_ret (v:=.tuple #[.agg #[()],(zVu L s:Int),s.bad]) (by simp[results,results7,go_sem,j]) rfl ?_;exact ParseQ.nil k2 (b6.out.trans (zAg (show b.grownBy (b.setCell X (.slice none 0 0)).drew (some X)from zC (zM b X 0 _) (zAw _ _)) (by rw[D.out];exact yAC _) (yAM O.out.lt)))
 · have l3:((e:Int) !=0)=true:=by rw[yBM];omega
   have HE:=zA he;clear he;have S:w1.cell? X=some (.slice none 0 0):=m.out.cell 0;have U:w1.frozen? X=false:=m.out.frozen 0;go_wp2_with fail;have j:(w1.setCell X (.slice none 0 0)).cell? X=some (.slice none 0 0):=(m.out.set 0 _).cell 0;refine bodyPost_ret (v:=.tuple #[.agg #[()],at_,e]) (by simp[results,results7,go_sem,j]) rfl ?_;refine ParseQ.nil (by unfold zBt;rw[z.out];exact if_pos HE.out) ?_;have h1:jY w w1:=c6.out.trans (a2.out.mono a1);exact h1.trans (zAg (zM w1 X 0 _) (by rw[D.out];exact yAC _) (yAM m.out.lt))
set_option linter.unusedSimpArgs false
set_option linter.unusedVariables false
def cS (p:Ph) (s:Ps):Nat:=match p with
 | .program acc=>1+sizes acc
 | .blockL acc=>if s.bad≠0 then 1+sizes acc else 3+sizes acc
 | .item=>2
 | .declares=>2
 | .declL _ acc=>2+sizes acc
 | .func _ _=>3
 | .params=>2
 | .paramL acc=>2+sizes acc
 | .statement=>2
 | .simple=>2
 | .word _=>2
 | .loop=>2
 | .jump _=>2
 | .tries=>2
 | .body l=>2+sizes l
 | .nullL x=>x.size
 | .orL x=>x.size
 | .both x=>x.size
 | .levelL _ x=>x.size
 | .callsL x=>x.size
 | .headL x=>x.size
 | .args=>2
 | .list _=>2
 | .listL _ acc=>2+sizes acc
 | .object=>2
 | .objL acc=>2+sizes acc
 | _=>1
def dS (p:Ph):Option Nat:=match p with
 | .block=>some 4
 | .item=>some 0
 | .declares=>some 2
 | .params=>some 6
 | .statement=>some 2
 | .simple=>some 2
 | .word _=>some 2
 | .loop=>some 2
 | .jump _=>some 2
 | .tries=>some 2
 | .args=>some 0
 | .prop=>some 1
 | .assign=>some 4
 | .cond=>some 4
 | .either=>some 4
 | .level _=>some 4
 | .unary=>some 4
 | .calls=>some 4
 | .head=>some 4
 | .primary=>some 4
 | _=>none
def Z (s:Ps) (c:Nat) (d:Option Nat) (r:Tr×Ps):Prop:=r.1.size+16*s.k≤16*r.2.k+c∧∀e,d=some e→s.k < r.2.k→r.1.size+e+16*s.k≤16*r.2.k
theorem zAI {s:Ps} {d:Option Nat} {q:Prop} [Decidable q] {a b:Tr×Ps} (h1:q→Z s c d a) (e:¬q→Z s c d b):Z s c d (if q then a else b):=by
 by_cases h:q
 · rw[if_pos h];exact h1 h
 · rw[if_neg h];exact e h
theorem zHz (s:Ps):(zB s).k=s.k+1:=rfl
theorem zMa (k:Int) (l:List Tr):(trK k l).size=1+sizes l:=zAk _ _
theorem zMb (k:Int) (n:jE) (l:List Tr):(trN k n l).size=1+sizes l:=zAk _ _
theorem zDy (t:Tr):t.size=1+sizes t.subs:=by cases t with | mk x l=>exact zAk x l
structure Kz (L:List Tok) (R:Ph→Ps→Tr×Ps):Prop where
 post:∀q s,Pre L q s→Post L q s (R q s).2
 z:∀q s,Pre L q s→Z s (cS q s) (dS q) (R q s)
section
variable {L:List Tok} {R:Ph→Ps→Tr×Ps} {s:Ps} {q:Ph}
def SzQ (L:List Tok) (R:Ph→Ps→Tr×Ps) (p:Ph) (s:Ps):Prop:=Lst L→Kz L R→Pre L p s→Z s (cS p s) (dS p) (zD L R p s)
theorem Kz.e (K:Kz L R) {d:Nat} (b:Pre L q s) (g:zab q=true:=by rfl) (hc:cS q s=c:=by rfl) (hd:dS q=some d:=by rfl):s.k≤(R q s).2.k∧(R q s).2.k≤L.length - 1∧(s.k < L.length - 1→s.k < (R q s).2.k)∧(s.k=L.length - 1→(R q s).2.bad≠0)∧(R q s).1.size+16*s.k≤16*(R q s).2.k+c∧(s.k < (R q s).2.k→(R q s).1.size+d+16*s.k≤16*(R q s).2.k):=by
 have h1:=K.post q s b;unfold Post at h1;rw[if_pos g]at h1;have f:=K.z q s b;exact⟨h1.adv.le,h1.adv.hi,h1.more,h1.stop,hc▸f.1,f.2 d hd⟩
theorem Kz.a (K:Kz L R) (b:Pre L q s) (d:cS q s=c):s.k≤(R q s).2.k∧(R q s).2.k≤L.length - 1∧(R q s).1.size+16*s.k≤16*(R q s).2.k+c:=by
 have h1:=(K.post q s b).adv;exact⟨h1.le,h1.hi,d▸(K.z q s b).1⟩
theorem zBi (b:Lst L) {w:jE} (h:s.k≤L.length - 1):s.k≤(zO L w s).k∧(zO L w s).k≤L.length - 1∧(s.k < L.length - 1→s.k < (zO L w s).k):=⟨(za b h).adv.le,(za b h).adv.hi,(za b h).more⟩
theorem zH0 (b:Lst L) (h:s.k≤L.length - 1):s.k≤(ze L s).2.k∧(ze L s).2.k≤L.length - 1∧(s.k < L.length - 1→s.k < (ze L s).2.k)∧(s.k=L.length - 1→(ze L s).2.bad≠0):=⟨(zA7 b h).adv.le,(zA7 b h).adv.hi,(zA7 b h).more,(zA7 b h).stop⟩
theorem zG6 (b:Lst L) (h:s.k≤L.length - 1):s.k≤(zEK L s).k∧(zEK L s).k≤L.length - 1:=⟨(zCV b h).le,(zCV b h).hi⟩
theorem zBD {p:Prop} (h:p:=by(refine⟨?_,fun e b hk=>?_⟩<;>(try first | (cases b;done) | (injection b with b;subst b))<;>(try simp only[zMa,zMb,zAk,zY,zo,zFA,zHz]at *)<;>omega)):p:=h
theorem zRP {b:List Tr}:SzQ L R (.program b) s:=fun f K g=>by
 have hs:=g.1;unfold zD cS dS;dsimp only;refine zAI (fun h=>?_) (fun h=>?_);rotate_left;have k:=f.lt hs h;obtain⟨a1,j,c1,d1,e1,f1⟩:=K.e (q:=.item) (s:=s) ⟨hs,trivial⟩ (c:=2) (d:=0);obtain⟨a2,l,e2⟩:=K.a (q:=.program (b++[(R .item s).1])) (s:=(R .item s).2) ⟨j,trivial⟩ (c:=1+sizes (b++[(R .item s).1])) (rfl);rotate_left
 all_goals
  exact zBD
theorem zUl {w:jE}:(zO L w s).bad≠0∨s.k < (zO L w s).k:=by
 unfold zO;split
 · right;exact yAF _
 · left;exact zFd
theorem zXU:SzQ L R (.block) s:=fun f K g=>by
 have hs:=g.1;unfold zD cS dS;dsimp only;obtain⟨a1,j,c1⟩:=zBi (s:=s) (w:=[123]) f (hs);have c:=zUl (w:=[123]) (L:=L) (s:=s);obtain⟨p1,p2,p3⟩:=K.a (q:=.blockL []) (s:=zO L [123] s) ⟨j,trivial⟩ rfl;unfold cS at p3;dsimp only at p3;refine⟨?_,fun e b hk=>?_⟩
 · rcases c with h | h
   · rw[if_pos h]at p3;simp only[zo]at p3;omega
   · have:(if(zO L [123] s).bad≠0 then 1+sizes []else 3+sizes [])≤3:=by split<;>simp only[zo]<;>omega
     omega
 · injection b with b;subst b;have:(if(zO L [123] s).bad≠0 then 1+sizes []else 3+sizes [])≤3:=by split<;>simp only[zo]<;>omega
   rcases yBO s.k (L.length - 1)with d | d
   · have:=c1 d;omega
   · omega
theorem zUm {b:List Tr}:SzQ L R (.blockL b) s:=fun j K l=>by
 have hs:=l.1;unfold zD cS dS;dsimp only;refine zAI (fun h=>?_) (fun h=>?_)
 · rw[if_pos h];exact zBD
 · rw[if_neg h];refine zAI (fun f=>?_) (fun f=>?_)
   · have p:=j.on hs f;exact zBD
   · obtain⟨a1,m,c1,d1,e1,f1⟩:=K.e (q:=.item) (s:=s) ⟨hs,trivial⟩ (c:=2) (d:=0);obtain⟨p1,p2,p3⟩:=K.a (q:=.blockL (b++[(R .item s).1])) (s:=(R .item s).2) ⟨m,trivial⟩ rfl;unfold cS at p3;dsimp only at p3;refine⟨?_,fun e o hk=>by cases o⟩;rcases yBO s.k (L.length - 1)with g | g
     · have:=f1 (c1 g)
       by_cases h6:(R .item s).2.bad≠0
       · rw[if_pos h6]at p3;simp only[zFA,zY,zo]at p3;omega
       · rw[if_neg h6]at p3;simp only[zFA,zY,zo]at p3;omega
     · rw[if_pos (d1 jo)]at p3;simp only[zFA,zY,zo]at p3;omega
theorem zYa:SzQ L R (.item) s:=fun b K l=>by
 have hs:=l.1;unfold zD cS dS;dsimp only;refine zAI (fun h=>?_) (fun h=>?_);obtain⟨a1,m,c1,d1,e1,f1⟩:=K.e (q:=.declares) (s:=s) ⟨hs,trivial⟩ (c:=2) (d:=2);obtain⟨a2,r⟩:=zG6 (s:=(R .declares s).2) b (m);have f:s.k < L.length - 1:=by
  rcases yBU _ _ |>.mp h with h | h
  · exact b.on hs h
  · exact b.on hs h
 have g1:=c1 f;have g2:=f1 g1;clear c1 f1 d1;rotate_left;refine zAI (fun j=>?_) (fun j=>?_);have f:=b.on hs j;obtain⟨a3,o,c3,d3⟩:=zH0 (s:=zB s) b ((by show s.k+1≤_;omega));obtain⟨a4,t,e4⟩:=K.a (q:=.func 19 (ze L (zB s)).1) (s:=(ze L (zB s)).2) ⟨o,trivial⟩ (c:=3) (rfl);rotate_left;obtain⟨a5,u,c5,d5,e5,p⟩:=K.e (q:=.statement) (s:=s) ⟨hs,trivial⟩ (c:=2) (d:=2);have g:=p;rotate_left
 all_goals
  exact zBD
theorem zOJ:SzQ L R (.declares) s:=fun d K g=>by
 have hs:=g.1;unfold zD cS dS;dsimp only;refine zAI (fun h=>?_) (fun h=>?_)
 · have l:=d.on hs h;obtain⟨a1,m,e1⟩:=K.a (q:=.declL 6 []) (s:=zB s) ⟨(by show s.k+1≤_;omega),trivial⟩ (c:=2+sizes []) (rfl);exact zBD
 · obtain⟨a2,j,c2⟩:=zBi (s:=s) (w:=[108,101,116]) d (hs);obtain⟨a3,o,e3⟩:=K.a (q:=.declL 5 []) (s:=zO L [108,101,116] s) ⟨j,trivial⟩ (c:=2+sizes []) (rfl);refine⟨?_,fun e b hk=>?_⟩
   · simp only[zo]at e3;omega
   · injection b with b;subst b;simp only[zo]at e3;rcases yBO s.k (L.length - 1)with f | f
     · have:=c2 f;omega
     · omega
theorem zXV {k:Int} {b:List Tr}:SzQ L R (.declL k b) s:=fun f K p=>by
 have hs:=p.1;unfold zD cS dS;dsimp only;obtain⟨a1,g,c1,d1⟩:=zH0 (s:=s) f (hs)
 try simp only[zHz]at a1 g c1 d1
 obtain⟨d,j⟩:=jx ((if onP L [61] (ze L s).2=true then(trN 7 (ze L s).1 [(R .assign (zB (ze L s).2)).1],(R .assign (zB (ze L s).2)).2)else(trN 7 (ze L s).1 [],(ze L s).2):Tr×Ps));have r:(ze L s).2.k≤d.2.k∧d.2.k≤L.length - 1∧d.1.size+16*(ze L s).2.k≤16*d.2.k+1∧(s.k=L.length - 1→d.2.bad≠0):=by
  rw[←j];split
  · rename_i c
    have l:=f.on g c;obtain⟨a2,m,c2,d2,e2,t⟩:=K.e (q:=.assign) (s:=zB (ze L s).2) ⟨by show(ze L s).2.k+1≤_;omega,trivial⟩ (c:=1) (d:=4)
    try simp only[zHz]at a2 m c2 d2 e2 t
    dsimp only;refine⟨by omega,m,by simp only[zMb,zY,zo];omega,fun h=>by omega⟩
  · exact⟨yAC _,g,by simp only[zMb,zo];omega,d1⟩
 rw[j];clear j;obtain⟨q1,q2,q3,q4⟩:=r;refine zAI (fun h=>?_) (fun h=>?_);rotate_left;refine zAI (fun o=>?_) (fun o=>?_);have l:=f.on q2 o;obtain⟨a3,u,e3⟩:=K.a (q:=.declL k (b++[d.1])) (s:=zB d.2) ⟨by show d.2.k+1≤_;omega,trivial⟩ (c:=2+sizes (b++[d.1])) (rfl)
 try simp only[zHz]at a3 u e3
 rotate_left;rotate_left
 all_goals
  exact zBD
theorem zYb {k:Int} {m:jE}:SzQ L R (.func k m) s:=fun g K b=>by
 have hs:=b.1;unfold zD cS dS;dsimp only;obtain⟨a1,f,c1,d1,e1,f1⟩:=K.e (q:=.params) (s:=s) ⟨hs,trivial⟩ (c:=2) (d:=6);obtain⟨a2,j,c2,d2,e2,l⟩:=K.e (q:=.block) (s:=(R .params s).2) ⟨f,trivial⟩ (c:=1) (d:=4);have o:=zDy (R .params s).1;exact zBD
theorem zUn:SzQ L R (.params) s:=fun b K e=>by
 have hs:=e.1;unfold zD cS dS;dsimp only;obtain⟨a1,d,c1⟩:=zBi (s:=s) (w:=[40]) b (hs);refine zAI (fun h=>?_) (fun h=>?_);have f:=b.on d h;rotate_left;obtain⟨a2,g,e2⟩:=K.a (q:=.paramL []) (s:=zO L [40] s) ⟨d,trivial⟩ (c:=2+sizes []) (rfl);simp only[zo]at e2;rotate_left
 all_goals
  exact zBD
theorem zUo {b:List Tr}:SzQ L R (.paramL b) s:=fun d K l=>by
 have hs:=l.1;unfold zD cS dS;dsimp only;obtain⟨a1,e,c1,d1⟩:=zH0 (s:=s) d (hs);refine zAI (fun h=>?_) (fun h=>?_);rotate_left;refine zAI (fun f=>?_) (fun f=>?_);have g:=d.on e f;rotate_left;obtain⟨a2,m,c2⟩:=zBi (s:=(ze L s).2) (w:=[44]) d (e);obtain⟨a3,o,e3⟩:=K.a (q:=.paramL (b++[trN 20 (ze L s).1 []])) (s:=zO L [44] (ze L s).2) ⟨m,trivial⟩ (c:=2+sizes (b++[trN 20 (ze L s).1 []])) (rfl);have g:s.k < L.length - 1:=by
  rcases yBO s.k (L.length - 1)with j | j
  · exact j
  · exact absurd (d1 jo) h
 rotate_left
 all_goals
  exact zBD
theorem zLN:SzQ L R (.statement) s:=fun b K l=>by
 have hs:=l.1;unfold zD cS dS;dsimp only;refine zAI (fun h=>?_) (fun h=>?_);have f:=b.lt hs (by rw[h.1];decide);have m:=zL8 b f h.2;obtain⟨a1,p,c1,d1,e1,f1⟩:=K.e (q:=.statement) (s:=zB (zB s)) ⟨by show s.k+1+1≤_;omega,trivial⟩ (c:=2) (d:=2);rotate_left;refine zAI (fun g=>?_) (fun g=>?_);obtain⟨a2,r,c2,d2,e2,t⟩:=K.e (q:=.word (zH L s.k).text) (s:=s) ⟨hs,b.lt hs (by rw[g];decide)⟩ (c:=2) (d:=2);rotate_left;refine zAI (fun j=>?_) (fun j=>?_);have f:=b.on hs j;rotate_left;refine zAI (fun o=>?_) (fun o=>?_);obtain⟨a3,u,c3,d3,e3,f3⟩:=K.e (q:=.block) (s:=s) ⟨hs,trivial⟩ (c:=1) (d:=4);rotate_left;obtain⟨a4,v,c4,d4,e4,y⟩:=K.e (q:=.simple) (s:=s) ⟨hs,trivial⟩ (c:=2) (d:=2);rotate_left
 all_goals
  exact zBD
theorem zUp:SzQ L R (.simple) s:=fun b K f=>by
 have hs:=f.1;unfold zD cS dS;dsimp only;obtain⟨a1,g,c1,d1,e1,f1⟩:=K.e (q:=.assign) (s:=s) ⟨hs,trivial⟩ (c:=1) (d:=4);obtain⟨a2,j⟩:=zG6 (s:=(R .assign s).2) b (g);exact zBD
theorem zYc {w:jE}:SzQ L R (.word w) s:=fun g K j=>by
 have hs:=j.1;unfold zD cS dS;dsimp only;have b:s.k < L.length - 1:=j.2;have E:(zb L s).k=L.length - 1:=rfl;refine zAI (fun h1=>?_) (fun h1=>?_);obtain⟨a1,p,e1⟩:=K.a (q:=.within) (s:=zB s) ⟨by show s.k+1≤_;omega,trivial⟩ (c:=1) (rfl);obtain⟨a2,r,c2,d2,e2,f2⟩:=K.e (q:=.statement) (s:=(R .within (zB s)).2) ⟨p,trivial⟩ (c:=2) (d:=2);refine zAI (fun h=>?_) (fun h=>?_);have t:=g.on r h;obtain⟨a3,b3,c3,d3,e3,f3⟩:=K.e (q:=.statement) (s:=zB (R .statement (R .within (zB s)).2).2) ⟨by show(R .statement (R .within (zB s)).2).2.k+1≤_;omega,trivial⟩ (c:=2) (d:=2);rotate_left;rotate_left;refine zAI (fun u=>?_) (fun u=>?_);obtain⟨a4,v,e4⟩:=K.a (q:=.within) (s:=zB s) ⟨by show s.k+1≤_;omega,trivial⟩ (c:=1) (rfl);obtain⟨a5,b5,c5,d5,e5,f5⟩:=K.e (q:=.statement) (s:=(R .within (zB s)).2) ⟨v,trivial⟩ (c:=2) (d:=2);rotate_left;refine zAI (fun y=>?_) (fun y=>?_);obtain⟨a6,b6,c6,d6,e6,f6⟩:=K.e (q:=.loop) (s:=s) ⟨hs,b⟩ (c:=2) (d:=2);rotate_left;refine zAI (fun z=>?_) (fun z=>?_);obtain⟨a7,b7,c7,d7,e7,f7⟩:=K.e (q:=.jump 12) (s:=s) ⟨hs,b⟩ (c:=2) (d:=2);rotate_left;refine zAI (fun A=>?_) (fun A=>?_);obtain⟨a8,b8,c8,d8,e8,f8⟩:=K.e (q:=.jump 13) (s:=s) ⟨hs,b⟩ (c:=2) (d:=2);rotate_left;refine zAI (fun h6=>?_) (fun h6=>?_);refine zAI (fun h=>?_) (fun h=>?_);obtain⟨a9,b9⟩:=zG6 (s:=zB s) g (by show s.k+1≤_;omega);rotate_left;obtain⟨F,l,G,H,I,J⟩:=K.e (q:=.assign) (s:=zB s) ⟨by show s.k+1≤_;omega,trivial⟩ (c:=1) (d:=4);obtain⟨M,N⟩:=zG6 (s:=(R .assign (zB s)).2) g (l);rotate_left;refine zAI (fun B=>?_) (fun B=>?_);obtain⟨s1,f⟩:=jx ((if(zH L (zB s).k).nl=true then zb L (zB s)else zB s:Ps));have m:s.k+1≤s1.k∧s1.k≤L.length - 1:=by
  rw[←f];split
  · exact⟨by show s.k+1≤L.length - 1;omega,yAC _⟩
  · exact⟨yAC _,by show s.k+1≤_;omega⟩
 rw[f];clear f;obtain⟨O,o,P,Q,S,T⟩:=K.e (q:=.assign) (s:=s1) ⟨m.2,trivial⟩ (c:=1) (d:=4);obtain⟨U,V⟩:=zG6 (s:=(R .assign s1).2) g (o);rotate_left;refine zAI (fun C=>?_) (fun C=>?_);obtain⟨W,X,Y,a0,b0,c0⟩:=K.e (q:=.tries) (s:=s) ⟨hs,b⟩ (c:=2) (d:=2);rotate_left;refine zAI (fun D=>?_) (fun D=>?_);rotate_left;obtain⟨c1,c4,c9,d0,d1,d4⟩:=K.e (q:=.simple) (s:=s) ⟨hs,trivial⟩ (c:=2) (d:=2);rotate_left
 all_goals
  exact zBD
theorem zUq:SzQ L R (.within) s:=fun b K f=>by
 have hs:=f.1;unfold zD cS dS;dsimp only;obtain⟨a1,g,c1⟩:=zBi (s:=s) (w:=[40]) b (hs);obtain⟨a2,j,c2,d2,e2,k⟩:=K.e (q:=.assign) (s:=zO L [40] s) ⟨g,trivial⟩ (c:=1) (d:=4);obtain⟨a3,l,c3⟩:=zBi (s:=(R .assign (zO L [40] s)).2) (w:=[41]) b (j);exact zBD
theorem zUr {w:jE}:SzQ L R (.clause w) s:=fun b K f=>by
 have hs:=f.1;unfold zD cS dS;dsimp only;refine zAI (fun h=>?_) (fun h=>?_);obtain⟨a1,j,c1⟩:=zBi (s:=s) (w:=w) b (hs);rotate_left;obtain⟨a2,g,c2,d2,e2,k⟩:=K.e (q:=.assign) (s:=s) ⟨hs,trivial⟩ (c:=1) (d:=4);obtain⟨a3,l,c3⟩:=zBi (s:=(R .assign s).2) (w:=w) b (g);rotate_left
 all_goals
  exact zBD
theorem zYd:SzQ L R (.loop) s:=fun f K g=>by
 have hs:=g.1;unfold zD cS dS;dsimp only;have r:s.k < L.length - 1:=g.2;obtain⟨a1,j,c1⟩:=zBi (s:=zB s) (w:=[40]) f (by show s.k+1≤_;omega);obtain⟨a,b⟩:=jx ((if(onP L [108,101,116] (zO L [40] (zB s)) || onP L [99,111,110,115,116] (zO L [40] (zB s)))=true then((R .declares (zO L [40] (zB s))).1,zO L [59] (R .declares (zO L [40] (zB s))).2)else R (.clause [59]) (zO L [40] (zB s)):Tr×Ps));have l:(zO L [40] (zB s)).k≤a.2.k∧a.2.k≤L.length - 1∧a.1.size+16*(zO L [40] (zB s)).k≤16*a.2.k+2:=by
  rw[←b];split
  · obtain⟨a2,m,c2,d2,e2,t⟩:=K.e (q:=.declares) (s:=zO L [40] (zB s)) ⟨j,trivial⟩ (c:=2) (d:=2);obtain⟨a3,u,c3⟩:=zBi (s:=(R .declares (zO L [40] (zB s))).2) (w:=[59]) f (m);dsimp only;exact⟨by omega,by omega,by omega⟩
  · obtain⟨a4,v,e4⟩:=K.a (q:=.clause [59]) (s:=zO L [40] (zB s)) ⟨j,trivial⟩ (c:=1) (rfl);exact⟨by omega,by omega,by omega⟩
 rw[b];clear b;obtain⟨q1,q2,q3⟩:=l;obtain⟨a5,o,e5⟩:=K.a (q:=.clause [59]) (s:=a.2) ⟨q2,trivial⟩ (c:=1) (rfl);obtain⟨a6,p,e6⟩:=K.a (q:=.clause [41]) (s:=(R (.clause [59]) a.2).2) ⟨o,trivial⟩ (c:=1) (rfl);obtain⟨a7,y,c7,d7,e7,z⟩:=K.e (q:=.statement) (s:=(R (.clause [41]) (R (.clause [59]) a.2).2).2) ⟨p,trivial⟩ (c:=2) (d:=2);exact zBD
theorem zYe {k:Int}:SzQ L R (.jump k) s:=fun b K c=>by
 have hs:=c.1;unfold zD cS dS;dsimp only;have e:s.k < L.length - 1:=c.2;refine zAI (fun h=>?_) (fun h=>?_);obtain⟨a1,d,c1,d1⟩:=zH0 (s:=zB s) b (by show s.k+1≤_;omega);obtain⟨a2,f⟩:=zG6 (s:=(ze L (zB s)).2) b (d);rotate_left;obtain⟨a3,g⟩:=zG6 (s:=zB s) b (by show s.k+1≤_;omega);rotate_left
 all_goals
  exact zBD
theorem zXW:SzQ L R (.tries) s:=fun f K l=>by
 have hs:=l.1;unfold zD cS dS;dsimp only;have v:s.k < L.length - 1:=l.2;obtain⟨a1,m,c1,d1,e1,f1⟩:=K.e (q:=.block) (s:=zB s) ⟨by show s.k+1≤_;omega,trivial⟩ (c:=1) (d:=4);obtain⟨s1,g⟩:=jx ((if(onP L [99,97,116,99,104] (R .block (zB s)).2 || onP L [102,105,110,97,108,108,121] (R .block (zB s)).2)=true then(R .block (zB s)).2 else zb L (R .block (zB s)).2:Ps));have j:(R .block (zB s)).2.k≤s1.k∧s1.k≤L.length - 1:=by
  rw[←g];split
  · exact⟨yAC _,m⟩
  · exact⟨m,yAC _⟩
 rw[g];clear g;have o:onP L [99,97,116,99,104] s1=true→s1.k+1≤((if onP L [40] (zB s1)=true then((ze L (zB (zB s1))).1,zO L [41] (ze L (zB (zB s1))).2)else([],zB s1):jE×Ps)).2.k∧((if onP L [40] (zB s1)=true then((ze L (zB (zB s1))).1,zO L [41] (ze L (zB (zB s1))).2)else([],zB s1):jE×Ps)).2.k≤L.length - 1:=by
  intro b;have y:=f.on j.2 b;split
  · rename_i c
    have z:=f.on (s:=zB s1) (by show s1.k+1≤_;omega) c;have r:=zH0 (s:=zB (zB s1)) f (by show(zB s1).k+1≤_;omega);have B:=zBi (s:=(ze L (zB (zB s1))).2) (w:=[41]) f r.2.1;have C:(zB (zB s1)).k=s1.k+1+1:=rfl;dsimp only;omega
  · exact⟨yAC _,by show s1.k+1≤_;omega⟩
 obtain⟨n,p⟩:=jx ((if onP L [40] (zB s1)=true then((ze L (zB (zB s1))).1,zO L [41] (ze L (zB (zB s1))).2)else([],zB s1):jE×Ps));rw[p]at o⊢;clear p;obtain⟨c,b⟩:=jx ((if onP L [99,97,116,99,104] s1=true then(trN 17 n.1 [(R .block n.2).1],(R .block n.2).2)else(trK 11 [],s1):Tr×Ps));have t:s1.k≤c.2.k∧c.2.k≤L.length - 1∧c.1.size+16*s1.k≤16*c.2.k+1:=by
  rw[←b];split
  · rename_i b
    have h1:=o b;obtain⟨a2,u,c2,d2,e2,D⟩:=K.e (q:=.block) (s:=n.2) ⟨h1.2,trivial⟩ (c:=1) (d:=4);dsimp only;exact⟨by omega,u,by simp only[zMb,zY,zo];omega⟩
  · exact⟨yAC _,j.2,by simp only[zMa,zo];omega⟩
 rw[b];clear b;obtain⟨q1,q2,q3⟩:=t;refine zAI (fun h=>?_) (fun h=>?_);have A:=f.on q2 h;obtain⟨a3,E,c3,d3,e3,f3⟩:=K.e (q:=.block) (s:=zB c.2) ⟨by show c.2.k+1≤_;omega,trivial⟩ (c:=1) (d:=4);rotate_left;rotate_left
 all_goals
  exact zBD
theorem zUs:SzQ L R (.assign) s:=fun g K l=>by
 have hs:=l.1;unfold zD cS dS;dsimp only;refine zAI (fun h1=>?_) (fun h1=>?_);have f:=g.lt hs (by rw[h1.1];decide);obtain⟨a1,u,e1⟩:=K.a (q:=.body [trN 20 (zH L s.k).text []]) (s:=zB s) ⟨by show s.k+1≤_;omega,trivial⟩ (c:=2+sizes [trN 20 (zH L s.k).text []]) (rfl);rotate_left;refine zAI (fun b=>?_) (fun b=>?_);obtain⟨a2,m,c2,d2,e2,v⟩:=K.e (q:=.params) (s:=s) ⟨hs,trivial⟩ (c:=2) (d:=6);obtain⟨a3,y,e3⟩:=K.a (q:=.body (R .params s).1.subs) (s:=(R .params s).2) ⟨m,trivial⟩ (c:=2+sizes (R .params s).1.subs) (rfl);have z:=zDy (R .params s).1;have f:s.k < L.length - 1:=by
  unfold zAb at b;rw[yAQ]at b;exact g.on hs b.1
 rotate_left;obtain⟨a4,o,c4,d4,e4,A⟩:=K.e (q:=.cond) (s:=s) ⟨hs,trivial⟩ (c:=1) (d:=4);have t:(zC8 L 5 (R .cond s).2).k=L.length - 1:=rfl;refine zAI (fun j=>?_) (fun j=>?_);rotate_left;refine zAI (fun p=>?_) (fun p=>?_);rotate_left;have f:=g.lt (s:=(R .cond s).2) o (fun r=>j (.inl (by rw[r];decide)));obtain⟨a5,B,c5,d5,e5,C⟩:=K.e (q:=.assign) (s:=zB (R .cond s).2) ⟨by show(R .cond s).2.k+1≤_;omega,trivial⟩ (c:=1) (d:=4);rotate_left
 all_goals
  exact zBD
theorem zYf {l:List Tr}:SzQ L R (.body l) s:=fun t K u=>by
 have hs:=u.1;unfold zD cS dS;dsimp only;obtain⟨s1,f⟩:=jx ((if(zH L s.k).nl=true then zb L s else s:Ps));have p:s.k≤s1.k∧s1.k≤L.length - 1:=by
  rw[←f];split
  · exact⟨hs,yAC _⟩
  · exact⟨yAC _,hs⟩
 rw[f];clear f;obtain⟨a1,o,c1⟩:=zBi (s:=s1) (w:=[61,62]) t (p.2);obtain⟨b,m⟩:=jx (zO L [61,62] s1);rw[m]at a1 o c1⊢;clear m;obtain⟨j,g⟩:=jx ((if onP L [123] b=true then R .block b else R .assign b:Tr×Ps));have r:b.k≤j.2.k∧j.2.k≤L.length - 1∧j.1.size+16*b.k≤16*j.2.k+1:=by
  rw[←g];split
  · obtain⟨a2,v,c2,d2,e2,z⟩:=K.e (q:=.block) (s:=b) ⟨o,trivial⟩ (c:=1) (d:=4);exact⟨a2,v,e2⟩
  · obtain⟨a3,y,c3,d3,e3,f3⟩:=K.e (q:=.assign) (s:=b) ⟨o,trivial⟩ (c:=1) (d:=4);exact⟨a3,y,e3⟩
 rw[g];clear g;obtain⟨q1,q2,q3⟩:=r;exact zBD
theorem zYg:SzQ L R (.cond) s:=fun b K f=>by
 have hs:=f.1;unfold zD cS dS;dsimp only;obtain⟨a1,g,c1,d1,e1,f1⟩:=K.e (q:=.either) (s:=s) ⟨hs,trivial⟩ (c:=1) (d:=4);refine zAI (fun h=>?_) (fun h=>?_);have m:=b.on g h;obtain⟨a2,j,c2,d2,e2,o⟩:=K.e (q:=.assign) (s:=zB (R .either s).2) ⟨by show(R .either s).2.k+1≤_;omega,trivial⟩ (c:=1) (d:=4);obtain⟨a3,l,c3⟩:=zBi (s:=(R .assign (zB (R .either s).2)).2) (w:=[58]) b (j);obtain⟨a4,p,c4,d4,e4,r⟩:=K.e (q:=.assign) (s:=zO L [58] (R .assign (zB (R .either s).2)).2) ⟨l,trivial⟩ (c:=1) (d:=4);rotate_left;rotate_left
 all_goals
  exact zBD
theorem zUt:SzQ L R (.either) s:=fun u K t=>by
 have hs:=t.1;unfold zD cS dS;dsimp only;obtain⟨a1,j,c1,d1,e1,f1⟩:=K.e (q:=.level 0) (s:=s) ⟨hs,yAE _⟩ (c:=1) (d:=4);refine zAI (fun h=>?_) (fun h=>?_);obtain⟨a2,l,e2⟩:=K.a (q:=.nullL (R (.level 0) s).1) (s:=(R (.level 0) s).2) ⟨j,trivial⟩ (c:=(R (.level 0) s).1.size) (rfl);obtain⟨f,b⟩:=jx ((if(onP L [124,124] (R (.nullL (R (.level 0) s).1) (R (.level 0) s).2).2 || onP L [38,38] (R (.nullL (R (.level 0) s).1) (R (.level 0) s).2).2)=true then zb L (R (.nullL (R (.level 0) s).1) (R (.level 0) s).2).2 else(R (.nullL (R (.level 0) s).1) (R (.level 0) s).2).2:Ps));have m:(R (.nullL (R (.level 0) s).1) (R (.level 0) s).2).2.k≤f.k∧f.k≤L.length - 1:=by
  rw[←b];split
  · exact⟨l,yAC _⟩
  · exact⟨yAC _,l⟩
 rw[b];clear b;rotate_left;obtain⟨a3,o,e3⟩:=K.a (q:=.both (R (.level 0) s).1) (s:=(R (.level 0) s).2) ⟨j,trivial⟩ (c:=(R (.level 0) s).1.size) (rfl);obtain⟨y,p⟩:=jx (R (.both (R (.level 0) s).1) (R (.level 0) s).2);rw[p]at a3 o e3⊢;clear p;obtain⟨a4,g,e4⟩:=K.a (q:=.orL y.1) (s:=y.2) ⟨o,trivial⟩ (c:=y.1.size) (rfl);obtain⟨z,r⟩:=jx (R (.orL y.1) y.2);rw[r]at a4 g e4⊢;clear r;obtain⟨f,b⟩:=jx ((if onP L [63,63] z.2=true then zb L z.2 else z.2:Ps));have m:z.2.k≤f.k∧f.k≤L.length - 1:=by
  rw[←b];split
  · exact⟨g,yAC _⟩
  · exact⟨yAC _,g⟩
 rw[b];clear b;rotate_left
 all_goals
  exact zBD
theorem zXX {x:Tr}:SzQ L R (.nullL x) s:=fun b K f=>by
 have hs:=f.1;unfold zD cS dS;dsimp only;refine zAI (fun h=>?_) (fun h=>?_);have j:=b.on hs h;obtain⟨a1,g,c1,d1,e1,f1⟩:=K.e (q:=.level 0) (s:=zB s) ⟨by show s.k+1≤_;omega,yAE _⟩ (c:=1) (d:=4);obtain⟨a2,l,e2⟩:=K.a (q:=.nullL (trN 47 [63,63] [x,(R (.level 0) (zB s)).1])) (s:=(R (.level 0) (zB s)).2) ⟨g,trivial⟩ (c:=(trN 47 [63,63] [x,(R (.level 0) (zB s)).1]).size) (rfl);rotate_left;rotate_left
 all_goals
  exact zBD
theorem zYh {x:Tr}:SzQ L R (.both x) s:=fun b K f=>by
 have hs:=f.1;unfold zD cS dS;dsimp only;refine zAI (fun h=>?_) (fun h=>?_);have j:=b.on hs h;obtain⟨a1,g,c1,d1,e1,f1⟩:=K.e (q:=.level 0) (s:=zB s) ⟨by show s.k+1≤_;omega,yAE _⟩ (c:=1) (d:=4);obtain⟨a2,l,e2⟩:=K.a (q:=.both (trN 47 [38,38] [x,(R (.level 0) (zB s)).1])) (s:=(R (.level 0) (zB s)).2) ⟨g,trivial⟩ (c:=(trN 47 [38,38] [x,(R (.level 0) (zB s)).1]).size) (rfl);rotate_left;rotate_left
 all_goals
  exact zBD
theorem zZU {x:Tr}:SzQ L R (.orL x) s:=fun l K m=>by
 have hs:=m.1;unfold zD cS dS;dsimp only;refine zAI (fun h=>?_) (fun h=>?_);have o:=l.on hs h;obtain⟨a1,b,c1,d1,e1,f1⟩:=K.e (q:=.level 0) (s:=zB s) ⟨by show s.k+1≤_;omega,yAE _⟩ (c:=1) (d:=4);obtain⟨y,f⟩:=jx (R (.level 0) (zB s));rw[f]at a1 b c1 d1 e1 f1⊢;clear f;obtain⟨a2,g,e2⟩:=K.a (q:=.both y.1) (s:=y.2) ⟨b,trivial⟩ (c:=y.1.size) (rfl);obtain⟨z,j⟩:=jx (R (.both y.1) y.2);rw[j]at a2 g e2⊢;clear j;obtain⟨a3,p,e3⟩:=K.a (q:=.orL (trN 47 [124,124] [x,z.1])) (s:=z.2) ⟨g,trivial⟩ (c:=(trN 47 [124,124] [x,z.1]).size) (rfl);rotate_left;rotate_left
 all_goals
  exact zBD
theorem zXY:SzQ L R (.level n) s:=fun g K b=>by
 have hs:=b.1;unfold zD cS dS;dsimp only;refine zAI (fun h=>?_) (fun h=>?_);obtain⟨a1,j,c1,d1,e1,f1⟩:=K.e (q:=.unary) (s:=s) ⟨hs,trivial⟩ (c:=1) (d:=4);rotate_left;have k:n≤8:=b.2;obtain⟨a2,f,c2,d2,e2,l⟩:=K.e (q:=.level (n+1)) (s:=s) ⟨hs,(by show n+1≤8;omega)⟩ (c:=1) (d:=4);obtain⟨a3,m,e3⟩:=K.a (q:=.levelL n (R (.level (n+1)) s).1) (s:=(R (.level (n+1)) s).2) ⟨f,(by show n < 8;omega)⟩ (c:=(R (.level (n+1)) s).1.size) (rfl);rotate_left
 all_goals
  exact zBD
theorem zUu {x:Tr}:SzQ L R (.levelL n x) s:=fun f K b=>by
 have hs:=b.1;unfold zD cS dS;dsimp only;refine zAI (fun h=>?_) (fun h=>?_);have g:n < 8:=b.2;have l:=f.lt hs (zFe (by rw[h];omega));obtain⟨a1,j,c1,d1,e1,f1⟩:=K.e (q:=.level (n+1)) (s:=zB s) ⟨by show s.k+1≤_;omega,(by show n+1≤8;omega)⟩ (c:=1) (d:=4);obtain⟨a2,m,e2⟩:=K.a (q:=.levelL n (trN 46 (zH L s.k).text [x,(R (.level (n+1)) (zB s)).1])) (s:=(R (.level (n+1)) (zB s)).2) ⟨j,g⟩ (c:=(trN 46 (zH L s.k).text [x,(R (.level (n+1)) (zB s)).1]).size) (rfl);rotate_left;rotate_left
 all_goals
  exact zBD
theorem zXZ:SzQ L R (.unary) s:=fun j K r=>by
 have hs:=r.1;unfold zD cS dS;dsimp only;refine zAI (fun h1=>?_) (fun h1=>?_);have g:=j.lt hs (by rcases h1.1 with b | b<;>(rw[b];decide));obtain⟨a1,z,c1,d1,e1,f1⟩:=K.e (q:=.unary) (s:=zB s) ⟨by show s.k+1≤_;omega,trivial⟩ (c:=1) (d:=4);rotate_left;refine zAI (fun l=>?_) (fun l=>?_);have g:=j.lt hs (by rcases l.1 with b | b<;>(rw[b];decide));obtain⟨a2,m,c2,d2,e2,A⟩:=K.e (q:=.unary) (s:=zB s) ⟨by show s.k+1≤_;omega,trivial⟩ (c:=1) (d:=4);obtain⟨o,f⟩:∃x,(if(R .unary (zB s)).2.bad=0∧zAN (R .unary (zB s)).1.nd.kind=false then zb L (R .unary (zB s)).2 else(R .unary (zB s)).2:Ps)=x:=⟨_,rfl⟩;have v:(R .unary (zB s)).2.k≤o.k∧o.k≤L.length - 1:=by
  rw[←f];split
  · exact⟨m,yAC _⟩
  · exact⟨yAC _,m⟩
 rw[f];clear f;rotate_left;obtain⟨a3,t,c3,d3,e3,f3⟩:=K.e (q:=.calls) (s:=s) ⟨hs,trivial⟩ (c:=1) (d:=4);have y:(zb L (R .calls s).2).k=L.length - 1:=rfl;refine zAI (fun p=>?_) (fun p=>?_);refine zAI (fun u=>?_) (fun u=>?_);rotate_left;have g:=j.lt (s:=(R .calls s).2) t (by rw[p.1];decide);rotate_left;rotate_left
 all_goals
  exact zBD
theorem zXa:SzQ L R (.calls) s:=fun g K b=>by
 have hs:=b.1;unfold zD cS dS;dsimp only;obtain⟨a1,f,c1,d1,e1,f1⟩:=K.e (q:=.head) (s:=s) ⟨hs,trivial⟩ (c:=1) (d:=4);obtain⟨a2,j,e2⟩:=K.a (q:=.callsL (R .head s).1) (s:=(R .head s).2) ⟨f,trivial⟩ (c:=(R .head s).1.size) (rfl);exact zBD
theorem zUv {x:Tr}:SzQ L R (.callsL x) s:=fun b K p=>by
 have hs:=p.1;unfold zD cS dS;dsimp only;refine zAI (fun h=>?_) (fun h=>?_);have f:=b.on hs h;obtain⟨a1,r,c1,d1,e1,f1⟩:=K.e (q:=.args) (s:=s) ⟨hs,f⟩ (c:=2) (d:=0);have y:=zDy (R .args s).1;obtain⟨a2,z,e2⟩:=K.a (q:=.callsL (trK 50 (x::(R .args s).1.subs))) (s:=(R .args s).2) ⟨r,trivial⟩ (c:=(trK 50 (x::(R .args s).1.subs)).size) (rfl);rotate_left;refine zAI (fun g=>?_) (fun g=>?_);have f:=b.on hs g;have v:(zb L (zB s)).k=L.length - 1:=rfl;refine zAI (fun j=>?_) (fun j=>?_);rotate_left;have l:=b.lt (s:=zB s) (by show s.k+1≤_;omega) (fun m=>j ⟨by rw[m];decide,by rw[m];decide⟩);simp only[zHz]at l;obtain⟨a3,A,e3⟩:=K.a (q:=.callsL (trN 52 (zH L (zB s).k).text [x])) (s:=zB (zB s)) ⟨by show s.k+1+1≤_;omega,trivial⟩ (c:=(trN 52 (zH L (zB s).k).text [x]).size) (rfl);rotate_left;refine zAI (fun o=>?_) (fun o=>?_);have f:=b.on hs o;obtain⟨a4,t,c4,d4,e4,B⟩:=K.e (q:=.assign) (s:=zB s) ⟨by show s.k+1≤_;omega,trivial⟩ (c:=1) (d:=4);obtain⟨a5,u,c5⟩:=zBi (s:=(R .assign (zB s)).2) (w:=[93]) b (t);obtain⟨a6,C,e6⟩:=K.a (q:=.callsL (trK 53 [x,(R .assign (zB s)).1])) (s:=zO L [93] (R .assign (zB s)).2) ⟨u,trivial⟩ (c:=(trK 53 [x,(R .assign (zB s)).1]).size) (rfl);rotate_left;rotate_left
 all_goals
  exact zBD
theorem zXb {x:Tr}:SzQ L R (.headL x) s:=fun b K p=>by
 have hs:=p.1;unfold zD cS dS;dsimp only;refine zAI (fun f=>?_) (fun f=>?_);have g:=b.on hs f;have u:(zb L (zB s)).k=L.length - 1:=rfl;refine zAI (fun j=>?_) (fun j=>?_);rotate_left;have l:=b.lt (s:=zB s) (by show s.k+1≤_;omega) (fun m=>j ⟨by rw[m];decide,by rw[m];decide⟩);simp only[zHz]at l;obtain⟨a1,v,e1⟩:=K.a (q:=.headL (trN 52 (zH L (zB s).k).text [x])) (s:=zB (zB s)) ⟨by show s.k+1+1≤_;omega,trivial⟩ (c:=(trN 52 (zH L (zB s).k).text [x]).size) (rfl);rotate_left;refine zAI (fun o=>?_) (fun o=>?_);have g:=b.on hs o;obtain⟨a2,r,c2,d2,e2,y⟩:=K.e (q:=.assign) (s:=zB s) ⟨by show s.k+1≤_;omega,trivial⟩ (c:=1) (d:=4);obtain⟨a3,t,c3⟩:=zBi (s:=(R .assign (zB s)).2) (w:=[93]) b (r);obtain⟨a4,z,e4⟩:=K.a (q:=.headL (trK 53 [x,(R .assign (zB s)).1])) (s:=zO L [93] (R .assign (zB s)).2) ⟨t,trivial⟩ (c:=(trK 53 [x,(R .assign (zB s)).1]).size) (rfl);rotate_left;rotate_left
 all_goals
  exact zBD
theorem zYi:SzQ L R (.head) s:=fun f K p=>by
 have hs:=p.1;unfold zD cS dS;dsimp only;refine zAI (fun h=>?_) (fun h=>?_);have r:=f.on hs h;obtain⟨a1,g,c1,d1,e1,f1⟩:=K.e (q:=.head) (s:=zB s) ⟨by show s.k+1≤_;omega,trivial⟩ (c:=1) (d:=4);obtain⟨x,j⟩:=jx (R .head (zB s));rw[j]at a1 g c1 d1 e1 f1⊢;clear j;obtain⟨a2,b,e2⟩:=K.a (q:=.headL x.1) (s:=x.2) ⟨g,trivial⟩ (c:=x.1.size) (rfl);obtain⟨y,l⟩:=jx (R (.headL x.1) x.2);rw[l]at a2 b e2⊢;clear l;refine zAI (fun m=>?_) (fun m=>?_);have o:=f.on b m;obtain⟨a3,t,c3,d3,e3,f3⟩:=K.e (q:=.args) (s:=y.2) ⟨b,o⟩ (c:=2) (d:=0);have u:=zDy (R .args y.2).1;rotate_left;rotate_left;obtain⟨a4,v,c4,d4,e4,A⟩:=K.e (q:=.primary) (s:=s) ⟨hs,trivial⟩ (c:=1) (d:=4);rotate_left
 all_goals
  exact zBD
theorem zYj:SzQ L R (.args) s:=fun e K b=>by
 have hs:=b.1;unfold zD cS dS;dsimp only;have d:s.k < L.length - 1:=b.2;obtain⟨a1,f,c1⟩:=zBi (s:=s) (w:=[40]) e (hs);obtain⟨a2,g,e2⟩:=K.a (q:=.list [41]) (s:=zO L [40] s) ⟨f,trivial⟩ (c:=2) (rfl);have:=c1 d;exact zBD
theorem zYk {w:jE}:SzQ L R (.list w) s:=fun b K d=>by
 have hs:=d.1;unfold zD cS dS;dsimp only;refine zAI (fun h=>?_) (fun h=>?_);have e:=b.on hs h;rotate_left;obtain⟨a1,f,e1⟩:=K.a (q:=.listL w []) (s:=s) ⟨hs,trivial⟩ (c:=2+sizes []) (rfl);rotate_left
 all_goals
  exact zBD
theorem zXc {w:jE} {b:List Tr}:SzQ L R (.listL w b) s:=fun f K o=>by
 have hs:=o.1;unfold zD cS dS;dsimp only;obtain⟨a1,g,c1,d1,e1,f1⟩:=K.e (q:=.assign) (s:=s) ⟨hs,trivial⟩ (c:=1) (d:=4);refine zAI (fun h=>?_) (fun h=>?_);rotate_left;refine zAI (fun j=>?_) (fun j=>?_);have l:=f.on g j;rotate_left;obtain⟨a2,p,c2⟩:=zBi (s:=(R .assign s).2) (w:=[44]) f (g);obtain⟨a3,r,e3⟩:=K.a (q:=.listL w (b++[(R .assign s).1])) (s:=zO L [44] (R .assign s).2) ⟨p,trivial⟩ (c:=2+sizes (b++[(R .assign s).1])) (rfl);have l:s.k < L.length - 1:=by
  rcases yBO s.k (L.length - 1)with m | m
  · exact m
  · exact absurd (d1 jo) h
 rotate_left
 all_goals
  exact zBD
theorem zYl {b:List Tr}:SzQ L R (.objL b) s:=fun f K o=>by
 have hs:=o.1;unfold zD cS dS;dsimp only;obtain⟨a1,g,c1,d1,e1,f1⟩:=K.e (q:=.prop) (s:=s) ⟨hs,trivial⟩ (c:=1) (d:=1);refine zAI (fun h=>?_) (fun h=>?_);rotate_left;refine zAI (fun j=>?_) (fun j=>?_);have l:=f.on g j;rotate_left;obtain⟨a2,p,c2⟩:=zBi (s:=(R .prop s).2) (w:=[44]) f (g);obtain⟨a3,r,e3⟩:=K.a (q:=.objL (b++[(R .prop s).1])) (s:=zO L [44] (R .prop s).2) ⟨p,trivial⟩ (c:=2+sizes (b++[(R .prop s).1])) (rfl);have l:s.k < L.length - 1:=by
  rcases yBO s.k (L.length - 1)with m | m
  · exact m
  · exact absurd (d1 jo) h
 rotate_left
 all_goals
  exact zBD
theorem zUw:SzQ L R (.object) s:=fun b K d=>by
 have hs:=d.1;unfold zD cS dS;dsimp only;refine zAI (fun h=>?_) (fun h=>?_);have e:=b.on hs h;rotate_left;obtain⟨a1,f,e1⟩:=K.a (q:=.objL []) (s:=s) ⟨hs,trivial⟩ (c:=2+sizes []) (rfl);rotate_left
 all_goals
  exact zBD
theorem zRQ:SzQ L R (.primary) s:=fun f K p=>by
 have hs:=p.1;unfold zD cS dS;dsimp only;have F:(zb L s).k=L.length - 1:=rfl;have G:(zC8 L 6 s).k=L.length - 1:=rfl;refine zAI (fun g=>?_) (fun g=>?_);rotate_left;have H:=f.lt hs g;refine zAI (fun j=>?_) (fun j=>?_);rotate_left;refine zAI (fun l=>?_) (fun l=>?_);rotate_left;refine zAI (fun m=>?_) (fun m=>?_);rotate_left;refine zAI (fun o=>?_) (fun o=>?_);rotate_left;refine zAI (fun r=>?_) (fun r=>?_);rotate_left;refine zAI (fun t=>?_) (fun t=>?_);rotate_left;refine zAI (fun x7=>?_) (fun x7=>?_);rotate_left;refine zAI (fun u=>?_) (fun u=>?_);rotate_left;refine zAI (fun v=>?_) (fun v=>?_);obtain⟨a1,J,e1⟩:=K.a (q:=.list [93]) (s:=zB s) ⟨by show s.k+1≤_;omega,trivial⟩ (c:=2) (rfl);have M:=zDy (R (.list [93]) (zB s)).1;rotate_left;refine zAI (fun y=>?_) (fun y=>?_);obtain⟨a2,N,e2⟩:=K.a (q:=.object) (s:=zB s) ⟨by show s.k+1≤_;omega,trivial⟩ (c:=2) (rfl);rotate_left;refine zAI (fun z=>?_) (fun z=>?_);refine zAI (fun A=>?_) (fun A=>?_);obtain⟨a3,B,c3,d3⟩:=zH0 (s:=zB s) f (by show s.k+1≤_;omega);obtain⟨a4,O,e4⟩:=K.a (q:=.func 41 (ze L (zB s)).1) (s:=(ze L (zB s)).2) ⟨B,trivial⟩ (c:=3) (rfl);rotate_left;obtain⟨a5,P,e5⟩:=K.a (q:=.func 41 []) (s:=zB s) ⟨by show s.k+1≤_;omega,trivial⟩ (c:=3) (rfl);rotate_left;refine zAI (fun C=>?_) (fun C=>?_);obtain⟨a6,D,c6,d6,e6,Q⟩:=K.e (q:=.assign) (s:=zB s) ⟨by show s.k+1≤_;omega,trivial⟩ (c:=1) (d:=4);obtain⟨a7,S,c7⟩:=zBi (s:=(R .assign (zB s)).2) (w:=[41]) f (D);rotate_left;obtain⟨E,b⟩:=jx ((if(onP L [47] s || onP L [47,61] s)=true then zC8 L 6 s else zb L s:Ps));have I:E.k=L.length - 1:=by
  rw[←b];split<;>rfl
 rw[b];clear b;rotate_left
 all_goals
  exact zBD
theorem zYm:SzQ L R (.prop) s:=fun b K f=>by
 have hs:=f.1;have l:(zb L s).k=L.length - 1:=rfl;unfold zD cS dS;dsimp only;split
 · exact zBD
 · rename_i u g
   have m:=b.lt hs (zFu g);refine zAI (fun h=>?_) (fun h=>?_)
   · exact zBD
   · obtain⟨a1,j,c1⟩:=zBi (s:=zB s) (w:=[58]) b (by show s.k+1≤_;omega);obtain⟨a2,o,c2,d2,e2,p⟩:=K.e (q:=.assign) (s:=zO L [58] (zB s)) ⟨j,trivial⟩ (c:=1) (d:=4);exact zBD
theorem zZV (b:Lst L) (K:Kz L R) (q:Ph) (c:Pre L q s):Z s (cS q s) (dS q) (zD L R q s):=by
 cases q with
 | program d=>exact zRP b K c
 | block=>exact zXU b K c
 | blockL d=>exact zUm b K c
 | item=>exact zYa b K c
 | declares=>exact zOJ b K c
 | declL k d=>exact zXV b K c
 | func k n=>exact zYb b K c
 | params=>exact zUn b K c
 | paramL d=>exact zUo b K c
 | statement=>exact zLN b K c
 | simple=>exact zUp b K c
 | word w=>exact zYc b K c
 | within=>exact zUq b K c
 | clause w=>exact zUr b K c
 | loop=>exact zYd b K c
 | jump k=>exact zYe b K c
 | tries=>exact zXW b K c
 | assign=>exact zUs b K c
 | body l=>exact zYf b K c
 | cond=>exact zYg b K c
 | either=>exact zUt b K c
 | nullL x=>exact zXX b K c
 | orL x=>exact zZU b K c
 | both x=>exact zYh b K c
 | level n=>exact zXY b K c
 | levelL n x=>exact zUu b K c
 | unary=>exact zXZ b K c
 | calls=>exact zXa b K c
 | callsL x=>exact zUv b K c
 | head=>exact zYi b K c
 | headL x=>exact zXb b K c
 | args=>exact zYj b K c
 | list w=>exact zYk b K c
 | listL w d=>exact zXc b K c
 | primary=>exact zRQ b K c
 | object=>exact zUw b K c
 | objL d=>exact zYl b K c
 | prop=>exact zYm b K c
end
theorem zYn {L:List Tok} (d:Lst L):∀f:Nat,Kz L (zHK L f):=by
 intro f
 induction f with
 | zero=>
  refine⟨fun q s b=>zKp d 0 q s b,fun q s b=>?_⟩;have h1:(zHK L 0 q s).1.size=1:=by show(trK 0 []).size=1;rw[zMa,zo]
  have l:(zHK L 0 q s).2.k=L.length - 1:=rfl;have m:=b.1;have o:1≤cS q s:=by
   unfold cS;cases q<;>dsimp only<;>(try omega)<;>(try exact zBF _)<;>(split<;>omega)
  have g:∀e,dS q=some e→e≤6:=by
   intro e c;unfold dS at c;cases q<;>dsimp only at c<;>first | (injection c with c;omega) | cases c
  refine⟨by omega,fun e c hk=>?_⟩;have:=g e c;omega
 | succ f j=>exact⟨fun q s b=>zKp d (f+1) q s b,fun q s b=>zZV d j q b⟩
theorem zJ2 {L:List Tok} (b:Lst L) (h:L.length≤4097):(zE L (.program []) ⟨0,0,0⟩).1.size≤1000000:=by
 have h1:=(zYn b (zCL L (.program []) ⟨0,0,0⟩+1)).z (.program []) ⟨0,0,0⟩ ⟨yAE _,trivial⟩;have d:=(zZ b (p:=.program []) (s:=⟨0,0,0⟩) ⟨yAE _,trivial⟩).adv.hi;have c:=h1.1;unfold cS at c;simp only[zo]at c;unfold zE at d⊢;omega
theorem zRR (u:jH):(zE (zDX u).1 (.program []) ⟨0,0,0⟩).1.size≤1000000:=by
 obtain⟨⟨L,a,e⟩,b⟩:=jx (zDX u);rw[b];have c:(zE [] (.program []) ⟨0,0,0⟩).1.size≤1000000:=by
  have:(zE [] (.program []) ⟨0,0,0⟩).1=trK 1 []:=rfl;rw[this,zMa,zo];omega
 by_cases f:4096 < u.length
 · unfold zDX at b;rw[if_pos f]at b;simp only[yAU]at b;rw[←b.1];exact c
 · by_cases d:e=0
   · subst d;refine zJ2 (zGF b) ?_;have h1:=zJz (u:=u) jo;rw[b]at h1;exact yAD h1 jo
   · have h1:=zUc (u:=u) jo (by rw[b];exact d);rw[b]at h1;rw[show(L,a,e).1=[]from h1];exact c
theorem zUx (hB:B≤w.heap.size) (d:u.length=n) (e:Reads w B 1 A n (zAC u)) (f:n≤c) (b:c≤maxLen) (g:Tab w):
 Calls prog 7 #[.slice A n c] w (ParseQ (zBt u) w):=zRO hB d e f b g (zRR u)
theorem zMc {m a e:Nat} (hB:B≤w.heap.size) (k:u.length=n) (l:Reads w B 1 A n (zAC u)) (o:n≤c) (f:c≤maxLen) (p:Tab w) (q:zBt u=(ts,a,e)) (r:ts.length=m):
 Calls prog 7 #[.slice A n c] w (fun g w'=>∃d b,g=.returned (.tuple #[.agg #[.slice d m b],a,e])∧NdsR w' w'.heap.size d m ts∧m≤b∧b≤maxLen∧jY w w'):=by
 have h:=zUx hB k l o f p;rw[q]at h;refine h.mono ?_;rintro g w' ⟨d,s,b,h1,j,t,v,y⟩;have h6:s=m:=by rw[←r];exact j.1.symm
 subst h6;exact⟨d,b,h1,j,t,v,y⟩
section Zq
open Go.RowKit Go.Lib
theorem Reads.head {l:jE} (h:Reads w B 1 A n (u8s l)) (g:0 < l.length):
 ∃b off,A=some ⟨b,off,none⟩∧b < B∧∀j,j < l.length→w.cell? ⟨b,off+j,none⟩=some (.int .u8 ((l.getD j 0).toNat:Int)):=by
 have k:l.length=n:=by have:=h.1;simpa [u8s]using this
 obtain⟨c,e,hb,d⟩:=h.2 jo;have hs:c.spot=none:=by
  have h1:=d 0 (u8v l[0]) (by rw[u8s,yCH,yAB g];rfl);cases hsp:c.spot with
  | none=>rfl
  | some s=>
   exfalso;simp only[Addr.add,if_true,World.cell?,hsp]at h1;split at h1
   · simp at h1
   · cases h1
 obtain⟨b,off,m⟩:=c;simp only at hs;subst hs;refine⟨b,off,e,hb,fun j f=>?_⟩;have h1:=d j (u8v l[j]) (by rw[u8s,yCH,yAB f];rfl);rw[Addr.add_lit]at h1;rw[h1];simp[u8v,List.getD,f]
theorem zJ3 (n b off cap:Nat) (x0:UInt8) (w:World) (d:(0:Int) < (n:Int)) (c:w.cell? ⟨b,off,none⟩=some (.int .u8 x0.toNat)) (f:(x0.toNat:Int) < 128):
 Calls prog 89 #[.slice (some ⟨b,off,none⟩) n cap] w fun e w'=>e=.returned (.tuple #[.int .i32 x0.toNat,(1:Int)])∧w'=w:=by
 have g:=x0.toNat_lt;go_enter func89,ntmps89;go_wp2
 go_loop [8] (fun i=>i=.int .i64 0) (fun _=>0)
 case atStart=>rfl
 case round=>
  subst hrel;go_wp2
  go_ret2
  exact⟨rfl,rfl⟩
theorem zRS (n b off cap:Nat) (x0:UInt8) (w:World) (R K:Int) (Q:World→Prop) (f:(0:Int) < (n:Int)) (d:w.cell? ⟨b,off,none⟩=some (.int .u8 x0.toNat)) (g:¬((x0.toNat:Int) < 128))
 (cS:Calls prog 133 #[.slice (some ⟨b,off,none⟩) n cap] w fun e w'=>e=.returned (.tuple #[.int .i32 R,K])∧Q w'):
 Calls prog 89 #[.slice (some ⟨b,off,none⟩) n cap] w fun e w'=>e=.returned (.tuple #[.int .i32 R,K])∧Q w':=by
 have c:=zA cS;clear cS;go_enter func89,ntmps89;go_wp2
 go_loop [8] (fun i=>i=.int .i64 0) (fun _=>0)
 case atStart=>rfl
 case round=>
  subst hrel;go_wp2_with (go_at_call 133;refine c.out.mono ?_;rintro e w' ⟨rfl,hb⟩)
  go_ret2
  exact⟨rfl,hb⟩
theorem zOK {l:jE} (g:Tabs w) (f:0 < l.length) (j:Reads w B 1 A l.length (u8s l)):
 Calls prog 89 #[.slice A l.length cap] w fun e w'=>e=.returned (.tuple #[.int .i32 (dec l).1,.int .i64 (dec l).2])∧jY w w':=by
 obtain⟨b,off,rfl,_,d⟩:=j.head f;have c:w.cell? ⟨b,off,none⟩=some (.int .u8 ((l.getD 0 0).toNat:Int)):=d 0 f
 by_cases k:(l.getD 0 0).toNat < 128
 · have m:dec l=((l.getD 0 0).toNat,1):=by simp only[dec,decodeN];rw[if_pos k]
   rw[m];refine(zJ3 _ b off cap _ w jo c jo).mono ?_;rintro e w' ⟨rfl,rfl⟩;exact⟨rfl,Below.refl _ _⟩
 · exact zRS _ b off cap _ w _ _ _ jo c jo (zSS _ b off cap _ _ _ _ w g f c (fun h=>d 1 h) (fun h=>d 2 h) (fun h=>d 3 h))
end Zq
theorem zG7 {l:jE} (b:l.length=n) (c:Tabs w) (d:0 < l.length) (f:Reads w B 1 A l.length (u8s l)):
 Calls prog 89 #[.slice A n cap] w fun e w'=>e=.returned (.tuple #[.int .i32 (dec l).1,.int .i64 (dec l).2])∧jY w w':=by
 subst b;exact zOK c d f
theorem zUy (h:r < 65536):zAC (zGm r)=[.int .u16 (r:Int)]:=by
 rw[zGm,if_pos h];simp only[zAC,List.map_cons,List.map_nil,zX6];congr 2;simp;omega
theorem zXd (m:Nat) (h:m < 2147483648):bits .and .i32 (m:Int) 1023=((m % 1024:Nat):Int):=by
 have e:(BitVec.ofInt 32 (m:Int)).toNat=m:=by rw[BitVec.ofInt_natCast,BitVec.toNat_ofNat];omega
 show IntKind.i32.wrap ((BitVec.ofInt 32 (m:Int)&&&BitVec.ofInt 32 1023).toNat:Int)=_;rw[BitVec.toNat_and,e,show(BitVec.ofInt 32 1023).toNat=2^10 - 1 from rfl,Nat.and_two_pow_sub_one_eq_mod,IntKind.wrap_i32];omega
theorem zUz (h:65536≤r) (b:r≤1114111):zAC (zGm r)=[.int .u16 (55296+((r:Int) - 65536) / 1024),.int .u16 (IntKind.u16.wrap (wrap32 (56320+bits .and .i32 ((r:Int) - 65536) 1023)))]:=by
 rw[zGm,jn];simp only[zAC,List.map_cons,List.map_nil,zX6];congr 2
 · simp;omega
 · congr 1;rw[show((r:Int) - 65536)=((r - 65536:Nat):Int) by omega,zXd _ jo,IntKind.wrap_u16];unfold wrap32;simp;omega
def AtU (b:jE) (k:Nat) (xs:jH):Prop:=
 k≤b.length∧xs.length≤k∧zCD b=(xs++(zCD (b.drop k)).1,(zCD (b.drop k)).2.map (·+k))
theorem AtU.start (b:jE):AtU b 0 []:=by
 refine⟨yAE _,yAC _,?_⟩;simp
theorem AtU.bad {b:jE} (h:AtU b k xs) (hk:k < b.length) (hb:zIS (dec (b.drop k))=true):(zCD b).2=some k:=by
 have c:0 < (b.drop k).length:=by rw[yAR];omega
 rw[h.2.2,zNS c hb];simp
theorem AtU.good {b:jE} (h:AtU b k xs) (hk:k < b.length) (hb:zIS (dec (b.drop k))=false):
 AtU b (k+(dec (b.drop k)).2) (xs++zGm (dec (b.drop k)).1):=by
 have c:0 < (b.drop k).length:=by rw[yAR];omega
 have h1:=zL5 c;rw[yAR]at h1;refine⟨by omega,?_,?_⟩
 · rw[yAN];have d:=h.2.1;have e:(zGm (dec (b.drop k)).1).length≤(dec (b.drop k)).2:=by
    unfold zGm;split
    · simp;omega
    · have:=h1.2.2.2.2.2 jo;simp;omega
   omega
 · rw[h.2.2,zKl c hb,yCC,yAL];congr 1;cases (zCD (b.drop (k+(dec (b.drop k)).2))).2 with
   | none=>rfl
   | some j=>simp;omega
theorem AtU.stop {b:jE} (h:AtU b b.length xs):zCD b=(xs,none):=by
 have c:=h.2.2;rw[yBZ,zNR]at c;simpa using c
theorem zG8 {v:Value} {b:jE} {e:Nat} (h1:k=uAt b) (c:e=zSG b):Ending.returned (.tuple #[v,k,e])=.returned (.tuple #[v,(uAt b:Int),(zSG b:Int)]):=by rw[h1,c]
theorem zRT {b:jE} (Y:Tabs w) (hB:B≤w.heap.size) (ha:Reads w B 1 A b.length (u8s b)) (hc:b.length≤c):
 Calls prog 44 #[.slice A b.length c] w fun e w'=>∃v,e=.returned (.tuple #[v,(uAt b:Int),(zSG b:Int)])∧Made w w' 104 v (zAC (zVq b)):=by
 obtain⟨R,D,E,F,G⟩:=info_parts Tryz.info_u16
 by_cases d:4096 < b.length
 · have f:(4096:Int) < (b.length:Int):=by omega
   have H1:=zA (show uAt b=0∧zSG b=3∧zVq b=[]from⟨by simp[uAt,d],by simp[zSG,d],by simp[zVq,d]⟩);go_enter func44,ntmps44;go_wp2
   go_ret3
   obtain⟨h1,h2,S⟩:=H1.out;exact⟨_,zG8 (k:=0) (e:=3) h1.symm h2.symm,by rw[S];exact Made.nil _ _⟩
 · have f:¬(4096:Int) < (b.length:Int):=by omega
   go_enter func44,ntmps44;go_wp2
   go_loopw [5,6] (fun v i wr=>∃k xs,i=.int .i64 (k:Nat)∧Hid (AtU b k xs)∧k≤b.length∧xs.length≤k∧Made w wr 104 v (zAC xs)) (fun _ i _=>b.length - (intOf i).toNat)
   case atStart=>exact⟨0,[],rfl,AtU.start b,yAE _,yAC _,Made.nil _ _⟩
   case round=>
    obtain⟨k,xs,rfl,q,hk,a0,m⟩:=hrel
    by_cases H:k < b.length
    · have S:(k:Int) < (b.length:Int):=by omega
      have h4:(k:Int)≤(b.length:Int):=by omega
      have z:0 < (b.drop k).length:=by rw[yAR];omega
      have s:=zA (Y.grow m.below);have o:=(ha.below (m.below.mono hB)).cut8 (k:=k) jo hc;rw[jn]at o;have N:=zA o;clear o;have C:=zA (yAR (i:=k) (l:=b));obtain⟨T,U,I,J,V,L⟩:=zL5 z;rw[C.out]at I;obtain⟨r,o⟩:=jx ((dec (b.drop k)).1);obtain⟨n,O⟩:=jx ((dec (b.drop k)).2);have M:dec (b.drop k)=(r,n):=by rw[←o,←O]
      have g:=zA M;rw[o]at J V L;rw[O]at T U I L;clear o O M;cases hbad:zIS (r,n)with
      | true=>
       have j:=zA (q.out.bad H (by rw[g.out];exact hbad));simp only[zIS,yAQ,yBL,yBG]at hbad;obtain⟨rfl,a1⟩:=hbad;go_wp2_with (go_at_call 89;refine(zG7 C.out s.out z N.out).mono ?_;rw[g.out];rintro e w1 ⟨rfl,f⟩)
       go_ret3
       exact⟨_,zG8 (k:=k) (e:=2) (by simp[uAt,d,j.out]) (by simp[zSG,d,j.out]),by rw[show zVq b=[] by simp[zVq,d,j.out]];exact Made.of_below (m.below.trans (f.mono m.below.size)) _⟩
      | false=>
       have j:=zA (q.out.good H (by rw[g.out];exact hbad));have p:((r:Int)==65533)=false∨(((r:Int)==65533)=true∧¬(n:Int)≤1):=by
        simp only[zIS,Bool.and_eq_false_iff,yA,decide_eq_false_iff_not]at hbad
        by_cases h:r=65533
        · exact Or.inr ⟨by rw[h];rfl,by omega⟩
        · exact Or.inl (by rw[yA];omega)
       clear hbad;have t:∀P,zAC (xs++zGm r)=zAC xs++P↔zAC (zGm r)=P:=by
        intro P;rw[zAC,yCR];exact⟨fun h=>List.append_cancel_left h,fun h=>by rw[←h];rfl⟩
       have W:=zA t;clear t;rw[g.out]at j
       by_cases hw:r < 65536
       · have Q:=zA (zUy hw);rcases p with e1 | ⟨e1,e2⟩
         all_goals
          go_wp2_with (first | (go_at_call 89;refine(zG7 C.out s.out z N.out).mono ?_;rw[g.out];rintro e w1 ⟨rfl,f⟩;have u:=m.call f) | (at_builtin;refine zCY rfl _ _ 27 rfl 104 R _ 2 underlying27 D E F G rfl _ _ rfl u _ 1 1 rfl rfl rfl (by rw[zCR];omega) jo ?_;intro v' w' y))
          go_roundw
          case rel=>exact⟨k+n,_,by go_num,j,by omega,j.out.2.1,y.cells ((W.out _).2 Q).symm⟩
          case measure=>simp[intOf];omega
       · have Q:=zA (zUz (r:=r) jo J);have a2:(65536:Int)≤(r:Int):=by omega
         rcases p with e1 | ⟨e1,e2⟩
         all_goals
          go_wp2_with (first | (go_at_call 89;refine(zG7 C.out s.out z N.out).mono ?_;rw[g.out];rintro e w1 ⟨rfl,f⟩;have u:=m.call f) | (at_builtin;refine zCY rfl _ _ 27 rfl 104 R _ 2 underlying27 D E F G rfl _ _ rfl u _ 2 2 rfl rfl rfl (by rw[zCR];omega) jo ?_;intro v' w' y))
          go_roundw
          case rel=>exact⟨k+n,_,by go_num,j,by omega,j.out.2.1,y.cells ((W.out _).2 Q).symm⟩
          case measure=>simp[intOf];omega
    · go_wp2
      go_ret3
      have X:k=b.length:=by omega
      subst X;have hs:=q.out.stop;exact⟨_,zG8 (k:=0) (e:=0) (by simp[uAt,d,hs]) (by simp[zSG,d,hs]),m.cells (by simp[zVq,d,hs])⟩
theorem zLO {q:List Nd×Nat×Nat} {w':World} {a e:Nat} (b:w.heap.size=X) (c:Bx w' X 24 [()]) (d:q=([],a,e)) (hb:jY w w'):ParseQ q w (.returned (.tuple #[.agg #[()],a,e])) (w'.setCell X (.slice none 0 0)):=
 ParseQ.nil d (hb.trans (zAg (zM w' X 0 _) (by rw[b];exact yAC _) (yAM c.lt)))
theorem zU0 {v u:Value} {p:Addr} (c:Bx w X T [()]) (h:w.cell? p=some u) (d:u≠.slice none 0 0):(w.setCell X v).cell? p=some u:=by
 refine zBT (zM w X 0 v) h fun e=>?_;obtain⟨b,o,s⟩:=p;subst e;unfold Bx at c;unfold World.cell? at h;rw[c]at h;simp only at h;split at h
 · cases h
 · cases o with
   | zero=>simp at h;exact d h.symm
   | succ o=>simp at h
theorem Reads.var {v:Value} {xs:List Value} (c:Bx w X T [()]) (h:Reads w B 1 A n xs) (d:∀u∈xs,u≠.slice none 0 0):Reads (w.setCell X v) B 1 A n xs:=by
 refine⟨h.1,fun f=>?_⟩;obtain⟨g,e,hb,k⟩:=h.2 f;exact⟨g,e,hb,fun j u b=>zU0 c (k j u b) (d u (yCG b))⟩
theorem NdsR.var {v:Value} (g:Bx w X T [()]) (h:NdsR w B A n ts):NdsR (w.setCell X v) B A n ts:=by
 refine⟨h.1,fun l=>?_⟩;obtain⟨b,o,e,hb,m⟩:=h.2 l;have hk:∀j (u:Value),w.cell? ⟨b,j,none⟩=some u→b≠X→(w.setCell X v).cell? ⟨b,j,none⟩=some u:=fun j u h1 d=>zBT (zM w X 0 v) h1 d;refine⟨b,o,e,hb,fun i hi=>?_⟩;obtain⟨s,h1,d⟩:=m i hi;have c:b≠X:=by
  intro e;subst e;have f:=g.cell (o+i*8);rw[h1.k0]at f;cases hq:o+i*8 with
  | zero=>rw[hq]at f;simp at f
  | succ q=>rw[hq]at f;simp at f
 refine⟨s,⟨hk _ _ h1.k0 c,hk _ _ h1.k1 c,hk _ _ h1.k2 c,hk _ _ h1.k3 c,hk _ _ h1.k4 c,hk _ _ h1.k5 c,hk _ _ h1.k6 c,hk _ _ h1.k7 c⟩,?_⟩;refine{d with str:=Reads.var g d.str (fun u k=>?_),mag:=Reads.var g d.mag (fun u k=>?_),kids:=Reads.var g d.kids (fun u k=>?_)}
 all_goals
  obtain⟨_,_,rfl⟩:=List.mem_map.1 k;intro e;cases e
theorem zOL {b:jE} (hB:B≤w.heap.size) (Y:b.length=n) (ha:Reads w B 1 A n (u8s b)) (hc:n≤c) (hT:Tab w) (a0:Tabs w):
 Calls prog 23 #[.slice A n c] w (ParseQ (zCf b) w):=by
 obtain⟨W,hW⟩:=jx (w.alloc (.cells #[()] 24));have l:jY w W:=jb hW;obtain⟨X,hX⟩:=jx w.heap.size;have HX:=zA (show Bx W X 24 [()] by rw[←hW,←hX];exact Bx.new w _ _);have b5:=zA l;have a1:w.heap.size≤W.heap.size:=l.size;have a2:=zA (hT.below hT.lt l);have z:=zA hX;obtain⟨u,hu⟩:=jx (zVq b);obtain⟨ua,D⟩:=jx (uAt b);obtain⟨E,F⟩:=jx (zSG b);have HF:=zA (show zCf b=if E=0 then zIT (zBt u)else([],ua,E) by unfold zCf;rw[F,D,hu]);have HU:=zA (by
  have h:=zRT (A:=A) (c:=c) (B:=B) (b:=b) (w:=W) (a0.grow l) (yAD hB a1) (by rw[Y];exact ha.below (l.mono hB)) (by rw[Y];exact hc);rw[Y,hu,D,F]at h;exact h)
 clear l hB Y ha hc hT a0 hu D F;have G:W.cell? X=some (.slice none 0 0):=HX.out.cell 0;have H:W.frozen? X=false:=HX.out.frozen 0;go_enter func23,ntmps23;go_upto_region 1 with(fail);clear hW hX;go_wp2_with fail;refine HU.out.mono ?_;rintro c7 w1 ⟨v,rfl,I⟩;have d:=I.below;have C:=zA (b5.out.trans (d.mono a1));have o:=zA (HX.out.grown (zw none d) js);obtain⟨A1,c1,rfl,a3,b4,a4⟩:=I.u16;have a5:=zA a4;have b6:=zA (a2.out.below a2.out.lt d);clear I d a4 HU G H
 by_cases he:E=0
 · subst he;have c8:(((0:Nat):Int) !=0)=false:=rfl;obtain⟨⟨ts,pa,pe⟩,hp⟩:=jx (zBt u);obtain⟨m,hm⟩:=jx ts.length;have J:=zA (show zCf b=zIT (ts,pa,pe) by rw[HF.out,if_pos rfl,hp]);have HQ:=zA (zMc (u:=u) (yAC _) rfl a5 a3 b4 b6 hp hm);obtain⟨k,hk⟩:=jx u.length;rw[hk]at HQ;have HP:=zA hp;have HM:=zA hm;rw[hk]at a3;clear hp hm HF;go_wp2_with fail;refine HQ.out.mono ?_;rintro c9 w2 ⟨r,c2,rfl,a6,a7,b7,M⟩;have a8:=zA (o.out.grown (zw none M) js);have N:=zA (C.out.trans (M.mono C.out.size));obtain⟨j,O⟩:=jx (w2.alloc (.cells #[.slice r m c2] 24));have s:jY w2 j:=jb O;obtain⟨T,a9⟩:=jx w2.heap.size;have b0:=zA (show Bx j T 24 [.slice r m c2] by rw[←O,←a9];exact Bx.new w2 _ _);have t:=zA (a8.out.grown (zw none s) js);have P:=zA (N.out.trans (s.mono N.out.size));have b1:=zA ((a6.below s).more s.size);clear a6 M s HQ a8 N o C a5;go_upto_region 5 with(fail);clear O a9;have zT:j.cell? T=some (.slice r m c2):=b0.out.cell 0;have G:j.cell? X=some (.slice none 0 0):=t.out.cell 0;have H:j.frozen? X=false:=t.out.frozen 0
   by_cases Q:pe=0
   · subst Q;obtain⟨L,_,_,_,b8,_,b2,_⟩:=zUk HP;have b9:(zAR ts).length≤4096:=by
      have h:=ekidsT 0 (zE L (.program []) s0).1;rw[←b2]at h;omega
     obtain⟨⟨ca,R⟩,S⟩:=jx (chN ts);have U:=zA (show zCf b=if R=0 then(ts,0,0)else([],ca,R) by rw[J.out];unfold zIT;rw[S];rfl);have HC:=zA (by
      have h:=zKj (w:=j) (B:=j.heap.size) (c:=c2) b1 (yAC _) a7 jo;rw[S]at h;exact h)
     clear b8 b2 b9 S J;go_wp2_with fail;refine HC.out.mono ?_;rintro d0 y ⟨rfl,p⟩;have f:=zA (t.out.grown (zw none p) js);have c0:=zA (b0.out.grown (zw none p) js);have b3:=zA (P.out.trans (p.mono P.out.size));have c3:=zA ((b1.out.below p).more p.size);clear p HC zT G H;have zT:y.cell? T=some (.slice r m c2):=c0.out.cell 0;have G:y.cell? X=some (.slice none 0 0):=f.out.cell 0;have H:y.frozen? X=false:=f.out.frozen 0
     by_cases V:R=0
     · subst V;have c4:=zA (show zCf b=(ts,0,0)from U.out.trans (if_pos rfl));clear U;go_wp2_with fail;have g:(y.setCell X (.slice r m c2)).cell? X=some (.slice r m c2):=(f.out.set 0 _).cell 0;refine bodyPost_ret (v:=.tuple #[.agg #[.slice r m c2],(0:Int),(0:Int)]) (by simp[results,results23,go_sem,g]) rfl ?_;rw[c4.out];exact⟨r,m,c2,rfl,(NdsR.var f c3).more ((zM y X 0 (.slice r m c2)).size),a7,b7,b3.out.trans (zAg (zM y X 0 _) (by rw[z.out];exact yAC _) (yAM f.out.lt))⟩
     · have d:((R:Int) !=0)=true:=by rw[yBM];omega
       have c5:=zA V;clear V;go_wp2_with fail;have g:(y.setCell X (.slice none 0 0)).cell? X=some (.slice none 0 0):=(f.out.set 0 _).cell 0;refine bodyPost_ret (v:=.tuple #[.agg #[()],ca,R]) (by simp[results,results23,go_sem,g]) rfl ?_;exact zLO z f (U.out.trans (if_neg c5.out)) b3
   · have d:((pe:Int) !=0)=true:=by rw[yBM];omega
     have c6:=zA Q;clear Q;go_wp2_with fail;have g:(j.setCell X (.slice none 0 0)).cell? X=some (.slice none 0 0):=(t.out.set 0 _).cell 0;refine bodyPost_ret (v:=.tuple #[.agg #[()],pa,pe]) (by simp[results,results23,go_sem,g]) rfl ?_;exact zLO z t (J.out.trans (if_neg c6.out)) P
 · have d:((E:Int) !=0)=true:=by rw[yBM];omega
   have HE:=zA he;clear he;have G:w1.cell? X=some (.slice none 0 0):=o.out.cell 0;have H:w1.frozen? X=false:=o.out.frozen 0;go_wp2_with fail;have g:(w1.setCell X (.slice none 0 0)).cell? X=some (.slice none 0 0):=(o.out.set 0 _).cell 0;refine bodyPost_ret (v:=.tuple #[.agg #[()],ua,E]) (by simp[results,results23,go_sem,g]) rfl ?_;exact zLO z o (HF.out.trans (if_neg HE.out)) C
theorem zLP {s:ByteArray} {m:Nat×Nat} (_b:s.size≤c):Reads (w.alloc (.cells (bytesRow s c) T m)).drew (w.alloc (.cells (bytesRow s c) T m)).drew.heap.size 1 (some ⟨w.heap.size,0,none⟩) s.size (u8s s.data.toList):=by
 refine⟨by rw[zEU,Nat.mul_one];exact Array.length_toList,fun _=>⟨_,rfl,by simp,fun j u b=>?_⟩⟩;rw[Addr.add_lit,yCK];unfold u8s at b;rw[yCH]at b;cases hq:s.data.toList[j]? with
 | none=>rw[hq]at b;cases b
 | some y=>
  rw[hq]at b;obtain⟨e,f⟩:=yAT.1 hq;have d:j < s.data.size:=by simpa using e
  have h1:=bytesRow_at s c j d;have g:(w.alloc (.cells (bytesRow s c) T m)).drew.heap[w.heap.size]? =some (.cells (bytesRow s c) T m):=by
   show(w.heap.push (.cells (bytesRow s c) T m))[w.heap.size]? =_;simp
  unfold World.cell?;simp only[g];have k:s.data[j]=y:=by rw[←f];simp
  rw[k]at h1;have l:u=u8v y:=by simpa using b.symm
  rw[l];exact h1
theorem zFB {s:ByteArray} {a e:Nat} (r:zCf s.data.toList=(ts,a,e)) (o:Tab w) (k:Tabs w):
 Calls prog 11 #[.string s,a,e] w fun y w'=>y=.returned true∧jY w w':=by
 have z:=fun w s=>run_bytes_of_string (P:=prog) w 9 68 5 s underlying9 underlying68 underlying5;have j:=grownCap_ge w s.size 0 5;have t:=zA (fun(c:Nat) (g:s.size≤c) (W:World) (f:(w.alloc (.cells (bytesRow s c) 5 ((bytesRow s c).size,(bytesRow s c).size+1))).drew=W)=>by
  have hb:jY w W:=by rw[←f];exact(ja).drew
  have h:=zOL (A:=some ⟨w.heap.size,0,none⟩) (B:=W.heap.size) (n:=s.size) (c:=c) (b:=s.data.toList) (w:=W) (yAC _) Array.length_toList (by rw[←f];exact zLP g) g (o.below o.lt hb) (k.grow hb);rw[r]at h;exact And.intro hb h)
 clear r o k;go_enter func11,ntmps11;go_wp2_with fail;obtain⟨c,g⟩:=jx (grownCap w s.size 0 5);rw[g]at j
 try rw[g]
 obtain⟨W,f⟩:=jx ((w.alloc (.cells (bytesRow s c) 5 ((bytesRow s c).size,(bytesRow s c).size+1))).drew);have u:=zA (t.out c j W f).2;have v:=zA (t.out c j W f).1
 try rw[f]
 clear f g;refine u.out.mono ?_;rintro C w1 ⟨p,q,c1,rfl,_,_,_,l⟩;have m:=zA (v.out.trans (l.mono v.out.size));clear l u;have D:(w1.alloc (.cells #[.slice p q c1] 24)).cell? w1.heap.size=some (.slice p q c1):=(Bx.new w1 [.slice p q c1] 24).cell 0;go_wp2_with fail;go_ret;refine⟨by simp,m.out.trans ?_⟩;exact(ja:jY w1 _).mono m.out.size
theorem zOM (r:Tab w) (k:Tabs w):Calls prog 4 #[] w fun B w'=>B=.returned true∧jY w w':=by
 obtain⟨t1,h1⟩:=zE1 zZH;obtain⟨t2,t⟩:=zE1 zZI;obtain⟨t3,u⟩:=zE1 zZJ;obtain⟨J,y⟩:=zE1 zZK;obtain⟨L,z⟩:=zE1 zZL;have b:=zA r;have c:=zA k;have C:=zA (fun(v:World) (hb:jY w v)=>zFB (s:=⟨#[108,101,116,32,97,44,32,97]⟩) (w:=v) h1 (b.out.below b.out.lt hb) (c.out.grow hb));have D:=zA (fun(v:World) (hb:jY w v)=>zFB (s:=⟨#[97,58,32,119,104,105,108,101,32,40,49,41,32,123,32,98,114,101,97,107,32,97,59,32,125]⟩) (w:=v) t (b.out.below b.out.lt hb) (c.out.grow hb));have E:=zA (fun(v:World) (hb:jY w v)=>zFB (s:=⟨#[98,114,101,97,107,32,97]⟩) (w:=v) u (b.out.below b.out.lt hb) (c.out.grow hb));have F:=zA (fun(v:World) (hb:jY w v)=>zFB (s:=⟨#[40,120,41,32,61,62,32,123,32,108,101,116,32,120,59,32,125]⟩) (w:=v) y (b.out.below b.out.lt hb) (c.out.grow hb));have G:=zA (fun(v:World) (hb:jY w v)=>zFB (s:=⟨#[255]⟩) (w:=v) z (b.out.below b.out.lt hb) (c.out.grow hb));have d:=zA (Below.refl w.heap.size w);clear r k h1 t u y z;go_enter func4,ntmps4;go_wp2_with fail;refine(C.out w d).mono ?_;rintro M H ⟨rfl,l⟩;have e:=zA (d.out.trans (l.mono d.out.size));clear l;go_wp2_with fail;refine(D.out H e).mono ?_;rintro N I ⟨rfl,m⟩;have f:=zA (e.out.trans (m.mono e.out.size));clear m;go_wp2_with fail;refine(E.out I f).mono ?_;rintro O wc ⟨rfl,o⟩;have g:=zA (f.out.trans (o.mono f.out.size));clear o;go_wp2_with fail;refine(F.out wc g).mono ?_;rintro P wd ⟨rfl,p⟩;have j:=zA (g.out.trans (p.mono g.out.size));clear p;go_wp2_with fail;refine(G.out wd j).mono ?_;rintro Q R ⟨rfl,q⟩;have A:=zA (j.out.trans (q.mono j.out.size));clear q;go_wp2_with fail;go_ret;exact⟨rfl,A⟩
theorem zYo {j:Nat} (hN:NdsR w B A n ts) (hB:B≤w.heap.size) (z:n≤c) (m:zI1 ts=true) (C:j < n):
 Calls prog 10 #[.agg #[.slice A n c],j] w fun e w'=>∃v,e=.returned v∧MadeS w w' v (zA5 ts (j:Int)):=by
 obtain⟨q,D,hk,_⟩:=zKi m;obtain⟨W,k⟩:=jx (w.alloc (.cells #[.slice A n c] 24));have o:jY w W:=jb k;have E:W.heap.size=w.heap.size+1:=by rw[←k];simp
 obtain⟨X,r⟩:=jx w.heap.size;have a0:W.cell? X=some (.slice A n c):=by rw[←k,←r,yBR _ _ _ _ rfl];rfl
 have s:X < W.heap.size:=by omega
 have d:B≤W.heap.size:=by omega
 have l:=zA a0;have f:=zA (hN.below (o.mono hB));have g:=zA o;have t:=zA (zGl (w:=W) f d z jo m);have F:=zA q;have G:¬((j:Int) < 0):=by omega
 have g1:¬((n:Int)≤(j:Int)):=by omega
 have g2:decide ((n:Int)≤(j:Int))=false:=yAI g1;have I:decide ((j:Int) < 0)=false:=yAI G;clear hN hB o E m q hk D;go_enter func10,ntmps10;go_upto_region 1 with(fail);clear k r;go_wp2_with fail;refine t.out.mono ?_;rintro e1 w1 ⟨rfl,b⟩;have a1:=(b.cell (p:=X) s).trans l;have u:=zA (zFb (c:=c) (w:=w1) (f.out.below (b.mono d)) (yAD d b.size) F C);have y:=zA (g.out.trans (b.mono g.out.size));clear b a0 l t f g;go_wp2_with fail;refine u.out.mono ?_;rintro e2 w2 ⟨v,rfl,hv⟩;have H:=zA hv;clear hv u;go_wp2_with fail;go_ret;exact⟨v,rfl,H.out.back y⟩
def zZB (ts:List Nd) (j:Int):List jE:=if 0≤j∧j < (ts.length:Int)then zA5 ts j else []
theorem zRU (j:Int) (hN:NdsR w B A n ts) (hB:B≤w.heap.size) (q:n≤c) (f:zI1 ts=true):
 Calls prog 10 #[.agg #[.slice A n c],j] w fun e w'=>∃v,e=.returned v∧MadeS w w' v (zZB ts j):=by
 by_cases h:0≤j∧j < (n:Int)
 · obtain⟨k,rfl⟩:∃k:Nat,j=(k:Int):=⟨j.toNat,by omega⟩;have e:zZB ts (k:Int)=zA5 ts (k:Int):=if_pos (by rw[hN.1];exact h);rw[e];exact zYo hN hB q f jo
 have e:zZB ts j=[]:=if_neg (by rw[hN.1];exact h);rw[e]
 by_cases g:j < 0
 · have u:decide (j < 0)=true:=yBE g;clear hN h e;go_enter func10,ntmps10;go_wp2_with fail;go_ret;exact⟨_,rfl,.of_below (ja) _⟩
 · have z:¬j < 0:=g;have u:decide (j < 0)=false:=yAI g;have g1:(n:Int)≤j:=by omega
   have g2:decide ((n:Int)≤j)=true:=yBE g1;obtain⟨y,_,hk,_⟩:=zKi f;obtain⟨W,l⟩:=jx (w.alloc (.cells #[.slice A n c] 24));have m:jY w W:=jb l;obtain⟨X,o⟩:=jx w.heap.size;have a0:W.cell? X=some (.slice A n c):=by rw[←l,←o,yBR _ _ _ _ rfl];rfl
   have r:X < W.heap.size:=by rw[←o,←l];simp
   have s:=zA (zGl (w:=W) (hN.below (m.mono hB)) (yAD hB m.size) q jo f);have b:=zA m;clear hN hB m f y hk h e g;go_enter func10,ntmps10;go_upto_region 1 with(fail);clear l o;go_wp2_with fail;refine s.out.mono ?_;rintro e1 w1 ⟨rfl,d⟩;have a1:=(d.cell (p:=X) r).trans a0;have t:=zA (b.out.trans (d.mono b.out.size));clear d a0 s b;go_wp2_with fail;go_ret;exact⟨_,rfl,.of_below t _⟩
theorem zLQ {m:jQ} {d:Nat} {xs:List jE} (o:xs.length=n) (hB:B≤w.heap.size) (p:Reads w B 1 A n (zBk xs)) (hb:Reads w B 1 m n (zBk xs)) (y:n≤9223372036854775807):
 Calls prog 9 #[.slice A n c,.slice m n d] w fun e w'=>e=.returned true∧jY w w':=by
 have t:=zA o;have u:=zA p;have v:=zA hb;have e2:((n:Int) !=(n:Int))=false:=by simp
 clear o p hb;go_enter func9,ntmps9;go_wp2_with fail
 go_loopw [5] (fun i wr=>∃k:Nat,k≤n∧i=.int .i64 k∧Hid (jY w wr)) (fun i _=>n - (intOf i).toNat)
 case atStart=>exact⟨0,yAE _,rfl,Below.refl _ _⟩
 case round=>
  obtain⟨k,hk,rfl,b⟩:=hrel
  by_cases q:k < n
  · have l:k < xs.length:=by rw[t.out];exact q
    obtain⟨z,C,rfl,_,f⟩:=(u.out.below (b.out.mono hB)).spotV jo;have r:=f k (.string ⟨xs[k].toArray⟩) (by simp[zBk,yAB l]);obtain⟨D,ob,rfl,_,g⟩:=(v.out.below (b.out.mono hB)).spotV jo;have s:=g k (.string ⟨xs[k].toArray⟩) (by simp[zBk,yAB l]);obtain⟨x,j⟩:∃x:ByteArray,⟨xs[k].toArray⟩=x:=⟨_,rfl⟩;rw[j]at r s;have e1:(x.toList !=x.toList)=false:=by simp
    clear f g j l;go_wp2_with fail
    go_quiet (fail)
    go_wp2_with fail
    go_roundw
    case rel=>exact⟨k+1,by omega,by go_num,zv b _⟩
    case measure=>simp[intOf];omega
  · go_wp2_with fail;go_ret;exact⟨rfl,b⟩
def zCw (s:jE):Tok:=(zAU false (zV s)).2.1
theorem zJ4:∀s∈zl,(zCw s).kind=5∧(zCw s).text=s:=by decide+kernel
theorem zJ5:∀s∈zAB,(zCw s).kind=6∧(zCw s).text=s:=by decide+kernel
def Std (L:List Tok):Nat→Tks→Prop
 | i,[]=>i≤L.length - 1
 | i,s::r=>(zac (zCw s) (zH L i)∧(zH L i).nl=false)∧Std L (i+1) r
section
variable {L:List Tok} {i:Nat} {a b:Tks} {s:jE}
theorem Std.le:∀{a:Tks} {i:Nat},Std L i a→i+a.length≤L.length - 1:=by
 intro a
 induction a with
 | nil=>intro i h;exact h
 | cons s r b=>
  intro i h;have:=b h.2;simp only[yAO];omega
theorem Std.right:∀{a:Tks} {i:Nat},Std L i (a++b)→Std L (i+a.length) b:=by
 intro a
 induction a with
 | nil=>intro i h;exact h
 | cons s r c=>
  intro i h;have:=c (i:=i+1) h.2;rw[yAO,show i+(r.length+1)=i+1+r.length by omega];exact this
theorem Std.left:∀{a:Tks} {i:Nat},Std L i (a++b)→Std L i a:=by
 intro a
 induction a with
 | nil=>
  intro i h;have:=Std.le h;show i≤L.length - 1;simp only[yAY]at this;omega
 | cons s r c=>exact fun h=>⟨h.1,c h.2⟩
theorem Std.lt (h:Std L i (s::b)):i < L.length - 1:=by
 have:=h.le;simp only[yAO]at this;omega
theorem Std.nl (h:Std L i (s::b)):(zH L i).nl=false:=h.1.2
theorem Std.kind (h:Std L i (s::b)):(zH L i).kind=(zCw s).kind:=h.1.1.1.symm
theorem Std.text (h:Std L i (s::b)):(zH L i).text=(zCw s).text:=h.1.1.2.1.symm
theorem Std.sign (h:Std L i (s::b)) (hs:s∈zl):(zH L i).kind=5∧(zH L i).text=s:=⟨h.kind.trans (zJ4 s hs).1,h.text.trans (zJ4 s hs).2⟩
theorem Std.word (h:Std L i (s::b)) (hs:s∈zAB):(zH L i).kind=6∧(zH L i).text=s:=⟨h.kind.trans (zJ5 s hs).1,h.text.trans (zJ5 s hs).2⟩
theorem Std.is (h:Std L i (s::b)) (hs:s∈zl++zAB) (w:jE):isT (zH L i) w=decide (s=w):=by
 unfold isT;rcases yBQ.1 hs with h1 | h1
 · obtain⟨g1,g2⟩:=h.sign h1;rw[g1,g2];simp
 · obtain⟨g1,g2⟩:=h.word h1;rw[g1,g2];simp
theorem zV0:∀{l:jH},l.all p=true→l.takeWhile p=l:=by
 intro l
 induction l with
 | nil=>intro _;rfl
 | cons x r b=>
  intro h;rw[List.all_cons,yAQ]at h;rw[yBY h.1,b h.2]
theorem zU1 (s:jE):asc (zV s)=s:=by
 induction s with
 | nil=>rfl
 | cons x r b=>
  show x.toUInt16.toUInt8::asc (zV r)=_;rw[b];simp
theorem zMd {s:jE} (h:zGL s=true):∃x r,zV s=x::r∧zAx x=true∧(x::r).all zAu=true:=by
 unfold zGL at h;cases s with
 | nil=>cases h
 | cons x r=>
  simp only[yAQ]at h;refine⟨x.toUInt16,zV r,rfl,h.1,?_⟩;rw[List.all_cons];have h1:zAu x.toUInt16=true:=by unfold zAu;rw[h.1];rfl
  rw[h1,yC];show(r.map _).all zAu=true;rw[List.all_map];exact h.2
theorem zMe (h:zGL s=true):zCw s={zh with kind:=if 0 < zCS s then 6 else 1,text:=s}:=by
 obtain⟨x,r,h1,b,c⟩:=zMd h;unfold zCw;have d:(zAU false (x::r))=zCm (x::r):=by
  show(if zAx x=true then zCm (x::r)else _)=_;rw[if_pos b]
 rw[h1,d];unfold zCm;rw[zV0 c,←h1,zU1,yBZ];rfl
theorem zFC (h:zBn s=true):(zCw s).kind=1∧(zCw s).text=s:=by
 unfold zBn at h;rw[yAQ,yBL]at h;rw[zMe h.1];simp[h.2]
theorem zU2 (h:zGL s=true):((zCw s).kind=1∨(zCw s).kind=6)∧(zCw s).text=s:=by
 rw[zMe h];refine⟨?_,rfl⟩;simp only;split
 · exact .inr rfl
 · exact .inl rfl
theorem Std.name (h:Std L i (s::b)) (hs:zBn s=true):(zH L i).kind=1∧(zH L i).text=s:=⟨h.kind.trans (zFC hs).1,h.text.trans (zFC hs).2⟩
end
mutual
def bareT:Tr→Tr
 | .mk x l=>.mk {x with kids:=[]} (bareL l)
def bareL:List Tr→List Tr
 | []=>[]
 | t::r=>bareT t::bareL r
end
theorem zCX (x:Nd) (l:List Tr):bareT (.mk x l)=.mk {x with kids:=[]} (bareL l):=by rw[bareT]
theorem zW:bareL []=[]:=by rw[bareL]
theorem zN (t:Tr) (r:List Tr):bareL (t::r)=bareT t::bareL r:=by rw[bareL]
theorem zG9 (a b:List Tr):bareL (a++b)=bareL a++bareL b:=by
 induction a with
 | nil=>rw[zW];rfl
 | cons t r c=>rw[yAP,zN,zN,c];rfl
theorem zHA (t:Tr):(bareT t).nd.kind=t.nd.kind:=by cases t;rw[zCX];rfl
theorem zCQ {x:Nd} (h:zL x=true) (h1:x.kind≠30) (b:x.kind≠31) (c:x.kind≠32) (d:x.kind≠40):({x with kids:=[]}:Nd)={zB6 with kind:=x.kind,name:=x.name}∧zC4 x.kind x.name=true∧x.name.length≤4096:=by
 obtain⟨k,n,u,nk,nn,g,m,ks⟩:=x;simp only at h1 b c d;unfold zL at h;simp only at h;split at h
 · cases h
 split at h
 · cases h
 split at h
 · cases h
 split at h
 · cases h
 rename_i a0 a1 a2 a3
 have e:(k==32)=false:=yA.2 c;have f:(k==40)=false:=yA.2 d;have j:(k==30)=false:=yA.2 h1;have l:(k==31)=false:=yA.2 b;rw[e,f]at a1;rw[j]at a2;rw[l]at a3;simp at a1 a2 a3;obtain rfl:=a1;obtain⟨rfl,rfl⟩:=a2;obtain⟨rfl,rfl⟩:=a3;rw[jn]at h;exact⟨rfl,h,Nat.le_of_not_lt a0⟩
theorem zDV {x:Nd} {l:List Tr} (h:zL x=true) (h1:x.kind≠30) (b:x.kind≠31) (c:x.kind≠32) (d:x.kind≠40):bareT (.mk x l)=trN x.kind x.name (bareL l):=by
 rw[zCX,(zCQ h h1 b c d).1];rfl
theorem zBj {x:Nd} {l:List Tr} (h:zL x=true) (hk:x.kind∈zP9) (c:x.kind≠12∧x.kind≠13∧x.kind≠17):bareT (.mk x l)=trK x.kind (bareL l)∧x.name=[]:=by
 have e:∀k∈zP9,k≠12∧k≠13∧k≠17→k≠30∧k≠31∧k≠32∧k≠40∧zOh k=[]∧¬(k=7∨k=18∨k=19∨k=20∨k=33)∧¬(k=12∨k=13∨k=17∨k=41)∧k≠52:=by decide+kernel
 obtain⟨f,g,j,m,o,p,q,r⟩:=e _ hk c;have d:=zCQ h f g j m;have b:=d.2.1;unfold zC4 at b;rw[if_neg p,if_neg q,if_neg r,o,if_neg js]at b;have b:=yBF b;refine⟨?_,b⟩;rw[zCX,d.1,b];rfl
def onW:List jE:=[[63],[63,63],[124,124],[38,38],[40],[46],[91],[61,62]]
structure EndC (t:Tok):Prop where
 binds:zBJ t=9
 words:∀w∈onW,isT t w=false
 post:¬(t.kind=5∧t.text∈zDa∧t.nl=false)
structure End (t:Tok):Prop extends EndC t where
 asgn:t.kind=5→¬t.text∈zKO
def zZC:List jE:=[[59],[125],[41],[93],[44],[58],[123],[101,108,115,101]]
theorem zDW {L:List Tok} {i:Nat} {s:jE} {b:Tks} (h:Std L i (s::b)) (hs:s∈zZC):End (zH L i):=by
 have h1:∀s∈zZC,s∈zl++zAB∧(∀w∈onW,s≠w)∧s∉zDa∧s∉zKO∧zE0 s=9∧s≠[105,110]:=by decide+kernel
 obtain⟨g1,g2,d,e,f,k⟩:=h1 s hs;have c:(zH L i).text=s:=by
  rcases yBQ.1 g1 with g | g
  · exact(h.sign g).2
  · exact(h.word g).2
 refine⟨⟨?_,fun w j=>?_,?_⟩,fun _=>by rw[c];exact e⟩
 · unfold zBJ;rw[c,f];split<;>rfl
 · rw[h.is g1];exact yAI (g2 w j)
 · rw[c];exact fun h=>d h.2.1
section
variable {L:List Tok} {i j:Nat} {y:Tr}
theorem zCj {w:jE} {s:Ps} (h:isT t w=false) (e:zH L s.k=t):¬onP L w s=true:=by
 unfold onP;rw[e,h];decide
theorem zAj (i b f:Nat):zB ⟨i,b,f⟩=⟨i+1,b,f⟩:=rfl
abbrev pl (i:Nat):Ps:=⟨i,0,0⟩
def Rn (L:List Tok) (p:Ph) (i:Nat) (t:Tr) (j:Nat):Prop:=zE L p (pl i)=(t,pl j)
structure EndM (t:Tok):Prop where
 words:isT t [40]=false∧isT t [46]=false∧isT t [91]=false
theorem EndC.m (h:EndC t):EndM t:=⟨h.words _ jd,h.words _ jd,h.words _ jd⟩
theorem zDC (c:Lst L) (d:j≤L.length - 1) (b:EndM (zH L j)):Rn L (.callsL y) j y j:=by
 unfold Rn;rw[zQ c ⟨d,trivial⟩];unfold zD;dsimp only;rw[if_neg (zCj b.words.1 rfl),if_neg (zCj b.words.2.1 rfl),if_neg (zCj b.words.2.2 rfl)]
theorem zHB (b:Lst L) (hi:i≤L.length - 1) (h:Rn L .primary i y j) (h1:isT (zH L i) [110,101,119]=false):Rn L .head i y j:=by
 unfold Rn;rw[zQ b ⟨hi,trivial⟩];unfold zD;dsimp only;rw[if_neg (zCj h1 rfl)];exact h
theorem zFD (c:Lst L) (hi:i≤L.length - 1) {x:Tr} (h:Rn L .head i x k) (b:Rn L (.callsL x) k y j):Rn L .calls i y j:=by
 unfold Rn at h b⊢;rw[zQ c ⟨hi,trivial⟩];unfold zD;dsimp only;rw[h];exact b
def zRV (t:Tok):Prop:=¬((t.kind=5∨t.kind=6)∧t.text∈zHe)∧¬((t.kind=5∨t.kind=6)∧t.text∈zDa)
theorem zEB (c:Lst L) (hi:i≤L.length - 1) (h:Rn L .calls i y j) (b:zRV (zH L i)) (d:¬((zH L j).kind=5∧(zH L j).text∈zDa∧(zH L j).nl=false)):Rn L .unary i y j:=by
 unfold Rn at h⊢;rw[zQ c ⟨hi,trivial⟩];unfold zD;dsimp only;rw[if_neg b.1,if_neg b.2,h];dsimp only;rw[if_neg d]
theorem zH1 (b:Lst L) (c:j≤L.length - 1) (d:n < 8) (e:zBJ (zH L j)≠n):Rn L (.levelL n y) j y j:=by
 unfold Rn;rw[zQ b ⟨c,d⟩];unfold zD;dsimp only;rw[if_neg e]
theorem zIn (b:Lst L) (hi:i≤L.length - 1) (e:j≤L.length - 1):∀(d n:Nat),n+d≤8→Rn L (.level (n+d)) i y j→(∀m,n≤m→m < n+d→zBJ (zH L j)≠m)→Rn L (.level n) i y j:=by
 intro d
 induction d with
 | zero=>intro n _ h _;exact h
 | succ d f=>
  intro n g h c;have h1:Rn L (.level (n+1)) i y j:=f (n+1) jo (by rw[show n+1+d=n+(d+1) by omega];exact h) (fun m h1 k=>c m jo jo);unfold Rn at h1⊢;rw[zQ b ⟨hi,(by show n≤8;omega)⟩];unfold zD;dsimp only;rw[jn,h1];exact zH1 b e jo (c n (yAC _) jo)
theorem zJ6 (b:Lst L) (hi:i≤L.length - 1) (h:Rn L .unary i y j):Rn L (.level 8) i y j:=by
 unfold Rn at h⊢;rw[zQ b ⟨hi,(by show 8≤8;omega)⟩];unfold zD;dsimp only;rw[if_pos rfl];exact h
theorem zMf (b:Lst L) (hi:i≤L.length - 1) (c:j≤L.length - 1) (d:n≤8) (h:Rn L (.level n) i y j) (hb:zBJ (zH L j)=9):Rn L (.level 0) i y j:=
 zIn b hi c n 0 jo (by rw[yCK];exact h) (fun m _ e=>by omega)
theorem zGG (b:Lst L) (c:j≤L.length - 1) (d:isT (zH L j) [38,38]=false):Rn L (.both y) j y j:=by
 unfold Rn;rw[zQ b ⟨c,trivial⟩];unfold zD;dsimp only;rw[if_neg (zCj d rfl)]
theorem zLR (b:Lst L) (c:j≤L.length - 1) (d:isT (zH L j) [124,124]=false):Rn L (.orL y) j y j:=by
 unfold Rn;rw[zQ b ⟨c,trivial⟩];unfold zD;dsimp only;rw[if_neg (zCj d rfl)]
theorem zFE (b:Lst L) (hi:i≤L.length - 1) (c:j≤L.length - 1) (h:Rn L (.level 0) i y j) (h1:isT (zH L j) [63,63]=false) (d:isT (zH L j) [38,38]=false) (e:isT (zH L j) [124,124]=false):Rn L .either i y j:=by
 have g1:=zGG (y:=y) b c d;have g2:=zLR (y:=y) b c e;unfold Rn at h g1 g2⊢;rw[zQ b ⟨hi,trivial⟩];unfold zD;dsimp only;rw[h];dsimp only;rw[if_neg (zCj h1 rfl),g1];dsimp only;rw[g2];dsimp only;rw[if_neg (zCj h1 rfl)]
theorem zIo (b:Lst L) (hi:i≤L.length - 1) (h:Rn L .either i y j) (h1:isT (zH L j) [63]=false):Rn L .cond i y j:=by
 unfold Rn at h⊢;rw[zQ b ⟨hi,trivial⟩];unfold zD;dsimp only;rw[h];dsimp only;rw[if_neg (zCj h1 rfl)]
def zRW (L:List Tok) (i:Nat):Prop:=¬((zH L i).kind=1∧isT (zH L (i+1)) [61,62]=true)∧¬zAb L (pl i)=true
theorem zFF (e:Lst L) (hi:i≤L.length - 1) (h:Rn L .cond i y j) (b:zRW L i) (f:(zH L j).kind=5→¬(zH L j).text∈zKO):Rn L .assign i y j:=by
 unfold Rn at h⊢;rw[zQ e ⟨hi,trivial⟩];unfold zD;dsimp only;rw[if_neg (fun c=>b.1 ⟨c.1,c.2.1⟩),if_neg b.2,h];dsimp only;rw[if_pos]
 by_cases d:(zH L j).kind=5
 · exact .inr (f d)
 · exact .inl d
theorem zCk (c:Lst L) (hi:i≤L.length - 1) (d:j≤L.length - 1) (h:Rn L .unary i y j) (b:End (zH L j)) (e:zRW L i):Rn L .assign i y j:=
 zFF c hi (zIo c hi (zFE c hi d (zMf c hi d (yAC _) (zJ6 c hi h) b.binds) (b.words _ jd) (b.words _ jd) (b.words _ jd)) (b.words _ jd)) e b.asgn
end
end Go.Proofs.YtjlfhidpmdgloaaGreatDoor
