/- Joined for the claim ParseEnds: the parser, the lexer and the trees as they are walked, made short by a program of mine. -/
import Derived.Deep.LoopGhost
import Derived.Test.YtlohaclgbfhijaaGreatDoorS04
import Derived.Test.YtlohaclgbfhijaaGreatDoorS06
import Derived.Deep.CutBlock
import Derived.Deep.DeepCutAuto
import Derived.Deep.RegionWith
import Derived.Deep.RegionHeld3
import Derived.Test.YtlohaclgbfhijaaGreatDoorS01
set_option maxHeartbeats 16000000
set_option maxRecDepth 1000000
namespace Go.Proofs.YtlohaclgbfhijaaGreatDoor
open Go.RowKit
theorem Tryz.info_u32:(Tryz.prog.info? 87).map (fun i=>(i.zero,i.size,i.bytes))=some (some (.int .u32 0),1,4):=by kernel_rfl
def zME (v:Nat) (w:World) (e:Ending) (w':World):Prop:=
 ∃(X:Option Addr) (mx cx er:Nat),e=.returned (.tuple #[.agg #[.bool false,.slice X mx cx],.int .i64 (er:Int)])∧Below w.heap.size w w'∧
  (er=0∧v < zEl∧w'.ownsRow w.heap.size 87 1 (.slice X mx cx) (zA7 v).length (zBv (zA7 v))∨er=3∧zEl≤v)
def AtMul (ms:List Nat) (d k c:Nat) (outs:List Nat):Prop:=outs.length=k∧zBt ms d=(outs++(zBt (ms.drop k) c).1,(zBt (ms.drop k) c).2)
theorem AtMul.start (ms:List Nat) (d:Nat):AtMul ms d 0 d []:=⟨rfl,rfl⟩
theorem AtMul.step {ms:List Nat} {d k c:Nat} {outs:List Nat} (h:AtMul ms d k c outs) (hk:k < ms.length):AtMul ms d (k+1) ((c+10*ms[k]) / 4294967296) (outs++[(c+10*ms[k]) % 4294967296]):=by
 obtain⟨h1,h2⟩:=h
 refine⟨by simp[h1],?_⟩
 rw[h2,List.drop_eq_getElem_cons hk,zBt]
 simp
theorem AtMul.done {ms:List Nat} {d c:Nat} {outs:List Nat} (h:AtMul ms d ms.length c outs):zBt ms d=(outs,c):=by
 obtain⟨h1,h2⟩:=h
 rw[h2,List.drop_length]
 simp[zBt]
def zBy (ms outs:List Nat):List Nat:=outs++ms.drop outs.length
theorem zGK {ms outs:List Nat} (h:outs.length < ms.length):(zBy ms outs)[outs.length]? =some ms[outs.length]:=by
 unfold zBy
 rw[List.getElem?_append_right (Nat.le_refl _),Nat.sub_self,List.getElem?_drop]
 simp[List.getElem?_eq_getElem h]
theorem zGL {ms outs:List Nat} (h:outs.length < ms.length) (x:Nat):(zBy ms outs).set outs.length x=zBy ms (outs++[x]):=by
 unfold zBy
 rw[List.set_append_right _ _ (Nat.le_refl _),Nat.sub_self,List.drop_eq_getElem_cons h,List.set_cons_zero]
 simp
theorem zON (l:List Nat) (k x:Nat):(zBv l).set k (.int .u32 (x:Int))=zBv (l.set k x):=by
 simp[zBv,List.map_set]
section
variable {P:Program} {w:World} {ops:Array Oper} {rest:List Oper} {o:Oper} {a:Act} {Q:Exit→Act→World→Prop}
theorem zDF (hgd:o.guard=none) (s x:Operand) (t:TypeId)
 (ho:o.op=.call {callee:=.builtin .append,args:=#[s,x],argTypes:=#[t,t]})
 (e:TypeId) (i:TypeInfo) (z:Value) (size bytes:Nat) (ht:P.underlying t=some (.slice e)) (hi:P.info? e=some i) (hz:i.zero=some z)
 (hsize:i.size=size) (hby:i.bytes=bytes) (hzs:z.cells.size=size) (hsz0:0 < size) (base:Nat) (hbase:base≤w.heap.size)
 (v:Value) (xs:List Value) (k:Nat) (hs:a.eval s=v) (hm:w.ownsRow base e size v k xs)
 (cs:List Value) (m c:Nat) (hx:a.eval x=.slice (some ⟨w.heap.size,0,none⟩) m c) (hl:cs.length=m*size) (h1:(cs.all fun u=>u.oneCell')=true)
 (hsz:k+m≤70368744177664) (hb2:(k+m)*bytes≤140737488355328)
 (h:∀v' w',w'.ownsRow base e size v' (k+m) (xs++cs)→w.grownBy w' v.ownBlock→wpList P ops Q rest (a.put o.dst v') w'):wpList P ops Q (o::rest) a (w.alloc (.cells cs.toArray e)):=by
 refine wpList_append_own (w.alloc (.cells cs.toArray e)) hgd s x t ho base e i z size bytes ht hi hz hsize hby hzs hsz0 v k xs hs (hm.alloc _) ⟨w.heap.size,0,none⟩ _ c cs hx hl ?_ (fun u hu=>List.all_eq_true.1 h1 u hu) (by unfold maxLen;omega) hb2 (Nat.le_trans hbase (by simp)) ?_
 · intro j u hu
   rw[Addr.add_lit,World.cell?_alloc_at _ _ _ _ rfl]
   simpa using hu
 · intro v' w' h1 h2 _
   exact h v' w' h1 (zF (zL w _ _) h2)
end
theorem zDs {w:World} {R:Nat} {cs:List Value} {v0 v1:Value} (h:Blk w R cs) (hl:cs.length=2):((w.setCell ⟨R,0,none⟩ v0).setCell ⟨R,1,none⟩ v1).cell? ⟨R,0,none⟩=some v0∧((w.setCell ⟨R,0,none⟩ v0).setCell ⟨R,1,none⟩ v1).cell? ⟨R,1,none⟩=some v1:=by
 obtain⟨c0,f0⟩:=h.2 0 (by omega)
 obtain⟨c1,f1⟩:=h.2 1 (by omega)
 refine⟨?_,?_⟩
 all_goals go_simp
theorem zDt {w0 w:World} {R:Nat} {v0 v1:Value} (h:Below w0.heap.size w0 w) (hR:w0.heap.size≤R):Below w0.heap.size w0 ((w.setCell ⟨R,0,none⟩ v0).setCell ⟨R,1,none⟩ v1):=(h.setCell hR _).setCell hR _
theorem zOO {w:World} {R base e n:Nat} {v v0 v1:Value} {xs:List Value} (h:w.ownsRow base e 1 v n xs) (hb:R < base):((w.setCell ⟨R,0,none⟩ v0).setCell ⟨R,1,none⟩ v1).ownsRow base e 1 v n xs:=
 zBX (zBX h (zR w R 0 v0) hb) (zR _ R 1 v1) hb
theorem zMF {A:Option Addr} {c B n:Nat} {xs:List Nat} {w:World} (hn:xs.length=n) (ha:Reads w B 1 A n (zBv xs)) (hB:B≤w.heap.size) (hl:n≤4096) (hc:n≤c) (hc2:c≤maxLen) (hm:zAv xs=xs) (h0:n=0):
 Calls Tryz.prog 184 #[.slice A n c,.bool false] w fun e w'=>e=.returned (.agg #[.bool false,.slice none 0 0])∧Below w.heap.size w w':=by
 have:=zHn (c:=c) hn ha hB hl hc hc2 (m:=n) (by rw[hm,hn])
 unfold zLS at this
 rw[if_pos h0]at this
 exact this
theorem zMG {A:Option Addr} {c B n:Nat} {xs:List Nat} {w:World} (hn:xs.length=n) (ha:Reads w B 1 A n (zBv xs)) (hB:B≤w.heap.size) (hl:n≤4096) (hc:n≤c) (hc2:c≤maxLen) (hm:zAv xs=xs) (h0:n≠0):
 Calls Tryz.prog 184 #[.slice A n c,.bool false] w fun e w'=>e=.returned (.agg #[.bool false,.slice A n c])∧Below w.heap.size w w':=by
 have:=zHn (c:=c) hn ha hB hl hc hc2 (m:=n) (by rw[hm,hn])
 unfold zLS at this
 rw[if_neg h0]at this
 exact this
structure PaS (w wr:World) (v:Value) (n:Nat) (ms:List Nat):Prop where
 own:wr.ownsRow (w.heap.size+1) 87 1 v n (zBv ms)
 res:Blk wr w.heap.size [.bool false,.slice none 0 0]
 below:Below w.heap.size w wr
theorem PaS.grown {w wr w':World} {v v':Value} {n n':Nat} {ms ms':List Nat} (h:PaS w wr v n ms) (hg:wr.grownBy w' v.ownBlock) (ho:w'.ownsRow (w.heap.size+1) 87 1 v' n' (zBv ms')):PaS w w' v' n' ms':=
 ⟨ho,h.res.grownR hg (fun e=>by have:=(h.own.lt _ e.symm).1;omega),h.below.grown hg h.below.size (fun k hk=>by have:=(h.own.lt k hk).1;omega)⟩
def AtPar (l:List UInt16) (i:Nat) (ms:List Nat):Prop:=i≤l.length∧zr (l.take i) < zEl∧ms=zA7 (zr (l.take i))
theorem PaS.below' {w wr w':World} {v:Value} {n:Nat} {ms:List Nat} (h:PaS w wr v n ms) (hb:Below wr.heap.size wr w'):PaS w w' v n ms:=
 ⟨zDM h.own hb,h.res.below hb h.res.1,h.below.trans (hb.mono h.below.size)⟩
theorem PaS.trimmed {w wr w':World} {A Av:Option Addr} {n cp cv m:Nat} {outs zs:List Nat} {c:Nat} (h:PaS w wr (.slice A n cp) n outs) (hg:wr.grownBy w' (Value.ownBlock (.slice A n cp))) (ho:w'.ownsRow (w.heap.size+1) 87 1 (.slice Av (n+1) cv) (n+1) (zBv (outs++[c])))
 (hz:zAv (outs++[c])=zs) (hm:zs.length=m) (hn:m≤n+1):PaS w w' (.slice Av m cv) m zs:=by
 refine h.grown hg ?_
 have h1:=zN3 (j:=m) ho hn
 rw[zLC,←hm,←hz,←zE3,hz,hm]at h1
 exact h1
theorem AtPar.start (l:List UInt16):AtPar l 0 []:=⟨Nat.zero_le _,by rw[List.take_zero];exact Nat.pow_pos (by omega),rfl⟩
theorem AtPar.step {l:List UInt16} {k d c:Nat} {ms outs:List Nat} (h:AtPar l k ms) (hk:k < l.length) (hd:l[k].toNat=d+48) (hd9:d≤9) (hm:zBt ms d=(outs,c)):zAv (outs++[c])=zA7 (zr (l.take (k+1))):=by
 obtain⟨_,h2,h3⟩:=h
 subst h3
 have:=zIS h2 hd9
 rw[hm]at this
 rw[this,zCS l k hk,hd]
 congr 1
theorem AtPar.go {l:List UInt16} {k:Nat} {ms:List Nat} (hk:k < l.length) (hm:ms=zA7 (zr (l.take (k+1)))) (h8:ms.length≤8):AtPar l (k+1) ms:=by
 refine⟨hk,?_,hm⟩
 rcases Nat.lt_or_ge (zr (l.take (k+1))) zEl with h | h
 · exact h
 · have:=zN1 h
   rw[←hm]at this
   omega
theorem AtPar.over {l:List UInt16} {k:Nat} {ms:List Nat} (hm:ms=zA7 (zr (l.take (k+1)))) (h8:¬ms.length≤8):zEl≤zr l:=by
 rcases Nat.lt_or_ge (zr (l.take (k+1))) zEl with h | h
 · have:=zDP h
   rw[←hm]at this
   omega
 · exact Nat.le_trans h (zC5 l (k+1))
theorem AtPar.done {l:List UInt16} {ms:List Nat} (h:AtPar l l.length ms):zr l < zEl∧ms=zA7 (zr l):=by
 obtain⟨_,h2,h3⟩:=h
 rw[List.take_length]at h2 h3
 exact⟨h2,h3⟩
theorem PaS.drewN {w wr:World} {v:Value} {n:Nat} {ms:List Nat} (h:PaS w wr v n ms) (m:Nat):PaS w (wr.drewN m) v n ms:=
 ⟨h.own.kept (row:=none) ⟨rfl,rfl,rfl,Nat.le_refl _,fun _ _ _=>rfl⟩ (by cases hv:v.ownBlock<;>simp),h.res.grown (g:=w.heap.size+1) (zAB wr _ m) (by omega),zBn h.below m⟩
theorem zJv {s:ByteArray} {l:List UInt16} (h:s.data.toList=asc l) (hd:∀x∈l,zQ x=true) (h0:0 < l.length) (hz:l[0]≠48∨l=[48]) (hl:l.length≤4096) (w:World):
 Calls Tryz.prog 149 #[.string s] w (zME (zr l) w):=by
 obtain⟨i0,hi0,hz0,hz1,hz2⟩:=info_parts Tryz.info_u32
 obtain⟨hs,hget⟩:=zLT h hd
 have HG:=zD hget
 have hs0:0 < s.size:=by omega
 have hs1:s.size≤4096:=by omega
 have HD:=zD (fun w=>zId h hd h0 hz hl w)
 have hb0:=(hget 0 hs0 h0).2
 have e45:((s[0].toNat:Int)==45)=false:=beq_eq_false_iff_ne.2 (by omega)
 have e450:(s.toList==[45,48])=false:=by
  rw[beq_eq_false_iff_ne,ByteArray.toList_eq]
  intro h3
  have h4:s.data.toList[0]? =some 45:=by rw[h3];rfl
  have h5:s.data.toList[0]? =some s[0]:=by rw[List.getElem?_eq_getElem (by simpa using hs0)];rfl
  rw[h5]at h4
  have h6:s[0].toNat=45:=by rw[Option.some.inj h4];rfl
  omega
 have HS0:=zD (show PaS w (w.alloc (.cells #[.bool false,.slice none 0 0] 42)) (.slice none 0 0) ([]:List Nat).length []from⟨World.ownsRow_nil _ _ _ _,Blk.new w [.bool false,.slice none 0 0] _,(Below.refl _ _).alloc (Nat.le_refl _) _⟩)
 have HL:=zD hs
 clear hget h hd hz hs
 go_enter Tryz.func149,Tryz.ntmps149
 go_wp2_with fail
 go_quiet (fail)
 go_wp2_with (go_at_call 183;refine(HD.out _).mono ?_;rintro e1 w1 ⟨rfl,rfl⟩)
 go_loopg [6,33] l.length (fun r m i wr=>∃(k:Nat) (ms:List Nat) (n:Nat),k+r=l.length∧i=.int .i64 k∧Hid (ms.length=n)∧Hid (PaS w wr m n ms)∧Hid (AtPar l k ms))
 case atStart=>exact⟨0,[],0,by omega,rfl,rfl,HS0.out.drewN _,AtPar.start l⟩
 case round=>
  obtain⟨k,ms,n,hkr,rfl,hn,hS,hat⟩:=hrel
  obtain⟨G,rfl⟩:∃G,G=gk:=⟨_,rfl⟩
  obtain⟨wo,rfl⟩:∃wo,wo=wr:=⟨_,rfl⟩
  obtain⟨A,cp,rfl,hnc,hcp⟩:=zb hS.out.own
  have hsl:=HL.out
  have hlt8:n≤8:=by have:=zDP hat.out.2.1;rw[←hat.out.2.2,hn.out]at this;exact this
  by_cases hlt:k < l.length
  · have hks:k < s.size:=by omega
    have hgk:=(HG.out k hks hlt).2
    obtain⟨d,hdd⟩:∃d,s[k].toNat=d+48:=⟨s[k].toNat - 48,by omega⟩
    have HDD:=zD hdd
    have HDD':l[k].toNat=d+48:=by rw[←(HG.out k hks hlt).1,hdd]
    have HDD':=zD HDD'
    have hcl:(s[k].toNat:Int)=(d:Int)+48:=by omega
    have hd9:d≤9:=by omega
    clear hdd hsl
    go_wp2_with fail
    go_loopg [8,43] n (fun r c8 i43 wi=>∃(j c:Nat) (outs:List Nat),j+r=n∧c8=.int .u64 c∧i43=.int .i64 j∧c≤9∧Hid (PaS w wi (.slice A n cp) n (zBy ms outs))∧Hid (AtMul ms d j c outs))
    case atStart=>exact⟨0,d,[],by omega,rfl,rfl,hd9,hS,AtMul.start ms d⟩
    case round=>
     obtain⟨j,c,outs,hjr,rfl,rfl,hc9,hSi,hatm⟩:=hrel
     by_cases hjn:j < n
     · have hn0:0 < n:=by omega
       obtain⟨g,cap,hv,hgb,hgl⟩:=hSi.out.own.form hn0
       injection hv with hA _ hcap
       subst hA hcap
       have hol:outs.length=j:=hatm.out.1
       have hml:ms.length=n:=hn.out
       have hjm:j < ms.length:=by omega
       have hxl:=zD4 (zr (l.take k)) ms[j] (by rw[←hat.out.2.2];exact List.getElem_mem hjm)
       have hce:wr.cell? ⟨g,j,none⟩=some (.int .u32 (ms[j]:Int)):=by
        rw[hSi.out.own.cellAt j (by omega)]
        subst hol
        have h1:=zGK hjm
        simp only[zBv,List.getElem?_map,h1];rfl
       have hfr:=hSi.out.own.frozenAt j
       have hset:=zD (fun x:Nat=>zGL (ms:=ms) (outs:=outs) (by omega) x)
       have hstep:=zD (hatm.out.step hjm)
       obtain⟨x,hx⟩:∃x,ms[j]=x:=⟨_,rfl⟩
       rw[hx]at hce hstep hxl
       have hxi:(x:Int)≤4294967295:=by omega
       have HOL:=zD hol
       clear hx hol hml hxl
       go_wp2_with fail
       go_roundg (gk - 1)
       case measure=>omega
       case rel=>
        refine⟨j+1,(c+10*x) / 4294967296,outs++[(c+10*x) % 4294967296],by omega,congrArg (Value.int .u64) (by omega),by go_num,by omega,?_,hstep.out⟩
        have hst:=hSi.out.own.stored j (.int .u32 (((c+10*x) % 4294967296:Nat):Int))
        have h1:=hst.1
        rw[zON,show j=outs.length from HOL.out.symm,hset.out]at h1
        have h2:=hSi.out.grown (by rw[show j=outs.length from HOL.out.symm]at hst;exact hst.2) h1
        have e:(((c+10*x) % 4294967296:Nat):Int)=((c:Int)+10*(x:Int)) % 4294967296:=by omega
        rw[e,HOL.out]at h2
        exact h2
     · obtain rfl:j=n:=by omega
       have hlen:outs.length=ms.length:=by rw[hatm.out.1,hn.out]
       have hmo:zBy ms outs=outs:=by unfold zBy;rw[hlen,List.drop_length,List.append_nil]
       have hdone:=(show AtMul ms d ms.length c outs by have:=hatm.out;rwa [←hn.out]at this).done
       have hSo:=zD (show PaS w wr (.slice A j cp) j outs by have:=hSi.out;rwa [hmo]at this)
       have hst:=hat.out.step hlt HDD'.out hd9 hdone
       obtain⟨zs,hzs⟩:∃z,zAv (outs++[c])=z:=⟨_,rfl⟩
       obtain⟨m,hm⟩:∃m,zs.length=m:=⟨_,rfl⟩
       have hmj:m≤j+1:=by
        have:=zK7 (outs++[c])
        rw[hzs,hm,List.length_append,hatm.out.1]at this
        exact this
       rw[hzs]at hst
       have HZS:=zD hzs
       have HM:=zD hm
       have HST:=zD hst
       have HOL:=zD (show outs.length=j from hatm.out.1)
       have hbase:w.heap.size+1≤wr.heap.size:=hSo.out.res.1
       have hlz:∀v:World,v.heap.size=v.heap.size:=fun _=>rfl
       clear hlz hzs hm hst hlen hmo hdone hSi hS hatm
       by_cases h8:m≤8
       · go_wp2_with (at_builtin;refine zDF rfl _ _ 40 rfl 87 i0 _ 1 4 Tryz.underlying40 hi0 hz0 hz1 hz2 rfl (by decide) (w.heap.size+1) hbase (.slice A j cp) (zBv outs) j rfl hSo.out.own [.int .u32 (c:Int)] 1 1 rfl rfl rfl (by omega) (by omega) ?_;intro v' w' ho hgr;obtain⟨Av,cv,rfl,hcv1,hcv2⟩:=zb ho)
         have hrd:=zD (Reads.of_own (by rw[zD5 outs [c] |>.symm];exact ho):Reads w' w'.heap.size 1 Av (j+1) (zBv (outs++[c])))
         have HP:=zD (hSo.out.trimmed (m:=m) (zs:=zs) hgr (by rw[zD5 outs [c] |>.symm];exact ho) HZS.out HM.out hmj)
         clear ho hgr
         refine(zD6 (xs:=outs++[c]) (m:=m) (by rw[List.length_append,HOL.out];rfl) hrd.out (by omega) hcv1 hcv2 (by rw[HZS.out,HM.out])).mono ?_
         rintro e3 w3 ⟨rfl,rfl⟩
         go_wp2_with fail
         go_roundg (G - 1)
         case measure=>omega
         case rel=>exact⟨k+1,zs,m,by omega,by go_num,HM.out,HP.out,AtPar.go hlt HST.out (by rw[HM.out];exact h8)⟩
       · have hov:=zD (AtPar.over HST.out (by rw[HM.out];exact h8))
         go_wp2_with (at_builtin;refine zDF rfl _ _ 40 rfl 87 i0 _ 1 4 Tryz.underlying40 hi0 hz0 hz1 hz2 rfl (by decide) (w.heap.size+1) hbase (.slice A j cp) (zBv outs) j rfl hSo.out.own [.int .u32 (c:Int)] 1 1 rfl rfl rfl (by omega) (by omega) ?_;intro v' w' ho hgr;obtain⟨Av,cv,rfl,hcv1,hcv2⟩:=zb ho)
         have hrd:=zD (Reads.of_own (by rw[zD5 outs [c] |>.symm];exact ho):Reads w' w'.heap.size 1 Av (j+1) (zBv (outs++[c])))
         have HP:=zD (hSo.out.trimmed (m:=m) (zs:=zs) hgr (by rw[zD5 outs [c] |>.symm];exact ho) HZS.out HM.out hmj)
         clear ho hgr
         refine(zD6 (xs:=outs++[c]) (m:=m) (by rw[List.length_append,HOL.out];rfl) hrd.out (by omega) hcv1 hcv2 (by rw[HZS.out,HM.out])).mono ?_
         rintro e3 w3 ⟨rfl,rfl⟩
         have hR:=zD HP.out.res
         obtain⟨b0,fb0⟩:=hR.out.2 0 (by decide)
         obtain⟨b1,fb1⟩:=hR.out.2 1 (by decide)
         go_wp2_with fail
         obtain⟨q0,q1⟩:=zDs (v0:=.bool false) (v1:=.slice none 0 0) hR.out rfl
         refine bodyPost_ret (v:=.tuple #[.agg #[.bool false,.slice none 0 0],.int .i64 3]) (by simp[results,Tryz.results149,go_sem,q0,q1]) rfl ?_
         exact⟨none,0,0,3,rfl,zDt HP.out.below (Nat.le_refl _),.inr ⟨rfl,hov.out⟩⟩
  · have hke:k=l.length:=by omega
    obtain⟨hv8,hms⟩:=(show AtPar l l.length ms by have:=hat.out;rwa [hke]at this).done
    clear hke
    have hmt:zAv ms=ms:=by rw[hms];exact zIT hv8
    have HMT:=zD hmt
    have HV8:=zD hv8
    have HMS:=zD hms
    have hrd:=zD (Reads.of_own hS.out.own)
    have hks2:¬k < s.size:=by omega
    clear hmt hv8 hms hat hsl
    by_cases hn0':n=0
    · have hn0:=zD hn0'
      clear hn0'
      go_wp2_with fail
      refine(zMF hn.out hrd.out (Nat.le_refl _) (by omega) hnc hcp HMT.out hn0.out).mono ?_
      rintro e3 w3 ⟨rfl,hb3⟩
      have hP3:=zD (hS.out.below' hb3)
      clear hb3
      obtain⟨b0,fb0⟩:=hP3.out.res.2 0 (by decide)
      obtain⟨b1,fb1⟩:=hP3.out.res.2 1 (by decide)
      go_wp2_with fail
      obtain⟨q0,q1⟩:=zDs (v0:=.bool false) (v1:=.slice none 0 0) hP3.out.res rfl
      refine bodyPost_ret (v:=.tuple #[.agg #[.bool false,.slice none 0 0],.int .i64 0]) (by simp[results,Tryz.results149,go_sem,q0,q1]) rfl ?_
      have hnil:zA7 (zr l)=[]:=by rw[←HMS.out];exact List.eq_nil_of_length_eq_zero (by rw[hn.out,hn0.out])
      exact⟨none,0,0,0,rfl,zDt hP3.out.below (Nat.le_refl _),.inl ⟨rfl,HV8.out,by rw[hnil];exact World.ownsRow_nil _ _ _ _⟩⟩
    · have hn0:=zD hn0'
      clear hn0'
      go_wp2_with fail
      refine(zMG hn.out hrd.out (Nat.le_refl _) (by omega) hnc hcp HMT.out hn0.out).mono ?_
      rintro e3 w3 ⟨rfl,hb3⟩
      have hP3:=zD (hS.out.below' hb3)
      clear hb3
      obtain⟨b0,fb0⟩:=hP3.out.res.2 0 (by decide)
      obtain⟨b1,fb1⟩:=hP3.out.res.2 1 (by decide)
      go_wp2_with fail
      obtain⟨q0,q1⟩:=zDs (v0:=.bool false) (v1:=.slice A n cp) hP3.out.res rfl
      refine bodyPost_ret (v:=.tuple #[.agg #[.bool false,.slice A n cp],.int .i64 0]) (by simp[results,Tryz.results149,go_sem,q0,q1]) rfl ?_
      exact⟨A,n,cp,0,rfl,zDt hP3.out.below (Nat.le_refl _),.inl ⟨rfl,HV8.out,by rw[←HMS.out,hn.out];exact zAM (zOO hP3.out.own (by omega)) (by omega)⟩⟩
structure BgS (w wr:World) (g:Nat) (A:Option Addr) (n c k R:Nat) (X:Option Addr) (mx cx:Nat):Prop where
 mv:Mv w wr g A n c k
 zero:Blk wr w.heap.size zAw
 box:Blk wr R [.bool false,.slice X mx cx]
theorem BgS.drewN {w wr:World} {g n c k R mx cx:Nat} {A X:Option Addr} (h:BgS w wr g A n c k R X mx cx) (hg:g < w.heap.size) (hR:w.heap.size≤R) (m:Nat):BgS w (wr.drewN m) g A n c k R X mx cx:=
 ⟨h.mv.drewN m,h.zero.grown (zAB wr (some g) m) (by omega),h.box.grown (zAB wr (some g) m) (by omega)⟩
theorem zGM {w:World} {base e n:Nat} {v:Value} {xs:List Value} (h:w.ownsRow base e 1 v n xs) (m:Nat):(w.drewN m).ownsRow base e 1 v n xs:=
 h.kept (row:=none) ⟨rfl,rfl,rfl,Nat.le_refl _,fun _ _ _=>rfl⟩ (by cases hv:v.ownBlock<;>simp)
theorem zMH {v n e m:Nat} {r:List UInt16} {t:Tok} (h:zEl≤v) (hq:zGw v n r=(e,t,m)):6=e∧zo=t∧0=m:=by
 unfold zGw at hq
 rw[if_pos h]at hq
 exact zBi hq
theorem zHs {v n e m:Nat} {r:List UInt16} {t:Tok} (h:v < zEl) (h2:(zAx 0 zBI r || zAx 0 zQ r)=true) (hq:zGw v n r=(e,t,m)):5=e∧zo=t∧0=m:=by
 unfold zGw at hq
 rw[if_neg (Nat.not_le.2 h),if_pos h2]at hq
 exact zBi hq
theorem zMI {v n e m:Nat} {r:List UInt16} {t:Tok} (h:v < zEl) (h2:(zAx 0 zBI r || zAx 0 zQ r)=false) (hq:zGw v n r=(e,t,m)):0=e∧{zo with kind:=3,mag:=zA7 v}=t∧n+1=m:=by
 unfold zGw at hq
 rw[if_neg (Nat.not_le.2 h),if_neg (by rw[h2];simp)]at hq
 exact zEP hq
theorem zG5 {A:Option Addr} {c g B k n:Nat} {u:List UInt16} {w:World} {s:ByteArray} {d:List UInt16} (hsd:s.data.toList=asc d) (hd:∀x∈d,zQ x=true) (h0:0 < d.length) (hz:d[0]≠48∨d=[48]) (hdl:d.length≤4096)
 (hr:Rd w g A n c k) (hn:u.length=n) (ha:Reads w B 1 A n (zAH u)) (hB:B≤g) (hk:k≤n) (hl:n≤4096) {m e:Nat} {t:Tok} (hq:zGw (zr d) d.length (u.drop k)=(e,t,m)):
 Calls Tryz.prog 104 #[.pointer (some ⟨g,0,none⟩),.string s] w fun ev w'=>∃v,ev=.returned (.tuple #[v,.int .i64 (e:Int)])∧(e≠0→v=noV)∧(e=0→zRi w' w.heap.size t v∧Mv w w' g A n c k∧m=d.length+1)∧w.grownBy w' (some g):=by
 have hg:=hr.lt
 have HP:=zD (zJv hsd hd h0 hz hdl (w.alloc (.cells zAw.toArray 44)))
 have HQ:=zD hq
 have HA:=zD ha
 have HR:=zD hr
 obtain⟨b1,hb1⟩:∃b,zAx 0 zBI (u.drop k)=b:=⟨_,rfl⟩
 obtain⟨b2,hb2⟩:∃b,zAx 0 zQ (u.drop k)=b:=⟨_,rfl⟩
 have HB1:=zD hb1
 have HB2:=zD hb2
 have HN:=zD hn
 clear hq ha hr hsd hd h0 hz hdl hb1 hb2 hn
 go_enter Tryz.func104,Tryz.ntmps104
 go_wp2_with fail
 refine HP.out.mono ?_
 rintro e1 w1 ⟨X,mx,cx,er,rfl,hbl,hcase⟩
 have hsz:w.heap.size+1≤w1.heap.size:=by have:=hbl.size;simpa using this
 have hS:=zD (show BgS w (w1.alloc (.cells #[.bool false,.slice X mx cx] 42)) g A n c k w1.heap.size X mx cx from by
  have hb2:Below w.heap.size w w1:=((Below.refl _ w).alloc (Nat.le_refl _) _).trans (hbl.mono (by simp))
  refine⟨⟨(HR.out.below hb2 hg).alloc _,zF (zz _ hb2) (zL _ _ _)⟩,?_,Blk.new w1 [.bool false,.slice X mx cx] _⟩
  exact((Blk.new w zAw 44).below hbl (by simp)).grownR (zL w1 _ none) (by simp))
 have hC:=zD hcase
 clear hbl hcase
 by_cases her:er=0
 · have hv8:zr d < zEl:=by
    rcases hC.out with⟨_,h,_⟩ | ⟨h,_⟩
    · exact h
    · omega
   have hown:=zD (show w1.ownsRow (w.alloc (.cells zAw.toArray 44)).heap.size 87 1 (.slice X mx cx) (zA7 (zr d)).length (zBv (zA7 (zr d))) by
    rcases hC.out with⟨_,_,h⟩ | ⟨h,_⟩
    · exact h
    · omega)
   have e1:((er:Int) !=0)=false:=by rw[her];rfl
   have HV8:=zD hv8
   clear her hC hv8
   go_wp2_with fail
   refine(zE6 (j:=0) hS.out.mv.rd HN.out (HA.out.grown hS.out.mv.grown hB (Nat.le_of_lt hg)) hk hl (by omega) HB1.out).mono ?_
   rintro e3 w3 ⟨rfl,m3,hw3⟩
   have hS3:=zD (show BgS w w3 g A n c k w1.heap.size X mx cx by rw[hw3];exact hS.out.drewN hg (by omega) m3)
   have hO3:=zD (show w3.ownsRow (w.heap.size+1) 87 1 (.slice X mx cx) (zA7 (zr d)).length (zBv (zA7 (zr d))) by
    rw[hw3]
    exact zGM (zAM (hown.out.alloc _) (by simp)) m3)
   clear hw3 m3 hS hown
   cases b1 with
   | true=>
    obtain⟨b0,fb0⟩:=hS3.out.zero.2 0 (by decide)
    obtain⟨b1,fb1⟩:=hS3.out.zero.2 1 (by decide)
    obtain⟨b2,fb2⟩:=hS3.out.zero.2 2 (by decide)
    obtain⟨b3,fb3⟩:=hS3.out.zero.2 3 (by decide)
    obtain⟨b4,fb4⟩:=hS3.out.zero.2 4 (by decide)
    obtain⟨b5,fb5⟩:=hS3.out.zero.2 5 (by decide)
    obtain⟨b6,fb6⟩:=hS3.out.zero.2 6 (by decide)
    obtain⟨b7,fb7⟩:=hS3.out.zero.2 7 (by decide)
    obtain⟨b8,fb8⟩:=hS3.out.zero.2 8 (by decide)
    go_wp2_with fail
    obtain⟨q0,q1,q2,q3,q4,q5,q6,q7,q8⟩:=ze (v0:=.int .i64 0) (v1:=.string ⟨#[]⟩) (v2:=.slice none 0 0) (v3:=.int .i64 0) (v4:=.int .i64 0) (v5:=.bool false) (v6:=.slice none 0 0) (v7:=.int .i64 0) (v8:=.bool false) hS3.out.zero rfl
    refine bodyPost_ret (v:=.tuple #[.agg #[.int .i64 0,.string ⟨#[]⟩,.slice none 0 0,.int .i64 0,.int .i64 0,.bool false,.slice none 0 0,.int .i64 0,.bool false],.int .i64 5]) (by simp[results,Tryz.results104,go_sem,q0,q1,q2,q3,q4,q5,q6,q7,q8]) rfl ?_
    obtain⟨z1,z2,z3⟩:=zHs HV8.out (by rw[HB1.out];rfl) HQ.out
    subst z1
    exact⟨_,rfl,fun _=>rfl,fun h=>absurd h (by decide),(zy hS3.out.mv (Nat.le_refl _) hg).grown⟩
   | false=>
    go_wp2_with fail
    refine(zAU (j:=0) hS3.out.mv.rd HN.out (HA.out.grown hS3.out.mv.grown hB (Nat.le_of_lt hg)) hk hl (by omega) HB2.out).mono ?_
    rintro e4 w4 ⟨rfl,m4,hw4⟩
    have hS4:=zD (show BgS w w4 g A n c k w1.heap.size X mx cx by rw[hw4];exact hS3.out.drewN hg (by omega) m4)
    have hO4:=zD (show w4.ownsRow (w.heap.size+1) 87 1 (.slice X mx cx) (zA7 (zr d)).length (zBv (zA7 (zr d))) by
     rw[hw4]
     exact zGM hO3.out m4)
    clear hw4 m4 hS3 hO3
    obtain⟨b0,fb0⟩:=hS4.out.zero.2 0 (by decide)
    obtain⟨b1,fb1⟩:=hS4.out.zero.2 1 (by decide)
    obtain⟨b2',fb2⟩:=hS4.out.zero.2 2 (by decide)
    obtain⟨b3,fb3⟩:=hS4.out.zero.2 3 (by decide)
    obtain⟨b4,fb4⟩:=hS4.out.zero.2 4 (by decide)
    obtain⟨b5,fb5⟩:=hS4.out.zero.2 5 (by decide)
    obtain⟨b6,fb6⟩:=hS4.out.zero.2 6 (by decide)
    obtain⟨b7,fb7⟩:=hS4.out.zero.2 7 (by decide)
    obtain⟨b8,fb8⟩:=hS4.out.zero.2 8 (by decide)
    obtain⟨x0,fx0⟩:=hS4.out.box.2 0 (by simp)
    obtain⟨x1,fx1⟩:=hS4.out.box.2 1 (by simp)
    cases b2 with
    | true=>
     go_wp2_with fail
     obtain⟨q0,q1,q2,q3,q4,q5,q6,q7,q8⟩:=ze (v0:=.int .i64 0) (v1:=.string ⟨#[]⟩) (v2:=.slice none 0 0) (v3:=.int .i64 0) (v4:=.int .i64 0) (v5:=.bool false) (v6:=.slice none 0 0) (v7:=.int .i64 0) (v8:=.bool false) hS4.out.zero rfl
     refine bodyPost_ret (v:=.tuple #[.agg #[.int .i64 0,.string ⟨#[]⟩,.slice none 0 0,.int .i64 0,.int .i64 0,.bool false,.slice none 0 0,.int .i64 0,.bool false],.int .i64 5]) (by simp[results,Tryz.results104,go_sem,q0,q1,q2,q3,q4,q5,q6,q7,q8]) rfl ?_
     obtain⟨z1,z2,z3⟩:=zHs HV8.out (by rw[HB1.out,HB2.out];rfl) HQ.out
     subst z1
     exact⟨_,rfl,fun _=>rfl,fun h=>absurd h (by decide),(zy hS4.out.mv (Nat.le_refl _) hg).grown⟩
    | false=>
     go_wp2_with fail
     obtain⟨q0,q1,q2,q3,q4,q5,q6,q7,q8⟩:=ze (v0:=.int .i64 3) (v1:=.string ⟨#[]⟩) (v2:=.slice none 0 0) (v3:=.int .i64 0) (v4:=.int .i64 0) (v5:=.bool false) (v6:=.slice X mx cx) (v7:=.int .i64 0) (v8:=.bool false) hS4.out.zero rfl
     refine bodyPost_ret (v:=.tuple #[.agg #[.int .i64 3,.string ⟨#[]⟩,.slice none 0 0,.int .i64 0,.int .i64 0,.bool false,.slice X mx cx,.int .i64 0,.bool false],.int .i64 0]) (by simp[results,Tryz.results104,go_sem,q0,q1,q2,q3,q4,q5,q6,q7,q8]) rfl ?_
     obtain⟨z1,z2,z3⟩:=zMI HV8.out (by rw[HB1.out,HB2.out];rfl) HQ.out
     subst z1 z2 z3
     exact⟨_,rfl,fun h=>absurd rfl h,fun _=>⟨⟨_,_,rfl,World.ownsRow_nil _ _ _ _,zAM (zAh hO4.out (by omega)) (by omega)⟩,zy hS4.out.mv (Nat.le_refl _) hg,rfl⟩,(zy hS4.out.mv (Nat.le_refl _) hg).grown⟩
 · have hv8:zEl≤zr d:=by
    rcases hC.out with⟨h,_,_⟩ | ⟨_,h⟩
    · omega
    · exact h
   have e1:((er:Int) !=0)=true:=by rw[bne_iff_ne];omega
   have HV8:=zD hv8
   clear her hC hv8
   obtain⟨b0,fb0⟩:=hS.out.zero.2 0 (by decide)
   obtain⟨b1',fb1⟩:=hS.out.zero.2 1 (by decide)
   obtain⟨b2',fb2⟩:=hS.out.zero.2 2 (by decide)
   obtain⟨b3,fb3⟩:=hS.out.zero.2 3 (by decide)
   obtain⟨b4,fb4⟩:=hS.out.zero.2 4 (by decide)
   obtain⟨b5,fb5⟩:=hS.out.zero.2 5 (by decide)
   obtain⟨b6,fb6⟩:=hS.out.zero.2 6 (by decide)
   obtain⟨b7,fb7⟩:=hS.out.zero.2 7 (by decide)
   obtain⟨b8,fb8⟩:=hS.out.zero.2 8 (by decide)
   go_wp2_with fail
   obtain⟨q0,q1,q2,q3,q4,q5,q6,q7,q8⟩:=ze (v0:=.int .i64 0) (v1:=.string ⟨#[]⟩) (v2:=.slice none 0 0) (v3:=.int .i64 0) (v4:=.int .i64 0) (v5:=.bool false) (v6:=.slice none 0 0) (v7:=.int .i64 0) (v8:=.bool false) hS.out.zero rfl
   refine bodyPost_ret (v:=.tuple #[.agg #[.int .i64 0,.string ⟨#[]⟩,.slice none 0 0,.int .i64 0,.int .i64 0,.bool false,.slice none 0 0,.int .i64 0,.bool false],.int .i64 6]) (by simp[results,Tryz.results104,go_sem,q0,q1,q2,q3,q4,q5,q6,q7,q8]) rfl ?_
   obtain⟨z1,z2,z3⟩:=zMH HV8.out HQ.out
   subst z1
   exact⟨_,rfl,fun _=>rfl,fun h=>absurd h (by decide),(zy hS.out.mv (Nat.le_refl _) hg).grown⟩
theorem zMJ {A:Option Addr} {c B n:Nat} {xs:List UInt16} {w:World} (hB:B≤w.heap.size) (hn:xs.length=n) (ha:Reads w B 1 A n (zAH xs)) (hl:n≤4096) {s:ByteArray} {b:Bool} (h1:zEO xs=s) (h2:zBh xs=b):
 Calls Tryz.prog 108 #[.slice A n c] w fun e w'=>e=.returned (.tuple #[.string s,.bool b])∧Below w.heap.size w w':=by
 subst hn h1 h2
 exact zLX hB ha (by omega)
theorem zMK {l:List UInt16} {n:Nat} (h:l.length≤n) (hn:n≤4):zAs l 4=zAs l (min 4 l.length):=by
 have hz:∀k,l.length < k→zAS l k=0:=by
  intro k hk
  unfold zAS
  rw[if_neg]
  rw[decide_eq_false (by omega:¬k≤l.length)]
  simp
 have h1:∀k,l.length≤k→zAs l k=zAs l l.length:=by
  intro k
  induction k with
  | zero=>
   intro hk
   have:l.length=0:=by omega
   rw[this]
  | succ k ih=>
   intro hk
   by_cases e:l.length=k+1
   · rw[e]
   · rw[zAs,if_neg (by rw[hz (k+1) (by omega)];simp)]
     exact ih (by omega)
 rw[h1 4 (by omega),Nat.min_eq_right (by omega)]
theorem zG6 (l:List UInt16):zAs l 4=zAs l (min 4 l.length):=by
 by_cases h:l.length≤4
 · exact zMK h (Nat.le_refl _)
 · rw[Nat.min_eq_left (by omega)]
theorem zDu {l:List UInt16} {n:Nat} (h:zAS l (n+1)=0):zAs l (n+1)=zAs l n:=by
 rw[zAs,if_neg (by rw[h];simp)]
theorem zGN {l:List UInt16} {n:Nat} (h:zAS l (n+1)≠0):zAs l (n+1)=some (n+1):=by
 rw[zAs,if_pos h]
theorem zML {l:List UInt16} {n:Nat} (hn:n≤l.length):zAS l n=if(zBh (l.take n)&& !(decide (asc (l.take n)=[63,46])&&zAx 2 zQ l))=true then zBK (asc (l.take n))else 0:=by
 unfold zAS zBh
 rw[decide_eq_true hn,Bool.true_and]
theorem zMM {l:List UInt16} (h:zBh l=true):zEO l=⟨(asc l).toArray⟩:=by
 unfold zEO
 rw[if_pos h];rfl
theorem zCz {s:ByteArray} {l:List UInt8} (hs:s=⟨l.toArray⟩) {n:Nat} (h:zBK l=n) (w:World):Calls Tryz.prog 109 #[.string s] w fun e w'=>e=.returned (.int .i64 (n:Int))∧w=w':=by
 subst hs h
 exact zMA ⟨l.toArray⟩ w
theorem zMN (l:List UInt8):zBK l=0∨zBK l=1∨zBK l=2:=by
 unfold zBK
 split
 · simp
 · split<;>simp
theorem zHt {l:List UInt16} {z:Bool} {j e m:Nat} {t:Tok} (h1:zAs l 4=zAs l (j+1)) (h2:zAS l (j+1)=2) (hq:zBY z l=(e,t,m)):6=e∧zo=t∧0=m:=by
 unfold zBY at hq
 rw[h1,zGN (by rw[h2];decide)]at hq
 simp only at hq
 rw[if_pos h2]at hq
 exact zBi hq
theorem zQx {l:List UInt16} {z:Bool} {j e m:Nat} {t:Tok} (h1:zAs l 4=zAs l (j+1)) (h2:zAS l (j+1)=1) (hq:zBY z l=(e,t,m)):0=e∧{zo with kind:=5,text:=asc (l.take (j+1))}=t∧j+1=m:=by
 unfold zBY at hq
 rw[h1,zGN (by rw[h2];decide)]at hq
 simp only at hq
 rw[if_neg (by rw[h2];decide)]at hq
 exact zEP hq
theorem zMO {l:List UInt16} {z:Bool} {e m:Nat} {t:Tok} (h1:zAs l 4=none) (hq:zBY z l=(e,t,m)):(if(zAx 0 (fun x=>decide (128≤x.toNat) || x.toNat==96 || x.toNat==92) l || (z&&zi [35,33] l))=true then 6 else 5)=e:=by
 unfold zBY at hq
 rw[h1]at hq
 simp only at hq
 split at hq
 · rename_i h;rw[if_pos h];exact(zBi hq).1
 · rename_i h;rw[if_neg h];exact(zBi hq).1
structure SgS (w wr:World) (g:Nat) (A:Option Addr) (n c k:Nat):Prop where
 mv:Mv w wr g A n c k
 zero:Blk wr w.heap.size zAw
theorem SgS.below {w wr w':World} {g n c k:Nat} {A:Option Addr} (h:SgS w wr g A n c k) (_hg:g < w.heap.size) (hb:Below wr.heap.size wr w'):SgS w w' g A n c k:=
 ⟨h.mv.below hb,h.zero.below hb h.zero.1⟩
theorem SgS.drewN {w wr:World} {g n c k:Nat} {A:Option Addr} (h:SgS w wr g A n c k) (hg:g < w.heap.size) (m:Nat):SgS w (wr.drewN m) g A n c k:=
 ⟨h.mv.drewN m,h.zero.grown (zAB wr (some g) m) (by omega)⟩
theorem SgS.drew {w wr:World} {g n c k:Nat} {A:Option Addr} (h:SgS w wr g A n c k) (hg:g < w.heap.size):SgS w wr.drew g A n c k:=
 ⟨h.mv.drew,h.zero.grown (zAc wr (some g)) (by omega)⟩
theorem zFA {A:Option Addr} {c g B k n:Nat} {u:List UInt16} {w:World} (hr:Rd w g A n c k) (hn:u.length=n) (ha:Reads w B 1 A n (zAH u)) (hB:B≤g) (hk:k < u.length) (hl:n≤4096) (hc:n≤c) {m e:Nat} {t:Tok} (hq:zBY (k==0) (u.drop k)=(e,t,m)):
 Calls Tryz.prog 72 #[.pointer (some ⟨g,0,none⟩)] w fun ev w'=>∃v,ev=.returned (.tuple #[v,.int .i64 (e:Int)])∧(e≠0→v=noV)∧(e=0→zRi w' w.heap.size t v∧Mv w w' g A n c (k+m))∧w.grownBy w' (some g):=by
 subst hn
 have hg:=hr.lt
 have HA:=zD ha
 have HQ:=zD hq
 have HS0:=zD (show SgS w (w.alloc (.cells zAw.toArray 44)) g A u.length c k from⟨⟨hr.alloc _,zL w _ _⟩,Blk.new w zAw 44⟩)
 have hc0:=hr.c0
 have hc1:=hr.c1
 clear hq ha hr
 go_enter Tryz.func72,Tryz.ntmps72
 go_upto_region 1 with(fail)
 go_cut [4] (fun v wx=>v=.int .i64 ((min 4 (u.length - k):Nat):Int)∧Hid (SgS w wx g A u.length c k))
 case first=>
  go_region
  all_goals go_wp2_with fail
  all_goals go_meet
  all_goals first | exact⟨congrArg (Value.int .i64) (by omega),HS0.out.drew hg⟩ | exact⟨congrArg (Value.int .i64) (by omega),HS0.out⟩
 case rest=>
  obtain⟨hv,hS⟩:=hcut
  subst hv
  clear hc0 hc1 HS0
  go_wp2
  go_loopg [4] (min 4 (u.length - k)) (fun r v wr=>v=.int .i64 (r:Int)∧r≤4∧k+r≤u.length∧Hid (SgS w wr g A u.length c k)∧Hid (zAs (u.drop k) 4=zAs (u.drop k) r))
  case atStart=>exact⟨rfl,by omega,by omega,hS,by have:=zG6 (u.drop k);rw[List.length_drop]at this;exact this⟩
  case round=>
   obtain⟨rfl,h4,hkr,hS,hsg⟩:=hrel
   have hc0:=hS.out.mv.rd.c0
   have hc1:=hS.out.mv.rd.c1
   have hf1:=hS.out.mv.rd.f1
   have har:=zD (HA.out.grown hS.out.mv.grown hB (Nat.le_of_lt hg))
   by_cases hr0:0 < gk
   · obtain⟨j,rfl⟩:∃j,gk=j+1:=⟨gk - 1,by omega⟩
     obtain⟨blk,off,hA,_,hcell⟩:=har.out.spotL (by omega)
     subst hA
     clear hcell
     have hsl:=har.out.cut16 (k:=k) (by omega) hc
     rw[if_neg (by omega)]at hsl
     have hsl:=hsl.take16 (k:=j+1) (by rw[List.length_drop];omega)
     obtain⟨xs,hxs⟩:∃xs,(u.drop k).take (j+1)=xs:=⟨_,rfl⟩
     have hxl:xs.length=j+1:=by rw[←hxs,List.length_take,List.length_drop];omega
     rw[hxs,hxl]at hsl
     have hsl:Reads wr B 1 (some ⟨blk,off+k,none⟩) (j+1) (zAH xs):=by
      have e:Option.map (fun x:Addr=>x.add k) (some ⟨blk,off,none⟩)=some ⟨blk,off+k,none⟩:=congrArg some (Addr.add_lit _ _ _)
      rw[←e];exact hsl
     obtain⟨sv,hsv⟩:∃sv,zEO xs=sv:=⟨_,rfl⟩
     obtain⟨ok,hok⟩:∃ok,zBh xs=ok:=⟨_,rfl⟩
     obtain⟨d,hd⟩:∃d,zAx 2 zQ (u.drop k)=d:=⟨_,rfl⟩
     have hat:zAS (u.drop k) (j+1)=if(ok&& !(decide (asc xs=[63,46])&&d))=true then zBK (asc xs)else 0:=by
      rw[zML (by rw[List.length_drop];omega),hxs,hok,hd]
     have htx:ok=true→sv=⟨(asc xs).toArray⟩:=fun h=>by rw[←hsv];exact zMM (by rw[hok,h])
     have HSL:=zD hsl
     have HXL:=zD hxl
     have HXS:=zD hxs
     have HP:=zD (And.intro hsv hok)
     have HD:=zD hd
     have HAT:=zD hat
     have HTX:=zD htx
     have hB2:B≤wr.heap.size:=by have:=hS.out.mv.grown.size;omega
     obtain⟨h,hh⟩:∃h,k+(j+1)=h:=⟨_,rfl⟩
     have hwr:IntKind.i64.wrap ((k:Int)+((j:Int)+1))=(h:Int):=by rw[IntKind.wrap_i64];omega
     have g1:0≤(h:Int):=by omega
     have g2:(h:Int)≤(c:Int):=by omega
     have g3:k≤h:=by omega
     have g4:¬c=k:=by omega
     have g5:h - k=j+1:=by omega
     have HH:=zD hh
     clear hh
     clear hsl hxl hxs hsv hok hd hat htx
     go_upto_region 4 with(fail)
     go_cut [5,6] (fun v5 v6 wx=>v5=.string sv∧v6=.bool ok∧Hid (SgS w wx g (some ⟨blk,off,none⟩) u.length c k))
     case first=>
      have hrdD:=zD (hS.out.mv.rd.drew)
      have hgW:g < wr.drew.heap.size:=hS.out.mv.rd.lt
      go_region_held3 (fun w'=>w'.cell? ⟨g,0,none⟩=some (.slice (some ⟨blk,off,none⟩) u.length c)∧w'.cell? ⟨g,1,none⟩=some (.int .i64 (k:Int)))
       (first | (exact⟨hc0,hc1⟩) | (exact⟨(hrdD.out.below hb4 hgW).c0,(hrdD.out.below hb4 hgW).c1⟩) | go_keep)
       (first | (go_at_call 108;go_split_ands;refine(zMJ (w:=wr.drew) hB2 HXL.out (by exact HSL.out) (by omega) HP.out.1 HP.out.2).mono ?_;rintro e4 w4 ⟨rfl,hb4⟩))
      all_goals go_wp2_with fail
      all_goals go_meet
      all_goals exact⟨rfl,rfl,(hS.out.drew hg).below hg hb4⟩
     case rest=>
      obtain⟨h5,h6,hS4⟩:=hcut
      subst h5 h6
      clear hc0 hc1 hf1 hwr hS har
      have hc0:=hS4.out.mv.rd.c0
      have hc1:=hS4.out.mv.rd.c1
      have hf1:=hS4.out.mv.rd.f1
      have har:=zD (HA.out.grown hS4.out.mv.grown hB (Nat.le_of_lt hg))
      cases ok with
      | false=>
       have hz:=zD (show zAS (u.drop k) (j+1)=0 by rw[HAT.out];simp)
       go_wp2_with fail
       go_roundg j
       case measure=>omega
       case rel=>exact⟨congrArg (Value.int .i64) (by omega),by omega,by omega,hS4.out,hsg.out.trans (zDu hz.out)⟩
      | true=>
       have HSV:=zD (HTX.out rfl)
       obtain⟨sf,hsf⟩:∃sf,zBK (asc xs)=sf:=⟨_,rfl⟩
       have hs3:sf=0∨sf=1∨sf=2:=by rw[←hsf];exact zMN _
       have HSF:=zD hsf
       clear hsf
       by_cases h0:sf=0
       · subst h0
         have hz:=zD (show zAS (u.drop k) (j+1)=0 by rw[HAT.out,HSF.out];simp)
         clear hs3
         go_wp2_with (go_at_call 109;refine(zCz HSV.out HSF.out _).mono ?_;rintro e3 w3 ⟨rfl,rfl⟩)
         go_roundg j
         case measure=>omega
         case rel=>exact⟨congrArg (Value.int .i64) (by omega),by omega,by omega,hS4.out,hsg.out.trans (zDu hz.out)⟩
       · have h0b:((sf:Int)==0)=false:=beq_eq_false_iff_ne.2 (by omega)
         by_cases hq2:asc xs=[63,46]
         · have h2:sf=2:=by rw[←HSF.out,hq2];decide
           subst h2
           have hat2:=zD (show zAS (u.drop k) (j+1)=if d=true then 0 else 2 by rw[HAT.out,HSF.out,hq2];cases d<;>rfl)
           obtain rfl:sv=⟨#[63,46]⟩:=by rw[HSV.out,hq2]
           have HQ2:=zD hq2
           clear hq2 h0b h0 hs3
           have HSX:=zD (show zBK [63,46]=2 by decide)
           cases d with
           | true=>
            have hz:=zD (show zAS (u.drop k) (j+1)=0 by rw[hat2.out];rfl)
            go_wp2_with (go_at_call 109;refine(zCz (l:=[63,46]) rfl HSX.out _).mono ?_;rintro e3 w3 ⟨rfl,rfl⟩)
            refine(zAU (j:=2) hS4.out.mv.rd rfl har.out (by omega) hl (by omega) HD.out).mono ?_
            rintro e4 w4 ⟨rfl,m4,hw4⟩
            subst hw4
            go_wp2_with fail
            go_roundg j
            case measure=>omega
            case rel=>exact⟨congrArg (Value.int .i64) (by omega),by omega,by omega,hS4.out.drewN hg m4,hsg.out.trans (zDu hz.out)⟩
           | false=>
            have hz:=zD (show zAS (u.drop k) (j+1)=2 by rw[hat2.out];rfl)
            go_wp2_with (go_at_call 109;refine(zCz (l:=[63,46]) rfl HSX.out _).mono ?_;rintro e3 w3 ⟨rfl,rfl⟩)
            refine(zAU (j:=2) hS4.out.mv.rd rfl har.out (by omega) hl (by omega) HD.out).mono ?_
            rintro e4 w4 ⟨rfl,m4,hw4⟩
            subst hw4
            have hzr:=zD (hS4.out.drewN hg m4).zero
            obtain⟨b0,fb0⟩:=hzr.out.2 0 (by decide)
            obtain⟨b1,fb1⟩:=hzr.out.2 1 (by decide)
            obtain⟨b2,fb2⟩:=hzr.out.2 2 (by decide)
            obtain⟨b3,fb3⟩:=hzr.out.2 3 (by decide)
            obtain⟨b4,fb4⟩:=hzr.out.2 4 (by decide)
            obtain⟨b5,fb5⟩:=hzr.out.2 5 (by decide)
            obtain⟨b6,fb6⟩:=hzr.out.2 6 (by decide)
            obtain⟨b7,fb7⟩:=hzr.out.2 7 (by decide)
            obtain⟨b8,fb8⟩:=hzr.out.2 8 (by decide)
            go_wp2_with (go_at_call 109;refine(zCz (l:=[63,46]) rfl HSX.out _).mono ?_;rintro e3 w3 ⟨rfl,rfl⟩)
            obtain⟨q0,q1,q2,q3,q4,q5,q6,q7,q8⟩:=ze (v0:=.int .i64 0) (v1:=.string ⟨#[]⟩) (v2:=.slice none 0 0) (v3:=.int .i64 0) (v4:=.int .i64 0) (v5:=.bool false) (v6:=.slice none 0 0) (v7:=.int .i64 0) (v8:=.bool false) hzr.out rfl
            refine bodyPost_ret (v:=.tuple #[.agg #[.int .i64 0,.string ⟨#[]⟩,.slice none 0 0,.int .i64 0,.int .i64 0,.bool false,.slice none 0 0,.int .i64 0,.bool false],.int .i64 6]) (by simp[results,Tryz.results72,go_sem,q0,q1,q2,q3,q4,q5,q6,q7,q8]) rfl ?_
            obtain⟨z1,z2,z3⟩:=zHt hsg.out hz.out HQ.out
            subst z1
            exact⟨_,rfl,fun _=>rfl,fun h=>absurd h (by decide),(zy (hS4.out.drewN hg m4).mv (Nat.le_refl _) hg).grown⟩
         · have hat2:=zD (show zAS (u.drop k) (j+1)=sf by rw[HAT.out,HSF.out,decide_eq_false hq2];rfl)
           have hne:(sv.toList==[63,46])=false:=by rw[zZ,HSV.out];exact decide_eq_false hq2
           clear hq2
           have hzr:=zD hS4.out.zero
           obtain⟨b0,fb0⟩:=hzr.out.2 0 (by decide)
           obtain⟨b1,fb1⟩:=hzr.out.2 1 (by decide)
           obtain⟨b2,fb2⟩:=hzr.out.2 2 (by decide)
           obtain⟨b3,fb3⟩:=hzr.out.2 3 (by decide)
           obtain⟨b4,fb4⟩:=hzr.out.2 4 (by decide)
           obtain⟨b5,fb5⟩:=hzr.out.2 5 (by decide)
           obtain⟨b6,fb6⟩:=hzr.out.2 6 (by decide)
           obtain⟨b7,fb7⟩:=hzr.out.2 7 (by decide)
           obtain⟨b8,fb8⟩:=hzr.out.2 8 (by decide)
           by_cases h2:sf=2
           · subst h2
             clear hs3 h0
             go_wp2_with (go_at_call 109;refine(zCz HSV.out HSF.out _).mono ?_;rintro e3 w3 ⟨rfl,rfl⟩)
             obtain⟨q0,q1,q2,q3,q4,q5,q6,q7,q8⟩:=ze (v0:=.int .i64 0) (v1:=.string ⟨#[]⟩) (v2:=.slice none 0 0) (v3:=.int .i64 0) (v4:=.int .i64 0) (v5:=.bool false) (v6:=.slice none 0 0) (v7:=.int .i64 0) (v8:=.bool false) hzr.out rfl
             refine bodyPost_ret (v:=.tuple #[.agg #[.int .i64 0,.string ⟨#[]⟩,.slice none 0 0,.int .i64 0,.int .i64 0,.bool false,.slice none 0 0,.int .i64 0,.bool false],.int .i64 6]) (by simp[results,Tryz.results72,go_sem,q0,q1,q2,q3,q4,q5,q6,q7,q8]) rfl ?_
             obtain⟨z1,z2,z3⟩:=zHt hsg.out hat2.out HQ.out
             subst z1
             exact⟨_,rfl,fun _=>rfl,fun h=>absurd h (by decide),(zy hS4.out.mv (Nat.le_refl _) hg).grown⟩
           · obtain rfl:sf=1:=by omega
             clear hs3 h0 h2
             have hM5:=zD (Mv.step hS4.out.mv (k':=k+(j+1)) (z:=(k:Int)+((j:Int)+1)) (by omega))
             go_wp2_with (go_at_call 109;refine(zCz HSV.out HSF.out _).mono ?_;rintro e3 w3 ⟨rfl,rfl⟩)
             have hzr2:=zD (hzr.out.setOther (S:=g) (i:=1) (by omega) (.int .i64 ((k:Int)+((j:Int)+1))))
             obtain⟨q0,q1,q2,q3,q4,q5,q6,q7,q8⟩:=ze (v0:=.int .i64 5) (v1:=.string sv) (v2:=.slice none 0 0) (v3:=.int .i64 0) (v4:=.int .i64 0) (v5:=.bool false) (v6:=.slice none 0 0) (v7:=.int .i64 0) (v8:=.bool false) hzr2.out rfl
             refine bodyPost_ret (v:=.tuple #[.agg #[.int .i64 5,.string sv,.slice none 0 0,.int .i64 0,.int .i64 0,.bool false,.slice none 0 0,.int .i64 0,.bool false],.int .i64 0]) (by simp[results,Tryz.results72,go_sem,q0,q1,q2,q3,q4,q5,q6,q7,q8]) rfl ?_
             obtain⟨z1,z2,z3⟩:=zQx hsg.out hat2.out HQ.out
             subst z1 z2 z3
             exact⟨_,rfl,fun h=>absurd rfl h,fun _=>⟨⟨_,_,by rw[HSV.out,HXS.out];rfl,World.ownsRow_nil _ _ _ _,World.ownsRow_nil _ _ _ _⟩,zy hM5.out (Nat.le_refl _) hg⟩,(zy hM5.out (Nat.le_refl _) hg).grown⟩
   · have hnn:=zD (show zAs (u.drop k) 4=none by rw[hsg.out,show gk=0 by omega];rfl)
     obtain⟨blk,off,rfl,_,hcell⟩:=har.out.spotL (by omega)
     have hca:=hcell k hk
     have HX:=zD (fun p=>zLY (q:=p) hk)
     obtain⟨x,hx⟩:∃x,u[k]=x:=⟨_,rfl⟩
     rw[hx]at hca HX
     have HE:=zD (zMO hnn.out HQ.out)
     rw[HX.out]at HE
     clear hcell hx
     have hx16:=x.toNat_lt
     by_cases h128:128≤x.toNat
     · have e0:((x.toNat:Int)≥128):=by omega
       have hz:=zD (show 6=e by rw[←HE.out];simp[h128])
       go_wp2_with fail
       go_quiet (fail)
       have hzr:=zD (hS.out.drewN hg nq).zero
       obtain⟨b0,fb0⟩:=hzr.out.2 0 (by decide)
       obtain⟨b1,fb1⟩:=hzr.out.2 1 (by decide)
       obtain⟨b2,fb2⟩:=hzr.out.2 2 (by decide)
       obtain⟨b3,fb3⟩:=hzr.out.2 3 (by decide)
       obtain⟨b4,fb4⟩:=hzr.out.2 4 (by decide)
       obtain⟨b5,fb5⟩:=hzr.out.2 5 (by decide)
       obtain⟨b6,fb6⟩:=hzr.out.2 6 (by decide)
       obtain⟨b7,fb7⟩:=hzr.out.2 7 (by decide)
       obtain⟨b8,fb8⟩:=hzr.out.2 8 (by decide)
       go_wp2
       obtain⟨q0,q1,q2,q3,q4,q5,q6,q7,q8⟩:=ze (v0:=.int .i64 0) (v1:=.string ⟨#[]⟩) (v2:=.slice none 0 0) (v3:=.int .i64 0) (v4:=.int .i64 0) (v5:=.bool false) (v6:=.slice none 0 0) (v7:=.int .i64 0) (v8:=.bool false) hzr.out rfl
       refine bodyPost_ret (v:=.tuple #[.agg #[.int .i64 0,.string ⟨#[]⟩,.slice none 0 0,.int .i64 0,.int .i64 0,.bool false,.slice none 0 0,.int .i64 0,.bool false],.int .i64 6]) (by simp[results,Tryz.results72,go_sem,q0,q1,q2,q3,q4,q5,q6,q7,q8]) rfl ?_
       obtain rfl:=hz.out
       exact⟨_,rfl,fun _=>rfl,fun h=>absurd h (by decide),(zy (hS.out.drewN hg nq).mv (Nat.le_refl _) hg).grown⟩
     · by_cases h96:x.toNat=96
       · have e1:((x.toNat:Int)==96)=true:=by rw[h96];rfl
         have H96:=zD h96
         clear h96
         have hz:=zD (show 6=e by rw[←HE.out];simp[H96.out])
         go_wp2_with fail
         go_quiet (fail)
         have hzr:=zD (hS.out.drewN hg nq).zero
         obtain⟨b0,fb0⟩:=hzr.out.2 0 (by decide)
         obtain⟨b1,fb1⟩:=hzr.out.2 1 (by decide)
         obtain⟨b2,fb2⟩:=hzr.out.2 2 (by decide)
         obtain⟨b3,fb3⟩:=hzr.out.2 3 (by decide)
         obtain⟨b4,fb4⟩:=hzr.out.2 4 (by decide)
         obtain⟨b5,fb5⟩:=hzr.out.2 5 (by decide)
         obtain⟨b6,fb6⟩:=hzr.out.2 6 (by decide)
         obtain⟨b7,fb7⟩:=hzr.out.2 7 (by decide)
         obtain⟨b8,fb8⟩:=hzr.out.2 8 (by decide)
         go_wp2
         obtain⟨q0,q1,q2,q3,q4,q5,q6,q7,q8⟩:=ze (v0:=.int .i64 0) (v1:=.string ⟨#[]⟩) (v2:=.slice none 0 0) (v3:=.int .i64 0) (v4:=.int .i64 0) (v5:=.bool false) (v6:=.slice none 0 0) (v7:=.int .i64 0) (v8:=.bool false) hzr.out rfl
         refine bodyPost_ret (v:=.tuple #[.agg #[.int .i64 0,.string ⟨#[]⟩,.slice none 0 0,.int .i64 0,.int .i64 0,.bool false,.slice none 0 0,.int .i64 0,.bool false],.int .i64 6]) (by simp[results,Tryz.results72,go_sem,q0,q1,q2,q3,q4,q5,q6,q7,q8]) rfl ?_
         obtain rfl:=hz.out
         exact⟨_,rfl,fun _=>rfl,fun h=>absurd h (by decide),(zy (hS.out.drewN hg nq).mv (Nat.le_refl _) hg).grown⟩
       · have e1:((x.toNat:Int)==96)=false:=beq_eq_false_iff_ne.2 (by omega)
         by_cases h92:x.toNat=92
         · have e2:((x.toNat:Int)==92)=true:=by rw[h92];rfl
           have H92:=zD h92
           clear h92 h96
           have hz:=zD (show 6=e by rw[←HE.out];simp[H92.out])
           go_wp2_with fail
           go_quiet (fail)
           have hzr:=zD (hS.out.drewN hg nq).zero
           obtain⟨b0,fb0⟩:=hzr.out.2 0 (by decide)
           obtain⟨b1,fb1⟩:=hzr.out.2 1 (by decide)
           obtain⟨b2,fb2⟩:=hzr.out.2 2 (by decide)
           obtain⟨b3,fb3⟩:=hzr.out.2 3 (by decide)
           obtain⟨b4,fb4⟩:=hzr.out.2 4 (by decide)
           obtain⟨b5,fb5⟩:=hzr.out.2 5 (by decide)
           obtain⟨b6,fb6⟩:=hzr.out.2 6 (by decide)
           obtain⟨b7,fb7⟩:=hzr.out.2 7 (by decide)
           obtain⟨b8,fb8⟩:=hzr.out.2 8 (by decide)
           go_wp2
           obtain⟨q0,q1,q2,q3,q4,q5,q6,q7,q8⟩:=ze (v0:=.int .i64 0) (v1:=.string ⟨#[]⟩) (v2:=.slice none 0 0) (v3:=.int .i64 0) (v4:=.int .i64 0) (v5:=.bool false) (v6:=.slice none 0 0) (v7:=.int .i64 0) (v8:=.bool false) hzr.out rfl
           refine bodyPost_ret (v:=.tuple #[.agg #[.int .i64 0,.string ⟨#[]⟩,.slice none 0 0,.int .i64 0,.int .i64 0,.bool false,.slice none 0 0,.int .i64 0,.bool false],.int .i64 6]) (by simp[results,Tryz.results72,go_sem,q0,q1,q2,q3,q4,q5,q6,q7,q8]) rfl ?_
           obtain rfl:=hz.out
           exact⟨_,rfl,fun _=>rfl,fun h=>absurd h (by decide),(zy (hS.out.drewN hg nq).mv (Nat.le_refl _) hg).grown⟩
         · have e2:((x.toNat:Int)==92)=false:=beq_eq_false_iff_ne.2 (by omega)
           have HNO:=zD (And.intro h128 (And.intro h96 h92))
           clear h96 h92
           by_cases hk0:k=0
           · have e3:((k:Int)==0)=true:=by rw[hk0];rfl
             have HK:=zD (show(k==0)=true by rw[hk0];rfl)
             clear hk0
             obtain⟨b,hb⟩:∃b,zi [35,33] (u.drop k)=b:=⟨_,rfl⟩
             have HB:=zD hb
             clear hb
             cases b with
             | true=>
              have hz:=zD (show 6=e by rw[←HE.out];rw[HB.out,HK.out];simp)
              go_wp2_with fail
              go_quiet (fail)
              go_wp2_with fail
              refine(zAV ⟨#[35,33]⟩ (hS.out.drewN hg nq).mv.rd rfl (har.out.drewN _) (Nat.le_of_lt hk) hl (by decide) HB.out).mono ?_
              rintro e4 w4 ⟨rfl,m4,hw4⟩
              have hS6:=zD (show SgS w w4 g (some ⟨blk,off,none⟩) u.length c k by rw[hw4];exact(hS.out.drewN hg nq).drewN hg m4)
              clear hw4 m4
              have hzr:=zD hS6.out.zero
              obtain⟨b0,fb0⟩:=hzr.out.2 0 (by decide)
              obtain⟨b1,fb1⟩:=hzr.out.2 1 (by decide)
              obtain⟨b2,fb2⟩:=hzr.out.2 2 (by decide)
              obtain⟨b3,fb3⟩:=hzr.out.2 3 (by decide)
              obtain⟨b4,fb4⟩:=hzr.out.2 4 (by decide)
              obtain⟨b5,fb5⟩:=hzr.out.2 5 (by decide)
              obtain⟨b6,fb6⟩:=hzr.out.2 6 (by decide)
              obtain⟨b7,fb7⟩:=hzr.out.2 7 (by decide)
              obtain⟨b8,fb8⟩:=hzr.out.2 8 (by decide)
              go_wp2
              obtain⟨q0,q1,q2,q3,q4,q5,q6,q7,q8⟩:=ze (v0:=.int .i64 0) (v1:=.string ⟨#[]⟩) (v2:=.slice none 0 0) (v3:=.int .i64 0) (v4:=.int .i64 0) (v5:=.bool false) (v6:=.slice none 0 0) (v7:=.int .i64 0) (v8:=.bool false) hzr.out rfl
              refine bodyPost_ret (v:=.tuple #[.agg #[.int .i64 0,.string ⟨#[]⟩,.slice none 0 0,.int .i64 0,.int .i64 0,.bool false,.slice none 0 0,.int .i64 0,.bool false],.int .i64 6]) (by simp[results,Tryz.results72,go_sem,q0,q1,q2,q3,q4,q5,q6,q7,q8]) rfl ?_
              obtain rfl:=hz.out
              exact⟨_,rfl,fun _=>rfl,fun h=>absurd h (by decide),(zy hS6.out.mv (Nat.le_refl _) hg).grown⟩
             | false=>
              have hz:=zD (show 5=e by rw[←HE.out];have:=HNO.out;rw[HB.out,HK.out];simp[this])
              go_wp2_with fail
              go_quiet (fail)
              go_wp2_with fail
              refine(zAV ⟨#[35,33]⟩ (hS.out.drewN hg nq).mv.rd rfl (har.out.drewN _) (Nat.le_of_lt hk) hl (by decide) HB.out).mono ?_
              rintro e4 w4 ⟨rfl,m4,hw4⟩
              have hS6:=zD (show SgS w w4 g (some ⟨blk,off,none⟩) u.length c k by rw[hw4];exact(hS.out.drewN hg nq).drewN hg m4)
              clear hw4 m4
              have hzr:=zD hS6.out.zero
              obtain⟨b0,fb0⟩:=hzr.out.2 0 (by decide)
              obtain⟨b1,fb1⟩:=hzr.out.2 1 (by decide)
              obtain⟨b2,fb2⟩:=hzr.out.2 2 (by decide)
              obtain⟨b3,fb3⟩:=hzr.out.2 3 (by decide)
              obtain⟨b4,fb4⟩:=hzr.out.2 4 (by decide)
              obtain⟨b5,fb5⟩:=hzr.out.2 5 (by decide)
              obtain⟨b6,fb6⟩:=hzr.out.2 6 (by decide)
              obtain⟨b7,fb7⟩:=hzr.out.2 7 (by decide)
              obtain⟨b8,fb8⟩:=hzr.out.2 8 (by decide)
              go_wp2
              obtain⟨q0,q1,q2,q3,q4,q5,q6,q7,q8⟩:=ze (v0:=.int .i64 0) (v1:=.string ⟨#[]⟩) (v2:=.slice none 0 0) (v3:=.int .i64 0) (v4:=.int .i64 0) (v5:=.bool false) (v6:=.slice none 0 0) (v7:=.int .i64 0) (v8:=.bool false) hzr.out rfl
              refine bodyPost_ret (v:=.tuple #[.agg #[.int .i64 0,.string ⟨#[]⟩,.slice none 0 0,.int .i64 0,.int .i64 0,.bool false,.slice none 0 0,.int .i64 0,.bool false],.int .i64 5]) (by simp[results,Tryz.results72,go_sem,q0,q1,q2,q3,q4,q5,q6,q7,q8]) rfl ?_
              obtain rfl:=hz.out
              exact⟨_,rfl,fun _=>rfl,fun h=>absurd h (by decide),(zy hS6.out.mv (Nat.le_refl _) hg).grown⟩
           · have e3:((k:Int)==0)=false:=beq_eq_false_iff_ne.2 (by omega)
             have HK:=zD (show(k==0)=false from beq_eq_false_iff_ne.2 hk0)
             clear hk0
             have hz:=zD (show 5=e by rw[←HE.out];have:=HNO.out;simp[HK.out,this])
             go_wp2_with fail
             go_quiet (fail)
             have hzr:=zD (hS.out.drewN hg nq).zero
             obtain⟨b0,fb0⟩:=hzr.out.2 0 (by decide)
             obtain⟨b1,fb1⟩:=hzr.out.2 1 (by decide)
             obtain⟨b2,fb2⟩:=hzr.out.2 2 (by decide)
             obtain⟨b3,fb3⟩:=hzr.out.2 3 (by decide)
             obtain⟨b4,fb4⟩:=hzr.out.2 4 (by decide)
             obtain⟨b5,fb5⟩:=hzr.out.2 5 (by decide)
             obtain⟨b6,fb6⟩:=hzr.out.2 6 (by decide)
             obtain⟨b7,fb7⟩:=hzr.out.2 7 (by decide)
             obtain⟨b8,fb8⟩:=hzr.out.2 8 (by decide)
             go_wp2
             obtain⟨q0,q1,q2,q3,q4,q5,q6,q7,q8⟩:=ze (v0:=.int .i64 0) (v1:=.string ⟨#[]⟩) (v2:=.slice none 0 0) (v3:=.int .i64 0) (v4:=.int .i64 0) (v5:=.bool false) (v6:=.slice none 0 0) (v7:=.int .i64 0) (v8:=.bool false) hzr.out rfl
             refine bodyPost_ret (v:=.tuple #[.agg #[.int .i64 0,.string ⟨#[]⟩,.slice none 0 0,.int .i64 0,.int .i64 0,.bool false,.slice none 0 0,.int .i64 0,.bool false],.int .i64 5]) (by simp[results,Tryz.results72,go_sem,q0,q1,q2,q3,q4,q5,q6,q7,q8]) rfl ?_
             obtain rfl:=hz.out
             exact⟨_,rfl,fun _=>rfl,fun h=>absurd h (by decide),(zy (hS.out.drewN hg nq).mv (Nat.le_refl _) hg).grown⟩
theorem zFb (x:UInt16) (Z:Nat) (zero:Bool) (w:World) (hz:w.cell? ⟨Z,0,none⟩=some (.bool zero)):Calls Tryz.prog 150 #[.int .u16 (x.toNat:Int),.pointer (some ⟨Z,0,none⟩)] w fun e w'=>e=.returned (.bool (zu zero x))∧w=w':=by
 by_cases h0:x.toNat=46
 · have e0:((x.toNat:Int)==46)=true:=by rw[h0];rfl
   have HR:=zD (show zu zero x=true by unfold zu;rw[h0];cases zero<;>rfl)
   clear h0
   go_enter Tryz.func150,Tryz.ntmps150
   go_wp2
   go_ret
   exact⟨zf HR.out.symm,rfl⟩
 have e0:((x.toNat:Int)==46)=false:=beq_eq_false_iff_ne.2 (by omega)
 by_cases h1:x.toNat=101
 · have e1:((x.toNat:Int)==101)=true:=by rw[h1];rfl
   have HR:=zD (show zu zero x=true by unfold zu;rw[h1];cases zero<;>rfl)
   clear h1
   go_enter Tryz.func150,Tryz.ntmps150
   go_wp2
   go_ret
   exact⟨zf HR.out.symm,rfl⟩
 have e1:((x.toNat:Int)==101)=false:=beq_eq_false_iff_ne.2 (by omega)
 by_cases h2:x.toNat=69
 · have e2:((x.toNat:Int)==69)=true:=by rw[h2];rfl
   have HR:=zD (show zu zero x=true by unfold zu;rw[h2];cases zero<;>rfl)
   clear h2
   go_enter Tryz.func150,Tryz.ntmps150
   go_wp2
   go_ret
   exact⟨zf HR.out.symm,rfl⟩
 have e2:((x.toNat:Int)==69)=false:=beq_eq_false_iff_ne.2 (by omega)
 by_cases h3:x.toNat=95
 · have e3:((x.toNat:Int)==95)=true:=by rw[h3];rfl
   have HR:=zD (show zu zero x=true by unfold zu;rw[h3];cases zero<;>rfl)
   clear h3
   go_enter Tryz.func150,Tryz.ntmps150
   go_wp2
   go_ret
   exact⟨zf HR.out.symm,rfl⟩
 have e3:((x.toNat:Int)==95)=false:=beq_eq_false_iff_ne.2 (by omega)
 by_cases h4:x.toNat=120
 · have e4:((x.toNat:Int)==120)=true:=by rw[h4];rfl
   have HR:=zD (show zu zero x=zero by unfold zu;rw[h4];cases zero<;>rfl)
   clear h4
   go_enter Tryz.func150,Tryz.ntmps150
   go_wp2
   go_ret
   exact⟨zf HR.out.symm,rfl⟩
 have e4:((x.toNat:Int)==120)=false:=beq_eq_false_iff_ne.2 (by omega)
 by_cases h5:x.toNat=88
 · have e5:((x.toNat:Int)==88)=true:=by rw[h5];rfl
   have HR:=zD (show zu zero x=zero by unfold zu;rw[h5];cases zero<;>rfl)
   clear h5
   go_enter Tryz.func150,Tryz.ntmps150
   go_wp2
   go_ret
   exact⟨zf HR.out.symm,rfl⟩
 have e5:((x.toNat:Int)==88)=false:=beq_eq_false_iff_ne.2 (by omega)
 by_cases h6:x.toNat=111
 · have e6:((x.toNat:Int)==111)=true:=by rw[h6];rfl
   have HR:=zD (show zu zero x=zero by unfold zu;rw[h6];cases zero<;>rfl)
   clear h6
   go_enter Tryz.func150,Tryz.ntmps150
   go_wp2
   go_ret
   exact⟨zf HR.out.symm,rfl⟩
 have e6:((x.toNat:Int)==111)=false:=beq_eq_false_iff_ne.2 (by omega)
 by_cases h7:x.toNat=79
 · have e7:((x.toNat:Int)==79)=true:=by rw[h7];rfl
   have HR:=zD (show zu zero x=zero by unfold zu;rw[h7];cases zero<;>rfl)
   clear h7
   go_enter Tryz.func150,Tryz.ntmps150
   go_wp2
   go_ret
   exact⟨zf HR.out.symm,rfl⟩
 have e7:((x.toNat:Int)==79)=false:=beq_eq_false_iff_ne.2 (by omega)
 by_cases h8:x.toNat=98
 · have e8:((x.toNat:Int)==98)=true:=by rw[h8];rfl
   have HR:=zD (show zu zero x=zero by unfold zu;rw[h8];cases zero<;>rfl)
   clear h8
   go_enter Tryz.func150,Tryz.ntmps150
   go_wp2
   go_ret
   exact⟨zf HR.out.symm,rfl⟩
 have e8:((x.toNat:Int)==98)=false:=beq_eq_false_iff_ne.2 (by omega)
 by_cases h9:x.toNat=66
 · have e9:((x.toNat:Int)==66)=true:=by rw[h9];rfl
   have HR:=zD (show zu zero x=zero by unfold zu;rw[h9];cases zero<;>rfl)
   clear h9
   go_enter Tryz.func150,Tryz.ntmps150
   go_wp2
   go_ret
   exact⟨zf HR.out.symm,rfl⟩
 have e9:((x.toNat:Int)==66)=false:=beq_eq_false_iff_ne.2 (by omega)
 have HR:=zD (show zu zero x=false by
  unfold zu
  rw[show(x.toNat==46)=false from beq_eq_false_iff_ne.2 h0,show(x.toNat==101)=false from beq_eq_false_iff_ne.2 h1,show(x.toNat==69)=false from beq_eq_false_iff_ne.2 h2,show(x.toNat==95)=false from beq_eq_false_iff_ne.2 h3,show(x.toNat==120)=false from beq_eq_false_iff_ne.2 h4,show(x.toNat==88)=false from beq_eq_false_iff_ne.2 h5,show(x.toNat==111)=false from beq_eq_false_iff_ne.2 h6,show(x.toNat==79)=false from beq_eq_false_iff_ne.2 h7,show(x.toNat==98)=false from beq_eq_false_iff_ne.2 h8,show(x.toNat==66)=false from beq_eq_false_iff_ne.2 h9]
  cases zero<;>rfl)
 clear h0 h1 h2 h3 h4 h5 h6 h7 h8 h9
 go_enter Tryz.func150,Tryz.ntmps150
 go_wp2
 go_ret
 exact⟨zf HR.out.symm,rfl⟩
theorem zG7 {A:Option Addr} {c g B k j n Z:Nat} {zero:Bool} {u:List UInt16} {w:World} (hz:w.cell? ⟨Z,0,none⟩=some (.bool zero)) (hr:Rd w g A n c k) (hn:u.length=n) (ha:Reads w B 1 A n (zAH u)) (hk:k≤n) (hl:n≤4096) (hj:j≤4096) {q:Bool} (hq:zAx j (zu zero) (u.drop k)=q):
 Calls Tryz.prog 71 #[.pointer (some ⟨g,0,none⟩),.int .i64 (j:Int),.func (.func 150) #[] #[.pointer (some ⟨Z,0,none⟩)]] w fun e w'=>e=.returned (.bool q)∧∃m,w'=w.drewN m:=by
 subst hn
 have hc0:=hr.c0
 have hc1:=hr.c1
 by_cases hin:k+j < u.length
 · have hin2:(k:Int)+(j:Int) < (u.length:Int):=by omega
   have HQ:=zD (show zu zero u[k+j]=q by rw[←hq,zCe hin])
   obtain⟨b,off,rfl,_,hcell⟩:=ha.spotL (by omega)
   have hca:=hcell (k+j) hin
   obtain⟨x,hx⟩:∃x,u[k+j]=x:=⟨_,rfl⟩
   rw[hx]at hca HQ
   have HZ:=zD hz
   clear hcell hq hx hr hz
   go_enter Tryz.func71,Tryz.ntmps71
   go_wp2_with fail
   go_quiet (first | (go_at_call 150;refine Calls.quiet_of_same ((zFb _ _ _ _ (by exact HZ.out)).mono fun _ _ h=>zCg h)))
   go_wp2
   go_ret
   exact⟨zf HQ.out,_,rfl⟩
 · have hin2:¬(k:Int)+(j:Int) < (u.length:Int):=by omega
   have hin3:decide ((k:Int)+(j:Int) < (u.length:Int))=false:=decide_eq_false hin2
   have HQ:=zD (show false=q by rw[←hq,zCL hin])
   clear hin hq hr
   go_enter Tryz.func71,Tryz.ntmps71
   go_wp2_with fail
   go_quiet (fail)
   go_wp2
   go_ret
   exact⟨zf HQ.out,_,rfl⟩
theorem zGO {A:Option Addr} {c g B k n:Nat} {zero:Bool} {u:List UInt16} {w:World} (hr:Rd w g A n c k) (hn:u.length=n) (ha:Reads w B 1 A n (zAH u)) (hB:B≤g) (hk:k≤n) (hl:n≤4096) {q:Bool} (hq:zAx 0 (zu zero) (u.drop k)=q):
 Calls Tryz.prog 105 #[.pointer (some ⟨g,0,none⟩),.bool zero] w fun e w'=>e=.returned (.bool q)∧Below w.heap.size w w':=by
 have HR:=zD (hr.alloc (.cells #[.bool zero] 4))
 have hg:=hr.lt
 have HA:=zD (ha.alloc (Nat.le_trans hB (Nat.le_of_lt hg)) (.cells #[.bool zero] 4))
 have HZ:=zD (show(w.alloc (.cells #[.bool zero] 4)).cell? ⟨w.heap.size,0,none⟩=some (.bool zero) by go_simp)
 have HQ:=zD hq
 clear hr ha hq
 go_enter Tryz.func105,Tryz.ntmps105
 go_wp2_with fail
 refine(zG7 (j:=0) HZ.out HR.out hn HA.out hk hl (by omega) HQ.out).mono ?_
 rintro e1 w1 ⟨rfl,m,hw⟩
 have hb:Below w.heap.size w w1:=by rw[hw];exact zBn ((Below.refl _ w).alloc (Nat.le_refl _) _) m
 clear hw
 go_wp2
 go_ret
 exact⟨rfl,hb⟩
end Go.Proofs.YtlohaclgbfhijaaGreatDoor
