/- Joined for the claim ParseEnds: the parser, the lexer and the trees as they are walked, made short by a program of mine. -/
import Derived.Test.YtlohaclgbfhijaaGreatDoorS24
import Derived.Test.YtlohaclgbfhijaaGreatDoorS25
import Derived.Test.YtlohaclgbfhijaaGreatDoorS02
import Derived.Test.YtlohaclgbfhijaaGreatDoorS12
import Derived.Test.YtlohaclgbfhijaaGreatDoorS01
import Derived.Deep.RegionHeld3
import Derived.Test.YtlohaclgbfhijaaGreatDoorS22
import Derived.Test.YtlohaclgbfhijaaGreatDoorS03
import Derived.Deep.CutBlock
import Derived.Deep.DeepCutAuto
import Derived.Deep.LoopGhost
import Derived.Test.YtlohaclgbfhijaaGreatDoorShelf
import Derived.Lib.SliceRun
import Derived.Test.YtlohaclgbfhijaaGreatDoorS04
set_option maxHeartbeats 16000000
set_option maxRecDepth 1000000
namespace Go.Proofs.YtlohaclgbfhijaaGreatDoor
open Go.RowKit
theorem zNo (u:List UInt16):(zI (zCH u).1 (.program []) ⟨0,0,0⟩).1.size≤1000000:=by
 obtain⟨⟨L,a,e⟩,hL⟩:∃q,zCH u=q:=⟨_,rfl⟩
 rw[hL]
 have h0:(zI [] (.program []) ⟨0,0,0⟩).1.size≤1000000:=by
  have:(zI [] (.program []) ⟨0,0,0⟩).1=trK 1 []:=rfl
  rw[this,zW,zH]
  omega
 by_cases hl:4096 < u.length
 · unfold zCH at hL
   rw[if_pos hl]at hL
   simp only[Prod.mk.injEq]at hL
   rw[←hL.1]
   exact h0
 · by_cases he:e=0
   · subst he
     refine zGv (zEC hL) ?_
     have h1:=zGr (u:=u) (by omega)
     rw[hL]at h1
     exact Nat.le_trans h1 (by omega)
   · have h1:=zPn (u:=u) (by omega) (by rw[hL];exact he)
     rw[hL]at h1
     rw[show(L,a,e).1=[]from h1]
     exact h0
theorem zQH {A:Option Addr} {B n c:Nat} {u:List UInt16} {w:World} (hB:B≤w.heap.size) (hn:u.length=n) (ha:Reads w B 1 A n (zAH u)) (hc:n≤c) (hc2:c≤maxLen) (hT:Tab w):
 Calls Tryz.prog 16 #[.slice A n c] w (ParseQ (zAT u) w):=zNl hB hn ha hc hc2 hT (zNo u)
theorem zDf {A:Option Addr} {B n c m a e:Nat} {u:List UInt16} {ts:List Nd} {w:World} (hB:B≤w.heap.size) (hn:u.length=n) (ha:Reads w B 1 A n (zAH u)) (hc:n≤c) (hc2:c≤maxLen) (hT:Tab w) (hq:zAT u=(ts,a,e)) (hm:ts.length=m):
 Calls Tryz.prog 16 #[.slice A n c] w (fun ev w'=>∃A' c',ev=.returned (.tuple #[.agg #[.slice A' m c'],.int .i64 (a:Int),.int .i64 (e:Int)])∧NdsR w' w'.heap.size A' m ts∧m≤c'∧c'≤maxLen∧Below w.heap.size w w'):=by
 have h:=zQH hB hn ha hc hc2 hT
 rw[hq]at h
 refine h.mono ?_
 rintro ev w' ⟨A',n',c',h1,h2,h3,h4,h5⟩
 have h6:n'=m:=by rw[←hm];exact h2.1.symm
 subst h6
 exact⟨A',c',h1,h2,h3,h4,h5⟩
def exA:List UInt16:=zAg [97,10,43,43,98]
def okA (q:List Nd×Nat×Nat):Bool:=q.2.1==0&&q.2.2==0&&q.1.length==6&&(match q.1[3]? with | some x=>x.kind==3 | none=>false)&&(match q.1[4]? with | some x=>x.kind==44 | none=>false)
theorem zS6:okA (zAT exA)=true:=by decide+kernel
def zFP (u:List UInt16) (a e:Nat):Bool:=(zAT u).1.isEmpty&&(zAT u).2.1==a&&(zAT u).2.2==e
theorem zS7:zFP (zAg [97,32,63,63,32,98,32,124,124,32,99]) 7 5=true:=by decide+kernel
theorem zS8:zFP (zAg [49,32,61,32,50]) 2 5=true:=by decide+kernel
theorem zS9:zFP (zAg [118,97,114,32,120]) 0 6=true:=by decide+kernel
theorem zTA:zFP (zAg [120,32,61,32,47,97,47]) 4 6=true:=by decide+kernel
theorem zDg {u:List UInt16} {a e:Nat} (h:zFP u a e=true):zAT u=([],a,e):=by
 unfold zFP at h
 simp only[Bool.and_eq_true,List.isEmpty_iff,beq_iff_eq]at h
 obtain⟨⟨h1,h2⟩,h3⟩:=h
 obtain⟨⟨x,y,z⟩,hq⟩:∃q,zAT u=q:=⟨_,rfl⟩
 rw[hq]at h1 h2 h3⊢
 simp only at h1 h2 h3
 rw[h1,h2,h3]
theorem zC4 {s:List UInt8} {a e:Nat} {w:World} (hl:s.length≤4000) (hp:zAT (zAg s)=([],a,e)) (hT:Tab w):
 Calls Tryz.prog 33 #[.string ⟨s.toArray⟩,.int .i64 (a:Int),.int .i64 (e:Int)] w fun ev w'=>ev=.returned (.bool true)∧Below w.heap.size w w':=by
 obtain⟨u,hu⟩:∃u,zAg s=u:=⟨_,rfl⟩
 have hul:u.length=s.length:=by rw[←hu];exact zCF s
 rw[hu]at hp
 have HP:=zD hp
 have HT:=zD hT
 have ha:=zC2 s w (by omega)
 rw[hu]at ha
 have HA:=zD ha
 have HUL:=zD hul
 obtain⟨m,hm⟩:∃m,s.length=m:=⟨_,rfl⟩
 rw[hm]at HA HUL
 clear hp hT ha hul hu hl hm
 go_enter Tryz.func33,Tryz.ntmps33
 go_wp2_with fail
 refine HA.out.mono ?_
 rintro ev1 w1 ⟨A,c,rfl,ho,hg⟩
 obtain⟨A',c',e1,h1,h2⟩:=zb ho
 injection e1 with eA _ e3
 subst eA
 subst e3
 have hb1:Below w.heap.size w w1:=⟨hg.os,hg.tape,hg.output,hg.size,fun i hi=>hg.block i hi (by simp)⟩
 have HB1:=zD hb1
 have HQ:=zD (zDf (u:=u) (Nat.le_refl _) HUL.out (Reads.of_own ho) h1 h2 (HT.out.below HT.out.lt hb1) HP.out rfl)
 clear ho hg hb1 HA h1 h2
 go_wp2_with fail
 refine HQ.out.mono ?_
 rintro ev2 w2 ⟨A2,c2,rfl,_,_,_,hb2⟩
 have HB2:=zD (HB1.out.trans (hb2.mono HB1.out.size))
 clear hb2 HQ
 have z1:(w2.alloc (.cells #[.slice A2 ([]:List Nd).length c2] 27)).cell? ⟨w2.heap.size,0,none⟩=some (.slice A2 ([]:List Nd).length c2):=(Bx.new w2 [.slice A2 ([]:List Nd).length c2] 27).cell 0
 go_wp2_with fail
 go_ret
 refine⟨by simp,HB2.out.trans ?_⟩
 exact((Below.refl _ _).alloc (Nat.le_refl _) _:Below w2.heap.size w2 _).mono HB2.out.size
theorem zSU:∃ts x3 x4,zAT exA=(ts,0,0)∧ts.length=6∧ts[3]? =some x3∧x3.kind=3∧ts[4]? =some x4∧x4.kind=44:=by
 have h:=zS6
 obtain⟨⟨ts,a,e⟩,hq⟩:∃q,zAT exA=q:=⟨_,rfl⟩
 rw[hq]at h⊢
 unfold okA at h
 simp only[Bool.and_eq_true,beq_iff_eq]at h
 obtain⟨⟨⟨⟨h1,h2⟩,h3⟩,h4⟩,h5⟩:=h
 cases h6:ts[3]? with
 | none=>rw[h6]at h4;cases h4
 | some x3=>
  cases h7:ts[4]? with
  | none=>rw[h7]at h5;cases h5
  | some x4=>
   rw[h6]at h4
   rw[h7]at h5
   exact⟨ts,x3,x4,by rw[h1,h2],h3,h6,by simpa using h4,h7,by simpa using h5⟩
theorem zKv {w:World} (hT:Tab w):Calls Tryz.prog 15 #[] w fun ev w'=>ev=.returned (.bool true)∧Below w.heap.size w w':=by
 obtain⟨ts,x3,x4,hp,hlen,hx3,hk3,hx4,hk4⟩:=zSU
 obtain⟨u,hu⟩:∃u,exA=u:=⟨_,rfl⟩
 have hul:u.length=5:=by rw[←hu];rfl
 have ha:=zC2 [97,10,43,43,98] w (by decide)
 rw[show zAg [97,10,43,43,98]=u from hu]at ha
 rw[hu]at hp
 have HA:=zD (show Calls Tryz.prog 32 #[.string ⟨#[97,10,43,43,98]⟩] w fun e w'=>∃A c,e=.returned (.slice A 5 c)∧w'.ownsRow 0 24 1 (.slice A 5 c) 5 (zAH u)∧w.grownBy w' none from ha)
 have HP:=zD hp
 have HUL:=zD hul
 have HL:=zD hlen
 have HX3:=zD hx3
 have HX4:=zD hx4
 have HK3:=zD hk3
 have HK4:=zD hk4
 have HT:=zD hT
 clear hp hul hlen hx3 hx4 hk3 hk4 hT ha hu
 go_enter Tryz.func15,Tryz.ntmps15
 go_wp2_with fail
 refine HA.out.mono ?_
 rintro ev1 w1 ⟨A,c,rfl,ho,hg⟩
 obtain⟨A',c',e1,h1,h2⟩:=zb ho
 injection e1 with eA _ e3
 subst eA
 subst e3
 have hb1:Below w.heap.size w w1:=⟨hg.os,hg.tape,hg.output,hg.size,fun i hi=>hg.block i hi (by simp)⟩
 have HB1:=zD hb1
 have HQ:=zD (zDf (u:=u) (Nat.le_refl _) HUL.out (Reads.of_own ho) h1 h2 (HT.out.below HT.out.lt hb1) HP.out HL.out)
 clear ho hg hb1 HA h1 h2
 go_wp2_with fail
 refine HQ.out.mono ?_
 rintro ev2 w2 ⟨A2,c2,rfl,hN,hc2,_,hb2⟩
 have HB2:=zD (HB1.out.trans (hb2.mono HB1.out.size))
 obtain⟨b,o,y3,s3,hA2,hbl,hy3,hc3,_⟩:=hN.get (i:=3) (by decide)
 obtain⟨b',o',y4,s4,hA3,_,hy4,hc4,_⟩:=hN.get (i:=4) (by decide)
 rw[HX3.out]at hy3
 rw[HX4.out]at hy4
 injection hy3 with hy3
 injection hy4 with hy4
 subst hy3 hy4
 rw[hA2]at hA3
 injection hA3 with hA3
 injection hA3 with eb eo _
 subst eb eo hA2
 have q3:=hc3.k0
 have q4:=hc4.k0
 rw[HK3.out]at q3
 rw[HK4.out]at q4
 obtain⟨W3,hW3⟩:∃W3,w2.alloc (.cells #[.slice (some ⟨b,o,none⟩) 6 c2] 27)=W3:=⟨_,rfl⟩
 have hg3:Below w2.heap.size w2 W3:=by rw[←hW3];exact(Below.refl _ _).alloc (Nat.le_refl _) _
 obtain⟨T,hTt⟩:∃T,w2.heap.size=T:=⟨_,rfl⟩
 have HBT:=zD (show Bx W3 T 27 [.slice (some ⟨b,o,none⟩) 6 c2] by rw[←hW3,←hTt];exact Bx.new w2 _ _)
 have r3:W3.cell? ⟨b,o+24,none⟩=some (.int .i64 3):=(hg3.cell (p:=⟨b,o+24,none⟩) hbl).trans q3
 have r4:W3.cell? ⟨b,o+32,none⟩=some (.int .i64 44):=(hg3.cell (p:=⟨b,o+32,none⟩) hbl).trans q4
 have HB3:=zD (HB2.out.trans (hg3.mono HB2.out.size))
 clear hN hc2 hb2 hbl hc3 hc4 q3 q4 hg3 HQ HB1 HB2
 go_upto_region 2 with(fail)
 clear hW3 hTt
 have zT:W3.cell? ⟨T,0,none⟩=some (.slice (some ⟨b,o,none⟩) 6 c2):=HBT.out.cell 0
 have C1:=zD (fun(v:World) (hb:Below w.heap.size w v)=>zC4 (s:=[97,32,63,63,32,98,32,124,124,32,99]) (w:=v) (by decide) (zDg zS7) (HT.out.below HT.out.lt hb))
 have C2:=zD (fun(v:World) (hb:Below w.heap.size w v)=>zC4 (s:=[49,32,61,32,50]) (w:=v) (by decide) (zDg zS8) (HT.out.below HT.out.lt hb))
 have C3:=zD (fun(v:World) (hb:Below w.heap.size w v)=>zC4 (s:=[118,97,114,32,120]) (w:=v) (by decide) (zDg zS9) (HT.out.below HT.out.lt hb))
 have C4:=zD (fun(v:World) (hb:Below w.heap.size w v)=>zC4 (s:=[120,32,61,32,47,97,47]) (w:=v) (by decide) (zDg zTA) (HT.out.below HT.out.lt hb))
 go_wp2_with fail
 refine(C1.out W3 HB3.out).mono ?_
 rintro ea wa ⟨rfl,hba⟩
 have HBa:=zD (HB3.out.trans (hba.mono HB3.out.size))
 clear hba
 go_wp2_with fail
 refine(C2.out wa HBa.out).mono ?_
 rintro eb wb ⟨rfl,hbb⟩
 have HBb:=zD (HBa.out.trans (hbb.mono HBa.out.size))
 clear hbb
 go_wp2_with fail
 refine(C3.out wb HBb.out).mono ?_
 rintro ec wc ⟨rfl,hbc⟩
 have HBc:=zD (HBb.out.trans (hbc.mono HBb.out.size))
 clear hbc
 go_wp2_with fail
 refine(C4.out wc HBc.out).mono ?_
 rintro ed wd ⟨rfl,hbd⟩
 have HBd:=zD (HBc.out.trans (hbd.mono HBc.out.size))
 clear hbd
 go_wp2_with fail
 go_ret
 exact⟨rfl,HBd.out⟩
def BmP (q:Bool) (w:World) (e:Ending) (w':World):Prop:=e=.returned (.bool q)∧Below w.heap.size w w'
theorem BmP.of {p q:Bool} {w w':World} {e:Ending} (h:p=q) (hh:BmP p w e w'):BmP q w e w':=h▸hh
def OrdAt (ts:List Nd) (N k:Nat) (st:List Int):Prop:=zDO ts=zAt N k (ts.drop k) (if k=0 then [0]else st)∧(k=0→st=[])
theorem OrdAt.none_ {ts:List Nd} {N k:Nat} (h:OrdAt ts N k []) (hk:0 < k) {x:Nd} (hx:ts[k]? =some x):zDO ts=false:=by
 obtain⟨hl,rfl⟩:=List.getElem?_eq_some_iff.1 hx
 rw[h.1,if_neg (by omega),List.drop_eq_getElem_cons hl];rfl
theorem OrdAt.bad {ts:List Nd} {N k:Nat} {s:Int} {st:List Int} (h:OrdAt ts N k (s::st)) (hs:s≠(k:Int)) {x:Nd} (hx:ts[k]? =some x):zDO ts=false:=by
 have hk:k≠0:=fun e=>by have:=h.2 e;cases this
 obtain⟨hl,rfl⟩:=List.getElem?_eq_some_iff.1 hx
 rw[h.1,if_neg hk,List.drop_eq_getElem_cons hl,zCb,beq_eq_false_iff_ne.2 hs];rfl
def OrdIn (ts:List Nd) (N k:Nat) (x:Nd) (st:List Int):Prop:=zDO ts=(zDz N k x.kids&&zAt N (k+1) (ts.drop (k+1)) (x.kids++st))
theorem OrdAt.zero {ts:List Nd} {N:Nat} {x:Nd} {st:List Int} (h:OrdAt ts N 0 st) (hx:ts[0]? =some x):st=[]∧OrdIn ts N 0 x []:=by
 obtain⟨hl,rfl⟩:=List.getElem?_eq_some_iff.1 hx
 refine⟨h.2 rfl,?_⟩
 unfold OrdIn
 rw[h.1,if_pos rfl,List.drop_eq_getElem_cons hl,zCb]
 simp
theorem OrdIn.bad {ts:List Nd} {N k:Nat} {x:Nd} {st:List Int} (h:OrdIn ts N k x st) {j:Nat} (hj:j < x.kids.length) (hb:¬((k:Int) < x.kids[j]∧x.kids[j] < (N:Int))):zDO ts=false:=by
 rw[h]
 have:zDz N k x.kids=false:=by
  unfold zDz
  rw[List.all_eq_false]
  exact⟨x.kids[j],List.getElem_mem hj,by simpa using hb⟩
 rw[this];rfl
theorem OrdIn.done {ts:List Nd} {N k:Nat} {x:Nd} {st:List Int} (h:OrdIn ts N k x st) (hk:zDz N k x.kids=true):OrdAt ts N (k+1) (x.kids++st):=by
 refine⟨?_,fun e=>by omega⟩
 rw[h,hk,if_neg (by omega)];rfl
def AtTxt (v0 v:Nat) (ls:List UInt8):Prop:=zEG v0=(if v=0 then []else zEG v)++ls.reverse
theorem AtTxt.start {v0:Nat} (h:v0≠0):AtTxt v0 v0 []:=by unfold AtTxt;rw[if_neg h];simp
theorem AtTxt.step {v0 v:Nat} {ls:List UInt8} (h:AtTxt v0 v ls) (hv:v≠0):AtTxt v0 (v / 10) (ls++[chr (48+v % 10)]):=by
 unfold AtTxt at h⊢
 rw[if_neg hv]at h
 rw[h,List.reverse_append]
 by_cases h10:v < 10
 · rw[zFU h10,if_pos (by omega),show v % 10=v by omega];rfl
 · rw[zGz h10,if_neg (by omega)];simp
theorem AtTxt.done {v0:Nat} {ls:List UInt8} (h:AtTxt v0 0 ls):ls.reverse=zEG v0:=by
 unfold AtTxt at h;rw[h];rfl
theorem AtTxt.len {v0 v:Nat} {ls:List UInt8} (h:AtTxt v0 v ls):ls.length≤(zEG v0).length:=by
 unfold AtTxt at h;rw[h,List.length_append,List.length_reverse];omega
structure AtDiv (ms:List Nat) (k r:Nat) (cs:List Nat):Prop where
 len:cs.length=ms.length
 low:cs.take k=ms.take k
 rest:r≤9
 val:zDE (ms.drop k)=10*zDE (cs.drop k)+r
 lt:∀x∈cs,x < 4294967296
theorem AtDiv.start {ms:List Nat} (h:∀x∈ms,x < 4294967296):AtDiv ms ms.length 0 ms:=⟨rfl,rfl,by omega,by rw[List.drop_length];rfl,h⟩
theorem AtDiv.get {ms cs:List Nat} {k r:Nat} (h:AtDiv ms (k+1) r cs) (hk:k < ms.length):cs[k]'(by rw[h.len];exact hk)=ms[k]:=by
 have h1:=congrArg (fun l=>l[k]?) h.low
 simp only[List.getElem?_take,if_pos (Nat.lt_succ_self k)]at h1
 rw[List.getElem?_eq_getElem (by rw[h.len];exact hk),List.getElem?_eq_getElem hk]at h1
 exact Option.some.inj h1
theorem AtDiv.step {ms cs:List Nat} {k r:Nat} (h:AtDiv ms (k+1) r cs) (hk:k < ms.length):AtDiv ms k ((r*4294967296+ms[k]) % 10) (cs.set k ((r*4294967296+ms[k]) / 10)):=by
 have hkc:k < cs.length:=by rw[h.len];exact hk
 have hx:ms[k] < 4294967296:=by rw[←h.get hk];exact h.lt _ (List.getElem_mem _)
 have hr:=h.rest
 refine⟨by simp[h.len],?_,by omega,?_,?_⟩
 · rw[List.take_set_of_le (Nat.le_refl k)]
   have:=congrArg (List.take k) h.low
   rwa [List.take_take,List.take_take,Nat.min_eq_left (by omega)]at this
 · have hv:=h.val
   rw[List.drop_eq_getElem_cons hk,zDE,hv,List.drop_set,if_neg (by omega),Nat.sub_self,List.drop_eq_getElem_cons hkc,List.set_cons_zero,zDE]
   omega
 · intro x hm
   rcases List.mem_or_eq_of_mem_set hm with hm | rfl
   · exact h.lt x hm
   · omega
theorem AtDiv.done {ms cs:List Nat} {r:Nat} (h:AtDiv ms 0 r cs):zDE ms=10*zDE cs+r∧r≤9:=by
 have:=h.val
 simp only[List.drop_zero]at this
 exact⟨this,h.rest⟩
theorem zQI {w:World} {base base' n size:Nat} {e:TypeId} {v:Value} {xs:List Value} (h:w.ownsRow base e size v n xs) (hb:base'≤base):w.ownsRow base' e size v n xs:=by
 refine⟨h.1,?_⟩
 rcases h.2 with h1 | ⟨g,cap,cur,h1,h2,h3⟩
 · exact .inl h1
 · exact .inr ⟨g,cap,cur,h1,Nat.le_trans hb h2,h3⟩
theorem zKw {A:Option Addr} {B n c:Nat} {xs:List Int} {w:World} (hn:xs.length=n) (ha:Reads w B 1 A n (zD2 xs)) (hl:n≤1000000):
 Calls Tryz.prog 38 #[.slice A n c] w fun e w'=>∃v,e=.returned v∧Made w w' 3 v (zD2 xs):=by
 rcases Nat.eq_zero_or_pos n with h0 | h0
 · subst h0
   have hx:xs=[]:=List.eq_nil_of_length_eq_zero hn
   subst hx
   cases A with
   | none=>
    refine(Tryz.slices_Clone_int_nil 0 c w).mono ?_
    rintro e w' ⟨rfl,rfl⟩
    exact⟨_,rfl,Made.nil _ _⟩
   | some a=>
    refine(Tryz.slices_Clone_int_zero a c w).mono ?_
    rintro e w' ⟨v',rfl,ho,_,hb⟩
    exact⟨v',rfl,ho,hb⟩
 · obtain⟨b,o,rfl,_,hc⟩:=ha.spotR h0
   refine(Tryz.slices_Clone_int b o n c xs w (by omega) (by omega) (fun j hj=>?_)).mono ?_
   · have:=hc j (.int .i64 xs[j]) (by simp[zD2,List.getElem?_eq_getElem hj])
     rw[this]
     simp[List.getD,hj]
   · rintro e w' ⟨v',rfl,ho,_,hb⟩
     refine⟨v',rfl,?_,hb⟩
     rw[List.take_of_length_le (by omega)]at ho
     rw[zHj,hn]
     exact ho
theorem zQJ {A:Option Addr} {c B n k:Nat} {ts:List Nd} {x:Nd} {w:World} (hN:NdsR w B A n ts) (hB:B≤w.heap.size) (hk:k < n) (hx:ts[k]? =some x) (hl:x.kids.length≤1000000):
 Calls Tryz.prog 18 #[.agg #[.slice A n c],.int .i64 (k:Int)] w fun e w'=>∃v,e=.returned v∧Made w w' 3 v (zD2 x.kids):=by
 obtain⟨b,o,x',s,rfl,hbB,hx',hC,hR⟩:=hN.get hk
 obtain rfl:x=x':=Option.some.inj (hx.symm.trans hx')
 have k7:=hC.k7
 have hbw:b < w.heap.size:=by omega
 have CC:=zD (fun(W:World) (hb:Below w.heap.size w W)=>zKw (c:=s.ck) rfl (hR.kids.below (hb.mono hB)) hl)
 have h1:¬(n:Int)≤(k:Int):=by omega
 have h2:¬(k:Int) < 0:=by omega
 have h3:(k:Int) < (n:Int):=by omega
 obtain⟨L,hL⟩:∃L,x.kids.length=L:=⟨_,rfl⟩
 rw[hL]at k7
 have CC2:=zD (show∀(W:World),Below w.heap.size w W→Calls Tryz.prog 38 #[.slice s.Ak L s.ck] W fun e w'=>∃v,e=.returned v∧Made W w' 3 v (zD2 x.kids)from by rw[←hL];exact CC.out)
 clear hN hx hx' hC hR CC hl hL
 go_enter Tryz.func18,Tryz.ntmps18
 go_wp2_with fail
 refine(CC2.out _ ((Below.refl _ _).alloc (Nat.le_refl _) _)).mono ?_
 rintro e1 w1 ⟨v,rfl,hm⟩
 have HM:=zD (show Made w w1 3 v (zD2 x.kids)from⟨zQI hm.own (by simp),((Below.refl w.heap.size w).alloc (Nat.le_refl _) _).trans (hm.below.mono (by simp))⟩)
 clear hm
 go_wp2_with fail
 go_ret
 exact⟨v,rfl,HM.out⟩
theorem zFu {A:Option Addr} {c B n k:Nat} {ts:List Nd} {w:World} (hN:NdsR w B A n ts) (hB:B≤w.heap.size) (h0:0 < n) (hk:zCV ts=k) (hl:k≤1000000):
 Calls Tryz.prog 18 #[.agg #[.slice A n c],.int .i64 0] w fun e w'=>∃A' c',e=.returned (.slice A' k c')∧Below w.heap.size w w':=by
 obtain⟨x,hx⟩:∃x,ts[0]? =some x:=⟨_,List.getElem?_eq_getElem (by rw[hN.1];exact h0)⟩
 have hkx:x.kids.length=k:=by
  rw[←hk]
  unfold zCV atN
  rw[List.getD_eq_getElem?_getD,show(0:Int).toNat=0 from rfl,hx]
  rfl
 refine(zQJ (k:=0) hN hB h0 hx (by omega)).mono ?_
 rintro e w' ⟨v,rfl,hm⟩
 obtain⟨A',c',rfl,_,_⟩:=zb hm.own
 rw[zHj,hkx]
 exact⟨A',c',rfl,hm.below⟩
theorem zAq {a b c:World} (h:Below a.heap.size a b) (k:Below b.heap.size b c):Below a.heap.size a c:=h.trans (k.mono h.size)
theorem zDw (u:List UInt16):(zAT u).1.length≤4096:=by
 unfold zAT
 simp only
 split
 · simp
 · split
   · simp
   · split
     · simp
     · split
       · simp
       · rw[flatT_len]
         omega
theorem zIK:(l:List Tr)→l.length≤sizes l
 | []=>by simp
 | x::l=>by
  rw[zG,List.length_cons]
  have:=zIK l
  obtain⟨y,m⟩:=x
  rw[zN]
  omega
theorem zDL (u:List UInt16):zCV (zAT u).1≤4096:=by
 unfold zAT
 simp only
 have h0:zCV []=0:=rfl
 split
 · rw[h0];omega
 · split
   · rw[h0];omega
   · split
     · rw[h0];omega
     · split
       · rw[h0];omega
       · rename_i h1 _
         generalize zI (zCH u).1 (Ph.program []) ⟨0,0,0⟩=r at h1⊢
         obtain⟨⟨x,l⟩,q⟩:=r
         simp only at h1⊢
         rw[zC3]
         rw[zN]at h1
         have:=zIK l
         omega
theorem zFv (A:Option Addr) (c:Nat) (u:List UInt16) (hc:u.length≤c) (hm:c≤maxLen) (A':Option Addr) (c':Nat) (v:List UInt16) (hc':v.length≤c') (hm':c'≤maxLen) (w:World) (hr:Reads w w.heap.size 1 A u.length (zAH u)) (hr':Reads w w.heap.size 1 A' v.length (zAH v)) (hT:Tab w):
 Calls Tryz.prog 3 #[.slice A u.length c,.slice A' v.length c'] w fun e w'=>e=.returned (.bool true)∧Below w.heap.size w w':=by
 have HT:=zD hT
 have CF:=zD (fun(x:World) (hb:Below w.heap.size w x)=>zKv (HT.out.below HT.out.lt hb))
 clear hT
 by_cases hlong:2000 < u.length
 · have h2:(2000:Int) < (u.length:Int):=by omega
   go_enter Tryz.func3,Tryz.ntmps3
   go_wp2_with fail
   refine(CF.out w (Below.refl _ _)).mono ?_
   rintro e w1 ⟨rfl,hb1⟩
   have HB1:=zD hb1
   clear hb1
   go_wp2_with fail
   refine(CF.out w1 HB1.out).mono ?_
   rintro e w2 ⟨rfl,hb2⟩
   have HB2:=zD hb2
   clear hb2
   go_wp2_with fail
   go_ret
   exact⟨rfl,zAq HB1.out HB2.out⟩
 have hl:u.length≤2000:=by omega
 by_cases hlong2:2000 < v.length
 · have h2:(2000:Int) < (v.length:Int):=by omega
   have h3:decide ((2000:Int) < (u.length:Int))=false:=decide_eq_false (by omega)
   go_enter Tryz.func3,Tryz.ntmps3
   go_wp2_with fail
   refine(CF.out w (Below.refl _ _)).mono ?_
   rintro e w1 ⟨rfl,hb1⟩
   have HB1:=zD hb1
   clear hb1
   go_wp2_with fail
   refine(CF.out w1 HB1.out).mono ?_
   rintro e w2 ⟨rfl,hb2⟩
   have HB2:=zD hb2
   clear hb2
   go_wp2_with fail
   go_ret
   exact⟨rfl,zAq HB1.out HB2.out⟩
 have hl2:v.length≤2000:=by omega
 have h3u:decide ((2000:Int) < (u.length:Int))=false:=decide_eq_false (by omega)
 have h3v:decide ((2000:Int) < (v.length:Int))=false:=decide_eq_false (by omega)
 by_cases hash:∃x r,v=x::r∧x.toNat=35
 · obtain⟨x,r,rfl,hx⟩:=hash
   obtain⟨blk,off,rfl,hblk,hcell⟩:=hr'.spotL (by simp)
   have hca:=hcell 0 (by simp)
   simp only[List.getElem_cons_zero,Nat.add_zero]at hca
   have e35:((x.toNat:Int)==35)=true:=by rw[hx];rfl
   have hlen:0 < (x::r).length:=by simp
   obtain⟨n,hn⟩:∃n,(x::r).length=n:=⟨_,rfl⟩
   rw[hn]at hl2 hlen h3v⊢
   clear hr hr' hcell hx hlong hlong2 hc' hn
   go_enter Tryz.func3,Tryz.ntmps3
   go_wp2_with fail
   refine(CF.out w (Below.refl _ _)).mono ?_
   rintro e w1 ⟨rfl,hb1⟩
   have hcb:w1.cell? ⟨blk,off,none⟩=some (.int .u16 (x.toNat:Int)):=(hb1.cell (p:=⟨blk,off,none⟩) hblk).trans hca
   have HB1:=zD hb1
   clear hca hb1
   go_wp2_with fail
   refine(CF.out w1 HB1.out).mono ?_
   rintro e w2 ⟨rfl,hb2⟩
   have HB2:=zD hb2
   clear hb2
   go_wp2_with fail
   go_ret
   exact⟨rfl,zAq HB1.out HB2.out⟩
 obtain⟨i0,hi0,hz0,hz1,hz2⟩:=info_parts Tryz.info_u16
 have hno:∀x r,v=x::r→x.toNat≠35:=fun x r h h2=>hash ⟨x,r,h,h2⟩
 obtain⟨⟨ta,p1,e1⟩,hq⟩:∃q,zAT u=q:=⟨_,rfl⟩
 obtain⟨⟨tb,p2,e2⟩,hq2⟩:∃q,zAT v=q:=⟨_,rfl⟩
 obtain⟨J,hJ⟩:∃J,u++10::59::10::v=J:=⟨_,rfl⟩
 obtain⟨⟨tc,p3,e3⟩,hq3⟩:∃q,zAT J=q:=⟨_,rfl⟩
 have hln:=zDw u
 have hln2:=zDw v
 have hln3:=zDw J
 have hkn:=zDL u
 have hkn2:=zDL v
 have hkn3:=zDL J
 rw[hq]at hln
 rw[hq2]at hln2
 rw[hq3]at hln3
 rw[hq]at hkn
 rw[hq2]at hkn2
 rw[hq3]at hkn3
 have hal:J.length=u.length+3+v.length:=by rw[←hJ];simp;omega
 have hE:=fun(h1:e1=0) (h2:e2=0) (hn:ta.length+tb.length < 4096)=>zP4 (u:=u) (v:=v) (ta:=ta) (tb:=tb) (a1:=p1) (a2:=p2) hno hl hl2 (by rw[hq,h1]) (by rw[hq2,h2]) hn
 rw[hJ,hq3]at hE
 obtain⟨na,hna⟩:∃N,ta.length=N:=⟨_,rfl⟩
 obtain⟨nb,hnb⟩:∃N,tb.length=N:=⟨_,rfl⟩
 obtain⟨nc,hnc⟩:∃N,tc.length=N:=⟨_,rfl⟩
 obtain⟨ka,hka⟩:∃N,zCV ta=N:=⟨_,rfl⟩
 obtain⟨kb,hkb⟩:∃N,zCV tb=N:=⟨_,rfl⟩
 obtain⟨kc,hkc⟩:∃N,zCV tc=N:=⟨_,rfl⟩
 have hE':e1=0→e2=0→na+nb < 4096→∃more,e3=0∧more≤1∧nc+1=na+nb+more∧kc=ka+kb+more∧0 < na∧0 < nb∧0 < nc:=by
  intro h1 h2 hn
  obtain⟨tc',more,g1,g2,g3,g4,g5,g6,g7⟩:=hE h1 h2 (by rw[hna,hnb];exact hn)
  simp only[Prod.mk.injEq]at g1
  obtain⟨g1,_,g1'⟩:=g1
  subst g1
  rw[hna]at g3 g5
  rw[hnb]at g3 g6
  rw[hnc]at g3 g7
  rw[hka,hkb,hkc]at g4
  exact⟨more,g1',g2,g3,g4,g5,g6,g7⟩
 simp only at hln hln2 hln3 hkn hkn2 hkn3
 rw[hna]at hln
 rw[hnb]at hln2
 rw[hnc]at hln3
 rw[hka]at hkn
 rw[hkb]at hkn2
 rw[hkc]at hkn3
 have HE:=zD hE'
 have HQ:=zD hq
 have HQ2:=zD hq2
 have HQ3:=zD hq3
 have HNA:=zD hna
 have HNB:=zD hnb
 have HNC:=zD hnc
 have HKA:=zD hka
 have HKB:=zD hkb
 have HKC:=zD hkc
 have HJ:=zD hJ
 have HAL:=zD hal
 have HR:=zD hr
 have HR':=zD hr'
 have hx0:∀(h:0 < v.length),((v[0].toNat:Int)==35)=false:=fun h=>beq_eq_false_iff_ne.2 (by
  have:=hno v[0] (v.drop 1) (by rw[←List.drop_eq_getElem_cons h];rfl)
  omega)
 have HX0:=zD hx0
 clear hlong hlong2 hash hno hq hq2 hq3 hE hE' hna hnb hnc hka hkb hkc hJ hal hr hr' hx0
 go_enter Tryz.func3,Tryz.ntmps3
 go_wp2_with fail
 refine(CF.out w (Below.refl _ _)).mono ?_
 rintro e w1 ⟨rfl,hb1⟩
 have HB1:=zD hb1
 have HR1:=zD (HR.out.below hb1)
 have HR1':=zD (HR'.out.below hb1)
 have hs1:w.heap.size≤w1.heap.size:=hb1.size
 clear hb1 HR HR'
 go_upto_region 3 with(fail)
 go_cut [37] (fun v wx=>v=.bool false∧w1=wx)
 case first=>
  by_cases h0:0 < v.length
  · obtain⟨blk,off,rfl,_,hcell⟩:=HR1'.out.spotL h0
    have hca:=hcell 0 h0
    simp only[Nat.add_zero]at hca
    have e35:=HX0.out h0
    obtain⟨x,hx⟩:∃x,v[0]=x:=⟨_,rfl⟩
    rw[hx]at hca e35
    clear hcell hx
    go_wp2_with fail
    go_meet
    exact⟨by first | rfl | (simp only[h3u,h3v];rfl),rfl⟩
  · have hz:v.length=0:=by omega
    have HZ:=zD hz
    clear hz
    go_wp2_with fail
    go_meet
    exact⟨by first | rfl | (simp only[h3u,h3v];rfl),rfl⟩
 case rest=>
  obtain⟨hv,hwx⟩:=hcut
  subst hv hwx
  go_wp2_with fail
  refine(zDf (w:=w1) (B:=w.heap.size) hs1 rfl HR1.out hc hm (HT.out.below HT.out.lt HB1.out) HQ.out HNA.out).mono ?_
  rintro e w2 ⟨A2,c2,rfl,hN2,hc2,hm2,hb2⟩
  have HB2:=zD (zAq HB1.out hb2)
  have HR2:=zD (HR1.out.below (hb2.mono hs1))
  have HR2':=zD (HR1'.out.below (hb2.mono hs1))
  obtain⟨W2,hW2⟩:∃W2,w2.alloc (.cells #[.slice A2 na c2] 27)=W2:=⟨_,rfl⟩
  have hg2:Below w2.heap.size w2 W2:=by rw[←hW2];exact(Below.refl _ _).alloc (Nat.le_refl _) _
  obtain⟨T,hTt⟩:∃T,w2.heap.size=T:=⟨_,rfl⟩
  have HBT:=zD (show Bx W2 T 27 [.slice A2 na c2] by rw[←hW2,←hTt];exact Bx.new w2 _ _)
  have HBW2:=zD (zAq HB2.out hg2)
  have HRW2:=zD (HR2.out.below (hg2.mono HB2.out.size))
  have HRW2':=zD (HR2'.out.below (hg2.mono HB2.out.size))
  have HN2:=zD ((hN2.below hg2).more hg2.size)
  have hsW2:w.heap.size≤W2.heap.size:=HBW2.out.size
  have HTlt:=zD (show T < W2.heap.size from HBT.out.lt)
  have hwle:w.heap.size≤T:=by rw[←hTt];exact HB2.out.size
  clear hb2 hN2 HR1 HR1' hg2 HB2 HR2 HR2'
  go_upto_region 6 with(fail)
  clear hW2 hTt
  go_wp2_with fail
  refine(zDf (w:=W2) (B:=w.heap.size) hsW2 rfl HRW2'.out hc' hm' (HT.out.below HT.out.lt HBW2.out) HQ2.out HNB.out).mono ?_
  rintro e w3 ⟨A3,c3,rfl,hN3,hc3,hm3,hb3⟩
  have HB3:=zD (zAq HBW2.out hb3)
  have HR3:=zD (HRW2.out.below (hb3.mono hsW2))
  have HR3':=zD (HRW2'.out.below (hb3.mono hsW2))
  obtain⟨W3,hW3⟩:∃W3,w3.alloc (.cells #[.slice A3 nb c3] 27)=W3:=⟨_,rfl⟩
  have hg3:Below w3.heap.size w3 W3:=by rw[←hW3];exact(Below.refl _ _).alloc (Nat.le_refl _) _
  obtain⟨T3,hTt3⟩:∃T,w3.heap.size=T:=⟨_,rfl⟩
  have HBT3:=zD (show Bx W3 T3 27 [.slice A3 nb c3] by rw[←hW3,←hTt3];exact Bx.new w3 _ _)
  have hb23:Below W2.heap.size W2 W3:=zAq hb3 hg3
  have HBW3:=zD (zAq HB3.out hg3)
  have HRW3:=zD (HR3.out.below (hg3.mono HB3.out.size))
  have HRW3':=zD (HR3'.out.below (hg3.mono HB3.out.size))
  have HN23:=zD ((HN2.out.below hb23).more hb23.size)
  have HN3:=zD ((hN3.below hg3).more hg3.size)
  have HB23:=zD hb23
  have hsW3:w.heap.size≤W3.heap.size:=HBW3.out.size
  have HTlt3:=zD (show T3 < W3.heap.size from HBT3.out.lt)
  have HW23:=zD (show W2.heap.size≤T3 by rw[←hTt3];exact hb3.size)
  clear hb3 hN3 HRW2 HRW2' hg3 HB3 HR3 HR3' hb23 HN2
  go_upto_region 7 with(fail)
  clear hW3 hTt3
  go_wp2_with fail
  refine(zFa (w:=W3) (B:=w.heap.size) hsW3 HRW3.out (by omega)).mono ?_
  rintro e w4 ⟨v4,rfl,hm4⟩
  have HM4:=zD hm4
  clear hm4
  go_wp2_with (first | (at_builtin;refine zDh rfl _ _ 22 rfl 24 i0 _ 2 Tryz.underlying22 hi0 hz0 hz1 hz2 rfl v4 (zAH u) rfl HM4.out [.int .u16 10,.int .u16 59,.int .u16 10] 3 3 rfl rfl rfl (by rw[zBj];omega) (by omega) ?_;intro v5 w5 hm5;have H5:=zD hm5;clear hm5;have HR5:=zD (HRW3'.out.below (H5.out.below.mono hsW3))) | (at_builtin;refine zE8 rfl _ _ 22 rfl 24 i0 _ 2 Tryz.underlying22 hi0 hz0 hz1 hz2 rfl v5 (zAH u++[.int .u16 10,.int .u16 59,.int .u16 10]) rfl H5.out w.heap.size A' v.length c' (zAH v) rfl HR5.out (zHh _) (by simp[zAH];omega) (by omega) ?_;intro v6 w6 hm6;have H6:=zD (show Made W3 w6 24 v6 (zAH J)from hm6.cells (by rw[←HJ.out];simp[zAH,zRj]));clear hm6))
  obtain⟨A6,c6,rfl,hl6,hx6,hr6⟩:=H6.out.u16
  refine(zDf (w:=w6) (Nat.le_refl _) rfl hr6 hl6 hx6 (HT.out.below HT.out.lt (zAq HBW3.out H6.out.below)) HQ3.out HNC.out).mono ?_
  rintro e w7 ⟨A7,c7,rfl,hN7,hc7,hm7,hb7⟩
  obtain⟨W7,hW7⟩:∃W7,w7.alloc (.cells #[.slice A7 nc c7] 27)=W7:=⟨_,rfl⟩
  have hg7:Below w7.heap.size w7 W7:=by rw[←hW7];exact(Below.refl _ _).alloc (Nat.le_refl _) _
  obtain⟨T7,hTt7⟩:∃T,w7.heap.size=T:=⟨_,rfl⟩
  have HBT7:=zD (show Bx W7 T7 27 [.slice A7 nc c7] by rw[←hW7,←hTt7];exact Bx.new w7 _ _)
  have hb37:Below W3.heap.size W3 W7:=zAq H6.out.below (zAq hb7 hg7)
  have hb27:Below W2.heap.size W2 W7:=zAq HB23.out hb37
  have HBW7:=zD (zAq HBW3.out hb37)
  have HNA7:=zD ((HN23.out.below hb37).more hb37.size)
  have HNB7:=zD ((HN3.out.below hb37).more hb37.size)
  have HNC7:=zD ((hN7.below hg7).more hg7.size)
  have zA:W7.cell? ⟨T,0,none⟩=some (.slice A2 na c2):=(hb27.cell (p:=⟨T,0,none⟩) HTlt.out).trans (HBT.out.cell 0)
  have zB:W7.cell? ⟨T3,0,none⟩=some (.slice A3 nb c3):=(hb37.cell (p:=⟨T3,0,none⟩) HTlt3.out).trans (HBT3.out.cell 0)
  have zC:W7.cell? ⟨T7,0,none⟩=some (.slice A7 nc c7):=HBT7.out.cell 0
  have hd1:T < W7.heap.size:=Nat.lt_of_lt_of_le HTlt.out hb27.size
  have hd2:T3 < W7.heap.size:=Nat.lt_of_lt_of_le HTlt3.out hb37.size
  have hd3:T7 < W7.heap.size:=HBT7.out.lt
  have HZA:=zD zA
  have HZB:=zD zB
  have HZC:=zD zC
  clear zA zB zC hN7 hb7 hg7 hb37 hb27 hl6 hx6 hr6 HBT HBT3 HBT7 HN23 HN3 HM4 H5 HR5 H6 HBW2 HBW3 HRW3 HRW3' HTlt HTlt3 HW23 HB23 HB1
  go_upto_region 8 with(fail)
  clear hW7 hTt7
  have zA:=HZA.out
  have zB:=HZB.out
  have zC:=HZC.out
  have hwn:IntKind.i64.wrap ((na:Int)+(nb:Int))=(na:Int)+(nb:Int):=by rw[IntKind.wrap_i64];omega
  by_cases h1:e1=0
  rotate_left
  · have eE1:((e1:Int) !=0)=true:=by rw[bne_iff_ne];omega
    go_wp2_with fail
    refine(CF.out W7 HBW7.out).mono ?_
    rintro e w8 ⟨rfl,hb8⟩
    have HB8:=zD hb8
    clear hb8
    go_wp2_with fail
    go_ret
    exact⟨rfl,zAq HBW7.out HB8.out⟩
  by_cases h2:e2=0
  rotate_left
  · have eE1:((e1:Int) !=0)=false:=by rw[h1];rfl
    have eE2:((e2:Int) !=0)=true:=by rw[bne_iff_ne];omega
    go_wp2_with fail
    refine(CF.out W7 HBW7.out).mono ?_
    rintro e w8 ⟨rfl,hb8⟩
    have HB8:=zD hb8
    clear hb8
    go_wp2_with fail
    go_ret
    exact⟨rfl,zAq HBW7.out HB8.out⟩
  have eE1:((e1:Int) !=0)=false:=by rw[h1];rfl
  have eE2:((e2:Int) !=0)=false:=by rw[h2];rfl
  by_cases h3:na+nb < 4096
  rotate_left
  · have hge:(4096:Int)≤(na:Int)+(nb:Int):=by omega
    go_wp2_with fail
    refine(CF.out W7 HBW7.out).mono ?_
    rintro e w8 ⟨rfl,hb8⟩
    have HB8:=zD hb8
    clear hb8
    go_wp2_with fail
    go_ret
    exact⟨rfl,zAq HBW7.out HB8.out⟩
  obtain⟨more,g1,g2,g3,g4,g5,g6,g7⟩:=HE.out h1 h2 h3
  subst h1 h2
  subst g1
  have e00:(((0:Nat):Int) !=0)=false:=rfl
  have eA0:((na:Int)==0)=false:=beq_eq_false_iff_ne.2 (by omega)
  have eB0:((nb:Int)==0)=false:=beq_eq_false_iff_ne.2 (by omega)
  have eC0:((nc:Int)==0)=false:=beq_eq_false_iff_ne.2 (by omega)
  obtain⟨nm,hnm⟩:∃m,m+1=na+nb:=⟨na+nb - 1,by omega⟩
  have hlt4:decide ((4096:Int)≤(na:Int)+(nb:Int))=false:=decide_eq_false (by omega)
  have hwm:IntKind.i64.wrap ((na:Int)+(nb:Int) - 1)=(nm:Int):=by rw[IntKind.wrap_i64];omega
  go_upto_region 13 with(fail)
  obtain⟨ks,hks⟩:∃m,ka+kb=m:=⟨_,rfl⟩
  have hws:IntKind.i64.wrap ((ka:Int)+(kb:Int))=(ks:Int):=by rw[IntKind.wrap_i64];omega
  have CKA:=zD (fun(x:World) (hb:Below W7.heap.size W7 x)=>zFu (c:=c2) (HNA7.out.below hb) hb.size (by omega) HKA.out (by omega))
  have CKB:=zD (fun(x:World) (hb:Below W7.heap.size W7 x)=>zFu (c:=c3) (HNB7.out.below hb) hb.size (by omega) HKB.out (by omega))
  have CKC:=zD (fun(x:World) (hb:Below W7.heap.size W7 x)=>zFu (c:=c7) (HNC7.out.below hb) hb.size (by omega) HKC.out (by omega))
  clear HNA7 HNB7 HNC7 HKA HKB HKC
  go_cut [15] (fun v wx=>v=.int .i64 (ks:Int)∧Below W7.heap.size W7 wx)
  case first=>
   go_region_held3 (fun w'=>w'.cell? ⟨T,0,none⟩=some (.slice A2 na c2)∧w'.cell? ⟨T3,0,none⟩=some (.slice A3 nb c3))
    (first | (exact⟨HZA.out,HZB.out⟩) | (exact⟨(h9.cell (p:=⟨T,0,none⟩) hd1).trans HZA.out,(h9.cell (p:=⟨T3,0,none⟩) hd2).trans HZB.out⟩) | (exact⟨(h8.cell (p:=⟨T,0,none⟩) hd1).trans HZA.out,(h8.cell (p:=⟨T3,0,none⟩) hd2).trans HZB.out⟩) | go_keep)
    (first | (go_at_call 18;go_split_ands;(with_reducible refine(CKA.out W7.drew ((Below.refl _ W7).drew)).mono ?_);rintro ea w8 ⟨A8,c8,rfl,hb8⟩;have h8:=(zAq ((Below.refl W7.heap.size W7).drew) hb8)) | (go_at_call 18;go_split_ands;(with_reducible refine(CKB.out W7.drew ((Below.refl _ W7).drew)).mono ?_);rintro ea w8 ⟨A8,c8,rfl,hb8⟩;have h8:=(zAq ((Below.refl W7.heap.size W7).drew) hb8)) | (go_at_call 18;go_split_ands;(with_reducible refine(CKA.out w8 h8).mono ?_);rintro ea w9 ⟨A9,c9,rfl,hb9⟩;have h9:=zAq h8 hb9) | (go_at_call 18;go_split_ands;(with_reducible refine(CKB.out w8 h8).mono ?_);rintro ea w9 ⟨A9,c9,rfl,hb9⟩;have h9:=zAq h8 hb9))
   all_goals go_wp2_with fail
   all_goals go_meet
   all_goals refine⟨?_,h9⟩
   all_goals first | rw[hws] | rfl
  case rest=>
   obtain⟨hv,hbx⟩:=hcut
   subst hv
   have zCf:∀x,Below W7.heap.size W7 x→x.cell? ⟨T7,0,none⟩=some (.slice A7 nc c7):=fun x hb=>(hb.cell (p:=⟨T7,0,none⟩) hd3).trans HZC.out
   have zCx:=zCf _ hbx
   clear zCf
   have HBX:=zD hbx
   have hwk:IntKind.i64.wrap ((kc:Int) - (ks:Int))=(more:Int):=by rw[IntKind.wrap_i64];omega
   clear hbx zA zB zC
   go_wp2_with fail
   refine(CKC.out _ HBX.out).mono ?_
   rintro e w8 ⟨A8,c8,rfl,hb8⟩
   have HB8:=zD (zAq HBX.out hb8)
   clear hb8
   go_wp2_with fail
   refine(CF.out w8 (zAq HBW7.out HB8.out)).mono ?_
   rintro e w9 ⟨rfl,hb9⟩
   have HB9:=zD (zAq HB8.out hb9)
   clear hb9
   have zC9:w9.cell? ⟨T7,0,none⟩=some (.slice A7 nc c7):=(HB9.out.cell (p:=⟨T7,0,none⟩) hd3).trans HZC.out
   have hwq:IntKind.i64.wrap ((nm:Int)+(more:Int))=(nc:Int):=by rw[IntKind.wrap_i64];omega
   have eq9:((nc:Int)==(nc:Int))=true:=by simp
   clear zCx
   obtain rfl | rfl:more=0∨more=1:=by omega
   · have eq0:((nc:Int)==(nm:Int))=true:=by rw[beq_iff_eq];omega
     go_wp2_with fail
     go_ret
     refine⟨?_,zAq HBW7.out HB9.out⟩
     first | (show Ending.returned (.bool ((nc:Int)==(nm:Int)))=Ending.returned (.bool true);rw[eq0]) | rfl
   · have eq0:((nc:Int)==(nm:Int)+1)=true:=by rw[beq_iff_eq];omega
     go_wp2_with fail
     go_ret
     refine⟨?_,zAq HBW7.out HB9.out⟩
     first | (show Ending.returned (.bool ((nc:Int)==(nm:Int)+1))=Ending.returned (.bool true);rw[eq0]) | rfl
end Go.Proofs.YtlohaclgbfhijaaGreatDoor
