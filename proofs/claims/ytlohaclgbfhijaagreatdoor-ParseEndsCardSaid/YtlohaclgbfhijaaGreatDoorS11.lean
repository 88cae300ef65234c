/- Joined for the claim ParseEnds: the parser, the lexer and the trees as they are walked, made short by a program of mine. -/
import Derived.Test.YtlohaclgbfhijaaGreatDoorS10
import Derived.Deep.RegionLaw
import Derived.Deep.LoopGhost
import Derived.Deep.AppendLies
set_option maxHeartbeats 16000000
set_option maxRecDepth 1000000
namespace Go.Proofs.YtlohaclgbfhijaaGreatDoor
open Go.RowKit
theorem zCl {L:List Tok} {s:Ps} {t:Tok} {v:List UInt8} (h:zM L s.k=t):onP L v s=isT t v:=by unfold onP;rw[h]
theorem zBW {C:Pc} {s:Ps} {w:World} (h:Pa C s w):
 Calls Tryz.prog 94 #[.pointer (some ⟨C.g,0,none⟩)] w (zR0 C (zBC C.L s) w):=by
 have HP:=zD h
 obtain⟨⟨kd,tx,st,nk,nn,mg,ps,nl⟩,htk⟩:∃tk,zM C.L s.k=tk:=⟨_,rfl⟩
 have HT:=zD htk
 obtain⟨b0,hb0⟩:∃b,onP C.L [59] s=b:=⟨_,rfl⟩
 obtain⟨b1,hb1⟩:∃b,isT ⟨kd,tx,st,nk,nn,mg,ps,nl⟩ [125]=b:=⟨_,rfl⟩
 have HQ:=zD (show zBC C.L s=if b0=true then stepP s else if(b1 || kd==0 || nl)=true then s else zc C.L s by unfold zBC;rw[hb0,zCl htk,htk,hb1])
 have HB0:=zD hb0
 have HB1:=zD hb1
 clear h hb0 hb1 htk
 go_enter Tryz.func94,Tryz.ntmps94
 go_upto_region 1 with(fail)
 refine(zm HP.out HT.out).mono ?_
 rintro e1 w1 ⟨As,Am,c1,c2,rfl,hs1,hm1,hp1,hg1⟩
 obtain⟨W,hW⟩:∃W,w1.alloc (.cells #[.int .i64 (kd:Int),.string ⟨tx.toArray⟩,.slice As st.length c1,.int .i64 nk,.int .i64 nn,.bool false,.slice Am mg.length c2,.int .i64 (ps:Int),.bool nl] 44)=W:=⟨_,rfl⟩
 have hgW:w1.grownBy W none:=by rw[←hW];exact zL _ _ _
 have HBW:=zD (show Bx W w1.heap.size 44 [.int .i64 (kd:Int),.string ⟨tx.toArray⟩,.slice As st.length c1,.int .i64 nk,.int .i64 nn,.bool false,.slice Am mg.length c2,.int .i64 (ps:Int),.bool nl] by rw[←hW];exact Bx.new w1 [.int .i64 (kd:Int),.string ⟨tx.toArray⟩,.slice As st.length c1,.int .i64 nk,.int .i64 nn,.bool false,.slice Am mg.length c2,.int .i64 (ps:Int),.bool nl] 44)
 have HPW:=zD (hp1.new hgW)
 have HGW:=zD (zF hg1 hgW)
 obtain⟨X,hX⟩:∃X,w1.heap.size=X:=⟨_,rfl⟩
 have hXg:C.g < X:=by rw[←hX];exact hp1.lt
 rw[hX]at HBW
 clear hs1 hm1 hp1 hg1 hgW
 go_upto_region 1 with(fail)
 clear hW
 (try rw[hX])
 clear hX
 go_wp2_with fail
 refine(zAe HPW.out [59] HB0.out).mono ?_
 rintro e2 w2 ⟨rfl,hp2,hg2⟩
 have HP2:=zD hp2
 have HG2:=zD (zF (zAL HGW.out (some C.g)) hg2)
 have HB2:=zD (HBW.out.grown hg2 (by simp;omega))
 clear hp2 hg2 HBW
 obtain⟨z0,z1,z2,z3,z4,z5,z6,z7,z8⟩:=HB2.out.nine
 cases b0 with
 | true=>
  go_wp2_with fail
  refine bodyPost_ret (v:=.tuple #[]) (by simp[results,Tryz.results94,go_sem]) rfl ?_
  rw[HQ.out]
  exact⟨rfl,HP2.out,HG2.out⟩
 | false=>
  go_wp2_with fail
  refine(zCN [125] HB1.out).mono ?_
  rintro e3 w3 ⟨rfl,hg3⟩
  have HP3:=zD (HP2.out.new hg3)
  have HG3:=zD (zF HG2.out (zAL hg3 _))
  have HB3:=zD (HB2.out.grown hg3 (by simp))
  clear hg3 HB2 z0 z1 z2 z3 z4 z5 z6 z7 z8
  obtain⟨z0,z1,z2,z3,z4,z5,z6,z7,z8⟩:=HB3.out.nine
  cases b1 with
  | true=>
   go_wp2_with fail
   refine bodyPost_ret (v:=.tuple #[]) (by simp[results,Tryz.results94,go_sem]) rfl ?_
   rw[HQ.out]
   exact⟨rfl,HP3.out,HG3.out⟩
  | false=>
   by_cases hk:kd=0
   · subst hk
     go_wp2_with fail
     refine bodyPost_ret (v:=.tuple #[]) (by simp[results,Tryz.results94,go_sem]) rfl ?_
     rw[HQ.out]
     exact⟨rfl,HP3.out,HG3.out⟩
   · have e0:((kd:Int)==0)=false:=by rw[beq_eq_false_iff_ne];omega
     have E0:=zD (show(kd==0)=false by rw[beq_eq_false_iff_ne];omega)
     clear hk
     cases nl with
     | true=>
      go_wp2_with fail
      refine bodyPost_ret (v:=.tuple #[]) (by simp[results,Tryz.results94,go_sem]) rfl ?_
      rw[HQ.out,E0.out]
      exact⟨rfl,HP3.out,HG3.out⟩
     | false=>
      go_wp2_with fail
      refine(zx HP3.out).mono ?_
      rintro e4 w4 ⟨rfl,hp4,hg4⟩
      have HP4:=zD hp4
      have HG4:=zD (zF HG3.out hg4)
      clear hp4 hg4
      go_wp2_with fail
      go_end0
      rw[HQ.out,E0.out]
      exact⟨rfl,HP4.out,HG4.out⟩
theorem zGW {C:Pc} {s:Ps} {w:World} (h:Pa C s w) {b:Bool} (hb:zBu C.L s=b):
 Calls Tryz.prog 181 #[.pointer (some ⟨C.g,0,none⟩)] w (zJ3 C s b w):=by
 have HP:=zD h
 obtain⟨⟨kd,tx,st,nk,nn,mg,ps,nl⟩,htk⟩:∃tk,zM C.L s.k=tk:=⟨_,rfl⟩
 have HT:=zD htk
 obtain⟨b0,hb0⟩:∃b,isT ⟨kd,tx,st,nk,nn,mg,ps,nl⟩ [59]=b:=⟨_,rfl⟩
 obtain⟨b1,hb1⟩:∃b,isT ⟨kd,tx,st,nk,nn,mg,ps,nl⟩ [125]=b:=⟨_,rfl⟩
 have HQ:=zD (show b=(nl || kd==0 || b0 || b1) by rw[←hb];unfold zBu;rw[zCl htk,zCl htk,htk,hb0,hb1])
 have HB0:=zD hb0
 have HB1:=zD hb1
 clear h hb0 hb1 htk hb
 go_enter Tryz.func181,Tryz.ntmps181
 go_upto_region 2 with(fail)
 refine(zm HP.out HT.out).mono ?_
 rintro e1 w1 ⟨As,Am,c1,c2,rfl,hs1,hm1,hp1,hg1⟩
 obtain⟨W,hW⟩:∃W,w1.alloc (.cells #[.int .i64 (kd:Int),.string ⟨tx.toArray⟩,.slice As st.length c1,.int .i64 nk,.int .i64 nn,.bool false,.slice Am mg.length c2,.int .i64 (ps:Int),.bool nl] 44)=W:=⟨_,rfl⟩
 have hgW:w1.grownBy W none:=by rw[←hW];exact zL _ _ _
 have HBW:=zD (show Bx W w1.heap.size 44 [.int .i64 (kd:Int),.string ⟨tx.toArray⟩,.slice As st.length c1,.int .i64 nk,.int .i64 nn,.bool false,.slice Am mg.length c2,.int .i64 (ps:Int),.bool nl] by rw[←hW];exact Bx.new w1 [.int .i64 (kd:Int),.string ⟨tx.toArray⟩,.slice As st.length c1,.int .i64 nk,.int .i64 nn,.bool false,.slice Am mg.length c2,.int .i64 (ps:Int),.bool nl] 44)
 have HPW:=zD (hp1.new hgW)
 have HGW:=zD (zF hg1 hgW)
 obtain⟨X,hX⟩:∃X,w1.heap.size=X:=⟨_,rfl⟩
 have hXg:C.g < X:=by rw[←hX];exact hp1.lt
 rw[hX]at HBW
 clear hs1 hm1 hp1 hg1 hgW
 go_upto_region 2 with(fail)
 clear hW
 (try rw[hX])
 clear hX
 obtain⟨z0,z1,z2,z3,z4,z5,z6,z7,z8⟩:=HBW.out.nine
 cases nl with
 | true=>
  go_wp2_with fail
  go_ret
  exact⟨zf (by rw[HQ.out];rfl),HPW.out,HGW.out⟩
 | false=>
  by_cases hk:kd=0
  · subst hk
    go_wp2_with fail
    go_ret
    exact⟨zf (by rw[HQ.out];rfl),HPW.out,HGW.out⟩
  · have e0:((kd:Int)==0)=false:=by rw[beq_eq_false_iff_ne];omega
    have E0:=zD (show(kd==0)=false by rw[beq_eq_false_iff_ne];omega)
    clear hk
    go_wp2_with fail
    refine(zCN [59] HB0.out).mono ?_
    rintro e3 w3 ⟨rfl,hg3⟩
    have HP3:=zD (HPW.out.new hg3)
    have HG3:=zD (zF HGW.out hg3)
    have HB3:=zD (HBW.out.grown hg3 (by simp))
    clear hg3 HBW z0 z1 z2 z3 z4 z5 z6 z7 z8
    obtain⟨z0,z1,z2,z3,z4,z5,z6,z7,z8⟩:=HB3.out.nine
    cases b0 with
    | true=>
     go_wp2_with fail
     go_ret
     exact⟨zf (by rw[HQ.out,E0.out];rfl),HP3.out,HG3.out⟩
    | false=>
     go_wp2_with fail
     refine(zCN [125] HB1.out).mono ?_
     rintro e4 w4 ⟨rfl,hg4⟩
     have HP4:=zD (HP3.out.new hg4)
     have HG4:=zD (zF HG3.out hg4)
     clear hg4
     go_wp2_with fail
     go_ret
     exact⟨zf (by rw[HQ.out,E0.out];rfl),HP4.out,HG4.out⟩
theorem zAZ {w:World} (k:Int) (A:Option Addr) (n c:Nat):
 Calls Tryz.prog 58 #[.int .i64 k,.slice A n c] w fun e w'=>e=.returned (.agg #[.int .i64 k,.string ⟨#[]⟩,.slice none 0 0,.int .i64 0,.int .i64 0,.bool false,.slice none 0 0,.slice none 0 0,.slice A n c])∧w.grownBy w' none:=by
 go_enter Tryz.func58,Tryz.ntmps58
 obtain⟨q0,q1,q2,q3,q4,q5,q6,q7,q8⟩:=(Bx.new w [.int .i64 k,.string ⟨#[]⟩,.slice none 0 0,.int .i64 0,.int .i64 0,.bool false,.slice none 0 0,.slice none 0 0,.slice A n c] 72).nine
 go_wp2_with fail
 refine bodyPost_ret (v:=.agg #[.int .i64 k,.string ⟨#[]⟩,.slice none 0 0,.int .i64 0,.int .i64 0,.bool false,.slice none 0 0,.slice none 0 0,.slice A n c]) (by simp[results,Tryz.results58,go_sem,q0,q1,q2,q3,q4,q5,q6,q7,q8]) rfl ?_
 exact⟨rfl,zL _ _ _⟩
theorem zCE {w:World} (k:Int) (nb:ByteArray) (A:Option Addr) (n c:Nat):
 Calls Tryz.prog 139 #[.int .i64 k,.string nb,.slice A n c] w fun e w'=>e=.returned (.agg #[.int .i64 k,.string nb,.slice none 0 0,.int .i64 0,.int .i64 0,.bool false,.slice none 0 0,.slice none 0 0,.slice A n c])∧w.grownBy w' none:=by
 go_enter Tryz.func139,Tryz.ntmps139
 obtain⟨q0,q1,q2,q3,q4,q5,q6,q7,q8⟩:=(Bx.new w [.int .i64 k,.string nb,.slice none 0 0,.int .i64 0,.int .i64 0,.bool false,.slice none 0 0,.slice none 0 0,.slice A n c] 72).nine
 go_wp2_with fail
 refine bodyPost_ret (v:=.agg #[.int .i64 k,.string nb,.slice none 0 0,.int .i64 0,.int .i64 0,.bool false,.slice none 0 0,.slice none 0 0,.slice A n c]) (by simp[results,Tryz.results139,go_sem,q0,q1,q2,q3,q4,q5,q6,q7,q8]) rfl ?_
 exact⟨rfl,zL _ _ _⟩
theorem zAi {C:Pc} {s:Ps} {w:World} (h:Pa C s w) (j:Nat) (jz:Int) (hj:jz=(j:Int)) (hjl:j≤10000) {kd:Nat} {tx:List UInt8} {st:List UInt16} {nk nn:Int} {mg:List Nat} {ps:Nat} {nl:Bool} (ht:zM C.L (min (s.k+j) (C.N - 1))=⟨kd,tx,st,nk,nn,mg,ps,nl⟩):
 Calls Tryz.prog 146 #[.pointer (some ⟨C.g,0,none⟩),.int .i64 jz] w (zSX C s kd tx st nk nn mg ps nl w):=by
 have hkN:=h.kN
 have hlen:C.N≤4097:=h.cx.n4
 obtain⟨i,hi⟩:∃i,min (s.k+j) (C.N - 1)=i:=⟨_,rfl⟩
 rw[hi]at ht
 have hiN:i < C.N:=by omega
 obtain⟨W,hW⟩:∃W,w.alloc (.cells zAw.toArray 44)=W:=⟨_,rfl⟩
 have hg0:w.grownBy W none:=by rw[←hW];exact zL w _ none
 have hB0:Bx W w.heap.size 44 zAw:=by rw[←hW];exact Bx.new w zAw 44
 have HP0:=zD h
 have HP:=zD (h.new hg0)
 obtain⟨gT,As,Am,c1,c2,hA,hlt,t⟩:=HP.out.at_ i hiN
 have x0:=HP.out.c0
 have x1:=HP.out.c1
 rw[hA]at x0
 rw[ht]at t
 have HT:=zD t
 obtain⟨y0,y1,y2,y3,y4,y5,y6,y7,y8,_,_⟩:=t
 obtain⟨k,hk⟩:∃k,s.k=k:=⟨_,rfl⟩
 rw[hk]at x1 hkN hi
 have hmin2:min ((k:Int)+jz) ((C.N:Int) - 1)=(i:Int):=by omega
 have hmin:(if(C.N:Int) - 1 < (k:Int)+jz then(C.N:Int) - 1 else(k:Int)+jz)=(i:Int):=by subst hj;split<;>omega
 have hj0:0≤jz:=by omega
 have hj1:jz≤10000:=by omega
 have HG0:=zD hg0
 have HB0:=zD hB0
 obtain⟨z0,z1,z2,z3,z4,z5,z6,z7,z8⟩:=hB0.nine
 obtain⟨f0,f1,f2,f3,f4,f5,f6,f7,f8⟩:=hB0.nineF
 obtain⟨X,hX⟩:∃X,w.heap.size=X:=⟨_,rfl⟩
 have HX:=zD hX
 unfold zAw at hW
 clear hA h hg0 hB0 ht hi hj hk hjl
 go_enter Tryz.func146,Tryz.ntmps146
 go_upto_region 1 with(fail)
 clear hW
 rw[hX]at z0 z1 z2 z3 z4 z5 z6 z7 z8 f0 f1 f2 f3 f4 f5 f6 f7 f8 HB0
 clear hX
 go_region
 all_goals go_wp2_with fail
 all_goals
  refine zHx (F:=fun V=>Bx V X 44 [.int .i64 (kd:Int),.string ⟨tx.toArray⟩,.slice As st.length c1,.int .i64 nk,.int .i64 nn,.bool false,.slice Am mg.length c2,.int .i64 (ps:Int),.bool nl]∧W.grownBy V (some X)) ⟨(HB0.out.set9 rfl).drew,zF zBG (zAc _ _)⟩ ?_
  rintro V ⟨hb,hg⟩
  obtain⟨q0,q1,q2,q3,q4,q5,q6,q7,q8⟩:=hb.nine
  refine bodyPost_ret (v:=.agg #[.int .i64 (kd:Int),.string ⟨tx.toArray⟩,.slice As st.length c1,.int .i64 nk,.int .i64 nn,.bool false,.slice Am mg.length c2,.int .i64 (ps:Int),.bool nl]) (by simp[results,Tryz.results146,go_sem,q0,q1,q2,q3,q4,q5,q6,q7,q8]) rfl ?_
  have hz:Fz W (fun _=>False) (some X):=.box HB0.out (by decide) (by decide) (by simp)
  have hXg:C.g < X:=by rw[←HX.out];exact HP0.out.lt
  refine⟨As,Am,c1,c2,rfl,zBa HT.out.str (.inl rfl) hg hz,zBa HT.out.mag (.inr rfl) hg hz,HP.out.grown hg (fun b e=>by injection e with e;omega),?_⟩
  exact zBc HG0.out (by rw[←HX.out];exact Nat.le_refl _) hg
def zGX (n:Nat):Int:=if n=9 then -1 else(n:Int)
theorem zQ0 {nk nn:Int} {st:List UInt16} {mg:List Nat} {ps:Nat} {nl:Bool} {As Am:Option Addr} {c1 c2:Nat} {W:World}:Calls Tryz.prog 208 #[.agg #[.int .i64 5,.string ⟨#[124]⟩,.slice As st.length c1,.int .i64 nk,.int .i64 nn,.bool false,.slice Am mg.length c2,.int .i64 (ps:Int),.bool nl]] W fun e w'=>e=.returned (.int .i64 0)∧W.grownBy w' none:=by
 go_enter Tryz.func208,Tryz.ntmps208
 go_wp2_with fail
 go_ret
 exact⟨rfl,zL _ _ _⟩
theorem zQ1 {nk nn:Int} {st:List UInt16} {mg:List Nat} {ps:Nat} {nl:Bool} {As Am:Option Addr} {c1 c2:Nat} {W:World}:Calls Tryz.prog 208 #[.agg #[.int .i64 5,.string ⟨#[94]⟩,.slice As st.length c1,.int .i64 nk,.int .i64 nn,.bool false,.slice Am mg.length c2,.int .i64 (ps:Int),.bool nl]] W fun e w'=>e=.returned (.int .i64 1)∧W.grownBy w' none:=by
 go_enter Tryz.func208,Tryz.ntmps208
 go_wp2_with fail
 go_ret
 exact⟨rfl,zL _ _ _⟩
theorem zQ2 {nk nn:Int} {st:List UInt16} {mg:List Nat} {ps:Nat} {nl:Bool} {As Am:Option Addr} {c1 c2:Nat} {W:World}:Calls Tryz.prog 208 #[.agg #[.int .i64 5,.string ⟨#[38]⟩,.slice As st.length c1,.int .i64 nk,.int .i64 nn,.bool false,.slice Am mg.length c2,.int .i64 (ps:Int),.bool nl]] W fun e w'=>e=.returned (.int .i64 2)∧W.grownBy w' none:=by
 go_enter Tryz.func208,Tryz.ntmps208
 go_wp2_with fail
 go_ret
 exact⟨rfl,zL _ _ _⟩
theorem zQ3 {nk nn:Int} {st:List UInt16} {mg:List Nat} {ps:Nat} {nl:Bool} {As Am:Option Addr} {c1 c2:Nat} {W:World}:Calls Tryz.prog 208 #[.agg #[.int .i64 5,.string ⟨#[61,61]⟩,.slice As st.length c1,.int .i64 nk,.int .i64 nn,.bool false,.slice Am mg.length c2,.int .i64 (ps:Int),.bool nl]] W fun e w'=>e=.returned (.int .i64 3)∧W.grownBy w' none:=by
 go_enter Tryz.func208,Tryz.ntmps208
 go_wp2_with fail
 go_ret
 exact⟨rfl,zL _ _ _⟩
theorem zQ4 {nk nn:Int} {st:List UInt16} {mg:List Nat} {ps:Nat} {nl:Bool} {As Am:Option Addr} {c1 c2:Nat} {W:World}:Calls Tryz.prog 208 #[.agg #[.int .i64 5,.string ⟨#[33,61]⟩,.slice As st.length c1,.int .i64 nk,.int .i64 nn,.bool false,.slice Am mg.length c2,.int .i64 (ps:Int),.bool nl]] W fun e w'=>e=.returned (.int .i64 3)∧W.grownBy w' none:=by
 go_enter Tryz.func208,Tryz.ntmps208
 go_wp2_with fail
 go_ret
 exact⟨rfl,zL _ _ _⟩
theorem zQ5 {nk nn:Int} {st:List UInt16} {mg:List Nat} {ps:Nat} {nl:Bool} {As Am:Option Addr} {c1 c2:Nat} {W:World}:Calls Tryz.prog 208 #[.agg #[.int .i64 5,.string ⟨#[61,61,61]⟩,.slice As st.length c1,.int .i64 nk,.int .i64 nn,.bool false,.slice Am mg.length c2,.int .i64 (ps:Int),.bool nl]] W fun e w'=>e=.returned (.int .i64 3)∧W.grownBy w' none:=by
 go_enter Tryz.func208,Tryz.ntmps208
 go_wp2_with fail
 go_ret
 exact⟨rfl,zL _ _ _⟩
theorem zQ6 {nk nn:Int} {st:List UInt16} {mg:List Nat} {ps:Nat} {nl:Bool} {As Am:Option Addr} {c1 c2:Nat} {W:World}:Calls Tryz.prog 208 #[.agg #[.int .i64 5,.string ⟨#[33,61,61]⟩,.slice As st.length c1,.int .i64 nk,.int .i64 nn,.bool false,.slice Am mg.length c2,.int .i64 (ps:Int),.bool nl]] W fun e w'=>e=.returned (.int .i64 3)∧W.grownBy w' none:=by
 go_enter Tryz.func208,Tryz.ntmps208
 go_wp2_with fail
 go_ret
 exact⟨rfl,zL _ _ _⟩
theorem zQ7 {nk nn:Int} {st:List UInt16} {mg:List Nat} {ps:Nat} {nl:Bool} {As Am:Option Addr} {c1 c2:Nat} {W:World}:Calls Tryz.prog 208 #[.agg #[.int .i64 5,.string ⟨#[60]⟩,.slice As st.length c1,.int .i64 nk,.int .i64 nn,.bool false,.slice Am mg.length c2,.int .i64 (ps:Int),.bool nl]] W fun e w'=>e=.returned (.int .i64 4)∧W.grownBy w' none:=by
 go_enter Tryz.func208,Tryz.ntmps208
 go_wp2_with fail
 go_ret
 exact⟨rfl,zL _ _ _⟩
theorem zQ8 {nk nn:Int} {st:List UInt16} {mg:List Nat} {ps:Nat} {nl:Bool} {As Am:Option Addr} {c1 c2:Nat} {W:World}:Calls Tryz.prog 208 #[.agg #[.int .i64 5,.string ⟨#[62]⟩,.slice As st.length c1,.int .i64 nk,.int .i64 nn,.bool false,.slice Am mg.length c2,.int .i64 (ps:Int),.bool nl]] W fun e w'=>e=.returned (.int .i64 4)∧W.grownBy w' none:=by
 go_enter Tryz.func208,Tryz.ntmps208
 go_wp2_with fail
 go_ret
 exact⟨rfl,zL _ _ _⟩
theorem zQ9 {nk nn:Int} {st:List UInt16} {mg:List Nat} {ps:Nat} {nl:Bool} {As Am:Option Addr} {c1 c2:Nat} {W:World}:Calls Tryz.prog 208 #[.agg #[.int .i64 5,.string ⟨#[60,61]⟩,.slice As st.length c1,.int .i64 nk,.int .i64 nn,.bool false,.slice Am mg.length c2,.int .i64 (ps:Int),.bool nl]] W fun e w'=>e=.returned (.int .i64 4)∧W.grownBy w' none:=by
 go_enter Tryz.func208,Tryz.ntmps208
 go_wp2_with fail
 go_ret
 exact⟨rfl,zL _ _ _⟩
theorem zOV {nk nn:Int} {st:List UInt16} {mg:List Nat} {ps:Nat} {nl:Bool} {As Am:Option Addr} {c1 c2:Nat} {W:World}:Calls Tryz.prog 208 #[.agg #[.int .i64 5,.string ⟨#[62,61]⟩,.slice As st.length c1,.int .i64 nk,.int .i64 nn,.bool false,.slice Am mg.length c2,.int .i64 (ps:Int),.bool nl]] W fun e w'=>e=.returned (.int .i64 4)∧W.grownBy w' none:=by
 go_enter Tryz.func208,Tryz.ntmps208
 go_wp2_with fail
 go_ret
 exact⟨rfl,zL _ _ _⟩
theorem zOW {nk nn:Int} {st:List UInt16} {mg:List Nat} {ps:Nat} {nl:Bool} {As Am:Option Addr} {c1 c2:Nat} {W:World}:Calls Tryz.prog 208 #[.agg #[.int .i64 5,.string ⟨#[105,110]⟩,.slice As st.length c1,.int .i64 nk,.int .i64 nn,.bool false,.slice Am mg.length c2,.int .i64 (ps:Int),.bool nl]] W fun e w'=>e=.returned (.int .i64 4)∧W.grownBy w' none:=by
 go_enter Tryz.func208,Tryz.ntmps208
 go_wp2_with fail
 go_ret
 exact⟨rfl,zL _ _ _⟩
theorem zOX {nk nn:Int} {st:List UInt16} {mg:List Nat} {ps:Nat} {nl:Bool} {As Am:Option Addr} {c1 c2:Nat} {W:World}:Calls Tryz.prog 208 #[.agg #[.int .i64 5,.string ⟨#[60,60]⟩,.slice As st.length c1,.int .i64 nk,.int .i64 nn,.bool false,.slice Am mg.length c2,.int .i64 (ps:Int),.bool nl]] W fun e w'=>e=.returned (.int .i64 5)∧W.grownBy w' none:=by
 go_enter Tryz.func208,Tryz.ntmps208
 go_wp2_with fail
 go_ret
 exact⟨rfl,zL _ _ _⟩
theorem zOY {nk nn:Int} {st:List UInt16} {mg:List Nat} {ps:Nat} {nl:Bool} {As Am:Option Addr} {c1 c2:Nat} {W:World}:Calls Tryz.prog 208 #[.agg #[.int .i64 5,.string ⟨#[62,62]⟩,.slice As st.length c1,.int .i64 nk,.int .i64 nn,.bool false,.slice Am mg.length c2,.int .i64 (ps:Int),.bool nl]] W fun e w'=>e=.returned (.int .i64 5)∧W.grownBy w' none:=by
 go_enter Tryz.func208,Tryz.ntmps208
 go_wp2_with fail
 go_ret
 exact⟨rfl,zL _ _ _⟩
theorem zOZ {nk nn:Int} {st:List UInt16} {mg:List Nat} {ps:Nat} {nl:Bool} {As Am:Option Addr} {c1 c2:Nat} {W:World}:Calls Tryz.prog 208 #[.agg #[.int .i64 5,.string ⟨#[62,62,62]⟩,.slice As st.length c1,.int .i64 nk,.int .i64 nn,.bool false,.slice Am mg.length c2,.int .i64 (ps:Int),.bool nl]] W fun e w'=>e=.returned (.int .i64 5)∧W.grownBy w' none:=by
 go_enter Tryz.func208,Tryz.ntmps208
 go_wp2_with fail
 go_ret
 exact⟨rfl,zL _ _ _⟩
theorem zOa {nk nn:Int} {st:List UInt16} {mg:List Nat} {ps:Nat} {nl:Bool} {As Am:Option Addr} {c1 c2:Nat} {W:World}:Calls Tryz.prog 208 #[.agg #[.int .i64 5,.string ⟨#[43]⟩,.slice As st.length c1,.int .i64 nk,.int .i64 nn,.bool false,.slice Am mg.length c2,.int .i64 (ps:Int),.bool nl]] W fun e w'=>e=.returned (.int .i64 6)∧W.grownBy w' none:=by
 go_enter Tryz.func208,Tryz.ntmps208
 go_wp2_with fail
 go_ret
 exact⟨rfl,zL _ _ _⟩
theorem zOb {nk nn:Int} {st:List UInt16} {mg:List Nat} {ps:Nat} {nl:Bool} {As Am:Option Addr} {c1 c2:Nat} {W:World}:Calls Tryz.prog 208 #[.agg #[.int .i64 5,.string ⟨#[45]⟩,.slice As st.length c1,.int .i64 nk,.int .i64 nn,.bool false,.slice Am mg.length c2,.int .i64 (ps:Int),.bool nl]] W fun e w'=>e=.returned (.int .i64 6)∧W.grownBy w' none:=by
 go_enter Tryz.func208,Tryz.ntmps208
 go_wp2_with fail
 go_ret
 exact⟨rfl,zL _ _ _⟩
theorem zOc {nk nn:Int} {st:List UInt16} {mg:List Nat} {ps:Nat} {nl:Bool} {As Am:Option Addr} {c1 c2:Nat} {W:World}:Calls Tryz.prog 208 #[.agg #[.int .i64 5,.string ⟨#[42]⟩,.slice As st.length c1,.int .i64 nk,.int .i64 nn,.bool false,.slice Am mg.length c2,.int .i64 (ps:Int),.bool nl]] W fun e w'=>e=.returned (.int .i64 7)∧W.grownBy w' none:=by
 go_enter Tryz.func208,Tryz.ntmps208
 go_wp2_with fail
 go_ret
 exact⟨rfl,zL _ _ _⟩
theorem zOd {nk nn:Int} {st:List UInt16} {mg:List Nat} {ps:Nat} {nl:Bool} {As Am:Option Addr} {c1 c2:Nat} {W:World}:Calls Tryz.prog 208 #[.agg #[.int .i64 5,.string ⟨#[47]⟩,.slice As st.length c1,.int .i64 nk,.int .i64 nn,.bool false,.slice Am mg.length c2,.int .i64 (ps:Int),.bool nl]] W fun e w'=>e=.returned (.int .i64 7)∧W.grownBy w' none:=by
 go_enter Tryz.func208,Tryz.ntmps208
 go_wp2_with fail
 go_ret
 exact⟨rfl,zL _ _ _⟩
theorem zOe {nk nn:Int} {st:List UInt16} {mg:List Nat} {ps:Nat} {nl:Bool} {As Am:Option Addr} {c1 c2:Nat} {W:World}:Calls Tryz.prog 208 #[.agg #[.int .i64 5,.string ⟨#[37]⟩,.slice As st.length c1,.int .i64 nk,.int .i64 nn,.bool false,.slice Am mg.length c2,.int .i64 (ps:Int),.bool nl]] W fun e w'=>e=.returned (.int .i64 7)∧W.grownBy w' none:=by
 go_enter Tryz.func208,Tryz.ntmps208
 go_wp2_with fail
 go_ret
 exact⟨rfl,zL _ _ _⟩
theorem zJ5 {tx:List UInt8} {nk nn:Int} {st:List UInt16} {mg:List Nat} {ps:Nat} {nl:Bool} {As Am:Option Addr} {c1 c2:Nat} {W:World} (n0:(tx==[124])=false) (n1:(tx==[94])=false) (n2:(tx==[38])=false) (n3:(tx==[61,61])=false) (n4:(tx==[33,61])=false) (n5:(tx==[61,61,61])=false) (n6:(tx==[33,61,61])=false) (n7:(tx==[60])=false) (n8:(tx==[62])=false) (n9:(tx==[60,61])=false) (n10:(tx==[62,61])=false) (n11:(tx==[105,110])=false) (n12:(tx==[60,60])=false) (n13:(tx==[62,62])=false) (n14:(tx==[62,62,62])=false) (n15:(tx==[43])=false) (n16:(tx==[45])=false) (n17:(tx==[42])=false) (n18:(tx==[47])=false) (n19:(tx==[37])=false):Calls Tryz.prog 208 #[.agg #[.int .i64 5,.string ⟨tx.toArray⟩,.slice As st.length c1,.int .i64 nk,.int .i64 nn,.bool false,.slice Am mg.length c2,.int .i64 (ps:Int),.bool nl]] W fun e w'=>e=.returned (.int .i64 (-1))∧W.grownBy w' none:=by
 go_enter Tryz.func208,Tryz.ntmps208
 go_wp2_with fail
 go_ret
 exact⟨rfl,zL _ _ _⟩
theorem zMc {kd:Nat} {tx:List UInt8} {nk nn:Int} {st:List UInt16} {mg:List Nat} {ps:Nat} {nl:Bool} {As Am:Option Addr} {c1 c2:Nat} {W:World} (hk:kd≠5) (hi:isT ⟨kd,tx,st,nk,nn,mg,ps,nl⟩ [105,110]=false):Calls Tryz.prog 208 #[.agg #[.int .i64 (kd:Int),.string ⟨tx.toArray⟩,.slice As st.length c1,.int .i64 nk,.int .i64 nn,.bool false,.slice Am mg.length c2,.int .i64 (ps:Int),.bool nl]] W fun e w'=>e=.returned (.int .i64 (-1))∧W.grownBy w' none:=by
 have e5:((kd:Int) !=5)=true:=by rw[bne_iff_ne];omega
 have HI:=zD hi
 clear hk hi
 go_enter Tryz.func208,Tryz.ntmps208
 go_wp2_with fail
 refine(zCN [105,110] HI.out).mono ?_
 rintro e3 w3 ⟨rfl,hg3⟩
 have HG3:=zD hg3
 clear hg3
 go_wp2_with fail
 go_ret
 exact⟨rfl,zF (zL _ _ _) HG3.out⟩
theorem zOf {nk nn:Int} {st:List UInt16} {mg:List Nat} {ps:Nat} {nl:Bool} {As Am:Option Addr} {c1 c2:Nat} {W:World}:Calls Tryz.prog 208 #[.agg #[.int .i64 6,.string ⟨#[105,110]⟩,.slice As st.length c1,.int .i64 nk,.int .i64 nn,.bool false,.slice Am mg.length c2,.int .i64 (ps:Int),.bool nl]] W fun e w'=>e=.returned (.int .i64 4)∧W.grownBy w' none:=by
 obtain⟨V,hV⟩:∃V,W.alloc (.cells #[.int .i64 6,.string ⟨#[105,110]⟩,.slice As st.length c1,.int .i64 nk,.int .i64 nn,.bool false,.slice Am mg.length c2,.int .i64 (ps:Int),.bool nl] 44)=V:=⟨_,rfl⟩
 have hg:=zD (show W.grownBy V none by rw[←hV];exact zL _ _ _)
 have HB:=zD (show Bx V W.heap.size 44 [.int .i64 6,.string ⟨#[105,110]⟩,.slice As st.length c1,.int .i64 nk,.int .i64 nn,.bool false,.slice Am mg.length c2,.int .i64 (ps:Int),.bool nl] by rw[←hV];exact Bx.new W [.int .i64 6,.string ⟨#[105,110]⟩,.slice As st.length c1,.int .i64 nk,.int .i64 nn,.bool false,.slice Am mg.length c2,.int .i64 (ps:Int),.bool nl] 44)
 obtain⟨z0,z1,z2,z3,z4,z5,z6,z7,z8⟩:=HB.out.nine
 go_enter Tryz.func208,Tryz.ntmps208
 go_wp2_with fail
 refine(zCN (kd:=6) (tx:=[105,110]) [105,110] rfl).mono ?_
 rintro e3 w3 ⟨rfl,hg3⟩
 have HG3:=zD hg3
 obtain⟨y0,y1,y2,y3,y4,y5,y6,y7,y8⟩:=(HB.out.grown hg3 (by simp)).nine
 clear hg3
 go_wp2_with fail
 go_ret
 exact⟨rfl,zF hg.out HG3.out⟩
theorem zHy {kd:Nat} {tx:List UInt8} {nk nn:Int} {st:List UInt16} {mg:List Nat} {ps:Nat} {nl:Bool} {As Am:Option Addr} {c1 c2:Nat} {W:World}:Calls Tryz.prog 208 #[.agg #[.int .i64 (kd:Int),.string ⟨tx.toArray⟩,.slice As st.length c1,.int .i64 nk,.int .i64 nn,.bool false,.slice Am mg.length c2,.int .i64 (ps:Int),.bool nl]] W fun e w'=>e=.returned (.int .i64 (zGX (zA5 ⟨kd,tx,st,nk,nn,mg,ps,nl⟩)))∧W.grownBy w' none:=by
 by_cases hk:kd=5
 · subst hk
   have e:zA5 ⟨5,tx,st,nk,nn,mg,ps,nl⟩=zHl tx:=by unfold zA5;rw[if_pos (.inl rfl)]
   rw[e]
   by_cases n0:tx=[124]
   · subst n0;exact zQ0
   by_cases n1:tx=[94]
   · subst n1;exact zQ1
   by_cases n2:tx=[38]
   · subst n2;exact zQ2
   by_cases n3:tx=[61,61]
   · subst n3;exact zQ3
   by_cases n4:tx=[33,61]
   · subst n4;exact zQ4
   by_cases n5:tx=[61,61,61]
   · subst n5;exact zQ5
   by_cases n6:tx=[33,61,61]
   · subst n6;exact zQ6
   by_cases n7:tx=[60]
   · subst n7;exact zQ7
   by_cases n8:tx=[62]
   · subst n8;exact zQ8
   by_cases n9:tx=[60,61]
   · subst n9;exact zQ9
   by_cases n10:tx=[62,61]
   · subst n10;exact zOV
   by_cases n11:tx=[105,110]
   · subst n11;exact zOW
   by_cases n12:tx=[60,60]
   · subst n12;exact zOX
   by_cases n13:tx=[62,62]
   · subst n13;exact zOY
   by_cases n14:tx=[62,62,62]
   · subst n14;exact zOZ
   by_cases n15:tx=[43]
   · subst n15;exact zOa
   by_cases n16:tx=[45]
   · subst n16;exact zOb
   by_cases n17:tx=[42]
   · subst n17;exact zOc
   by_cases n18:tx=[47]
   · subst n18;exact zOd
   by_cases n19:tx=[37]
   · subst n19;exact zOe
   have e2:zHl tx=9:=by unfold zHl;simp[n0,n1,n2,n3,n4,n5,n6,n7,n8,n9,n10,n11,n12,n13,n14,n15,n16,n17,n18,n19]
   rw[e2]
   exact zJ5 (beq_eq_false_iff_ne.2 n0) (beq_eq_false_iff_ne.2 n1) (beq_eq_false_iff_ne.2 n2) (beq_eq_false_iff_ne.2 n3) (beq_eq_false_iff_ne.2 n4) (beq_eq_false_iff_ne.2 n5) (beq_eq_false_iff_ne.2 n6) (beq_eq_false_iff_ne.2 n7) (beq_eq_false_iff_ne.2 n8) (beq_eq_false_iff_ne.2 n9) (beq_eq_false_iff_ne.2 n10) (beq_eq_false_iff_ne.2 n11) (beq_eq_false_iff_ne.2 n12) (beq_eq_false_iff_ne.2 n13) (beq_eq_false_iff_ne.2 n14) (beq_eq_false_iff_ne.2 n15) (beq_eq_false_iff_ne.2 n16) (beq_eq_false_iff_ne.2 n17) (beq_eq_false_iff_ne.2 n18) (beq_eq_false_iff_ne.2 n19)
 · by_cases hi:isT ⟨kd,tx,st,nk,nn,mg,ps,nl⟩ [105,110]=true
   · have h6:kd=6∧tx=[105,110]:=by
      unfold isT at hi
      simp at hi
      exact⟨by omega,hi.1⟩
     obtain⟨rfl,rfl⟩:=h6
     exact zOf
   · have hi':isT ⟨kd,tx,st,nk,nn,mg,ps,nl⟩ [105,110]=false:=by simpa using hi
     have e:zA5 ⟨kd,tx,st,nk,nn,mg,ps,nl⟩=9:=by
      unfold zA5
      rw[if_neg]
      rintro(h | h)
      · exact hk h
      · exact hi h
     rw[e]
     exact zMc hk hi'
def NodR (C:Pc) (Q:Nat→Prop) (r:Tr×Ps) (w:World) (e:Ending) (w':World):Prop:=
 ∃d0 d1 d2 d3 d4 d5 d6 d7 d8,e=.returned (.agg #[d0,d1,d2,d3,d4,d5,d6,d7,d8])∧TrC w' (fun b=>Q b∨w.heap.size≤b) r.1 [d0,d1,d2,d3,d4,d5,d6,d7,d8]∧Pa C r.2 w'∧w.grownBy w' (some C.g)
def zQU (C:Pc) (a:World) (r:Tr×Ps) (e:Ending) (w':World):Prop:=
 ∃d0 d1 d2 d3 d4 d5 d6 d7 d8,e=.returned (.agg #[d0,d1,d2,d3,d4,d5,d6,d7,d8])∧TrC w' (a.heap.size≤·) r.1 [d0,d1,d2,d3,d4,d5,d6,d7,d8]∧Pa C r.2 w'∧a.grownBy w' (some C.g)
def zk (C:Pc) (s:Ps) (w:World):Ph→Prop
 | .program []=>Calls Tryz.prog 34 #[.pointer (some ⟨C.g,0,none⟩)] w (zCk C (zI C.L (.program []) s) w)
 | .block=>Calls Tryz.prog 145 #[.pointer (some ⟨C.g,0,none⟩)] w (zCk C (zI C.L .block s) w)
 | .item=>Calls Tryz.prog 60 #[.pointer (some ⟨C.g,0,none⟩)] w (zCk C (zI C.L .item s) w)
 | .declares=>Calls Tryz.prog 93 #[.pointer (some ⟨C.g,0,none⟩)] w (zCk C (zI C.L .declares s) w)
 | .func k n=>Calls Tryz.prog 97 #[.pointer (some ⟨C.g,0,none⟩),.int .i64 k,.string ⟨n.toArray⟩] w (zCk C (zI C.L (.func k n) s) w)
 | .params=>Calls Tryz.prog 144 #[.pointer (some ⟨C.g,0,none⟩)] w (LstQ C (zI C.L .params s) w)
 | .statement=>Calls Tryz.prog 98 #[.pointer (some ⟨C.g,0,none⟩)] w (zCk C (zI C.L .statement s) w)
 | .simple=>Calls Tryz.prog 148 #[.pointer (some ⟨C.g,0,none⟩)] w (zCk C (zI C.L .simple s) w)
 | .word v=>Calls Tryz.prog 147 #[.pointer (some ⟨C.g,0,none⟩),.string ⟨v.toArray⟩] w (zCk C (zI C.L (.word v) s) w)
 | .within=>Calls Tryz.prog 178 #[.pointer (some ⟨C.g,0,none⟩)] w (zCk C (zI C.L .within s) w)
 | .clause v=>Calls Tryz.prog 197 #[.pointer (some ⟨C.g,0,none⟩),.string ⟨v.toArray⟩] w (zCk C (zI C.L (.clause v) s) w)
 | .loop=>Calls Tryz.prog 179 #[.pointer (some ⟨C.g,0,none⟩)] w (zCk C (zI C.L .loop s) w)
 | .jump k=>Calls Tryz.prog 180 #[.pointer (some ⟨C.g,0,none⟩),.int .i64 k] w (zCk C (zI C.L (.jump k) s) w)
 | .tries=>Calls Tryz.prog 182 #[.pointer (some ⟨C.g,0,none⟩)] w (zCk C (zI C.L .tries s) w)
 | .assign=>Calls Tryz.prog 140 #[.pointer (some ⟨C.g,0,none⟩)] w (zCk C (zI C.L .assign s) w)
 | .body l=>∀(a:World) (A:Option Addr) (n c:Nat),l.length=n→n≤4097→a.grownBy w (some C.g)→C.g < a.heap.size→RowP w (a.heap.size≤·) (.slice A n c) l→Calls Tryz.prog 173 #[.pointer (some ⟨C.g,0,none⟩),.slice A n c] w (zQU C a (zI C.L (.body l) s))
 | .cond=>Calls Tryz.prog 175 #[.pointer (some ⟨C.g,0,none⟩)] w (zCk C (zI C.L .cond s) w)
 | .either=>Calls Tryz.prog 196 #[.pointer (some ⟨C.g,0,none⟩)] w (zCk C (zI C.L .either s) w)
 | .both x=>∀(Q:Nat→Prop) (d0 d1 d2 d3 d4 d5 d6 d7 d8:Value),(∀b,Q b→C.g < b)→TrC w Q x [d0,d1,d2,d3,d4,d5,d6,d7,d8]→Calls Tryz.prog 202 #[.pointer (some ⟨C.g,0,none⟩),.agg #[d0,d1,d2,d3,d4,d5,d6,d7,d8]] w (NodR C Q (zI C.L (.both x) s) w)
 | .level n=>Calls Tryz.prog 201 #[.pointer (some ⟨C.g,0,none⟩),.int .i64 (n:Int)] w (zCk C (zI C.L (.level n) s) w)
 | .unary=>Calls Tryz.prog 207 #[.pointer (some ⟨C.g,0,none⟩)] w (zCk C (zI C.L .unary s) w)
 | .calls=>Calls Tryz.prog 214 #[.pointer (some ⟨C.g,0,none⟩)] w (zCk C (zI C.L .calls s) w)
 | .head=>Calls Tryz.prog 217 #[.pointer (some ⟨C.g,0,none⟩)] w (zCk C (zI C.L .head s) w)
 | .args=>Calls Tryz.prog 218 #[.pointer (some ⟨C.g,0,none⟩)] w (LstQ C (zI C.L .args s) w)
 | .list v=>Calls Tryz.prog 221 #[.pointer (some ⟨C.g,0,none⟩),.string ⟨v.toArray⟩] w (LstQ C (zI C.L (.list v) s) w)
 | .primary=>Calls Tryz.prog 220 #[.pointer (some ⟨C.g,0,none⟩)] w (zCk C (zI C.L .primary s) w)
 | .object=>Calls Tryz.prog 222 #[.pointer (some ⟨C.g,0,none⟩)] w (zCk C (zI C.L .object s) w)
 | .prop=>Calls Tryz.prog 223 #[.pointer (some ⟨C.g,0,none⟩)] w (zCk C (zI C.L .prop s) w)
 | _=>True
def KP (C:Pc) (N:Nat):Prop:=∀(q:Ph) (s:Ps) (w:World),Pre C.L q s→zh C.L q s < N→Pa C s w→zk C s w q
section
variable {C:Pc} {p q:Ph} {s s1:Ps} {w:World}
theorem KP.rank (K:KP C (zh C.L p s)) (hq:Pre C.L q s1) (h:Pa C s1 w) (h1:s.k≤s1.k) (h2:zn q s1 < zn p s):zk C s1 w q:=K q s1 w hq (zF5 h1 h2) h
theorem KP.more (K:KP C (zh C.L p s)) (hq:Pre C.L q s1) (h:Pa C s1 w) (h1:s.k < s1.k):zk C s1 w q:=K q s1 w hq (zF4 h1 hq.1 h.cx.lst.pos) h
end
theorem TrC.sto {w:World} {F:Nat→Prop} {t:Tr} {e0 e1 e2 e3 e4 e5 e6 e7 e8:Value} (h:TrC w F t [e0,e1,e2,e3,e4,e5,e6,e7,e8]):(∀(v:World) (a:Addr),(store a e0).run Tryz.prog v=stored Tryz.prog v a e0 .plain)∧(∀(v:World) (a:Addr),(store a e1).run Tryz.prog v=stored Tryz.prog v a e1 .plain)∧(∀(v:World) (a:Addr),(store a e2).run Tryz.prog v=stored Tryz.prog v a e2 .plain)∧(∀(v:World) (a:Addr),(store a e3).run Tryz.prog v=stored Tryz.prog v a e3 .plain)∧(∀(v:World) (a:Addr),(store a e4).run Tryz.prog v=stored Tryz.prog v a e4 .plain)∧(∀(v:World) (a:Addr),(store a e5).run Tryz.prog v=stored Tryz.prog v a e5 .plain)∧(∀(v:World) (a:Addr),(store a e6).run Tryz.prog v=stored Tryz.prog v a e6 .plain)∧(∀(v:World) (a:Addr),(store a e7).run Tryz.prog v=stored Tryz.prog v a e7 .plain)∧(∀(v:World) (a:Addr),(store a e8).run Tryz.prog v=stored Tryz.prog v a e8 .plain):=by
 have h1:=h.one
 simp only[List.all_cons,List.all_nil,Bool.and_eq_true,Bool.and_true]at h1
 obtain⟨h0,h1,h2,h3,h4,h5,h6,h7,h8⟩:=h1
 exact⟨fun v a=>run_store _ _ _ _ _ h0,fun v a=>run_store _ _ _ _ _ h1,fun v a=>run_store _ _ _ _ _ h2,fun v a=>run_store _ _ _ _ _ h3,fun v a=>run_store _ _ _ _ _ h4,fun v a=>run_store _ _ _ _ _ h5,fun v a=>run_store _ _ _ _ _ h6,fun v a=>run_store _ _ _ _ _ h7,fun v a=>run_store _ _ _ _ _ h8⟩
theorem Bx.gg {w w':World} {R b:Nat} {T:TypeId} {cs:List Value} (h:Bx w R T cs) (hg:w.grownBy w' (some b)) (hne:b≠R):Bx w' R T cs:=h.grown hg (by simpa using hne)
def zFE:List Value:=[.int .i64 0,.string ⟨#[]⟩,.slice none 0 0,.int .i64 0,.int .i64 0,.bool false,.slice none 0 0,.slice none 0 0,.slice none 0 0]
structure FinN (C:Pc) (Q:Nat→Prop) (r:Tr×Ps) (w:World) (X:Nat) (d0 d1 d2 d3 d4 d5 d6 d7 d8:Value) (V:World):Prop where
 box:Bx V X 72 [d0,d1,d2,d3,d4,d5,d6,d7,d8]
 tree:TrC V (fun b=>Q b∨w.heap.size≤b) r.1 [d0,d1,d2,d3,d4,d5,d6,d7,d8]
 pa:Pa C r.2 V
 grown:w.grownBy V (some C.g)
theorem zOg {C:Pc} {Q:Nat→Prop} {r:Tr×Ps} {w W:World} {X:Nat} {cs:List Value} {d0 d1 d2 d3 d4 d5 d6 d7 d8:Value} (hB:Bx W X 72 cs) (hl:cs.length=9) (hX:w.heap.size≤X) (hgX:C.g < X) (hT:TrC W (fun b=>(Q b∨w.heap.size≤b)∧b≠X) r.1 [d0,d1,d2,d3,d4,d5,d6,d7,d8]) (hP:Pa C r.2 W) (hG:w.grownBy W (some C.g)):
 FinN C Q r w X d0 d1 d2 d3 d4 d5 d6 d7 d8 (((((((((W.setCell ⟨X,0,none⟩ d0).setCell ⟨X,1,none⟩ d1).setCell ⟨X,2,none⟩ d2).setCell ⟨X,3,none⟩ d3).setCell ⟨X,4,none⟩ d4).setCell ⟨X,5,none⟩ d5).setCell ⟨X,6,none⟩ d6).setCell ⟨X,7,none⟩ d7).setCell ⟨X,8,none⟩ d8):=by
 have hg:=zBG (w:=W) (R:=X) (v0:=d0) (v1:=d1) (v2:=d2) (v3:=d3) (v4:=d4) (v5:=d5) (v6:=d6) (v7:=d7) (v8:=d8)
 refine⟨hB.set9 hl,?_,hP.grown hg (fun b e=>by injection e with e;omega),zBc hG hX hg⟩
 have h1:=TrC.keep hg (.box hB (by decide) (by decide) (fun h=>h.2 rfl)) _ _ hT
 exact .sub (fun b hb _=>hb.1) _ _ h1
theorem FinN.drew {C:Pc} {Q:Nat→Prop} {r:Tr×Ps} {w V:World} {X:Nat} {d0 d1 d2 d3 d4 d5 d6 d7 d8:Value} (h:FinN C Q r w X d0 d1 d2 d3 d4 d5 d6 d7 d8 V):FinN C Q r w X d0 d1 d2 d3 d4 d5 d6 d7 d8 V.drew:=
 ⟨h.box.drew,.keep (zAc _ none) (.none_ _ _) _ _ h.tree,h.pa.drew,zF h.grown (zAc _ _)⟩
theorem FinN.ans {C:Pc} {Q:Nat→Prop} {r:Tr×Ps} {w V:World} {X:Nat} {d0 d1 d2 d3 d4 d5 d6 d7 d8:Value} (h:FinN C Q r w X d0 d1 d2 d3 d4 d5 d6 d7 d8 V):NodR C Q r w (.returned (.agg #[d0,d1,d2,d3,d4,d5,d6,d7,d8])) V:=
 ⟨_,_,_,_,_,_,_,_,_,rfl,h.tree,h.pa,h.grown⟩
theorem zMd {P:Program} {f:Func} {Ret:Ending→World→Prop} {a:Act} {C:Pc} {Q:Nat→Prop} {r:Tr×Ps} {w W:World} {X:Nat} {d0 d1 d2 d3 d4 d5 d6 d7 d8:Value} (h:FinN C Q r w X d0 d1 d2 d3 d4 d5 d6 d7 d8 W) (k:∀V,FinN C Q r w X d0 d1 d2 d3 d4 d5 d6 d7 d8 V→bodyPost P f Ret .ret a V):bodyPost P f Ret .ret a W:=k W h
structure PutN (T:TypeId) (C:Pc) (s:Ps) (w W:World) (R:Nat) (d0 d1 d2 d3 d4 d5 d6 d7 d8:Value) (V:World):Prop where
 box:Bx V R T [d0,d1,d2,d3,d4,d5,d6,d7,d8]
 pa:Pa C s V
 grown:w.grownBy V (some C.g)
 from_:W.grownBy V (some R)
theorem zOh {T:TypeId} {C:Pc} {s:Ps} {w W:World} {R:Nat} {cs:List Value} {d0 d1 d2 d3 d4 d5 d6 d7 d8:Value} (hB:Bx W R T cs) (hl:cs.length=9) (hR:w.heap.size≤R) (hgR:C.g < R) (hP:Pa C s W) (hG:w.grownBy W (some C.g)):
 PutN T C s w W R d0 d1 d2 d3 d4 d5 d6 d7 d8 (((((((((W.setCell ⟨R,0,none⟩ d0).setCell ⟨R,1,none⟩ d1).setCell ⟨R,2,none⟩ d2).setCell ⟨R,3,none⟩ d3).setCell ⟨R,4,none⟩ d4).setCell ⟨R,5,none⟩ d5).setCell ⟨R,6,none⟩ d6).setCell ⟨R,7,none⟩ d7).setCell ⟨R,8,none⟩ d8):=by
 have hg:=zBG (w:=W) (R:=R) (v0:=d0) (v1:=d1) (v2:=d2) (v3:=d3) (v4:=d4) (v5:=d5) (v6:=d6) (v7:=d7) (v8:=d8)
 exact⟨hB.set9 hl,hP.grown hg (fun b e=>by injection e with e;omega),zBc hG hR hg,hg⟩
theorem zHz {w3 w4:World} {P:Nat→Prop} {l:List Tr} {cs:List Value} {n:Nat} (hn:n=l.length) (h:TrsC w3 P l cs) (hl:n≤4097) (hP:P w3.heap.size) (hg:(w3.alloc (.cells cs.toArray 72)).grownBy w4 none):RowP w4 P (.slice (some ⟨w3.heap.size,0,none⟩) n n) l:=
 (RowP.lit hn h hP (by unfold maxLen;omega)).new hg
theorem zOi {w3 w4:World} {P:Nat→Prop} {x y:Tr} {e0 e1 e2 e3 e4 e5 e6 e7 e8 a0 a1 a2 a3 a4 a5 a6 a7 a8:Value} (k:Int) (n:List UInt8) (h1:TrC w3 P x [e0,e1,e2,e3,e4,e5,e6,e7,e8]) (h2:TrC w3 P y [a0,a1,a2,a3,a4,a5,a6,a7,a8]) (hP:P w3.heap.size) (hg:(w3.alloc (.cells #[e0,e1,e2,e3,e4,e5,e6,e7,e8,a0,a1,a2,a3,a4,a5,a6,a7,a8] 72)).grownBy w4 none):TrC w4 P (trN k n [x,y]) (zSk k n (.slice (some ⟨w3.heap.size,0,none⟩) 2 2)):=
 (zHz (l:=[x,y]) (cs:=[e0,e1,e2,e3,e4,e5,e6,e7,e8]++[a0,a1,a2,a3,a4,a5,a6,a7,a8]) rfl (TrsC.cons h1 (.single h2)) (by simp) hP hg).treeN
theorem zOj {C:Pc} {x:Tr} {s:Ps} {w:World} (_hp:Pre C.L (.both x) s) (K:KP C (zh C.L (.both x) s)) (h:Pa C s w):zk C s w (.both x):=by
 intro Q d0 d1 d2 d3 d4 d5 d6 d7 d8 hQ ht
 have HL:=zD h.cx.lst
 have hlen:C.N≤4097:=h.cx.n4
 have HQ:=zD hQ
 have HK:=zD K
 obtain⟨r,hr⟩:∃r,zI C.L (.both x) s=r:=⟨_,rfl⟩
 rw[hr]
 have HR:=zD hr
 obtain⟨W0,hW0⟩:∃W0,w.alloc (.cells #[d0,d1,d2,d3,d4,d5,d6,d7,d8] 72)=W0:=⟨_,rfl⟩
 obtain⟨W,hW⟩:∃W,W0.alloc (.cells #[.int .i64 0,.string ⟨#[]⟩,.slice none 0 0,.int .i64 0,.int .i64 0,.bool false,.slice none 0 0,.slice none 0 0,.slice none 0 0] 72)=W:=⟨_,rfl⟩
 have hg0:w.grownBy W0 none:=by rw[←hW0];exact zL _ _ _
 have hg1:W0.grownBy W none:=by rw[←hW];exact zL _ _ _
 have hz0:W0.heap.size=w.heap.size+1:=by rw[←hW0];simp
 have hb0:Bx W0 w.heap.size 72 [d0,d1,d2,d3,d4,d5,d6,d7,d8]:=by rw[←hW0];exact Bx.new w [d0,d1,d2,d3,d4,d5,d6,d7,d8] _
 have hb1:Bx W (w.heap.size+1) 72 zFE:=by rw[←hW,←hz0];exact Bx.new W0 zFE _
 obtain⟨R,hRw⟩:∃R,w.heap.size=R:=⟨_,rfl⟩
 rw[hRw]at hb0 hb1 hz0
 have hgR:C.g < R:=by rw[←hRw];exact h.lt
 have HB0:=zD (hb0.grown hg1 (by simp))
 have HX0:=zD hb1
 have HP0:=zD ((h.new hg0).new hg1)
 have HG0:=zD (zAL (zF hg0 hg1) (some C.g))
 have HT0:=zD (TrC.keep (zF hg0 hg1) (.none_ _ _) _ _ (.sub (Q:=fun b=>Q b∧b < R) (fun b hb hl=>⟨hb,by omega⟩) _ _ ht))
 have HRw:=zD hRw
 clear hr h ht hQ K hb0 hb1 hg0 hg1
 go_enter Tryz.func202,Tryz.ntmps202
 go_upto_region 1 with(fail)
 clear hW hW0 hRw hz0
 go_loopg [6] (C.L.length - s.k) (fun gk _ wr=>∃(x':Tr) (s':Ps) (e0 e1 e2 e3 e4 e5 e6 e7 e8:Value),C.L.length - s'.k≤gk∧s.k≤s'.k∧Hid (zI C.L (.both x') s'=r)∧Hid (Pa C s' wr)∧Hid (Bx wr R 72 [e0,e1,e2,e3,e4,e5,e6,e7,e8])∧Hid (Bx wr (R+1) 72 zFE)∧Hid (TrC wr (fun b=>(Q b∧b < R)∨R+1 < b) x' [e0,e1,e2,e3,e4,e5,e6,e7,e8])∧Hid (w.grownBy wr (some C.g)))
 case atStart=>exact⟨x,s,d0,d1,d2,d3,d4,d5,d6,d7,d8,Nat.le_refl _,Nat.le_refl _,HR.out,HP0.out,HB0.out,HX0.out,.sub (fun b hb _=>.inl hb) _ _ HT0.out,HG0.out⟩
 case round=>
  clear HR HP0 HB0 HX0 HT0 HG0
  obtain⟨x',s',e0,e1,e2,e3,e4,e5,e6,e7,e8,hgk,hsk,HR',HP',HB',HX',HT',HG'⟩:=hrel
  by_cases hon:onP C.L [38,38] s'=true
  · have HO:=zD hon
    have hlt:=zD (HL.out.on HP'.out.hi hon)
    clear hon
    go_wp2_with fail
    refine(zAe HP'.out [38,38] HO.out).mono ?_
    rintro ev w1 ⟨rfl,hp1,hg1⟩
    have HP1:=zD (show Pa C (stepP s') w1 from hp1)
    have HB1:=zD (HB'.out.grown hg1 (by simp;omega))
    have HX1:=zD (HX'.out.grown hg1 (by simp;omega))
    have HT1:=zD (TrC.keep hg1 (.box HP'.out.box (by decide) (by decide) (by
     rintro(h | h)
     · have:=HQ.out _ h.1;omega
     · omega)) _ _ HT'.out)
    have HG1:=zD (zF HG'.out hg1)
    clear hp1 hg1
    have CL:=zD (show Calls Tryz.prog 201 #[.pointer (some ⟨C.g,0,none⟩),.int .i64 0] w1.drew (zCk C (zI C.L (.level 0) (stepP s')) w1.drew)from HK.out.more (q:=.level 0) (s1:=stepP s') (w:=w1.drew) ⟨hlt.out,Nat.zero_le _⟩ HP1.out.drew (by show s.k < s'.k+1;omega))
    obtain⟨z0,z1,z2,z3,z4,z5,z6,z7,z8⟩:=HB1.out.nine
    have hsz:=HX1.out.lt
    have hbn:=zD (show w1.heap.size≤w1.drew.heap.size from Nat.le_refl _)
    go_wp2_with fail
    go_region_law (first | (go_simp;go_at_call 201;(with_reducible refine CL.out.mono ?_);rintro ev3 w3 ⟨a0,a1,a2,a3,a4,a5,a6,a7,a8,rfl,ht3,hp3,hg3⟩;have HT3:=zD ht3;have HP3:=zD hp3;have HG3:=zD hg3;clear ht3 hp3 hg3;have HB3:=zD (HB1.out.drew.grown HG3.out (by simp;omega));have HX3:=zD (HX1.out.drew.grown HG3.out (by simp;omega));obtain⟨z0,z1,z2,z3,z4,z5,z6,z7,z8⟩:=HB3.out.nine) | (go_simp;go_at_call 139;(with_reducible refine(zCE 47 ⟨#[38,38]⟩ (some ⟨w3.heap.size,0,none⟩) 2 2).mono ?_);rintro ev4 w4 ⟨rfl,hg4⟩;have HG4:=zD hg4;clear hg4;have HB4:=zD ((HB3.out.alloc _).grown HG4.out (by simp));obtain⟨z0,z1,z2,z3,z4,z5,z6,z7,z8⟩:=HB4.out.nine;obtain⟨f0,f1,f2,f3,f4,f5,f6,f7,f8⟩:=HB4.out.nineF))
    all_goals
     have hsz3:w1.heap.size≤w3.heap.size:=HG3.out.size
     have hpost:=zD (zV HL.out (p:=.level 0) (s:=stepP s') ⟨hlt.out,Nat.zero_le _⟩)
     have hadv:=hpost.out.adv.le
     have HT3':=zD (TrC.sub (Q:=fun b=>(Q b∧b < R)∨R+1 < b) (fun b (hb:w1.heap.size≤b) _=>.inr (by omega)) _ _ HT3.out)
     have HT1':=zD (TrC.keep HG3.out (.box HP1.out.drew.box (by decide) (by decide) (by
      rintro(h | h)
      · have:=HQ.out _ h.1;omega
      · omega)) _ _ (TrC.keep (zAc w1 none) (.none_ _ _) _ _ HT1.out))
     have HN:=zD (zOi 47 [38,38] HT1'.out HT3'.out (.inr (by omega)) HG4.out)
     have HP4:=zD ((HP3.out.alloc _).new HG4.out)
     have HG4':=zD (zF HG1.out (zF (zAc _ _) (zF HG3.out (zAL (zF (zL _ _ _) HG4.out) _))))
     have HX4:=zD ((HX3.out.alloc _).grown HG4.out (by simp))
     have HQR:=zD (show zI C.L (.both x') s'=zI C.L (.both (trN 47 [38,38] [x',(zI C.L (.level 0) (stepP s')).1])) (zI C.L (.level 0) (stepP s')).2 by
      rw[zt HL.out ⟨HP'.out.hi,trivial⟩]
      unfold zE
      dsimp only
      rw[if_pos HO.out])
     have hR4:=HB4.out.lt
     go_wp2_with fail
     have HV:=zOh (d0:=.int .i64 47) (d1:=.string ⟨#[38,38]⟩) (d2:=.slice none 0 0) (d3:=.int .i64 0) (d4:=.int .i64 0) (d5:=.bool false) (d6:=.slice none 0 0) (d7:=.slice none 0 0) (d8:=.slice (some ⟨w3.heap.size,0,none⟩) 2 2) HB4.out rfl (by rw[HRw.out];exact Nat.le_refl _) (by omega) HP4.out HG4'.out
     go_roundg (C.L.length - (zI C.L (.level 0) (stepP s')).2.k)
     case measure=>
      have:=hlt.out
      have:(stepP s').k=s'.k+1:=rfl
      omega
     case rel=>
      refine⟨_,_,_,_,_,_,_,_,_,_,_,Nat.le_refl _,?_,HQR.out.symm.trans HR'.out,HV.pa,HV.box,HX4.out.grown HV.from_ (by simp),TrC.keep HV.from_ (.box HB4.out (by decide) (by decide) (by omega)) _ _ HN.out,HV.grown⟩
      have:(stepP s').k=s'.k+1:=rfl
      omega
  · have HO:=zD (show onP C.L [38,38] s'=false by simpa using hon)
    clear hon
    go_wp2_with fail
    refine(zAe HP'.out [38,38] HO.out).mono ?_
    rintro ev w1 ⟨rfl,hp1,hg1⟩
    have HP1:=zD (show Pa C s' w1 from hp1)
    have HB1:=zD (HB'.out.grown hg1 (by simp;omega))
    have HX1:=zD (HX'.out.grown hg1 (by simp;omega))
    have HT1:=zD (TrC.keep hg1 (.box HP'.out.box (by decide) (by decide) (by
     rintro(h | h)
     · have:=HQ.out _ h.1;omega
     · omega)) _ _ HT'.out)
    have HG1:=zD (zF HG'.out hg1)
    clear hp1 hg1
    obtain⟨z0,z1,z2,z3,z4,z5,z6,z7,z8⟩:=HB1.out.nine
    obtain⟨y0,y1,y2,y3,y4,y5,y6,y7,y8⟩:=HX1.out.nine
    obtain⟨f0,f1,f2,f3,f4,f5,f6,f7,f8⟩:=HX1.out.nineF
    obtain⟨s0,s1,s2,s3,s4,s5,s6,s7,s8⟩:=HT1.out.sto
    have HQR:=zD (show zI C.L (.both x') s'=(x',s') by
     rw[zt HL.out ⟨HP'.out.hi,trivial⟩]
     unfold zE
     dsimp only
     rw[if_neg (by rw[HO.out];decide)])
    go_wp2_with fail
    refine zMd (zOg (Q:=Q) (r:=(x',s')) HX1.out rfl (by rw[HRw.out];omega) (by omega) (.sub (fun b hb _=>?_) _ _ HT1.out) HP1.out HG1.out) ?_
    · rw[HRw.out]
      rcases hb with hb | hb
      · exact⟨.inl hb.1,by omega⟩
      · exact⟨.inr (by omega),by omega⟩
    intro V hv
    obtain⟨q0,q1,q2,q3,q4,q5,q6,q7,q8⟩:=hv.box.nine
    refine bodyPost_ret (v:=.agg #[e0,e1,e2,e3,e4,e5,e6,e7,e8]) (by simp[results,Tryz.results202,go_sem,q0,q1,q2,q3,q4,q5,q6,q7,q8]) rfl ?_
    have e:r=(x',s'):=HR'.out.symm.trans HQR.out
    rw[e]
    exact hv.ans
theorem RowP.lt {w:World} {P:Nat→Prop} {v:Value} {l:List Tr} (h:RowP w P v l):∀b,v.ownBlock=some b→P b∧b < w.heap.size:=by
 obtain⟨ks,F,h⟩:=h
 exact fun b hb=>⟨h.blk b hb,(h.own.lt b hb).2⟩
theorem RowP.bounds {w:World} {P:Nat→Prop} {A:Option Addr} {n c:Nat} {l:List Tr} (h:RowP w P (.slice A n c) l):l.length=n∧n≤c∧c≤maxLen:=by
 obtain⟨A',c',e,h1,h2⟩:=h.shape
 injection e with e1 e2 e3
 subst e2 e3
 exact⟨rfl,h1,h2⟩
theorem RowP.fz {w:World} {P Q:Nat→Prop} {v:Value} {l:List Tr} (h:RowP w P v l) (hd:∀b,P b→b < w.heap.size→¬Q b):Fz w Q v.ownBlock:=by
 obtain⟨ks,F,h⟩:=h
 exact .own h.own fun b hb=>hd b (h.blk b hb) (h.own.lt b hb).2
theorem Bx.row {w w':World} {R:Nat} {T:TypeId} {cs:List Value} {P:Nat→Prop} {v:Value} {l:List Tr} (h:Bx w R T cs) (hr:RowP w P v l) (hP:¬P R) (hg:w.grownBy w' v.ownBlock):Bx w' R T cs:=
 h.grown hg (fun e=>hP (hr.lt R e).1)
theorem Pa.row {C:Pc} {s:Ps} {w w':World} {P:Nat→Prop} {v:Value} {l:List Tr} (h:Pa C s w) (hr:RowP w P v l) (hP:∀b,P b→C.g < b) (hg:w.grownBy w' v.ownBlock):Pa C s w':=
 h.grown hg (fun b hb=>hP b (hr.lt b hb).1)
theorem zFF {a w w':World} {r:Option Nat} {P:Nat→Prop} {v:Value} {l:List Tr} (h:a.grownBy w r) (hr:RowP w P v l) (hP:∀b,P b→a.heap.size≤b) (hg:w.grownBy w' v.ownBlock):a.grownBy w' r:=
 zGV h (fun b hb=>hP b (hr.lt b hb).1) hg
theorem zH0 {w1 w':World} {P Q:Nat→Prop} {A:Option Addr} {n cp cp':Nat} {l:List Tr} {t:Tr} {ks c:List Value} {F:Nat→Prop} {g:Nat} (hn:l.length=n) (h:RowK w1 P (.slice A n cp) l ks F) (ht:TrC w1 Q t c) (hQ:∀b,Q b→b < w1.heap.size→P b) (hQv:∀b,(Value.slice A n cp).ownBlock=some b→¬Q b) (hP:P w1.heap.size)
 (ho:w'.ownsRow 0 72 9 (.slice (some ⟨g,0,none⟩) (n+1) cp') (n+1) (ks++c)) (hg:w1.grownBy w' (Value.slice A n cp).ownBlock) (hw:(Value.slice A n cp).ownBlock=some g∨g=w1.heap.size):RowP w' P (.slice (some ⟨g,0,none⟩) (n+1) cp') (l++[t]):=by
 subst hn
 refine h.snoc ht hQ hQv hP ho hg ?_
 rcases hw with e | e
 · exact .inl e.symm
 · subst e;exact .inr rfl
section
variable {Pg:Program} {o:Oper} {a:Act} {w1:World} {Px Q:Nat→Prop} {A:Option Addr} {n cp:Nat} {l:List Tr} {t:Tr} {c0 c1 c2 c3 c4 c5 c6 c7 c8:Value}
theorem zGY {ops:Array Oper} {K:Act→World→Prop} {Qx:Exit→Act→World→Prop} {E:Prop} (hgd:o.guard=none) (s x:Operand)
 (ho:o.op=.call {callee:=.builtin .append,args:=#[s,x],argTypes:=#[70,70]})
 (hs:a.eval s=.slice A n cp) (hn:l.length=n) (hr:RowP w1 Px (.slice A n cp) l) (ht:TrC w1 Q t [c0,c1,c2,c3,c4,c5,c6,c7,c8]) (hQ:∀b,Q b→b < w1.heap.size→Px b) (hQv:∀b,(Value.slice A n cp).ownBlock=some b→¬Q b) (hP:Px (w1.heap.size+1)) (hl:n≤4097)
 (hx:a.eval x=.slice (some ⟨w1.heap.size,0,none⟩) 1 1)
 (h:∀A' cp' w',RowP w' Px (.slice A' (n+1) cp') (l++[t])→(w1.alloc (.cells #[c0,c1,c2,c3,c4,c5,c6,c7,c8] 72)).grownBy w' (Value.slice A n cp).ownBlock→K (a.put o.dst (.slice A' (n+1) cp')) w'):
 if Region.wanted o (yielded ops a.tmps)=true then Oper.wp Tryz.prog o a (w1.alloc (.cells #[c0,c1,c2,c3,c4,c5,c6,c7,c8] 72)) K Qx else E:=by
 obtain⟨ks,F,hk⟩:=hr
 obtain⟨i,hi,hz0,hz1,hz2⟩:=info_parts Tryz.info_pnode
 have hk2:=hk.keep (zL w1 (.cells #[c0,c1,c2,c3,c4,c5,c6,c7,c8] 72) none) (.none_ w1 Px)
 have ht1:TrC w1 (fun b=>Q b∧b < w1.heap.size) t [c0,c1,c2,c3,c4,c5,c6,c7,c8]:=.sub (fun b hb hl=>⟨hb,hl⟩) _ _ ht
 have ht2:=TrC.keep (zL w1 (.cells #[c0,c1,c2,c3,c4,c5,c6,c7,c8] 72) none) (.none_ _ _) _ _ ht1
 have hn':=hk2.own
 rw[hn]at hn'
 refine step_append_lies (w1.alloc (.cells #[c0,c1,c2,c3,c4,c5,c6,c7,c8] 72)) hgd s x 70 ho 0 72 i _ 9 144 Tryz.underlying70 hi hz0 hz1 hz2 rfl (by decide) (.slice A n cp) n ks hs hn' ⟨w1.heap.size,0,none⟩ 1 1 [c0,c1,c2,c3,c4,c5,c6,c7,c8] hx rfl (World.news_of_block (Bx.new w1 [c0,c1,c2,c3,c4,c5,c6,c7,c8] 72)) (fun u hu=>List.all_eq_true.1 ht.one u hu) (by decide) (by unfold maxLen;omega) (by omega) (Nat.zero_le _) _ rfl ?_
 intro g cap w' h2 h3 h4 _
 exact h _ _ w' (zH0 hn hk2 ht2 (fun b hb hl=>hQ b hb.1 hb.2) (fun b hb h5=>hQv b hb h5.1) (by simpa using hP) h2 h3 h4) h3
theorem zDH {ops:Array Oper} {rest:List Oper} {Qx:Exit→Act→World→Prop} (hgd:o.guard=none) (s x:Operand)
 (ho:o.op=.call {callee:=.builtin .append,args:=#[s,x],argTypes:=#[70,70]})
 (hs:a.eval s=.slice A n cp) (hn:l.length=n) (hr:RowP w1 Px (.slice A n cp) l) (ht:TrC w1 Q t [c0,c1,c2,c3,c4,c5,c6,c7,c8]) (hQ:∀b,Q b→b < w1.heap.size→Px b) (hQv:∀b,(Value.slice A n cp).ownBlock=some b→¬Q b) (hP:Px (w1.heap.size+1)) (hl:n≤4097)
 (hx:a.eval x=.slice (some ⟨w1.heap.size,0,none⟩) 1 1)
 (h:∀A' cp' w',RowP w' Px (.slice A' (n+1) cp') (l++[t])→(w1.alloc (.cells #[c0,c1,c2,c3,c4,c5,c6,c7,c8] 72)).grownBy w' (Value.slice A n cp).ownBlock→wpList Tryz.prog ops Qx rest (a.put o.dst (.slice A' (n+1) cp')) w'):
 wpList Tryz.prog ops Qx (o::rest) a (w1.alloc (.cells #[c0,c1,c2,c3,c4,c5,c6,c7,c8] 72)):=by
 obtain⟨ks,F,hk⟩:=hr
 obtain⟨i,hi,hz0,hz1,hz2⟩:=info_parts Tryz.info_pnode
 have hk2:=hk.keep (zL w1 (.cells #[c0,c1,c2,c3,c4,c5,c6,c7,c8] 72) none) (.none_ w1 Px)
 have ht1:TrC w1 (fun b=>Q b∧b < w1.heap.size) t [c0,c1,c2,c3,c4,c5,c6,c7,c8]:=.sub (fun b hb hl=>⟨hb,hl⟩) _ _ ht
 have ht2:=TrC.keep (zL w1 (.cells #[c0,c1,c2,c3,c4,c5,c6,c7,c8] 72) none) (.none_ _ _) _ _ ht1
 have hn':=hk2.own
 rw[hn]at hn'
 refine wpList_append_lies (w1.alloc (.cells #[c0,c1,c2,c3,c4,c5,c6,c7,c8] 72)) hgd s x 70 ho 0 72 i _ 9 144 Tryz.underlying70 hi hz0 hz1 hz2 rfl (by decide) (.slice A n cp) n ks hs hn' ⟨w1.heap.size,0,none⟩ 1 1 [c0,c1,c2,c3,c4,c5,c6,c7,c8] hx rfl (World.news_of_block (Bx.new w1 [c0,c1,c2,c3,c4,c5,c6,c7,c8] 72)) (fun u hu=>List.all_eq_true.1 ht.one u hu) (by decide) (by unfold maxLen;omega) (by omega) (Nat.zero_le _) _ rfl ?_
 intro g cap w' h2 h3 h4 _
 exact h _ _ w' (zH0 hn hk2 ht2 (fun b hb hl=>hQ b hb.1 hb.2) (fun b hb h5=>hQv b hb h5.1) (by simpa using hP) h2 h3 h4) h3
end
end Go.Proofs.YtlohaclgbfhijaaGreatDoor
