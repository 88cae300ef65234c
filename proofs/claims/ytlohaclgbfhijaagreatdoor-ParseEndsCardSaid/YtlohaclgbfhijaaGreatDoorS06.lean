/- Joined for the claim ParseEnds: the parser, the lexer and the trees as they are walked, made short by a program of mine. -/
import Derived.Test.YtlohaclgbfhijaaGreatDoorS05
import Derived.Deep.LoopGhost
import Derived.Test.YtlohaclgbfhijaaGreatDoorS04
import Derived.Laws.StandIn
import Derived.Lib.Bytealg
import Derived.Deep.CutBlock
import Derived.Deep.DeepCutAuto
set_option maxHeartbeats 16000000
set_option maxRecDepth 1000000
namespace Go.Proofs.YtlohaclgbfhijaaGreatDoor
open Go.RowKit
def Blk (w:World) (R:Nat) (cs:List Value):Prop:=R < w.heap.size∧∀j (h:j < cs.length),w.cell? ⟨R,j,none⟩=some cs[j]∧w.frozen? ⟨R,j,none⟩=false
def zAw:List Value:=[.int .i64 0,.string ⟨#[]⟩,.slice none 0 0,.int .i64 0,.int .i64 0,.bool false,.slice none 0 0,.int .i64 0,.bool false]
def noV:Value:=.agg #[.int .i64 0,.string ⟨#[]⟩,.slice none 0 0,.int .i64 0,.int .i64 0,.bool false,.slice none 0 0,.int .i64 0,.bool false]
theorem Blk.new (w:World) (cs:List Value) (T:TypeId):Blk (w.alloc (.cells cs.toArray T)) w.heap.size cs:=by
 refine⟨by simp,fun j h=>⟨?_,?_⟩⟩
 · rw[World.cell?_alloc_at _ _ _ _ rfl]
   simp[List.getElem?_eq_getElem h]
 · exact World.frozen?_alloc_at _ _ _ _ rfl
theorem Blk.grown {w w':World} {R g:Nat} {cs:List Value} (h:Blk w R cs) (hg:w.grownBy w' (some g)) (hne:R≠g):Blk w' R cs:=
 ⟨Nat.lt_of_lt_of_le h.1 hg.size,fun j hj=>⟨zBP hg (h.2 j hj).1 hne,(zCZ (p:=⟨R,j,none⟩) hg h.1 hne).trans (h.2 j hj).2⟩⟩
theorem Blk.below {w w':World} {R D:Nat} {cs:List Value} (h:Blk w R cs) (hb:Below D w w') (hR:R < D):Blk w' R cs:=
 ⟨Nat.lt_of_lt_of_le h.1 hb.size,fun j hj=>⟨(hb.cell (p:=⟨R,j,none⟩) hR).trans (h.2 j hj).1,(hb.frozen (p:=⟨R,j,none⟩) hR).trans (h.2 j hj).2⟩⟩
section
variable {w w0 w':World} {R:Nat} {cs:List Value} {v0 v1 v2 v3 v4 v5 v6 v7 v8:Value}
theorem Blk.cell {j:Nat} (h:Blk w R cs) (hj:j < cs.length):w.cell? ⟨R,j,none⟩=some cs[j]:=(h.2 j hj).1
theorem ze (h:Blk w R cs) (hl:cs.length=9):
 (((((((((w.setCell ⟨R,0,none⟩ v0).setCell ⟨R,1,none⟩ v1).setCell ⟨R,2,none⟩ v2).setCell ⟨R,3,none⟩ v3).setCell ⟨R,4,none⟩ v4).setCell ⟨R,5,none⟩ v5).setCell ⟨R,6,none⟩ v6).setCell ⟨R,7,none⟩ v7).setCell ⟨R,8,none⟩ v8).cell? ⟨R,0,none⟩=some v0∧(((((((((w.setCell ⟨R,0,none⟩ v0).setCell ⟨R,1,none⟩ v1).setCell ⟨R,2,none⟩ v2).setCell ⟨R,3,none⟩ v3).setCell ⟨R,4,none⟩ v4).setCell ⟨R,5,none⟩ v5).setCell ⟨R,6,none⟩ v6).setCell ⟨R,7,none⟩ v7).setCell ⟨R,8,none⟩ v8).cell? ⟨R,1,none⟩=some v1∧(((((((((w.setCell ⟨R,0,none⟩ v0).setCell ⟨R,1,none⟩ v1).setCell ⟨R,2,none⟩ v2).setCell ⟨R,3,none⟩ v3).setCell ⟨R,4,none⟩ v4).setCell ⟨R,5,none⟩ v5).setCell ⟨R,6,none⟩ v6).setCell ⟨R,7,none⟩ v7).setCell ⟨R,8,none⟩ v8).cell? ⟨R,2,none⟩=some v2∧(((((((((w.setCell ⟨R,0,none⟩ v0).setCell ⟨R,1,none⟩ v1).setCell ⟨R,2,none⟩ v2).setCell ⟨R,3,none⟩ v3).setCell ⟨R,4,none⟩ v4).setCell ⟨R,5,none⟩ v5).setCell ⟨R,6,none⟩ v6).setCell ⟨R,7,none⟩ v7).setCell ⟨R,8,none⟩ v8).cell? ⟨R,3,none⟩=some v3∧(((((((((w.setCell ⟨R,0,none⟩ v0).setCell ⟨R,1,none⟩ v1).setCell ⟨R,2,none⟩ v2).setCell ⟨R,3,none⟩ v3).setCell ⟨R,4,none⟩ v4).setCell ⟨R,5,none⟩ v5).setCell ⟨R,6,none⟩ v6).setCell ⟨R,7,none⟩ v7).setCell ⟨R,8,none⟩ v8).cell? ⟨R,4,none⟩=some v4∧(((((((((w.setCell ⟨R,0,none⟩ v0).setCell ⟨R,1,none⟩ v1).setCell ⟨R,2,none⟩ v2).setCell ⟨R,3,none⟩ v3).setCell ⟨R,4,none⟩ v4).setCell ⟨R,5,none⟩ v5).setCell ⟨R,6,none⟩ v6).setCell ⟨R,7,none⟩ v7).setCell ⟨R,8,none⟩ v8).cell? ⟨R,5,none⟩=some v5∧(((((((((w.setCell ⟨R,0,none⟩ v0).setCell ⟨R,1,none⟩ v1).setCell ⟨R,2,none⟩ v2).setCell ⟨R,3,none⟩ v3).setCell ⟨R,4,none⟩ v4).setCell ⟨R,5,none⟩ v5).setCell ⟨R,6,none⟩ v6).setCell ⟨R,7,none⟩ v7).setCell ⟨R,8,none⟩ v8).cell? ⟨R,6,none⟩=some v6∧(((((((((w.setCell ⟨R,0,none⟩ v0).setCell ⟨R,1,none⟩ v1).setCell ⟨R,2,none⟩ v2).setCell ⟨R,3,none⟩ v3).setCell ⟨R,4,none⟩ v4).setCell ⟨R,5,none⟩ v5).setCell ⟨R,6,none⟩ v6).setCell ⟨R,7,none⟩ v7).setCell ⟨R,8,none⟩ v8).cell? ⟨R,7,none⟩=some v7∧(((((((((w.setCell ⟨R,0,none⟩ v0).setCell ⟨R,1,none⟩ v1).setCell ⟨R,2,none⟩ v2).setCell ⟨R,3,none⟩ v3).setCell ⟨R,4,none⟩ v4).setCell ⟨R,5,none⟩ v5).setCell ⟨R,6,none⟩ v6).setCell ⟨R,7,none⟩ v7).setCell ⟨R,8,none⟩ v8).cell? ⟨R,8,none⟩=some v8:=by
 obtain⟨c0,f0⟩:=h.2 0 (by omega)
 obtain⟨c1,f1⟩:=h.2 1 (by omega)
 obtain⟨c2,f2⟩:=h.2 2 (by omega)
 obtain⟨c3,f3⟩:=h.2 3 (by omega)
 obtain⟨c4,f4⟩:=h.2 4 (by omega)
 obtain⟨c5,f5⟩:=h.2 5 (by omega)
 obtain⟨c6,f6⟩:=h.2 6 (by omega)
 obtain⟨c7,f7⟩:=h.2 7 (by omega)
 obtain⟨c8,f8⟩:=h.2 8 (by omega)
 refine⟨?_,?_,?_,?_,?_,?_,?_,?_,?_⟩
 all_goals go_simp
theorem zBG:w.grownBy (((((((((w.setCell ⟨R,0,none⟩ v0).setCell ⟨R,1,none⟩ v1).setCell ⟨R,2,none⟩ v2).setCell ⟨R,3,none⟩ v3).setCell ⟨R,4,none⟩ v4).setCell ⟨R,5,none⟩ v5).setCell ⟨R,6,none⟩ v6).setCell ⟨R,7,none⟩ v7).setCell ⟨R,8,none⟩ v8) (some R):=
 zF (zF (zF (zF (zF (zF (zF (zF (zR w R 0 v0) (zR _ R 1 v1)) (zR _ R 2 v2)) (zR _ R 3 v3)) (zR _ R 4 v4)) (zR _ R 5 v5)) (zR _ R 6 v6)) (zR _ R 7 v7)) (zR _ R 8 v8)
theorem zy {g n c k:Nat} {A:Option Addr} (h:Mv w0 w g A n c k) (hR:w0.heap.size≤R) (hg:g < w0.heap.size):Mv w0 (((((((((w.setCell ⟨R,0,none⟩ v0).setCell ⟨R,1,none⟩ v1).setCell ⟨R,2,none⟩ v2).setCell ⟨R,3,none⟩ v3).setCell ⟨R,4,none⟩ v4).setCell ⟨R,5,none⟩ v5).setCell ⟨R,6,none⟩ v6).setCell ⟨R,7,none⟩ v7).setCell ⟨R,8,none⟩ v8) g A n c k:=by
 have hs:=zBG (w:=w) (R:=R) (v0:=v0) (v1:=v1) (v2:=v2) (v3:=v3) (v4:=v4) (v5:=v5) (v6:=v6) (v7:=v7) (v8:=v8)
 refine⟨⟨zBP hs h.rd.c0 (show g≠R by omega),zBP hs h.rd.c1 (show g≠R by omega),(zCZ (p:=⟨g,1,none⟩) hs h.rd.lt (show g≠R by omega)).trans h.rd.f1⟩,?_⟩
 exact⟨hs.os.trans h.grown.os,hs.tape.trans h.grown.tape,hs.output.trans h.grown.output,Nat.le_trans h.grown.size hs.size,fun i hi hne=>(hs.block i (Nat.lt_of_lt_of_le hi h.grown.size) (fun e=>by injection e with e;omega)).trans (h.grown.block i hi hne)⟩
theorem zAh {base e:TypeId} {n:Nat} {v:Value} {xs:List Value} (h:w.ownsRow base e 1 v n xs) (hb:R < base):(((((((((w.setCell ⟨R,0,none⟩ v0).setCell ⟨R,1,none⟩ v1).setCell ⟨R,2,none⟩ v2).setCell ⟨R,3,none⟩ v3).setCell ⟨R,4,none⟩ v4).setCell ⟨R,5,none⟩ v5).setCell ⟨R,6,none⟩ v6).setCell ⟨R,7,none⟩ v7).setCell ⟨R,8,none⟩ v8).ownsRow base e 1 v n xs:=zBX h zBG hb
end
def zRi (w:World) (base:Nat) (t:Tok) (v:Value):Prop:=
 ∃vs vm,v=.agg #[.int .i64 (t.kind:Int),.string ⟨t.text.toArray⟩,vs,.int .i64 t.nk,.int .i64 t.nn,.bool false,vm,.int .i64 (t.pos:Int),.bool t.nl]∧
  w.ownsRow base 24 1 vs t.str.length (zAH t.str)∧w.ownsRow base 87 1 vm t.mag.length (t.mag.map fun n:Nat=>Value.int .u32 (n:Int))
theorem zEP {a b m k:Nat} {t s:Tok} (h:((a,t,m):Ans)=(b,s,k)):a=b∧t=s∧m=k:=by
 simp only[Prod.mk.injEq]at h
 exact h
theorem zBi {x e k:Nat} {s:Tok} (h:bad x=(e,s,k)):x=e∧zo=s∧0=k:=zEP h
theorem zJs {A:Option Addr} {c g B k n:Nat} {u:List UInt16} {w:World} (hr:Rd w g A n c k) (hn:u.length=n) (ha:Reads w B 1 A n (zAH u)) (hB:B≤g) (hk:k≤n) (hl:n≤4096) {m e:Nat} {t:Tok} (hq:zDD (u.drop k)=(e,t,m)):
 Calls Tryz.prog 67 #[.pointer (some ⟨g,0,none⟩)] w fun ev w'=>∃v,ev=.returned (.tuple #[v,.int .i64 (e:Int)])∧(e≠0→v=noV)∧(e=0→zRi w' w.heap.size t v∧Mv w w' g A n c (k+m))∧w.grownBy w' (some g):=by
 subst hn
 have hg:=hr.lt
 obtain⟨l,hll⟩:∃l,(u.drop k).takeWhile zA0=l:=⟨_,rfl⟩
 have hle:k+l.length≤u.length:=by
  have h1:=zAy zA0 (u.drop k)
  rw[hll,List.length_drop]at h1
  omega
 unfold zDD at hq
 rw[hll,List.drop_drop]at hq
 obtain⟨b,hb⟩:∃b,zi [92] (u.drop (k+l.length))=b:=⟨_,rfl⟩
 rw[hb]at hq
 have HL:=zD hll
 have HB:=zD hb
 have HQ:=zD hq
 have HA:=zD ha
 have hR:=zD (hr.alloc (.cells zAw.toArray 44))
 have hAl:=zD (ha.alloc (Nat.le_trans hB (Nat.le_of_lt hg)) (.cells zAw.toArray 44))
 have hZ:=zD (Blk.new w zAw 44)
 have hG0:=zD (zL w (.cells zAw.toArray 44) (some g))
 clear hll hb hq ha hr
 go_enter Tryz.func67,Tryz.ntmps67
 go_wp2_with fail
 refine(zOH hR.out rfl hAl.out hB hk hl HL.out).mono ?_
 rintro e1 w1 ⟨rfl,hM1⟩
 have hR1:=zD hM1.rd
 have hG1:=zD (zF hG0.out hM1.grown)
 have hA1:=zD (HA.out.grown hG1.out hB (Nat.le_of_lt hg))
 have hZ1:=zD (hZ.out.grown hM1.grown (by omega))
 clear hM1
 go_wp2_with fail
 refine(zAV ⟨#[92]⟩ hR1.out rfl hA1.out hle hl (by decide) HB.out).mono ?_
 rintro e2 w2 ⟨rfl,m2,hw2⟩
 have hM2:=zD (show Mv w w2 g A u.length c (k+l.length) by rw[hw2];exact⟨hR1.out.drewN m2,zF hG1.out (zAB _ _ _)⟩)
 have hZ2:=zD (show Blk w2 w.heap.size zAw by rw[hw2];exact hZ1.out.grown (zAB w1 (some g) m2) (by omega))
 clear hw2 m2 hR1 hG1 hA1 hZ1 hR hAl hZ hG0
 obtain⟨c0,f0⟩:=hZ2.out.2 0 (by decide)
 obtain⟨c1,f1⟩:=hZ2.out.2 1 (by decide)
 obtain⟨c2,f2⟩:=hZ2.out.2 2 (by decide)
 obtain⟨c3,f3⟩:=hZ2.out.2 3 (by decide)
 obtain⟨c4,f4⟩:=hZ2.out.2 4 (by decide)
 obtain⟨c5,f5⟩:=hZ2.out.2 5 (by decide)
 obtain⟨c6,f6⟩:=hZ2.out.2 6 (by decide)
 obtain⟨c7,f7⟩:=hZ2.out.2 7 (by decide)
 obtain⟨c8,f8⟩:=hZ2.out.2 8 (by decide)
 cases b with
 | true=>
  have hq:=HQ.out
  rw[if_pos rfl]at hq
  have HQ2:=zD hq
  clear hq
  go_wp2
  obtain⟨q0,q1,q2,q3,q4,q5,q6,q7,q8⟩:=ze (v0:=.int .i64 0) (v1:=.string ⟨#[]⟩) (v2:=.slice none 0 0) (v3:=.int .i64 0) (v4:=.int .i64 0) (v5:=.bool false) (v6:=.slice none 0 0) (v7:=.int .i64 0) (v8:=.bool false) hZ2.out rfl
  refine bodyPost_ret (v:=.tuple #[.agg #[.int .i64 0,.string ⟨#[]⟩,.slice none 0 0,.int .i64 0,.int .i64 0,.bool false,.slice none 0 0,.int .i64 0,.bool false],.int .i64 6]) (by simp[results,Tryz.results67,go_sem,q0,q1,q2,q3,q4,q5,q6,q7,q8]) rfl ?_
  obtain⟨z1,z2,z3⟩:=zBi HQ2.out
  subst z1
  exact⟨_,rfl,fun _=>rfl,fun h=>absurd h (by decide),(zy hM2.out (Nat.le_refl _) hg).grown⟩
 | false=>
  have hq:=HQ.out
  rw[if_neg (by simp)]at hq
  have HQ2:=zD hq
  clear hq
  by_cases hw:0 < zB2 (asc l)
  · have hq:=HQ2.out
    rw[if_pos hw]at hq
    have HQ3:=zD hq
    clear hq
    go_wp2_with (go_at_call 103;refine(zDZ _ _).mono ?_;rintro e3 w3 ⟨rfl,rfl⟩)
    obtain⟨q0,q1,q2,q3,q4,q5,q6,q7,q8⟩:=ze (v0:=.int .i64 6) (v1:=.string ⟨(asc l).toArray⟩) (v2:=.slice none 0 0) (v3:=.int .i64 0) (v4:=.int .i64 0) (v5:=.bool false) (v6:=.slice none 0 0) (v7:=.int .i64 0) (v8:=.bool false) hZ2.out rfl
    refine bodyPost_ret (v:=.tuple #[.agg #[.int .i64 6,.string ⟨(asc l).toArray⟩,.slice none 0 0,.int .i64 0,.int .i64 0,.bool false,.slice none 0 0,.int .i64 0,.bool false],.int .i64 0]) (by simp[results,Tryz.results67,go_sem,q0,q1,q2,q3,q4,q5,q6,q7,q8]) rfl ?_
    obtain⟨z1,z2,z3⟩:=zEP HQ3.out
    subst z1 z2 z3
    exact⟨_,rfl,fun h=>absurd rfl h,fun _=>⟨⟨_,_,rfl,World.ownsRow_nil _ _ _ _,World.ownsRow_nil _ _ _ _⟩,zy hM2.out (Nat.le_refl _) hg⟩,(zy hM2.out (Nat.le_refl _) hg).grown⟩
  · have hq:=HQ2.out
    rw[if_neg hw]at hq
    have HQ3:=zD hq
    clear hq
    go_wp2_with (go_at_call 103;refine(zDZ _ _).mono ?_;rintro e3 w3 ⟨rfl,rfl⟩)
    obtain⟨q0,q1,q2,q3,q4,q5,q6,q7,q8⟩:=ze (v0:=.int .i64 1) (v1:=.string ⟨(asc l).toArray⟩) (v2:=.slice none 0 0) (v3:=.int .i64 0) (v4:=.int .i64 0) (v5:=.bool false) (v6:=.slice none 0 0) (v7:=.int .i64 0) (v8:=.bool false) hZ2.out rfl
    refine bodyPost_ret (v:=.tuple #[.agg #[.int .i64 1,.string ⟨(asc l).toArray⟩,.slice none 0 0,.int .i64 0,.int .i64 0,.bool false,.slice none 0 0,.int .i64 0,.bool false],.int .i64 0]) (by simp[results,Tryz.results67,go_sem,q0,q1,q2,q3,q4,q5,q6,q7,q8]) rfl ?_
    obtain⟨z1,z2,z3⟩:=zEP HQ3.out
    subst z1 z2 z3
    exact⟨_,rfl,fun h=>absurd rfl h,fun _=>⟨⟨_,_,rfl,World.ownsRow_nil _ _ _ _,World.ownsRow_nil _ _ _ _⟩,zy hM2.out (Nat.le_refl _) hg⟩,(zy hM2.out (Nat.le_refl _) hg).grown⟩
theorem zJt (l r:List UInt16):∀v,zDy v (l++r)=zDy (zDy v l) r:=by
 induction l with
 | nil=>intro v;rfl
 | cons x l ih=>intro v;exact ih _
theorem zG3 (l:List UInt16) (x:UInt16):zDy 0 (l++[x])=16*zDy 0 l+zFy x:=by rw[zJt];rfl
theorem zS1 {a b:Nat} (ha:a < 4096) (hb:b < 16):bits .or .u16 ((16*a:Nat):Int) (b:Int)=((16*a+b:Nat):Int):=by
 have e1:(BitVec.ofInt 16 ((16*a:Nat):Int)).toNat=16*a:=by rw[BitVec.ofInt_natCast,BitVec.toNat_ofNat];omega
 have e2:(BitVec.ofInt 16 (b:Int)).toNat=b:=by rw[BitVec.ofInt_natCast,BitVec.toNat_ofNat];omega
 show IntKind.u16.wrap ((BitVec.ofInt 16 ((16*a:Nat):Int) ||| BitVec.ofInt 16 (b:Int)).toNat:Int)=_
 rw[BitVec.toNat_or,e1,e2,show 16*a=2^4*a from rfl,←Nat.two_pow_add_eq_or_of_lt (by omega:b < 2^4),IntKind.wrap_u16]
 omega
def AtCode (u:List UInt16) (k j v:Nat):Prop:=j≤(u.drop k).length∧v=zDy 0 ((u.drop k).take j)∧((u.drop k).take j).all zDN=true∧v < 16^j
theorem AtCode.step {u:List UInt16} {k j v:Nat} (h:AtCode u k j v) (hp:k+j < u.length) (hx:zDN u[k+j]=true):AtCode u k (j+1) (16*v+zFy u[k+j]):=by
 obtain⟨h1,h2,h3,h4⟩:=h
 have hjl:j < (u.drop k).length:=by rw[List.length_drop];omega
 have ht:(u.drop k).take (j+1)=(u.drop k).take j++[u[k+j]]:=by rw[List.take_succ_eq_append_getElem hjl,List.getElem_drop]
 have h16:zFy u[k+j] < 16:=of_decide_eq_true hx
 refine⟨by omega,by rw[ht,zG3,h2],by rw[ht,List.all_append,h3];simp[hx],?_⟩
 rw[Nat.pow_succ];omega
theorem AtCode.stepP {u:List UInt16} {k j v p:Nat} (h:AtCode u k j v) (e:p=k+j) (hp:p < u.length) (hx:zDN u[p]=true):AtCode u k (j+1) (16*v+zFy u[p]):=by
 subst e
 exact h.step hp hx
theorem AtCode.done {u:List UInt16} {k j v:Nat} (h:AtCode u k j v):zBr j (u.drop k)=(0,UInt16.ofNat v,j):=by
 obtain⟨h1,h2,h3,_⟩:=h
 unfold zBr
 rw[if_pos (by rw[h3,decide_eq_true h1];rfl),h2]
theorem AtCode.bad {u:List UInt16} {k j v cnt:Nat} (_h:AtCode u k j v) (hj:j < cnt) (hx:zAx 0 zDN (u.drop (k+j))=false):zBr cnt (u.drop k)=(5,0,0):=by
 unfold zBr
 rw[if_neg]
 intro hc
 simp only[Bool.and_eq_true,decide_eq_true_eq]at hc
 obtain⟨c1,c2⟩:=hc
 rw[List.length_drop]at c1
 have hp:k+j < u.length:=by omega
 have hm:u[k+j]∈(u.drop k).take cnt:=by
  rw[List.mem_iff_getElem?]
  exact⟨j,by rw[List.getElem?_take,if_pos hj,List.getElem?_drop,List.getElem?_eq_getElem hp]⟩
 have h4:=List.all_eq_true.1 c2 _ hm
 have h5:=zCe (u:=u) (k:=k+j) (j:=0) (p:=zDN) (by omega)
 rw[h5]at hx
 simp only[Nat.add_zero]at hx
 rw[h4]at hx
 cases hx
theorem zGF {A:Option Addr} {c g B k n cnt:Nat} {u:List UInt16} {w:World} (hr:Rd w g A n c k) (hn:u.length=n) (ha:Reads w B 1 A n (zAH u)) (hB:B≤g) (hk:k≤n) (hl:n≤4096) (hcnt:cnt≤4) {m e:Nat} {y:UInt16} (hq:zBr cnt (u.drop k)=(e,y,m)):
 Calls Tryz.prog 160 #[.pointer (some ⟨g,0,none⟩),.int .i64 (cnt:Int)] w fun ev w'=>ev=.returned (.tuple #[.int .u16 (y.toNat:Int),.int .i64 (e:Int)])∧(e=0→Mv w w' g A n c (k+m))∧w.grownBy w' (some g):=by
 subst hn
 have HQ:=zD hq
 have HA:=zD ha
 have hg:=hr.lt
 have hM0:=zD (Mv.refl hr)
 clear hq ha hr
 go_enter Tryz.func160,Tryz.ntmps160
 go_wp2
 go_loopg [6,8] cnt (fun r v i wr=>∃j vn p,j+r=cnt∧i=.int .i64 (j:Nat)∧v=.int .u16 (vn:Nat)∧vn < 65536∧Hid (p=k+j)∧Hid (Mv w wr g A u.length c p)∧Hid (AtCode u k j vn))
 case atStart=>exact⟨0,0,k,by omega,rfl,rfl,by omega,rfl,hM0,Nat.zero_le _,rfl,rfl,by decide⟩
 case round=>
  obtain⟨j,v,p,hjr,rfl,rfl,hv,hpj,hM,hat⟩:=hrel
  have har:=zD (HA.out.grown hM.out.grown hB (Nat.le_of_lt hg))
  have hjk:p≤u.length:=by have:=hat.out.1;have:=hpj.out;rw[List.length_drop]at *;omega
  by_cases hlt:j < cnt
  · cases hqx:zAx 0 zDN (u.drop p)with
    | true=>
     have hp:p < u.length:=by
      rcases Nat.lt_or_ge p u.length with h | h
      · exact h
      · rw[zCL (u:=u) (k:=p) (j:=0) (p:=zDN) (by omega)]at hqx;cases hqx
     have hxx:zDN u[p]=true:=by
      have h5:=zCe (u:=u) (k:=p) (j:=0) (p:=zDN) (by omega)
      rw[h5]at hqx
      simpa using hqx
     have hsp:=zD (hat.out.stepP hpj.out hp hxx)
     have h16:zFy u[p] < 16:=of_decide_eq_true hxx
     have hv4:v < 4096:=by
      have:=hat.out.2.2.2
      have h2:16^j≤16^3:=Nat.pow_le_pow_right (by omega) (by omega)
      omega
     have HI:=zD hqx
     clear hqx hxx
     go_wp2_with fail
     refine(zLW (j:=0) hM.out.rd rfl har.out hjk hl (by omega) HI.out).mono ?_
     rintro e1 w1 ⟨rfl,m1,hw1⟩
     have hM1:=zD (show Mv w w1 g A u.length c p by rw[hw1];exact hM.out.drewN m1)
     have har1:=zD (show Reads w1 B 1 A u.length (zAH u) by rw[hw1];exact har.out.drewN m1)
     clear hw1
     have hc0:=hM1.out.rd.c0
     have hc1:=hM1.out.rd.c1
     have hf1:=hM1.out.rd.f1
     obtain⟨blk,off,rfl,_,hcell⟩:=har1.out.spotL (by omega)
     have hca:=hcell p hp
     have hin:(p:Int) < (u.length:Int):=by omega
     obtain⟨x,hxx⟩:∃x,u[p]=x:=⟨_,rfl⟩
     rw[hxx]at hca hsp h16
     have HH:=zD (zS1 hv4 h16)
     clear hcell hxx
     go_wp2_with fail
     go_quiet (first | (go_at_call 192;refine Calls.quiet_of_same ((zHp _ _).mono fun _ _ h=>zCg h)))
     go_wp2
     go_roundg (gk - 1)
     case measure=>omega
     case rel=>
      refine⟨j+1,16*v+zFy x,p+1,by omega,by go_num,congrArg (Value.int .u16) (by rw[show(v:Int)*16=((16*v:Nat):Int) by omega];exact HH.out),by omega,?_,?_,hsp.out⟩
      · have:=hpj.out
        exact zD (by omega)
      · exact Mv.step (hM1.out.drewN _) (by omega)
    | false=>
     have HI:=zD hqx
     have hbad:=zD (hat.out.bad hlt (by rw[←hpj.out];exact hqx))
     clear hqx
     go_wp2_with fail
     refine(zLW (j:=0) hM.out.rd rfl har.out hjk hl (by omega) HI.out).mono ?_
     rintro e1 w1 ⟨rfl,m1,hw1⟩
     subst hw1
     go_wp2
     go_ret2
     have hz:=hbad.out
     rw[HQ.out]at hz
     simp only[Prod.mk.injEq]at hz
     obtain⟨z1,z2,z3⟩:=hz
     subst z1 z2 z3
     exact⟨rfl,fun h=>absurd h (by decide),(hM.out.drewN m1).grown⟩
  · obtain rfl:j=cnt:=by omega
    have hdn:=zD hat.out.done
    go_wp2
    go_ret2
    have hz:=hdn.out
    rw[HQ.out]at hz
    simp only[Prod.mk.injEq]at hz
    obtain⟨z1,z2,z3⟩:=hz
    subst z1 z2 z3
    refine⟨?_,fun _=>by rw[←hpj.out];exact hM.out,hM.out.grown⟩
    have:(UInt16.ofNat v).toNat=v:=by simp;omega
    rw[this];rfl
theorem zEp (s:ByteArray) (c:Int) (w:World):
 (callFunc 199 #[.string s,.int .u8 c]).run Tryz.prog w=.ok (.value (.int .i64 (Lib.indexByte s.data.toList c.toNat.toUInt8))) w:=by
 rw[run_callFunc_indexByte Tryz.func199 (by kernel_rfl) (by kernel_rfl) (by kernel_rfl) (by kernel_rfl),Lib.run_indexByteString]
 rfl
theorem zEQ (s:ByteArray) (c:Int) (w:World):Calls Tryz.prog 190 #[.string s,.int .u8 c] w fun e w'=>e=.returned (.int .i64 (Lib.indexByte s.data.toList c.toNat.toUInt8))∧w=w':=by
 have hx:=zEp s c
 go_enter Tryz.func190,Tryz.ntmps190
 go_wp2
 go_ret
 exact⟨rfl,rfl⟩
theorem zDA (s:ByteArray) (c:Int) (w:World) {i:Int} (hi:Lib.indexByte s.data.toList c.toNat.toUInt8=i):Calls Tryz.prog 159 #[.string s,.int .u8 c] w fun e w'=>e=.returned (.int .i64 i)∧w=w':=by
 subst hi
 go_enter Tryz.func159,Tryz.ntmps159
 go_wp2_with (go_at_call 190;refine(zEQ _ _ _).mono ?_;rintro e w' ⟨rfl,rfl⟩)
 go_ret
 exact⟨rfl,rfl⟩
def zQR (x:UInt16):Int:=Lib.indexByte [110,116,114,98,118,102] (IntKind.u8.wrap (x.toNat:Int)).toNat.toUInt8
theorem zMB {x:UInt16} (h:x.toNat < 128) (hs:zBs x=none):zQR x= -1:=by
 have e:(IntKind.u8.wrap (x.toNat:Int)).toNat=x.toNat:=by rw[IntKind.wrap_u8];omega
 unfold zQR
 rw[e]
 have hne:∀k:UInt16,k∈([110,116,114,98,118,102]:List UInt16)→x≠k:=by
  intro k hk he
  subst he
  revert hs
  simp only[List.mem_cons,List.mem_nil_iff,or_false]at hk
  rcases hk with rfl | rfl | rfl | rfl | rfl | rfl<;>decide
 have hb:∀k:UInt16,k∈([110,116,114,98,118,102]:List UInt16)→(k.toNat.toUInt8==x.toNat.toUInt8)=false:=by
  intro k hk
  have h1:=hne k hk
  rw[beq_eq_false_iff_ne]
  intro h2
  apply h1
  refine UInt16.toNat_inj.1 ?_
  have h3:=congrArg UInt8.toNat h2
  have h4:k.toNat < 128:=by
   simp only[List.mem_cons,List.mem_nil_iff,or_false]at hk
   rcases hk with rfl | rfl | rfl | rfl | rfl | rfl<;>decide
  simp at h3
  omega
 have b1:=hb 110 (by simp)
 have b2:=hb 116 (by simp)
 have b3:=hb 114 (by simp)
 have b4:=hb 98 (by simp)
 have b5:=hb 118 (by simp)
 have b6:=hb 102 (by simp)
 have c1:((110:UInt8)==x.toNat.toUInt8)=false:=b1
 have c2:((116:UInt8)==x.toNat.toUInt8)=false:=b2
 have c3:((114:UInt8)==x.toNat.toUInt8)=false:=b3
 have c4:((98:UInt8)==x.toNat.toUInt8)=false:=b4
 have c5:((118:UInt8)==x.toNat.toUInt8)=false:=b5
 have c6:((102:UInt8)==x.toNat.toUInt8)=false:=b6
 generalize x.toNat.toUInt8=z at c1 c2 c3 c4 c5 c6⊢
 simp only[Lib.indexByte,c1,c2,c3,c4,c5,c6,Bool.false_eq_true,if_false]
 rfl
theorem zGG {x y:UInt16} (h:zBs x=some y):(x=110∧y=10)∨(x=116∧y=9)∨(x=114∧y=13)∨(x=98∧y=8)∨(x=118∧y=11)∨(x=102∧y=12):=by
 unfold zBs at h
 repeat' split at h
 all_goals simp_all
theorem zQv {u:List UInt16} {k:Nat} (h:k < u.length):zC6 (u.drop k)=if(zBs u[k]).isSome=true then(0,(zBs u[k]).getD 0,1)else zQX u[k] (u.drop (k+1)):=by
 rw[List.drop_eq_getElem_cons h];rfl
theorem zMC (p:Nat×UInt16×Nat):(more 1 p).1=p.1∧(more 1 p).2.1=p.2.1∧(p.1=0→(more 1 p).2.2=1+p.2.2):=by
 unfold more
 split
 · rename_i h;exact⟨h.symm,rfl,fun _=>rfl⟩
 · rename_i h;exact⟨rfl,rfl,fun h2=>absurd h2 h⟩
theorem zER {a b c:Nat} {x y:UInt16} {d:Nat} (h:(a,x,b)=(c,y,d)):a=c∧x=y∧b=d:=by
 simp only[Prod.mk.injEq]at h
 exact h
theorem zHr {w wc w3:World} {g n c k e e1 m m1:Nat} {A:Option Addr} {y y1:UInt16} (h:more 1 (e1,y1,m1)=(e,y,m)) (hM:e1=0→Mv wc w3 g A n c (k+1+m1)) (hG:wc.grownBy w3 (some g)) (hw:w.grownBy wc (some g)):
 Ending.returned (.tuple #[.int .u16 (y1.toNat:Int),.int .i64 (e1:Int)])=.returned (.tuple #[.int .u16 (y.toNat:Int),.int .i64 (e:Int)])∧(e=0→Mv w w3 g A n c (k+m))∧w.grownBy w3 (some g):=by
 obtain⟨q1,q2,q3⟩:=zMC (e1,y1,m1)
 rw[h]at q1 q2 q3
 simp only at q1 q2 q3
 subst q1 q2
 refine⟨rfl,fun he=>?_,zF hw hG⟩
 have:=q3 he
 have hm:=hM he
 rw[show k+m=k+1+m1 by omega]
 exact⟨hm.rd,zF hw hm.grown⟩
theorem zES {A:Option Addr} {c g B k n:Nat} {u:List UInt16} {w:World} (hr:Rd w g A n c k) (hn:u.length=n) (ha:Reads w B 1 A n (zAH u)) (hB:B≤g) (hk:k≤n) (hl:n≤4096) {m e:Nat} {y:UInt16} (hq:zC6 (u.drop k)=(e,y,m)):
 Calls Tryz.prog 107 #[.pointer (some ⟨g,0,none⟩)] w fun ev w'=>ev=.returned (.tuple #[.int .u16 (y.toNat:Int),.int .i64 (e:Int)])∧(e=0→Mv w w' g A n c (k+m))∧w.grownBy w' (some g):=by
 subst hn
 have hg:=hr.lt
 have hc0:=hr.c0
 have hc1:=hr.c1
 have hf1:=hr.f1
 by_cases hlt:k < u.length
 · rw[zQv hlt]at hq
   have hM0:=zD (Mv.refl hr)
   have HA:=zD ha
   obtain⟨blk,off,rfl,_,hcell⟩:=ha.spotL (by omega)
   have hca:=hcell k hlt
   have hx:=u[k].toNat_lt
   obtain⟨x,hxx⟩:∃x,u[k]=x:=⟨_,rfl⟩
   rw[hxx]at hca hq hx
   have hlt2:(k:Int) < (u.length:Int):=by omega
   have hne:((k:Int)==(u.length:Int))=false:=beq_eq_false_iff_ne.2 (by omega)
   have HQ:=zD hq
   clear hcell hxx hq ha hr
   cases hs:zBs x with
   | some z=>
    have hq:=HQ.out
    rw[hs]at hq
    simp only[Option.isSome_some,if_true,Option.getD_some,Prod.mk.injEq]at hq
    obtain⟨q1,q2,q3⟩:=hq
    have HE:=zD q1
    have HY:=zD q2
    have HM:=zD q3
    clear q1 q2 q3 HQ
    rcases zGG hs with⟨rfl,rfl⟩ | ⟨rfl,rfl⟩ | ⟨rfl,rfl⟩ | ⟨rfl,rfl⟩ | ⟨rfl,rfl⟩ | ⟨rfl,rfl⟩
    all_goals clear hs
    all_goals
     go_enter Tryz.func107,Tryz.ntmps107
     go_wp2_with fail
     go_quiet (fail)
     go_wp2_with fail
     go_quiet (fail)
     go_wp2_with (go_at_call 159;refine(zDA _ _ _ (by rfl)).mono ?_;rintro e1 w1 ⟨rfl,rfl⟩)
     go_ret2
     obtain rfl:=HY.out
     obtain rfl:=HE.out
     exact⟨rfl,fun _=>by rw[←HM.out];exact(Mv.step (hM0.out.drewN _) (by omega)).below ((Below.refl _ _).alloc (Nat.le_refl _) _),((Mv.step (hM0.out.drewN _) (k':=k+1) (by omega)).below ((Below.refl _ _).alloc (Nat.le_refl _) _)).grown⟩
   | none=>
    have HR:=zD (show zQX x (u.drop (k+1))=(e,y,m) by have h:=HQ.out;rw[hs]at h;simpa using h)
    obtain⟨i,hi⟩:∃i,Lib.indexByte (⟨#[110,116,114,98,118,102]⟩:ByteArray).data.toList (IntKind.u8.wrap (x.toNat:Int)).toNat.toUInt8=i:=⟨_,rfl⟩
    have HI:=zD hi
    have hi1:x.toNat < 128→i= -1:=fun h=>by rw[←hi];exact zMB h hs
    have HI1:=zD hi1
    clear hi hi1 hs HQ
    go_enter Tryz.func107,Tryz.ntmps107
    go_wp2_with fail
    go_quiet (fail)
    go_wp2_with fail
    go_quiet (fail)
    go_upto_region 6 with(go_at_call 159;refine(zDA _ _ _ HI.out).mono ?_;rintro e1 w1 ⟨rfl,rfl⟩)
    go_cut [41] (fun v wx=>v=.bool false∧Hid (Mv w wx g (some ⟨blk,off,none⟩) u.length c (k+1)))
    case first=>
     by_cases hx8:x.toNat < 128
     · obtain rfl:=HI1.out hx8
       go_wp2_with fail
       go_meet
       exact⟨rfl,Mv.step (hM0.out.drewN _) (by omega)⟩
     · have hx9:¬(x.toNat:Int) < 128:=by omega
       go_wp2_with fail
       go_meet
       exact⟨rfl,Mv.step (hM0.out.drewN _) (by omega)⟩
    case rest=>
     obtain⟨hv,hM⟩:=hcut
     subst hv
     clear hc0 hc1 hf1 hca hne HI HI1 hM0
     have har:=zD (HA.out.grown hM.out.grown hB (Nat.le_of_lt hg))
     have hk1:k+1≤u.length:=hlt
     have hR:=HR.out
     unfold zQX at hR
     obtain⟨d,hd⟩:∃d,zAx 0 zQ (u.drop (k+1))=d:=⟨_,rfl⟩
     obtain⟨b,hb⟩:∃d,zi [123] (u.drop (k+1))=d:=⟨_,rfl⟩
     rw[hd,hb]at hR
     have HD:=zD hd
     have HB:=zD hb
     clear hd hb HR
     by_cases h48:x.toNat=48
     · have e48:((x.toNat:Int)==48)=true:=by rw[h48];rfl
       have hdg:zQ x=true:=zBB.2 (by omega)
       rw[h48]at hR
       cases d with
       | false=>
        have HZ:=zD (show(0,(0:UInt16),1)=(e,y,m) by simpa using hR)
        clear hR h48
        go_wp2_with (first | (go_at_call 71;refine(zAU (j:=0) hM.out.rd rfl har.out hk1 hl (by omega) HD.out).mono ?_;rintro e2 w2 ⟨rfl,m2,hw2⟩;subst hw2) | (go_at_call 68;refine(zAG _ _).mono ?_;rintro e2 w2 ⟨rfl,rfl⟩) | (go_at_call 63;refine(zAI _ _).mono ?_;rintro e2 w2 ⟨rfl,rfl⟩) | (go_at_call 100;refine(zAj _ _).mono ?_;rintro e2 w2 ⟨rfl,rfl⟩))
        go_ret2
        obtain⟨z1,z2,z3⟩:=zER HZ.out
        subst z1 z2 z3
        exact⟨rfl,fun _=>hM.out.drewN _,(hM.out.drewN _).grown⟩
       | true=>
        have HZ:=zD (show(5,(0:UInt16),0)=(e,y,m) by rw[hdg]at hR;simpa using hR)
        clear hR h48
        go_wp2_with (first | (go_at_call 71;refine(zAU (j:=0) hM.out.rd rfl har.out hk1 hl (by omega) HD.out).mono ?_;rintro e2 w2 ⟨rfl,m2,hw2⟩;subst hw2) | (go_at_call 68;refine(zAG _ _).mono ?_;rintro e2 w2 ⟨rfl,rfl⟩) | (go_at_call 63;refine(zAI _ _).mono ?_;rintro e2 w2 ⟨rfl,rfl⟩) | (go_at_call 100;refine(zAj _ _).mono ?_;rintro e2 w2 ⟨rfl,rfl⟩))
        go_ret2
        obtain⟨z1,z2,z3⟩:=zER HZ.out
        subst z1 z2 z3
        exact⟨rfl,fun h=>absurd h (by decide),(hM.out.drewN _).grown⟩
     have e48:((x.toNat:Int)==48)=false:=beq_eq_false_iff_ne.2 (by omega)
     rw[show(x.toNat==48)=false from beq_eq_false_iff_ne.2 h48]at hR
     simp only[Bool.false_and,Bool.false_eq_true,if_false]at hR
     clear h48
     cases hdg:zQ x with
     | true=>
      rw[hdg,if_pos rfl]at hR
      have HZ:=zD hR
      clear hR
      go_wp2_with (first | (go_at_call 71;refine(zAU (j:=0) hM.out.rd rfl har.out hk1 hl (by omega) HD.out).mono ?_;rintro e2 w2 ⟨rfl,m2,hw2⟩;subst hw2) | (go_at_call 68;refine(zAG _ _).mono ?_;rintro e2 w2 ⟨rfl,rfl⟩) | (go_at_call 63;refine(zAI _ _).mono ?_;rintro e2 w2 ⟨rfl,rfl⟩) | (go_at_call 100;refine(zAj _ _).mono ?_;rintro e2 w2 ⟨rfl,rfl⟩))
      go_ret2
      obtain⟨z1,z2,z3⟩:=zER HZ.out
      subst z1 z2 z3
      exact⟨rfl,fun h=>absurd h (by decide),hM.out.grown⟩
     | false=>
      rw[hdg]at hR
      simp only[Bool.false_eq_true,if_false]at hR
      cases hln:zw x with
      | true=>
       rw[hln]at hR
       have HZ:=zD (show(6,(0:UInt16),0)=(e,y,m) by simpa using hR)
       clear hR
       go_wp2_with (first | (go_at_call 71;refine(zAU (j:=0) hM.out.rd rfl har.out hk1 hl (by omega) HD.out).mono ?_;rintro e2 w2 ⟨rfl,m2,hw2⟩;subst hw2) | (go_at_call 68;refine(zAG _ _).mono ?_;rintro e2 w2 ⟨rfl,rfl⟩) | (go_at_call 63;refine(zAI _ _).mono ?_;rintro e2 w2 ⟨rfl,rfl⟩) | (go_at_call 100;refine(zAj _ _).mono ?_;rintro e2 w2 ⟨rfl,rfl⟩))
       go_ret2
       obtain⟨z1,z2,z3⟩:=zER HZ.out
       subst z1 z2 z3
       exact⟨rfl,fun h=>absurd h (by decide),hM.out.grown⟩
      | false=>
       rw[hln]at hR
       cases hfr:zFR x with
       | true=>
        rw[hfr]at hR
        have HZ:=zD (show(6,(0:UInt16),0)=(e,y,m) by simpa using hR)
        clear hR
        go_wp2_with (first | (go_at_call 71;refine(zAU (j:=0) hM.out.rd rfl har.out hk1 hl (by omega) HD.out).mono ?_;rintro e2 w2 ⟨rfl,m2,hw2⟩;subst hw2) | (go_at_call 68;refine(zAG _ _).mono ?_;rintro e2 w2 ⟨rfl,rfl⟩) | (go_at_call 63;refine(zAI _ _).mono ?_;rintro e2 w2 ⟨rfl,rfl⟩) | (go_at_call 100;refine(zAj _ _).mono ?_;rintro e2 w2 ⟨rfl,rfl⟩))
        go_ret2
        obtain⟨z1,z2,z3⟩:=zER HZ.out
        subst z1 z2 z3
        exact⟨rfl,fun h=>absurd h (by decide),hM.out.grown⟩
       | false=>
        rw[hfr]at hR
        by_cases h117:x.toNat=117
        · have e117:((x.toNat:Int)==117)=true:=by rw[h117];rfl
          have e120:((x.toNat:Int)==120)=false:=by rw[h117];rfl
          rw[h117]at hR
          clear h117
          cases b with
          | true=>
           have HZ:=zD (show(6,(0:UInt16),0)=(e,y,m) by simpa using hR)
           clear hR
           go_wp2_with (first | (go_at_call 71;refine(zAU (j:=0) hM.out.rd rfl har.out hk1 hl (by omega) HD.out).mono ?_;rintro e2 w2 ⟨rfl,m2,hw2⟩;subst hw2) | (go_at_call 68;refine(zAG _ _).mono ?_;rintro e2 w2 ⟨rfl,rfl⟩) | (go_at_call 63;refine(zAI _ _).mono ?_;rintro e2 w2 ⟨rfl,rfl⟩) | (go_at_call 100;refine(zAj _ _).mono ?_;rintro e2 w2 ⟨rfl,rfl⟩) | (go_at_call 64;refine(zAV ⟨#[123]⟩ hM.out.rd rfl har.out hk1 hl (by decide) HB.out).mono ?_;rintro e2 w2 ⟨rfl,m2,hw2⟩;subst hw2))
           go_ret2
           obtain⟨z1,z2,z3⟩:=zER HZ.out
           subst z1 z2 z3
           exact⟨rfl,fun h=>absurd h (by decide),(hM.out.drewN _).grown⟩
          | false=>
           have hR2:more 1 (zBr 4 (u.drop (k+1)))=(e,y,m):=by simpa using hR
           obtain⟨⟨e1,y1,m1⟩,hcq⟩:∃z,zBr 4 (u.drop (k+1))=z:=⟨_,rfl⟩
           rw[hcq]at hR2
           have HZ:=zD hR2
           have HCQ:=zD hcq
           clear hR hR2 hcq
           go_wp2_with (first | (go_at_call 71;refine(zAU (j:=0) hM.out.rd rfl har.out hk1 hl (by omega) HD.out).mono ?_;rintro e2 w2 ⟨rfl,m2,hw2⟩;subst hw2) | (go_at_call 68;refine(zAG _ _).mono ?_;rintro e2 w2 ⟨rfl,rfl⟩) | (go_at_call 63;refine(zAI _ _).mono ?_;rintro e2 w2 ⟨rfl,rfl⟩) | (go_at_call 100;refine(zAj _ _).mono ?_;rintro e2 w2 ⟨rfl,rfl⟩) | (go_at_call 64;refine(zAV ⟨#[123]⟩ hM.out.rd rfl har.out hk1 hl (by decide) HB.out).mono ?_;rintro e2 w2 ⟨rfl,m2,hw2⟩;subst hw2) | (go_at_call 160;refine(zGF (cnt:=4) (hM.out.rd.drewN _) rfl (har.out.drewN _) hB hk1 hl (by omega) HCQ.out).mono ?_;rintro e3 w3 ⟨rfl,hM3,hG3⟩))
           go_ret2
           exact zHr HZ.out hM3 hG3 (hM.out.drewN _).grown
        · have e117:((x.toNat:Int)==117)=false:=beq_eq_false_iff_ne.2 (by omega)
          rw[show(x.toNat==117)=false from beq_eq_false_iff_ne.2 h117]at hR
          simp only[Bool.or_self,Bool.false_and,Bool.false_eq_true,if_false]at hR
          by_cases h120:x.toNat=120
          · have e120:((x.toNat:Int)==120)=true:=by rw[h120];rfl
            rw[if_pos h120]at hR
            obtain⟨⟨e1,y1,m1⟩,hcq⟩:∃z,zBr 2 (u.drop (k+1))=z:=⟨_,rfl⟩
            rw[hcq]at hR
            have HZ:=zD hR
            have HCQ:=zD hcq
            clear hR hcq h117 h120
            go_wp2_with (first | (go_at_call 71;refine(zAU (j:=0) hM.out.rd rfl har.out hk1 hl (by omega) HD.out).mono ?_;rintro e2 w2 ⟨rfl,m2,hw2⟩;subst hw2) | (go_at_call 68;refine(zAG _ _).mono ?_;rintro e2 w2 ⟨rfl,rfl⟩) | (go_at_call 63;refine(zAI _ _).mono ?_;rintro e2 w2 ⟨rfl,rfl⟩) | (go_at_call 100;refine(zAj _ _).mono ?_;rintro e2 w2 ⟨rfl,rfl⟩) | (go_at_call 64;refine(zAV ⟨#[123]⟩ hM.out.rd rfl har.out hk1 hl (by decide) HB.out).mono ?_;rintro e2 w2 ⟨rfl,m2,hw2⟩;subst hw2) | (go_at_call 160;refine(zGF (cnt:=2) hM.out.rd rfl har.out hB hk1 hl (by omega) HCQ.out).mono ?_;rintro e3 w3 ⟨rfl,hM3,hG3⟩))
            go_ret2
            exact zHr HZ.out hM3 hG3 hM.out.grown
          · have e120:((x.toNat:Int)==120)=false:=beq_eq_false_iff_ne.2 (by omega)
            rw[if_neg h120,if_neg h117]at hR
            have HZ:=zD hR
            clear hR h117 h120
            go_wp2_with (first | (go_at_call 71;refine(zAU (j:=0) hM.out.rd rfl har.out hk1 hl (by omega) HD.out).mono ?_;rintro e2 w2 ⟨rfl,m2,hw2⟩;subst hw2) | (go_at_call 68;refine(zAG _ _).mono ?_;rintro e2 w2 ⟨rfl,rfl⟩) | (go_at_call 63;refine(zAI _ _).mono ?_;rintro e2 w2 ⟨rfl,rfl⟩) | (go_at_call 100;refine(zAj _ _).mono ?_;rintro e2 w2 ⟨rfl,rfl⟩) | (go_at_call 64;refine(zAV ⟨#[123]⟩ hM.out.rd rfl har.out hk1 hl (by decide) HB.out).mono ?_;rintro e2 w2 ⟨rfl,m2,hw2⟩;subst hw2))
            go_ret2
            obtain⟨z1,z2,z3⟩:=zER HZ.out
            subst z1 z2 z3
            exact⟨rfl,fun _=>hM.out,hM.out.grown⟩
 · obtain rfl:k=u.length:=by omega
   rw[List.drop_length]at hq
   have HQ:=zD hq
   have hM0:=zD (Mv.refl hr)
   clear hq hr ha
   go_enter Tryz.func107,Tryz.ntmps107
   go_wp2_with fail
   go_quiet (fail)
   go_wp2
   go_ret2
   have hq:=HQ.out
   simp only[zC6,Prod.mk.injEq]at hq
   obtain⟨q1,q2,q3⟩:=hq
   subst q1 q2 q3
   exact⟨rfl,fun h=>absurd h (by decide),(hM0.out.drewN _).grown⟩
theorem zOI (q:UInt16):∀(f g:Nat) (l:List UInt16) (acc:List UInt16),l.length < f→l.length < g→zCX q f l acc=zCX q g l acc:=by
 intro f
 induction f with
 | zero=>intro g l acc hf _;omega
 | succ f ih=>
  intro g l acc hf hg
  obtain⟨g,rfl⟩:∃m,g=m+1:=⟨g - 1,by omega⟩
  cases l with
  | nil=>rfl
  | cons x r=>
   simp only[List.length_cons]at hf hg
   unfold zCX
   rw[ih g r (acc++[x]) (by omega) (by omega)]
   by_cases he:(zC6 r).1≠0
   · simp only[he,if_true,ne_eq,not_false_eq_true]
   · have h5:=zDn (Decidable.not_not.1 he)
     rw[ih g (r.drop (zC6 r).2.2) (acc++[(zC6 r).2.1]) (by rw[List.length_drop];omega) (by rw[List.length_drop];omega)]
def zDr (q:UInt16) (l acc:List UInt16):Nat×List UInt16×Nat:=zCX q (l.length+1) l acc
def zGH (n:Nat) (p:Nat×List UInt16×Nat):Nat×List UInt16×Nat:=(p.1,p.2.1,n+p.2.2)
theorem zOJ (q:UInt16) (acc:List UInt16):zDr q [] acc=(5,[],0):=rfl
theorem zMD {q x:UInt16} {r acc:List UInt16} (h:zw x=true):zDr q (x::r) acc=(5,[],0):=by
 unfold zDr;rw[zCX,if_pos h]
theorem zOK {q:UInt16} {r acc:List UInt16} (h:zw q=false):zDr q (q::r) acc=(0,acc,1):=by
 unfold zDr;rw[zCX,if_neg (by rw[h];simp),if_pos rfl]
theorem zJu {q x:UInt16} {r acc:List UInt16} (h:zw x=false) (h2:x≠q) (h3:x.toNat≠92):zDr q (x::r) acc=zGH 1 (zDr q r (acc++[x])):=by
 unfold zDr;rw[zCX,if_neg (by rw[h];simp),if_neg h2,if_neg h3];rfl
theorem zOL {q x:UInt16} {r acc:List UInt16} (h:zw x=false) (h2:x≠q) (h3:x.toNat=92) (h4:(zC6 r).1≠0):zDr q (x::r) acc=((zC6 r).1,[],0):=by
 unfold zDr;rw[zCX,if_neg (by rw[h];simp),if_neg h2,if_pos h3,if_pos h4]
theorem zOM {q x y:UInt16} {r acc:List UInt16} {n:Nat} (h:zw x=false) (h2:x≠q) (h3:x.toNat=92) (h4:zC6 r=(0,y,n)):zDr q (x::r) acc=zGH (1+n) (zDr q (r.drop n) (acc++[y])):=by
 have h5:=zDn (l:=r) (by rw[h4])
 rw[h4]at h5
 unfold zDr
 rw[zCX,if_neg (by rw[h];simp),if_neg h2,if_pos h3,h4,if_neg (by simp)]
 simp only[List.length_cons]
 rw[zOI q (r.length+1) ((r.drop n).length+1) _ _ (by rw[List.length_drop];omega) (by omega)]
 rfl
theorem Blk.grownR {w w':World} {R:Nat} {row:Option Nat} {cs:List Value} (h:Blk w R cs) (hg:w.grownBy w' row) (hne:some R≠row):Blk w' R cs:=
 ⟨Nat.lt_of_lt_of_le h.1 hg.size,fun j hj=>⟨hg.cell (h.2 j hj).1 hne,(World.frozen?_of_block (w:=w) (hg.block R h.1 hne)).trans (h.2 j hj).2⟩⟩
theorem Blk.set {w:World} {R i:Nat} {cs:List Value} (h:Blk w R cs) (hi:i < cs.length) (v:Value):Blk (w.setCell ⟨R,i,none⟩ v) R (cs.set i v):=by
 refine⟨by simp;exact h.1,fun j hj=>?_⟩
 rw[List.length_set]at hj
 obtain⟨c1,f1⟩:=h.2 j hj
 obtain⟨c2,f2⟩:=h.2 i hi
 by_cases e:i=j
 · subst e
   refine⟨?_,by go_simp⟩
   rw[List.getElem_set_self]
   go_simp
 · refine⟨?_,by go_simp⟩
   rw[List.getElem_set_ne e]
   have:(⟨R,i,none⟩:Addr)≠⟨R,j,none⟩:=fun h=>e (by injection h)
   go_simp
theorem Blk.setOther {w:World} {R S i:Nat} {cs:List Value} (h:Blk w R cs) (hne:S≠R) (v:Value):Blk (w.setCell ⟨S,i,none⟩ v) R cs:=
 h.grownR (zR w S i v) (by intro e;injection e with e;exact hne e.symm)
def zE9 (v:Value):List Value:=[.int .i64 4,.string ⟨#[]⟩,v,.int .i64 0,.int .i64 0,.bool false,.slice none 0 0,.int .i64 0,.bool false]
structure QuoS (w wr:World) (g:Nat) (A:Option Addr) (n c p:Nat) (v:Value) (acc:List UInt16):Prop where
 mv:Mv w wr g A n c p
 zero:Blk wr w.heap.size zAw
 tok:Blk wr (w.heap.size+1) (zE9 v)
 own:wr.ownsRow (w.heap.size+2) 24 1 v acc.length (zAH acc)
theorem QuoS.mov {w wr w':World} {g n c p p':Nat} {A:Option Addr} {v:Value} {acc:List UInt16} (h:QuoS w wr g A n c p v acc) (hg:g < w.heap.size) (hm:Mv wr w' g A n c p'):QuoS w w' g A n c p' v acc:=
 ⟨h.mv.then hm,h.zero.grown hm.grown (by omega),h.tok.grown hm.grown (by omega),zBX h.own hm.grown (by omega)⟩
theorem QuoS.app {w wr w':World} {g n c p:Nat} {A:Option Addr} {v v':Value} {acc acc':List UInt16} (h:QuoS w wr g A n c p v acc) (hg:g < w.heap.size) (hgr:wr.grownBy w' v.ownBlock)
 (ho:w'.ownsRow (w.heap.size+2) 24 1 v' acc'.length (zAH acc')):QuoS w (w'.setCell ⟨w.heap.size+1,2,none⟩ v') g A n c p v' acc':=by
 have hne:∀k,k < w.heap.size+2→some k≠v.ownBlock:=fun k hk e=>by have:=(h.own.lt k e.symm).1;omega
 have hrd:Rd w' g A n c p:=⟨hgr.cell h.mv.rd.c0 (hne g (by omega)),hgr.cell h.mv.rd.c1 (hne g (by omega)),(World.frozen?_of_block (w:=wr) (hgr.block g h.mv.rd.lt (hne g (by omega)))).trans h.mv.rd.f1⟩
 have hs:=zR w' (w.heap.size+1) 2 v'
 refine⟨⟨⟨zBP hs hrd.c0 (show g≠w.heap.size+1 by omega),zBP hs hrd.c1 (show g≠w.heap.size+1 by omega),(zCZ (p:=⟨g,1,none⟩) hs hrd.lt (show g≠w.heap.size+1 by omega)).trans hrd.f1⟩,?_⟩,?_,?_,?_⟩
 · refine⟨hs.os.trans (hgr.os.trans h.mv.grown.os),hs.tape.trans (hgr.tape.trans h.mv.grown.tape),hs.output.trans (hgr.output.trans h.mv.grown.output),Nat.le_trans h.mv.grown.size (Nat.le_trans hgr.size hs.size),fun k hk hk2=>?_⟩
   have hkr:=Nat.lt_of_lt_of_le hk h.mv.grown.size
   exact(hs.block k (Nat.lt_of_lt_of_le hkr hgr.size) (by intro e;injection e with e;omega)).trans ((hgr.block k hkr (hne k (by omega))).trans (h.mv.grown.block k hk hk2))
 · exact(h.zero.grownR hgr (hne _ (by omega))).setOther (by omega) _
 · exact(h.tok.grownR hgr (hne _ (by omega))).set (by simp[zE9]) _
 · exact zBX ho hs (by omega)
section
variable {P:Program} {w:World} {ops:Array Oper} {rest:List Oper} {o:Oper} {a:Act} {Q:Exit→Act→World→Prop}
theorem zET (hgd:o.guard=none) (s x:Operand) (t:TypeId)
 (ho:o.op=.call {callee:=.builtin .append,args:=#[s,x],argTypes:=#[t,t]})
 (e:TypeId) (i:TypeInfo) (z:Value) (bytes:Nat) (ht:P.underlying t=some (.slice e)) (hi:P.info? e=some i) (hz:i.zero=some z)
 (hsize:i.size=1) (hby:i.bytes=bytes) (hzs:z.cells.size=1) (base:Nat) (hbase:base≤w.heap.size)
 (v:Value) (xs:List Value) (k:Nat) (hk:xs.length=k) (hs:a.eval s=v) (hm:w.ownsRow base e 1 v k xs)
 (cs:List Value) (m c:Nat) (hx:a.eval x=.slice (some ⟨w.heap.size,0,none⟩) m c) (hl:cs.length=m) (h1:(cs.all fun u=>u.oneCell')=true)
 (hsz:xs.length+m≤70368744177664) (hb2:bytes≤2)
 (h:∀v' w',w'.ownsRow base e 1 v' (xs++cs).length (xs++cs)→w.grownBy w' v.ownBlock→wpList P ops Q rest (a.put o.dst v') w'):wpList P ops Q (o::rest) a (w.alloc (.cells cs.toArray e)):=by
 subst hl hk
 refine wpList_append_own (w.alloc (.cells cs.toArray e)) hgd s x t ho base e i z 1 bytes ht hi hz hsize hby hzs (by omega) v xs.length xs hs (hm.alloc _) ⟨w.heap.size,0,none⟩ _ c cs hx (by omega) ?_ (fun u hu=>List.all_eq_true.1 h1 u hu) (by unfold maxLen;omega) ?_ (Nat.le_trans hbase (by simp)) ?_
 · intro j u hu
   rw[Addr.add_lit,World.cell?_alloc_at _ _ _ _ rfl]
   simpa using hu
 · calc (xs.length+cs.length)*bytes≤70368744177664*2:=Nat.mul_le_mul hsz hb2
    _≤140737488355328:=by omega
 · intro v' w' h1 h2 _
   exact h v' w' (by rw[List.length_append];exact h1) (zF (zL w _ _) h2)
end
theorem zAK {w0 w:World} {R g:Nat} {v0 v1 v2 v3 v4 v5 v6 v7 v8:Value} (h:w0.grownBy w (some g)) (hR:w0.heap.size≤R):w0.grownBy (((((((((w.setCell ⟨R,0,none⟩ v0).setCell ⟨R,1,none⟩ v1).setCell ⟨R,2,none⟩ v2).setCell ⟨R,3,none⟩ v3).setCell ⟨R,4,none⟩ v4).setCell ⟨R,5,none⟩ v5).setCell ⟨R,6,none⟩ v6).setCell ⟨R,7,none⟩ v7).setCell ⟨R,8,none⟩ v8) (some g):=by
 have hs:=zBG (w:=w) (R:=R) (v0:=v0) (v1:=v1) (v2:=v2) (v3:=v3) (v4:=v4) (v5:=v5) (v6:=v6) (v7:=v7) (v8:=v8)
 exact⟨hs.os.trans h.os,hs.tape.trans h.tape,hs.output.trans h.output,Nat.le_trans h.size hs.size,fun i hi hne=>(hs.block i (Nat.lt_of_lt_of_le hi h.size) (fun e=>by injection e with e;omega)).trans (h.block i hi hne)⟩
def zQw (q:UInt16) (u:List UInt16) (k p:Nat) (acc:List UInt16):Prop:=∃i,p=k+1+i∧zDr q (u.drop (k+1)) []=zGH i (zDr q (u.drop p) acc)
theorem zG4 {q:UInt16} {r:List UInt16} {e e' m:Nat} {t:Tok} (h:zAr q r=(e,t,m)) (h2:(zDr q r []).1=e') (he:e'≠0):e'=e:=by
 subst h2
 have hq:zIN q r=zDr q r []:=rfl
 unfold zAr at h
 rw[hq,if_pos he]at h
 exact(zBi h).1
theorem zGI {q:UInt16} {r s:List UInt16} {e m i:Nat} {t:Tok} (h:zAr q r=(e,t,m)) (h2:zDr q r []=(0,s,i)):e=0∧t={zo with kind:=4,str:=s}∧m=1+i:=by
 unfold zAr at h
 have:zIN q r=zDr q r []:=rfl
 rw[this,h2,if_neg (by simp)]at h
 obtain⟨h1,h3,h4⟩:=zEP h
 exact⟨h1.symm,h3.symm,h4.symm⟩
theorem zGJ (l:List UInt16) (x:UInt16):zAH l++[.int .u16 (x.toNat:Int)]=zAH (l++[x]):=by simp[zAH,zRj]
theorem zEU {A:Option Addr} {c g B k n:Nat} {u:List UInt16} {w:World} (hr:Rd w g A n c k) (hn:u.length=n) (ha:Reads w B 1 A n (zAH u)) (hB:B≤g) (hk:k < u.length) (hl:n≤4096) {m e:Nat} {t:Tok} (hq:zAr u[k] (u.drop (k+1))=(e,t,m)):
 Calls Tryz.prog 70 #[.pointer (some ⟨g,0,none⟩)] w fun ev w'=>∃v,ev=.returned (.tuple #[v,.int .i64 (e:Int)])∧(e≠0→v=noV)∧(e=0→zRi w' w.heap.size t v∧Mv w w' g A n c (k+m))∧w.grownBy w' (some g):=by
 subst hn
 obtain⟨i0,hi0,hz0,hz1,hz2⟩:=info_parts Tryz.info_u16
 have hg:=hr.lt
 have HA:=zD ha
 obtain⟨q,hqq⟩:∃q,u[k]=q:=⟨_,rfl⟩
 rw[hqq]at hq
 have hE:=zD (fun e' h2 he=>zG4 (e':=e') hq h2 he)
 have hGood:=zD (fun s i h2=>zGI (s:=s) (i:=i) hq h2)
 have hQ0:QuoS w ((w.alloc (.cells zAw.toArray 44)).alloc (.cells (zE9 (.slice none 0 0)).toArray 44)) g A u.length c k (.slice none 0 0) []:=by
  have hW2:Below w.heap.size w ((w.alloc (.cells zAw.toArray 44)).alloc (.cells (zE9 (.slice none 0 0)).toArray 44)):=((Below.refl _ w).alloc (Nat.le_refl _) _).alloc (by simp) _
  refine⟨⟨(hr.alloc _).alloc _,zz _ hW2⟩,?_,?_,World.ownsRow_nil _ _ _ _⟩
  · exact(Blk.new w zAw 44).below ((Below.refl _ _).alloc (Nat.le_refl _) _) (by simp)
  · have:=Blk.new (w.alloc (.cells zAw.toArray 44)) (zE9 (.slice none 0 0)) 44
    rwa [show(w.alloc (.cells zAw.toArray 44)).heap.size=w.heap.size+1 by simp]at this
 have HQ0:=zD hQ0
 have hc0:=hr.c0
 have hc1:=hr.c1
 obtain⟨blk,off,rfl,hblk,hcell⟩:=ha.spotL (by omega)
 have hca:=hcell k hk
 rw[hqq]at hca
 have hbw:blk < w.heap.size:=by omega
 have hlt2:(k:Int) < (u.length:Int):=by omega
 clear hq hQ0 ha hr hcell hqq
 go_enter Tryz.func70,Tryz.ntmps70
 go_upto_region 2 with(fail)
 go_cut [5] (fun x wx=>x=.int .u16 (q.toNat:Int)∧Hid (QuoS w wx g (some ⟨blk,off,none⟩) u.length c k (.slice none 0 0) []))
 case first=>
  go_quiet (fail)
  go_wp2_with fail
  go_meet
  exact⟨rfl,HQ0.out.mov hg ((Mv.refl HQ0.out.mv.rd).drewN _)⟩
 case rest=>
  obtain⟨hx,hS⟩:=hcut
  subst hx
  clear hc0 hc1 hca HQ0
  have hc1:=hS.out.mv.rd.c1
  have hf1:=hS.out.mv.rd.f1
  go_wp2
  have hS1:=zD (hS.out.mov hg (Mv.step (Mv.refl hS.out.mv.rd) (z:=(k:Int)+1) (k':=k+1) (by omega)))
  clear hc1 hf1 hS
  go_loopg [6] (u.length - (k+1)) (fun r x wr=>∃p acc v,p+r=u.length∧Hid (QuoS w wr g (some ⟨blk,off,none⟩) u.length c p v acc)∧acc.length≤p∧Hid (zQw q u k p acc))
  case atStart=>exact⟨k+1,[],.slice none 0 0,by omega,hS1,Nat.zero_le _,0,by omega,by simp[zGH]⟩
  case round=>
   obtain⟨p,acc,v,hpr,hS,hacc,hat⟩:=hrel
   have hc0:=hS.out.mv.rd.c0
   have hc1:=hS.out.mv.rd.c1
   have hf1:=hS.out.mv.rd.f1
   have har:=zD (HA.out.grown hS.out.mv.grown hB (Nat.le_of_lt hg))
   by_cases hlt:p < u.length
   · have hlt2:(p:Int) < (u.length:Int):=by omega
     obtain⟨blk2,off2,hA2,_,hcell⟩:=har.out.spotL (by omega)
     injection hA2 with hA2
     injection hA2 with e1 e2
     subst e1 e2
     have hca:=hcell p hlt
     have hdr:=zD (List.drop_eq_getElem_cons hlt)
     obtain⟨x,hx⟩:∃x,u[p]=x:=⟨_,rfl⟩
     rw[hx]at hca hdr
     clear hcell hx
     cases hln:zw x with
     | true=>
      have hz:=zD (show(zDr q (u.drop (k+1)) []).1=5 by
       obtain⟨i,hi,he⟩:=hat.out
       rw[he,hdr.out,zMD hln];rfl)
      have hzr:=zD hS.out.zero
      obtain⟨c0,f0⟩:=hzr.out.2 0 (by decide)
      obtain⟨c1,f1⟩:=hzr.out.2 1 (by decide)
      obtain⟨c2,f2⟩:=hzr.out.2 2 (by decide)
      obtain⟨c3,f3⟩:=hzr.out.2 3 (by decide)
      obtain⟨c4,f4⟩:=hzr.out.2 4 (by decide)
      obtain⟨c5,f5⟩:=hzr.out.2 5 (by decide)
      obtain⟨c6,f6⟩:=hzr.out.2 6 (by decide)
      obtain⟨c7,f7⟩:=hzr.out.2 7 (by decide)
      obtain⟨c8,f8⟩:=hzr.out.2 8 (by decide)
      go_wp2_with fail
      go_quiet (first | (go_at_call 63;refine Calls.quiet_of_same ((zAI _ _).mono fun _ _ h=>zCg h)))
      go_wp2
      obtain⟨q0,q1,q2,q3,q4,q5,q6,q7,q8⟩:=ze (v0:=.int .i64 0) (v1:=.string ⟨#[]⟩) (v2:=.slice none 0 0) (v3:=.int .i64 0) (v4:=.int .i64 0) (v5:=.bool false) (v6:=.slice none 0 0) (v7:=.int .i64 0) (v8:=.bool false) (hzr.out.grown (zAB wr (some g) nq) (by omega)) rfl
      refine bodyPost_ret (v:=.tuple #[.agg #[.int .i64 0,.string ⟨#[]⟩,.slice none 0 0,.int .i64 0,.int .i64 0,.bool false,.slice none 0 0,.int .i64 0,.bool false],.int .i64 5]) (by simp[results,Tryz.results70,go_sem,q0,q1,q2,q3,q4,q5,q6,q7,q8]) rfl ?_
      obtain rfl:=hE.out _ hz.out (by decide)
      exact⟨_,rfl,fun _=>rfl,fun h=>absurd h (by first | decide | assumption),(zy (hS.out.mv.drewN _) (Nat.le_refl _) hg).grown⟩
     | false=>
      have HLN:=zD hln
      go_wp2_with fail
      go_quiet (first | (go_at_call 63;refine Calls.quiet_of_same ((zAI _ _).mono fun _ _ h=>zCg h)))
      go_upto_region 5 with(fail)
      go_cut [6] (fun xx wx=>xx=.int .u16 (x.toNat:Int)∧Hid (QuoS w wx g (some ⟨blk,off,none⟩) u.length c p v acc))
      case first=>
       go_quiet (fail)
       go_wp2_with fail
       go_meet
       exact⟨rfl,hS.out.mov hg (((Mv.refl hS.out.mv.rd).drewN _).drewN _)⟩
      case rest=>
       obtain⟨hxx,hS5⟩:=hcut
       subst hxx
       clear hc0 hc1 hf1 hca hS har
       have hc1:=hS5.out.mv.rd.c1
       have hf1:=hS5.out.mv.rd.f1
       go_upto_region 6 with(fail)
       go_cut [5] (fun qq wx=>qq=.int .u16 (q.toNat:Int)∧Hid (QuoS w wx g (some ⟨blk,off,none⟩) u.length c (p+1) v acc))
       case first=>
        go_wp2_with fail
        go_meet
        exact⟨rfl,hS5.out.mov hg (Mv.step (Mv.refl hS5.out.mv.rd) (by omega))⟩
       case rest=>
        obtain⟨hqx,hS⟩:=hcut
        subst hqx
        clear hc1 hf1 hS5
        have hbase:w.heap.size+2≤wc.heap.size:=hS.out.tok.1
        have hneT:some (w.heap.size+1)≠v.ownBlock:=fun e=>by have:=(hS.out.own.lt _ e.symm).1;omega
        by_cases hxq:x=q
        · have e1:((x.toNat:Int)==(q.toNat:Int))=true:=by rw[hxq];simp
          have hz:=zD (show∃i,p=k+1+i∧zDr q (u.drop (k+1)) []=(0,acc,i+1) by
           obtain⟨i,hi,he⟩:=hat.out
           refine⟨i,hi,?_⟩
           rw[he,hdr.out,hxq,zOK (by rw[←hxq];exact HLN.out)];rfl)
          obtain⟨Av,cv,rfl,_,_⟩:=zb hS.out.own
          have htb:=zD hS.out.tok
          have hzr:=zD hS.out.zero
          have a0:wc.cell? ⟨w.heap.size+1,0,none⟩=some (.int .i64 4):=(htb.out.2 0 (by simp[zE9])).1
          have a1:wc.cell? ⟨w.heap.size+1,1,none⟩=some (.string ⟨#[]⟩):=(htb.out.2 1 (by simp[zE9])).1
          have a2:wc.cell? ⟨w.heap.size+1,2,none⟩=some (.slice Av acc.length cv):=(htb.out.2 2 (by simp[zE9])).1
          have a3:wc.cell? ⟨w.heap.size+1,3,none⟩=some (.int .i64 0):=(htb.out.2 3 (by simp[zE9])).1
          have a4:wc.cell? ⟨w.heap.size+1,4,none⟩=some (.int .i64 0):=(htb.out.2 4 (by simp[zE9])).1
          have a5:wc.cell? ⟨w.heap.size+1,5,none⟩=some (.bool false):=(htb.out.2 5 (by simp[zE9])).1
          have a6:wc.cell? ⟨w.heap.size+1,6,none⟩=some (.slice none 0 0):=(htb.out.2 6 (by simp[zE9])).1
          have a7:wc.cell? ⟨w.heap.size+1,7,none⟩=some (.int .i64 0):=(htb.out.2 7 (by simp[zE9])).1
          have a8:wc.cell? ⟨w.heap.size+1,8,none⟩=some (.bool false):=(htb.out.2 8 (by simp[zE9])).1
          obtain⟨b0,fb0⟩:=hzr.out.2 0 (by decide)
          obtain⟨b1,fb1⟩:=hzr.out.2 1 (by decide)
          obtain⟨b2,fb2⟩:=hzr.out.2 2 (by decide)
          obtain⟨b3,fb3⟩:=hzr.out.2 3 (by decide)
          obtain⟨b4,fb4⟩:=hzr.out.2 4 (by decide)
          obtain⟨b5,fb5⟩:=hzr.out.2 5 (by decide)
          obtain⟨b6,fb6⟩:=hzr.out.2 6 (by decide)
          obtain⟨b7,fb7⟩:=hzr.out.2 7 (by decide)
          obtain⟨b8,fb8⟩:=hzr.out.2 8 (by decide)
          clear hxq
          go_wp2
          obtain⟨q0,q1,q2,q3,q4,q5,q6,q7,q8⟩:=ze (v0:=.int .i64 4) (v1:=.string ⟨#[]⟩) (v2:=.slice Av acc.length cv) (v3:=.int .i64 0) (v4:=.int .i64 0) (v5:=.bool false) (v6:=.slice none 0 0) (v7:=.int .i64 0) (v8:=.bool false) hzr.out rfl
          refine bodyPost_ret (v:=.tuple #[.agg #[.int .i64 4,.string ⟨#[]⟩,.slice Av acc.length cv,.int .i64 0,.int .i64 0,.bool false,.slice none 0 0,.int .i64 0,.bool false],.int .i64 0]) (by simp[results,Tryz.results70,go_sem,q0,q1,q2,q3,q4,q5,q6,q7,q8]) rfl ?_
          obtain⟨i,hi,hz2⟩:=hz.out
          obtain⟨z1,z2,z3⟩:=hGood.out _ _ hz2
          subst z1 z2 z3
          refine⟨_,rfl,fun h=>absurd rfl h,fun _=>⟨⟨.slice Av acc.length cv,_,rfl,zAM (zAh hS.out.own (by omega)) (by omega),World.ownsRow_nil _ _ _ _⟩,?_⟩,(zy hS.out.mv (Nat.le_refl _) hg).grown⟩
          rw[show k+(1+(i+1))=p+1 by omega]
          exact zy hS.out.mv (Nat.le_refl _) hg
        · have e1:((x.toNat:Int)==(q.toNat:Int))=false:=by
           rw[beq_eq_false_iff_ne]
           intro h
           exact hxq (UInt16.toNat_inj.1 (by omega))
          have hx16:=x.toNat_lt
          by_cases h92:x.toNat=92
          · have e2:((x.toNat:Int)==92)=true:=by rw[h92];rfl
            have H92:=zD h92
            clear h92
            obtain⟨⟨ee,y,ne⟩,hesc⟩:∃z,zC6 (u.drop (p+1))=z:=⟨_,rfl⟩
            have HESC:=zD hesc
            have har:=zD (HA.out.grown hS.out.mv.grown hB (Nat.le_of_lt hg))
            by_cases hee:ee=0
            · subst hee
              have hlen:=zDn (l:=u.drop (p+1)) (by rw[hesc])
              rw[hesc,List.length_drop]at hlen
              have hz:=zD (fun i (hi:p=k+1+i) (he:zDr q (u.drop (k+1)) []=zGH i (zDr q (u.drop p) acc))=>(by
               refine⟨i+(1+ne),by omega,?_⟩
               rw[he,hdr.out,zOM HLN.out hxq H92.out hesc,List.drop_drop]
               simp only[zGH]
               congr 2
               omega:zQw q u k (p+1+ne) (acc++[y])))
              clear hesc hxq
              go_wp2_with fail
              refine(zES hS.out.mv.rd rfl har.out hB hlt hl HESC.out).mono ?_
              rintro e5 w5 ⟨rfl,hM5,hG5⟩
              have hS6:=zD (hS.out.mov hg (hM5 rfl))
              have hbase6:w.heap.size+2≤w5.heap.size:=hS6.out.tok.1
              have a2:w5.cell? ⟨w.heap.size+1,2,none⟩=some v:=(hS6.out.tok.2 2 (by simp[zE9])).1
              clear hM5 hG5
              go_wp2_with (at_builtin;refine zET rfl _ _ 22 rfl 24 i0 _ 2 Tryz.underlying22 hi0 hz0 hz1 hz2 rfl (w.heap.size+2) hbase6 v (zAH acc) acc.length (zBj _) rfl hS6.out.own [.int .u16 (y.toNat:Int)] 1 1 rfl rfl rfl (by rw[zBj];omega) (by omega) ?_;intro v' w' ho hgr;obtain⟨Av,cv,rfl,_,_⟩:=zb ho;have d2:w'.cell? ⟨w.heap.size+1,2,none⟩=some v:=((hS6.out.tok.grownR hgr hneT).2 2 (by simp[zE9])).1;have fd2:=((hS6.out.tok.grownR hgr hneT).2 2 (by simp[zE9])).2)
              go_roundg (u.length - (p+1+ne))
              case measure=>omega
              case rel=>
               refine⟨p+1+ne,acc++[y],_,by omega,hS6.out.app hg hgr (by rw[zGJ,zBj]at ho;rw[show(zAH acc).length+1=(acc++[y]).length by simp[zAH]];exact ho),by simp;omega,?_⟩
               obtain⟨i,hi,he⟩:=hat.out
               exact hz.out i hi he
            · have hz:=zD (show(zDr q (u.drop (k+1)) []).1=ee by
               obtain⟨i,hi,he⟩:=hat.out
               rw[he,hdr.out,zOL HLN.out hxq H92.out (by rw[hesc];exact hee),hesc];rfl)
              have he1:((ee:Int) !=0)=true:=by rw[bne_iff_ne];omega
              clear hesc hxq
              go_wp2_with fail
              refine(zES hS.out.mv.rd rfl har.out hB hlt hl HESC.out).mono ?_
              rintro e5 w5 ⟨rfl,_,hG5⟩
              have hzr:=zD (hS.out.zero.grown hG5 (by omega))
              have hG6:=zD (zF hS.out.mv.grown hG5)
              clear hG5
              obtain⟨b0,fb0⟩:=hzr.out.2 0 (by decide)
              obtain⟨b1,fb1⟩:=hzr.out.2 1 (by decide)
              obtain⟨b2,fb2⟩:=hzr.out.2 2 (by decide)
              obtain⟨b3,fb3⟩:=hzr.out.2 3 (by decide)
              obtain⟨b4,fb4⟩:=hzr.out.2 4 (by decide)
              obtain⟨b5,fb5⟩:=hzr.out.2 5 (by decide)
              obtain⟨b6,fb6⟩:=hzr.out.2 6 (by decide)
              obtain⟨b7,fb7⟩:=hzr.out.2 7 (by decide)
              obtain⟨b8,fb8⟩:=hzr.out.2 8 (by decide)
              go_wp2
              obtain⟨q0,q1,q2,q3,q4,q5,q6,q7,q8⟩:=ze (v0:=.int .i64 0) (v1:=.string ⟨#[]⟩) (v2:=.slice none 0 0) (v3:=.int .i64 0) (v4:=.int .i64 0) (v5:=.bool false) (v6:=.slice none 0 0) (v7:=.int .i64 0) (v8:=.bool false) hzr.out rfl
              refine bodyPost_ret (v:=.tuple #[.agg #[.int .i64 0,.string ⟨#[]⟩,.slice none 0 0,.int .i64 0,.int .i64 0,.bool false,.slice none 0 0,.int .i64 0,.bool false],.int .i64 (ee:Int)]) (by simp[results,Tryz.results70,go_sem,q0,q1,q2,q3,q4,q5,q6,q7,q8]) rfl ?_
              obtain rfl:=hE.out _ hz.out hee
              exact⟨_,rfl,fun _=>rfl,fun h=>absurd h hee,zAK hG6.out (Nat.le_refl _)⟩
          · have e2:((x.toNat:Int)==92)=false:=beq_eq_false_iff_ne.2 (by omega)
            have hz:=zD (fun i (hi:p=k+1+i) (he:zDr q (u.drop (k+1)) []=zGH i (zDr q (u.drop p) acc))=>(by
             refine⟨i+1,by omega,?_⟩
             rw[he,hdr.out,zJu HLN.out hxq h92]
             simp only[zGH]
             congr 2
             omega:zQw q u k (p+1) (acc++[x])))
            clear h92 hxq
            have a2:wc.cell? ⟨w.heap.size+1,2,none⟩=some v:=(hS.out.tok.2 2 (by simp[zE9])).1
            go_wp2_with (at_builtin;refine zET rfl _ _ 22 rfl 24 i0 _ 2 Tryz.underlying22 hi0 hz0 hz1 hz2 rfl (w.heap.size+2) hbase v (zAH acc) acc.length (zBj _) rfl hS.out.own [.int .u16 (x.toNat:Int)] 1 1 rfl rfl rfl (by rw[zBj];omega) (by omega) ?_;intro v' w' ho hgr;obtain⟨Av,cv,rfl,_,_⟩:=zb ho;have d2:w'.cell? ⟨w.heap.size+1,2,none⟩=some v:=((hS.out.tok.grownR hgr hneT).2 2 (by simp[zE9])).1;have fd2:=((hS.out.tok.grownR hgr hneT).2 2 (by simp[zE9])).2)
            go_roundg (gk - 1)
            case measure=>omega
            case rel=>
             refine⟨p+1,acc++[x],_,by omega,hS.out.app hg hgr (by rw[zGJ,zBj]at ho;rw[show(zAH acc).length+1=(acc++[x]).length by simp[zAH]];exact ho),by simp;omega,?_⟩
             obtain⟨i,hi,he⟩:=hat.out
             exact hz.out i hi he
   · obtain rfl:p=u.length:=by omega
     have hz:=zD (show(zDr q (u.drop (k+1)) []).1=5 by
      obtain⟨i,hi,he⟩:=hat.out
      rw[he,List.drop_length,zOJ];rfl)
     have hzr:=zD hS.out.zero
     obtain⟨c0,f0⟩:=hzr.out.2 0 (by decide)
     obtain⟨c1,f1⟩:=hzr.out.2 1 (by decide)
     obtain⟨c2,f2⟩:=hzr.out.2 2 (by decide)
     obtain⟨c3,f3⟩:=hzr.out.2 3 (by decide)
     obtain⟨c4,f4⟩:=hzr.out.2 4 (by decide)
     obtain⟨c5,f5⟩:=hzr.out.2 5 (by decide)
     obtain⟨c6,f6⟩:=hzr.out.2 6 (by decide)
     obtain⟨c7,f7⟩:=hzr.out.2 7 (by decide)
     obtain⟨c8,f8⟩:=hzr.out.2 8 (by decide)
     go_wp2_with fail
     go_quiet (fail)
     go_wp2
     obtain⟨q0,q1,q2,q3,q4,q5,q6,q7,q8⟩:=ze (v0:=.int .i64 0) (v1:=.string ⟨#[]⟩) (v2:=.slice none 0 0) (v3:=.int .i64 0) (v4:=.int .i64 0) (v5:=.bool false) (v6:=.slice none 0 0) (v7:=.int .i64 0) (v8:=.bool false) (hzr.out.grown (zAB wr (some g) nq) (by omega)) rfl
     refine bodyPost_ret (v:=.tuple #[.agg #[.int .i64 0,.string ⟨#[]⟩,.slice none 0 0,.int .i64 0,.int .i64 0,.bool false,.slice none 0 0,.int .i64 0,.bool false],.int .i64 5]) (by simp[results,Tryz.results70,go_sem,q0,q1,q2,q3,q4,q5,q6,q7,q8]) rfl ?_
     obtain rfl:=hE.out _ hz.out (by decide)
     exact⟨_,rfl,fun _=>rfl,fun h=>absurd h (by decide),(zy (hS.out.mv.drewN nq) (Nat.le_refl _) hg).grown⟩
end Go.Proofs.YtlohaclgbfhijaaGreatDoor
