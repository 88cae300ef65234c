/- Joined for the claim EarlySame: the parser, the lexer and the trees as they are walked, made short by a program of mine. -/
import Derived.Test.YtjlfhidpmdgloaaGreatDoorH09
import Derived.Test.YtjlfhidpmdgloaaGreatDoorH07
import Derived.Deep.RegionLaw
import Derived.Deep.CutBlock
import Derived.Deep.DeepCutAuto
import Derived.Test.YtjlfhidpmdgloaaGreatDoorH04
import Derived.Test.YtjlfhidpmdgloaaGreatDoorH06
import Derived.Test.YtjlfhidpmdgloaaGreatDoorH01
import Derived.Test.YtjlfhidpmdgloaaGreatDoorH08
import Derived.Deep.AppendLies
import Derived.Deep.LoopGhost
import Derived.Test.YtjlfhidpmdgloaaGreatDoorH03
set_option maxHeartbeats 16000000
set_option maxRecDepth 1000000
namespace Go.Proofs.YtjlfhidpmdgloaaGreatDoor
open Go.Proofs.Tryz
open Go.RowKit
variable {cs xs:List Value} {ts:List Nd} {n base:Nat} {t:Tr} {u:jH} {x:UInt16} {P:Nat→Prop} {vs vk:Value} {k:Int}
theorem zMT {t:Tok} (h:t.kind=0) (w:jE):isT t w=false:=by
 cases hh:isT t w with
 | false=>rfl
 | true=>exact absurd h (zF9 hh)
theorem zUP {w:World} {Q:Nat→Prop} {R:Nat} {l:List Tr} (hb:Bx w R 61 cs) (h:TrsC w Q l cs) (k:l.length=n) (o:n≤4097) (d:∀b,Q b→b < w.heap.size→P b) (f:¬Q R) (g:P R):RowP w P (.slice (some ⟨R,0,none⟩) n n) l:=by
 subst k;refine⟨cs,fun b=>Q b∧b < w.heap.size,⟨h.len,.inr ⟨R,l.length,cs.toArray,rfl,yAE _,hb,yAC _,by unfold maxLen;omega,by simp[h.len],by rw[←h.len];simp⟩⟩,?_,.sub (fun b j m=>⟨j,m⟩) _ _ h,?_,fun b c=>⟨d b c.1 c.2,c.2⟩⟩
 · intro b e;simp only[Value.ownBlock,yCE]at e;subst e;exact g
 · intro b e c;simp only[Value.ownBlock,yCE]at e;subst e;exact f c.1
structure PutR (C:Pc) (s:Ps) (w W:World) (R:Nat) (cs:List Value) (V:World):Prop where
 box:Bx V R 61 cs
 pa:Pa C s V
 grown:w.grownBy V (some C.g)
 from_:W.grownBy V (some R)
theorem zMU {w:World} {R:Nat} {v0 v1 v2 v3 v4 v5 v6 v7 v8:Value}:w.grownBy (((((((((w.setCell ⟨R,9,none⟩ v0).setCell ⟨R,10,none⟩ v1).setCell ⟨R,11,none⟩ v2).setCell ⟨R,12,none⟩ v3).setCell ⟨R,13,none⟩ v4).setCell ⟨R,14,none⟩ v5).setCell ⟨R,15,none⟩ v6).setCell ⟨R,16,none⟩ v7).setCell ⟨R,17,none⟩ v8) (some R):=by
 exact(zC (zC (zC (zC (zC (zC (zC (zC (zM _ _ _ _) (zM _ _ _ _)) (zM _ _ _ _)) (zM _ _ _ _)) (zM _ _ _ _)) (zM _ _ _ _)) (zM _ _ _ _)) (zM _ _ _ _)) (zM _ _ _ _))
theorem zUQ {C:Pc} {s:Ps} {w W:World} {R:Nat} {p0 p1 p2 p3 p4 p5 p6 p7 p8 q0 q1 q2 q3 q4 q5 q6 q7 q8 r0 r1 r2 r3 r4 r5 r6 r7 r8 v0 v1 v2 v3 v4 v5 v6 v7 v8:Value} (hB:Bx W R 61 [p0,p1,p2,p3,p4,p5,p6,p7,p8,q0,q1,q2,q3,q4,q5,q6,q7,q8,r0,r1,r2,r3,r4,r5,r6,r7,r8]) (c:w.heap.size≤R) (j:C.g < R) (d:Pa C s W) (f:w.grownBy W (some C.g)):
 PutR C s w W R [p0,p1,p2,p3,p4,p5,p6,p7,p8,v0,v1,v2,v3,v4,v5,v6,v7,v8,r0,r1,r2,r3,r4,r5,r6,r7,r8] (((((((((W.setCell ⟨R,9,none⟩ v0).setCell ⟨R,10,none⟩ v1).setCell ⟨R,11,none⟩ v2).setCell ⟨R,12,none⟩ v3).setCell ⟨R,13,none⟩ v4).setCell ⟨R,14,none⟩ v5).setCell ⟨R,15,none⟩ v6).setCell ⟨R,16,none⟩ v7).setCell ⟨R,17,none⟩ v8):=by
 have hg:=zMU (w:=W) (R:=R) (v0:=v0) (v1:=v1) (v2:=v2) (v3:=v3) (v4:=v4) (v5:=v5) (v6:=v6) (v7:=v7) (v8:=v8);exact⟨(((((((((hB.set 9 v0).set 10 v1).set 11 v2).set 12 v3).set 13 v4).set 14 v5).set 15 v6).set 16 v7).set 17 v8),d.grown hg (fun b e=>by injection e with e;omega),zCF f c hg,hg⟩
theorem zMV {w:World} {R:Nat} {v0 v1 v2 v3 v4 v5 v6 v7 v8:Value}:w.grownBy (((((((((w.setCell ⟨R,18,none⟩ v0).setCell ⟨R,19,none⟩ v1).setCell ⟨R,20,none⟩ v2).setCell ⟨R,21,none⟩ v3).setCell ⟨R,22,none⟩ v4).setCell ⟨R,23,none⟩ v5).setCell ⟨R,24,none⟩ v6).setCell ⟨R,25,none⟩ v7).setCell ⟨R,26,none⟩ v8) (some R):=by
 exact(zC (zC (zC (zC (zC (zC (zC (zC (zM _ _ _ _) (zM _ _ _ _)) (zM _ _ _ _)) (zM _ _ _ _)) (zM _ _ _ _)) (zM _ _ _ _)) (zM _ _ _ _)) (zM _ _ _ _)) (zM _ _ _ _))
theorem zUR {C:Pc} {s:Ps} {w W:World} {R:Nat} {p0 p1 p2 p3 p4 p5 p6 p7 p8 q0 q1 q2 q3 q4 q5 q6 q7 q8 r0 r1 r2 r3 r4 r5 r6 r7 r8 v0 v1 v2 v3 v4 v5 v6 v7 v8:Value} (hB:Bx W R 61 [p0,p1,p2,p3,p4,p5,p6,p7,p8,q0,q1,q2,q3,q4,q5,q6,q7,q8,r0,r1,r2,r3,r4,r5,r6,r7,r8]) (c:w.heap.size≤R) (j:C.g < R) (d:Pa C s W) (f:w.grownBy W (some C.g)):
 PutR C s w W R [p0,p1,p2,p3,p4,p5,p6,p7,p8,q0,q1,q2,q3,q4,q5,q6,q7,q8,v0,v1,v2,v3,v4,v5,v6,v7,v8] (((((((((W.setCell ⟨R,18,none⟩ v0).setCell ⟨R,19,none⟩ v1).setCell ⟨R,20,none⟩ v2).setCell ⟨R,21,none⟩ v3).setCell ⟨R,22,none⟩ v4).setCell ⟨R,23,none⟩ v5).setCell ⟨R,24,none⟩ v6).setCell ⟨R,25,none⟩ v7).setCell ⟨R,26,none⟩ v8):=by
 have hg:=zMV (w:=W) (R:=R) (v0:=v0) (v1:=v1) (v2:=v2) (v3:=v3) (v4:=v4) (v5:=v5) (v6:=v6) (v7:=v7) (v8:=v8);exact⟨(((((((((hB.set 18 v0).set 19 v1).set 20 v2).set 21 v3).set 22 v4).set 23 v5).set 24 v6).set 25 v7).set 26 v8),d.grown hg (fun b e=>by injection e with e;omega),zCF f c hg,hg⟩
theorem Bx.mid1 {w:World} {R:Nat} {T:TypeId} {p0 p1 p2 p3 p4 p5 p6 p7 p8 q0 q1 q2 q3 q4 q5 q6 q7 q8 r0 r1 r2 r3 r4 r5 r6 r7 r8:Value} (h:Bx w R T [p0,p1,p2,p3,p4,p5,p6,p7,p8,q0,q1,q2,q3,q4,q5,q6,q7,q8,r0,r1,r2,r3,r4,r5,r6,r7,r8]):w.cell? ⟨R,9,none⟩=some q0∧w.cell? ⟨R,10,none⟩=some q1∧w.cell? ⟨R,11,none⟩=some q2∧w.cell? ⟨R,12,none⟩=some q3∧w.cell? ⟨R,13,none⟩=some q4∧w.cell? ⟨R,14,none⟩=some q5∧w.cell? ⟨R,15,none⟩=some q6∧w.cell? ⟨R,16,none⟩=some q7∧w.cell? ⟨R,17,none⟩=some q8:=⟨h.cell 9,h.cell 10,h.cell 11,h.cell 12,h.cell 13,h.cell 14,h.cell 15,h.cell 16,h.cell 17⟩
theorem Bx.midF1 {w:World} {R:Nat} {T:TypeId} (h:Bx w R T cs):w.frozen? ⟨R,9,none⟩=false∧w.frozen? ⟨R,10,none⟩=false∧w.frozen? ⟨R,11,none⟩=false∧w.frozen? ⟨R,12,none⟩=false∧w.frozen? ⟨R,13,none⟩=false∧w.frozen? ⟨R,14,none⟩=false∧w.frozen? ⟨R,15,none⟩=false∧w.frozen? ⟨R,16,none⟩=false∧w.frozen? ⟨R,17,none⟩=false:=⟨h.frozen 9,h.frozen 10,h.frozen 11,h.frozen 12,h.frozen 13,h.frozen 14,h.frozen 15,h.frozen 16,h.frozen 17⟩
theorem Bx.mid2 {w:World} {R:Nat} {T:TypeId} {p0 p1 p2 p3 p4 p5 p6 p7 p8 q0 q1 q2 q3 q4 q5 q6 q7 q8 r0 r1 r2 r3 r4 r5 r6 r7 r8:Value} (h:Bx w R T [p0,p1,p2,p3,p4,p5,p6,p7,p8,q0,q1,q2,q3,q4,q5,q6,q7,q8,r0,r1,r2,r3,r4,r5,r6,r7,r8]):w.cell? ⟨R,18,none⟩=some r0∧w.cell? ⟨R,19,none⟩=some r1∧w.cell? ⟨R,20,none⟩=some r2∧w.cell? ⟨R,21,none⟩=some r3∧w.cell? ⟨R,22,none⟩=some r4∧w.cell? ⟨R,23,none⟩=some r5∧w.cell? ⟨R,24,none⟩=some r6∧w.cell? ⟨R,25,none⟩=some r7∧w.cell? ⟨R,26,none⟩=some r8:=⟨h.cell 18,h.cell 19,h.cell 20,h.cell 21,h.cell 22,h.cell 23,h.cell 24,h.cell 25,h.cell 26⟩
theorem Bx.midF2 {w:World} {R:Nat} {T:TypeId} (h:Bx w R T cs):w.frozen? ⟨R,18,none⟩=false∧w.frozen? ⟨R,19,none⟩=false∧w.frozen? ⟨R,20,none⟩=false∧w.frozen? ⟨R,21,none⟩=false∧w.frozen? ⟨R,22,none⟩=false∧w.frozen? ⟨R,23,none⟩=false∧w.frozen? ⟨R,24,none⟩=false∧w.frozen? ⟨R,25,none⟩=false∧w.frozen? ⟨R,26,none⟩=false:=⟨h.frozen 18,h.frozen 19,h.frozen 20,h.frozen 21,h.frozen 22,h.frozen 23,h.frozen 24,h.frozen 25,h.frozen 26⟩
section
variable {C:Pc} {B:Nat→Prop} {a:World} {D:List Nat} {os:List Ob} {s s':Ps} {w w':World} {t1 t2 t3:Tr} {p0 p1 p2 p3 p4 p5 p6 p7 p8 q0 q1 q2 q3 q4 q5 q6 q7 q8 r0 r1 r2 r3 r4 r5 r6 r7 r8 v0 v1 v2 v3 v4 v5 v6 v7 v8:Value} {R:Nat} {T:TypeId}
theorem Fr.box3 (F:Fr C B a D os s w) (i j m:Nat) (_b:os[i]? =some (.tr t1 [p0,p1,p2,p3,p4,p5,p6,p7,p8]):=by rfl) (_h2:os[j]? =some (.tr t2 [q0,q1,q2,q3,q4,q5,q6,q7,q8]):=by rfl) (_h3:os[m]? =some (.tr t3 [r0,r1,r2,r3,r4,r5,r6,r7,r8]):=by rfl):Fr C B a (w.heap.size::D) (os++[.bx w.heap.size 61 [p0,p1,p2,p3,p4,p5,p6,p7,p8,q0,q1,q2,q3,q4,q5,q6,q7,q8,r0,r1,r2,r3,r4,r5,r6,r7,r8]]) s (w.alloc (.cells #[p0,p1,p2,p3,p4,p5,p6,p7,p8,q0,q1,q2,q3,q4,q5,q6,q7,q8,r0,r1,r2,r3,r4,r5,r6,r7,r8] 61)):=F.box [p0,p1,p2,p3,p4,p5,p6,p7,p8,q0,q1,q2,q3,q4,q5,q6,q7,q8,r0,r1,r2,r3,r4,r5,r6,r7,r8] 61 rfl jd jd
theorem Fr.put1 (F:Fr C B a D os s w) (i j:Nat) {x:Ob} (hi:os[i]? =some (.bx R 61 [p0,p1,p2,p3,p4,p5,p6,p7,p8,q0,q1,q2,q3,q4,q5,q6,q7,q8,r0,r1,r2,r3,r4,r5,r6,r7,r8]):=by rfl) (_hj:os[j]? =some x:=by rfl) (_hc:x.cells=[v0,v1,v2,v3,v4,v5,v6,v7,v8]:=by rfl):Fr C B a D (os.set i (.bx R 61 [p0,p1,p2,p3,p4,p5,p6,p7,p8,v0,v1,v2,v3,v4,v5,v6,v7,v8,r0,r1,r2,r3,r4,r5,r6,r7,r8])) s (((((((((w.setCell ⟨R,9,none⟩ v0).setCell ⟨R,10,none⟩ v1).setCell ⟨R,11,none⟩ v2).setCell ⟨R,12,none⟩ v3).setCell ⟨R,13,none⟩ v4).setCell ⟨R,14,none⟩ v5).setCell ⟨R,15,none⟩ v6).setCell ⟨R,16,none⟩ v7).setCell ⟨R,17,none⟩ v8):=
 .mk (F.out.setAt hi zMU (zUQ (F.b i hi) (F.out.ds R (F.out.ob i _ hi).2.1).1 (yAA F.out.lt (F.out.ds R (F.out.ob i _ hi).2.1).1) F.P F.out.gr).box)
theorem Fr.put2 (F:Fr C B a D os s w) (i j:Nat) {x:Ob} (hi:os[i]? =some (.bx R 61 [p0,p1,p2,p3,p4,p5,p6,p7,p8,q0,q1,q2,q3,q4,q5,q6,q7,q8,r0,r1,r2,r3,r4,r5,r6,r7,r8]):=by rfl) (_hj:os[j]? =some x:=by rfl) (_hc:x.cells=[v0,v1,v2,v3,v4,v5,v6,v7,v8]:=by rfl):Fr C B a D (os.set i (.bx R 61 [p0,p1,p2,p3,p4,p5,p6,p7,p8,q0,q1,q2,q3,q4,q5,q6,q7,q8,v0,v1,v2,v3,v4,v5,v6,v7,v8])) s (((((((((w.setCell ⟨R,18,none⟩ v0).setCell ⟨R,19,none⟩ v1).setCell ⟨R,20,none⟩ v2).setCell ⟨R,21,none⟩ v3).setCell ⟨R,22,none⟩ v4).setCell ⟨R,23,none⟩ v5).setCell ⟨R,24,none⟩ v6).setCell ⟨R,25,none⟩ v7).setCell ⟨R,26,none⟩ v8):=
 .mk (F.out.setAt hi zMV (zUR (F.b i hi) (F.out.ds R (F.out.ob i _ hi).2.1).1 (yAA F.out.lt (F.out.ds R (F.out.ob i _ hi).2.1).1) F.P F.out.gr).box)
theorem Fr.m1 (F:Fr C B a D os s w) (i:Nat) (h:os[i]? =some (.bx R T [p0,p1,p2,p3,p4,p5,p6,p7,p8,q0,q1,q2,q3,q4,q5,q6,q7,q8,r0,r1,r2,r3,r4,r5,r6,r7,r8]):=by rfl):w.cell? ⟨R,9,none⟩=some q0∧w.cell? ⟨R,10,none⟩=some q1∧w.cell? ⟨R,11,none⟩=some q2∧w.cell? ⟨R,12,none⟩=some q3∧w.cell? ⟨R,13,none⟩=some q4∧w.cell? ⟨R,14,none⟩=some q5∧w.cell? ⟨R,15,none⟩=some q6∧w.cell? ⟨R,16,none⟩=some q7∧w.cell? ⟨R,17,none⟩=some q8:=(F.b i h).mid1
theorem Fr.g1 (F:Fr C B a D os s w) (i:Nat) (h:os[i]? =some (.bx R T cs):=by rfl):w.frozen? ⟨R,9,none⟩=false∧w.frozen? ⟨R,10,none⟩=false∧w.frozen? ⟨R,11,none⟩=false∧w.frozen? ⟨R,12,none⟩=false∧w.frozen? ⟨R,13,none⟩=false∧w.frozen? ⟨R,14,none⟩=false∧w.frozen? ⟨R,15,none⟩=false∧w.frozen? ⟨R,16,none⟩=false∧w.frozen? ⟨R,17,none⟩=false:=(F.b i h).midF1
theorem Fr.m2 (F:Fr C B a D os s w) (i:Nat) (h:os[i]? =some (.bx R T [p0,p1,p2,p3,p4,p5,p6,p7,p8,q0,q1,q2,q3,q4,q5,q6,q7,q8,r0,r1,r2,r3,r4,r5,r6,r7,r8]):=by rfl):w.cell? ⟨R,18,none⟩=some r0∧w.cell? ⟨R,19,none⟩=some r1∧w.cell? ⟨R,20,none⟩=some r2∧w.cell? ⟨R,21,none⟩=some r3∧w.cell? ⟨R,22,none⟩=some r4∧w.cell? ⟨R,23,none⟩=some r5∧w.cell? ⟨R,24,none⟩=some r6∧w.cell? ⟨R,25,none⟩=some r7∧w.cell? ⟨R,26,none⟩=some r8:=(F.b i h).mid2
theorem Fr.g2 (F:Fr C B a D os s w) (i:Nat) (h:os[i]? =some (.bx R T cs):=by rfl):w.frozen? ⟨R,18,none⟩=false∧w.frozen? ⟨R,19,none⟩=false∧w.frozen? ⟨R,20,none⟩=false∧w.frozen? ⟨R,21,none⟩=false∧w.frozen? ⟨R,22,none⟩=false∧w.frozen? ⟨R,23,none⟩=false∧w.frozen? ⟨R,24,none⟩=false∧w.frozen? ⟨R,25,none⟩=false∧w.frozen? ⟨R,26,none⟩=false:=(F.b i h).midF2
theorem Fr.wide (F:Fr C B a D os s w) (j:Nat) {lo:Nat} (b:os[j]? =some (.tn lo t cs)):Fr C B a D (os.set j (.tr t cs)) s w:=.mk (F.out.rep b rfl rfl (TrC.sub (fun _ hb _=>hb.1) _ _ (F.out.ob j _ b).1))
theorem Fr.pk4 (F:Fr C B a D os s w) (E:List Nat) (l:List Nat) (c:∀b∈E,b∈D) (d:l.Nodup) {r0 r1 r2 r3:Nat} (e:(pkL os l).filterMap Ob.blk=[r0,r1,r2,r3]) (f:r0∈E) (h1:r1∈E) (g:r2∈E) (j:r3∈E):Fr C B a E (pkL os l) s w:=F.pkc E l c d fun R h=>by
 rw[e]at h;rcases yAW.1 h with rfl | h
 · assumption
 rcases yAW.1 h with rfl | h
 · assumption
 rcases yAW.1 h with rfl | h
 · assumption
 · rw[yBT.1 h];assumption
theorem Fr.ret3 {Pg:Program} {fn:Func} {A:Act} {p:Tr×Ps} {kk:Int} (F:Fr C B a D os s w) (i j m n:Nat) (hi:os[i]? =some (.bx R 61 [p0,p1,p2,p3,p4,p5,p6,p7,p8,q0,q1,q2,q3,q4,q5,q6,q7,q8,r0,r1,r2,r3,r4,r5,r6,r7,r8])) (h1:os[j]? =some (.tr t1 [p0,p1,p2,p3,p4,p5,p6,p7,p8])) (f:os[m]? =some (.tr t2 [q0,q1,q2,q3,q4,q5,q6,q7,q8])) (g:os[n]? =some (.tr t3 [r0,r1,r2,r3,r4,r5,r6,r7,r8]))
 (k:(results fn A.tmps).run Pg w=.ok (.agg #[kk,"",(),(0:Int),(0:Int),false,(),(),.slice (some ⟨R,0,none⟩) 3 3]) w) (o:A.defers=[]) (e:p=(trK kk [t1,t2,t3],s)) (hB:∀b,B b→a.heap.size≤b):bodyPost Pg fn (zDb C p a) .ret A w:=by
 subst e;have d:=(F.out.ob i _ hi).2.1;have c:=zUP (P:=(a.heap.size≤·)) (Q:=Off B D) (l:=[t1,t2,t3]) (n:=3) (F.b i hi) (F.ts3 j m n h1 f g) rfl jd (fun b hb _=>hB b hb.1) (fun h=>h.2 d) (F.out.ds R d).1;exact bodyPost_ret k o ⟨_,_,_,_,_,_,_,_,_,rfl,(show TrC _ _ _ _ from c.treeK),F.P,F.out.gr⟩
end
theorem zQ3 {C:Pc} {s:Ps} {w:World}:zi C (.tries) s w (∀(_:onP C.L [99,97,116,99,104] (zE C.L .block (zB s)).2=true) (_:onP C.L [40] (zB (zE C.L .block (zB s)).2)=true),zf C s w (.tries)):=fun hp K h hc hq=>by
 refine zBG hp h fun G c4 c5 r W X HR hW hX F0=>?_;have HK:=zA K;have a1:=zA hp.2;clear K h hp;go_enter func158,ntmps158;go_upto_region 1 with(fail);clear hW hX;obtain⟨c6,c7,c8⟩:=F0.k1;have F1:=F0.step a1;have b1:=zA (zZ G (p:=.block) (s:=zB s) ⟨a1,trivial⟩).adv;go_wp2_with fail;refine F1.kX (HK.out.more (q:=.block) ⟨F1.P.hi,trivial⟩ F1.P (yAF s.k)) fun H b0 w2 g j l m o t u v y A=>?_;have:=A.sto 1;obtain⟨b,N⟩:=jx H.2;have B:=zA (show zE C.L .block (zB s)=(H.1,b) by rw[b0.out,←N]);have F3:=A;rw[N]at F3;have b2:=zA (show Adv C.L (zB s) b by have:=b1.out;rwa[B.out]at this);have c9:s.k < b.k:=by have:=b2.out.le;have:(zB s).k=s.k+1:=rfl;omega
 have O:=zA (show onP C.L [99,97,116,99,104] b=true by rw[B.out]at hc;exact hc);clear hc N;have HQ:=zA (show onP C.L [40] (zB b)=true by rw[B.out]at hq;exact hq);clear hq;go_wp2_with fail;refine F3.made0 _ fun w4 F4=>?_;go_wp2_with fail;refine F4.made0 _ fun z F5=>?_;have F6:=F5.box3 1 2 3;go_wp2_with fail;refine F6.kQ (zAr _ _ _ _) fun J F7=>?_;have F8:=F7.box [(16:Int),"",(),(0:Int),(0:Int),false,(),(),.slice (some ⟨z.heap.size,0,none⟩) 3 3] 61 rfl jd jd;go_wp2_with fail;refine F8.kB (zAi F8.P [99,97,116,99,104] O) fun w9 F9=>?_;have b3:=zA (G.out.on F9.P.hi O);have d9:(zB b).k=b.k+1:=rfl;go_wp2_with fail;refine F9.kM (zBY F9.P [99,97,116,99,104] O) fun e0 b4=>?_;go_wp2_with fail;refine b4.made0 _ fun R b5=>?_;have a2:=b5.bt 6 61 rfl;have b6:=zA (G.out.on (s:=zB b) b3 HQ);go_wp2_with fail;refine a2.kM (zBY a2.P [40] HQ) fun e1 a3=>?_;have a4:=zA (zA7 G (s:=zB (zB (b))) b6).adv;have b7:=zA (za (w:=[41]) G a4.out.hi).adv;have b8:s.k < (zO C.L [41] ((ze C.L (zB (zB (b)))).2)).k:=by have h1:=a4.out.le;have h2:=b7.out.le;have:(zB (zB (b))).k=b.k+1+1:=rfl;omega
 go_wp2_with fail;refine a3.kS (zD8 a3.P) fun e2 S=>?_;have:=S.c 7;have:=S.f 7;have a5:=S.set 7 1 (.string ⟨((ze C.L (zB (zB (b)))).1).toArray⟩);go_wp2_with fail;refine a5.kN (zAH a5.P [41]) fun e3 b9=>?_;have D:=b9.nil;have c0:=zA (fun Q=>D.dr.kRX 8 rfl (Q:=Q) (HK.out.more (q:=.block) ⟨D.dr.P.hi,trivial⟩ D.dr.P b8));have:=D.c 7;go_upto_region 10 with(fail)
 go_cut [39] (fun _ wx=>∃(d:Tr×Ps) (T:jQ) (E lo:Nat),Hid (zE C.L .block (zO C.L [41] ((ze C.L (zB (zB (b)))).2))=d)∧Fr C (w.heap.size≤·) w [(R.heap.size),(J.heap.size),(z.heap.size),X] [.bx X 61 [(0:Int),"",(),(0:Int),(0:Int),false,(),(),()],.bx (z.heap.size) 61 [g,j,l,m,o,t,u,v,y,(11:Int),"",(),(0:Int),(0:Int),false,(),(),(),(11:Int),"",(),(0:Int),(0:Int),false,(),(),()],.bx (J.heap.size) 61 [(16:Int),"",(),(0:Int),(0:Int),false,(),(),.slice (some ⟨z.heap.size,0,none⟩) 3 3],.bx (R.heap.size) 61 [(17:Int),((ze C.L (zB (zB (b)))).1),(),(0:Int),(0:Int),false,(),(),.slice T 1 E],.tr (H.1) [g,j,l,m,o,t,u,v,y],.tr (trK 11 []) [(11:Int),"",(),(0:Int),(0:Int),false,(),(),()],.tn lo (trN 17 ((ze C.L (zB (zB (b)))).1) [d.1]) [(17:Int),((ze C.L (zB (zB (b)))).1),(),(0:Int),(0:Int),false,(),(),.slice T 1 E]] d.2 wx)
 case first=>
  go_region_law (first | (go_simp;go_at_call 127;(with_reducible refine c0.out _ fun d F wa d0 d1 d2 d3 d4 d5 d6 d7 d8 Fa=>?_);have:=Fa.c 7;have:=(Fa.al (.cells #[d0,d1,d2,d3,d4,d5,d6,d7,d8] 61)).c 7) | (refine Fa.snoc0 9 17 ((ze C.L (zB (zB (b)))).1) rfl rfl _ _ rfl rfl rfl fun A3 a6 wb Fb=>?_;have:=Fb.c 7;have:=Fb.f 7))
  all_goals
   have Fc:=Fb.set 7 8 (.slice A3 1 a6);go_wp2_with fail;go_meet;exact⟨d,A3,a6,_,F,Fc.pk4 [(R.heap.size),(J.heap.size),(z.heap.size),X] [0,4,5,7,1,3,10] js jd rfl js js js js⟩
 case rest=>
  obtain⟨d,T,E,lo,F,c1⟩:=hcut;obtain⟨wh,rfl⟩:∃x,x=wc:=⟨_,rfl⟩;have U:=c1.wide 6 rfl;have c2:=zA (show Adv C.L (zO C.L [41] ((ze C.L (zB (zB (b)))).2)) d.2 by have:=(zZ G (p:=.block) (s:=zO C.L [41] ((ze C.L (zB (zB (b)))).2)) ⟨D.P.hi,trivial⟩).adv;rwa[F.out]at this);have e4:s.k < d.2.k:=by have:=c2.out.le;omega
  have:=U.c 3;have:=U.c 2;have:=U.m1 1;have:=U.g1 1;go_upto_region 12 with(fail);refine zEf (U.put1 1 6) fun wi V=>?_;obtain⟨bf,a7⟩:=jx (onP C.L [102,105,110,97,108,108,121] d.2);have Y:=zA a7;clear a7;cases bf with
  | false=>
   go_wp2_with fail;refine V.kM (zBd V.P [102,105,110,97,108,108,121] Y) fun e5 I=>?_;have:=I.c 2;have:=I.c 0;have:=I.f 0;go_wp2_with fail;refine zCi (I.put 0 2) fun e6 a8=>?_;have q:=a8.c 0;exact a8.ret3 (kk:=16) 1 4 6 5 rfl rfl rfl rfl (by simp[results,results158,go_sem,q]) rfl (HR.out.symm.trans (by
    unfold zD;dsimp only;simp[B.out,O.out,HQ.out,F.out,Y.out])) (fun _ h=>h)
  | true=>
   have e7:=zA (G.out.on V.P.hi Y);have e8:(zB d.2).k=d.2.k+1:=rfl;go_wp2_with fail;refine V.kM (zBY V.P [102,105,110,97,108,108,121] Y) fun e9 e=>?_;have c3:=zA (fun Q=>e.dr.kX (Q:=Q) (HK.out.more (q:=.block) ⟨e.dr.P.hi,trivial⟩ e.dr.P jo));have:=e.c 2;have:=e.m2 1;have:=e.g2 1;go_upto_region 13 with(fail)
   go_cut [52] (fun _ wx=>∃(M:Tr×Ps) (d0 d1 d2 d3 d4 d5 d6 d7 d8:Value),Hid (zE C.L .block (zB (d.2))=M)∧Fr C (w.heap.size≤·) w [(J.heap.size),(z.heap.size),X] [.bx X 61 [(0:Int),"",(),(0:Int),(0:Int),false,(),(),()],.bx (z.heap.size) 61 [g,j,l,m,o,t,u,v,y,(17:Int),((ze C.L (zB (zB (b)))).1),(),(0:Int),(0:Int),false,(),(),.slice T 1 E,d0,d1,d2,d3,d4,d5,d6,d7,d8],.bx (J.heap.size) 61 [(16:Int),"",(),(0:Int),(0:Int),false,(),(),.slice (some ⟨z.heap.size,0,none⟩) 3 3],.tr (H.1) [g,j,l,m,o,t,u,v,y],.tr (trN 17 ((ze C.L (zB (zB (b)))).1) [d.1]) [(17:Int),((ze C.L (zB (zB (b)))).1),(),(0:Int),(0:Int),false,(),(),.slice T 1 E],.tr M.1 [d0,d1,d2,d3,d4,d5,d6,d7,d8]] M.2 wx)
   case first=>
    go_region_law (go_simp;go_at_call 127;(with_reducible refine c3.out _ fun M a0 w2 d0 d1 d2 d3 d4 d5 d6 d7 d8 A=>?_);have:=A.c 2;have:=A.m2 1;have:=A.g2 1;have:=A.sto 7)
    all_goals
     go_wp2_with fail;go_meet;exact⟨M,d0,d1,d2,d3,d4,d5,d6,d7,d8,a0,(A.put2 1 7).pk3 [(J.heap.size),(z.heap.size),X] [0,1,2,4,6,7] js jd rfl js js js⟩
   case rest=>
    obtain⟨M,d0,d1,d2,d3,d4,d5,d6,d7,d8,a0,Fz⟩:=hcut;obtain⟨wz,rfl⟩:∃x,x=wc:=⟨_,rfl⟩;have:=Fz.c 2;have:=Fz.c 0;have:=Fz.f 0;go_wp2_with fail;refine zCi (Fz.put 0 2) fun f0 a9=>?_;have q:=a9.c 0;exact a9.ret3 (kk:=16) 1 3 4 5 rfl rfl rfl rfl (by simp[results,results158,go_sem,q]) rfl (HR.out.symm.trans (by
     unfold zD;dsimp only;simp[B.out,O.out,HQ.out,F.out,Y.out,a0.out])) (fun _ h=>h)
theorem zUS {C:Pc} {s:Ps} {w:World}:zi C (.tries) s w (∀(_:onP C.L [99,97,116,99,104] (zE C.L .block (zB s)).2=true) (_:onP C.L [40] (zB (zE C.L .block (zB s)).2)=false),zf C s w (.tries)):=fun hp K h Y hq=>by
 refine zBG hp h fun HL b7 b8 r W X HR hW hX F0=>?_;have HK:=zA K;have a0:=zA hp.2;clear K h hp;go_enter func158,ntmps158;go_upto_region 1 with(fail);clear hW hX;obtain⟨b9,c0,c1⟩:=F0.k1;have F1:=F0.step a0;have a7:=zA (zZ HL (p:=.block) (s:=zB s) ⟨a0,trivial⟩).adv;go_wp2_with fail;refine F1.kX (HK.out.more (q:=.block) ⟨F1.P.hi,trivial⟩ F1.P (yAF s.k)) fun G a6 w2 g j l m o t u v y A=>?_;have:=A.sto 1;obtain⟨d,M⟩:=jx G.2;have B:=zA (show zE C.L .block (zB s)=(G.1,d) by rw[a6.out,←M]);have F3:=A;rw[M]at F3;have a8:=zA (show Adv C.L (zB s) d by have:=a7.out;rwa[B.out]at this);have c2:s.k < d.k:=by have:=a8.out.le;have:(zB s).k=s.k+1:=rfl;omega
 have N:=zA (show onP C.L [99,97,116,99,104] d=true by rw[B.out]at Y;exact Y);clear Y M;have HQ:=zA (show onP C.L [40] (zB d)=false by rw[B.out]at hq;exact hq);clear hq;go_wp2_with fail;refine F3.made0 _ fun w4 F4=>?_;go_wp2_with fail;refine F4.made0 _ fun z F5=>?_;have F6:=F5.box3 1 2 3;go_wp2_with fail;refine F6.kQ (zAr _ _ _ _) fun I F7=>?_;have F8:=F7.box [(16:Int),"",(),(0:Int),(0:Int),false,(),(),.slice (some ⟨z.heap.size,0,none⟩) 3 3] 61 rfl jd jd;go_wp2_with fail;refine F8.kB (zAi F8.P [99,97,116,99,104] N) fun w9 F9=>?_;have c3:=zA (HL.out.on F9.P.hi N);have c4:(zB d).k=d.k+1:=rfl;go_wp2_with fail;refine F9.kM (zBY F9.P [99,97,116,99,104] N) fun c5 a9=>?_;go_wp2_with fail;refine a9.made0 _ fun O b0=>?_;have a1:=b0.bt 6 61 rfl;go_wp2_with fail;refine a1.kM (zBd a1.P [40] HQ) fun c6 b1=>?_;have b2:s.k < (zB (d)).k:=by omega
 have D:=b1.nil;have b3:=zA (fun Q=>D.dr.kRX 8 rfl (Q:=Q) (HK.out.more (q:=.block) ⟨D.dr.P.hi,trivial⟩ D.dr.P b2));have:=D.c 7;go_upto_region 10 with(fail)
 go_cut [39] (fun _ wx=>∃(b:Tr×Ps) (R:jQ) (E lo:Nat),Hid (zE C.L .block (zB (d))=b)∧Fr C (w.heap.size≤·) w [(O.heap.size),(I.heap.size),(z.heap.size),X] [.bx X 61 [(0:Int),"",(),(0:Int),(0:Int),false,(),(),()],.bx (z.heap.size) 61 [g,j,l,m,o,t,u,v,y,(11:Int),"",(),(0:Int),(0:Int),false,(),(),(),(11:Int),"",(),(0:Int),(0:Int),false,(),(),()],.bx (I.heap.size) 61 [(16:Int),"",(),(0:Int),(0:Int),false,(),(),.slice (some ⟨z.heap.size,0,none⟩) 3 3],.bx (O.heap.size) 61 [(17:Int),.string ⟨([]).toArray⟩,(),(0:Int),(0:Int),false,(),(),.slice R 1 E],.tr (G.1) [g,j,l,m,o,t,u,v,y],.tr (trK 11 []) [(11:Int),"",(),(0:Int),(0:Int),false,(),(),()],.tn lo (trN 17 ([]) [b.1]) [(17:Int),.string ⟨([]).toArray⟩,(),(0:Int),(0:Int),false,(),(),.slice R 1 E]] b.2 wx)
 case first=>
  go_region_law (first | (go_simp;go_at_call 127;(with_reducible refine b3.out _ fun b F wa d0 d1 d2 d3 d4 d5 d6 d7 d8 Fa=>?_);have:=Fa.c 7;have:=(Fa.al (.cells #[d0,d1,d2,d3,d4,d5,d6,d7,d8] 61)).c 7) | (refine Fa.snoc0 9 17 ([]) rfl rfl _ _ rfl rfl rfl fun A3 a2 wb Fb=>?_;have:=Fb.c 7;have:=Fb.f 7))
  all_goals
   have Fc:=Fb.set 7 8 (.slice A3 1 a2);go_wp2_with fail;go_meet;exact⟨b,A3,a2,_,F,Fc.pk4 [(O.heap.size),(I.heap.size),(z.heap.size),X] [0,4,5,7,1,3,10] js jd rfl js js js js⟩
 case rest=>
  obtain⟨b,R,E,lo,F,b4⟩:=hcut;obtain⟨wh,rfl⟩:∃x,x=wc:=⟨_,rfl⟩;have S:=b4.wide 6 rfl;have b5:=zA (show Adv C.L (zB (d)) b.2 by have:=(zZ HL (p:=.block) (s:=zB (d)) ⟨D.P.hi,trivial⟩).adv;rwa[F.out]at this);have c7:s.k < b.2.k:=by have:=b5.out.le;omega
  have:=S.c 3;have:=S.c 2;have:=S.m1 1;have:=S.g1 1;go_upto_region 12 with(fail);refine zEf (S.put1 1 6) fun wi T=>?_;obtain⟨bf,a3⟩:=jx (onP C.L [102,105,110,97,108,108,121] b.2);have U:=zA a3;clear a3;cases bf with
  | false=>
   go_wp2_with fail;refine T.kM (zBd T.P [102,105,110,97,108,108,121] U) fun c8 H=>?_;have:=H.c 2;have:=H.c 0;have:=H.f 0;go_wp2_with fail;refine zCi (H.put 0 2) fun c9 a4=>?_;have q:=a4.c 0;exact a4.ret3 (kk:=16) 1 4 6 5 rfl rfl rfl rfl (by simp[results,results158,go_sem,q]) rfl (HR.out.symm.trans (by
    unfold zD;dsimp only;simp[B.out,N.out,HQ.out,F.out,U.out])) (fun _ h=>h)
  | true=>
   have d9:=zA (HL.out.on T.P.hi U);have e0:(zB b.2).k=b.2.k+1:=rfl;go_wp2_with fail;refine T.kM (zBY T.P [102,105,110,97,108,108,121] U) fun e1 e=>?_;have b6:=zA (fun Q=>e.dr.kX (Q:=Q) (HK.out.more (q:=.block) ⟨e.dr.P.hi,trivial⟩ e.dr.P jo));have:=e.c 2;have:=e.m2 1;have:=e.g2 1;go_upto_region 13 with(fail)
   go_cut [52] (fun _ wx=>∃(J:Tr×Ps) (d0 d1 d2 d3 d4 d5 d6 d7 d8:Value),Hid (zE C.L .block (zB (b.2))=J)∧Fr C (w.heap.size≤·) w [(I.heap.size),(z.heap.size),X] [.bx X 61 [(0:Int),"",(),(0:Int),(0:Int),false,(),(),()],.bx (z.heap.size) 61 [g,j,l,m,o,t,u,v,y,(17:Int),.string ⟨([]).toArray⟩,(),(0:Int),(0:Int),false,(),(),.slice R 1 E,d0,d1,d2,d3,d4,d5,d6,d7,d8],.bx (I.heap.size) 61 [(16:Int),"",(),(0:Int),(0:Int),false,(),(),.slice (some ⟨z.heap.size,0,none⟩) 3 3],.tr (G.1) [g,j,l,m,o,t,u,v,y],.tr (trN 17 ([]) [b.1]) [(17:Int),.string ⟨([]).toArray⟩,(),(0:Int),(0:Int),false,(),(),.slice R 1 E],.tr J.1 [d0,d1,d2,d3,d4,d5,d6,d7,d8]] J.2 wx)
   case first=>
    go_region_law (go_simp;go_at_call 127;(with_reducible refine b6.out _ fun J V w2 d0 d1 d2 d3 d4 d5 d6 d7 d8 A=>?_);have:=A.c 2;have:=A.m2 1;have:=A.g2 1;have:=A.sto 7)
    all_goals
     go_wp2_with fail;go_meet;exact⟨J,d0,d1,d2,d3,d4,d5,d6,d7,d8,V,(A.put2 1 7).pk3 [(I.heap.size),(z.heap.size),X] [0,1,2,4,6,7] js jd rfl js js js⟩
   case rest=>
    obtain⟨J,d0,d1,d2,d3,d4,d5,d6,d7,d8,V,Fz⟩:=hcut;obtain⟨wz,rfl⟩:∃x,x=wc:=⟨_,rfl⟩;have:=Fz.c 2;have:=Fz.c 0;have:=Fz.f 0;go_wp2_with fail;refine zCi (Fz.put 0 2) fun e2 a5=>?_;have q:=a5.c 0;exact a5.ret3 (kk:=16) 1 3 4 5 rfl rfl rfl rfl (by simp[results,results158,go_sem,q]) rfl (HR.out.symm.trans (by
     unfold zD;dsimp only;simp[B.out,N.out,HQ.out,F.out,U.out,V.out])) (fun _ h=>h)
theorem zXM {C:Pc} {s:Ps} {w:World}:zi C (.tries) s w (∀(_:onP C.L [99,97,116,99,104] (zE C.L .block (zB s)).2=false) (_:onP C.L [102,105,110,97,108,108,121] (zE C.L .block (zB s)).2=true),zf C s w (.tries)):=fun R K h H I=>by
 refine zBG R h fun Y a3 a4 r W X HR hW hX F0=>?_;have HK:=zA K;have M:=zA R.2;clear K h R;go_enter func158,ntmps158;go_upto_region 1 with(fail);clear hW hX;obtain⟨a5,a6,a7⟩:=F0.k1;have S:=F0.step M;have a0:=zA (zZ Y (p:=.block) (s:=zB s) ⟨M,trivial⟩).adv;go_wp2_with fail;refine S.kX (HK.out.more (q:=.block) ⟨S.P.hi,trivial⟩ S.P (yAF s.k)) fun l T w2 m o t u v y z A B d=>?_;have:=d.sto 1;obtain⟨e,D⟩:=jx l.2;have g:=zA (show zE C.L .block (zB s)=(l.1,e) by rw[T.out,←D]);have F3:=d;rw[D]at F3;have a1:=zA (show Adv C.L (zB s) e by have:=a0.out;rwa[g.out]at this);have a8:s.k < e.k:=by have:=a1.out.le;have:(zB s).k=s.k+1:=rfl;omega
 have U:=zA (show onP C.L [99,97,116,99,104] e=false by rw[g.out]at H;exact H);clear H D;have J:=zA (show onP C.L [102,105,110,97,108,108,121] e=true by rw[g.out]at I;exact I);clear I;go_wp2_with fail;refine F3.made0 _ fun w4 F4=>?_;go_wp2_with fail;refine F4.made0 _ fun E F5=>?_;have F6:=F5.box3 1 2 3;go_wp2_with fail;refine F6.kQ (zAr _ _ _ _) fun V F7=>?_;have F8:=F7.box [(16:Int),"",(),(0:Int),(0:Int),false,(),(),.slice (some ⟨E.heap.size,0,none⟩) 3 3] 61 rfl jd jd;go_wp2_with fail;refine F8.kB (zAi F8.P [99,97,116,99,104] U) fun w9 F9=>?_;go_wp2_with fail;refine F9.kB (zAi F9.P [102,105,110,97,108,108,121] J) fun a9 N=>?_;go_wp2_with fail;refine N.kM (zBd N.P [99,97,116,99,104] U) fun b0 F=>?_;have b1:=zA (Y.out.on F.P.hi J);go_wp2_with fail;refine F.kM (zBY F.P [102,105,110,97,108,108,121] J) fun b2 b=>?_;have b3:(zB e).k=e.k+1:=rfl;have a2:=zA (fun Q=>b.dr.kX (Q:=Q) (HK.out.more (q:=.block) ⟨b.dr.P.hi,trivial⟩ b.dr.P jo));have:=b.c 5;have:=b.m2 4;have:=b.g2 4;go_upto_region 13 with(fail)
 go_cut [52] (fun _ wx=>∃(j:Tr×Ps) (d0 d1 d2 d3 d4 d5 d6 d7 d8:Value),Hid (zE C.L .block (zB (e))=j)∧Fr C (w.heap.size≤·) w [(V.heap.size),(E.heap.size),X] [.bx X 61 [(0:Int),"",(),(0:Int),(0:Int),false,(),(),()],.bx (E.heap.size) 61 [m,o,t,u,v,y,z,A,B,(11:Int),"",(),(0:Int),(0:Int),false,(),(),(),d0,d1,d2,d3,d4,d5,d6,d7,d8],.bx (V.heap.size) 61 [(16:Int),"",(),(0:Int),(0:Int),false,(),(),.slice (some ⟨E.heap.size,0,none⟩) 3 3],.tr (l.1) [m,o,t,u,v,y,z,A,B],.tr (trK 11 []) [(11:Int),"",(),(0:Int),(0:Int),false,(),(),()],.tr j.1 [d0,d1,d2,d3,d4,d5,d6,d7,d8]] j.2 wx)
 case first=>
  go_region_law (go_simp;go_at_call 127;(with_reducible refine a2.out _ fun j G w2 d0 d1 d2 d3 d4 d5 d6 d7 d8 d=>?_);have:=d.c 5;have:=d.m2 4;have:=d.g2 4;have:=d.sto 6)
  all_goals
   go_wp2_with fail;go_meet;exact⟨j,d0,d1,d2,d3,d4,d5,d6,d7,d8,G,(d.put2 4 6).pk3 [(V.heap.size),(E.heap.size),X] [0,4,5,1,2,6] js jd rfl js js js⟩
 case rest=>
  obtain⟨j,d0,d1,d2,d3,d4,d5,d6,d7,d8,G,Fz⟩:=hcut;obtain⟨wz,rfl⟩:∃x,x=wc:=⟨_,rfl⟩;have:=Fz.c 2;have:=Fz.c 0;have:=Fz.f 0;go_wp2_with fail;refine zCi (Fz.put 0 2) fun b4 O=>?_;have q:=O.c 0;exact O.ret3 (kk:=16) 1 3 4 5 rfl rfl rfl rfl (by simp[results,results158,go_sem,q]) rfl (HR.out.symm.trans (by
   unfold zD;dsimp only;simp[g.out,U.out,J.out,G.out])) (fun _ h=>h)
theorem zUT {C:Pc} {s:Ps} {w:World}:zi C (.tries) s w (∀(_:onP C.L [99,97,116,99,104] (zE C.L .block (zB s)).2=false) (_:onP C.L [102,105,110,97,108,108,121] (zE C.L .block (zB s)).2=false),zf C s w (.tries)):=fun B K h j l=>by
 refine zBG B h fun F T a9 r W X U V Y G=>?_;have HK:=zA K;have m:=zA B.2;clear K h B;go_enter func158,ntmps158;go_upto_region 1 with(fail);clear V Y;obtain⟨b0,b1,b2⟩:=G.k1;have D:=G.step m;have H:=zA (zZ F (p:=.block) (s:=zB s) ⟨m,trivial⟩).adv;go_wp2_with fail;refine D.kX (HK.out.more (q:=.block) ⟨D.P.hi,trivial⟩ D.P (yAF s.k)) fun o E w2 a0 a1 a2 a3 a4 a5 a6 a7 a8 I=>?_;have:=I.sto 1;obtain⟨b,g⟩:=jx o.2;have d:=zA (show zE C.L .block (zB s)=(o.1,b) by rw[E.out,←g]);have J:=I;rw[g]at J;have M:=zA (show Adv C.L (zB s) b by have:=H.out;rwa[d.out]at this);have b3:s.k < b.k:=by have:=M.out.le;have:(zB s).k=s.k+1:=rfl;omega
 have N:=zA (show onP C.L [99,97,116,99,104] b=false by rw[d.out]at j;exact j);clear j g;have O:=zA (show onP C.L [102,105,110,97,108,108,121] b=false by rw[d.out]at l;exact l);clear l;go_wp2_with fail;refine J.made0 _ fun w4 F4=>?_;go_wp2_with fail;refine F4.made0 _ fun w5 F5=>?_;have F6:=F5.box3 1 2 3;go_wp2_with fail;refine F6.kQ (zAr _ _ _ _) fun w7 F7=>?_;have Q:=F7.box [(16:Int),"",(),(0:Int),(0:Int),false,(),(),.slice (some ⟨w5.heap.size,0,none⟩) 3 3] 61 rfl jd jd;go_wp2_with fail;refine Q.kB (zAi Q.P [99,97,116,99,104] N) fun w9 R=>?_;go_wp2_with fail;refine R.kB (zAi R.P [102,105,110,97,108,108,121] O) fun b4 t=>?_;go_wp2_with fail;refine t.kN (zAJ t.P) fun b5 u=>?_;have S:=zA (show(zH C.L (zb C.L (b)).k).kind=0 from F.out.last);have v:=zA (show onP C.L [99,97,116,99,104] (zb C.L (b))=false from zMT S _);have y:=zA (show onP C.L [102,105,110,97,108,108,121] (zb C.L (b))=false from zMT S _);go_wp2_with fail;refine u.kM (zBd u.P [99,97,116,99,104] v) fun b6 z=>?_;go_wp2_with fail;refine z.kM (zBd z.P [102,105,110,97,108,108,121] y) fun b7 e=>?_;have:=e.c 5;have:=e.c 0;have:=e.f 0;go_wp2_with fail;refine zCi (e.put 0 5) fun b8 A=>?_;have q:=A.c 0;exact A.ret3 (kk:=16) 4 1 2 3 rfl rfl rfl rfl (by simp[results,results158,go_sem,q]) rfl (U.out.symm.trans (by
  unfold zD;dsimp only;simp[d.out,N.out,O.out,v.out,y.out])) (fun _ h=>h)
theorem zXN {C:Pc} {s:Ps} {w:World}:zi C .tries s w (zf C s w .tries):=fun b K h=>by
 cases hc:onP C.L [99,97,116,99,104] (zE C.L .block (zB s)).2 with
 | true=>
  cases hq:onP C.L [40] (zB (zE C.L .block (zB s)).2)with
  | true=>exact zQ3 b K h hc hq
  | false=>exact zUS b K h hc hq
 | false=>
  cases hf:onP C.L [102,105,110,97,108,108,121] (zE C.L .block (zB s)).2 with
  | true=>exact zXM b K h hc hf
  | false=>exact zUT b K h hc hf
def zac (t u:Tok):Prop:=t.kind=u.kind∧t.text=u.text∧t.str=u.str∧t.nk=u.nk∧t.nn=u.nn∧t.mag=u.mag
def zat:List jE:=[[101,108,115,101],[99,97,116,99,104],[102,105,110,97,108,108,121],[63],[63,63],[124,124],[38,38],[40],[46],[91],[61],[44],[58],[61,62]]
structure Stop (t:Tok):Prop where
 name:t.kind≠1
 binds:zBJ t=9
 words:∀w∈zat,isT t w=false
 asgn:t.kind=5→¬t.text∈zKO
 post:t.kind=5→t.text∈zDa→t.nl=true
structure Sim (L1 L2:List Tok) (a d m:Nat) (lo:Bool):Prop where
 l1:Lst L1
 l2:Lst L2
 le1:m≤L1.length - 1
 le2:m+d≤L2.length - 1
 tok:∀i,a≤i→i < m→zac (zH L1 i) (zH L2 (i+d))
 nl:∀i,a < i→i < m→(zH L1 i).nl=(zH L2 (i+d)).nl
 stop:Stop (zH L2 (m+d))
 arrow:isT (zH L2 (m+d)) [41]=true→isT (zH L2 (m+d+1)) [61,62]=false
 loose:lo=true→(isT (zH L2 (m+d)) [59]=true∧isT (zH L2 (m+d+1)) [101,108,115,101]=false)∨(isT (zH L2 (m+d)) [59]=false∧((zH L2 (m+d)).nl=true∨(zH L2 (m+d)).kind=0∨isT (zH L2 (m+d)) [125]=true))
def shP (d:Nat) (s:Ps):Ps:={s with k:=s.k+d}
theorem zXO (d:Nat) (s:Ps):zB (shP d s)=shP d (zB s):=by
 unfold zB shP;simp only[Ps.mk.injEq,and_self,and_true];omega
structure Ok (m:Nat) (s:Ps):Prop where
 bad:s.bad=0
 le:s.k≤m
theorem Ok.back {L:List Tok} {m:Nat} {x y:Ps} (h:Ok m y) (k:Adv L x y):Ok m x:=⟨by
 rcases yCN x.bad with b | b
 · exact b
 · exact absurd h.bad (k.bad jo),yAD k.le h.le⟩
theorem Ok.step {m:Nat} {x:Ps} (h:Ok m (zB x)):Ok m x∧x.k < m:=⟨⟨h.bad,Nat.le_of_succ_le h.le⟩,h.le⟩
theorem Ok.name {L:List Tok} {m:Nat} {x:Ps} (h:Ok m (ze L x).2):(zH L x.k).kind=1∧ze L x=((zH L x.k).text,zB x)∧Ok m x∧x.k < m:=by
 unfold ze at h⊢
 by_cases c:(zH L x.k).kind=1
 · rw[if_pos c]at h⊢;exact⟨c,rfl,h.step.1,h.step.2⟩
 · rw[if_neg c]at h;exact absurd h.bad zFd
section
variable {L1 L2:List Tok} {a d m:Nat} {lo:Bool} {s:Ps} {w:jE}
theorem Sim.kind (S:Sim L1 L2 a d m lo) (b:a≤s.k) (c:s.k < m):(zH L2 (shP d s).k).kind=(zH L1 s.k).kind:=(S.tok _ b c).1.symm
variable {R1 R2:Ph→Ps→Tr×Ps}
def Loo (L2:List Tok) (d m:Nat) (lo:Bool) (r1 r2:Tr×Ps):Prop:=
 (r1.2.k < m→r2=(r1.1,shP d r1.2))∧(r1.2.k=m→lo=true→r2=(r1.1,shP d r1.2)∨(isT (zH L2 (m+d)) [59]=true∧r2=(r1.1,zB (shP d r1.2))))
theorem Loo.map {r1 r2:Tr×Ps} (h:Loo L2 d m lo r1 r2) (F:Tr→Tr):Loo L2 d m lo (F r1.1,r1.2) (F r2.1,r2.2):=by
 refine⟨fun x=>?_,fun x y=>?_⟩
 · rw[h.1 x]
 · rcases h.2 x y with b | ⟨b,c⟩
   · left;rw[b]
   · right;exact⟨b,by rw[c]⟩
end
set_option linter.unusedVariables false
structure TG (t:Tok):Prop where
 name:t.kind=1→zBn t.text=true
 word:t.kind=6→zGL t.text=true
 num:t.kind=2→t.nk=0∧0≤t.nn∧t.nn≤9007199254740991
 big:t.kind=3→zBL false t.mag=true
 str:t.kind=4→t.str.length≤4096
 len:t.text.length≤4096
def TL (L:List Tok):Prop:=∀i,TG (zH L i)
def GD (L:List Tok) (r:Tr×Ps):Prop:=GU r.1∧(dangT r.1=true→¬onP L [101,108,115,101] r.2=true)
section
variable {L:List Tok} {R:Ph→Ps→Tr×Ps} {s:Ps}
theorem GD.plain {e:Ps} (h:GU t) (c:dangT t=false):GD L (t,e):=⟨h,fun b=>by rw[c]at b;cases b⟩
end
theorem zGE (l:jE) (w:World) (j:l.length≤10000):
 Calls prog 98 #[l] w fun e w'=>∃A c,e=.returned (.slice A l.length c)∧w'.ownsRow 0 104 1 (.slice A l.length c) l.length (zAC (zV l))∧w.grownBy w' none:=by
 refine(zDi ⟨l.toArray⟩ w (by show l.length≤_;omega)).mono ?_;rintro e w' ⟨v,rfl,f⟩;have b:=f.own;have d:(zAC (zV l)).length=l.length:=by simp[zAC,zV]
 have g:zAC (zV (⟨l.toArray⟩:ByteArray).data.toList)=zAC (zV l):=rfl;rw[g,d]at b;obtain⟨A,c,rfl,_⟩:=zP b;exact⟨A,c,rfl,zAY b (yAE _),zw none f.below⟩
theorem zEA (l:jE):(zV l).length=l.length:=by simp[zV]
theorem zQ4 {w:World} {l:List Tr} {v:Value} (h:RowP w P v l) (h1:w.ownsRow 0 104 1 vs u.length (zAC u)):TrC w P (.mk {zB6 with kind:=40,str:=u} l) [(40:Int),"",vs,(0:Int),(0:Int),false,(),(),v]:=
 h.tree (x:={zB6 with kind:=40,str:=u}) rfl h1 (yAJ _ _ _ _)
section
variable {C:Pc} {B:Nat→Prop} {a:World} {D:List Nat} {os:List Ob} {s:Ps} {w w':World}
theorem Fr.kU {f:FuncId} {args:Array Value} (F:Fr C B a D os s w) (h:Calls prog f args w (fun e w'=>∃A c,e=.returned (.slice A n c)∧w'.ownsRow 0 104 1 (.slice A n c) n (zAC u)∧w.grownBy w' none)) {Q:Ending→World→Prop} (k:∀w' A c,Fr C B a D (os++[.lf 104 (.slice A n c) n (zAC u)]) s w'→Q (.returned (.slice A n c)) w'):Calls prog f args w Q:=h.mono fun _ w' ⟨A,c,h1,b,d⟩=>h1▸k w' A c (.mk ((F.n d).out.snoc (x:=.lf _ _ _ _) rfl ⟨.inl rfl,b⟩))
theorem Fr.lit1 (F:Fr C B a D os s w) (j:Nat) {R:Nat} {c0 c1 c2 c3 c4 c5 c6 c7 c8:Value} (b:w.heap.size=R) (c:os[j]? =some (.tr t [c0,c1,c2,c3,c4,c5,c6,c7,c8]):=by rfl):Fr C B a D (os++[.ro (.slice (some ⟨R,0,none⟩) 1 1) [t]]) s (w.alloc (.cells #[c0,c1,c2,c3,c4,c5,c6,c7,c8] 61)):=
 have h:=F.litG (F.ts1 j c) (n:=1) rfl jd b (w':=w.alloc (.cells #[c0,c1,c2,c3,c4,c5,c6,c7,c8] 61)) ⟨rfl,rfl,rfl,yAC _,fun _ _ _=>rfl⟩
 .mk (h.1.snoc (x:=.ro _ _) rfl h.2)
theorem Fr.propT (F:Fr C B a D os s w) (i j:Nat) (u:jH) {l:List Tr} {v:Value} (b:n=u.length) (hi:os[i]? =some (.ro v l):=by rfl) (hj:os[j]? =some (.lf 104 vs n (zAC u)):=by rfl):Fr C B a D (os++[.tr (.mk {zB6 with kind:=40,str:=u} l) [(40:Int),"",vs,(0:Int),(0:Int),false,(),(),v]]) s w:=.mk (F.out.snoc (x:=.tr _ _) rfl (zQ4 (F.r i hi) (b▸F.l j hj)))
end
theorem zQ5 {C:Pc} {s:Ps} {w:World}:zi C (.prop) s w (∀(_:(zH C.L s.k).kind≠4∧(zH C.L s.k).kind≠2∧(zH C.L s.k).kind≠1∧(zH C.L s.k).kind≠6),zf C s w (.prop)):=fun g _K h hk=>by
 refine zBG g h fun A o z r W X p q t j=>?_;clear h g;go_enter func197,ntmps197;go_upto_region 1 with(fail);clear q t;have d:=zA hk;clear hk;obtain⟨⟨kd,tx,B,nk,nn,D,ps,nl⟩,l⟩:=zR C.L (s).k;go_wp2_with fail;refine j.kT (zj j.P l) fun w1 As Am c1 c2 u=>?_;have v:=u.bt 1 78 rfl;have m:kd≠4∧kd≠2∧kd≠1∧kd≠6:=by have:=d.out;rwa[l.out]at this
 have e4:((kd:Int)==4)=false:=by rw[yA];omega
 have e2:((kd:Int)==2)=false:=by rw[yA];omega
 have e1:((kd:Int)==1)=false:=by rw[yA];omega
 have e6:((kd:Int)==6)=false:=by rw[yA];omega
 clear m;go_wp2_with fail;refine v.made0 _ fun w3 y=>?_;have e:=y.bt 3 61 rfl;have:=e.c 2;go_wp2_with fail;refine e.kN (zAJ e.P) fun E b=>?_;have:=b.c 4;have:=b.c 0;have:=b.f 0;go_wp2_with fail;exact b.fin 0 3 rfl (p.out.symm.trans (by
  unfold zD;dsimp only;rw[show zBS (zH C.L s.k)=none from by unfold zBS;simp[d.out]]))
theorem zLE {C:Pc} {s:Ps} {w:World}:zi C (.prop) s w (∀(_:(zH C.L s.k).kind=4),zf C s w (.prop)):=fun H K h hk=>by
 refine zBG H h fun I Y J r W X HR hW hX M=>?_;have HK:=zA K;clear K h H;go_enter func197,ntmps197;go_upto_region 1 with(fail);clear hW hX;have e:=zA hk;clear hk;have B:=zA (I.out.lt J (by rw[e.out];decide));obtain⟨⟨kd,tx,D,nk,nn,mg,ps,nl⟩,E⟩:=zR C.L (s).k;go_wp2_with fail;refine M.kTl (zj M.P E) fun w1 As Am c1 c2 F1=>?_;have F2:=F1.bt 1 78 rfl;have d:kd=4:=by have:=e.out;rwa[E.out]at this
 have e4:((kd:Int)==4)=true:=by rw[d];decide
 have e2:((kd:Int)==2)=false:=by rw[d];decide
 have e1:((kd:Int)==1)=false:=by rw[d];decide
 have e6:((kd:Int)==6)=false:=by rw[d];decide
 clear d;go_wp2_with fail;refine F2.made0 _ fun w3 F3=>?_;have F4:=F3.bt 5 61 rfl;go_upto_region 3 with(fail);refine zEf F4 fun w5 z=>?_;have:=z.c 4;have:=z.c 6;have:=z.f 6;have N:=z.set 6 2 (.slice As D.length c1);obtain⟨xk,fk,bk⟩:=N.k1;go_upto_region 13 with(fail);refine zEf N fun w7 O=>?_;clear xk fk bk;obtain⟨a1,a2,a3⟩:=O.k1;have F:=O.step B;have:=F.c 4;have Q:=zA (za (w:=[58]) I (s:=zB s) B).adv;have R:s.k < (zO C.L [58] (zB s)).k:=by have:=Q.out.le;have:(zB s).k=s.k+1:=rfl;omega
 go_wp2_with fail;refine F.kN (zAH F.P [58]) fun w9 G=>?_;go_wp2_with fail;refine G.kX (HK.out.more (q:=.assign) ⟨G.P.hi,trivial⟩ G.P R) fun a0 A S g j l m o p t u v b=>?_;have:=b.sto 7;have:=b.c 6;have:=b.f 6;have:=(b.al (.cells #[g,j,l,m,o,p,t,u,v] 61)).c 6;have:=(b.al (.cells #[g,j,l,m,o,p,t,u,v] 61)).f 6;have T:=b.lit1 7 rfl;have U:=T.set 6 8 (.slice (some ⟨S.heap.size,0,none⟩) 1 1);go_upto_region 19 with(fail);refine zEf U fun a4 V=>?_;have y:=V.propT 8 2 (D) rfl;have:=y.c 6;have:=y.c 0;have:=y.f 0;go_wp2_with fail;exact y.fin 0 9 rfl (HR.out.symm.trans (by
  unfold zD;dsimp only;rw[show zBS (zH C.L s.k)=some (D)from by unfold zBS;rw[e.out];simp[E.out]];dsimp only;rw[if_neg (fun h=>by have:=e.out;rw[h.1]at this;cases this),A.out]))
theorem zQ6 {C:Pc} {s:Ps} {w:World}:zi C (.prop) s w (∀(_:(zH C.L s.k).kind=6) (_:TG (zH C.L s.k)),zf C s w (.prop)):=fun I K h hk z=>by
 refine zBG I h fun J a2 M r W X HR hW hX N=>?_;have HK:=zA K;clear K h I;go_enter func197,ntmps197;go_upto_region 1 with(fail);clear hW hX;have e:=zA hk;have O:=zA z;clear z;clear hk;have F:=zA (J.out.lt M (by rw[e.out];decide));obtain⟨⟨kd,tx,st,nk,nn,mg,ps,nl⟩,B⟩:=zR C.L (s).k;go_wp2_with fail;refine N.kT (zj N.P B) fun w1 As Am c1 c2 F1=>?_;have F2:=F1.bt 1 78 rfl;have d:kd=6:=by have:=e.out;rwa[B.out]at this
 have e4:((kd:Int)==4)=false:=by rw[d];decide
 have e2:((kd:Int)==2)=false:=by rw[d];decide
 have e1:((kd:Int)==1)=false:=by rw[d];decide
 have e6:((kd:Int)==6)=true:=by rw[d];decide
 clear d;go_wp2_with fail;refine F2.made0 _ fun w3 F3=>?_;have F4:=F3.bt 3 61 rfl;go_upto_region 3 with(fail);refine zEf F4 fun w5 D=>?_;have:=D.c 2;have:=D.c 4;have:=D.f 4;have Q:=zA (show tx.length≤10000 by have:=O.out.len;rw[B.out]at this;have h9:tx.length≤4096:=this;omega);go_wp2_with fail;refine D.kU (zGE (tx) _ Q) fun w6 Aa ca G=>?_;have:=G.c 4;have:=G.f 4;have R:=G.set 4 2 (.slice Aa (tx).length ca);obtain⟨xk,fk,bk⟩:=R.k1;go_upto_region 13 with(fail);refine zEf R fun w8 S=>?_;clear xk fk bk;obtain⟨a4,a5,a6⟩:=S.k1;have H:=S.step F;have:=H.c 2;have T:=zA (za (w:=[58]) J (s:=zB s) F).adv;have U:s.k < (zO C.L [58] (zB s)).k:=by have:=T.out.le;have:(zB s).k=s.k+1:=rfl;omega
 go_wp2_with fail;refine H.kN (zAH H.P [58]) fun a7 A=>?_;go_wp2_with fail;refine A.kX (HK.out.more (q:=.assign) ⟨A.P.hi,trivial⟩ A.P U) fun a3 E V g j l m o p t u v b=>?_;have:=b.sto 6;have:=b.c 4;have:=b.f 4;have:=(b.al (.cells #[g,j,l,m,o,p,t,u,v] 61)).c 4;have:=(b.al (.cells #[g,j,l,m,o,p,t,u,v] 61)).f 4;have Y:=b.lit1 6 rfl;have a0:=Y.set 4 8 (.slice (some ⟨V.heap.size,0,none⟩) 1 1);go_upto_region 19 with(fail);refine zEf a0 fun a8 a1=>?_;have y:=a1.propT 7 5 (zV (tx)) (zEA _).symm;have:=y.c 4;have:=y.c 0;have:=y.f 0;go_wp2_with fail;exact y.fin 0 8 rfl (HR.out.symm.trans (by
  unfold zD;dsimp only;rw[show zBS (zH C.L s.k)=some (zV (tx))from by unfold zBS;rw[e.out];simp[B.out]];dsimp only;rw[if_neg (fun h=>by have:=e.out;rw[h.1]at this;cases this),E.out]))
theorem zN6 {C:Pc} {s:Ps} {w:World}:zi C (.prop) s w (∀(_:(zH C.L s.k).kind=1) (_:TG (zH C.L s.k)) (_:onP C.L [58] (zB s)=false),zf C s w (.prop)):=fun v _K h hk j l=>by
 refine zBG v h fun M N y r W X O Q R z=>?_;clear h v;go_enter func197,ntmps197;go_upto_region 1 with(fail);clear Q R;have e:=zA hk;have A:=zA j;clear j;have p:=zA l;clear l;clear hk;have B:=zA (M.out.lt y (by rw[e.out];decide));obtain⟨⟨kd,tx,st,nk,nn,mg,ps,nl⟩,m⟩:=zR C.L (s).k;go_wp2_with fail;refine z.kT (zj z.P m) fun w1 As Am c1 c2 S=>?_;have T:=S.bt 1 78 rfl;have b:kd=1:=by have:=e.out;rwa[m.out]at this
 have e4:((kd:Int)==4)=false:=by rw[b];decide
 have e2:((kd:Int)==2)=false:=by rw[b];decide
 have e1:((kd:Int)==1)=true:=by rw[b];decide
 have e6:((kd:Int)==6)=false:=by rw[b];decide
 clear b;go_wp2_with fail;refine T.made0 _ fun w3 U=>?_;have V:=U.bt 3 61 rfl;go_upto_region 3 with(fail);refine zEf V fun w5 o=>?_;have:=o.c 2;have:=o.c 4;have:=o.f 4;have D:=zA (show tx.length≤10000 by have:=A.out.len;rw[m.out]at this;have h9:tx.length≤4096:=this;omega);go_wp2_with fail;refine o.kU (zGE (tx) _ D) fun w6 Y ca t=>?_;have:=t.c 4;have:=t.f 4;have E:=t.set 4 2 (.slice Y (tx).length ca);obtain⟨xk,fk,bk⟩:=E.k1;go_upto_region 13 with(fail);refine zEf E fun w8 F=>?_;clear xk fk bk;obtain⟨a0,a1,a2⟩:=F.k1;have u:=F.step B;have:=u.c 2;go_wp2_with fail;refine u.kB (zAi u.P [58] p) fun a3 q=>?_;have:=q.c 2;go_wp2_with fail;refine q.named0 _ tx fun G d=>?_;have:=d.c 4;have:=d.f 4;have:=(d.al (.cells #[(33:Int),tx,(),(0:Int),(0:Int),false,(),(),()] 61)).c 4;have:=(d.al (.cells #[(33:Int),tx,(),(0:Int),(0:Int),false,(),(),()] 61)).f 4;have H:=d.lit1 6 rfl;have I:=H.set 4 8 (.slice (some ⟨G.heap.size,0,none⟩) 1 1);go_upto_region 16 with(fail);refine zEf I fun a4 J=>?_;have g:=J.propT 7 5 (zV (tx)) (zEA _).symm;have:=g.c 4;have:=g.c 0;have:=g.f 0;go_wp2_with fail;exact g.fin 0 8 rfl (O.out.symm.trans (by
  unfold zD;dsimp only;rw[show zBS (zH C.L s.k)=some (zV (tx))from by unfold zBS;rw[e.out];simp[m.out]];dsimp only;rw[if_pos ⟨e.out,p.out⟩,m.out]))
theorem zN7 {C:Pc} {s:Ps} {w:World}:zi C (.prop) s w (∀(_:(zH C.L s.k).kind=1) (_:TG (zH C.L s.k)) (_:onP C.L [58] (zB s)=true),zf C s w (.prop)):=fun N K h hk y z=>by
 refine zBG N h fun O a5 Q r W X HR hW hX R=>?_;have HK:=zA K;clear K h N;go_enter func197,ntmps197;go_upto_region 1 with(fail);clear hW hX;have A:=zA hk;have S:=zA y;clear y;have G:=zA z;clear z;clear hk;have H:=zA (O.out.lt Q (by rw[A.out];decide));obtain⟨⟨kd,tx,st,nk,nn,mg,ps,nl⟩,D⟩:=zR C.L (s).k;go_wp2_with fail;refine R.kT (zj R.P D) fun w1 As Am c1 c2 F1=>?_;have F2:=F1.bt 1 78 rfl;have d:kd=1:=by have:=A.out;rwa[D.out]at this
 have e4:((kd:Int)==4)=false:=by rw[d];decide
 have e2:((kd:Int)==2)=false:=by rw[d];decide
 have e1:((kd:Int)==1)=true:=by rw[d];decide
 have e6:((kd:Int)==6)=false:=by rw[d];decide
 clear d;go_wp2_with fail;refine F2.made0 _ fun w3 F3=>?_;have F4:=F3.bt 3 61 rfl;go_upto_region 3 with(fail);refine zEf F4 fun w5 E=>?_;have:=E.c 2;have:=E.c 4;have:=E.f 4;have T:=zA (show tx.length≤10000 by have:=S.out.len;rw[D.out]at this;have h9:tx.length≤4096:=this;omega);go_wp2_with fail;refine E.kU (zGE (tx) _ T) fun w6 Aa ca J=>?_;have:=J.c 4;have:=J.f 4;have U:=J.set 4 2 (.slice Aa (tx).length ca);obtain⟨xk,fk,bk⟩:=U.k1;go_upto_region 13 with(fail);refine zEf U fun w8 V=>?_;clear xk fk bk;obtain⟨a7,a8,a9⟩:=V.k1;have M:=V.step H;have:=M.c 2;go_wp2_with fail;refine M.kB (zAi M.P [58] G) fun b0 I=>?_;have Y:=zA (za (w:=[58]) O (s:=zB s) H).adv;have a0:s.k < (zO C.L [58] (zB s)).k:=by have:=Y.out.le;have:(zB s).k=s.k+1:=rfl;omega
 go_wp2_with fail;refine I.kN (zAH I.P [58]) fun b1 B=>?_;go_wp2_with fail;refine B.kX (HK.out.more (q:=.assign) ⟨B.P.hi,trivial⟩ B.P a0) fun a6 F a1 e g j l m o p t u b=>?_;have:=b.sto 6;have:=b.c 4;have:=b.f 4;have:=(b.al (.cells #[e,g,j,l,m,o,p,t,u] 61)).c 4;have:=(b.al (.cells #[e,g,j,l,m,o,p,t,u] 61)).f 4;have a2:=b.lit1 6 rfl;have a3:=a2.set 4 8 (.slice (some ⟨a1.heap.size,0,none⟩) 1 1);go_upto_region 19 with(fail);refine zEf a3 fun b2 a4=>?_;have v:=a4.propT 7 5 (zV (tx)) (zEA _).symm;have:=v.c 4;have:=v.c 0;have:=v.f 0;go_wp2_with fail;exact v.fin 0 8 rfl (HR.out.symm.trans (by
  unfold zD;dsimp only;rw[show zBS (zH C.L s.k)=some (zV (tx))from by unfold zBS;rw[A.out];simp[D.out]];dsimp only;rw[if_neg (fun h=>by rw[G.out]at h;cases h.2),F.out]))
theorem zN8 {n:Int} (b:0≤n) (h1:n≤9007199254740991):(zBQ n.toNat).length≤10000:=by
 have:=zK0 (k:=15) (n:=n.toNat) jo;omega
theorem zLF {C:Pc} {s:Ps} {w:World}:zi C (.prop) s w (∀(_:(zH C.L s.k).kind=2) (_:Tab C.w0) (_:TG (zH C.L s.k)),zf C s w (.prop)):=fun hp K h hk U E=>by
 refine zBG hp h fun HL b0 a0 r W X HR hW hX F0=>?_;have HK:=zA K;clear K h hp;go_enter func197,ntmps197;go_upto_region 1 with(fail);clear hW hX;have d:=zA hk;have a1:=zA E;clear E;clear hk;have Q:=zA U;clear U;have R:=zA (HL.out.lt a0 (by rw[d.out];decide));obtain⟨⟨kd,tx,st,nk,nn,mg,ps,nl⟩,N⟩:=zR C.L (s).k;go_wp2_with fail;refine F0.kT (zj F0.P N) fun w1 As Am c1 c2 F1=>?_;have F2:=F1.bt 1 78 rfl;have g:kd=2:=by have:=d.out;rwa[N.out]at this
 have e4:((kd:Int)==4)=false:=by rw[g];decide
 have e2:((kd:Int)==2)=true:=by rw[g];decide
 have e1:((kd:Int)==1)=false:=by rw[g];decide
 have e6:((kd:Int)==6)=false:=by rw[g];decide
 clear g;go_wp2_with fail;refine F2.made0 _ fun w3 F3=>?_;have F4:=F3.bt 3 61 rfl;go_upto_region 3 with(fail);refine zEf F4 fun w5 F=>?_;have:=F.c 2;have:=F.c 4;have:=F.f 4;have j:=a1.out.num d;rw[N.out]at j;have S:nk=0:=j.1;have G:0≤nn:=j.2.1;have H:nn≤9007199254740991:=j.2.2;clear j;have V:Calls prog 57 #[.agg #[nk,nn]] w5 fun e w'=>e=.returned (zBQ nn.toNat)∧(w5).grownBy w' none:=by
  rw[S];exact(zI3 nn _ G H (Q.out.below Q.out.lt F.P.keep)).mono fun _ _ h=>⟨h.1,zw none h.2⟩
 obtain⟨D,I⟩:=jx (zBQ nn.toNat);have l:=zN8 G H;rw[I]at V l;have a2:=zA l;have a3:=zA I;have T:=zA V;clear V S G H l I;go_wp2_with fail;refine F.kQ T fun w6 F6=>?_;clear T;go_wp2_with fail;refine F6.kU (zGE (D) _ a2) fun w7 Aa ca Y=>?_;have:=Y.c 4;have:=Y.f 4;have F8:=Y.set 4 2 (.slice Aa (D).length ca);obtain⟨xk,fk,bk⟩:=F8.k1;go_upto_region 13 with(fail);refine zEf F8 fun w9 F9=>?_;clear xk fk bk;obtain⟨b1,b2,b3⟩:=F9.k1;have J:=F9.step R;have:=J.c 2;have a4:=zA (za (w:=[58]) HL (s:=zB s) R).adv;have a5:s.k < (zO C.L [58] (zB s)).k:=by have:=a4.out.le;have:(zB s).k=s.k+1:=rfl;omega
 go_wp2_with fail;refine J.kN (zAH J.P [58]) fun b5 M=>?_;go_wp2_with fail;refine M.kX (HK.out.more (q:=.assign) ⟨M.P.hi,trivial⟩ M.P a5) fun b4 O a6 m o p t u v y z A b=>?_;have:=b.sto 6;have:=b.c 4;have:=b.f 4;have:=(b.al (.cells #[m,o,p,t,u,v,y,z,A] 61)).c 4;have:=(b.al (.cells #[m,o,p,t,u,v,y,z,A] 61)).f 4;have a7:=b.lit1 6 rfl;have a8:=a7.set 4 8 (.slice (some ⟨a6.heap.size,0,none⟩) 1 1);go_upto_region 19 with(fail);refine zEf a8 fun b6 a9=>?_;have B:=a9.propT 7 5 (zV (D)) (zEA _).symm;have:=B.c 4;have:=B.c 0;have:=B.f 0;go_wp2_with fail;exact B.fin 0 8 rfl (HR.out.symm.trans (by
  unfold zD;dsimp only;rw[show zBS (zH C.L s.k)=some (zV (D))from by unfold zBS;rw[d.out];simp[N.out,a3.out]];dsimp only;rw[if_neg (fun h=>by have:=d.out;rw[h.1]at this;cases this),O.out]))
theorem zUU {C:Pc} {s:Ps} {w:World}:zi C .prop s w (∀(_:Tab C.w0) (_:TL C.L),zf C s w .prop):=fun c K h d b=>by
 by_cases k4:(zH C.L s.k).kind=4
 · exact zLE c K h k4
 by_cases k2:(zH C.L s.k).kind=2
 · exact zLF c K h k2 d (b s.k)
 by_cases k1:(zH C.L s.k).kind=1
 · cases hon:onP C.L [58] (zB s)with
   | true=>exact zN7 c K h k1 (b s.k) hon
   | false=>exact zN6 c K h k1 (b s.k) hon
 by_cases k6:(zH C.L s.k).kind=6
 · exact zQ6 c K h k6 (b s.k)
 exact zQ5 c K h ⟨k4,k2,k1,k6⟩
theorem zYU {C:Pc} (g:Tab C.w0) (e:TL C.L):∀N,KP C N:=by
 intro N
 induction N with
 | zero=>exact fun q s w _ d _=>absurd d (Nat.not_lt_zero _)
 | succ N j=>
  intro q s w b d h;have K:KP C (zCL C.L q s):=fun m s' w' f p o=>j m s' w' f jo o;cases q with
  | program c=>
   cases c with
   | nil=>exact zK5 b K h
   | cons a r=>exact trivial
  | block=>exact zQr b K h
  | blockL c=>exact trivial
  | item=>exact zUC b K h
  | declares=>exact zJx b K h
  | declL k c=>exact trivial
  | func k n=>exact zUA b K h
  | params=>exact zT9 b K h
  | paramL c=>exact trivial
  | statement=>exact zHS b K h
  | simple=>exact zNs b K h
  | word v=>exact zUH b K h
  | within=>exact zNr b K h
  | clause v=>exact zNt b K h
  | loop=>exact zUO b K h
  | jump k=>exact zUD b K h
  | tries=>exact zXN b K h
  | assign=>exact zN2 b K h
  | body l=>exact zUB b K h
  | cond=>exact zT2 b K h
  | either=>exact zNu b K h
  | nullL x=>exact trivial
  | orL x=>exact trivial
  | both x=>exact zT1 b K h
  | level n=>exact zQp b K h
  | levelL n x=>exact trivial
  | unary=>exact zQm b K h
  | calls=>exact zQ1 b K h
  | callsL x=>exact trivial
  | head=>exact zUM b K h
  | headL x=>exact trivial
  | args=>exact zT8 b K h
  | list v=>exact zT7 b K h
  | listL v c=>exact trivial
  | primary=>exact zK9 b K h
  | object=>exact zNv b K h
  | objL c=>exact trivial
  | prop=>exact zUU b K h g e
theorem zLG {C:Pc} {s:Ps} {w:World} (c:Tab C.w0) (b:TL C.L) (d:Pre C.L (.program []) s) (h:Pa C s w):Calls prog 16 #[C] w (zDb C (zE C.L (.program []) s) w):=
 zYU c b (zCL C.L (.program []) s+1) (.program []) s w d (yAF _) h
theorem Tryz.info_anode:(prog.info? 58).map (fun i=>(i.zero,i.size,i.bytes))=some (some (.agg #[(0:Int),"",(),(0:Int),(0:Int),false,(),()]),8,120):=by kernel_rfl
structure Chg (w w':World) (S:Nat→Prop):Prop where
 os:w'.os=w.os
 tape:w'.tape=w.tape
 output:w'.output=w.output
 size:w.heap.size≤w'.heap.size
 block:∀i,i < w.heap.size→¬S i→w'.heap[i]? =w.heap[i]?
section
variable {a b c w w':World} {S S' G G' F:Nat→Prop} {r:Option Nat}
theorem Chg.refl (w:World) (S:Nat→Prop):Chg w w S:=⟨rfl,rfl,rfl,yAC _,fun _ _ _=>rfl⟩
theorem Chg.of (h:w.grownBy w' r):Chg w w' (fun i=>r=some i):=⟨h.os,h.tape,h.output,h.size,fun i hi b=>h.block i hi (fun e=>b e.symm)⟩
theorem Chg.trans (h:Chg a b S) (k:Chg b c S') (hs:∀i,i < a.heap.size→S' i→S i):Chg a c S:=
 ⟨k.os.trans h.os,k.tape.trans h.tape,k.output.trans h.output,yAD h.size k.size,fun i hi d=>(k.block i (yAA hi h.size) (fun e=>d (hs i hi e))).trans (h.block i hi d)⟩
theorem Chg.more (h:Chg a b S) (hs:∀i,i < a.heap.size→S i→S' i):Chg a b S':=⟨h.os,h.tape,h.output,h.size,fun i hi c=>h.block i hi (fun d=>c (hs i hi d))⟩
theorem zBC {s:Nat} {e:TypeId} {v:Value} (h:w.ownsRow base e s v n xs) (d:Chg w w' S) (f:∀b,v.ownBlock=some b→¬S b):w'.ownsRow base e s v n xs:=by
 refine⟨h.1,?_⟩;rcases h.2 with j | ⟨g,cap,c,rfl,hb,hg,k⟩
 · exact .inl j
 · refine .inr ⟨g,cap,c,rfl,hb,?_,k⟩;have l:g < w.heap.size:=by
    rcases yBO g w.heap.size with h1 | h1
    · exact h1
    · rw[Array.getElem?_eq_none h1]at hg;cases hg
   rw[d.block g l (f g rfl)];exact hg
def Sty (w:World) (S G:Nat→Prop):Prop:=∀b,S b→b < w.heap.size→∃cur T,w.heap[b]? =some (.cells cur T (0,0))∧(T=24∨T=58∨(T=3∧¬G b))
theorem zC0 {s:Nat} {e:TypeId} {v:Value} (h:w.ownsRow base e s v n xs) (g:Sty w S G) (f:e≠24∧e≠58∧e≠3):∀b,v.ownBlock=some b→¬S b:=by
 intro b hb hs;obtain⟨k,h1⟩:=zBc h hb;obtain⟨j,T,d,c⟩:=g b hs (h.lt b hb).2;rw[h1]at d;injection d with d;injection d with _ h4 _;subst h4;rcases c with c | c | c
 · exact f.1 c
 · exact f.2.1 c
 · exact f.2.2 c.1
theorem zIj {s:Nat} {v:Value} (h:w.ownsRow base 3 s v n xs) (e:Sty w S G) (f:∀b,v.ownBlock=some b→G b):∀b,v.ownBlock=some b→¬S b:=by
 intro b hb hs;obtain⟨j,h1⟩:=zBc h hb;obtain⟨g,T,d,c⟩:=e b hs (h.lt b hb).2;rw[h1]at d;injection d with d;injection d with _ h4 _;subst h4;rcases c with c | c | c
 · exact absurd c jd
 · exact absurd c jd
 · exact c.2 (f b hb)
mutual
theorem TrC.chg {w w':World} {S G F:Nat→Prop} (hc:Chg w w' S) (hS:Sty w S G) (t:Tr) (cs:List Value) (h:TrC w F t cs):TrC w' F t cs:=by
 cases t with
 | mk x l=>
  rw[zER]at h⊢;obtain⟨vs,vm,vo,ks,h1,h2,h3,h4,h5,h6,h7⟩:=h;exact⟨vs,vm,vo,ks,h1,h2,zBC h3 hc (zC0 h3 hS jd),zBC h4 hc (zC0 h4 hS jd),zBC h5 hc (zC0 h5 hS jd),h6,TrsC.chg hc hS l ks h7⟩
theorem TrsC.chg {w w':World} {S G F:Nat→Prop} (hc:Chg w w' S) (hS:Sty w S G) (l:List Tr) (cs:List Value) (h:TrsC w F l cs):TrsC w' F l cs:=by
 cases l with
 | nil=>rw[zCs]at h⊢;exact h
 | cons t q=>
  rw[zBu]at h⊢;obtain⟨c0,rest,h1,h2,h3⟩:=h;exact⟨c0,rest,h1,TrC.chg hc hS t c0 h2,TrsC.chg hc hS q rest h3⟩
end
def ndC (x:Nd) (vs vm vk:Value):List Value:=[x.kind,x.name,vs,x.nk,x.nn,x.neg,vm,vk]
def NdsC (w:World) (G:Nat→Prop):List Nd→List Value→Prop
 | [],cs=>cs=[]
 | x::r,cs=>∃vs vm vk rest,cs=ndC x vs vm vk++rest∧w.ownsRow 0 104 1 vs x.str.length (zAC x.str)∧w.ownsRow 0 119 1 vm x.mag.length (zBg x.mag)∧w.ownsRow 0 3 1 vk x.kids.length (zBw x.kids)∧(∀b,vk.ownBlock=some b→G b)∧NdsC w G r rest
def Laid (w:World) (G:Nat→Prop) (v:Value) (ts:List Nd):Prop:=∃ks,w.ownsRow 0 58 8 v ts.length ks∧NdsC w G ts ks
theorem NdsC.chg (b:Chg w w' S) (c:Sty w S G):∀(ts:List Nd) (cs:List Value),NdsC w G ts cs→NdsC w' G ts cs:=by
 intro ts
 induction ts with
 | nil=>intro cs h;exact h
 | cons x r j=>
  intro cs h;obtain⟨vs,k,vk,rest,h1,d,e,f,g,h6⟩:=h;exact⟨vs,k,vk,rest,h1,zBC d b (zC0 d c jd),zBC e b (zC0 e c jd),zBC f b (zIj f c g),g,j rest h6⟩
theorem NdsC.sub (hs:∀b,G b→b < w.heap.size→G' b):∀(ts:List Nd) (cs:List Value),NdsC w G ts cs→NdsC w G' ts cs:=by
 intro ts
 induction ts with
 | nil=>intro cs h;exact h
 | cons x r d=>
  intro cs h;obtain⟨vs,e,vk,rest,h1,f,g,c,j,h6⟩:=h;exact⟨vs,e,vk,rest,h1,f,g,c,fun b hb=>hs b (j b hb) (c.lt b hb).2,d rest h6⟩
theorem NdsC.len:∀{ts:List Nd} {cs:List Value},NdsC w G ts cs→cs.length=ts.length*8:=by
 intro ts
 induction ts with
 | nil=>intro cs h;rw[show cs=[]from h];rfl
 | cons x r b=>
  intro cs h;obtain⟨vs,c,vk,rest,rfl,_,_,_,_,h6⟩:=h;rw[yAN,b h6,yAO];show 8+_=_;omega
theorem NdsC.snoc {x:Nd} {c:Value} (d:w.ownsRow 0 104 1 vs x.str.length (zAC x.str)) (e:w.ownsRow 0 119 1 c x.mag.length (zBg x.mag)) (f:w.ownsRow 0 3 1 vk x.kids.length (zBw x.kids)) (g:∀b,vk.ownBlock=some b→G b):∀{ts:List Nd} {cs:List Value},NdsC w G ts cs→NdsC w G (ts++[x]) (cs++ndC x vs c vk):=by
 intro ts
 induction ts with
 | nil=>intro cs h;rw[show cs=[]from h];exact⟨vs,c,vk,[],by rw[yAS];rfl,d,e,f,g,rfl⟩
 | cons y r j=>
  intro cs h;obtain⟨us,k,l,rest,rfl,k2,k3,k4,k5,k6⟩:=h;exact⟨us,k,l,rest++ndC x vs c vk,by rw[yAL],k2,k3,k4,k5,j k6⟩
theorem NdsC.kids {K:List Int} (e:w.ownsRow 0 3 1 vk K.length (zBw K)) (f:∀b,vk.ownBlock=some b→G b):∀{ts:List Nd} {cs:List Value} {i:Nat} {x:Nd},NdsC w G ts cs→ts[i]? =some x→NdsC w G (ts.set i {x with kids:=K}) (cs.set (i*8+7) vk):=by
 intro ts
 induction ts with
 | nil=>intro cs i x h c;cases c
 | cons y r g=>
  intro cs i x h c;obtain⟨us,d,j,rest,rfl,k2,k3,k4,k5,k6⟩:=h;cases i with
  | zero=>
   simp only[List.getElem?_cons_zero,yCE]at c;subst c;exact⟨us,d,vk,rest,by rw[List.set_append_left _ _ (by show 0*8+7 < 8;omega)];rfl,k2,k3,e,f,k6⟩
  | succ i=>
   refine⟨us,d,j,rest.set (i*8+7) vk,?_,k2,k3,k4,k5,g k6 (by simpa using c)⟩;rw[List.set_append_right _ _ (by show 8≤_;omega)];congr 2;show(i+1)*8+7 - 8=_;omega
theorem NdsC.one:∀{ts:List Nd} {cs:List Value},NdsC w G ts cs→∀u∈cs,u.oneCell'=true:=by
 intro ts
 induction ts with
 | nil=>intro cs h u b;rw[show cs=[]from h]at b;cases b
 | cons x r c=>
  intro cs h u b;obtain⟨vs,g,vk,rest,rfl,d,e,f,_,h6⟩:=h;rcases yBQ.1 b with b | b
  · obtain⟨_,_,rfl,_⟩:=zP d;obtain⟨_,_,rfl,_⟩:=zP e;obtain⟨_,_,rfl,_⟩:=zP f;simp only[ndC,yAW,List.not_mem_nil,or_false]at b;rcases b with rfl | rfl | rfl | rfl | rfl | rfl | rfl | rfl<;>rfl
  · exact c h6 u b
end
theorem zN9 (n:Nat) (l:List Tr) (t:Tr):flatL n (l++[t])=flatL n l++flatT (n+sizes l) t:=by
 induction l generalizing n with
 | nil=>rw[yAY,zAP,zA0,zA0,yAS,yAY,zo,Nat.add_zero]
 | cons a r b=>rw[yAP,zAP,zAP,b,yAL,zY,yCO]
theorem zLH (n:Nat) (l:List Tr) (t:Tr):zx n (l++[t])=zx n l++[((n+sizes l:Nat):Int)]:=by
 induction l generalizing n with
 | nil=>rw[zo];rfl
 | cons a r b=>rw[yAP,zx,zx,b,zY,yCO];rfl
theorem zOA (l:List Tr) (t:Tr):sizes (l++[t])=sizes l+t.size:=by
 induction l with
 | nil=>rw[yAY,zY,zo];omega
 | cons a r b=>rw[yAP,zY,zY,b];omega
theorem zIk (l:List Tr):∀i,sizes (l.take i)≤sizes l:=by
 induction l with
 | nil=>intro i;simp
 | cons a r b=>
  intro i;cases i with
  | zero=>simp[zo]
  | succ i=>rw[List.take_succ_cons,zY,zY];have:=b i;omega
theorem zQ7 {l:List Tr} {i:Nat} (hi:i < l.length):sizes (l.take i)+l[i].size≤sizes l:=by
 have h:=zIk l (i+1);rw[yAK hi,zOA]at h;exact h
theorem zMW (l:List Tr):l.length≤sizes l:=by
 induction l with
 | nil=>simp
 | cons a r b=>rw[zY,yAO];have:=zBF a;omega
theorem zUV {l:List Tr} (h:t∈l):t.size≤sizes l:=by
 induction l with
 | nil=>cases h
 | cons a r b=>
  rw[zY];rcases yAW.1 h with rfl | h
  · omega
  · have:=b h;omega
theorem zFv {w:World} {s R:Nat} {e T:TypeId} {v:Value} (h:w.ownsRow base e s v n xs) (hb:Bx w R T cs) (b:e≠T):v.ownBlock≠some R:=by
 intro c;obtain⟨d,h1⟩:=zBc h c;unfold Bx at hb;rw[h1]at hb;injection hb with hb;injection hb with _ h3 _;exact b h3
theorem zXP {w:World} {c f s s':Nat} {e T:TypeId} {v v':Value} (h:w.ownsRow base e s v n xs) (hb:w.ownsRow c T s' v' f cs) (g:e≠T):∀b,v.ownBlock=some b→v'.ownBlock≠some b:=by
 intro b j k;obtain⟨m,h1⟩:=zBc h j;obtain⟨l,d⟩:=zBc hb k;rw[h1]at d;injection d with d;injection d with _ h5 _;exact g h5
theorem TrsC.get {w:World} {F:Nat→Prop}:∀{l:List Tr} {ks:List Value},TrsC w F l ks→∀{i:Nat} (hi:i < l.length),∃e0 e1 e2 e3 e4 e5 e6 e7 e8,TrC w F l[i] [e0,e1,e2,e3,e4,e5,e6,e7,e8]∧∀j (hj:j < 9),ks[i*9+j]? =some ([e0,e1,e2,e3,e4,e5,e6,e7,e8][j]'hj):=by
 intro l
 induction l with
 | nil=>intro ks h i hi;simp at hi
 | cons t r c=>
  intro ks h i hi;rw[zBu]at h;obtain⟨c0,rest,rfl,h1,d⟩:=h;have b:=h1.len;cases i with
  | zero=>
   match c0,b with
   | [e0,e1,e2,e3,e4,e5,e6,e7,e8],_=>
    refine⟨e0,e1,e2,e3,e4,e5,e6,e7,e8,h1,fun j hj=>?_⟩;rw[Nat.zero_mul,yCK,yBD (by simpa using hj)];exact yAB _
  | succ i=>
   obtain⟨e0,e1,e2,e3,e4,e5,e6,e7,e8,e,f⟩:=c d (i:=i) (by simpa using hi);refine⟨e0,e1,e2,e3,e4,e5,e6,e7,e8,e,fun j hj=>?_⟩;rw[yAX jo,b,show(i+1)*9+j - 9=i*9+j by omega];exact f j hj
def zYV (w:World) (Tb:Nat) (v:Value) (G:Nat→Prop) (ts:List Nd) (tr:Tr) (e:Ending) (w':World):Prop:=
 e=.returned ts.length∧∃v',Bx w' Tb 24 [v']∧Laid w' (fun b=>G b∨w.heap.size≤b) v' (ts++flatT ts.length tr)∧Chg w w' (fun i=>i=Tb∨v.ownBlock=some i)∧(v'.ownBlock=v.ownBlock∨∃b,v'.ownBlock=some b∧w.heap.size≤b)
structure LayS (w:World) (Tb:Nat) (v:Value) (G F:Nat→Prop) (ts1:List Nd) (l:List Tr) (ks:List Value) (vo:Value) (i:Nat) (v6 vN:Value) (wr:World):Prop where
 box:Bx wr Tb 24 [vN]
 laid:Laid wr (fun b=>(G b∨w.heap.size≤b)∧v6.ownBlock≠some b∧b < wr.heap.size) vN (ts1++flatL ts1.length (l.take i))
 chg:Chg w wr (fun i=>i=Tb∨v.ownBlock=some i)
 at_:vN.ownBlock=v.ownBlock∨∃b,vN.ownBlock=some b∧w.heap.size≤b
 row:wr.ownsRow 0 3 1 v6 i (zBw (zx ts1.length (l.take i)))
 new6:∀b,v6.ownBlock=some b→w.heap.size≤b
 kids:wr.ownsRow 0 61 9 vo l.length ks
 subs:TrsC wr F l ks
section
variable {w wr w2 w3:World} {e:Ending} {Tb i:Nat} {v v6 vN vo v2 v6':Value} {G F:Nat→Prop} {ts1:List Nd} {l:List Tr} {ks:List Value}
theorem LayS.lenT (_h:LayS w Tb v G F ts1 l ks vo i v6 vN wr):(ts1++flatL ts1.length (l.take i)).length=ts1.length+sizes (l.take i):=by rw[yAN,flatL_len]
theorem LayS.sty (h:LayS w Tb v G F ts1 l ks vo i v6 vN wr) (d:Nat→Prop):Sty wr (fun i=>i=Tb∨vN.ownBlock=some i) d:=by
 intro b hb _;rcases hb with rfl | hb
 · exact⟨_,_,h.box,.inl rfl⟩
 · obtain⟨f,h1,_⟩:=h.laid;obtain⟨c,e⟩:=zBc h1 hb;exact⟨c,_,e,.inr (.inl rfl)⟩
theorem LayS.new (h:LayS w Tb v G F ts1 l ks vo i v6 vN wr) (hg:wr.grownBy w2 none):LayS w Tb v G F ts1 l ks vo i v6 vN w2:=by
 have c:Chg wr w2 (fun i=>none=some i):=.of hg;have e:∀f,Sty wr (fun i=>(none:Option Nat)=some i) f:=fun f b hb _=>by cases hb
 have d:∀(o:Option Nat) b,o=some b→¬(none:Option Nat)=some b:=fun o b _ h=>by cases h
 obtain⟨g,h1,j⟩:=h.laid;have k:=hg.size;exact⟨h.box.grown hg js,⟨g,zBC h1 c (d _),.sub (fun b hb _=>⟨hb.1,hb.2.1,by omega⟩) _ _ (NdsC.chg c (e _) _ _ j)⟩,h.chg.trans c (fun _ _ h=>by cases h),h.at_,zBC h.row c (d _),h.new6,zBC h.kids c (d _),TrsC.chg c (e (fun _=>True)) _ _ h.subs⟩
theorem LayS.row2 {b:Nat→Prop} {ts2:List Nd} (h:LayS w Tb v G F ts1 l ks vo i v6 vN wr) (c:zYV wr Tb vN b ts2 t e w2):w2.ownsRow 0 3 1 v6 i (zBw (zx ts1.length (l.take i))):=by
 obtain⟨_,_,_,_,d,_⟩:=c;exact zBC h.row d (zIj (G:=fun _=>True) h.row (h.sty _) (fun _ _=>trivial))
theorem LayS.done {x:Nd} {c f q i:Nat} {v6:Value} (h:LayS w Tb v G F (ts++[x]) l ks vo i v6 (.slice (some ⟨c,0,none⟩) f q) wr) (hi:i=l.length):zYV w Tb v G ts (.mk x l) (.returned ts.length) (wr.setCell ⟨c,ts.length*8+7,none⟩ v6):=by
 obtain⟨z,h1,A⟩:=h.laid;have g:(ts++[x]++flatL (ts++[x]).length (l.take i)).length=f:=by
  obtain⟨E,H,e,_⟩:=zP h1;injection e with e1 e2 e3;exact e2.symm
 rw[g]at h1;have k:=h1.stored (ts.length*8+7) v6;have d:(Value.slice (some ⟨c,0,none⟩) f q).ownBlock=some c:=rfl;have r:Chg wr (wr.setCell ⟨c,ts.length*8+7,none⟩ v6) (fun j=>some c=some j):=.of k.2;have s:∀t:Nat→Prop,Sty wr (fun j=>some c=some j) t:=by
  intro t b hb _;injection hb with hb;subst hb;obtain⟨u,m⟩:=zBc h1 d;exact⟨u,_,m,.inr (.inl rfl)⟩
 have o:l.take i=l:=yB jo;have p:=zBC h.row r (zIj (G:=fun _=>True) h.row (s _) (fun _ _=>trivial));have y:c≠Tb:=fun e5=>zFv h1 h.box jd (by rw[d,e5]);refine⟨rfl,.slice (some ⟨c,0,none⟩) f q,h.box.gg k.2 y,⟨z.set (ts.length*8+7) v6,?_,?_⟩,h.chg.trans r ?_,h.at_⟩
 · have e:(ts++flatT ts.length (.mk x l)).length=f:=by
    rw[←g,o,zAz];simp
   rw[e];exact k.1
 · have e:ts++flatT ts.length (.mk x l)=(ts++[x]++flatL (ts++[x]).length (l.take i)).set ts.length {x with kids:=zx (ts.length+1) l}:=by
    rw[zAz,o,yAL,List.set_append_right _ _ (yAC _)];simp
   rw[e];have B:=NdsC.chg r (s _) _ _ A;have C:=NdsC.sub (G':=fun b=>G b∨w.heap.size≤b) (fun b hb _=>hb.1) _ _ B;have D:(wr.setCell ⟨c,ts.length*8+7,none⟩ v6).ownsRow 0 3 1 v6 (zx (ts.length+1) l).length (zBw (zx (ts.length+1) l)):=by
    rw[zBV,←hi];rw[o]at p;simpa using p
   refine NdsC.kids D (fun b hb=>.inr (h.new6 b hb)) C ?_;rw[yAL,yAX (yAC _)];simp
 · intro j I m;injection m with m;subst m;rcases h.at_ with h6 | ⟨b,h6,J⟩
   · exact .inr (h6▸d)
   · rw[d]at h6;injection h6 with h6;omega
theorem LayS.step (h:LayS w Tb v G F ts1 l ks vo i v6 vN wr) (hi:i < l.length) (D:zYV wr Tb vN (fun b=>(G b∨w.heap.size≤b)∧v6.ownBlock≠some b∧b < wr.heap.size) (ts1++flatL ts1.length (l.take i)) l[i] e w2)
 (r:w3.ownsRow 0 3 1 v6' (i+1) (zBw (zx ts1.length (l.take i))++[.int .i64 ((ts1.length+sizes (l.take i):Nat):Int)])) (hg:w2.grownBy w3 v6.ownBlock) (q:v6'.ownBlock=v6.ownBlock∨∃b,v6'.ownBlock=some b∧w2.heap.size≤b):
 ∃k,LayS w Tb v G F ts1 l ks vo (i+1) v6' k w3:=by
 obtain⟨_,k,hb,E,o,s⟩:=D;have N:w.heap.size≤wr.heap.size:=h.chg.size;have O:=o.size;have P:=hg.size;have d:Chg w2 w3 (fun i=>v6.ownBlock=some i):=.of hg;have t:∀b,v6.ownBlock=some b→b < wr.heap.size:=fun b hb=>(h.row.lt b hb).2;have f:w2.ownsRow 0 3 1 v6 i (zBw (zx ts1.length (l.take i))):=zBC h.row o (zIj (G:=fun _=>True) h.row (h.sty _) (fun _ _=>trivial));have m:∀u:Nat→Prop,(∀b,v6.ownBlock=some b→¬u b)→Sty w2 (fun i=>v6.ownBlock=some i) u:=by
  intro u A b hb _;obtain⟨B,H⟩:=zBc f hb;exact⟨B,_,H,.inr (.inr ⟨rfl,A b hb⟩)⟩
 have p:∀b,v6.ownBlock=some b→¬(((G b∨w.heap.size≤b)∧v6.ownBlock≠some b∧b < wr.heap.size)∨wr.heap.size≤b):=by
  intro b hb c;have:=t b hb;rcases c with c | c
  · exact c.2.1 hb
  · omega
 obtain⟨I,k1,k2⟩:=E;have J:k.ownBlock≠some Tb:=zFv k1 hb jd;have y:∀b,k.ownBlock=some b→¬v6.ownBlock=some b:=fun b hb c=>zXP k1 f jd b hb c;have e1:l.take (i+1)=l.take i++[l[i]]:=yAK hi;have z:(ts1++flatL ts1.length (l.take i)).length=ts1.length+sizes (l.take i):=h.lenT;refine⟨k,?_,?_,?_,?_,?_,?_,?_,?_⟩
 · exact hb.grown hg (fun e2=>zFv f hb jd e2)
 · rw[e1,zN9,←yAL];rw[z]at k1 k2;refine⟨I,zBC k1 d y,?_⟩;have k3:=NdsC.chg d (m _ p) _ _ k2;have k4:=NdsC.sub (G':=fun b=>b < w2.heap.size∧(((G b∨w.heap.size≤b)∧v6.ownBlock≠some b∧b < wr.heap.size)∨wr.heap.size≤b)) (fun b hb L=>⟨L,hb⟩) _ _ k2;have k5:=NdsC.chg d (m _ (fun b hb c=>p b hb c.2)) _ _ k4;refine NdsC.sub (fun b hb _=>⟨?_,?_,by omega⟩) _ _ k5
   · rcases hb.2 with c | c
     · exact c.1
     · exact .inr jo
   · intro e2;rcases q with e3 | ⟨g,e3,C⟩
     · rw[e3]at e2;exact p b e2 hb.2
     · rw[e3]at e2;injection e2 with e2;omega
 · refine(h.chg.trans o ?_).trans d ?_
   · intro j M c;rcases c with c | c
     · exact .inl c
     · rcases h.at_ with h6 | ⟨b,h6,Q⟩
       · exact .inr (h6▸c)
       · rw[h6]at c;injection c with c;omega
   · intro j M c;have:=h.new6 j c;omega
 · rcases s with c | ⟨b,c,h6⟩
   · rw[c];exact h.at_
   · exact .inr ⟨b,c,by omega⟩
 · rw[e1,zLH];have:zBw (zx ts1.length (l.take i)++[((ts1.length+sizes (l.take i):Nat):Int)])=zBw (zx ts1.length (l.take i))++[.int .i64 ((ts1.length+sizes (l.take i):Nat):Int)]:=by simp[zBw]
   rw[this];exact r
 · intro b c;rcases q with e3 | ⟨g,e3,C⟩
   · rw[e3]at c;exact h.new6 b c
   · rw[e3]at c;injection c with c;omega
 · have k3:=zBC h.kids o (zC0 h.kids (h.sty (fun _=>True)) jd);exact zBC k3 d (zC0 k3 (m (fun b=>¬v6.ownBlock=some b) (fun b hb c=>c hb)) jd)
 · have k3:=TrsC.chg o (h.sty (fun _=>True)) _ _ h.subs;exact TrsC.chg d (m (fun b=>¬v6.ownBlock=some b) (fun b hb c=>c hb)) _ _ k3
end
def zZA (tr:Tr):Prop:=∀(w:World) (Tb:Nat) (v:Value) (G F:Nat→Prop) (ts:List Nd) (d0 d1 d2 d3 d4 d5 d6 d7 d8:Value),TrC w F tr [d0,d1,d2,d3,d4,d5,d6,d7,d8]→Bx w Tb 24 [v]→Laid w G v ts→ts.length+tr.size≤1000000→
 Calls prog 34 #[.pointer (some Tb),.agg #[d0,d1,d2,d3,d4,d5,d6,d7,d8]] w (zYV w Tb v G ts tr)
theorem zUW (x:Nd) (l:List Tr) (ih:∀t∈l,zZA t):zZA (.mk x l):=by
 intro w Tb v G F ts d0 d1 d2 d3 d4 d5 d6 d7 d8 ht hT hL hN;rw[zER]at ht;obtain⟨vs,vm,vo,ks,c4,b0,L,M,B,hF,b1⟩:=ht;obtain⟨As,cs,rfl,_,_⟩:=zP L;obtain⟨Am,cm,rfl,_,_⟩:=zP M;obtain⟨E,N,rfl,k7,_⟩:=zP B;simp only[zWt,List.cons.injEq,and_true]at c4;obtain⟨rfl,rfl,rfl,rfl,rfl,rfl,rfl,rfl,rfl⟩:=c4;obtain⟨kl,C,b2⟩:=hL;obtain⟨A,c,rfl,hc,_⟩:=zP C;rw[zAk]at hN;obtain⟨n,hn⟩:=jx ts.length;obtain⟨m,hm⟩:=jx l.length;rw[hn]at C hc hN hT;rw[hm]at B k7;rw[hn,hm];obtain⟨W,hW⟩:=jx (w.alloc (.cells #[x.kind,x.name,.slice As x.str.length cs,x.nk,x.nn,x.neg,.slice Am x.mag.length cm,(),.slice E m N] 61));have o:w.grownBy W none:=by rw[←hW];exact zG _ _ _
 obtain⟨X,hX⟩:=jx w.heap.size;have HX:=zA (show Bx W X 61 [x.kind,x.name,.slice As x.str.length cs,x.nk,x.nn,x.neg,.slice Am x.mag.length cm,(),.slice E m N] by rw[←hW,←hX];exact Bx.new w _ _);have o1:Tb < X:=by rw[←hX];exact hT.lt
 have O:=zA (hT.grown o js);have c5:W.heap.size=X+1:=by rw[←hW,←hX];simp
 have q:=zA (C.kept o (by cases (Value.slice A n c).ownBlock<;>simp));have b3:=zA (NdsC.chg (G:=G) (.of o) (fun b hb _=>by cases hb) ts kl b2);have P:=zA (B.kept o (by cases (Value.slice E m N).ownBlock<;>simp));have b4:=zA (TrsC.chg (G:=G) (.of o) (fun b hb _=>by cases hb) l ks b1);have Q:=zA (L.kept o (by cases (Value.slice As x.str.length cs).ownBlock<;>simp));have R:=zA (M.kept o (by cases (Value.slice Am x.mag.length cm).ownBlock<;>simp));have c7:=zA (Chg.of o);have k8:=zA ih;have h8:=zA b0;have k9:=zA hX;have a5:=zA hn;have r:=zA hm;have l0:=zA c5;have HN:=zA hN;have l1:X < W.heap.size:=by omega
 have o2:n≤1000000:=by omega
 obtain⟨i0,hi,c8,c9,d9⟩:=info_parts Tryz.info_anode;have zT:W.cell? Tb=some (.slice A n c):=O.out.cell 0;have fT:W.frozen? Tb=false:=O.out.frozen 0;obtain⟨S,T,U,V,Y,a0,a1,a2,a3⟩:=HX.out.nine;clear hT hN L M B hF b1 C b2 o hm ih b0 c5;go_enter func34,ntmps34;go_upto_region 2 with(fail);clear hW hX;have e9:=zA (zFv q O jd);have f0:=zA ((O.out.alloc (.cells #[x.kind,x.name,.slice As x.str.length cs,x.nk,x.nn,x.neg,.slice Am x.mag.length cm,()] 58)).drew);have l2:(W.alloc (.cells #[x.kind,x.name,.slice As x.str.length cs,x.nk,x.nn,x.neg,.slice Am x.mag.length cm,()] 58)).cell? Tb=some (.slice A n c):=(O.out.alloc _).cell 0
 go_cut [14] (fun _ wx=>∃(A1:jQ) (n1 c1:Nat),Hid (n1=n+1)∧Hid (Bx wx X 61 [x.kind,x.name,.slice As x.str.length cs,x.nk,x.nn,x.neg,.slice Am x.mag.length cm,(),.slice E m N])∧Hid (LayS w Tb (.slice A n c) G F (ts++[x]) l ks (.slice E m N) 0 (.slice none 0 0) (.slice A1 n1 c1) wx))
 case first=>
  go_region_law (refine step_append_lies _ rfl _ _ 22 rfl 0 58 i0 _ 8 120 underlying22 hi c8 c9 d9 rfl jd (.slice A n c) n kl rfl (q.out.alloc _) ⟨W.heap.size,0,none⟩ 1 1 [x.kind,x.name,.slice As x.str.length cs,x.nk,x.nn,x.neg,.slice Am x.mag.length cm,()] rfl rfl (World.news_of_block (Bx.new W _ _)) (by intro u hu;simp only[yAW,List.not_mem_nil,or_false]at hu;rcases hu with rfl | rfl | rfl | rfl | rfl | rfl | rfl | rfl<;>rfl) jd (by unfold maxLen;omega) jo (yAE _) _ rfl ?_;intro g1 c1 w1 f1 b5 f2 o3;have f3:=zA f1;have f4:=zA b5;have l3:=zA f2;have a6:=zA (f0.out.grown b5 e9.out);clear f1 b5 f2;have zT:w1.cell? Tb=some (.slice A n c):=a6.out.cell 0;have fT:w1.frozen? Tb=false:=a6.out.frozen 0)
  all_goals
   have b6:=zFv f3 a6 jd;have a7:=zM w1 Tb 0 (.slice (some ⟨g1,0,none⟩) (n+1) c1);have s:=zA (show Chg W (w1.setCell Tb (.slice (some ⟨g1,0,none⟩) (n+1) c1)) (fun i=>i=Tb∨(Value.slice A n c).ownBlock=some i)from
    (((Chg.of (zG W (.cells #[x.kind,x.name,.slice As x.str.length cs,x.nk,x.nn,x.neg,.slice Am x.mag.length cm,()] 58) none)).more (S':=fun i=>i=Tb∨(Value.slice A n c).ownBlock=some i) (fun _ _ h=>by cases h)).trans (Chg.of (show(W.alloc (.cells #[x.kind,x.name,.slice As x.str.length cs,x.nk,x.nn,x.neg,.slice Am x.mag.length cm,()] 58)).grownBy w1 (Value.slice A n c).ownBlock from zC (zAw _ _) f4)) (fun _ _ h=>.inr h)).trans (Chg.of a7) (fun i _ h=>.inl (by injection h with h;exact h.symm)))
   have y:∀G2:Nat→Prop,Sty W (fun i=>i=Tb∨(Value.slice A n c).ownBlock=some i) G2:=by
    intro G2 b hb _;rcases hb with rfl | hb
    · exact⟨_,_,O,.inl rfl⟩
    · obtain⟨b7,D⟩:=zBc q hb;exact⟨b7,_,D,.inr (.inl rfl)⟩
   have l4:=zA ((Bx.grown (HX.out.alloc (.cells #[x.kind,x.name,.slice As x.str.length cs,x.nk,x.nn,x.neg,.slice Am x.mag.length cm,()] 58)).drew f4 (zFv q HX jd)).gg a7 jo);have a8:=zA (show LayS w Tb (.slice A n c) G F (ts++[x]) l ks (.slice E m N) 0 (.slice none 0 0) (.slice (some ⟨g1,0,none⟩) (n+1) c1) (w1.setCell Tb (.slice (some ⟨g1,0,none⟩) (n+1) c1))from by
    refine⟨a6.out.set 0 _,?_,(c7.out.more (fun _ _ h=>by cases h)).trans s (fun _ _ h=>h),?_,?_,(fun b h=>by cases h),?_,TrsC.chg s (y (fun _=>True)) _ _ b4⟩
    · refine⟨kl++ndC x (.slice As x.str.length cs) (.slice Am x.mag.length cm) (.slice none 0 0),?_,?_⟩
      · have:=f3.out.kept a7 (.inr b6);rw[List.take_zero,zA0,yAS,yAN,a5.out];exact this
      · rw[List.take_zero,zA0,yAS];have h1:=NdsC.chg s (y G) _ _ b3;have D:=NdsC.snoc (x:=x) (zBC Q s (zC0 Q (y (fun _=>True)) jd)) (zBC R s (zC0 R (y (fun _=>True)) jd)) (show World.ownsRow _ 0 3 1 (.slice none 0 0) x.kids.length (zBw x.kids) by rw[h8.out];exact yAJ _ _ _ _) (fun b h=>by cases h) h1;exact NdsC.sub (fun b hb hl=>⟨.inl hb,by simp[Value.ownBlock],hl⟩) _ _ D
    · rcases l3 with e | e
      · exact .inl e.symm
      · refine .inr ⟨g1,rfl,?_⟩;have hz:(W.alloc (.cells #[x.kind,x.name,.slice As x.str.length cs,x.nk,x.nn,x.neg,.slice Am x.mag.length cm,()] 58)).drew.heap.size=W.heap.size+1:=by show(W.alloc _).heap.size=_;simp
        rw[k9.out];omega
    · rw[List.take_zero];exact yAJ _ _ _ _
    · rw[r.out];exact zBC P s (zC0 P (y (fun _=>True)) jd))
   clear a7 b6 y;go_wp2_with fail;go_meet;exact⟨_,n+1,c1,zA rfl,l4,a8⟩
 case rest=>
  clear O HX q b3 P b4 Q R c7 f0 e9 l2 zT fT S T U V Y a0 a1 a2 a3;obtain⟨A1,n1,c1,o4,f5,a8⟩:=hcut;obtain⟨wq,rfl⟩:∃x,x=wc:=⟨_,rfl⟩;obtain⟨S,T,U,V,Y,a0,a1,a2,a3⟩:=f5.out.nine;go_upto_region 3 with(fail);have o5:=zA r;have o6:m≤1000000:=by
   have h1:=HN.out;have D:l.length≤sizes l:=zMW l;have h3:=r.out;omega
  have o7:¬((m:Int) < 0):=by omega
  clear hi c8 c9 d9 l1 l0;go_wp2_with fail
  go_loopg [6,28] (m) (fun gk v6 l5 wr=>∃(i:Nat) (A6:jQ) (c6:Nat) (AN:jQ) (H cN:Nat),i+gk=m∧l5=.int .i64 (i:Int)∧v6=.slice A6 i c6∧Hid (LayS w Tb (.slice A n c) G F (ts++[x]) l ks (.slice E m N) i (.slice A6 i c6) (.slice AN H cN) wr))
  case atStart=>exact⟨0,none,0,A1,n1,c1,by omega,rfl,rfl,a8⟩
  case round=>
   clear a8 f5 S T U V Y a0 a1 a2 a3;obtain⟨i,A6,c6,AN,H,cN,l6,rfl,rfl,I⟩:=hrel
   by_cases f6:i < m
   · have a9:=zA (show i < l.length by rw[r.out];exact f6);obtain⟨e0,e1,e2,e3,e4,e5,e6,e7,e8,f7,f8⟩:=TrsC.get I.out.subs a9;have f9:=zA f7;have b8:=I.out.kids;obtain⟨k,l7⟩:∃k,E=some ⟨k,0,none⟩:=by
      rcases b8.2 with⟨h1,D⟩ | ⟨g,cap,b7,h1,_⟩
      · have:=r.out;omega
      · injection h1 with h1;exact⟨g,h1⟩
     subst l7;have d:∀j (hj:j < 9),wr.cell? ⟨k,i*9+j,none⟩=some ([e0,e1,e2,e3,e4,e5,e6,e7,e8][j]'hj):=by
      intro j hj;have h1:=b8.cells (g:=k) rfl (i*9+j) _ (f8 j hj);have D:(⟨k,0,none⟩:Addr).add (i*9+j)=⟨k,i*9+j,none⟩:=by unfold Addr.add;split<;>simp_all
      rw[D]at h1;exact h1
     have c0:wr.cell? ⟨k,i*9,none⟩=some e0:=d 0 jd;have l8:wr.cell? ⟨k,i*9+1,none⟩=some e1:=d 1 jd;have l9:wr.cell? ⟨k,i*9+2,none⟩=some e2:=d 2 jd;have m0:wr.cell? ⟨k,i*9+3,none⟩=some e3:=d 3 jd;have m1:wr.cell? ⟨k,i*9+4,none⟩=some e4:=d 4 jd;have m2:wr.cell? ⟨k,i*9+5,none⟩=some e5:=d 5 jd;have m3:wr.cell? ⟨k,i*9+6,none⟩=some e6:=d 6 jd;have m4:wr.cell? ⟨k,i*9+7,none⟩=some e7:=d 7 jd;have m5:wr.cell? ⟨k,i*9+8,none⟩=some e8:=d 8 jd;obtain⟨h9,j0,j1,j2,j3,j4,j5,j6,j7⟩:=f9.out.sto;clear d f8 b8 f7;have o0:=zA f6;have o8:=zA l6;obtain⟨wk,b9⟩:=jx (wr.alloc (.cells #[e0,e1,e2,e3,e4,e5,e6,e7,e8] 61));have a4:wr.grownBy wk none:=by rw[←b9];exact zG _ _ _
     have z:=zA (I.out.new a4);have m6:=zA (show Bx wk wr.heap.size 61 [e0,e1,e2,e3,e4,e5,e6,e7,e8] by rw[←b9];exact Bx.new wr _ _);have m7:=zA (TrC.keep a4 (.none_ _ _) _ _ f9);clear a4;go_upto_region 7 with(fail);clear b9 c0 l8 l9 m0 m1 m2 m3 m4 m5;obtain⟨j8,j9,k0,k1,k2,k3,k4,k5,k6⟩:=m6.out.nine;have g0:=zA (k8.out l[i] (yAZ a9) wk Tb (.slice AN H cN) _ F _ e0 e1 e2 e3 e4 e5 e6 e7 e8 m7 z.out.box z.out.laid (by
      have h1:=z.out.lenT;have D:=zQ7 a9;have h3:=HN.out;have h4:=a5.out;rw[h1,yAN,h4];show n+1+_+_≤_;omega))
     obtain⟨p,hp⟩:=jx ((ts++[x]++flatL (ts++[x]).length (l.take i)).length);have o9:=zA hp;have m8:=zA (show(ts++[x]).length+sizes (l.take i)=p by rw[←hp];exact z.out.lenT.symm);have g2:=zA (g0.out.mono fun e w' hq=>(⟨by rw[←hp];exact hq.1,hq⟩:e=.returned p∧zYV wk Tb (.slice AN H cN) _ (ts++[x]++flatL (ts++[x]).length (l.take i)) l[i] e w'));clear g0 hp;obtain⟨i1,g4,g5,g6,g7⟩:=info_parts Tryz.info_int;go_wp2_with fail;refine g2.out.mono ?_;rintro p0 w2 ⟨rfl,hq⟩;have HQ:=zA hq;have m9:=zA (z.out.row2 hq);clear hq g2 j8 j9 k0 k1 k2 k3 k4 k5 k6 h9 j0 j1 j2 j3 j4 j5 j6 j7;go_wp2_with (at_builtin;refine wpList_append_lies _ rfl _ _ 56 rfl 0 3 i1 _ 1 8 underlying56 g4 g5 g6 g7 rfl jd (.slice A6 i c6) i _ rfl (m9.out.alloc _) ⟨w2.heap.size,0,none⟩ 1 1 [p] rfl rfl (cell_one_new _ _ _) (by intro u hu;rw[yBT.1 hu];rfl) jd (by unfold maxLen;omega) jo (yAE _) _ rfl ?_;intro g3 c3 w3 g8 g9 h0 n0;have n2:=zA g8;have n3:=zA g9;have n4:=zA h0;clear g8 g9 h0 n0);have J:=z.out.step (v6':=.slice (some ⟨g3,0,none⟩) (i+1) c3) a9 HQ (by rw[m8.out];exact n2.out) (zC (zG w2 (.cells #[p] 3) _) n3) (by
      rcases n4 with h5 | h5
      · exact .inl h5.symm
      · exact .inr ⟨g3,rfl,by rw[h5];simp⟩)
     obtain⟨p1,J⟩:=J;obtain⟨n5,f,_⟩:=J.laid;obtain⟨n6,n7,rfl,_,_⟩:=zP f;have c2:=zA J;clear J f g4 g5 g6 g7;go_wp2_with fail
     go_roundg (gk - 1)
     case measure=>omega
     case rel=>exact⟨i+1,_,_,n6,_,n7,by omega,by simp,rfl,c2⟩
   · obtain rfl:i=m:=by omega
     have c2:=zA I;obtain⟨n5,f,_⟩:=I.out.laid;have h6:(ts++[x]++flatL (ts++[x]).length (l.take i)).length=H:=by
      obtain⟨A',c',e,_⟩:=zP f;injection e with e1 e2 e3;exact e2.symm
     have p2:n < H:=by
      have h1:=I.out.lenT;have h4:=a5.out;rw[h6,yAN,h4]at h1;have:([x]:List Nd).length=1:=rfl;omega
     rw[h6]at f;obtain⟨gN,n8⟩:∃gN,AN=some ⟨gN,0,none⟩:=by
      rcases f.2 with⟨h1,D⟩ | ⟨g,cap,b7,h1,_⟩
      · omega
      · injection h1 with h1;exact⟨g,h1⟩
     subst n8;have h7:(wr.cell? ⟨gN,n*8+7,none⟩).isSome=true:=by
      rw[f.cellAt (n*8+7) jo];rw[yAB (by rw[f.1];omega)];rfl
     obtain⟨uu,h7⟩:=Option.isSome_iff_exists.1 h7;have p3:wr.frozen? ⟨gN,n*8+7,none⟩=false:=f.frozenAt _;have zT:wr.cell? Tb=some (.slice (some ⟨gN,0,none⟩) H cN):=I.out.box.cell 0;have p4:(n:Int) < (H:Int):=by omega
     have p5:¬(n:Int) < 0:=by omega
     have n9:=zA (show i=l.length from r.out.symm);clear f I;go_wp2_with fail;go_ret;have hd:=c2.out.done n9;rw[a5.out]at hd;exact hd
theorem zZR:∀(N:Nat) (tr:Tr),tr.size≤N→zZA tr:=by
 intro N
 induction N with
 | zero=>intro tr h;have:=zBF tr;omega
 | succ N b=>
  intro tr h;cases tr with
  | mk x l=>
   refine zUW x l fun t c=>b t ?_;rw[zAk]at h;have:=zUV c;omega
theorem zXQ (tr:Tr):zZA tr:=zZR tr.size tr (yAC _)
def zZS (w:World) (tr:Tr) (e:Ending) (w':World):Prop:=
 ∃A n c,e=.returned (.agg #[.slice A n c])∧Laid w' (w.heap.size≤·) (.slice A n c) (flatT 0 tr)∧w.grownBy w' none
theorem zUX {w:World} {F:Nat→Prop} {tr:Tr} {d0 d1 d2 d3 d4 d5 d6 d7 d8:Value} (t:TrC w F tr [d0,d1,d2,d3,d4,d5,d6,d7,d8]) (hs:tr.size≤1000000):
 Calls prog 17 #[.agg #[d0,d1,d2,d3,d4,d5,d6,d7,d8]] w (zZS w tr):=by
 obtain⟨f,k⟩:=jx (w.alloc (.cells #[d0,d1,d2,d3,d4,d5,d6,d7,d8] 61));obtain⟨g,l⟩:=jx (f.alloc (.cells #[()] 24));obtain⟨W,u⟩:=jx (g.alloc (.cells #[()] 24));have y:w.grownBy f none:=by rw[←k];exact zG _ _ _
 have g1:f.grownBy g none:=by rw[←l];exact zG _ _ _
 have g2:g.grownBy W none:=by rw[←u];exact zG _ _ _
 obtain⟨R,p⟩:=jx w.heap.size;have z:f.heap.size=R+1:=by rw[←k,←p];simp
 have D:g.heap.size=R+1+1:=by rw[←l];simp[z]
 have P:=zA (show Bx W R 61 [d0,d1,d2,d3,d4,d5,d6,d7,d8]from by
  have h1:Bx f R 61 [d0,d1,d2,d3,d4,d5,d6,d7,d8]:=by rw[←k,←p];exact Bx.new w _ _
  exact(h1.grown g1 js).grown g2 js)
 have E:=zA (show Bx W (R+1) 24 [()]from by
  have h1:Bx g (R+1) 24 [()]:=by rw[←l,←z];exact Bx.new f _ _
  exact h1.grown g2 js)
 have Q:=zA (show Bx W (R+1+1) 24 [()]from by rw[←u,←D];exact Bx.new g _ _);have m:=zA (zC (zC y g1) g2);have G:=zA (TrC.keep (zC (zC y g1) g2) (.none_ _ _) _ _ t);have H:=zA p;have I:=zA (zXQ tr W (R+1+1) (.slice none 0 0) (fun _=>False) F [] d0 d1 d2 d3 d4 d5 d6 d7 d8 G Q ⟨[],yAJ _ _ _ _,rfl⟩ (by simpa using hs));obtain⟨S,T,U,V,X,Y,a0,a1,a2⟩:=t.sto;clear t y g1 g2;go_enter func17,ntmps17;go_upto_region 2 with(fail);clear u k l z D p;obtain⟨a3,a4,a5,a6,a7,a8,a9,b0,b1⟩:=P.out.nine;go_wp2_with fail;refine I.out.mono ?_;rintro ev w2 ⟨rfl,v',hb,J,B,q⟩;have L:=zA J;obtain⟨kl,hk,_⟩:=J;obtain⟨A,c,rfl,_,_⟩:=zP hk;have j:Bx w2 (R+1) 24 [()]:=by
  have h1:=E.out;unfold Bx at h1⊢;rw[B.block (R+1) E.out.lt (by
   rintro(h | h)
   · omega
   · cases h)]
  exact h1
 have o:(Value.slice A ([]++flatT ([]:List Nd).length tr).length c).ownBlock≠some (R+1):=zFv hk j jd;obtain⟨n,C⟩:=jx (([]++flatT ([]:List Nd).length tr).length);rw[C]at o hb L q;have HN:=zA C;have HK:=zA hk;have zT:w2.cell? ⟨R+1+1,0,none⟩=some (.slice A n c):=hb.cell 0;have zX:w2.cell? ⟨R+1,0,none⟩=some (.slice none 0 0):=j.cell 0;have fX:w2.frozen? ⟨R+1,0,none⟩=false:=j.frozen 0;have r:=zA j;have d:=zA B;have M:=zA o;clear hk C hb j q B o I;go_wp2_with fail;have N:(w2.setCell ⟨R+1,0,none⟩ (.slice A n c)).cell? ⟨R+1,0,none⟩=some (.slice A n c):=(r.out.set 0 _).cell 0;refine bodyPost_ret (v:=.agg #[.slice A n c]) (by simp[results,results17,go_sem,N]) rfl ?_;have e:=zM w2 (R+1) 0 (.slice A n c);have s:Chg w2 (w2.setCell ⟨R+1,0,none⟩ (.slice A n c)) (fun i=>some (R+1)=some i):=.of e;have O:Sty w2 (fun i=>some (R+1)=some i) (W.heap.size≤·):=by
  intro b hb _;injection hb with hb;subst hb;exact⟨_,_,r,.inl rfl⟩
 refine⟨A,n,c,rfl,?_,?_⟩
 · obtain⟨k2,h1,h2⟩:=L.out;refine⟨k2,zBC h1 s (fun b h5 h6=>?_),NdsC.sub (fun b hb _=>?_) _ _ (NdsC.chg s O _ _ (NdsC.sub (G':=(W.heap.size≤·)) (fun b hb _=>hb.resolve_left id) _ _ h2))⟩
   · injection h6 with h6;subst h6;exact M.out h5
   · exact yAD m.out.size hb
 · have hz:=m.out.size;refine⟨e.os.trans (d.out.os.trans m.out.os),e.tape.trans (d.out.tape.trans m.out.tape),e.output.trans (d.out.output.trans m.out.output),yAD hz (yAD d.out.size e.size),fun i hi _=>?_⟩;have b2:i < R:=by rw[←H.out];exact hi
   rw[e.block i (by have:=d.out.size;omega) (by simp;omega),d.out.block i jo (by
    rintro(h | h)
    · omega
    · cases h)]
   exact m.out.block i hi js
structure NQ (x:Nd):Prop where
 kb: -9223372036854775808≤x.kind∧x.kind≤9223372036854775807
 nkb: -9223372036854775808≤x.nk∧x.nk≤9223372036854775807
 nnb: -9223372036854775808≤x.nn∧x.nn≤9223372036854775807
 nm:x.name.length≤4096
 limb:∀y∈x.mag,y < 4294967296
inductive NB:Tr→Prop
 | mk {x:Nd} {l:List Tr}:NQ x→(∀t∈l,NB t)→NB (.mk x l)
theorem NB.subs (h:NB t):∀a∈t.subs,NB a:=by cases h with | mk _ h2=>exact h2
theorem NB.nd (h:NB t):NQ t.nd:=by cases h with | mk h1 _=>exact h1
def Kb (k:Int):Prop:= -9223372036854775808≤k∧k≤9223372036854775807
theorem nbK {l:List Tr} (hk:Kb k) (h:∀t∈l,NB t):NB (trK k l):=.mk ⟨hk,by simp[zB6],by simp[zB6],by simp[zB6],by simp[zB6]⟩ h
theorem nbN {n:jE} {l:List Tr} (hk:Kb k) (b:n.length≤4096) (h:∀t∈l,NB t):NB (trN k n l):=.mk ⟨hk,by simp[zB6],by simp[zB6],b,by simp[zB6]⟩ h
theorem zQ8 {a:Tr} {r:List Tr} (h:NB a) (k:∀t∈r,NB t):∀t∈a::r,NB t:=fun t b=>(yAW.1 b).elim (fun e=>e▸h) (k t)
def PhN:Ph→Prop
 | .program acc=>∀t∈acc,NB t
 | .blockL acc=>∀t∈acc,NB t
 | .declL k acc=>Kb k∧∀t∈acc,NB t
 | .func k n=>Kb k∧n.length≤4096
 | .paramL acc=>∀t∈acc,NB t
 | .jump k=>Kb k
 | .body l=>∀t∈l,NB t
 | .nullL x=>NB x
 | .orL x=>NB x
 | .both x=>NB x
 | .levelL _ x=>NB x
 | .callsL x=>NB x
 | .headL x=>NB x
 | .listL _ acc=>∀t∈acc,NB t
 | .objL acc=>∀t∈acc,NB t
 | _=>True
def TLm (L:List Tok):Prop:=∀i,∀y∈(zH L i).mag,y < 4294967296
section
variable {L:List Tok} {R:Ph→Ps→Tr×Ps}
theorem zEg (b:TL L) (s:Ps):(ze L s).1.length≤4096:=by
 unfold ze;split
 · exact(b _).len
 · exact yAE _
theorem zd {c:Prop} [Decidable c] {a b:Tr×Ps} (h1:NB a.1) (d:NB b.1):NB (if c then a else b).1:=by split<;>assumption
theorem zXR (g:TL L) (r:TLm L) (b:∀q s,PhN q→NB (R q s).1) (p:Ph) (s:Ps) (c:PhN p):NB (zD L R p s).1:=by
 have tx:∀i,(zH L i).text.length≤4096:=fun i=>(g i).len;have u:∀q s,PhN q→NB (R q s).1:=b;cases p with
 | program e=>
  unfold zD;dsimp only;refine zd ?_ ?_
  · exact nbK (by unfold Kb;decide) c
  · exact b _ _ (zB7 c (b _ _ (by exact trivial)))
 | block=>exact b _ _ zD6
 | blockL e=>
  unfold zD;dsimp only;refine zd ?_ ?_
  · exact nbK (by unfold Kb;decide) c
  · refine zd ?_ ?_
    · exact nbK (by unfold Kb;decide) c
    · exact b _ _ (zB7 c (b _ _ (by exact trivial)))
 | item=>
  unfold zD;dsimp only;refine zd ?_ ?_
  · exact b _ _ (by exact trivial)
  · refine zd ?_ ?_
    · exact b _ _ ⟨by unfold Kb;decide,zEg g _⟩
    · exact b _ _ (by exact trivial)
 | declares=>
  unfold zD;dsimp only;refine zd ?_ ?_
  · exact b _ _ ⟨by unfold Kb;decide,zD6⟩
  · exact b _ _ ⟨by unfold Kb;decide,zD6⟩
 | declL k e=>
  unfold zD;dsimp only;generalize hD:(if onP L [61] (ze L s).2=true then(trN 7 (ze L s).1 [(R .assign (zB (ze L s).2)).1],(R .assign (zB (ze L s).2)).2)else(trN 7 (ze L s).1 [],(ze L s).2):Tr×Ps)=d;have m:NB d.1:=by
   rw[←hD];refine zd ?_ ?_
   · exact nbN (by unfold Kb;decide) (zEg g _) (zJQ (b _ _ (by exact trivial)))
   · exact nbN (by unfold Kb;decide) (zEg g _) zD6
  clear hD;refine zd ?_ ?_
  · exact nbK c.1 (zB7 c.2 m)
  · refine zd ?_ ?_
    · exact b _ _ ⟨c.1,zB7 c.2 m⟩
    · exact nbK c.1 (zB7 c.2 m)
 | func k n=>
  unfold zD;dsimp only;exact nbN c.1 c.2 (zB7 (b _ _ (by exact trivial)).subs (b _ _ (by exact trivial)))
 | params=>
  unfold zD;dsimp only;refine zd ?_ ?_
  · exact nbK (by unfold Kb;decide) zD6
  · exact b _ _ zD6
 | paramL e=>
  unfold zD;dsimp only;have f:∀t∈e++[trN 20 (ze L s).1 []],NB t:=zB7 c (nbN (by unfold Kb;decide) (zEg g _) zD6);refine zd ?_ ?_
  · exact nbK (by unfold Kb;decide) f
  · refine zd ?_ ?_
    · exact nbK (by unfold Kb;decide) f
    · exact b _ _ f
 | statement=>
  unfold zD;dsimp only;refine zd ?_ ?_
  · exact nbN (by unfold Kb;decide) (tx _) (zJQ (b _ _ (by exact trivial)))
  · refine zd ?_ ?_
    · exact b _ _ (by exact trivial)
    · refine zd ?_ ?_
      · exact nbK (by unfold Kb;decide) zD6
      · refine zd ?_ ?_
        · exact b _ _ (by exact trivial)
        · exact b _ _ (by exact trivial)
 | simple=>
  unfold zD;dsimp only;exact nbK (by unfold Kb;decide) (zJQ (b _ _ (by exact trivial)))
 | word w=>
  unfold zD;dsimp only;refine zd ?_ ?_
  · refine zd ?_ ?_
    · exact nbK (by unfold Kb;decide) (zYL (b _ _ (by exact trivial)) (b _ _ (by exact trivial)) (b _ _ (by exact trivial)))
    · exact nbK (by unfold Kb;decide) (zSH (b _ _ (by exact trivial)) (b _ _ (by exact trivial)))
  · refine zd ?_ ?_
    · exact nbK (by unfold Kb;decide) (zSH (b _ _ (by exact trivial)) (b _ _ (by exact trivial)))
    · refine zd ?_ ?_
      · exact b _ _ (by exact trivial)
      · refine zd ?_ ?_
        · exact b _ _ (by show Kb _;unfold Kb;decide)
        · refine zd ?_ ?_
          · exact b _ _ (by show Kb _;unfold Kb;decide)
          · refine zd ?_ ?_
            · refine zd ?_ ?_
              · exact nbK (by unfold Kb;decide) zD6
              · exact nbK (by unfold Kb;decide) (zJQ (b _ _ (by exact trivial)))
            · refine zd ?_ ?_
              · exact nbK (by unfold Kb;decide) (zJQ (b _ _ (by exact trivial)))
              · refine zd ?_ ?_
                · exact b _ _ (by exact trivial)
                · refine zd ?_ ?_
                  · exact nbK (by unfold Kb;decide) zD6
                  · exact b _ _ (by exact trivial)
 | within=>exact b _ _ (by exact trivial)
 | clause w=>
  unfold zD;dsimp only;refine zd ?_ ?_
  · exact nbK (by unfold Kb;decide) zD6
  · exact b _ _ (by exact trivial)
 | loop=>
  unfold zD;dsimp only;refine nbK (by unfold Kb;decide) (zao ?_ (b _ _ (by exact trivial)) (b _ _ (by exact trivial)) (b _ _ (by exact trivial)));refine zd ?_ ?_
  · exact b _ _ (by exact trivial)
  · exact b _ _ (by exact trivial)
 | jump k=>
  unfold zD;dsimp only;refine zd ?_ ?_
  · exact nbN c (zEg g _) zD6
  · exact nbK c zD6
 | tries=>
  unfold zD;dsimp only;have j:∀s1:Ps,NB (if onP L [99,97,116,99,104] s1=true then
   ((trN 17 (if onP L [40] (zB s1)=true then((ze L (zB (zB s1))).1,zO L [41] (ze L (zB (zB s1))).2)else([],zB s1)).1 [(R .block (if onP L [40] (zB s1)=true then((ze L (zB (zB s1))).1,zO L [41] (ze L (zB (zB s1))).2)else([],zB s1)).2).1],(R .block (if onP L [40] (zB s1)=true then((ze L (zB (zB s1))).1,zO L [41] (ze L (zB (zB s1))).2)else([],zB s1)).2).2))
   else(trK 11 [],s1)).1:=by
   intro s1;refine zd ?_ ?_
   · refine nbN (by unfold Kb;decide) ?_ (zJQ (b _ _ (by exact trivial)));split
     · exact zEg g _
     · exact yAE _
   · exact nbK (by unfold Kb;decide) zD6
  refine zd ?_ ?_
  · exact nbK (by unfold Kb;decide) (zYL (b _ _ (by exact trivial)) (j _) (b _ _ (by exact trivial)))
  · exact nbK (by unfold Kb;decide) (zYL (b _ _ (by exact trivial)) (j _) (nbK (by unfold Kb;decide) zD6))
 | assign=>
  unfold zD;dsimp only;refine zd ?_ ?_
  · exact b _ _ (zJQ (nbN (by unfold Kb;decide) (tx _) zD6))
  · refine zd ?_ ?_
    · exact b _ _ (b _ _ (by exact trivial)).subs
    · refine zd ?_ ?_
      · exact b _ _ (by exact trivial)
      · refine zd ?_ ?_
        · exact b _ _ (by exact trivial)
        · exact nbN (by unfold Kb;decide) (tx _) (zSH (b _ _ (by exact trivial)) (b _ _ (by exact trivial)))
 | body l=>
  unfold zD;dsimp only;refine nbK (by unfold Kb;decide) (zB7 c ?_);refine zd ?_ ?_
  · exact b _ _ (by exact trivial)
  · exact b _ _ (by exact trivial)
 | cond=>
  unfold zD;dsimp only;refine zd ?_ ?_
  · exact nbK (by unfold Kb;decide) (zYL (b _ _ (by exact trivial)) (b _ _ (by exact trivial)) (b _ _ (by exact trivial)))
  · exact b _ _ (by exact trivial)
 | either=>
  unfold zD;dsimp only;refine zd ?_ ?_
  · exact b _ _ (b _ _ (by exact trivial))
  · exact b _ _ (b _ _ (b _ _ (by exact trivial)))
 | nullL x=>
  unfold zD;dsimp only;refine zd ?_ ?_
  · exact b _ _ (nbN (by unfold Kb;decide) jd (zSH c (b _ _ (by exact trivial))))
  · exact c
 | orL x=>
  unfold zD;dsimp only;refine zd ?_ ?_
  · exact b _ _ (nbN (by unfold Kb;decide) jd (zSH c (b _ _ (b _ _ (by exact trivial)))))
  · exact c
 | both x=>
  unfold zD;dsimp only;refine zd ?_ ?_
  · exact b _ _ (nbN (by unfold Kb;decide) jd (zSH c (b _ _ (by exact trivial))))
  · exact c
 | level n=>
  unfold zD;dsimp only;refine zd ?_ ?_
  · exact b _ _ (by exact trivial)
  · exact b _ _ (b _ _ (by exact trivial))
 | levelL n x=>
  unfold zD;dsimp only;refine zd ?_ ?_
  · exact b _ _ (nbN (by unfold Kb;decide) (tx _) (zSH c (b _ _ (by exact trivial))))
  · exact c
 | unary=>
  unfold zD;dsimp only;refine zd ?_ ?_
  · exact nbN (by unfold Kb;decide) (tx _) (zJQ (b _ _ (by exact trivial)))
  · refine zd ?_ ?_
    · exact nbN (by unfold Kb;decide) (tx _) (zJQ (b _ _ (by exact trivial)))
    · refine zd ?_ ?_
      · refine zd ?_ ?_
        · exact b _ _ (by exact trivial)
        · exact nbN (by unfold Kb;decide) (tx _) (zJQ (b _ _ (by exact trivial)))
      · exact b _ _ (by exact trivial)
 | calls=>exact b _ _ (b _ _ (by exact trivial))
 | callsL x=>
  unfold zD;dsimp only;refine zd ?_ ?_
  · exact b _ _ (nbK (by unfold Kb;decide) (zQ8 c (b _ _ (by exact trivial)).subs))
  · refine zd ?_ ?_
    · refine zd ?_ ?_
      · exact c
      · exact b _ _ (nbN (by unfold Kb;decide) (tx _) (zJQ c))
    · refine zd ?_ ?_
      · exact b _ _ (nbK (by unfold Kb;decide) (zSH c (b _ _ (by exact trivial))))
      · exact c
 | head=>
  unfold zD;dsimp only;refine zd ?_ ?_
  · refine zd ?_ ?_
    · exact nbK (by unfold Kb;decide) (zQ8 (b _ _ (b _ _ (by exact trivial))) (b _ _ (by exact trivial)).subs)
    · exact nbK (by unfold Kb;decide) (zJQ (b _ _ (b _ _ (by exact trivial))))
  · exact b _ _ (by exact trivial)
 | headL x=>
  unfold zD;dsimp only;refine zd ?_ ?_
  · refine zd ?_ ?_
    · exact c
    · exact b _ _ (nbN (by unfold Kb;decide) (tx _) (zJQ c))
  · refine zd ?_ ?_
    · exact b _ _ (nbK (by unfold Kb;decide) (zSH c (b _ _ (by exact trivial))))
    · exact c
 | args=>exact b _ _ (by exact trivial)
 | list w=>
  unfold zD;dsimp only;refine zd ?_ ?_
  · exact nbK (by unfold Kb;decide) zD6
  · exact b _ _ zD6
 | listL w e=>
  unfold zD;dsimp only;have f:∀t∈e++[(R .assign s).1],NB t:=zB7 c (b _ _ (by exact trivial));refine zd ?_ ?_
  · exact nbK (by unfold Kb;decide) f
  · refine zd ?_ ?_
    · exact nbK (by unfold Kb;decide) f
    · exact b _ _ f
 | primary=>
  unfold zD;dsimp only;refine zd ?_ ?_
  · exact nbK (by unfold Kb;decide) zD6
  by_cases o:(zH L s.k).kind=2
  · rw[if_pos o];have:=(g s.k).num o;exact .mk ⟨by simp,by simp only;omega,by simp only;omega,by simp[zB6],by simp[zB6]⟩ zD6
  rw[if_neg o];refine zd ?_ ?_
  · exact .mk ⟨by simp,by simp[zB6],by simp[zB6],by simp[zB6],r _⟩ zD6
  refine zd ?_ ?_
  · exact .mk ⟨by simp,by simp[zB6],by simp[zB6],by simp[zB6],by simp[zB6]⟩ zD6
  refine zd ?_ ?_
  · exact nbN (by unfold Kb;decide) (tx _) zD6
  refine zd ?_ ?_
  · exact nbK (by unfold Kb;decide) zD6
  refine zd ?_ ?_
  · exact nbK (by unfold Kb;decide) zD6
  refine zd ?_ ?_
  · exact nbK (by unfold Kb;decide) zD6
  refine zd ?_ ?_
  · exact nbK (by unfold Kb;decide) zD6
  refine zd ?_ ?_
  · exact nbK (by unfold Kb;decide) (b _ _ (by exact trivial)).subs
  refine zd ?_ ?_
  · exact b _ _ (by exact trivial)
  refine zd ?_ ?_
  · refine zd ?_ ?_
    · exact b _ _ ⟨by unfold Kb;decide,zEg g _⟩
    · exact b _ _ ⟨by unfold Kb;decide,by decide⟩
  refine zd ?_ ?_
  · exact b _ _ (by exact trivial)
  · exact nbK (by unfold Kb;decide) zD6
 | object=>
  unfold zD;dsimp only;refine zd ?_ ?_
  · exact nbK (by unfold Kb;decide) zD6
  · exact b _ _ zD6
 | objL e=>
  unfold zD;dsimp only;have f:∀t∈e++[(R .prop s).1],NB t:=zB7 c (b _ _ (by exact trivial));refine zd ?_ ?_
  · exact nbK (by unfold Kb;decide) f
  · refine zd ?_ ?_
    · exact nbK (by unfold Kb;decide) f
    · exact b _ _ f
 | prop=>
  unfold zD;dsimp only;split
  · exact nbK (by unfold Kb;decide) zD6
  · split
    · exact .mk ⟨by simp,by simp[zB6],by simp[zB6],by simp[zB6],by simp[zB6]⟩ (zJQ (nbN (by unfold Kb;decide) (tx _) zD6))
    · exact .mk ⟨by simp,by simp[zB6],by simp[zB6],by simp[zB6],by simp[zB6]⟩ (zJQ (b _ _ (by exact trivial)))
end
theorem zYW {L:List Tok} (b:TL L) (c:TLm L):∀(f:Nat) (p:Ph) (s:Ps),PhN p→NB (zHK L f p s).1:=by
 intro f
 induction f with
 | zero=>intro p s _;exact nbK (by unfold Kb;decide) zD6
 | succ f d=>intro p s e;exact zXR b c d p s e
theorem zYX {L:List Tok} (b:TL L) (c:TLm L) (p:Ph) (s:Ps) (d:PhN p):NB (zE L p s).1:=zYW b c _ p s d
theorem zZT {x:Nd} {l:List Int} (h:NQ x):NQ {x with kids:=l}:=⟨h.kb,h.nkb,h.nnb,h.nm,h.limb⟩
mutual
theorem nq_flatT {t:Tr} (h:NB t) (n:Nat):∀x∈flatT n t,NQ x:=by
 cases t with
 | mk y l=>
  rw[zAz];intro x hx;rcases yAW.1 hx with rfl | hx
  · exact zZT h.nd
  · exact nq_flatL h.subs (n+1) x hx
theorem nq_flatL {l:List Tr} (h:∀t∈l,NB t) (n:Nat):∀x∈flatL n l,NQ x:=by
 cases l with
 | nil=>rw[zA0];intro x hx;cases hx
 | cons t r=>
  rw[zAP];intro x hx;rcases yBQ.1 hx with hx | hx
  · exact nq_flatT (h t (yBN ..)) n x hx
  · exact nq_flatL (fun t ht=>h t (yAV _ ht)) (n+t.size) x hx
end
theorem NdsC.get {w:World} {G:Nat→Prop}:∀{ts:List Nd} {cs:List Value},NdsC w G ts cs→∀{i:Nat} (hi:i < ts.length),∃vs b vk,w.ownsRow 0 104 1 vs ts[i].str.length (zAC ts[i].str)∧w.ownsRow 0 119 1 b ts[i].mag.length (zBg ts[i].mag)∧w.ownsRow 0 3 1 vk ts[i].kids.length (zBw ts[i].kids)∧∀j (hj:j < 8),cs[i*8+j]? =some ((ndC ts[i] vs b vk)[j]'hj):=by
 intro ts
 induction ts with
 | nil=>intro cs h i hi;simp at hi
 | cons x r c=>
  intro cs h i hi;obtain⟨vs,b,vk,rest,rfl,d,e,f,_,h6⟩:=h;cases i with
  | zero=>
   refine⟨vs,b,vk,d,e,f,fun j hj=>?_⟩;rw[Nat.zero_mul,yCK,yBD hj];exact yAB hj
  | succ i=>
   obtain⟨us,g,k,k2,k3,k4,k5⟩:=c h6 (i:=i) (by simpa using hi);refine⟨us,g,k,k2,k3,k4,fun j hj=>?_⟩;rw[yAX (by show 8≤_;omega),show(i+1)*8+j - (ndC x vs b vk).length=i*8+j by show _ - 8=_;omega];exact k5 j hj
theorem Laid.reads {w:World} {G:Nat→Prop} {A:jQ} {c:Nat} (h:Laid w G (.slice A n c) ts) (m:∀x∈ts,NQ x) (o:Fwd ts) (u:ts.length≤1000000):NdsR w w.heap.size A n ts∧n≤c∧c≤maxLen:=by
 obtain⟨ks,h1,p⟩:=h;obtain⟨v,z,e,f,k⟩:=zP h1;injection e with e1 e2 e3;subst e2 e3;refine⟨⟨rfl,fun B=>?_⟩,f,k⟩;rcases h1.2 with⟨_,C⟩ | ⟨g,cap,t,e,_,hg,_⟩
 · omega
 · injection e with e _ _;subst e;have l:g < w.heap.size:=(h1.lt g rfl).2;refine⟨g,0,rfl,l,fun i hi=>?_⟩;obtain⟨vs,D,vk,k1,k2,k3,k4⟩:=NdsC.get p hi;obtain⟨As,cs,rfl,a1,a2⟩:=zP k1;obtain⟨Am,cm,rfl,q,r⟩:=zP k2;obtain⟨Ak,ck,rfl,d1,d2⟩:=zP k3;have b:∀j (hj:j < 8),w.cell? ⟨g,i*8+j,none⟩=some ((ndC ts[i] (.slice As ts[i].str.length cs) (.slice Am ts[i].mag.length cm) (.slice Ak ts[i].kids.length ck))[j]'hj):=by
    intro j hj;rw[h1.cellAt (i*8+j) jo];exact k4 j hj
   have d:=m _ (yAZ hi);refine⟨⟨As,Am,Ak,cs,cm,ck⟩,?_,?_⟩
   · rw[yCK];exact⟨b 0 jd,b 1 jd,b 2 jd,b 3 jd,b 4 jd,b 5 jd,b 6 jd,b 7 jd⟩
   · refine⟨.of_own k1,.of_own k2,.of_own k3,⟨a1,a2⟩,⟨q,r⟩,⟨d1,d2⟩,d.limb,fun y s=>?_,d.kb,d.nkb,d.nnb,by have:=d.nm;omega⟩;have:=o i ts[i] (yAB hi) y s;omega
mutual
theorem kids_flatT (t:Tr) (n:Nat):∀x∈flatT n t,x.kids.length≤t.size:=by
 cases t with
 | mk y l=>
  rw[zAz,zAk];intro x hx;rcases yAW.1 hx with rfl | hx
  · show(zx (n+1) l).length≤_;rw[zBV];have:=zMW l;omega
  · have:=kids_flatL l (n+1) x hx;omega
theorem kids_flatL (l:List Tr) (n:Nat):∀x∈flatL n l,x.kids.length≤sizes l:=by
 cases l with
 | nil=>rw[zA0];intro x hx;cases hx
 | cons t r=>
  rw[zAP,zY];intro x hx;rcases yBQ.1 hx with hx | hx
  · have:=kids_flatT t n x hx;omega
  · have:=kids_flatL r (n+t.size) x hx;omega
end
theorem Laid.chg {w w':World} {S G:Nat→Prop} {v:Value} (h:Laid w G v ts) (c:Chg w w' S) (d:Sty w S G) (hv:∀b,v.ownBlock=some b→¬S b):Laid w' G v ts:=by
 obtain⟨ks,h1,e⟩:=h;exact⟨ks,zBC h1 c hv,NdsC.chg c d _ _ e⟩
theorem Laid.new {w w':World} {G:Nat→Prop} {v:Value} (h:Laid w G v ts) (hg:w.grownBy w' none):Laid w' G v ts:=
 h.chg (.of hg) (fun b hb _=>by cases hb) (fun b _ h=>by cases h)
theorem Laid.var {w:World} {G:Nat→Prop} {v u:Value} {X:Nat} (h:Laid w G v ts) (d:Bx w X 24 cs):Laid (w.setCell X u) G v ts:=by
 refine h.chg (.of (zM w X 0 u)) (fun b hb _=>?_) (fun b h1 c=>?_)
 · injection hb with hb;subst hb;exact⟨_,_,d,.inl rfl⟩
 · injection c with c;subst c;obtain⟨ks,e,_⟩:=h;exact zFv e d jd h1
theorem zIl (t:Tr):Fwd (flatT 0 t):=zGe (zFQ t)
section
variable {L L1 L2:List Tok} {a d m:Nat} {lo:Bool} {s:Ps}
theorem zUY (b:Lst L) (h:s.k≤L.length - 1):Eat L s (zE L .item s).2:=zZ b (p:=.item) ⟨h,trivial⟩
inductive Path (L:List Tok):Ps→List Tr→Ps→Prop
 | nil (s:Ps):Path L s [] s
 | cons {s e:Ps} {items:List Tr} (h:(zH L s.k).kind≠0) (p:Path L (zE L .item s).2 items e):Path L s ((zE L .item s).1::items) e
theorem Path.prog (d:Lst L) {s e:Ps} {b:List Tr} (h:Path L s b e) (hs:s.k≤L.length - 1) (f:(zH L e.k).kind=0):∀c,zE L (.program c) s=(trK 1 (c++b),e):=by
 induction h with
 | nil s=>
  intro c;rw[zQ d ⟨hs,trivial⟩];unfold zD;dsimp only;rw[if_pos f,yAS]
 | cons h _ g=>
  intro c;rw[zQ d ⟨hs,trivial⟩];unfold zD;dsimp only;rw[if_neg h,g (zUY d hs).adv.hi f,yAL];rfl
end
def s0:Ps:=⟨0,0,0⟩
def LN (L:List Tok) (s e:Ps):Prop:=e.bad=0→s.k < e.k→isT (zH L (e.k - 1)) [59]=false
section
variable {L:List Tok} {a s e c:Ps}
theorem LN.refl (s:Ps):LN L s s:=fun _ h=>absurd h (Nat.lt_irrefl _)
theorem LN.bad (h:e.bad≠0):LN L s e:=fun hb=>absurd hb h
theorem LN.trans (h:LN L a s) (k:LN L s e) (y:Adv L s e):LN L a e:=fun hb hk=>by
 rcases yBO s.k e.k with h1 | h1
 · exact k hb h1
 · have e1:s.k=e.k:=by have:=y.le;omega
   have b:s.bad=0:=by
    rcases yCN s.bad with c | c
    · exact c
    · exact absurd hb (y.bad jo)
   have:=h b jo;rwa [e1]at this
theorem LN.step (h:isT (zH L s.k) [59]=false):LN L s (zB s):=fun _ _=>h
end
def Semi (L:List Tok):Prop:=∀i,isT (zH L i) [59]=true→(zH L i).kind=5
section
variable {L:List Tok} {R:Ph→Ps→Tr×Ps} {s:Ps}
theorem Semi.kind (b:Semi L) {i:Nat} (h:(zH L i).kind≠5):isT (zH L i) [59]=false:=by
 cases hh:isT (zH L i) [59]with
 | false=>rfl
 | true=>exact absurd (b i hh) h
end
theorem zB9 {a:UInt8} {s:jE} {r:jH} (h:x≠a.toUInt16):zg (a::s) (x::r)=false:=by
 unfold zg;rw[List.map_cons,List.isPrefixOf];rw[show(a.toUInt16==x)=false from yA.2 (fun e=>h e.symm),Bool.false_and]
theorem zQ9 {r:jH} (h:(zHd x || zAG x)=false) (b:x≠47):zAM (x::r)=(0,false,0):=by
 show zC7 (x::r) false=_;rw[zFU h (by rw[zB9 b,zB9 b];rfl)]
theorem zIm:zAM []=(0,false,0):=rfl
theorem zJy:∀b∈zAB++zD1,zGL b=true:=by decide+kernel
theorem zUZ {b:jE} (h:0 < zCS b):zGL b=true:=by
 unfold zCS at h
 by_cases h1:b∈zAB
 · exact zJy b (yCJ _ h1)
 · rw[if_neg h1]at h
   by_cases c:b∈zD1
   · exact zJy b (yBX _ c)
   · rw[if_neg c]at h;omega
theorem zRA (h:zAx x=true):(zHd x || zAG x)=false∧x≠47:=by
 simp only[zAx,yBU,yAQ,yBG,yBL]at h;refine⟨?_,?_⟩
 · rw[Bool.or_eq_false_iff];simp only[zHd,zAG,Bool.or_eq_false_iff,yA];omega
 · rintro rfl;revert h;decide
theorem zRB:∀b∈zl,zDX (zV b)=([{zh with kind:=5,text:=b},setAt zh b.length false],0,0)∧zBn b=false∧zCS b=0:=by decide+kernel
theorem zUa {b:jE} (h:zCA b=1):zDX (zV b)=([{zh with kind:=5,text:=b},setAt zh b.length false],0,0)∧zBn b=false∧zCS b=0:=by
 refine zRB b ?_;unfold zCA at h
 by_cases h1:b∈zl
 · exact h1
 · rw[if_neg h1]at h;split at h<;>cases h
theorem zUb {l:jH} (h:∀x r,l=x::r→x.toNat≠35):zAU true l=zAU false l:=by
 cases l with
 | nil=>rfl
 | cons x r=>
  have b:=h x r rfl;rw[zA3,zA3];have hs:zCI true (x::r)=zCI false (x::r):=by
   unfold zCI;rw[zB9 (fun e=>b (by rw[e];rfl))];rfl
  rw[hs]
theorem zRC (b:u.length≤4096) (h:(zDX u).2.2=0):(zDX u).2.1=0:=by
 rw[zB2 jo]at h⊢;exact zJj _ _ _ h
theorem zUc (b:u.length≤4096) (h:(zDX u).2.2≠0):(zDX u).1=[]:=by
 rw[zB2 jo]at h⊢;exact zMJ _ _ _ h
theorem zRD:∀(f k:Nat) (l:jH),(zFJ f k l).1.length≤f:=by
 intro f
 induction f with
 | zero=>intro k l;simp[zFJ]
 | succ f b=>
  intro k l;rw[zFJ];split
  · simp
  · split
    · simp
    · split
      · simp
      · unfold zFy;split
        · simp
        · have:=b (k+(zAM l).1+(zA6 k l).2.2) (l.drop ((zAM l).1+(zA6 k l).2.2));simp only[yAO];omega
theorem zJz (b:u.length≤4096):(zDX u).1.length≤u.length+1:=by
 rw[zB2 jo];exact zRD _ _ _
theorem zLI:∀(f v:Nat),(zBH f v).length≤f:=by
 intro f
 induction f with
 | zero=>intro v;simp[zBH]
 | succ f b=>
  intro v;rw[zBH];split
  · simp
  · have:=b (v / 4294967296);simp only[yAO];omega
theorem zOB (q:UInt16):∀(f:Nat) (l b:jH),(zDH q f l b).2.1.length≤b.length+l.length:=by
 intro f
 induction f with
 | zero=>intro l b;simp[zDH]
 | succ f c=>
  intro l b;cases l with
  | nil=>simp[zDH]
  | cons x r=>
   rw[zDH];split
   · simp
   · split
     · simp
     · split
       · split
         · simp
         · rename_i d
           have e:=zFV (Decidable.not_not.1 d);have:=c (r.drop (zEI r).2.2) (b++[(zEI r).2.1]);rw[yAR,yAN]at this;simp only[yAO,yBA]at this⊢;omega
       · have:=c r (b++[x]);rw[yAN]at this;simp only[yAO,yBA]at this⊢;omega
structure SmallT (n:Nat) (t:Tok):Prop where
 str:t.str.length≤n
 mag:t.mag.length≤9
 text:t.text.length≤n
theorem SmallT.no (n:Nat):SmallT n zh:=⟨by simp[zh],by simp[zh],by simp[zh]⟩
theorem zLJ (z:Bool) (l:jH):SmallT l.length (zAU z l).2.1:=by
 cases l with
 | nil=>exact SmallT.no _
 | cons x r=>
  rw[zA3];split
  · unfold zCm;split
    · exact SmallT.no _
    · refine⟨by simp[zh],by simp[zh],?_⟩;have:=zBR zAu (x::r);simpa [asc]using this
  · split
    · unfold zBf zBx;split
      · exact SmallT.no _
      · split
        · unfold zIy;split
          · exact SmallT.no _
          · split
            · exact SmallT.no _
            · exact⟨by simp[zh],zLI 9 _,by simp[zh]⟩
        · split
          · exact SmallT.no _
          · split
            · exact SmallT.no _
            · split
              · exact SmallT.no _
              · exact⟨by simp[zh],by simp[zh],by simp[zh]⟩
    · split
      · unfold zAv;split
        · exact SmallT.no _
        · refine⟨?_,by simp[zh],by simp[zh]⟩;have:=zOB x (r.length+1) r [];simp only[yBA,yAO]at this⊢;unfold zKU;omega
      · split
        · exact SmallT.no _
        · unfold zCI;split
          · split
            · exact SmallT.no _
            · refine⟨by simp[zh],by simp[zh],?_⟩;simp only[asc,List.length_map];exact List.length_take_le' _ _
          · split<;>exact SmallT.no _
theorem SmallT.set {t:Tok} (h:SmallT n t) (k:Nat) (nl:Bool):SmallT n (setAt t k nl):=⟨h.str,h.mag,h.text⟩
theorem SmallT.more {m:Nat} {t:Tok} (h:SmallT n t) (b:n≤m):SmallT m t:=⟨by have:=h.str;omega,h.mag,by have:=h.text;omega⟩
theorem zOC:∀(f k:Nat) (l:jH),∀t∈(zFJ f k l).1,SmallT l.length t∧k≤t.pos∧t.pos≤k+l.length:=by
 intro f
 induction f with
 | zero=>intro k l t d;simp[zFJ]at d
 | succ f e=>
  intro k l t;rw[zFJ]
  by_cases h1:(zAM l).2.2≠0
  · rw[if_pos h1];intro h;simp at h
  rw[if_neg h1];have j:=zIK l
  by_cases c:l.drop (zAM l).1=[]
  · rw[if_pos c];intro h;simp only[yBT]at h;subst h;exact⟨(SmallT.no _).set _ _,by simp[setAt],by simp[setAt];omega⟩
  rw[if_neg c]
  by_cases b:(zA6 k l).1≠0
  · rw[if_pos b];intro h;simp at h
  rw[if_neg b];have g:=zEs (k:=k) (l:=l) (Decidable.not_not.1 b);unfold zFy;split
  · intro h;simp at h
  · intro h;rcases yAW.1 h with h | h
    · subst h;refine⟨SmallT.set ?_ _ _,by simp[setAt],by simp[setAt];omega⟩;have:=zLJ (k+(zAM l).1==0) (l.drop (zAM l).1);rw[yAR]at this;exact this.more jo
    · have:=e _ _ t h;rw[yAR]at this;exact⟨this.1.more jo,by omega,by omega⟩
theorem zOD (c:u.length≤4096):∀t∈(zDX u).1,SmallT u.length t∧t.pos≤u.length:=by
 rw[zB2 jo];intro t b;have:=zOC _ _ _ t b;exact⟨this.1,by omega⟩
end Go.Proofs.YtjlfhidpmdgloaaGreatDoor
