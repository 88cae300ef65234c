/- Joined for the claim EarlyRoot: the parser, the lexer and the trees as they are walked, made short by a program of mine. -/
import Derived.Test.YtlohaclgbfhijaaGreatDoorE19
import Derived.Test.YtlohaclgbfhijaaGreatDoorE15
import Derived.Deep.RegionLaw
import Derived.Deep.CutBlock
import Derived.Deep.DeepCutAuto
import Derived.Test.YtlohaclgbfhijaaGreatDoorE08
import Derived.Shelf.Small.Strs
import Derived.Shelf.Strconv.Itoa0
import Derived.Shelf.Strconv.Itoa1
import Derived.Shelf.LaysM
import Derived.Shelf.Strconv.Itoa2
import Derived.Shelf.Strconv.Itoa3
import Derived.Shelf.Strings.Search1
import Derived.Shelf.Slices.Turned
import Derived.Shelf.Slices.Equal
import Derived.Ground.Names2Prog
import Derived.Shelf.Slices.Clone
import Derived.Shelf.Slices.Empties2
import Derived.Ground.SlgnProg
import Derived.Shelf.SlicesE.Clone
import Derived.Test.YtlohaclgbfhijaaGreatDoorProg
import Derived.Lib.AppendIntMem
import Derived.Test.YtlohaclgbfhijaaGreatDoorE05
import Derived.Test.YtlohaclgbfhijaaGreatDoorE01
set_option maxHeartbeats 16000000
set_option maxRecDepth 1000000
namespace Go.Proofs.YtlohaclgbfhijaaGreatDoor
open Go.Proofs.Tryz
open Go.RowKit
theorem zIZ {t:Tok} (h:t.kind=0) (w:List UInt8):isT t w=false:=by
 cases hh:isT t w with
 | false=>rfl
 | true=>exact absurd h (zDx hh)
theorem zOM {w:World} {P Q:Nat→Prop} {R n:Nat} {l:List Tr} {cs:List Value} (hb:Bx w R 72 cs) (h:TrsC w Q l cs) (hn:l.length=n) (h7:n≤4097) (hQP:∀b,Q b→b < w.heap.size→P b) (hQR:¬Q R) (hPR:P R):RowP w P (.slice (some ⟨R,0,none⟩) n n) l:=by
 subst hn;refine⟨cs,fun b=>Q b∧b < w.heap.size,⟨h.len,.inr ⟨R,l.length,cs.toArray,rfl,yAE _,hb,yAC _,by unfold maxLen;omega,by simp[h.len],by rw[←h.len];simp⟩⟩,?_,.sub (fun b hb2 hl=>⟨hb2,hl⟩) _ _ h,?_,fun b h2=>⟨hQP b h2.1 h2.2,h2.2⟩⟩
 · intro b e;simp only[Value.ownBlock,Option.some.injEq]at e;subst e;exact hPR
 · intro b e h2;simp only[Value.ownBlock,Option.some.injEq]at e;subst e;exact hQR h2.1
structure PutR (C:Pc) (s:Ps) (w W:World) (R:Nat) (cs:List Value) (V:World):Prop where
 box:Bx V R 72 cs
 pa:Pa C s V
 grown:w.grownBy V (some C.g)
 from_:W.grownBy V (some R)
theorem zIa {w:World} {R:Nat} {v0 v1 v2 v3 v4 v5 v6 v7 v8:Value}:w.grownBy (((((((((w.setCell ⟨R,9,none⟩ v0).setCell ⟨R,10,none⟩ v1).setCell ⟨R,11,none⟩ v2).setCell ⟨R,12,none⟩ v3).setCell ⟨R,13,none⟩ v4).setCell ⟨R,14,none⟩ v5).setCell ⟨R,15,none⟩ v6).setCell ⟨R,16,none⟩ v7).setCell ⟨R,17,none⟩ v8) (some R):=by
 exact(zC (zC (zC (zC (zC (zC (zC (zC (zK _ _ _ _) (zK _ _ _ _)) (zK _ _ _ _)) (zK _ _ _ _)) (zK _ _ _ _)) (zK _ _ _ _)) (zK _ _ _ _)) (zK _ _ _ _)) (zK _ _ _ _))
theorem zON {C:Pc} {s:Ps} {w W:World} {R:Nat} {p0 p1 p2 p3 p4 p5 p6 p7 p8 q0 q1 q2 q3 q4 q5 q6 q7 q8 r0 r1 r2 r3 r4 r5 r6 r7 r8 v0 v1 v2 v3 v4 v5 v6 v7 v8:Value} (hB:Bx W R 72 [p0,p1,p2,p3,p4,p5,p6,p7,p8,q0,q1,q2,q3,q4,q5,q6,q7,q8,r0,r1,r2,r3,r4,r5,r6,r7,r8]) (hR:w.heap.size≤R) (hgR:C.g < R) (hP:Pa C s W) (hG:w.grownBy W (some C.g)):
 PutR C s w W R [p0,p1,p2,p3,p4,p5,p6,p7,p8,v0,v1,v2,v3,v4,v5,v6,v7,v8,r0,r1,r2,r3,r4,r5,r6,r7,r8] (((((((((W.setCell ⟨R,9,none⟩ v0).setCell ⟨R,10,none⟩ v1).setCell ⟨R,11,none⟩ v2).setCell ⟨R,12,none⟩ v3).setCell ⟨R,13,none⟩ v4).setCell ⟨R,14,none⟩ v5).setCell ⟨R,15,none⟩ v6).setCell ⟨R,16,none⟩ v7).setCell ⟨R,17,none⟩ v8):=by
 have hg:=zIa (w:=W) (R:=R) (v0:=v0) (v1:=v1) (v2:=v2) (v3:=v3) (v4:=v4) (v5:=v5) (v6:=v6) (v7:=v7) (v8:=v8);exact⟨(((((((((hB.set 9 v0).set 10 v1).set 11 v2).set 12 v3).set 13 v4).set 14 v5).set 15 v6).set 16 v7).set 17 v8),hP.grown hg (fun b e=>by injection e with e;omega),zBP hG hR hg,hg⟩
theorem zIb {w:World} {R:Nat} {v0 v1 v2 v3 v4 v5 v6 v7 v8:Value}:w.grownBy (((((((((w.setCell ⟨R,18,none⟩ v0).setCell ⟨R,19,none⟩ v1).setCell ⟨R,20,none⟩ v2).setCell ⟨R,21,none⟩ v3).setCell ⟨R,22,none⟩ v4).setCell ⟨R,23,none⟩ v5).setCell ⟨R,24,none⟩ v6).setCell ⟨R,25,none⟩ v7).setCell ⟨R,26,none⟩ v8) (some R):=by
 exact(zC (zC (zC (zC (zC (zC (zC (zC (zK _ _ _ _) (zK _ _ _ _)) (zK _ _ _ _)) (zK _ _ _ _)) (zK _ _ _ _)) (zK _ _ _ _)) (zK _ _ _ _)) (zK _ _ _ _)) (zK _ _ _ _))
theorem zOO {C:Pc} {s:Ps} {w W:World} {R:Nat} {p0 p1 p2 p3 p4 p5 p6 p7 p8 q0 q1 q2 q3 q4 q5 q6 q7 q8 r0 r1 r2 r3 r4 r5 r6 r7 r8 v0 v1 v2 v3 v4 v5 v6 v7 v8:Value} (hB:Bx W R 72 [p0,p1,p2,p3,p4,p5,p6,p7,p8,q0,q1,q2,q3,q4,q5,q6,q7,q8,r0,r1,r2,r3,r4,r5,r6,r7,r8]) (hR:w.heap.size≤R) (hgR:C.g < R) (hP:Pa C s W) (hG:w.grownBy W (some C.g)):
 PutR C s w W R [p0,p1,p2,p3,p4,p5,p6,p7,p8,q0,q1,q2,q3,q4,q5,q6,q7,q8,v0,v1,v2,v3,v4,v5,v6,v7,v8] (((((((((W.setCell ⟨R,18,none⟩ v0).setCell ⟨R,19,none⟩ v1).setCell ⟨R,20,none⟩ v2).setCell ⟨R,21,none⟩ v3).setCell ⟨R,22,none⟩ v4).setCell ⟨R,23,none⟩ v5).setCell ⟨R,24,none⟩ v6).setCell ⟨R,25,none⟩ v7).setCell ⟨R,26,none⟩ v8):=by
 have hg:=zIb (w:=W) (R:=R) (v0:=v0) (v1:=v1) (v2:=v2) (v3:=v3) (v4:=v4) (v5:=v5) (v6:=v6) (v7:=v7) (v8:=v8);exact⟨(((((((((hB.set 18 v0).set 19 v1).set 20 v2).set 21 v3).set 22 v4).set 23 v5).set 24 v6).set 25 v7).set 26 v8),hP.grown hg (fun b e=>by injection e with e;omega),zBP hG hR hg,hg⟩
theorem Bx.mid1 {w:World} {R:Nat} {T:TypeId} {p0 p1 p2 p3 p4 p5 p6 p7 p8 q0 q1 q2 q3 q4 q5 q6 q7 q8 r0 r1 r2 r3 r4 r5 r6 r7 r8:Value} (h:Bx w R T [p0,p1,p2,p3,p4,p5,p6,p7,p8,q0,q1,q2,q3,q4,q5,q6,q7,q8,r0,r1,r2,r3,r4,r5,r6,r7,r8]):w.cell? ⟨R,9,none⟩=some q0∧w.cell? ⟨R,10,none⟩=some q1∧w.cell? ⟨R,11,none⟩=some q2∧w.cell? ⟨R,12,none⟩=some q3∧w.cell? ⟨R,13,none⟩=some q4∧w.cell? ⟨R,14,none⟩=some q5∧w.cell? ⟨R,15,none⟩=some q6∧w.cell? ⟨R,16,none⟩=some q7∧w.cell? ⟨R,17,none⟩=some q8:=⟨h.cell 9,h.cell 10,h.cell 11,h.cell 12,h.cell 13,h.cell 14,h.cell 15,h.cell 16,h.cell 17⟩
theorem Bx.midF1 {w:World} {R:Nat} {T:TypeId} {cs:List Value} (h:Bx w R T cs):w.frozen? ⟨R,9,none⟩=false∧w.frozen? ⟨R,10,none⟩=false∧w.frozen? ⟨R,11,none⟩=false∧w.frozen? ⟨R,12,none⟩=false∧w.frozen? ⟨R,13,none⟩=false∧w.frozen? ⟨R,14,none⟩=false∧w.frozen? ⟨R,15,none⟩=false∧w.frozen? ⟨R,16,none⟩=false∧w.frozen? ⟨R,17,none⟩=false:=⟨h.frozen 9,h.frozen 10,h.frozen 11,h.frozen 12,h.frozen 13,h.frozen 14,h.frozen 15,h.frozen 16,h.frozen 17⟩
theorem Bx.mid2 {w:World} {R:Nat} {T:TypeId} {p0 p1 p2 p3 p4 p5 p6 p7 p8 q0 q1 q2 q3 q4 q5 q6 q7 q8 r0 r1 r2 r3 r4 r5 r6 r7 r8:Value} (h:Bx w R T [p0,p1,p2,p3,p4,p5,p6,p7,p8,q0,q1,q2,q3,q4,q5,q6,q7,q8,r0,r1,r2,r3,r4,r5,r6,r7,r8]):w.cell? ⟨R,18,none⟩=some r0∧w.cell? ⟨R,19,none⟩=some r1∧w.cell? ⟨R,20,none⟩=some r2∧w.cell? ⟨R,21,none⟩=some r3∧w.cell? ⟨R,22,none⟩=some r4∧w.cell? ⟨R,23,none⟩=some r5∧w.cell? ⟨R,24,none⟩=some r6∧w.cell? ⟨R,25,none⟩=some r7∧w.cell? ⟨R,26,none⟩=some r8:=⟨h.cell 18,h.cell 19,h.cell 20,h.cell 21,h.cell 22,h.cell 23,h.cell 24,h.cell 25,h.cell 26⟩
theorem Bx.midF2 {w:World} {R:Nat} {T:TypeId} {cs:List Value} (h:Bx w R T cs):w.frozen? ⟨R,18,none⟩=false∧w.frozen? ⟨R,19,none⟩=false∧w.frozen? ⟨R,20,none⟩=false∧w.frozen? ⟨R,21,none⟩=false∧w.frozen? ⟨R,22,none⟩=false∧w.frozen? ⟨R,23,none⟩=false∧w.frozen? ⟨R,24,none⟩=false∧w.frozen? ⟨R,25,none⟩=false∧w.frozen? ⟨R,26,none⟩=false:=⟨h.frozen 18,h.frozen 19,h.frozen 20,h.frozen 21,h.frozen 22,h.frozen 23,h.frozen 24,h.frozen 25,h.frozen 26⟩
section
variable {C:Pc} {B:Nat→Prop} {a:World} {D:List Nat} {os:List Ob} {s s':Ps} {w w':World} {t1 t2 t3:Tr} {p0 p1 p2 p3 p4 p5 p6 p7 p8 q0 q1 q2 q3 q4 q5 q6 q7 q8 r0 r1 r2 r3 r4 r5 r6 r7 r8 v0 v1 v2 v3 v4 v5 v6 v7 v8:Value} {R:Nat} {T:TypeId}
theorem Fr.box3 (F:Fr C B a D os s w) (i j m:Nat) (_h1:os[i]? =some (.tr t1 [p0,p1,p2,p3,p4,p5,p6,p7,p8]):=by rfl) (_h2:os[j]? =some (.tr t2 [q0,q1,q2,q3,q4,q5,q6,q7,q8]):=by rfl) (_h3:os[m]? =some (.tr t3 [r0,r1,r2,r3,r4,r5,r6,r7,r8]):=by rfl):Fr C B a (w.heap.size::D) (os++[.bx w.heap.size 72 [p0,p1,p2,p3,p4,p5,p6,p7,p8,q0,q1,q2,q3,q4,q5,q6,q7,q8,r0,r1,r2,r3,r4,r5,r6,r7,r8]]) s (w.alloc (.cells #[p0,p1,p2,p3,p4,p5,p6,p7,p8,q0,q1,q2,q3,q4,q5,q6,q7,q8,r0,r1,r2,r3,r4,r5,r6,r7,r8] 72)):=F.box [p0,p1,p2,p3,p4,p5,p6,p7,p8,q0,q1,q2,q3,q4,q5,q6,q7,q8,r0,r1,r2,r3,r4,r5,r6,r7,r8] 72 rfl (by decide) (by decide)
theorem Fr.put1 (F:Fr C B a D os s w) (i j:Nat) {x:Ob} (hi:os[i]? =some (.bx R 72 [p0,p1,p2,p3,p4,p5,p6,p7,p8,q0,q1,q2,q3,q4,q5,q6,q7,q8,r0,r1,r2,r3,r4,r5,r6,r7,r8]):=by rfl) (_hj:os[j]? =some x:=by rfl) (_hc:x.cells=[v0,v1,v2,v3,v4,v5,v6,v7,v8]:=by rfl):Fr C B a D (os.set i (.bx R 72 [p0,p1,p2,p3,p4,p5,p6,p7,p8,v0,v1,v2,v3,v4,v5,v6,v7,v8,r0,r1,r2,r3,r4,r5,r6,r7,r8])) s (((((((((w.setCell ⟨R,9,none⟩ v0).setCell ⟨R,10,none⟩ v1).setCell ⟨R,11,none⟩ v2).setCell ⟨R,12,none⟩ v3).setCell ⟨R,13,none⟩ v4).setCell ⟨R,14,none⟩ v5).setCell ⟨R,15,none⟩ v6).setCell ⟨R,16,none⟩ v7).setCell ⟨R,17,none⟩ v8):=
 .mk (F.out.setAt hi zIa (zON (F.b i hi) (F.out.ds R (F.out.ob i _ hi).2.1).1 (yAA F.out.lt (F.out.ds R (F.out.ob i _ hi).2.1).1) F.P F.out.gr).box)
theorem Fr.put2 (F:Fr C B a D os s w) (i j:Nat) {x:Ob} (hi:os[i]? =some (.bx R 72 [p0,p1,p2,p3,p4,p5,p6,p7,p8,q0,q1,q2,q3,q4,q5,q6,q7,q8,r0,r1,r2,r3,r4,r5,r6,r7,r8]):=by rfl) (_hj:os[j]? =some x:=by rfl) (_hc:x.cells=[v0,v1,v2,v3,v4,v5,v6,v7,v8]:=by rfl):Fr C B a D (os.set i (.bx R 72 [p0,p1,p2,p3,p4,p5,p6,p7,p8,q0,q1,q2,q3,q4,q5,q6,q7,q8,v0,v1,v2,v3,v4,v5,v6,v7,v8])) s (((((((((w.setCell ⟨R,18,none⟩ v0).setCell ⟨R,19,none⟩ v1).setCell ⟨R,20,none⟩ v2).setCell ⟨R,21,none⟩ v3).setCell ⟨R,22,none⟩ v4).setCell ⟨R,23,none⟩ v5).setCell ⟨R,24,none⟩ v6).setCell ⟨R,25,none⟩ v7).setCell ⟨R,26,none⟩ v8):=
 .mk (F.out.setAt hi zIb (zOO (F.b i hi) (F.out.ds R (F.out.ob i _ hi).2.1).1 (yAA F.out.lt (F.out.ds R (F.out.ob i _ hi).2.1).1) F.P F.out.gr).box)
theorem Fr.m1 (F:Fr C B a D os s w) (i:Nat) (h:os[i]? =some (.bx R T [p0,p1,p2,p3,p4,p5,p6,p7,p8,q0,q1,q2,q3,q4,q5,q6,q7,q8,r0,r1,r2,r3,r4,r5,r6,r7,r8]):=by rfl):w.cell? ⟨R,9,none⟩=some q0∧w.cell? ⟨R,10,none⟩=some q1∧w.cell? ⟨R,11,none⟩=some q2∧w.cell? ⟨R,12,none⟩=some q3∧w.cell? ⟨R,13,none⟩=some q4∧w.cell? ⟨R,14,none⟩=some q5∧w.cell? ⟨R,15,none⟩=some q6∧w.cell? ⟨R,16,none⟩=some q7∧w.cell? ⟨R,17,none⟩=some q8:=(F.b i h).mid1
theorem Fr.g1 (F:Fr C B a D os s w) (i:Nat) {cs:List Value} (h:os[i]? =some (.bx R T cs):=by rfl):w.frozen? ⟨R,9,none⟩=false∧w.frozen? ⟨R,10,none⟩=false∧w.frozen? ⟨R,11,none⟩=false∧w.frozen? ⟨R,12,none⟩=false∧w.frozen? ⟨R,13,none⟩=false∧w.frozen? ⟨R,14,none⟩=false∧w.frozen? ⟨R,15,none⟩=false∧w.frozen? ⟨R,16,none⟩=false∧w.frozen? ⟨R,17,none⟩=false:=(F.b i h).midF1
theorem Fr.m2 (F:Fr C B a D os s w) (i:Nat) (h:os[i]? =some (.bx R T [p0,p1,p2,p3,p4,p5,p6,p7,p8,q0,q1,q2,q3,q4,q5,q6,q7,q8,r0,r1,r2,r3,r4,r5,r6,r7,r8]):=by rfl):w.cell? ⟨R,18,none⟩=some r0∧w.cell? ⟨R,19,none⟩=some r1∧w.cell? ⟨R,20,none⟩=some r2∧w.cell? ⟨R,21,none⟩=some r3∧w.cell? ⟨R,22,none⟩=some r4∧w.cell? ⟨R,23,none⟩=some r5∧w.cell? ⟨R,24,none⟩=some r6∧w.cell? ⟨R,25,none⟩=some r7∧w.cell? ⟨R,26,none⟩=some r8:=(F.b i h).mid2
theorem Fr.g2 (F:Fr C B a D os s w) (i:Nat) {cs:List Value} (h:os[i]? =some (.bx R T cs):=by rfl):w.frozen? ⟨R,18,none⟩=false∧w.frozen? ⟨R,19,none⟩=false∧w.frozen? ⟨R,20,none⟩=false∧w.frozen? ⟨R,21,none⟩=false∧w.frozen? ⟨R,22,none⟩=false∧w.frozen? ⟨R,23,none⟩=false∧w.frozen? ⟨R,24,none⟩=false∧w.frozen? ⟨R,25,none⟩=false∧w.frozen? ⟨R,26,none⟩=false:=(F.b i h).midF2
theorem Fr.wide (F:Fr C B a D os s w) (j:Nat) {lo:Nat} {t:Tr} {cs:List Value} (hj:os[j]? =some (.tn lo t cs)):Fr C B a D (os.set j (.tr t cs)) s w:=.mk (F.out.rep hj rfl rfl (TrC.sub (fun _ hb _=>hb.1) _ _ (F.out.ob j _ hj).1))
theorem Fr.pk4 (F:Fr C B a D os s w) (E:List Nat) (l:List Nat) (hE:∀b∈E,b∈D) (hl:l.Nodup) {r0 r1 r2 r3:Nat} (hr:(pkL os l).filterMap Ob.blk=[r0,r1,r2,r3]) (h0:r0∈E) (h1:r1∈E) (h2:r2∈E) (h3:r3∈E):Fr C B a E (pkL os l) s w:=F.pkc E l hE hl fun R h=>by
 rw[hr]at h;rcases List.mem_cons.1 h with rfl | h
 · assumption
 rcases List.mem_cons.1 h with rfl | h
 · assumption
 rcases List.mem_cons.1 h with rfl | h
 · assumption
 · rw[List.mem_singleton.1 h];assumption
theorem Fr.ret3 {Pg:Program} {fn:Func} {A:Act} {p:Tr×Ps} {kk:Int} (F:Fr C B a D os s w) (i j m n:Nat) (hi:os[i]? =some (.bx R 72 [p0,p1,p2,p3,p4,p5,p6,p7,p8,q0,q1,q2,q3,q4,q5,q6,q7,q8,r0,r1,r2,r3,r4,r5,r6,r7,r8])) (h1:os[j]? =some (.tr t1 [p0,p1,p2,p3,p4,p5,p6,p7,p8])) (h2:os[m]? =some (.tr t2 [q0,q1,q2,q3,q4,q5,q6,q7,q8])) (h3:os[n]? =some (.tr t3 [r0,r1,r2,r3,r4,r5,r6,r7,r8]))
 (hr:(results fn A.tmps).run Pg w=.ok (.agg #[.int .i64 kk,.string ⟨#[]⟩,.slice none 0 0,.int .i64 0,.int .i64 0,.bool false,.slice none 0 0,.slice none 0 0,.slice (some ⟨R,0,none⟩) 3 3]) w) (hd:A.defers=[]) (e:p=(trK kk [t1,t2,t3],s)) (hB:∀b,B b→a.heap.size≤b):bodyPost Pg fn (zCP C p a) .ret A w:=by
 subst e;have hD:=(F.out.ob i _ hi).2.1;have hrow:=zOM (P:=(a.heap.size≤·)) (Q:=Off B D) (l:=[t1,t2,t3]) (n:=3) (F.b i hi) (F.ts3 j m n h1 h2 h3) rfl (by decide) (fun b hb _=>hB b hb.1) (fun h=>h.2 hD) (F.out.ds R hD).1;exact bodyPost_ret hr hd ⟨_,_,_,_,_,_,_,_,_,rfl,(show TrC _ _ _ _ from hrow.treeK),F.P,F.out.gr⟩
end
theorem zL6 {C:Pc} {s:Ps} {w:World} (hp:Pre C.L (.tries) s) (K:KP C (zZ C.L (.tries) s)) (h:Pa C s w) (hc:onP C.L [99,97,116,99,104] (zF C.L .block (zB s)).2=true) (hq:onP C.L [40] (zB (zF C.L .block (zB s)).2)=true):zc C s w (.tries):=by
 refine zAg hp h fun HL hlen hsk r W X HR hW hX F0=>?_;have HK:=zA K;have hlt:=zA hp.2;clear K h hp;go_enter func182,ntmps182;go_upto_region 1 with(fail);clear hW hX;obtain⟨xk1,fk1,bk1⟩:=F0.k1;have F1:=F0.step hlt.out;have hpb:=zA (zV HL.out (p:=.block) (s:=zB s) ⟨hlt.out,trivial⟩).adv;go_wp2_with fail;refine F1.kX (HK.out.more (q:=.block) ⟨F1.P.hi,trivial⟩ F1.P (yAF s.k)) fun rq2 HRQ2 w2 d2_0 d2_1 d2_2 d2_3 d2_4 d2_5 d2_6 d2_7 d2_8 F2=>?_;obtain⟨_,_,_,_,_,_,_,_,_⟩:=F2.sto 1;obtain⟨sb,hsb⟩:∃x,rq2.2=x:=⟨_,rfl⟩;have HBQ:=zA (show zF C.L .block (zB s)=(rq2.1,sb) by rw[HRQ2.out,←hsb]);have F3:=F2;rw[hsb]at F3;have HAb:=zA (show Adv C.L (zB s) sb by have:=hpb.out;rw[HBQ.out]at this;exact this);have hk1:s.k < sb.k:=by have:=HAb.out.le;have:(zB s).k=s.k+1:=rfl;omega
 have HC:=zA (show onP C.L [99,97,116,99,104] sb=true by rw[HBQ.out]at hc;exact hc);clear hc hsb;have HQ:=zA (show onP C.L [40] (zB sb)=true by rw[HBQ.out]at hq;exact hq);clear hq;go_wp2_with fail;refine F3.made0 _ fun w4 F4=>?_;go_wp2_with fail;refine F4.made0 _ fun w5 F5=>?_;have F6:=F5.box3 1 2 3;go_wp2_with fail;refine F6.kQ (zAS _ _ _ _) fun w7 F7=>?_;have F8:=F7.box [.int .i64 16,.string ⟨#[]⟩,.slice none 0 0,.int .i64 0,.int .i64 0,.bool false,.slice none 0 0,.slice none 0 0,.slice (some ⟨w5.heap.size,0,none⟩) 3 3] 72 rfl (by decide) (by decide);go_wp2_with fail;refine F8.kB (zAL F8.P [99,97,116,99,104] HC.out) fun w9 F9=>?_;have hlc:=zA (HL.out.on F9.P.hi HC.out);have hst:(zB sb).k=sb.k+1:=rfl;go_wp2_with fail;refine F9.kM (zAw F9.P [99,97,116,99,104] HC.out) fun w10 F10=>?_;go_wp2_with fail;refine F10.made0 _ fun w11 F11=>?_;have F12:=F11.bt 6 72 rfl;have hlq:=zA (HL.out.on (s:=zB sb) hlc.out HQ.out);go_wp2_with fail;refine F12.kM (zAw F12.P [40] HQ.out) fun w13 F13=>?_;have hen:=zA (zAY HL.out (s:=zB (zB (sb))) hlq.out).adv;have hed:=zA (zU (w:=[41]) HL.out hen.out.hi).adv;have hk2:s.k < (zN C.L [41] ((zd C.L (zB (zB (sb)))).2)).k:=by have h1:=hen.out.le;have h2:=hed.out.le;have:(zB (zB (sb))).k=sb.k+1+1:=rfl;omega
 go_wp2_with fail;refine F13.kS (zCa F13.P) fun w14 F14=>?_;obtain⟨_,_,_,_,_,_,_,_,_⟩:=F14.c 7;obtain⟨_,_,_,_,_,_,_,_,_⟩:=F14.f 7;have F15:=F14.set 7 1 (.string ⟨((zd C.L (zB (zB (sb)))).1).toArray⟩);go_wp2_with fail;refine F15.kN (zr F15.P [41]) fun w16 F16=>?_;have F17:=F16.nil;have CLq:=zA (fun Q=>F17.dr.kRX 8 rfl (Q:=Q) (HK.out.more (q:=.block) ⟨F17.dr.P.hi,trivial⟩ F17.dr.P hk2));obtain⟨_,_,_,_,_,_,_,_,_⟩:=F17.c 7;go_upto_region 10 with(fail)
 go_cut [39] (fun _ wx=>∃(rq:Tr×Ps) (Ac:Option Addr) (cpc lo:Nat),Hid (zF C.L .block (zN C.L [41] ((zd C.L (zB (zB (sb)))).2))=rq)∧Fr C (w.heap.size≤·) w [(w11.heap.size),(w7.heap.size),(w5.heap.size),X] [.bx X 72 [.int .i64 0,.string ⟨#[]⟩,.slice none 0 0,.int .i64 0,.int .i64 0,.bool false,.slice none 0 0,.slice none 0 0,.slice none 0 0],.bx (w5.heap.size) 72 [d2_0,d2_1,d2_2,d2_3,d2_4,d2_5,d2_6,d2_7,d2_8,.int .i64 11,.string ⟨#[]⟩,.slice none 0 0,.int .i64 0,.int .i64 0,.bool false,.slice none 0 0,.slice none 0 0,.slice none 0 0,.int .i64 11,.string ⟨#[]⟩,.slice none 0 0,.int .i64 0,.int .i64 0,.bool false,.slice none 0 0,.slice none 0 0,.slice none 0 0],.bx (w7.heap.size) 72 [.int .i64 16,.string ⟨#[]⟩,.slice none 0 0,.int .i64 0,.int .i64 0,.bool false,.slice none 0 0,.slice none 0 0,.slice (some ⟨w5.heap.size,0,none⟩) 3 3],.bx (w11.heap.size) 72 [.int .i64 17,.string ⟨((zd C.L (zB (zB (sb)))).1).toArray⟩,.slice none 0 0,.int .i64 0,.int .i64 0,.bool false,.slice none 0 0,.slice none 0 0,.slice Ac 1 cpc],.tr (rq2.1) [d2_0,d2_1,d2_2,d2_3,d2_4,d2_5,d2_6,d2_7,d2_8],.tr (trK 11 []) [.int .i64 11,.string ⟨#[]⟩,.slice none 0 0,.int .i64 0,.int .i64 0,.bool false,.slice none 0 0,.slice none 0 0,.slice none 0 0],.tn lo (trN 17 ((zd C.L (zB (zB (sb)))).1) [rq.1]) [.int .i64 17,.string ⟨((zd C.L (zB (zB (sb)))).1).toArray⟩,.slice none 0 0,.int .i64 0,.int .i64 0,.bool false,.slice none 0 0,.slice none 0 0,.slice Ac 1 cpc]] rq.2 wx)
 case first=>
  go_region_law (first | (go_simp;go_at_call 145;(with_reducible refine CLq.out _ fun rq HRQ wa d0 d1 d2 d3 d4 d5 d6 d7 d8 Fa=>?_);obtain⟨_,_,_,_,_,_,_,_,_⟩:=Fa.c 7;obtain⟨_,_,_,_,_,_,_,_,_⟩:=(Fa.al (.cells #[d0,d1,d2,d3,d4,d5,d6,d7,d8] 72)).c 7) | (refine Fa.snoc0 9 17 ((zd C.L (zB (zB (sb)))).1) rfl rfl _ _ rfl rfl rfl fun A3 cp3 wb Fb=>?_;obtain⟨_,_,_,_,_,_,_,_,_⟩:=Fb.c 7;obtain⟨_,_,_,_,_,_,_,_,_⟩:=Fb.f 7))
  all_goals
   have Fc:=Fb.set 7 8 (.slice A3 1 cp3);go_wp2_with fail;go_meet;exact⟨rq,A3,cp3,_,HRQ,Fc.pk4 [(w11.heap.size),(w7.heap.size),(w5.heap.size),X] [0,4,5,7,1,3,10] (by simp) (by decide) rfl (by simp) (by simp) (by simp) (by simp)⟩
 case rest=>
  obtain⟨rq,Ac,cpc,lo,HRQ,Fh0⟩:=hcut;obtain⟨wh,rfl⟩:∃x,x=wc:=⟨_,rfl⟩;have Fh:=Fh0.wide 6 rfl;have HAD:=zA (show Adv C.L (zN C.L [41] ((zd C.L (zB (zB (sb)))).2)) rq.2 by have:=(zV HL.out (p:=.block) (s:=zN C.L [41] ((zd C.L (zB (zB (sb)))).2)) ⟨F17.P.hi,trivial⟩).adv;rw[HRQ.out]at this;exact this);have hka:s.k < rq.2.k:=by have:=HAD.out.le;omega
  obtain⟨_,_,_,_,_,_,_,_,_⟩:=Fh.c 3;obtain⟨_,_,_,_,_,_,_,_,_⟩:=Fh.c 2;obtain⟨_,_,_,_,_,_,_,_,_⟩:=Fh.m1 1;obtain⟨_,_,_,_,_,_,_,_,_⟩:=Fh.g1 1;go_upto_region 12 with(fail);refine zCs (Fh.put1 1 6) fun wi Fi=>?_;obtain⟨bf,hbf⟩:∃x,onP C.L [102,105,110,97,108,108,121] rq.2=x:=⟨_,rfl⟩;have HF:=zA hbf;clear hbf;cases bf with
  | false=>
   go_wp2_with fail;refine Fi.kM (zA1 Fi.P [102,105,110,97,108,108,121] HF.out) fun w18 F18=>?_;obtain⟨_,_,_,_,_,_,_,_,_⟩:=F18.c 2;obtain⟨_,_,_,_,_,_,_,_,_⟩:=F18.c 0;obtain⟨_,_,_,_,_,_,_,_,_⟩:=F18.f 0;go_wp2_with fail;refine zM (F18.put 0 2) fun V19 F19=>?_;have q:=F19.c 0;exact F19.ret3 (kk:=16) 1 4 6 5 rfl rfl rfl rfl (by simp[results,results182,go_sem,q]) rfl (HR.out.symm.trans (by
    unfold zE;dsimp only;simp[HBQ.out,HC.out,HQ.out,HRQ.out,HF.out])) (fun _ h=>h)
  | true=>
   have hlf:=zA (HL.out.on Fi.P.hi HF.out);have hsu:(zB rq.2).k=rq.2.k+1:=rfl;go_wp2_with fail;refine Fi.kM (zAw Fi.P [102,105,110,97,108,108,121] HF.out) fun w20 F20=>?_;have CLF:=zA (fun Q=>F20.dr.kX (Q:=Q) (HK.out.more (q:=.block) ⟨F20.dr.P.hi,trivial⟩ F20.dr.P (by omega)));obtain⟨_,_,_,_,_,_,_,_,_⟩:=F20.c 2;obtain⟨_,_,_,_,_,_,_,_,_⟩:=F20.m2 1;obtain⟨_,_,_,_,_,_,_,_,_⟩:=F20.g2 1;go_upto_region 13 with(fail)
   go_cut [52] (fun _ wx=>∃(rf:Tr×Ps) (d0 d1 d2 d3 d4 d5 d6 d7 d8:Value),Hid (zF C.L .block (zB (rq.2))=rf)∧Fr C (w.heap.size≤·) w [(w7.heap.size),(w5.heap.size),X] [.bx X 72 [.int .i64 0,.string ⟨#[]⟩,.slice none 0 0,.int .i64 0,.int .i64 0,.bool false,.slice none 0 0,.slice none 0 0,.slice none 0 0],.bx (w5.heap.size) 72 [d2_0,d2_1,d2_2,d2_3,d2_4,d2_5,d2_6,d2_7,d2_8,.int .i64 17,.string ⟨((zd C.L (zB (zB (sb)))).1).toArray⟩,.slice none 0 0,.int .i64 0,.int .i64 0,.bool false,.slice none 0 0,.slice none 0 0,.slice Ac 1 cpc,d0,d1,d2,d3,d4,d5,d6,d7,d8],.bx (w7.heap.size) 72 [.int .i64 16,.string ⟨#[]⟩,.slice none 0 0,.int .i64 0,.int .i64 0,.bool false,.slice none 0 0,.slice none 0 0,.slice (some ⟨w5.heap.size,0,none⟩) 3 3],.tr (rq2.1) [d2_0,d2_1,d2_2,d2_3,d2_4,d2_5,d2_6,d2_7,d2_8],.tr (trN 17 ((zd C.L (zB (zB (sb)))).1) [rq.1]) [.int .i64 17,.string ⟨((zd C.L (zB (zB (sb)))).1).toArray⟩,.slice none 0 0,.int .i64 0,.int .i64 0,.bool false,.slice none 0 0,.slice none 0 0,.slice Ac 1 cpc],.tr rf.1 [d0,d1,d2,d3,d4,d5,d6,d7,d8]] rf.2 wx)
   case first=>
    go_region_law (go_simp;go_at_call 145;(with_reducible refine CLF.out _ fun rf HRF w2 d0 d1 d2 d3 d4 d5 d6 d7 d8 F2=>?_);obtain⟨_,_,_,_,_,_,_,_,_⟩:=F2.c 2;obtain⟨_,_,_,_,_,_,_,_,_⟩:=F2.m2 1;obtain⟨_,_,_,_,_,_,_,_,_⟩:=F2.g2 1;obtain⟨_,_,_,_,_,_,_,_,_⟩:=F2.sto 7)
    all_goals
     go_wp2_with fail;go_meet;exact⟨rf,d0,d1,d2,d3,d4,d5,d6,d7,d8,HRF,(F2.put2 1 7).pk3 [(w7.heap.size),(w5.heap.size),X] [0,1,2,4,6,7] (by simp) (by decide) rfl (by simp) (by simp) (by simp)⟩
   case rest=>
    obtain⟨rf,d0,d1,d2,d3,d4,d5,d6,d7,d8,HRF,Fz⟩:=hcut;obtain⟨wz,rfl⟩:∃x,x=wc:=⟨_,rfl⟩;obtain⟨_,_,_,_,_,_,_,_,_⟩:=Fz.c 2;obtain⟨_,_,_,_,_,_,_,_,_⟩:=Fz.c 0;obtain⟨_,_,_,_,_,_,_,_,_⟩:=Fz.f 0;go_wp2_with fail;refine zM (Fz.put 0 2) fun V21 F21=>?_;have q:=F21.c 0;exact F21.ret3 (kk:=16) 1 3 4 5 rfl rfl rfl rfl (by simp[results,results182,go_sem,q]) rfl (HR.out.symm.trans (by
     unfold zE;dsimp only;simp[HBQ.out,HC.out,HQ.out,HRQ.out,HF.out,HRF.out])) (fun _ h=>h)
theorem zOP {C:Pc} {s:Ps} {w:World} (hp:Pre C.L (.tries) s) (K:KP C (zZ C.L (.tries) s)) (h:Pa C s w) (hc:onP C.L [99,97,116,99,104] (zF C.L .block (zB s)).2=true) (hq:onP C.L [40] (zB (zF C.L .block (zB s)).2)=false):zc C s w (.tries):=by
 refine zAg hp h fun HL hlen hsk r W X HR hW hX F0=>?_;have HK:=zA K;have hlt:=zA hp.2;clear K h hp;go_enter func182,ntmps182;go_upto_region 1 with(fail);clear hW hX;obtain⟨xk1,fk1,bk1⟩:=F0.k1;have F1:=F0.step hlt.out;have hpb:=zA (zV HL.out (p:=.block) (s:=zB s) ⟨hlt.out,trivial⟩).adv;go_wp2_with fail;refine F1.kX (HK.out.more (q:=.block) ⟨F1.P.hi,trivial⟩ F1.P (yAF s.k)) fun rq2 HRQ2 w2 d2_0 d2_1 d2_2 d2_3 d2_4 d2_5 d2_6 d2_7 d2_8 F2=>?_;obtain⟨_,_,_,_,_,_,_,_,_⟩:=F2.sto 1;obtain⟨sb,hsb⟩:∃x,rq2.2=x:=⟨_,rfl⟩;have HBQ:=zA (show zF C.L .block (zB s)=(rq2.1,sb) by rw[HRQ2.out,←hsb]);have F3:=F2;rw[hsb]at F3;have HAb:=zA (show Adv C.L (zB s) sb by have:=hpb.out;rw[HBQ.out]at this;exact this);have hk1:s.k < sb.k:=by have:=HAb.out.le;have:(zB s).k=s.k+1:=rfl;omega
 have HC:=zA (show onP C.L [99,97,116,99,104] sb=true by rw[HBQ.out]at hc;exact hc);clear hc hsb;have HQ:=zA (show onP C.L [40] (zB sb)=false by rw[HBQ.out]at hq;exact hq);clear hq;go_wp2_with fail;refine F3.made0 _ fun w4 F4=>?_;go_wp2_with fail;refine F4.made0 _ fun w5 F5=>?_;have F6:=F5.box3 1 2 3;go_wp2_with fail;refine F6.kQ (zAS _ _ _ _) fun w7 F7=>?_;have F8:=F7.box [.int .i64 16,.string ⟨#[]⟩,.slice none 0 0,.int .i64 0,.int .i64 0,.bool false,.slice none 0 0,.slice none 0 0,.slice (some ⟨w5.heap.size,0,none⟩) 3 3] 72 rfl (by decide) (by decide);go_wp2_with fail;refine F8.kB (zAL F8.P [99,97,116,99,104] HC.out) fun w9 F9=>?_;have hlc:=zA (HL.out.on F9.P.hi HC.out);have hst:(zB sb).k=sb.k+1:=rfl;go_wp2_with fail;refine F9.kM (zAw F9.P [99,97,116,99,104] HC.out) fun w10 F10=>?_;go_wp2_with fail;refine F10.made0 _ fun w11 F11=>?_;have F12:=F11.bt 6 72 rfl;go_wp2_with fail;refine F12.kM (zA1 F12.P [40] HQ.out) fun w13 F13=>?_;have hk2:s.k < (zB (sb)).k:=by omega
 have F14:=F13.nil;have CLq:=zA (fun Q=>F14.dr.kRX 8 rfl (Q:=Q) (HK.out.more (q:=.block) ⟨F14.dr.P.hi,trivial⟩ F14.dr.P hk2));obtain⟨_,_,_,_,_,_,_,_,_⟩:=F14.c 7;go_upto_region 10 with(fail)
 go_cut [39] (fun _ wx=>∃(rq:Tr×Ps) (Ac:Option Addr) (cpc lo:Nat),Hid (zF C.L .block (zB (sb))=rq)∧Fr C (w.heap.size≤·) w [(w11.heap.size),(w7.heap.size),(w5.heap.size),X] [.bx X 72 [.int .i64 0,.string ⟨#[]⟩,.slice none 0 0,.int .i64 0,.int .i64 0,.bool false,.slice none 0 0,.slice none 0 0,.slice none 0 0],.bx (w5.heap.size) 72 [d2_0,d2_1,d2_2,d2_3,d2_4,d2_5,d2_6,d2_7,d2_8,.int .i64 11,.string ⟨#[]⟩,.slice none 0 0,.int .i64 0,.int .i64 0,.bool false,.slice none 0 0,.slice none 0 0,.slice none 0 0,.int .i64 11,.string ⟨#[]⟩,.slice none 0 0,.int .i64 0,.int .i64 0,.bool false,.slice none 0 0,.slice none 0 0,.slice none 0 0],.bx (w7.heap.size) 72 [.int .i64 16,.string ⟨#[]⟩,.slice none 0 0,.int .i64 0,.int .i64 0,.bool false,.slice none 0 0,.slice none 0 0,.slice (some ⟨w5.heap.size,0,none⟩) 3 3],.bx (w11.heap.size) 72 [.int .i64 17,.string ⟨([]).toArray⟩,.slice none 0 0,.int .i64 0,.int .i64 0,.bool false,.slice none 0 0,.slice none 0 0,.slice Ac 1 cpc],.tr (rq2.1) [d2_0,d2_1,d2_2,d2_3,d2_4,d2_5,d2_6,d2_7,d2_8],.tr (trK 11 []) [.int .i64 11,.string ⟨#[]⟩,.slice none 0 0,.int .i64 0,.int .i64 0,.bool false,.slice none 0 0,.slice none 0 0,.slice none 0 0],.tn lo (trN 17 ([]) [rq.1]) [.int .i64 17,.string ⟨([]).toArray⟩,.slice none 0 0,.int .i64 0,.int .i64 0,.bool false,.slice none 0 0,.slice none 0 0,.slice Ac 1 cpc]] rq.2 wx)
 case first=>
  go_region_law (first | (go_simp;go_at_call 145;(with_reducible refine CLq.out _ fun rq HRQ wa d0 d1 d2 d3 d4 d5 d6 d7 d8 Fa=>?_);obtain⟨_,_,_,_,_,_,_,_,_⟩:=Fa.c 7;obtain⟨_,_,_,_,_,_,_,_,_⟩:=(Fa.al (.cells #[d0,d1,d2,d3,d4,d5,d6,d7,d8] 72)).c 7) | (refine Fa.snoc0 9 17 ([]) rfl rfl _ _ rfl rfl rfl fun A3 cp3 wb Fb=>?_;obtain⟨_,_,_,_,_,_,_,_,_⟩:=Fb.c 7;obtain⟨_,_,_,_,_,_,_,_,_⟩:=Fb.f 7))
  all_goals
   have Fc:=Fb.set 7 8 (.slice A3 1 cp3);go_wp2_with fail;go_meet;exact⟨rq,A3,cp3,_,HRQ,Fc.pk4 [(w11.heap.size),(w7.heap.size),(w5.heap.size),X] [0,4,5,7,1,3,10] (by simp) (by decide) rfl (by simp) (by simp) (by simp) (by simp)⟩
 case rest=>
  obtain⟨rq,Ac,cpc,lo,HRQ,Fh0⟩:=hcut;obtain⟨wh,rfl⟩:∃x,x=wc:=⟨_,rfl⟩;have Fh:=Fh0.wide 6 rfl;have HAD:=zA (show Adv C.L (zB (sb)) rq.2 by have:=(zV HL.out (p:=.block) (s:=zB (sb)) ⟨F14.P.hi,trivial⟩).adv;rw[HRQ.out]at this;exact this);have hka:s.k < rq.2.k:=by have:=HAD.out.le;omega
  obtain⟨_,_,_,_,_,_,_,_,_⟩:=Fh.c 3;obtain⟨_,_,_,_,_,_,_,_,_⟩:=Fh.c 2;obtain⟨_,_,_,_,_,_,_,_,_⟩:=Fh.m1 1;obtain⟨_,_,_,_,_,_,_,_,_⟩:=Fh.g1 1;go_upto_region 12 with(fail);refine zCs (Fh.put1 1 6) fun wi Fi=>?_;obtain⟨bf,hbf⟩:∃x,onP C.L [102,105,110,97,108,108,121] rq.2=x:=⟨_,rfl⟩;have HF:=zA hbf;clear hbf;cases bf with
  | false=>
   go_wp2_with fail;refine Fi.kM (zA1 Fi.P [102,105,110,97,108,108,121] HF.out) fun w15 F15=>?_;obtain⟨_,_,_,_,_,_,_,_,_⟩:=F15.c 2;obtain⟨_,_,_,_,_,_,_,_,_⟩:=F15.c 0;obtain⟨_,_,_,_,_,_,_,_,_⟩:=F15.f 0;go_wp2_with fail;refine zM (F15.put 0 2) fun V16 F16=>?_;have q:=F16.c 0;exact F16.ret3 (kk:=16) 1 4 6 5 rfl rfl rfl rfl (by simp[results,results182,go_sem,q]) rfl (HR.out.symm.trans (by
    unfold zE;dsimp only;simp[HBQ.out,HC.out,HQ.out,HRQ.out,HF.out])) (fun _ h=>h)
  | true=>
   have hlf:=zA (HL.out.on Fi.P.hi HF.out);have hsu:(zB rq.2).k=rq.2.k+1:=rfl;go_wp2_with fail;refine Fi.kM (zAw Fi.P [102,105,110,97,108,108,121] HF.out) fun w17 F17=>?_;have CLF:=zA (fun Q=>F17.dr.kX (Q:=Q) (HK.out.more (q:=.block) ⟨F17.dr.P.hi,trivial⟩ F17.dr.P (by omega)));obtain⟨_,_,_,_,_,_,_,_,_⟩:=F17.c 2;obtain⟨_,_,_,_,_,_,_,_,_⟩:=F17.m2 1;obtain⟨_,_,_,_,_,_,_,_,_⟩:=F17.g2 1;go_upto_region 13 with(fail)
   go_cut [52] (fun _ wx=>∃(rf:Tr×Ps) (d0 d1 d2 d3 d4 d5 d6 d7 d8:Value),Hid (zF C.L .block (zB (rq.2))=rf)∧Fr C (w.heap.size≤·) w [(w7.heap.size),(w5.heap.size),X] [.bx X 72 [.int .i64 0,.string ⟨#[]⟩,.slice none 0 0,.int .i64 0,.int .i64 0,.bool false,.slice none 0 0,.slice none 0 0,.slice none 0 0],.bx (w5.heap.size) 72 [d2_0,d2_1,d2_2,d2_3,d2_4,d2_5,d2_6,d2_7,d2_8,.int .i64 17,.string ⟨([]).toArray⟩,.slice none 0 0,.int .i64 0,.int .i64 0,.bool false,.slice none 0 0,.slice none 0 0,.slice Ac 1 cpc,d0,d1,d2,d3,d4,d5,d6,d7,d8],.bx (w7.heap.size) 72 [.int .i64 16,.string ⟨#[]⟩,.slice none 0 0,.int .i64 0,.int .i64 0,.bool false,.slice none 0 0,.slice none 0 0,.slice (some ⟨w5.heap.size,0,none⟩) 3 3],.tr (rq2.1) [d2_0,d2_1,d2_2,d2_3,d2_4,d2_5,d2_6,d2_7,d2_8],.tr (trN 17 ([]) [rq.1]) [.int .i64 17,.string ⟨([]).toArray⟩,.slice none 0 0,.int .i64 0,.int .i64 0,.bool false,.slice none 0 0,.slice none 0 0,.slice Ac 1 cpc],.tr rf.1 [d0,d1,d2,d3,d4,d5,d6,d7,d8]] rf.2 wx)
   case first=>
    go_region_law (go_simp;go_at_call 145;(with_reducible refine CLF.out _ fun rf HRF w2 d0 d1 d2 d3 d4 d5 d6 d7 d8 F2=>?_);obtain⟨_,_,_,_,_,_,_,_,_⟩:=F2.c 2;obtain⟨_,_,_,_,_,_,_,_,_⟩:=F2.m2 1;obtain⟨_,_,_,_,_,_,_,_,_⟩:=F2.g2 1;obtain⟨_,_,_,_,_,_,_,_,_⟩:=F2.sto 7)
    all_goals
     go_wp2_with fail;go_meet;exact⟨rf,d0,d1,d2,d3,d4,d5,d6,d7,d8,HRF,(F2.put2 1 7).pk3 [(w7.heap.size),(w5.heap.size),X] [0,1,2,4,6,7] (by simp) (by decide) rfl (by simp) (by simp) (by simp)⟩
   case rest=>
    obtain⟨rf,d0,d1,d2,d3,d4,d5,d6,d7,d8,HRF,Fz⟩:=hcut;obtain⟨wz,rfl⟩:∃x,x=wc:=⟨_,rfl⟩;obtain⟨_,_,_,_,_,_,_,_,_⟩:=Fz.c 2;obtain⟨_,_,_,_,_,_,_,_,_⟩:=Fz.c 0;obtain⟨_,_,_,_,_,_,_,_,_⟩:=Fz.f 0;go_wp2_with fail;refine zM (Fz.put 0 2) fun V18 F18=>?_;have q:=F18.c 0;exact F18.ret3 (kk:=16) 1 3 4 5 rfl rfl rfl rfl (by simp[results,results182,go_sem,q]) rfl (HR.out.symm.trans (by
     unfold zE;dsimp only;simp[HBQ.out,HC.out,HQ.out,HRQ.out,HF.out,HRF.out])) (fun _ h=>h)
theorem zQR {C:Pc} {s:Ps} {w:World} (hp:Pre C.L (.tries) s) (K:KP C (zZ C.L (.tries) s)) (h:Pa C s w) (hc:onP C.L [99,97,116,99,104] (zF C.L .block (zB s)).2=false) (hf:onP C.L [102,105,110,97,108,108,121] (zF C.L .block (zB s)).2=true):zc C s w (.tries):=by
 refine zAg hp h fun HL hlen hsk r W X HR hW hX F0=>?_;have HK:=zA K;have hlt:=zA hp.2;clear K h hp;go_enter func182,ntmps182;go_upto_region 1 with(fail);clear hW hX;obtain⟨xk1,fk1,bk1⟩:=F0.k1;have F1:=F0.step hlt.out;have hpb:=zA (zV HL.out (p:=.block) (s:=zB s) ⟨hlt.out,trivial⟩).adv;go_wp2_with fail;refine F1.kX (HK.out.more (q:=.block) ⟨F1.P.hi,trivial⟩ F1.P (yAF s.k)) fun rq2 HRQ2 w2 d2_0 d2_1 d2_2 d2_3 d2_4 d2_5 d2_6 d2_7 d2_8 F2=>?_;obtain⟨_,_,_,_,_,_,_,_,_⟩:=F2.sto 1;obtain⟨sb,hsb⟩:∃x,rq2.2=x:=⟨_,rfl⟩;have HBQ:=zA (show zF C.L .block (zB s)=(rq2.1,sb) by rw[HRQ2.out,←hsb]);have F3:=F2;rw[hsb]at F3;have HAb:=zA (show Adv C.L (zB s) sb by have:=hpb.out;rw[HBQ.out]at this;exact this);have hk1:s.k < sb.k:=by have:=HAb.out.le;have:(zB s).k=s.k+1:=rfl;omega
 have HC:=zA (show onP C.L [99,97,116,99,104] sb=false by rw[HBQ.out]at hc;exact hc);clear hc hsb;have HF:=zA (show onP C.L [102,105,110,97,108,108,121] sb=true by rw[HBQ.out]at hf;exact hf);clear hf;go_wp2_with fail;refine F3.made0 _ fun w4 F4=>?_;go_wp2_with fail;refine F4.made0 _ fun w5 F5=>?_;have F6:=F5.box3 1 2 3;go_wp2_with fail;refine F6.kQ (zAS _ _ _ _) fun w7 F7=>?_;have F8:=F7.box [.int .i64 16,.string ⟨#[]⟩,.slice none 0 0,.int .i64 0,.int .i64 0,.bool false,.slice none 0 0,.slice none 0 0,.slice (some ⟨w5.heap.size,0,none⟩) 3 3] 72 rfl (by decide) (by decide);go_wp2_with fail;refine F8.kB (zAL F8.P [99,97,116,99,104] HC.out) fun w9 F9=>?_;go_wp2_with fail;refine F9.kB (zAL F9.P [102,105,110,97,108,108,121] HF.out) fun w10 F10=>?_;go_wp2_with fail;refine F10.kM (zA1 F10.P [99,97,116,99,104] HC.out) fun w11 F11=>?_;have hlf:=zA (HL.out.on F11.P.hi HF.out);go_wp2_with fail;refine F11.kM (zAw F11.P [102,105,110,97,108,108,121] HF.out) fun w12 F12=>?_;have hst:(zB sb).k=sb.k+1:=rfl;have CLF:=zA (fun Q=>F12.dr.kX (Q:=Q) (HK.out.more (q:=.block) ⟨F12.dr.P.hi,trivial⟩ F12.dr.P (by omega)));obtain⟨_,_,_,_,_,_,_,_,_⟩:=F12.c 5;obtain⟨_,_,_,_,_,_,_,_,_⟩:=F12.m2 4;obtain⟨_,_,_,_,_,_,_,_,_⟩:=F12.g2 4;go_upto_region 13 with(fail)
 go_cut [52] (fun _ wx=>∃(rf:Tr×Ps) (d0 d1 d2 d3 d4 d5 d6 d7 d8:Value),Hid (zF C.L .block (zB (sb))=rf)∧Fr C (w.heap.size≤·) w [(w7.heap.size),(w5.heap.size),X] [.bx X 72 [.int .i64 0,.string ⟨#[]⟩,.slice none 0 0,.int .i64 0,.int .i64 0,.bool false,.slice none 0 0,.slice none 0 0,.slice none 0 0],.bx (w5.heap.size) 72 [d2_0,d2_1,d2_2,d2_3,d2_4,d2_5,d2_6,d2_7,d2_8,.int .i64 11,.string ⟨#[]⟩,.slice none 0 0,.int .i64 0,.int .i64 0,.bool false,.slice none 0 0,.slice none 0 0,.slice none 0 0,d0,d1,d2,d3,d4,d5,d6,d7,d8],.bx (w7.heap.size) 72 [.int .i64 16,.string ⟨#[]⟩,.slice none 0 0,.int .i64 0,.int .i64 0,.bool false,.slice none 0 0,.slice none 0 0,.slice (some ⟨w5.heap.size,0,none⟩) 3 3],.tr (rq2.1) [d2_0,d2_1,d2_2,d2_3,d2_4,d2_5,d2_6,d2_7,d2_8],.tr (trK 11 []) [.int .i64 11,.string ⟨#[]⟩,.slice none 0 0,.int .i64 0,.int .i64 0,.bool false,.slice none 0 0,.slice none 0 0,.slice none 0 0],.tr rf.1 [d0,d1,d2,d3,d4,d5,d6,d7,d8]] rf.2 wx)
 case first=>
  go_region_law (go_simp;go_at_call 145;(with_reducible refine CLF.out _ fun rf HRF w2 d0 d1 d2 d3 d4 d5 d6 d7 d8 F2=>?_);obtain⟨_,_,_,_,_,_,_,_,_⟩:=F2.c 5;obtain⟨_,_,_,_,_,_,_,_,_⟩:=F2.m2 4;obtain⟨_,_,_,_,_,_,_,_,_⟩:=F2.g2 4;obtain⟨_,_,_,_,_,_,_,_,_⟩:=F2.sto 6)
  all_goals
   go_wp2_with fail;go_meet;exact⟨rf,d0,d1,d2,d3,d4,d5,d6,d7,d8,HRF,(F2.put2 4 6).pk3 [(w7.heap.size),(w5.heap.size),X] [0,4,5,1,2,6] (by simp) (by decide) rfl (by simp) (by simp) (by simp)⟩
 case rest=>
  obtain⟨rf,d0,d1,d2,d3,d4,d5,d6,d7,d8,HRF,Fz⟩:=hcut;obtain⟨wz,rfl⟩:∃x,x=wc:=⟨_,rfl⟩;obtain⟨_,_,_,_,_,_,_,_,_⟩:=Fz.c 2;obtain⟨_,_,_,_,_,_,_,_,_⟩:=Fz.c 0;obtain⟨_,_,_,_,_,_,_,_,_⟩:=Fz.f 0;go_wp2_with fail;refine zM (Fz.put 0 2) fun V13 F13=>?_;have q:=F13.c 0;exact F13.ret3 (kk:=16) 1 3 4 5 rfl rfl rfl rfl (by simp[results,results182,go_sem,q]) rfl (HR.out.symm.trans (by
   unfold zE;dsimp only;simp[HBQ.out,HC.out,HF.out,HRF.out])) (fun _ h=>h)
theorem zOQ {C:Pc} {s:Ps} {w:World} (hp:Pre C.L (.tries) s) (K:KP C (zZ C.L (.tries) s)) (h:Pa C s w) (hc:onP C.L [99,97,116,99,104] (zF C.L .block (zB s)).2=false) (hf:onP C.L [102,105,110,97,108,108,121] (zF C.L .block (zB s)).2=false):zc C s w (.tries):=by
 refine zAg hp h fun HL hlen hsk r W X HR hW hX F0=>?_;have HK:=zA K;have hlt:=zA hp.2;clear K h hp;go_enter func182,ntmps182;go_upto_region 1 with(fail);clear hW hX;obtain⟨xk1,fk1,bk1⟩:=F0.k1;have F1:=F0.step hlt.out;have hpb:=zA (zV HL.out (p:=.block) (s:=zB s) ⟨hlt.out,trivial⟩).adv;go_wp2_with fail;refine F1.kX (HK.out.more (q:=.block) ⟨F1.P.hi,trivial⟩ F1.P (yAF s.k)) fun rq2 HRQ2 w2 d2_0 d2_1 d2_2 d2_3 d2_4 d2_5 d2_6 d2_7 d2_8 F2=>?_;obtain⟨_,_,_,_,_,_,_,_,_⟩:=F2.sto 1;obtain⟨sb,hsb⟩:∃x,rq2.2=x:=⟨_,rfl⟩;have HBQ:=zA (show zF C.L .block (zB s)=(rq2.1,sb) by rw[HRQ2.out,←hsb]);have F3:=F2;rw[hsb]at F3;have HAb:=zA (show Adv C.L (zB s) sb by have:=hpb.out;rw[HBQ.out]at this;exact this);have hk1:s.k < sb.k:=by have:=HAb.out.le;have:(zB s).k=s.k+1:=rfl;omega
 have HC:=zA (show onP C.L [99,97,116,99,104] sb=false by rw[HBQ.out]at hc;exact hc);clear hc hsb;have HF:=zA (show onP C.L [102,105,110,97,108,108,121] sb=false by rw[HBQ.out]at hf;exact hf);clear hf;go_wp2_with fail;refine F3.made0 _ fun w4 F4=>?_;go_wp2_with fail;refine F4.made0 _ fun w5 F5=>?_;have F6:=F5.box3 1 2 3;go_wp2_with fail;refine F6.kQ (zAS _ _ _ _) fun w7 F7=>?_;have F8:=F7.box [.int .i64 16,.string ⟨#[]⟩,.slice none 0 0,.int .i64 0,.int .i64 0,.bool false,.slice none 0 0,.slice none 0 0,.slice (some ⟨w5.heap.size,0,none⟩) 3 3] 72 rfl (by decide) (by decide);go_wp2_with fail;refine F8.kB (zAL F8.P [99,97,116,99,104] HC.out) fun w9 F9=>?_;go_wp2_with fail;refine F9.kB (zAL F9.P [102,105,110,97,108,108,121] HF.out) fun w10 F10=>?_;go_wp2_with fail;refine F10.kN (zu F10.P) fun w11 F11=>?_;have HE:=zA (show(zL C.L (zY C.L (sb)).k).kind=0 from HL.out.last);have HC2:=zA (show onP C.L [99,97,116,99,104] (zY C.L (sb))=false from zIZ HE.out _);have HF2:=zA (show onP C.L [102,105,110,97,108,108,121] (zY C.L (sb))=false from zIZ HE.out _);go_wp2_with fail;refine F11.kM (zA1 F11.P [99,97,116,99,104] HC2.out) fun w12 F12=>?_;go_wp2_with fail;refine F12.kM (zA1 F12.P [102,105,110,97,108,108,121] HF2.out) fun w13 F13=>?_;obtain⟨_,_,_,_,_,_,_,_,_⟩:=F13.c 5;obtain⟨_,_,_,_,_,_,_,_,_⟩:=F13.c 0;obtain⟨_,_,_,_,_,_,_,_,_⟩:=F13.f 0;go_wp2_with fail;refine zM (F13.put 0 5) fun V14 F14=>?_;have q:=F14.c 0;exact F14.ret3 (kk:=16) 4 1 2 3 rfl rfl rfl rfl (by simp[results,results182,go_sem,q]) rfl (HR.out.symm.trans (by
  unfold zE;dsimp only;simp[HBQ.out,HC.out,HF.out,HC2.out,HF2.out])) (fun _ h=>h)
theorem zQS {C:Pc} {s:Ps} {w:World} (hp:Pre C.L .tries s) (K:KP C (zZ C.L .tries s)) (h:Pa C s w):zc C s w .tries:=by
 cases hc:onP C.L [99,97,116,99,104] (zF C.L .block (zB s)).2 with
 | true=>
  cases hq:onP C.L [40] (zB (zF C.L .block (zB s)).2)with
  | true=>exact zL6 hp K h hc hq
  | false=>exact zOP hp K h hc hq
 | false=>
  cases hf:onP C.L [102,105,110,97,108,108,121] (zF C.L .block (zB s)).2 with
  | true=>exact zQR hp K h hc hf
  | false=>exact zOQ hp K h hc hf
section
variable {L1 L2:List Tok} {a d m:Nat} {lo:Bool} {s:Ps} {w:List UInt8}
variable {R1 R2:Ph→Ps→Tr×Ps}
end
set_option linter.unusedVariables false
structure TG (t:Tok):Prop where
 name:t.kind=1→zCl t.text=true
 word:t.kind=6→zG3 t.text=true
 num:t.kind=2→t.nk=0∧0≤t.nn∧t.nn≤9007199254740991
 big:t.kind=3→zCg false t.mag=true
 str:t.kind=4→t.str.length≤4096
 len:t.text.length≤4096
def TL (L:List Tok):Prop:=∀i,TG (zL L i)
theorem zD1 (l:List UInt8) (w:World) (hl:l.length≤10000):
 Calls prog 32 #[.string ⟨l.toArray⟩] w fun e w'=>∃A c,e=.returned (.slice A l.length c)∧w'.ownsRow 0 24 1 (.slice A l.length c) l.length (zAD (zAt l))∧w.grownBy w' none:=by
 refine(zCz ⟨l.toArray⟩ w (by show l.length≤_;omega)).mono ?_;rintro e w' ⟨v,rfl,hm⟩;have ho:=hm.own;have hlen:(zAD (zAt l)).length=l.length:=by simp[zAD,zAt]
 have hx:zAD (zAt (⟨l.toArray⟩:ByteArray).data.toList)=zAD (zAt l):=rfl;rw[hx,hlen]at ho;obtain⟨A,c,rfl,_⟩:=zR ho;exact⟨A,c,rfl,zAG ho (yAE _),zi none hm.below⟩
theorem zCc (l:List UInt8):(zAt l).length=l.length:=by simp[zAt]
theorem zL7 {w:World} {P:Nat→Prop} {u:List UInt16} {l:List Tr} {v vs:Value} (h:RowP w P v l) (h1:w.ownsRow 0 24 1 vs u.length (zAD u)):TrC w P (.mk {zBg with kind:=40,str:=u} l) [.int .i64 40,.string ⟨#[]⟩,vs,.int .i64 0,.int .i64 0,.bool false,.slice none 0 0,.slice none 0 0,v]:=
 h.tree (x:={zBg with kind:=40,str:=u}) rfl h1 (yAJ _ _ _ _)
section
variable {C:Pc} {B:Nat→Prop} {a:World} {D:List Nat} {os:List Ob} {s:Ps} {w w':World}
theorem Fr.kU {f:FuncId} {args:Array Value} {n:Nat} {u:List UInt16} (F:Fr C B a D os s w) (h:Calls prog f args w (fun e w'=>∃A c,e=.returned (.slice A n c)∧w'.ownsRow 0 24 1 (.slice A n c) n (zAD u)∧w.grownBy w' none)) {Q:Ending→World→Prop} (k:∀w' A c,Fr C B a D (os++[.lf 24 (.slice A n c) n (zAD u)]) s w'→Q (.returned (.slice A n c)) w'):Calls prog f args w Q:=h.mono fun _ w' ⟨A,c,h1,h2,h3⟩=>h1▸k w' A c (.mk ((F.n h3).out.snoc (x:=.lf _ _ _ _) rfl ⟨.inl rfl,h2⟩))
theorem Fr.lit1 (F:Fr C B a D os s w) (j:Nat) {R:Nat} {t:Tr} {c0 c1 c2 c3 c4 c5 c6 c7 c8:Value} (hR:w.heap.size=R) (hj:os[j]? =some (.tr t [c0,c1,c2,c3,c4,c5,c6,c7,c8]):=by rfl):Fr C B a D (os++[.ro (.slice (some ⟨R,0,none⟩) 1 1) [t]]) s (w.alloc (.cells #[c0,c1,c2,c3,c4,c5,c6,c7,c8] 72)):=
 have h:=F.litG (F.ts1 j hj) (n:=1) rfl (by decide) hR (w':=w.alloc (.cells #[c0,c1,c2,c3,c4,c5,c6,c7,c8] 72)) ⟨rfl,rfl,rfl,yAC _,fun _ _ _=>rfl⟩
 .mk (h.1.snoc (x:=.ro _ _) rfl h.2)
theorem Fr.propT (F:Fr C B a D os s w) (i j:Nat) (u:List UInt16) {l:List Tr} {v vs:Value} {n:Nat} (hn:n=u.length) (hi:os[i]? =some (.ro v l):=by rfl) (hj:os[j]? =some (.lf 24 vs n (zAD u)):=by rfl):Fr C B a D (os++[.tr (.mk {zBg with kind:=40,str:=u} l) [.int .i64 40,.string ⟨#[]⟩,vs,.int .i64 0,.int .i64 0,.bool false,.slice none 0 0,.slice none 0 0,v]]) s w:=.mk (F.out.snoc (x:=.tr _ _) rfl (zL7 (F.r i hi) (hn▸F.l j hj)))
end
theorem zL8 {C:Pc} {s:Ps} {w:World} (hp:Pre C.L (.prop) s) (_K:KP C (zZ C.L (.prop) s)) (h:Pa C s w) (hk:(zL C.L s.k).kind≠4∧(zL C.L s.k).kind≠2∧(zL C.L s.k).kind≠1∧(zL C.L s.k).kind≠6):zc C s w (.prop):=by
 refine zAg hp h fun HL hlen hsk r W X HR hW hX F0=>?_;clear h hp;go_enter func223,ntmps223;go_upto_region 1 with(fail);clear hW hX;have HK1:=zA hk;clear hk;obtain⟨⟨kd,tx,st,nk,nn,mg,ps,nl⟩,HT⟩:=zP C.L (s).k;go_wp2_with fail;refine F0.kT (zf F0.P HT.out) fun w1 As Am c1 c2 F1=>?_;have F2:=F1.bt 1 44 rfl;have hkd:kd≠4∧kd≠2∧kd≠1∧kd≠6:=by have:=HK1.out;rw[HT.out]at this;exact this
 have e4:((kd:Int)==4)=false:=by rw[yA];omega
 have e2:((kd:Int)==2)=false:=by rw[yA];omega
 have e1:((kd:Int)==1)=false:=by rw[yA];omega
 have e6:((kd:Int)==6)=false:=by rw[yA];omega
 clear hkd;go_wp2_with fail;refine F2.made0 _ fun w3 F3=>?_;have F4:=F3.bt 3 72 rfl;obtain⟨_,_,_,_,_,_,_,_,_⟩:=F4.c 2;go_wp2_with fail;refine F4.kN (zu F4.P) fun w5 F5=>?_;obtain⟨_,_,_,_,_,_,_,_,_⟩:=F5.c 4;obtain⟨_,_,_,_,_,_,_,_,_⟩:=F5.c 0;obtain⟨_,_,_,_,_,_,_,_,_⟩:=F5.f 0;go_wp2_with fail;refine zM (F5.put 0 3) fun V6 F6=>?_;have q:=F6.c 0;exact F6.ret 3 rfl (by simp[results,results223,go_sem,q]) rfl (HR.out.symm.trans (by
  unfold zE;dsimp only;rw[show zAx (zL C.L s.k)=none from by unfold zAx;simp[HK1.out]])) (fun _ h=>h)
theorem zHm {C:Pc} {s:Ps} {w:World} (hp:Pre C.L (.prop) s) (K:KP C (zZ C.L (.prop) s)) (h:Pa C s w) (hk:(zL C.L s.k).kind=4):zc C s w (.prop):=by
 refine zAg hp h fun HL hlen hsk r W X HR hW hX F0=>?_;have HK:=zA K;clear K h hp;go_enter func223,ntmps223;go_upto_region 1 with(fail);clear hW hX;have HK1:=zA hk;clear hk;have hlt:=zA (HL.out.lt hsk (by rw[HK1.out];decide));obtain⟨⟨kd,tx,st,nk,nn,mg,ps,nl⟩,HT⟩:=zP C.L (s).k;go_wp2_with fail;refine F0.kTl (zf F0.P HT.out) fun w1 As Am c1 c2 F1=>?_;have F2:=F1.bt 1 44 rfl;have hkd:kd=4:=by have:=HK1.out;rw[HT.out]at this;exact this
 have e4:((kd:Int)==4)=true:=by rw[hkd];decide
 have e2:((kd:Int)==2)=false:=by rw[hkd];decide
 have e1:((kd:Int)==1)=false:=by rw[hkd];decide
 have e6:((kd:Int)==6)=false:=by rw[hkd];decide
 clear hkd;go_wp2_with fail;refine F2.made0 _ fun w3 F3=>?_;have F4:=F3.bt 5 72 rfl;go_upto_region 3 with(fail);refine zCs F4 fun w5 F5=>?_;obtain⟨_,_,_,_,_,_,_,_,_⟩:=F5.c 4;obtain⟨_,_,_,_,_,_,_,_,_⟩:=F5.c 6;obtain⟨_,_,_,_,_,_,_,_,_⟩:=F5.f 6;have F6:=F5.set 6 2 (.slice As st.length c1);obtain⟨xk,fk,bk⟩:=F6.k1;go_upto_region 13 with(fail);refine zCs F6 fun w7 F7=>?_;clear xk fk bk;obtain⟨xk8,fk8,bk8⟩:=F7.k1;have F8:=F7.step hlt.out;obtain⟨_,_,_,_,_,_,_,_,_⟩:=F8.c 4;have hnd:=zA (zU (w:=[58]) HL.out (s:=zB s) hlt.out).adv;have hkk:s.k < (zN C.L [58] (zB s)).k:=by have:=hnd.out.le;have:(zB s).k=s.k+1:=rfl;omega
 go_wp2_with fail;refine F8.kN (zr F8.P [58]) fun w9 F9=>?_;go_wp2_with fail;refine F9.kX (HK.out.more (q:=.assign) ⟨F9.P.hi,trivial⟩ F9.P hkk) fun rq10 HRQ10 w10 d10_0 d10_1 d10_2 d10_3 d10_4 d10_5 d10_6 d10_7 d10_8 F10=>?_;obtain⟨_,_,_,_,_,_,_,_,_⟩:=F10.sto 7;obtain⟨_,_,_,_,_,_,_,_,_⟩:=F10.c 6;obtain⟨_,_,_,_,_,_,_,_,_⟩:=F10.f 6;obtain⟨_,_,_,_,_,_,_,_,_⟩:=(F10.al (.cells #[d10_0,d10_1,d10_2,d10_3,d10_4,d10_5,d10_6,d10_7,d10_8] 72)).c 6;obtain⟨_,_,_,_,_,_,_,_,_⟩:=(F10.al (.cells #[d10_0,d10_1,d10_2,d10_3,d10_4,d10_5,d10_6,d10_7,d10_8] 72)).f 6;have F11:=F10.lit1 7 rfl;have F12:=F11.set 6 8 (.slice (some ⟨w10.heap.size,0,none⟩) 1 1);go_upto_region 19 with(fail);refine zCs F12 fun w13 F13=>?_;have F14:=F13.propT 8 2 (st) rfl;obtain⟨_,_,_,_,_,_,_,_,_⟩:=F14.c 6;obtain⟨_,_,_,_,_,_,_,_,_⟩:=F14.c 0;obtain⟨_,_,_,_,_,_,_,_,_⟩:=F14.f 0;go_wp2_with fail;refine zM (F14.put 0 9) fun V15 F15=>?_;have q:=F15.c 0;exact F15.ret 9 rfl (by simp[results,results223,go_sem,q]) rfl (HR.out.symm.trans (by
  unfold zE;dsimp only;rw[show zAx (zL C.L s.k)=some (st)from by unfold zAx;rw[HK1.out];simp[HT.out]];dsimp only;rw[if_neg (fun h=>by have:=HK1.out;rw[h.1]at this;cases this),HRQ10.out])) (fun _ h=>h)
theorem zL9 {C:Pc} {s:Ps} {w:World} (hp:Pre C.L (.prop) s) (K:KP C (zZ C.L (.prop) s)) (h:Pa C s w) (hk:(zL C.L s.k).kind=6) (htg:TG (zL C.L s.k)):zc C s w (.prop):=by
 refine zAg hp h fun HL hlen hsk r W X HR hW hX F0=>?_;have HK:=zA K;clear K h hp;go_enter func223,ntmps223;go_upto_region 1 with(fail);clear hW hX;have HK1:=zA hk;have HTG:=zA htg;clear htg;clear hk;have hlt:=zA (HL.out.lt hsk (by rw[HK1.out];decide));obtain⟨⟨kd,tx,st,nk,nn,mg,ps,nl⟩,HT⟩:=zP C.L (s).k;go_wp2_with fail;refine F0.kT (zf F0.P HT.out) fun w1 As Am c1 c2 F1=>?_;have F2:=F1.bt 1 44 rfl;have hkd:kd=6:=by have:=HK1.out;rw[HT.out]at this;exact this
 have e4:((kd:Int)==4)=false:=by rw[hkd];decide
 have e2:((kd:Int)==2)=false:=by rw[hkd];decide
 have e1:((kd:Int)==1)=false:=by rw[hkd];decide
 have e6:((kd:Int)==6)=true:=by rw[hkd];decide
 clear hkd;go_wp2_with fail;refine F2.made0 _ fun w3 F3=>?_;have F4:=F3.bt 3 72 rfl;go_upto_region 3 with(fail);refine zCs F4 fun w5 F5=>?_;obtain⟨_,_,_,_,_,_,_,_,_⟩:=F5.c 2;obtain⟨_,_,_,_,_,_,_,_,_⟩:=F5.c 4;obtain⟨_,_,_,_,_,_,_,_,_⟩:=F5.f 4;have HSL:=zA (show tx.length≤10000 by have:=HTG.out.len;rw[HT.out]at this;have h9:tx.length≤4096:=this;omega);go_wp2_with fail;refine F5.kU (zD1 (tx) _ HSL.out) fun w6 Aa ca F6=>?_;obtain⟨_,_,_,_,_,_,_,_,_⟩:=F6.c 4;obtain⟨_,_,_,_,_,_,_,_,_⟩:=F6.f 4;have F7:=F6.set 4 2 (.slice Aa (tx).length ca);obtain⟨xk,fk,bk⟩:=F7.k1;go_upto_region 13 with(fail);refine zCs F7 fun w8 F8=>?_;clear xk fk bk;obtain⟨xk9,fk9,bk9⟩:=F8.k1;have F9:=F8.step hlt.out;obtain⟨_,_,_,_,_,_,_,_,_⟩:=F9.c 2;have hnd:=zA (zU (w:=[58]) HL.out (s:=zB s) hlt.out).adv;have hkk:s.k < (zN C.L [58] (zB s)).k:=by have:=hnd.out.le;have:(zB s).k=s.k+1:=rfl;omega
 go_wp2_with fail;refine F9.kN (zr F9.P [58]) fun w10 F10=>?_;go_wp2_with fail;refine F10.kX (HK.out.more (q:=.assign) ⟨F10.P.hi,trivial⟩ F10.P hkk) fun rq11 HRQ11 w11 d11_0 d11_1 d11_2 d11_3 d11_4 d11_5 d11_6 d11_7 d11_8 F11=>?_;obtain⟨_,_,_,_,_,_,_,_,_⟩:=F11.sto 6;obtain⟨_,_,_,_,_,_,_,_,_⟩:=F11.c 4;obtain⟨_,_,_,_,_,_,_,_,_⟩:=F11.f 4;obtain⟨_,_,_,_,_,_,_,_,_⟩:=(F11.al (.cells #[d11_0,d11_1,d11_2,d11_3,d11_4,d11_5,d11_6,d11_7,d11_8] 72)).c 4;obtain⟨_,_,_,_,_,_,_,_,_⟩:=(F11.al (.cells #[d11_0,d11_1,d11_2,d11_3,d11_4,d11_5,d11_6,d11_7,d11_8] 72)).f 4;have F12:=F11.lit1 6 rfl;have F13:=F12.set 4 8 (.slice (some ⟨w11.heap.size,0,none⟩) 1 1);go_upto_region 19 with(fail);refine zCs F13 fun w14 F14=>?_;have F15:=F14.propT 7 5 (zAt (tx)) (zCc _).symm;obtain⟨_,_,_,_,_,_,_,_,_⟩:=F15.c 4;obtain⟨_,_,_,_,_,_,_,_,_⟩:=F15.c 0;obtain⟨_,_,_,_,_,_,_,_,_⟩:=F15.f 0;go_wp2_with fail;refine zM (F15.put 0 8) fun V16 F16=>?_;have q:=F16.c 0;exact F16.ret 8 rfl (by simp[results,results223,go_sem,q]) rfl (HR.out.symm.trans (by
  unfold zE;dsimp only;rw[show zAx (zL C.L s.k)=some (zAt (tx))from by unfold zAx;rw[HK1.out];simp[HT.out]];dsimp only;rw[if_neg (fun h=>by have:=HK1.out;rw[h.1]at this;cases this),HRQ11.out])) (fun _ h=>h)
theorem zJo {C:Pc} {s:Ps} {w:World} (hp:Pre C.L (.prop) s) (_K:KP C (zZ C.L (.prop) s)) (h:Pa C s w) (hk:(zL C.L s.k).kind=1) (htg:TG (zL C.L s.k)) (hon:onP C.L [58] (zB s)=false):zc C s w (.prop):=by
 refine zAg hp h fun HL hlen hsk r W X HR hW hX F0=>?_;clear h hp;go_enter func223,ntmps223;go_upto_region 1 with(fail);clear hW hX;have HK1:=zA hk;have HTG:=zA htg;clear htg;have HON:=zA hon;clear hon;clear hk;have hlt:=zA (HL.out.lt hsk (by rw[HK1.out];decide));obtain⟨⟨kd,tx,st,nk,nn,mg,ps,nl⟩,HT⟩:=zP C.L (s).k;go_wp2_with fail;refine F0.kT (zf F0.P HT.out) fun w1 As Am c1 c2 F1=>?_;have F2:=F1.bt 1 44 rfl;have hkd:kd=1:=by have:=HK1.out;rw[HT.out]at this;exact this
 have e4:((kd:Int)==4)=false:=by rw[hkd];decide
 have e2:((kd:Int)==2)=false:=by rw[hkd];decide
 have e1:((kd:Int)==1)=true:=by rw[hkd];decide
 have e6:((kd:Int)==6)=false:=by rw[hkd];decide
 clear hkd;go_wp2_with fail;refine F2.made0 _ fun w3 F3=>?_;have F4:=F3.bt 3 72 rfl;go_upto_region 3 with(fail);refine zCs F4 fun w5 F5=>?_;obtain⟨_,_,_,_,_,_,_,_,_⟩:=F5.c 2;obtain⟨_,_,_,_,_,_,_,_,_⟩:=F5.c 4;obtain⟨_,_,_,_,_,_,_,_,_⟩:=F5.f 4;have HSL:=zA (show tx.length≤10000 by have:=HTG.out.len;rw[HT.out]at this;have h9:tx.length≤4096:=this;omega);go_wp2_with fail;refine F5.kU (zD1 (tx) _ HSL.out) fun w6 Aa ca F6=>?_;obtain⟨_,_,_,_,_,_,_,_,_⟩:=F6.c 4;obtain⟨_,_,_,_,_,_,_,_,_⟩:=F6.f 4;have F7:=F6.set 4 2 (.slice Aa (tx).length ca);obtain⟨xk,fk,bk⟩:=F7.k1;go_upto_region 13 with(fail);refine zCs F7 fun w8 F8=>?_;clear xk fk bk;obtain⟨xk9,fk9,bk9⟩:=F8.k1;have F9:=F8.step hlt.out;obtain⟨_,_,_,_,_,_,_,_,_⟩:=F9.c 2;go_wp2_with fail;refine F9.kB (zAL F9.P [58] HON.out) fun w10 F10=>?_;obtain⟨_,_,_,_,_,_,_,_,_⟩:=F10.c 2;go_wp2_with fail;refine F10.named0 _ tx fun w11 F11=>?_;obtain⟨_,_,_,_,_,_,_,_,_⟩:=F11.c 4;obtain⟨_,_,_,_,_,_,_,_,_⟩:=F11.f 4;obtain⟨_,_,_,_,_,_,_,_,_⟩:=(F11.al (.cells #[.int .i64 33,.string ⟨tx.toArray⟩,.slice none 0 0,.int .i64 0,.int .i64 0,.bool false,.slice none 0 0,.slice none 0 0,.slice none 0 0] 72)).c 4;obtain⟨_,_,_,_,_,_,_,_,_⟩:=(F11.al (.cells #[.int .i64 33,.string ⟨tx.toArray⟩,.slice none 0 0,.int .i64 0,.int .i64 0,.bool false,.slice none 0 0,.slice none 0 0,.slice none 0 0] 72)).f 4;have F12:=F11.lit1 6 rfl;have F13:=F12.set 4 8 (.slice (some ⟨w11.heap.size,0,none⟩) 1 1);go_upto_region 16 with(fail);refine zCs F13 fun w14 F14=>?_;have F15:=F14.propT 7 5 (zAt (tx)) (zCc _).symm;obtain⟨_,_,_,_,_,_,_,_,_⟩:=F15.c 4;obtain⟨_,_,_,_,_,_,_,_,_⟩:=F15.c 0;obtain⟨_,_,_,_,_,_,_,_,_⟩:=F15.f 0;go_wp2_with fail;refine zM (F15.put 0 8) fun V16 F16=>?_;have q:=F16.c 0;exact F16.ret 8 rfl (by simp[results,results223,go_sem,q]) rfl (HR.out.symm.trans (by
  unfold zE;dsimp only;rw[show zAx (zL C.L s.k)=some (zAt (tx))from by unfold zAx;rw[HK1.out];simp[HT.out]];dsimp only;rw[if_pos ⟨HK1.out,HON.out⟩,HT.out])) (fun _ h=>h)
theorem zJp {C:Pc} {s:Ps} {w:World} (hp:Pre C.L (.prop) s) (K:KP C (zZ C.L (.prop) s)) (h:Pa C s w) (hk:(zL C.L s.k).kind=1) (htg:TG (zL C.L s.k)) (hon:onP C.L [58] (zB s)=true):zc C s w (.prop):=by
 refine zAg hp h fun HL hlen hsk r W X HR hW hX F0=>?_;have HK:=zA K;clear K h hp;go_enter func223,ntmps223;go_upto_region 1 with(fail);clear hW hX;have HK1:=zA hk;have HTG:=zA htg;clear htg;have HON:=zA hon;clear hon;clear hk;have hlt:=zA (HL.out.lt hsk (by rw[HK1.out];decide));obtain⟨⟨kd,tx,st,nk,nn,mg,ps,nl⟩,HT⟩:=zP C.L (s).k;go_wp2_with fail;refine F0.kT (zf F0.P HT.out) fun w1 As Am c1 c2 F1=>?_;have F2:=F1.bt 1 44 rfl;have hkd:kd=1:=by have:=HK1.out;rw[HT.out]at this;exact this
 have e4:((kd:Int)==4)=false:=by rw[hkd];decide
 have e2:((kd:Int)==2)=false:=by rw[hkd];decide
 have e1:((kd:Int)==1)=true:=by rw[hkd];decide
 have e6:((kd:Int)==6)=false:=by rw[hkd];decide
 clear hkd;go_wp2_with fail;refine F2.made0 _ fun w3 F3=>?_;have F4:=F3.bt 3 72 rfl;go_upto_region 3 with(fail);refine zCs F4 fun w5 F5=>?_;obtain⟨_,_,_,_,_,_,_,_,_⟩:=F5.c 2;obtain⟨_,_,_,_,_,_,_,_,_⟩:=F5.c 4;obtain⟨_,_,_,_,_,_,_,_,_⟩:=F5.f 4;have HSL:=zA (show tx.length≤10000 by have:=HTG.out.len;rw[HT.out]at this;have h9:tx.length≤4096:=this;omega);go_wp2_with fail;refine F5.kU (zD1 (tx) _ HSL.out) fun w6 Aa ca F6=>?_;obtain⟨_,_,_,_,_,_,_,_,_⟩:=F6.c 4;obtain⟨_,_,_,_,_,_,_,_,_⟩:=F6.f 4;have F7:=F6.set 4 2 (.slice Aa (tx).length ca);obtain⟨xk,fk,bk⟩:=F7.k1;go_upto_region 13 with(fail);refine zCs F7 fun w8 F8=>?_;clear xk fk bk;obtain⟨xk9,fk9,bk9⟩:=F8.k1;have F9:=F8.step hlt.out;obtain⟨_,_,_,_,_,_,_,_,_⟩:=F9.c 2;go_wp2_with fail;refine F9.kB (zAL F9.P [58] HON.out) fun w10 F10=>?_;have hnd:=zA (zU (w:=[58]) HL.out (s:=zB s) hlt.out).adv;have hkk:s.k < (zN C.L [58] (zB s)).k:=by have:=hnd.out.le;have:(zB s).k=s.k+1:=rfl;omega
 go_wp2_with fail;refine F10.kN (zr F10.P [58]) fun w11 F11=>?_;go_wp2_with fail;refine F11.kX (HK.out.more (q:=.assign) ⟨F11.P.hi,trivial⟩ F11.P hkk) fun rq12 HRQ12 w12 d12_0 d12_1 d12_2 d12_3 d12_4 d12_5 d12_6 d12_7 d12_8 F12=>?_;obtain⟨_,_,_,_,_,_,_,_,_⟩:=F12.sto 6;obtain⟨_,_,_,_,_,_,_,_,_⟩:=F12.c 4;obtain⟨_,_,_,_,_,_,_,_,_⟩:=F12.f 4;obtain⟨_,_,_,_,_,_,_,_,_⟩:=(F12.al (.cells #[d12_0,d12_1,d12_2,d12_3,d12_4,d12_5,d12_6,d12_7,d12_8] 72)).c 4;obtain⟨_,_,_,_,_,_,_,_,_⟩:=(F12.al (.cells #[d12_0,d12_1,d12_2,d12_3,d12_4,d12_5,d12_6,d12_7,d12_8] 72)).f 4;have F13:=F12.lit1 6 rfl;have F14:=F13.set 4 8 (.slice (some ⟨w12.heap.size,0,none⟩) 1 1);go_upto_region 19 with(fail);refine zCs F14 fun w15 F15=>?_;have F16:=F15.propT 7 5 (zAt (tx)) (zCc _).symm;obtain⟨_,_,_,_,_,_,_,_,_⟩:=F16.c 4;obtain⟨_,_,_,_,_,_,_,_,_⟩:=F16.c 0;obtain⟨_,_,_,_,_,_,_,_,_⟩:=F16.f 0;go_wp2_with fail;refine zM (F16.put 0 8) fun V17 F17=>?_;have q:=F17.c 0;exact F17.ret 8 rfl (by simp[results,results223,go_sem,q]) rfl (HR.out.symm.trans (by
  unfold zE;dsimp only;rw[show zAx (zL C.L s.k)=some (zAt (tx))from by unfold zAx;rw[HK1.out];simp[HT.out]];dsimp only;rw[if_neg (fun h=>by rw[HON.out]at h;cases h.2),HRQ12.out])) (fun _ h=>h)
end Go.Proofs.YtlohaclgbfhijaaGreatDoor
namespace Go.Proofs
open Go.Proofs.Tryz
open Go.Shelf
def Tryz.laysM171_ren:Go.Shelf.Ren:=⟨fun | 171=>166 | 243=>194 | 246=>200 | 283=>203 | 284=>204 | 285=>205 | 286=>206 | 129=>210 | 317=>209 | 318=>211 | 319=>212 | 320=>213 | 337=>215 | 338=>216 | n=>n,fun | 3=>3 | 9=>9 | 2=>2 | 4=>4 | 171=>188 | 0=>0 | 53=>170 | 37=>51 | 5=>5 | 173=>191 | 212=>195 | 51=>87 | 20=>20 | 213=>196 | 46=>111 | 232=>201 | 233=>202 | n=>n,fun | 17=>3 | 18=>4 | 19=>5 | n=>n⟩
theorem Tryz.laysM171:Go.Proofs.LaysM.n171 prog Tryz.laysM171_ren:={
 mixed:=by kernel_rfl
 f129:=func210.trans (congrArg some (by kernel_rfl))
 f171:=func166.trans (congrArg some (by kernel_rfl))
 f243:=func194.trans (congrArg some (by kernel_rfl))
 f246:=func200.trans (congrArg some (by kernel_rfl))
 f283:=func203.trans (congrArg some (by kernel_rfl))
 f284:=func204.trans (congrArg some (by kernel_rfl))
 f285:=func205.trans (congrArg some (by kernel_rfl))
 f286:=func206.trans (congrArg some (by kernel_rfl))
 f317:=func209.trans (congrArg some (by kernel_rfl))
 f318:=func211.trans (congrArg some (by kernel_rfl))
 f319:=func212.trans (congrArg some (by kernel_rfl))
 f320:=func213.trans (congrArg some (by kernel_rfl))
 f337:=func215.trans (congrArg some (by kernel_rfl))
 f338:=func216.trans (congrArg some (by kernel_rfl))
 t0:=underlying0
 a0:=Tryz.isAgg0
 z0:=Tryz.sizeOf0
 v0:=Tryz.zeroValue0
 t2:=underlying2
 a2:=Tryz.isAgg2
 z2:=Tryz.sizeOf2
 v2:=Tryz.zeroValue2
 t3:=underlying3
 a3:=Tryz.isAgg3
 z3:=Tryz.sizeOf3
 v3:=Tryz.zeroValue3
 t4:=underlying4
 a4:=Tryz.isAgg4
 z4:=Tryz.sizeOf4
 v4:=Tryz.zeroValue4
 t5:=underlying5
 a5:=Tryz.isAgg5
 z5:=Tryz.sizeOf5
 v5:=Tryz.zeroValue5
 t9:=underlying9
 a9:=Tryz.isAgg9
 z9:=Tryz.sizeOf9
 v9:=Tryz.zeroValue9
 t20:=underlying20
 a20:=Tryz.isAgg20
 z20:=Tryz.sizeOf20
 v20:=Tryz.zeroValue20
 t37:=underlying51
 a37:=Tryz.isAgg51
 z37:=Tryz.sizeOf51
 v37:=Tryz.zeroValue51
 t46:=underlying111
 a46:=Tryz.isAgg111
 z46:=Tryz.sizeOf111
 v46:=Tryz.zeroValue111
 t51:=underlying87
 a51:=Tryz.isAgg87
 z51:=Tryz.sizeOf87
 v51:=Tryz.zeroValue87
 t53:=underlying170
 a53:=Tryz.isAgg170
 z53:=Tryz.sizeOf170
 v53:=Tryz.zeroValue170
 t171:=underlying188
 a171:=Tryz.isAgg188
 z171:=Tryz.sizeOf188
 v171:=Tryz.zeroValue188
 t173:=underlying191
 a173:=Tryz.isAgg191
 z173:=Tryz.sizeOf191
 v173:=Tryz.zeroValue191
 t212:=underlying195
 a212:=Tryz.isAgg195
 z212:=Tryz.sizeOf195
 v212:=Tryz.zeroValue195
 t213:=underlying196
 a213:=Tryz.isAgg196
 z213:=Tryz.sizeOf196
 t232:=underlying201
 a232:=Tryz.isAgg201
 z232:=Tryz.sizeOf201
 v232:=Tryz.zeroValue201
 t233:=underlying202
 a233:=Tryz.isAgg202
 z233:=Tryz.sizeOf202
 v233:=Tryz.zeroValue202
 g17:=by kernel_rfl
 g18:=by kernel_rfl
 g19:=by kernel_rfl
 i0:=by kernel_rfl
 i2:=by kernel_rfl
 i3:=by kernel_rfl
 i4:=by kernel_rfl
 i5:=by kernel_rfl
 i9:=by kernel_rfl
 i20:=by kernel_rfl
 i37:=by kernel_rfl
 i46:=by kernel_rfl
 i51:=by kernel_rfl
 i53:=by kernel_rfl
 i171:=by kernel_rfl
 i173:=by kernel_rfl
 i212:=by kernel_rfl
 i232:=by kernel_rfl
 i233:=by kernel_rfl
 m17:=by kernel_rfl
 m18:=by kernel_rfl
 m19:=by kernel_rfl}
open Go.RowKit Go.Sort Go.Lib in
theorem Tryz.strconv_Itoa (n : Int) (h0 : -9223372036854775808 ≤ n) (h1 : n ≤ 9223372036854775807) (w : World) (htab : Lib.TabIs prog w "internal/strconv.uint64pow10" .u64 Lib.pow10Tab) :
 Calls prog 166 #[.int .i64 n] w fun e w'=>e=.returned (.string ⟨(Lib.itoa n).toArray⟩)∧∃k os,w'=grow (w.drewN k) os:=Any.strconv_Itoa Tryz.laysM171 n h0 h1 w htab
end Go.Proofs
namespace Go.Proofs.YtlohaclgbfhijaaGreatDoor
open Go.Proofs.Tryz
open Go.RowKit
theorem zE3 (n:Nat):Lib.decDigits n=zG6 n:=by
 induction n using Nat.strongRecOn with
 | _ n ih=>
  by_cases h:n < 10
  · rw[Lib.decDigits,dif_pos h,zG7 h];rfl
  · rw[Lib.decDigits,dif_neg h,zKB h,ih _ (by omega)];rfl
theorem zOR (n:Int) (h:0≤n):Lib.itoa n=zG6 n.toNat:=by
 unfold Lib.itoa;rw[if_neg (by omega),zE3]
def Tab (w : World) : Prop := Lib.TabIs prog w "internal/strconv.uint64pow10" .u64 Lib.pow10Tab
theorem zRj : prog.globalNamed "internal/strconv.uint64pow10" = some 3 := by kernel_rfl
theorem Tab.below {B:Nat} {w w':World} (h:Tab w) (hg:3 < B) (hb:Below B w w'):Tab w':=by
 unfold Tab Lib.TabIs World.var? at h⊢;rw[zRj]at h⊢;simp only[Option.bind_some]at h⊢;rw[hb.block _ hg];exact h
theorem Tab.lt {w:World} (h:Tab w):3 < w.heap.size:=by
 unfold Tab Lib.TabIs World.var? at h;rw[zRj]at h;simp only[Option.bind_some]at h;rcases Nat.lt_or_ge 3 w.heap.size with h' | h'
 · exact h'
 · rw[Array.getElem?_eq_none h']at h;cases h
theorem zOS {n:Int} (h0:0≤n) (h1:n≤9007199254740991) {w:World} (ht:Tab w):
 Calls prog 166 #[.int .i64 n] w fun e w'=>e=.returned (.string ⟨(zG6 n.toNat).toArray⟩)∧Below w.heap.size w w':=by
 refine(Tryz.strconv_Itoa n (by omega) (by omega) w ht).mono ?_;rintro e w' ⟨rfl,k,os,rfl⟩;exact⟨by rw[zOR n h0],Go.Lib.below_grow _ w (yAC _) k os⟩
theorem zQT (n:Int) (w:World) (h0:0≤n) (h1:n≤9007199254740991):Calls prog 80 #[.agg #[.int .i64 0,.int .i64 n]] w fun e w'=>e=.returned (.bool true)∧w'=w.alloc (.cells #[.int .i64 0,.int .i64 n] 39):=by
 have h2:decide ((-9007199254740991:Int)≤n)=true:=decide_eq_true (by omega);have h3:decide (n≤(9007199254740991:Int))=true:=decide_eq_true h1;go_enter func80,ntmps80;go_wp2
 all_goals go_ret
 all_goals exact⟨rfl,rfl⟩
theorem zQU (n:Int) (w:World) (h0:0≤n) (h1:n≤9007199254740991):
 Calls prog 165 #[.agg #[.int .i64 0,.int .i64 n]] w fun e w'=>e=.returned (.agg #[.int .i64 0,.int .i64 n])∧w'=((w.alloc (.cells #[.int .i64 0,.int .i64 n] 39)).alloc (.cells #[.int .i64 0,.int .i64 n] 39)).alloc (.cells #[.int .i64 0,.int .i64 n] 39):=by
 go_enter func165,ntmps165;go_wp2_with (go_at_call 80;refine(zQT n _ h0 h1).mono ?_;rintro e w' ⟨rfl,rfl⟩);refine bodyPost_ret (v:=.agg #[.int .i64 0,.int .i64 n]) (by simp[results,results165,go_sem]) rfl ?_;exact⟨rfl,rfl⟩
theorem zMA (n:Int) (w:World) (h0:0≤n) (h1:n≤9007199254740991) (ht:Tab w):
 Calls prog 130 #[.agg #[.int .i64 0,.int .i64 n]] w fun e w'=>e=.returned (.string ⟨(zG6 n.toNat).toArray⟩)∧Below w.heap.size w w':=by
 have HT:=zA (fun(W:World) (hb:Below w.heap.size w W)=>zOS h0 h1 (ht.below ht.lt hb));clear ht;go_enter func130,ntmps130;go_wp2_with first
  | (go_at_call 165;refine(zQU n _ h0 h1).mono ?_;rintro e w' ⟨rfl,rfl⟩)
  | (go_at_call 166;refine(HT.out _ (by go_grown)).mono ?_;rintro e w' ⟨rfl,hb⟩)
 go_ret;refine⟨rfl,Below.trans (b:=_) ?_ (hb.mono (by simp;omega))⟩
 go_grown
end Go.Proofs.YtlohaclgbfhijaaGreatDoor
