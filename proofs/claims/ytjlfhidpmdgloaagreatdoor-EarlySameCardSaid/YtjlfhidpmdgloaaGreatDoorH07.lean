/- Joined for the claim EarlySame: the parser, the lexer and the trees as they are walked, made short by a program of mine. -/
import Derived.Deep.RegionHeld3
import Derived.Deep.CutBlock
import Derived.Deep.DeepCutAuto
import Derived.Test.YtjlfhidpmdgloaaGreatDoorH06
import Derived.Test.YtjlfhidpmdgloaaGreatDoorH02
import Derived.Deep.RegionLaw
import Derived.Deep.LoopGhost
import Derived.Deep.AppendLies
import Derived.Test.YtjlfhidpmdgloaaGreatDoorH03
import Derived.Test.YtjlfhidpmdgloaaGreatDoorH01
set_option maxHeartbeats 16000000
set_option maxRecDepth 1000000
namespace Go.Proofs.YtjlfhidpmdgloaaGreatDoor
open Go.Proofs.Tryz
open Go.RowKit
variable {args:Array Value} {cs:List Value} {W:World} {nl:Bool} {ps kd X r0 i e j:Nat} {nk nn z:Int} {As Am:jQ} {T:TypeId} {v d0 d1 d2 d3 d4 d5 d6 d7 d8 v0 v1 v2 v3 v4 v5 v6 v7 v8:Value} {ops:Array Oper} {tx:jE} {K:Act→World→Prop} {d:List Nat} {F:Nat→Prop} {rest:List Oper} {E:Prop} {x:Tr} {fn:Func}
theorem Bx.set9 {w:World} {R:Nat} (h:Bx w R T cs) (c:cs.length=9):Bx (((((((((w.setCell R v0).setCell ⟨R,1,none⟩ v1).setCell ⟨R,2,none⟩ v2).setCell ⟨R,3,none⟩ v3).setCell ⟨R,4,none⟩ v4).setCell ⟨R,5,none⟩ v5).setCell ⟨R,6,none⟩ v6).setCell ⟨R,7,none⟩ v7).setCell ⟨R,8,none⟩ v8) R T [v0,v1,v2,v3,v4,v5,v6,v7,v8]:=by
 have b:=((((((((h.set 0 v0).set 1 v1).set 2 v2).set 3 v3).set 4 v4).set 5 v5).set 6 v6).set 7 v7).set 8 v8;have e:((((((((cs.set 0 v0).set 1 v1).set 2 v2).set 3 v3).set 4 v4).set 5 v5).set 6 v6).set 7 v7).set 8 v8=[v0,v1,v2,v3,v4,v5,v6,v7,v8]:=by
  match cs,c with
  | [_,_,_,_,_,_,_,_,_],_=>rfl
 rw[e]at b;exact b
theorem Bx.drew {w:World} {R:Nat} (h:Bx w R T cs):Bx w.drew R T cs:=h
theorem zML {P:Program} {f:Func} {Q:Ending→World→Prop} {a:Act} {F:World→Prop} (h:F W) (k:∀V,F V→bodyPost P f Q .ret a V):bodyPost P f Q .ret a W:=k W h
theorem Bx.nine {w:World} {R:Nat} (h:Bx w R T [v0,v1,v2,v3,v4,v5,v6,v7,v8]):
 w.cell? R=some v0∧w.cell? ⟨R,1,none⟩=some v1∧w.cell? ⟨R,2,none⟩=some v2∧w.cell? ⟨R,3,none⟩=some v3∧w.cell? ⟨R,4,none⟩=some v4∧w.cell? ⟨R,5,none⟩=some v5∧w.cell? ⟨R,6,none⟩=some v6∧w.cell? ⟨R,7,none⟩=some v7∧w.cell? ⟨R,8,none⟩=some v8:=
 ⟨h.cell 0,h.cell 1,h.cell 2,h.cell 3,h.cell 4,h.cell 5,h.cell 6,h.cell 7,h.cell 8⟩
theorem Bx.nineF {w:World} {R:Nat} (h:Bx w R T cs):
 w.frozen? R=false∧w.frozen? ⟨R,1,none⟩=false∧w.frozen? ⟨R,2,none⟩=false∧w.frozen? ⟨R,3,none⟩=false∧w.frozen? ⟨R,4,none⟩=false∧w.frozen? ⟨R,5,none⟩=false∧w.frozen? ⟨R,6,none⟩=false∧w.frozen? ⟨R,7,none⟩=false∧w.frozen? ⟨R,8,none⟩=false:=
 ⟨h.frozen 0,h.frozen 1,h.frozen 2,h.frozen 3,h.frozen 4,h.frozen 5,h.frozen 6,h.frozen 7,h.frozen 8⟩
theorem zG0 {C:Pc} {s:Ps} {w:World} (h:Pa C s w):
 Calls prog 32 #[C] w (zaq C s (zH C.L s.k) w):=by
 have o:=h.kN;obtain⟨W,j⟩:=jx (w.alloc (.cells zBP.toArray 78));have d:w.grownBy W none:=by rw[←j];exact zG w _ none
 have c:Bx W w.heap.size 78 zBP:=by rw[←j];exact Bx.new w zBP 78
 have l:=zA (h.new d);have u:=zA h;obtain⟨gT,As,Am,c1,c2,y,a0,t⟩:=l.out.at_ s.k o;have q:=zA t;have x0:=l.out.c0;have x1:=l.out.c1;rw[y]at x0;obtain⟨m,p⟩:=jx (zH C.L s.k);rw[p]at t q⊢;obtain⟨D,E,G,H,I,J,M,O,P,_,_⟩:=t;obtain⟨k,hk⟩:∃k,s.k=k:=⟨_,rfl⟩;rw[hk]at x1 D E G H I J M O P o;have Q:C.N≤4097:=h.cx.n4;have z:=zA d;have f:=zA c;obtain⟨R,S,T,U,Y,z5,z6,z7,z8⟩:=c.nine;obtain⟨f0,f1,f2,f3,f4,f5,f6,f7,f8⟩:=c.nineF;obtain⟨X,r⟩:=jx w.heap.size;have A:=zA r;unfold zBP at j;clear p y h d c;go_enter func32,ntmps32;go_upto_region 1 with(fail);clear j;rw[r]at R S T U Y z5 z6 z7 z8 f0 f1 f2 f3 f4 f5 f6 f7 f8 f;clear r;go_region
 all_goals go_wp2_with fail
 all_goals
  refine zML (F:=fun V=>Bx V X 78 (zW0 m As Am c1 c2)∧W.grownBy V (some X)) ⟨(f.out.set9 rfl).drew,zC zBh (zAw _ _)⟩ ?_;rintro V ⟨hb,hg⟩;obtain⟨q0,q1,q2,q3,q4,q5,q6,q7,q8⟩:=hb.nine;refine bodyPost_ret (v:=zYQ m As Am c1 c2) (by simp[results,results32,go_sem,q0,q1,q2,q3,q4,q5,q6,q7,q8,zYQ]) rfl ?_;have B:Fz W (fun _=>False) (some X):=.box f jd jd js;have a1:C.g < X:=by rw[←A.out];exact u.out.lt
  refine⟨As,Am,c1,c2,rfl,zCE q.out.str (.inl rfl) hg B,zCE q.out.mag (.inr rfl) hg B,l.out.grown hg (fun b e=>by injection e with e;omega),?_⟩;exact zCF z (by rw[←A.out];exact yAC _) hg
theorem zK3 (n k:Nat):((n:Int)==(k:Int))=(n==k):=by
 rw[yBJ,yBL,yBL];omega
def zY7 (C:Pc) (s:Ps) (kd:Nat) (tx:jE) (st:jH) (nk nn:Int) (mg:List Nat) (ps:Nat) (nl:Bool) (w:World) (e:Ending) (w':World):Prop:=
 ∃As Am c1 c2,e=.returned (.agg #[kd,tx,.slice As st.length c1,nk,nn,false,.slice Am mg.length c2,ps,nl])∧
  w'.ownsRow 0 104 1 (.slice As st.length c1) st.length (zAC st)∧w'.ownsRow 0 119 1 (.slice Am mg.length c2) mg.length (zBg mg)∧Pa C s w'∧w.grownBy w' none
theorem zj {C:Pc} {s:Ps} {w:World} (h:Pa C s w) {b:jH} {c:List Nat} (d:zH C.L s.k=⟨kd,tx,b,nk,nn,c,ps,nl⟩):
 Calls prog 32 #[C] w (zY7 C s kd tx b nk nn c ps nl w):=by
 have h1:=zG0 h;rw[d]at h1;exact h1
theorem zY8 (c0 c1 c2 c3 c4 c5 c6 c7 c8:Value) (w:World):(Instr.field 78 (.agg #[c0,c1,c2,c3,c4,c5,c6,c7,c8]) 0).run prog w=.ok c0 w:=by
 unfold Instr.field
 go_simp
 simp[asAgg]
theorem zar (c0 c1 c2 c3 c4 c5 c6 c7 c8:Value) (w:World):(Instr.field 78 (.agg #[c0,c1,c2,c3,c4,c5,c6,c7,c8]) 1).run prog w=.ok c1 w:=by
 unfold Instr.field
 go_simp
 simp[asAgg]
theorem zas (c0 c1 c2 c3 c4 c5 c6 c7 c8:Value) (w:World):(Instr.field 78 (.agg #[c0,c1,c2,c3,c4,c5,c6,c7,c8]) 5).run prog w=.ok c7 w:=by
 unfold Instr.field
 go_simp
 simp[asAgg]
theorem zNp (c0 c1 c2 c3 c4 c5 c6 c7 c8:Value) (w:World):(Instr.field 78 (.agg #[c0,c1,c2,c3,c4,c5,c6,c7,c8]) 6).run prog w=.ok c8 w:=by
 unfold Instr.field
 go_simp
 simp[asAgg]
theorem zVv {t:Tok} {c1 c2:Nat} (w:jE) {b:Bool} (hb:isT t w=b):
 Calls prog 76 #[.agg #[t.kind,t.text,.slice As t.str.length c1,t.nk,t.nn,false,.slice Am t.mag.length c2,t.pos,t.nl],w] W fun e w'=>e=.returned b∧W.grownBy w' none:=by
 go_enter func76,ntmps76;go_wp2_with fail
 all_goals go_ret
 all_goals refine⟨?_,zG _ _ _⟩
 all_goals refine zF ?_
 all_goals rw[←hb]
 all_goals unfold isT
 · have c:t.kind=5:=by omega
   simp[*]
 · rename_i h1 d
   have e5:((t.kind:Int)==5)=(t.kind==5):=zK3 t.kind 5;have e6:((t.kind:Int)==6)=(t.kind==6):=zK3 t.kind 6;rw[h1,e5,e6];simp
 · simp[*]
theorem zDP {c:jH} {c1 c2:Nat} (w:jE) {b:Bool} (hb:isT ⟨kd,tx,c,nk,nn,d,ps,nl⟩ w=b):
 Calls prog 76 #[.agg #[kd,tx,.slice As c.length c1,nk,nn,false,.slice Am d.length c2,ps,nl],w] W fun e w'=>e=.returned b∧W.grownBy w' none:=zVv (t:=⟨kd,tx,c,nk,nn,d,ps,nl⟩) w hb
theorem zBe {C:Pc} {s:Ps} {w:World} (h:Pa C s w) {b:Bool} (hb:(s.bad==0)=b):
 Calls prog 123 #[C] w (zNo C s b w):=by
 have d:=h.c2;have c:=zA h;clear h;go_enter func123,ntmps123;go_wp2_with fail;go_ret;refine⟨zF ?_,c,World.grownBy.refl _ _⟩;rw[←hb];exact zK3 s.bad 0
theorem zAi {C:Pc} {s:Ps} {w:World} (h:Pa C s w) (v:jE) {b:Bool} (hb:onP C.L v s=b):
 Calls prog 125 #[C,v] w (zNo C s b w):=by
 have l:=zA h;have m:=zA hb;clear h hb;go_enter func125,ntmps125;go_wp2_with fail;refine(zG0 l).mono ?_;rintro e1 w1 ⟨As,Am,c1,c2,rfl,_,_,c,d⟩;have j:=zA c;have k:=zA d;clear c d;go_wp2_with fail;refine(zVv v m).mono ?_;rintro e2 w2 ⟨rfl,e⟩;have f:=zA e;clear e;go_wp2_with fail;go_ret;exact⟨rfl,j.out.new f,zC k f⟩
theorem Pa.last {C:Pc} {s:Ps} {w:World} (h:Pa C s w):((C.N:Int) - 1)=((C.L.length - 1:Nat):Int):=by
 have:=h.cx.n;have:=h.cx.lst.pos;omega
theorem Pa.sets {C:Pc} {s s':Ps} {w w':World} (h:Pa C s w) (hg:w.grownBy w' (some C.g)) (hb:Bx w' C.g 50 (psV C s')) (hk:s'.k≤C.L.length - 1):Pa C s' w':=
 ⟨h.cx,h.keep.grown hg h.keep.size (fun b e=>by injection e with e;have:=h.cx.lo;omega),hb,hk⟩
theorem Pa.fail0 {C:Pc} {s:Ps} {w:World} (h:Pa C s w) (hb:s.bad=0) (b:e≠0) (c:((C.N:Int) - 1)=((C.L.length - 1:Nat):Int)):Pa C (zC8 C.L e s) (((w.setCell ⟨C.g,2,none⟩ (.int .i64 (e:Int))).setCell ⟨C.g,3,none⟩ (.int .i64 ((zH C.L s.k).pos:Int))).setCell ⟨C.g,1,none⟩ (.int .i64 ((C.N:Int) - 1))):=by
 refine h.sets (zC (zC (zM _ _ _ _) (zM _ _ _ _)) (zM _ _ _ _)) ?_ (yAC _);have:=((h.box.set 2 (.int .i64 (e:Int))).set 3 (.int .i64 ((zH C.L s.k).pos:Int))).set 1 (.int .i64 ((C.N:Int) - 1));have e1:psV C (zC8 C.L e s)=(((psV C s).set 2 (.int .i64 (e:Int))).set 3 (.int .i64 ((zH C.L s.k).pos:Int))).set 1 (.int .i64 ((C.N:Int) - 1)):=by
  unfold psV zC8 zVu;simp[hb,b,c]
 rw[e1];exact this
theorem Pa.fail1 {C:Pc} {s:Ps} {w:World} (h:Pa C s w) (hb:¬s.bad=0) (b:((C.N:Int) - 1)=((C.L.length - 1:Nat):Int)):Pa C (zC8 C.L e s) (w.setCell ⟨C.g,1,none⟩ (.int .i64 ((C.N:Int) - 1))):=by
 refine h.sets (zM _ _ _ _) ?_ (yAC _);have:=h.box.set 1 (.int .i64 ((C.N:Int) - 1));have e1:psV C (zC8 C.L e s)=(psV C s).set 1 (.int .i64 ((C.N:Int) - 1)):=by
  unfold psV zC8 zVu;simp[hb,b]
 rw[e1];exact this
theorem zCv {C:Pc} {s:Ps} {w:World} (h:Pa C s w) (e:Nat) (m:e≠0):
 Calls prog 153 #[C,e] w (zYR C (zC8 C.L e s) w):=by
 have o:=h.c2;have x0:=h.c0;have x1:=h.c1;have f1:=h.f 1;have p:C.N≤4097:=h.cx.n4;have d:=zA h.last;have j:=zA h
 by_cases hb:s.bad=0
 · have e1:((s.bad:Int)==0)=true:=by rw[hb];rfl
   clear x0 x1 f1 h;have q:=zA hb;clear hb;go_enter func153,ntmps153;go_wp2_with fail;refine(zG0 j).mono ?_;rintro e1 w1 ⟨As,Am,c1,c2,rfl,_,_,b,c⟩;have k:=zA b;have l:=zA c;have r:=b.c0;have t:=b.c1;have u:=b.c2;have v:=b.c3;have g1:=b.f 1;have g2:=b.f 2;have y:=b.f 3;clear b c o;have z:=zas;go_wp2_with fail
   go_end0
   exact⟨rfl,k.out.fail0 q m d,zC (zAX l _) (zC (zC (zM _ _ _ _) (zM _ _ _ _)) (zM _ _ _ _))⟩
 · have e1:((s.bad:Int)==0)=false:=by rw[yA];omega
   go_enter func153,ntmps153;go_wp2_with fail
   go_end0
   exact⟨rfl,j.out.fail1 hb d,zM _ _ _ _⟩
theorem Pa.stepI {C:Pc} {s:Ps} {w:World} (h:Pa C s w) (hk:s.k < C.L.length - 1) (b:z=(s.k:Int)+1):Pa C (zB s) (w.setCell ⟨C.g,1,none⟩ (.int .i64 z)):=
 h.to (k':=s.k+1) jo hk
theorem zAJ {C:Pc} {s:Ps} {w:World} (h:Pa C s w):
 Calls prog 124 #[C] w (zYR C (zb C.L s) w):=by
 have q:=zA h;clear h;go_enter func124,ntmps124;go_wp2_with fail;refine(zG0 q).mono ?_;rintro e1 w1 ⟨As,Am,c1,c2,rfl,_,_,o,p⟩;have f:=zA o;have j:=zA p;clear o p
 by_cases hk:(zH C.L s.k).kind=6
 · have e6:(((zH C.L s.k).kind:Int)==6)=true:=by rw[hk];rfl
   by_cases l:zCS (zH C.L s.k).text=2
   · have e2:((zCS (zH C.L s.k).text:Int)==2)=true:=by rw[l];rfl
     have m:=zA (show zb C.L s=zC8 C.L 6 s by unfold zb;rw[if_pos ⟨hk,l⟩]);clear hk l;go_wp2_with (go_at_call 113;refine(zDl _ _).mono ?_;rintro e3 w3 ⟨rfl,rfl⟩);refine(zCv (f.out.alloc _) 6 jd).mono ?_;rintro e2 w2 ⟨rfl,b,c⟩;have d:=zA b;have e:=zA c;clear b c;go_wp2_with fail;refine jr ?_;rw[m.out];exact⟨rfl,d,zC (zAX j _) (zC (zG _ _ _) e)⟩
   · have e2:((zCS (zH C.L s.k).text:Int)==2)=false:=by rw[yA];omega
     have m:=zA (show zb C.L s=zC8 C.L 5 s by unfold zb;rw[if_neg (fun h=>l h.2)]);clear hk l;go_wp2_with (go_at_call 113;refine(zDl _ _).mono ?_;rintro e3 w3 ⟨rfl,rfl⟩);refine(zCv (f.out.alloc _) 5 jd).mono ?_;rintro e2 w2 ⟨rfl,b,c⟩;have d:=zA b;have e:=zA c;clear b c;go_wp2_with fail
     go_end0
     rw[m.out];exact⟨rfl,d,zC (zAX j _) (zC (zG _ _ _) e)⟩
 · have e6:(((zH C.L s.k).kind:Int)==6)=false:=by rw[yA];omega
   have m:=zA (show zb C.L s=zC8 C.L 5 s by unfold zb;rw[if_neg (fun h=>hk h.1)]);clear hk;go_wp2_with fail;refine(zCv (f.out.alloc _) 5 jd).mono ?_;rintro e2 w2 ⟨rfl,b,c⟩;have d:=zA b;have e:=zA c;clear b c;go_wp2_with fail
   go_end0
   rw[m.out];exact⟨rfl,d,zC (zAX j _) (zC (zG _ _ _) e)⟩
def zZP (b:Bool) (s:Ps):Ps:=if b=true then zB s else s
theorem zA1 {C:Pc} {s:Ps} {w:World} (h:Pa C s w) (v:jE) {b:Bool} (hb:onP C.L v s=b):
 Calls prog 79 #[C,v] w (zY5 C (zZP b s) b w):=by
 have l:=zA h;have k:=zA hb;have m:C.N≤4097:=h.cx.n4;have o:=h.kN;clear h hb;go_enter func79,ntmps79;go_wp2_with fail;refine(zAi l v k).mono ?_;rintro e1 w1 ⟨rfl,c,e⟩;have d:=zA c;have j:=zA e;have x1:=c.c1;have f1:=c.f 1;clear c e;cases b with
 | false=>
  go_wp2_with fail;go_ret;exact⟨rfl,d,zAX j _⟩
 | true=>
  go_wp2_with fail;go_ret;exact⟨rfl,d.out.stepI (d.out.cx.lst.on d.out.hi k) jo,zC (zAX j _) (zM _ _ _ _)⟩
theorem zAH {C:Pc} {s:Ps} {w:World} (h:Pa C s w) (v:jE):
 Calls prog 120 #[C,v] w (zYR C (zO C.L v s) w):=by
 have m:=zA h;clear h
 by_cases hb:onP C.L v s=true
 · have k:=zA (show zO C.L v s=zB s by unfold zO;rw[if_pos hb]);have l:=zA hb;clear hb;go_enter func120,ntmps120;go_wp2_with fail;refine(zA1 m v l).mono ?_;rintro e1 w1 ⟨rfl,b,c⟩;have d:=zA b;have e:=zA c;clear b c;go_wp2_with fail
   go_end0
   rw[k.out];exact⟨rfl,d,e⟩
 · have k:=zA (show zO C.L v s=zb C.L s by unfold zO;rw[if_neg hb]);have l:=zA (show onP C.L v s=false by simpa using hb);clear hb;go_enter func120,ntmps120;go_wp2_with fail;refine(zA1 m v l).mono ?_;rintro e1 w1 ⟨rfl,b,c⟩;have d:=zA (show Pa C s w1 from b);have e:=zA c;clear b c;go_wp2_with fail;refine(zAJ d).mono ?_;rintro e2 w2 ⟨rfl,f,j⟩;have o:=zA f;have p:=zA j;clear f j;go_wp2_with fail
   go_end0
   rw[k.out];exact⟨rfl,o,zC e p⟩
theorem zD8 {C:Pc} {s:Ps} {w:World} (h:Pa C s w):
 Calls prog 80 #[C] w (zY6 C (ze C.L s) w):=by
 have y:=zA h;have z:C.N≤4097:=h.cx.n4;have B:=h.kN;clear h;go_enter func80,ntmps80;go_wp2_with fail;refine(zG0 y).mono ?_;rintro e1 w1 ⟨As,Am,c1,c2,rfl,_,_,b,c⟩;have j:=zA (zAX c (some C.g))
 by_cases hk:(zH C.L s.k).kind=1
 · have e6:(((zH C.L s.k).kind:Int) !=1)=false:=by rw[hk];rfl
   have o:=zA (show ze C.L s=((zH C.L s.k).text,zB s) by unfold ze;rw[if_pos hk]);have A:=zA (b.cx.lst.lt b.hi jo);obtain⟨W,p⟩:=jx (w1.alloc (.cells #[((zH C.L s.k).kind:Int),.string ⟨(zH C.L s.k).text.toArray⟩,.slice As (zH C.L s.k).str.length c1,.int .i64 (zH C.L s.k).nk,.int .i64 (zH C.L s.k).nn,false,.slice Am (zH C.L s.k).mag.length c2,((zH C.L s.k).pos:Int),.bool (zH C.L s.k).nl] 78));have d:w1.grownBy W none:=by rw[←p];exact zG _ _ _
   have q:=zA (show Bx W w1.heap.size 78 (zW0 (zH C.L s.k) As Am c1 c2) by rw[←p];exact Bx.new w1 (zW0 (zH C.L s.k) As Am c1 c2) 78);have e:=zA (b.new d);have r:=zA (zAX d (some C.g));have x1:=e.out.c1;have f1:=e.out.f 1;obtain⟨E,F,G,H,I,J,M,O,P⟩:=q.out.nine;have D:=b.lt;clear hk b c d;go_wp2_with fail;go_ret;rw[o.out];exact⟨rfl,e.out.stepI A jo,zC j (zC r (zM _ _ _ _))⟩
 · have e6:(((zH C.L s.k).kind:Int) !=1)=true:=by rw[yBM];omega
   have o:=zA (show ze C.L s=([],zb C.L s) by unfold ze;rw[if_neg hk]);have t:=zA b;clear hk b c;go_wp2_with fail;refine(zAJ (t.out.alloc _)).mono ?_;rintro e2 w2 ⟨rfl,l,m⟩;have u:=zA l;have v:=zA m;clear l m;go_wp2_with fail;go_ret;rw[o.out];exact⟨rfl,u,zC j (zC (zG _ _ _) v)⟩
theorem zDv {L:List Tok} {s:Ps} {t:Tok} {v:jE} (h:zH L s.k=t):onP L v s=isT t v:=by unfold onP;rw[h]
theorem zB8 {C:Pc} {s:Ps} {w:World} (h:Pa C s w):
 Calls prog 78 #[C] w (zYR C (zEK C.L s) w):=by
 have HP:=zA h;obtain⟨⟨kd,tx,u,nk,nn,y,ps,nl⟩,c⟩:=jx (zH C.L s.k);have HT:=zA c;obtain⟨I,j⟩:=jx (onP C.L [59] s);obtain⟨J,l⟩:=jx (isT ⟨kd,tx,u,nk,nn,y,ps,nl⟩ [125]);have m:=zA (show zEK C.L s=if I=true then zB s else if(J || kd==0 || nl)=true then s else zb C.L s by unfold zEK;rw[j,zDv c,c,l]);have M:=zA j;have N:=zA l;clear h j l c;go_enter func78,ntmps78;go_upto_region 1 with(fail);refine(zj HP HT).mono ?_;rintro e1 w1 ⟨As,Am,c1,c2,rfl,O,P,o,A⟩;obtain⟨W,H⟩:=jx (w1.alloc (.cells #[kd,tx,.slice As u.length c1,nk,nn,false,.slice Am y.length c2,ps,nl] 78));have p:w1.grownBy W none:=by rw[←H];exact zG _ _ _
 have q:=zA (show Bx W w1.heap.size 78 [kd,tx,.slice As u.length c1,nk,nn,false,.slice Am y.length c2,ps,nl] by rw[←H];exact Bx.new w1 [kd,tx,.slice As u.length c1,nk,nn,false,.slice Am y.length c2,ps,nl] 78);have Q:=zA (o.new p);have R:=zA (zC A p);obtain⟨X,z⟩:=jx w1.heap.size;have a3:C.g < X:=by rw[←z];exact o.lt
 rw[z]at q;clear O P o A p;go_upto_region 1 with(fail);clear H
 (try rw[z])
 clear z;go_wp2_with fail;refine(zA1 Q [59] M).mono ?_;rintro e2 w2 ⟨rfl,B,r⟩;have D:=zA B;have E:=zA (zC (zAX R (some C.g)) r);have t:=zA (q.out.grown r (by simp;omega));clear B r q;obtain⟨S,T,U,V,Y,z5,z6,z7,z8⟩:=t.out.nine;cases I with
 | true=>
  go_wp2_with fail;refine jr ?_;rw[m.out];exact⟨rfl,D,E⟩
 | false=>
  go_wp2_with fail;refine(zDP [125] N).mono ?_;rintro e3 w3 ⟨rfl,d⟩;have e:=zA (D.out.new d);have f:=zA (zC E (zAX d _));have a0:=zA (t.out.grown d js);clear d t S T U V Y z5 z6 z7 z8;obtain⟨S,T,U,V,Y,z5,z6,z7,z8⟩:=a0.out.nine;cases J with
  | true=>
   go_wp2_with fail;refine jr ?_;rw[m.out];exact⟨rfl,e,f⟩
  | false=>
   by_cases hk:kd=0
   · subst hk;go_wp2_with fail;refine jr ?_;rw[m.out];exact⟨rfl,e,f⟩
   · have e0:((kd:Int)==0)=false:=by rw[yA];omega
     have E0:=zA (show(kd==0)=false by rw[yA];omega);clear hk;cases nl with
     | true=>
      go_wp2_with fail;refine jr ?_;rw[m.out,E0.out];exact⟨rfl,e,f⟩
     | false=>
      go_wp2_with fail;refine(zAJ e).mono ?_;rintro e4 w4 ⟨rfl,F,G⟩;have a1:=zA F;have a2:=zA (zC f G);clear F G;go_wp2_with fail
      go_end0
      rw[m.out,E0.out];exact⟨rfl,a1,a2⟩
theorem zJl {C:Pc} {s:Ps} {w:World} (h:Pa C s w) {b:Bool} (hb:zDm C.L s=b):
 Calls prog 157 #[C] w (zNo C s b w):=by
 have HP:=zA h;obtain⟨⟨kd,tx,f,nk,nn,j,ps,nl⟩,c⟩:=jx (zH C.L s.k);have HT:=zA c;obtain⟨D,l⟩:=jx (isT ⟨kd,tx,f,nk,nn,j,ps,nl⟩ [59]);obtain⟨b1,m⟩:=jx (isT ⟨kd,tx,f,nk,nn,j,ps,nl⟩ [125]);have u:=zA (show b=(nl || kd==0 || D || b1) by rw[←hb];unfold zDm;rw[zDv c,zDv c,c,l,m]);have E:=zA l;have F:=zA m;clear h l m c hb;go_enter func157,ntmps157;go_upto_region 2 with(fail);refine(zj HP HT).mono ?_;rintro e1 w1 ⟨As,Am,c1,c2,rfl,G,H,o,y⟩;obtain⟨W,B⟩:=jx (w1.alloc (.cells #[kd,tx,.slice As f.length c1,nk,nn,false,.slice Am j.length c2,ps,nl] 78));have p:w1.grownBy W none:=by rw[←B];exact zG _ _ _
 have d:=zA (show Bx W w1.heap.size 78 [kd,tx,.slice As f.length c1,nk,nn,false,.slice Am j.length c2,ps,nl] by rw[←B];exact Bx.new w1 [kd,tx,.slice As f.length c1,nk,nn,false,.slice Am j.length c2,ps,nl] 78);have q:=zA (o.new p);have r:=zA (zC y p);obtain⟨X,v⟩:=jx w1.heap.size;have a0:C.g < X:=by rw[←v];exact o.lt
 rw[v]at d;clear G H o y p;go_upto_region 2 with(fail);clear B
 (try rw[v])
 clear v;obtain⟨I,J,M,N,O,P,Q,R,S⟩:=d.out.nine;cases nl with
 | true=>
  go_wp2_with fail;go_ret;exact⟨zF (by rw[u.out];rfl),q,r⟩
 | false=>
  by_cases hk:kd=0
  · subst hk;go_wp2_with fail;go_ret;exact⟨zF (by rw[u.out];rfl),q,r⟩
  · have e0:((kd:Int)==0)=false:=by rw[yA];omega
    have T:=zA (show(kd==0)=false by rw[yA];omega);clear hk;go_wp2_with fail;refine(zDP [59] E).mono ?_;rintro e3 w3 ⟨rfl,e⟩;have z:=zA (q.out.new e);have A:=zA (zC r e);have U:=zA (d.out.grown e js);clear e d I J M N O P Q R S;obtain⟨I,J,M,N,O,P,Q,R,S⟩:=U.out.nine;cases D with
    | true=>
     go_wp2_with fail;go_ret;exact⟨zF (by rw[u.out,T.out];rfl),z,A⟩
    | false=>
     go_wp2_with fail;refine(zDP [125] F).mono ?_;rintro e4 w4 ⟨rfl,t⟩;have V:=zA (z.out.new t);have Y:=zA (zC A t);clear t;go_wp2_with fail;go_ret;exact⟨zF (by rw[u.out,T.out];rfl),V,Y⟩
theorem zAr {w:World} (k:Int) (A:jQ) (n c:Nat):
 Calls prog 31 #[k,.slice A n c] w fun e w'=>e=.returned (.agg #[k,"",(),(0:Int),(0:Int),false,(),(),.slice A n c])∧w.grownBy w' none:=by
 go_enter func31,ntmps31;obtain⟨q0,q1,q2,q3,q4,q5,q6,q7,q8⟩:=(Bx.new w [k,"",(),(0:Int),(0:Int),false,(),(),.slice A n c] 61).nine;go_wp2_with fail;refine bodyPost_ret (v:=.agg #[k,"",(),(0:Int),(0:Int),false,(),(),.slice A n c]) (by simp[results,results31,go_sem,q0,q1,q2,q3,q4,q5,q6,q7,q8]) rfl ?_;exact⟨rfl,zG _ _ _⟩
theorem zDB {w:World} (k:Int) (b:ByteArray) (A:jQ) (n c:Nat):
 Calls prog 121 #[k,.string b,.slice A n c] w fun e w'=>e=.returned (.agg #[k,.string b,(),(0:Int),(0:Int),false,(),(),.slice A n c])∧w.grownBy w' none:=by
 go_enter func121,ntmps121;obtain⟨q0,q1,q2,q3,q4,q5,q6,q7,q8⟩:=(Bx.new w [k,.string b,(),(0:Int),(0:Int),false,(),(),.slice A n c] 61).nine;go_wp2_with fail;refine bodyPost_ret (v:=.agg #[k,.string b,(),(0:Int),(0:Int),false,(),(),.slice A n c]) (by simp[results,results121,go_sem,q0,q1,q2,q3,q4,q5,q6,q7,q8]) rfl ?_;exact⟨rfl,zG _ _ _⟩
theorem zA9 {C:Pc} {s:Ps} {w:World} (h:Pa C s w) (j:Nat) (c:Int) (y:c=(j:Int)) (z:j≤10000) {m:jH} {o:List Nat} (r:zH C.L (min (s.k+j) (C.N - 1))=⟨kd,tx,m,nk,nn,o,ps,nl⟩):
 Calls prog 128 #[C,c] w (zY7 C s kd tx m nk nn o ps nl w):=by
 have A:=h.kN;have M:C.N≤4097:=h.cx.n4;obtain⟨i,hi⟩:=jx (min (s.k+j) (C.N - 1));rw[hi]at r;have hiN:i < C.N:=by omega
 obtain⟨W,p⟩:=jx (w.alloc (.cells zBP.toArray 78));have f:w.grownBy W none:=by rw[←p];exact zG w _ none
 have d:Bx W w.heap.size 78 zBP:=by rw[←p];exact Bx.new w zBP 78
 have B:=zA h;have q:=zA (h.new f);obtain⟨gT,As,Am,c1,c2,D,a0,t⟩:=q.out.at_ i hiN;have x0:=q.out.c0;have x1:=q.out.c1;rw[D]at x0;rw[r]at t;have E:=zA t;obtain⟨y0,y1,y2,y3,y4,y5,y6,y7,y8,_,_⟩:=t;obtain⟨k,hk⟩:∃k,s.k=k:=⟨_,rfl⟩;rw[hk]at x1 A hi;have J:min ((k:Int)+c) ((C.N:Int) - 1)=(i:Int):=by omega
 have O:(if(C.N:Int) - 1 < (k:Int)+c then(C.N:Int) - 1 else(k:Int)+c)=(i:Int):=by subst y;split<;>omega
 have a1:0≤c:=by omega
 have a2:c≤10000:=by omega
 have G:=zA f;have l:=zA d;obtain⟨P,Q,R,S,T,U,Y,z7,z8⟩:=d.nine;obtain⟨f0,f1,f2,f3,f4,f5,f6,f7,f8⟩:=d.nineF;obtain⟨X,u⟩:=jx w.heap.size;have H:=zA u;unfold zBP at p;clear D h f d r hi y hk z;go_enter func128,ntmps128;go_upto_region 1 with(fail);clear p;rw[u]at P Q R S T U Y z7 z8 f0 f1 f2 f3 f4 f5 f6 f7 f8 l;clear u;go_region
 all_goals go_wp2_with fail
 all_goals
  refine zML (F:=fun V=>Bx V X 78 [kd,tx,.slice As m.length c1,nk,nn,false,.slice Am o.length c2,ps,nl]∧W.grownBy V (some X)) ⟨(l.out.set9 rfl).drew,zC zBh (zAw _ _)⟩ ?_;rintro V ⟨hb,hg⟩;obtain⟨q0,q1,q2,q3,q4,q5,q6,q7,q8⟩:=hb.nine;refine bodyPost_ret (v:=.agg #[kd,tx,.slice As m.length c1,nk,nn,false,.slice Am o.length c2,ps,nl]) (by simp[results,results128,go_sem,q0,q1,q2,q3,q4,q5,q6,q7,q8]) rfl ?_;have I:Fz W (fun _=>False) (some X):=.box l jd jd js;have a3:C.g < X:=by rw[←H.out];exact B.out.lt
  refine⟨As,Am,c1,c2,rfl,zCE E.out.str (.inl rfl) hg I,zCE E.out.mag (.inr rfl) hg I,q.out.grown hg (fun b e=>by injection e with e;omega),?_⟩;exact zCF G (by rw[←H.out];exact yAC _) hg
def zJm (n:Nat):Int:=if n=9 then -1 else(n:Int)
theorem zW1 {b:jH} {c:List Nat} {c1 c2:Nat}:Calls prog 187 #[.agg #[(5:Int),.string ⟨#[124]⟩,.slice As b.length c1,nk,nn,false,.slice Am c.length c2,ps,nl]] W fun e w'=>e=.returned (0:Int)∧W.grownBy w' none:=by
 go_enter func187,ntmps187;go_wp2_with fail;go_ret;exact⟨rfl,zG _ _ _⟩
theorem zW2 {b:jH} {c:List Nat} {c1 c2:Nat}:Calls prog 187 #[.agg #[(5:Int),.string ⟨#[94]⟩,.slice As b.length c1,nk,nn,false,.slice Am c.length c2,ps,nl]] W fun e w'=>e=.returned (1:Int)∧W.grownBy w' none:=by
 go_enter func187,ntmps187;go_wp2_with fail;go_ret;exact⟨rfl,zG _ _ _⟩
theorem zW3 {b:jH} {c:List Nat} {c1 c2:Nat}:Calls prog 187 #[.agg #[(5:Int),.string ⟨#[38]⟩,.slice As b.length c1,nk,nn,false,.slice Am c.length c2,ps,nl]] W fun e w'=>e=.returned (2:Int)∧W.grownBy w' none:=by
 go_enter func187,ntmps187;go_wp2_with fail;go_ret;exact⟨rfl,zG _ _ _⟩
theorem zW4 {b:jH} {c:List Nat} {c1 c2:Nat}:Calls prog 187 #[.agg #[(5:Int),.string ⟨#[61,61]⟩,.slice As b.length c1,nk,nn,false,.slice Am c.length c2,ps,nl]] W fun e w'=>e=.returned (3:Int)∧W.grownBy w' none:=by
 go_enter func187,ntmps187;go_wp2_with fail;go_ret;exact⟨rfl,zG _ _ _⟩
theorem zW5 {b:jH} {c:List Nat} {c1 c2:Nat}:Calls prog 187 #[.agg #[(5:Int),.string ⟨#[33,61]⟩,.slice As b.length c1,nk,nn,false,.slice Am c.length c2,ps,nl]] W fun e w'=>e=.returned (3:Int)∧W.grownBy w' none:=by
 go_enter func187,ntmps187;go_wp2_with fail;go_ret;exact⟨rfl,zG _ _ _⟩
theorem zW6 {b:jH} {c:List Nat} {c1 c2:Nat}:Calls prog 187 #[.agg #[(5:Int),.string ⟨#[61,61,61]⟩,.slice As b.length c1,nk,nn,false,.slice Am c.length c2,ps,nl]] W fun e w'=>e=.returned (3:Int)∧W.grownBy w' none:=by
 go_enter func187,ntmps187;go_wp2_with fail;go_ret;exact⟨rfl,zG _ _ _⟩
theorem zW7 {b:jH} {c:List Nat} {c1 c2:Nat}:Calls prog 187 #[.agg #[(5:Int),.string ⟨#[33,61,61]⟩,.slice As b.length c1,nk,nn,false,.slice Am c.length c2,ps,nl]] W fun e w'=>e=.returned (3:Int)∧W.grownBy w' none:=by
 go_enter func187,ntmps187;go_wp2_with fail;go_ret;exact⟨rfl,zG _ _ _⟩
theorem zW8 {b:jH} {c:List Nat} {c1 c2:Nat}:Calls prog 187 #[.agg #[(5:Int),.string ⟨#[60]⟩,.slice As b.length c1,nk,nn,false,.slice Am c.length c2,ps,nl]] W fun e w'=>e=.returned (4:Int)∧W.grownBy w' none:=by
 go_enter func187,ntmps187;go_wp2_with fail;go_ret;exact⟨rfl,zG _ _ _⟩
theorem zW9 {b:jH} {c:List Nat} {c1 c2:Nat}:Calls prog 187 #[.agg #[(5:Int),.string ⟨#[62]⟩,.slice As b.length c1,nk,nn,false,.slice Am c.length c2,ps,nl]] W fun e w'=>e=.returned (4:Int)∧W.grownBy w' none:=by
 go_enter func187,ntmps187;go_wp2_with fail;go_ret;exact⟨rfl,zG _ _ _⟩
theorem zXA {b:jH} {c:List Nat} {c1 c2:Nat}:Calls prog 187 #[.agg #[(5:Int),.string ⟨#[60,61]⟩,.slice As b.length c1,nk,nn,false,.slice Am c.length c2,ps,nl]] W fun e w'=>e=.returned (4:Int)∧W.grownBy w' none:=by
 go_enter func187,ntmps187;go_wp2_with fail;go_ret;exact⟨rfl,zG _ _ _⟩
theorem zTn {b:jH} {c:List Nat} {c1 c2:Nat}:Calls prog 187 #[.agg #[(5:Int),.string ⟨#[62,61]⟩,.slice As b.length c1,nk,nn,false,.slice Am c.length c2,ps,nl]] W fun e w'=>e=.returned (4:Int)∧W.grownBy w' none:=by
 go_enter func187,ntmps187;go_wp2_with fail;go_ret;exact⟨rfl,zG _ _ _⟩
theorem zTo {b:jH} {c:List Nat} {c1 c2:Nat}:Calls prog 187 #[.agg #[(5:Int),.string ⟨#[105,110]⟩,.slice As b.length c1,nk,nn,false,.slice Am c.length c2,ps,nl]] W fun e w'=>e=.returned (4:Int)∧W.grownBy w' none:=by
 go_enter func187,ntmps187;go_wp2_with fail;go_ret;exact⟨rfl,zG _ _ _⟩
theorem zTp {b:jH} {c:List Nat} {c1 c2:Nat}:Calls prog 187 #[.agg #[(5:Int),.string ⟨#[60,60]⟩,.slice As b.length c1,nk,nn,false,.slice Am c.length c2,ps,nl]] W fun e w'=>e=.returned (5:Int)∧W.grownBy w' none:=by
 go_enter func187,ntmps187;go_wp2_with fail;go_ret;exact⟨rfl,zG _ _ _⟩
theorem zTq {b:jH} {c:List Nat} {c1 c2:Nat}:Calls prog 187 #[.agg #[(5:Int),.string ⟨#[62,62]⟩,.slice As b.length c1,nk,nn,false,.slice Am c.length c2,ps,nl]] W fun e w'=>e=.returned (5:Int)∧W.grownBy w' none:=by
 go_enter func187,ntmps187;go_wp2_with fail;go_ret;exact⟨rfl,zG _ _ _⟩
theorem zTr {b:jH} {c:List Nat} {c1 c2:Nat}:Calls prog 187 #[.agg #[(5:Int),.string ⟨#[62,62,62]⟩,.slice As b.length c1,nk,nn,false,.slice Am c.length c2,ps,nl]] W fun e w'=>e=.returned (5:Int)∧W.grownBy w' none:=by
 go_enter func187,ntmps187;go_wp2_with fail;go_ret;exact⟨rfl,zG _ _ _⟩
theorem zTs {b:jH} {c:List Nat} {c1 c2:Nat}:Calls prog 187 #[.agg #[(5:Int),.string ⟨#[43]⟩,.slice As b.length c1,nk,nn,false,.slice Am c.length c2,ps,nl]] W fun e w'=>e=.returned (6:Int)∧W.grownBy w' none:=by
 go_enter func187,ntmps187;go_wp2_with fail;go_ret;exact⟨rfl,zG _ _ _⟩
theorem zTt {b:jH} {c:List Nat} {c1 c2:Nat}:Calls prog 187 #[.agg #[(5:Int),.string ⟨#[45]⟩,.slice As b.length c1,nk,nn,false,.slice Am c.length c2,ps,nl]] W fun e w'=>e=.returned (6:Int)∧W.grownBy w' none:=by
 go_enter func187,ntmps187;go_wp2_with fail;go_ret;exact⟨rfl,zG _ _ _⟩
theorem zTu {b:jH} {c:List Nat} {c1 c2:Nat}:Calls prog 187 #[.agg #[(5:Int),.string ⟨#[42]⟩,.slice As b.length c1,nk,nn,false,.slice Am c.length c2,ps,nl]] W fun e w'=>e=.returned (7:Int)∧W.grownBy w' none:=by
 go_enter func187,ntmps187;go_wp2_with fail;go_ret;exact⟨rfl,zG _ _ _⟩
theorem zTv {b:jH} {c:List Nat} {c1 c2:Nat}:Calls prog 187 #[.agg #[(5:Int),.string ⟨#[47]⟩,.slice As b.length c1,nk,nn,false,.slice Am c.length c2,ps,nl]] W fun e w'=>e=.returned (7:Int)∧W.grownBy w' none:=by
 go_enter func187,ntmps187;go_wp2_with fail;go_ret;exact⟨rfl,zG _ _ _⟩
theorem zTw {b:jH} {c:List Nat} {c1 c2:Nat}:Calls prog 187 #[.agg #[(5:Int),.string ⟨#[37]⟩,.slice As b.length c1,nk,nn,false,.slice Am c.length c2,ps,nl]] W fun e w'=>e=.returned (7:Int)∧W.grownBy w' none:=by
 go_enter func187,ntmps187;go_wp2_with fail;go_ret;exact⟨rfl,zG _ _ _⟩
theorem zNq {b:jH} {c:List Nat} {c1 c2:Nat} (r:(tx==[124])=false) (s:(tx==[94])=false) (t:(tx==[38])=false) (u:(tx==[61,61])=false) (n4:(tx==[33,61])=false) (v:(tx==[61,61,61])=false) (y:(tx==[33,61,61])=false) (z:(tx==[60])=false) (A:(tx==[62])=false) (B:(tx==[60,61])=false) (d:(tx==[62,61])=false) (f:(tx==[105,110])=false) (g:(tx==[60,60])=false) (j:(tx==[62,62])=false) (k:(tx==[62,62,62])=false) (l:(tx==[43])=false) (m:(tx==[45])=false) (o:(tx==[42])=false) (p:(tx==[47])=false) (q:(tx==[37])=false):Calls prog 187 #[.agg #[(5:Int),tx,.slice As b.length c1,nk,nn,false,.slice Am c.length c2,ps,nl]] W fun e w'=>e=.returned (-1:Int)∧W.grownBy w' none:=by
 go_enter func187,ntmps187;go_wp2_with fail;go_ret;exact⟨rfl,zG _ _ _⟩
theorem zQi {c:jH} {c1 c2:Nat} (hk:kd≠5) (hi:isT ⟨kd,tx,c,nk,nn,d,ps,nl⟩ [105,110]=false):Calls prog 187 #[.agg #[kd,tx,.slice As c.length c1,nk,nn,false,.slice Am d.length c2,ps,nl]] W fun e w'=>e=.returned (-1:Int)∧W.grownBy w' none:=by
 have e5:((kd:Int) !=5)=true:=by rw[yBM];omega
 have g:=zA hi;clear hk hi;go_enter func187,ntmps187;go_wp2_with fail;refine(zDP [105,110] g).mono ?_;rintro e3 w3 ⟨rfl,b⟩;have f:=zA b;clear b;go_wp2_with fail;go_ret;exact⟨rfl,zC (zG _ _ _) f⟩
theorem zTx {c:jH} {c1 c2:Nat}:Calls prog 187 #[.agg #[(6:Int),.string ⟨#[105,110]⟩,.slice As c.length c1,nk,nn,false,.slice Am d.length c2,ps,nl]] W fun e w'=>e=.returned (4:Int)∧W.grownBy w' none:=by
 obtain⟨V,f⟩:=jx (W.alloc (.cells #[(6:Int),.string ⟨#[105,110]⟩,.slice As c.length c1,nk,nn,false,.slice Am d.length c2,ps,nl] 78));have hg:=zA (show W.grownBy V none by rw[←f];exact zG _ _ _);have g:=zA (show Bx V W.heap.size 78 [(6:Int),.string ⟨#[105,110]⟩,.slice As c.length c1,nk,nn,false,.slice Am d.length c2,ps,nl] by rw[←f];exact Bx.new W [(6:Int),.string ⟨#[105,110]⟩,.slice As c.length c1,nk,nn,false,.slice Am d.length c2,ps,nl] 78);obtain⟨k,l,m,o,p,q,r,s,t⟩:=g.out.nine;go_enter func187,ntmps187;go_wp2_with fail;refine(zDP (kd:=6) (tx:=[105,110]) [105,110] rfl).mono ?_;rintro e3 w3 ⟨rfl,b⟩;have j:=zA b;obtain⟨u,v,y,z,A,B,C,D,E⟩:=(g.out.grown b js).nine;clear b;go_wp2_with fail;go_ret;exact⟨rfl,zC hg j⟩
theorem zMM {b:jH} {c:List Nat} {c1 c2:Nat}:Calls prog 187 #[.agg #[kd,tx,.slice As b.length c1,nk,nn,false,.slice Am c.length c2,ps,nl]] W fun e w'=>e=.returned (zJm (zBJ ⟨kd,tx,b,nk,nn,c,ps,nl⟩):Int)∧W.grownBy w' none:=by
 by_cases hk:kd=5
 · subst hk;have e:zBJ ⟨5,tx,b,nk,nn,c,ps,nl⟩=zE0 tx:=by unfold zBJ;rw[if_pos (.inl rfl)]
   rw[e]
   by_cases r:tx=[124]
   · subst r;exact zW1
   by_cases s:tx=[94]
   · subst s;exact zW2
   by_cases t:tx=[38]
   · subst t;exact zW3
   by_cases u:tx=[61,61]
   · subst u;exact zW4
   by_cases n4:tx=[33,61]
   · subst n4;exact zW5
   by_cases v:tx=[61,61,61]
   · subst v;exact zW6
   by_cases y:tx=[33,61,61]
   · subst y;exact zW7
   by_cases z:tx=[60]
   · subst z;exact zW8
   by_cases A:tx=[62]
   · subst A;exact zW9
   by_cases B:tx=[60,61]
   · subst B;exact zXA
   by_cases d:tx=[62,61]
   · subst d;exact zTn
   by_cases f:tx=[105,110]
   · subst f;exact zTo
   by_cases g:tx=[60,60]
   · subst g;exact zTp
   by_cases j:tx=[62,62]
   · subst j;exact zTq
   by_cases k:tx=[62,62,62]
   · subst k;exact zTr
   by_cases l:tx=[43]
   · subst l;exact zTs
   by_cases m:tx=[45]
   · subst m;exact zTt
   by_cases o:tx=[42]
   · subst o;exact zTu
   by_cases p:tx=[47]
   · subst p;exact zTv
   by_cases q:tx=[37]
   · subst q;exact zTw
   have e2:zE0 tx=9:=by unfold zE0;simp[r,s,t,u,n4,v,y,z,A,B,d,f,g,j,k,l,m,o,p,q]
   rw[e2];exact zNq (yA.2 r) (yA.2 s) (yA.2 t) (yA.2 u) (yA.2 n4) (yA.2 v) (yA.2 y) (yA.2 z) (yA.2 A) (yA.2 B) (yA.2 d) (yA.2 f) (yA.2 g) (yA.2 j) (yA.2 k) (yA.2 l) (yA.2 m) (yA.2 o) (yA.2 p) (yA.2 q)
 · by_cases hi:isT ⟨kd,tx,b,nk,nn,c,ps,nl⟩ [105,110]=true
   · have h6:kd=6∧tx=[105,110]:=by
      unfold isT at hi;simp at hi;exact⟨by omega,hi.1⟩
     obtain⟨rfl,rfl⟩:=h6;exact zTx
   · have C:isT ⟨kd,tx,b,nk,nn,c,ps,nl⟩ [105,110]=false:=by simpa using hi
     have e:zBJ ⟨kd,tx,b,nk,nn,c,ps,nl⟩=9:=by
      unfold zBJ;rw[if_neg];rintro(h | h)
      · exact hk h
      · exact hi h
     rw[e];exact zQi hk C
def NodR (C:Pc) (Q:Nat→Prop) (r:Tr×Ps) (w:World) (e:Ending) (w':World):Prop:=
 ∃d0 d1 d2 d3 d4 d5 d6 d7 d8,e=.returned (.agg #[d0,d1,d2,d3,d4,d5,d6,d7,d8])∧TrC w' (fun b=>Q b∨w.heap.size≤b) r.1 [d0,d1,d2,d3,d4,d5,d6,d7,d8]∧Pa C r.2 w'∧w.grownBy w' (some C.g)
def zVw (C:Pc) (a:World) (r:Tr×Ps) (e:Ending) (w':World):Prop:=
 ∃d0 d1 d2 d3 d4 d5 d6 d7 d8,e=.returned (.agg #[d0,d1,d2,d3,d4,d5,d6,d7,d8])∧TrC w' (a.heap.size≤·) r.1 [d0,d1,d2,d3,d4,d5,d6,d7,d8]∧Pa C r.2 w'∧a.grownBy w' (some C.g)
def zf (C:Pc) (s:Ps) (w:World):Ph→Prop
 | .program []=>Calls prog 16 #[C] w (zDb C (zE C.L (.program []) s) w)
 | .block=>Calls prog 127 #[C] w (zDb C (zE C.L .block s) w)
 | .item=>Calls prog 33 #[C] w (zDb C (zE C.L .item s) w)
 | .declares=>Calls prog 77 #[C] w (zDb C (zE C.L .declares s) w)
 | .func k n=>Calls prog 81 #[C,k,n] w (zDb C (zE C.L (.func k n) s) w)
 | .params=>Calls prog 126 #[C] w (LstQ C (zE C.L .params s) w)
 | .statement=>Calls prog 82 #[C] w (zDb C (zE C.L .statement s) w)
 | .simple=>Calls prog 130 #[C] w (zDb C (zE C.L .simple s) w)
 | .word v=>Calls prog 129 #[C,v] w (zDb C (zE C.L (.word v) s) w)
 | .within=>Calls prog 154 #[C] w (zDb C (zE C.L .within s) w)
 | .clause v=>Calls prog 172 #[C,v] w (zDb C (zE C.L (.clause v) s) w)
 | .loop=>Calls prog 155 #[C] w (zDb C (zE C.L .loop s) w)
 | .jump k=>Calls prog 156 #[C,k] w (zDb C (zE C.L (.jump k) s) w)
 | .tries=>Calls prog 158 #[C] w (zDb C (zE C.L .tries s) w)
 | .assign=>Calls prog 122 #[C] w (zDb C (zE C.L .assign s) w)
 | .body l=>∀(a:World) (A:jQ) (n c:Nat),l.length=n→n≤4097→a.grownBy w (some C.g)→C.g < a.heap.size→RowP w (a.heap.size≤·) (.slice A n c) l→Calls prog 149 #[C,.slice A n c] w (zVw C a (zE C.L (.body l) s))
 | .cond=>Calls prog 151 #[C] w (zDb C (zE C.L .cond s) w)
 | .either=>Calls prog 171 #[C] w (zDb C (zE C.L .either s) w)
 | .both x=>∀(Q:Nat→Prop) (d0 d1 d2 d3 d4 d5 d6 d7 d8:Value),(∀b,Q b→C.g < b)→TrC w Q x [d0,d1,d2,d3,d4,d5,d6,d7,d8]→Calls prog 180 #[C,.agg #[d0,d1,d2,d3,d4,d5,d6,d7,d8]] w (NodR C Q (zE C.L (.both x) s) w)
 | .level n=>Calls prog 179 #[C,n] w (zDb C (zE C.L (.level n) s) w)
 | .unary=>Calls prog 186 #[C] w (zDb C (zE C.L .unary s) w)
 | .calls=>Calls prog 190 #[C] w (zDb C (zE C.L .calls s) w)
 | .head=>Calls prog 191 #[C] w (zDb C (zE C.L .head s) w)
 | .args=>Calls prog 192 #[C] w (LstQ C (zE C.L .args s) w)
 | .list v=>Calls prog 195 #[C,v] w (LstQ C (zE C.L (.list v) s) w)
 | .primary=>Calls prog 194 #[C] w (zDb C (zE C.L .primary s) w)
 | .object=>Calls prog 196 #[C] w (zDb C (zE C.L .object s) w)
 | .prop=>Calls prog 197 #[C] w (zDb C (zE C.L .prop s) w)
 | _=>True
def KP (C:Pc) (N:Nat):Prop:=∀(q:Ph) (s:Ps) (w:World),Pre C.L q s→zCL C.L q s < N→Pa C s w→zf C s w q
def zi (C:Pc) (P:Ph) (s:Ps) (w:World) (X:Prop):Prop:=Pre C.L P s→KP C (zCL C.L P s)→Pa C s w→X
section
variable {C:Pc} {p q:Ph} {s s1:Ps} {w:World}
theorem KP.rank (K:KP C (zCL C.L p s)) (b:Pre C.L q s1) (h:Pa C s1 w) (h1:s.k≤s1.k) (c:zAa q s1 < zAa p s):zf C s1 w q:=K q s1 w b (zJM h1 c) h
theorem KP.more (K:KP C (zCL C.L p s)) (b:Pre C.L q s1) (h:Pa C s1 w) (h1:s.k < s1.k):zf C s1 w q:=K q s1 w b (zJL h1 b.1 h.cx.lst.pos) h
end
theorem TrC.sto {w:World} {t:Tr} {e0 e1 e2 e3 e4 e5 e6 e7 e8:Value} (h:TrC w F t [e0,e1,e2,e3,e4,e5,e6,e7,e8]):(∀(v:World) (a:Addr),(store a e0).run prog v=stored prog v a e0 .plain)∧(∀(v:World) (a:Addr),(store a e1).run prog v=stored prog v a e1 .plain)∧(∀(v:World) (a:Addr),(store a e2).run prog v=stored prog v a e2 .plain)∧(∀(v:World) (a:Addr),(store a e3).run prog v=stored prog v a e3 .plain)∧(∀(v:World) (a:Addr),(store a e4).run prog v=stored prog v a e4 .plain)∧(∀(v:World) (a:Addr),(store a e5).run prog v=stored prog v a e5 .plain)∧(∀(v:World) (a:Addr),(store a e6).run prog v=stored prog v a e6 .plain)∧(∀(v:World) (a:Addr),(store a e7).run prog v=stored prog v a e7 .plain)∧(∀(v:World) (a:Addr),(store a e8).run prog v=stored prog v a e8 .plain):=by
 have h1:=h.one;simp only[List.all_cons,List.all_nil,yAQ,Bool.and_true]at h1;obtain⟨b,h1,c,d,e,f,h6,g,j⟩:=h1;exact⟨fun v a=>run_store _ _ _ _ _ b,fun v a=>run_store _ _ _ _ _ h1,fun v a=>run_store _ _ _ _ _ c,fun v a=>run_store _ _ _ _ _ d,fun v a=>run_store _ _ _ _ _ e,fun v a=>run_store _ _ _ _ _ f,fun v a=>run_store _ _ _ _ _ h6,fun v a=>run_store _ _ _ _ _ g,fun v a=>run_store _ _ _ _ _ j⟩
theorem Bx.gg {w w':World} {R b:Nat} (h:Bx w R T cs) (hg:w.grownBy w' (some b)) (c:b≠R):Bx w' R T cs:=h.grown hg (by simpa using c)
def zHu:List Value:=[(0:Int),"",(),(0:Int),(0:Int),false,(),(),()]
structure FinN (C:Pc) (Q:Nat→Prop) (r:Tr×Ps) (w:World) (X:Nat) (d0 d1 d2 d3 d4 d5 d6 d7 d8:Value) (V:World):Prop where
 box:Bx V X 61 [d0,d1,d2,d3,d4,d5,d6,d7,d8]
 tree:TrC V (fun b=>Q b∨w.heap.size≤b) r.1 [d0,d1,d2,d3,d4,d5,d6,d7,d8]
 pa:Pa C r.2 V
 grown:w.grownBy V (some C.g)
theorem zTy {C:Pc} {Q:Nat→Prop} {r:Tr×Ps} {w:World} (hB:Bx W X 61 cs) (c:cs.length=9) (d:w.heap.size≤X) (l:C.g < X) (f:TrC W (fun b=>(Q b∨w.heap.size≤b)∧b≠X) r.1 [d0,d1,d2,d3,d4,d5,d6,d7,d8]) (j:Pa C r.2 W) (k:w.grownBy W (some C.g)):
 FinN C Q r w X d0 d1 d2 d3 d4 d5 d6 d7 d8 (((((((((W.setCell X d0).setCell ⟨X,1,none⟩ d1).setCell ⟨X,2,none⟩ d2).setCell ⟨X,3,none⟩ d3).setCell ⟨X,4,none⟩ d4).setCell ⟨X,5,none⟩ d5).setCell ⟨X,6,none⟩ d6).setCell ⟨X,7,none⟩ d7).setCell ⟨X,8,none⟩ d8):=by
 have hg:=zBh (w:=W) (R:=X) (v0:=d0) (v1:=d1) (v2:=d2) (v3:=d3) (v4:=d4) (v5:=d5) (v6:=d6) (v7:=d7) (v8:=d8);refine⟨hB.set9 c,?_,j.grown hg (fun b e=>by injection e with e;omega),zCF k d hg⟩;have h1:=TrC.keep hg (.box hB jd jd (fun h=>h.2 rfl)) _ _ f;exact .sub (fun b hb _=>hb.1) _ _ h1
theorem FinN.drew {C:Pc} {Q:Nat→Prop} {r:Tr×Ps} {w V:World} (h:FinN C Q r w X d0 d1 d2 d3 d4 d5 d6 d7 d8 V):FinN C Q r w X d0 d1 d2 d3 d4 d5 d6 d7 d8 V.drew:=
 ⟨h.box.drew,.keep (zAw _ none) (.none_ _ _) _ _ h.tree,h.pa.drew,zC h.grown (zAw _ _)⟩
theorem FinN.ans {C:Pc} {Q:Nat→Prop} {r:Tr×Ps} {w V:World} (h:FinN C Q r w X d0 d1 d2 d3 d4 d5 d6 d7 d8 V):NodR C Q r w (.returned (.agg #[d0,d1,d2,d3,d4,d5,d6,d7,d8])) V:=
 ⟨_,_,_,_,_,_,_,_,_,rfl,h.tree,h.pa,h.grown⟩
theorem zQj {P:Program} {f:Func} {b:Ending→World→Prop} {a:Act} {C:Pc} {Q:Nat→Prop} {r:Tr×Ps} {w:World} (h:FinN C Q r w X d0 d1 d2 d3 d4 d5 d6 d7 d8 W) (k:∀V,FinN C Q r w X d0 d1 d2 d3 d4 d5 d6 d7 d8 V→bodyPost P f b .ret a V):bodyPost P f b .ret a W:=k W h
structure PutN (T:TypeId) (C:Pc) (s:Ps) (w W:World) (R:Nat) (d0 d1 d2 d3 d4 d5 d6 d7 d8:Value) (V:World):Prop where
 box:Bx V R T [d0,d1,d2,d3,d4,d5,d6,d7,d8]
 pa:Pa C s V
 grown:w.grownBy V (some C.g)
 from_:W.grownBy V (some R)
theorem zTz {C:Pc} {s:Ps} {w:World} {R:Nat} (hB:Bx W R T cs) (c:cs.length=9) (d:w.heap.size≤R) (k:C.g < R) (f:Pa C s W) (j:w.grownBy W (some C.g)):
 PutN T C s w W R d0 d1 d2 d3 d4 d5 d6 d7 d8 (((((((((W.setCell R d0).setCell ⟨R,1,none⟩ d1).setCell ⟨R,2,none⟩ d2).setCell ⟨R,3,none⟩ d3).setCell ⟨R,4,none⟩ d4).setCell ⟨R,5,none⟩ d5).setCell ⟨R,6,none⟩ d6).setCell ⟨R,7,none⟩ d7).setCell ⟨R,8,none⟩ d8):=by
 have hg:=zBh (w:=W) (R:=R) (v0:=d0) (v1:=d1) (v2:=d2) (v3:=d3) (v4:=d4) (v5:=d5) (v6:=d6) (v7:=d7) (v8:=d8);exact⟨hB.set9 c,f.grown hg (fun b e=>by injection e with e;omega),zCF j d hg,hg⟩
theorem zMN {w3 b:World} {P:Nat→Prop} {l:List Tr} {n:Nat} (c:n=l.length) (h:TrsC w3 P l cs) (e:n≤4097) (d:P w3.heap.size) (hg:(w3.alloc (.cells cs.toArray 61)).grownBy b none):RowP b P (.slice (some ⟨w3.heap.size,0,none⟩) n n) l:=
 (RowP.lit c h d (by unfold maxLen;omega)).new hg
theorem zT0 {w3 b:World} {P:Nat→Prop} {y:Tr} {e0 e1 e2 e3 e4 e5 e6 e7 e8 a0 a1 a2 a3 a4 a5 a6 a7 a8:Value} (k:Int) (n:jE) (h1:TrC w3 P x [e0,e1,e2,e3,e4,e5,e6,e7,e8]) (c:TrC w3 P y [a0,a1,a2,a3,a4,a5,a6,a7,a8]) (d:P w3.heap.size) (hg:(w3.alloc (.cells #[e0,e1,e2,e3,e4,e5,e6,e7,e8,a0,a1,a2,a3,a4,a5,a6,a7,a8] 61)).grownBy b none):TrC b P (trN k n [x,y]) (zZM k n (.slice (some ⟨w3.heap.size,0,none⟩) 2 2)):=
 (zMN (l:=[x,y]) (cs:=[e0,e1,e2,e3,e4,e5,e6,e7,e8]++[a0,a1,a2,a3,a4,a5,a6,a7,a8]) rfl (TrsC.cons h1 (.single c)) js d hg).treeN
theorem zT1 {C:Pc} {s:Ps} {w:World}:zi C (.both x) s w (zf C s w (.both x)):=fun _b K h=>by
 intro Q d0 d1 d2 d3 d4 d5 d6 d7 d8 hQ ht;have U:=zA h.cx.lst;have e9:C.N≤4097:=h.cx.n4;have HQ:=zA hQ;have HK:=zA K;obtain⟨r,hr⟩:=jx (zE C.L (.both x) s);rw[hr];have HR:=zA hr;obtain⟨l,z⟩:=jx (w.alloc (.cells #[d0,d1,d2,d3,d4,d5,d6,d7,d8] 61));obtain⟨W,hW⟩:=jx (l.alloc (.cells #[(0:Int),"",(),(0:Int),(0:Int),false,(),(),()] 61));have A:w.grownBy l none:=by rw[←z];exact zG _ _ _
 have c:l.grownBy W none:=by rw[←hW];exact zG _ _ _
 have G:l.heap.size=w.heap.size+1:=by rw[←z];simp
 have H:Bx l w.heap.size 61 [d0,d1,d2,d3,d4,d5,d6,d7,d8]:=by rw[←z];exact Bx.new w [d0,d1,d2,d3,d4,d5,d6,d7,d8] _
 have I:Bx W (w.heap.size+1) 61 zHu:=by rw[←hW,←G];exact Bx.new l zHu _
 obtain⟨R,B⟩:=jx w.heap.size;rw[B]at H I G;have g1:C.g < R:=by rw[←B];exact h.lt
 have Y:=zA (H.grown c js);have a9:=zA I;have b0:=zA ((h.new A).new c);have b1:=zA (zAX (zC A c) (some C.g));have b2:=zA (TrC.keep (zC A c) (.none_ _ _) _ _ (.sub (Q:=fun b=>Q b∧b < R) (fun b hb hl=>⟨hb,by omega⟩) _ _ ht));have J:=zA B;clear hr h ht hQ K H I A c;go_enter func180,ntmps180;go_upto_region 1 with(fail);clear hW z B G
 go_loopg [6] (C.L.length - s.k) (fun gk _ wr=>∃(j:Tr) (s':Ps) (e0 e1 e2 e3 e4 e5 e6 e7 e8:Value),C.L.length - s'.k≤gk∧s.k≤s'.k∧Hid (zE C.L (.both j) s'=r)∧Hid (Pa C s' wr)∧Hid (Bx wr R 61 [e0,e1,e2,e3,e4,e5,e6,e7,e8])∧Hid (Bx wr (R+1) 61 zHu)∧Hid (TrC wr (fun b=>(Q b∧b < R)∨R+1 < b) j [e0,e1,e2,e3,e4,e5,e6,e7,e8])∧Hid (w.grownBy wr (some C.g)))
 case atStart=>exact⟨x,s,d0,d1,d2,d3,d4,d5,d6,d7,d8,yAC _,yAC _,HR,b0,Y,a9,.sub (fun b hb _=>.inl hb) _ _ b2,b1⟩
 case round=>
  clear HR b0 Y a9 b2 b1;obtain⟨j,s',e0,e1,e2,e3,e4,e5,e6,e7,e8,g2,g3,b3,d,b4,b5,b6,b7⟩:=hrel
  by_cases m:onP C.L [38,38] s'=true
  · have M:=zA m;have O:=zA (U.out.on d.out.hi m);clear m;go_wp2_with fail;refine(zA1 d [38,38] M).mono ?_;rintro ev w1 ⟨rfl,o,c⟩;have D:=zA (show Pa C (zB s') w1 from o);have E:=zA (b4.out.grown c (by simp;omega));have f:=zA (b5.out.grown c (by simp;omega));have F:=zA (TrC.keep c (.box d.out.box jd jd (by
     rintro(h | h)
     · have:=HQ.out _ h.1;omega
     · omega)) _ _ b6)
    have P:=zA (zC b7 c);clear o c;have CL:=zA (show Calls prog 179 #[C,(0:Int)] w1.drew (zDb C (zE C.L (.level 0) (zB s')) w1.drew)from HK.out.more (q:=.level 0) (s1:=zB s') (w:=w1.drew) ⟨O,yAE _⟩ D.out.drew (by show s.k < s'.k+1;omega));obtain⟨z0,z1,z2,z3,z4,z5,z6,z7,z8⟩:=E.out.nine;have g4:=f.out.lt;have g5:=zA (show w1.heap.size≤w1.drew.heap.size from yAC _);go_wp2_with fail;go_region_law (first | (go_simp;go_at_call 179;(with_reducible refine CL.out.mono ?_);rintro g6 w3 ⟨a0,a1,a2,a3,a4,a5,a6,a7,a8,rfl,b8,b9,c0⟩;have c6:=zA b8;have c7:=zA b9;have t:=zA c0;clear b8 b9 c0;have c1:=zA (E.out.drew.grown t.out (by simp;omega));have c8:=zA (f.out.drew.grown t.out (by simp;omega));obtain⟨z0,z1,z2,z3,z4,z5,z6,z7,z8⟩:=c1.out.nine) | (go_simp;go_at_call 121;(with_reducible refine(zDB 47 ⟨#[38,38]⟩ (some ⟨w3.heap.size,0,none⟩) 2 2).mono ?_);rintro g7 w4 ⟨rfl,c2⟩;have u:=zA c2;clear c2;have y:=zA ((c1.out.alloc _).grown u.out js);obtain⟨z0,z1,z2,z3,z4,z5,z6,z7,z8⟩:=y.out.nine;obtain⟨f0,f1,f2,f3,f4,f5,f6,f7,f8⟩:=y.out.nineF))
    all_goals
     have f9:w1.heap.size≤w3.heap.size:=t.out.size;have X:=zA (zZ U (p:=.level 0) (s:=zB s') ⟨O,yAE _⟩);have g0:=X.out.adv.le;have c3:=zA (TrC.sub (Q:=fun b=>(Q b∧b < R)∨R+1 < b) (fun b (hb:w1.heap.size≤b) _=>.inr jo) _ _ c6);have c4:=zA (TrC.keep t (.box D.out.drew.box jd jd (by
      rintro(h | h)
      · have:=HQ.out _ h.1;omega
      · omega)) _ _ (TrC.keep (zAw w1 none) (.none_ _ _) _ _ F))
     have HN:=zA (zT0 47 [38,38] c4 c3 (.inr jo) u);have c9:=zA ((c7.out.alloc _).new u);have c5:=zA (zC P (zC (zAw _ _) (zC t (zAX (zC (zG _ _ _) u) _))));have d9:=zA ((c8.out.alloc _).grown u js);have S:=zA (show zE C.L (.both j) s'=zE C.L (.both (trN 47 [38,38] [j,(zE C.L (.level 0) (zB s')).1])) (zE C.L (.level 0) (zB s')).2 by
      rw[zQ U.out ⟨d.out.hi,trivial⟩];unfold zD;dsimp only;rw[if_pos M.out])
     have g8:=y.out.lt;go_wp2_with fail;have T:=zTz (d0:=(47:Int)) (d1:=.string ⟨#[38,38]⟩) (d2:=()) (d3:=(0:Int)) (d4:=(0:Int)) (d5:=false) (d6:=()) (d7:=()) (d8:=.slice (some ⟨w3.heap.size,0,none⟩) 2 2) y rfl (by rw[J.out];exact yAC _) jo c9 c5
     go_roundg (C.L.length - (zE C.L (.level 0) (zB s')).2.k)
     case measure=>
      have:=O.out;have:(zB s').k=s'.k+1:=rfl;omega
     case rel=>
      refine⟨_,_,_,_,_,_,_,_,_,_,_,yAC _,?_,S.out.symm.trans b3,T.pa,T.box,d9.out.grown T.from_ js,TrC.keep T.from_ (.box y jd jd jo) _ _ HN,T.grown⟩;have:(zB s').k=s'.k+1:=rfl;omega
  · have M:=zA (show onP C.L [38,38] s'=false by simpa using m);clear m;go_wp2_with fail;refine(zA1 d [38,38] M).mono ?_;rintro ev w1 ⟨rfl,o,c⟩;have D:=zA (show Pa C s' w1 from o);have E:=zA (b4.out.grown c (by simp;omega));have f:=zA (b5.out.grown c (by simp;omega));have F:=zA (TrC.keep c (.box d.out.box jd jd (by
     rintro(h | h)
     · have:=HQ.out _ h.1;omega
     · omega)) _ _ b6)
    have P:=zA (zC b7 c);clear o c;obtain⟨z0,z1,z2,z3,z4,z5,z6,z7,z8⟩:=E.out.nine;obtain⟨y0,y1,y2,y3,y4,y5,y6,y7,y8⟩:=f.out.nine;obtain⟨f0,f1,f2,f3,f4,f5,f6,f7,f8⟩:=f.out.nineF;obtain⟨s0,s1,s2,s3,s4,s5,s6,s7,s8⟩:=F.out.sto;have S:=zA (show zE C.L (.both j) s'=(j,s') by
     rw[zQ U.out ⟨d.out.hi,trivial⟩];unfold zD;dsimp only;rw[if_neg (by rw[M.out];decide)])
    go_wp2_with fail;refine zQj (zTy (Q:=Q) (r:=(j,s')) f rfl (by rw[J.out];omega) jo (.sub (fun b hb _=>?_) _ _ F) D P) ?_
    · rw[J.out];rcases hb with hb | hb
      · exact⟨.inl hb.1,by omega⟩
      · exact⟨.inr jo,by omega⟩
    intro V hv;obtain⟨q0,q1,q2,q3,q4,q5,q6,q7,q8⟩:=hv.box.nine;refine bodyPost_ret (v:=.agg #[e0,e1,e2,e3,e4,e5,e6,e7,e8]) (by simp[results,results180,go_sem,q0,q1,q2,q3,q4,q5,q6,q7,q8]) rfl ?_;have e:r=(j,s'):=b3.out.symm.trans S;rw[e];exact hv.ans
theorem RowP.lt {w:World} {P:Nat→Prop} {l:List Tr} (h:RowP w P v l):∀b,v.ownBlock=some b→P b∧b < w.heap.size:=by
 obtain⟨ks,F,h⟩:=h;exact fun b hb=>⟨h.blk b hb,(h.own.lt b hb).2⟩
theorem RowP.bounds {w:World} {P:Nat→Prop} {A:jQ} {n c:Nat} {l:List Tr} (h:RowP w P (.slice A n c) l):l.length=n∧n≤c∧c≤maxLen:=by
 obtain⟨d,f,e,h1,b⟩:=h.shape;injection e with e1 e2 e3;subst e2 e3;exact⟨rfl,h1,b⟩
theorem RowP.fz {w:World} {P Q:Nat→Prop} {l:List Tr} (h:RowP w P v l) (c:∀b,P b→b < w.heap.size→¬Q b):Fz w Q v.ownBlock:=by
 obtain⟨ks,F,h⟩:=h;exact .own h.own fun b hb=>c b (h.blk b hb) (h.own.lt b hb).2
theorem Bx.row {w w':World} {R:Nat} {P:Nat→Prop} {l:List Tr} (h:Bx w R T cs) (b:RowP w P v l) (c:¬P R) (hg:w.grownBy w' v.ownBlock):Bx w' R T cs:=
 h.grown hg (fun e=>c (b.lt R e).1)
theorem Pa.row {C:Pc} {s:Ps} {w w':World} {P:Nat→Prop} {l:List Tr} (h:Pa C s w) (c:RowP w P v l) (d:∀b,P b→C.g < b) (hg:w.grownBy w' v.ownBlock):Pa C s w':=
 h.grown hg (fun b hb=>d b (c.lt b hb).1)
theorem zHv {a w w':World} {r:Option Nat} {P:Nat→Prop} {l:List Tr} (h:a.grownBy w r) (c:RowP w P v l) (d:∀b,P b→a.heap.size≤b) (hg:w.grownBy w' v.ownBlock):a.grownBy w' r:=
 zJk h (fun b hb=>d b (c.lt b hb).1) hg
theorem zMO {w1 w':World} {P Q:Nat→Prop} {A:jQ} {n cp d:Nat} {l:List Tr} {t:Tr} {ks c:List Value} {g:Nat} (j:l.length=n) (h:RowK w1 P (.slice A n cp) l ks F) (k:TrC w1 Q t c) (m:∀b,Q b→b < w1.heap.size→P b) (f:∀b,(Value.slice A n cp).ownBlock=some b→¬Q b) (o:P w1.heap.size)
 (p:w'.ownsRow 0 61 9 (.slice (some ⟨g,0,none⟩) (n+1) d) (n+1) (ks++c)) (hg:w1.grownBy w' (Value.slice A n cp).ownBlock) (q:(Value.slice A n cp).ownBlock=some g∨g=w1.heap.size):RowP w' P (.slice (some ⟨g,0,none⟩) (n+1) d) (l++[t]):=by
 subst j;refine h.snoc k m f o p hg ?_;rcases q with e | e
 · exact .inl e.symm
 · subst e;exact .inr rfl
section
variable {Pg:Program} {o:Oper} {a:Act} {w1:World} {Px Q:Nat→Prop} {A:jQ} {n cp:Nat} {l:List Tr} {t:Tr} {c0 c1 c2 c3 c4 c5 c6 c7 c8:Value}
theorem zJn {z:Exit→Act→World→Prop} (j:o.guard=none) (s x:Operand)
 (B:o.op=.call {callee:=.builtin .append,args:=#[s,x],argTypes:=#[59,59]})
 (hs:a.eval s=.slice A n cp) (hn:l.length=n) (hr:RowP w1 Px (.slice A n cp) l) (ht:TrC w1 Q t [c0,c1,c2,c3,c4,c5,c6,c7,c8]) (hQ:∀b,Q b→b < w1.heap.size→Px b) (hQv:∀b,(Value.slice A n cp).ownBlock=some b→¬Q b) (hP:Px (w1.heap.size+1)) (f:n≤4097)
 (hx:a.eval x=.slice (some ⟨w1.heap.size,0,none⟩) 1 1)
 (h:∀k c w',RowP w' Px (.slice k (n+1) c) (l++[t])→(w1.alloc (.cells #[c0,c1,c2,c3,c4,c5,c6,c7,c8] 61)).grownBy w' (Value.slice A n cp).ownBlock→K (a.put o.dst (.slice k (n+1) c)) w'):
 if Region.wanted o (yielded ops a.tmps)=true then Oper.wp prog o a (w1.alloc (.cells #[c0,c1,c2,c3,c4,c5,c6,c7,c8] 61)) K z else E:=by
 obtain⟨ks,F,hk⟩:=hr;obtain⟨i,hi,m,p,q⟩:=info_parts Tryz.info_pnode;have d:=hk.keep (zG w1 (.cells #[c0,c1,c2,c3,c4,c5,c6,c7,c8] 61) none) (.none_ w1 Px);have r:TrC w1 (fun b=>Q b∧b < w1.heap.size) t [c0,c1,c2,c3,c4,c5,c6,c7,c8]:=.sub (fun b hb f=>⟨hb,f⟩) _ _ ht;have v:=TrC.keep (zG w1 (.cells #[c0,c1,c2,c3,c4,c5,c6,c7,c8] 61) none) (.none_ _ _) _ _ r;have e:=d.own;rw[hn]at e;refine step_append_lies (w1.alloc (.cells #[c0,c1,c2,c3,c4,c5,c6,c7,c8] 61)) j s x 59 B 0 61 i _ 9 144 underlying59 hi m p q rfl jd (.slice A n cp) n ks hs e ⟨w1.heap.size,0,none⟩ 1 1 [c0,c1,c2,c3,c4,c5,c6,c7,c8] hx rfl (World.news_of_block (Bx.new w1 [c0,c1,c2,c3,c4,c5,c6,c7,c8] 61)) (fun u C=>yBH.1 ht.one u C) jd (by unfold maxLen;omega) jo (yAE _) _ rfl ?_;intro g cap w' D y G _;exact h _ _ w' (zMO hn d v (fun b hb f=>hQ b hb.1 hb.2) (fun b hb H=>hQv b hb H.1) (by simpa using hP) D y G) y
theorem zEd {j:Exit→Act→World→Prop} (k:o.guard=none) (s x:Operand)
 (B:o.op=.call {callee:=.builtin .append,args:=#[s,x],argTypes:=#[59,59]})
 (hs:a.eval s=.slice A n cp) (hn:l.length=n) (hr:RowP w1 Px (.slice A n cp) l) (ht:TrC w1 Q t [c0,c1,c2,c3,c4,c5,c6,c7,c8]) (hQ:∀b,Q b→b < w1.heap.size→Px b) (hQv:∀b,(Value.slice A n cp).ownBlock=some b→¬Q b) (hP:Px (w1.heap.size+1)) (f:n≤4097)
 (hx:a.eval x=.slice (some ⟨w1.heap.size,0,none⟩) 1 1)
 (h:∀m c w',RowP w' Px (.slice m (n+1) c) (l++[t])→(w1.alloc (.cells #[c0,c1,c2,c3,c4,c5,c6,c7,c8] 61)).grownBy w' (Value.slice A n cp).ownBlock→wpList prog ops j rest (a.put o.dst (.slice m (n+1) c)) w'):
 wpList prog ops j (o::rest) a (w1.alloc (.cells #[c0,c1,c2,c3,c4,c5,c6,c7,c8] 61)):=by
 obtain⟨ks,F,hk⟩:=hr;obtain⟨i,hi,p,q,r⟩:=info_parts Tryz.info_pnode;have d:=hk.keep (zG w1 (.cells #[c0,c1,c2,c3,c4,c5,c6,c7,c8] 61) none) (.none_ w1 Px);have v:TrC w1 (fun b=>Q b∧b < w1.heap.size) t [c0,c1,c2,c3,c4,c5,c6,c7,c8]:=.sub (fun b hb f=>⟨hb,f⟩) _ _ ht;have y:=TrC.keep (zG w1 (.cells #[c0,c1,c2,c3,c4,c5,c6,c7,c8] 61) none) (.none_ _ _) _ _ v;have e:=d.own;rw[hn]at e;refine wpList_append_lies (w1.alloc (.cells #[c0,c1,c2,c3,c4,c5,c6,c7,c8] 61)) k s x 59 B 0 61 i _ 9 144 underlying59 hi p q r rfl jd (.slice A n cp) n ks hs e ⟨w1.heap.size,0,none⟩ 1 1 [c0,c1,c2,c3,c4,c5,c6,c7,c8] hx rfl (World.news_of_block (Bx.new w1 [c0,c1,c2,c3,c4,c5,c6,c7,c8] 61)) (fun u C=>yBH.1 ht.one u C) jd (by unfold maxLen;omega) jo (yAE _) _ rfl ?_;intro g cap w' D z E _;exact h _ _ w' (zMO hn d y (fun b hb f=>hQ b hb.1 hb.2) (fun b hb G=>hQv b hb G.1) (by simpa using hP) D z E) z
end
inductive Ob where
 | bx (R:Nat) (T:TypeId) (cs:List Value)
 | tr (t:Tr) (cs:List Value)
 | tn (lo:Nat) (t:Tr) (cs:List Value)
 | ro (v:Value) (l:List Tr)
 | rn (hi:Nat) (v:Value) (l:List Tr)
 | lf (T:TypeId) (v:Value) (n:Nat) (xs:List Value)
 | vs (cs:List Value)
def Ob.blk:Ob→Option Nat
 | .bx R _ _=>some R
 | _=>none
def Ob.cells:Ob→List Value
 | .tr _ cs=>cs
 | .tn _ _ cs=>cs
 | .vs cs=>cs
 | .bx _ _ cs=>cs
 | _=>[]
def Ob.Ok (D:List Nat) (P:Nat→Prop) (w:World):Ob→Prop
 | .bx R T cs=>Bx w R T cs∧R∈D∧T≠104∧T≠119
 | .tr t cs=>TrC w P t cs
 | .tn lo t cs=>TrC w (fun b=>P b∧lo≤b) t cs∧lo≤w.heap.size
 | .ro v l=>RowP w P v l
 | .rn hi v l=>RowP w (fun b=>P b∧b < hi) v l
 | .lf T v n xs=>(T=104∨T=119)∧w.ownsRow 0 T 1 v n xs
 | .vs _=>True
def Off (B:Nat→Prop) (D:List Nat) (b:Nat):Prop:=B b∧b∉D
structure FrR (C:Pc) (B:Nat→Prop) (a:World) (D:List Nat) (os:List Ob) (s:Ps) (w:World):Prop where
 pa:Pa C s w
 gr:a.grownBy w (some C.g)
 bl:∀b,B b→C.g < b
 bh:∀b,a.heap.size≤b→B b
 ds:∀b∈D,a.heap.size≤b∧b < w.heap.size
 nd:∀(i j:Nat) (x y:Ob) (R:Nat),os[i]? =some x→os[j]? =some y→x.blk=some R→y.blk=some R→i=j
 ob:∀(i:Nat) (x:Ob),os[i]? =some x→x.Ok D (Off B D) w
structure Fr (C:Pc) (B:Nat→Prop) (a:World) (D:List Nat) (os:List Ob) (s:Ps) (w:World):Prop where
 out:FrR C B a D os s w
theorem Ob.Ok.keep {D:List Nat} {P:Nat→Prop} {w w':World} {r:Option Nat} {o:Ob} (h:o.Ok D P w) (hg:w.grownBy w' r) (c:Fz w P r) (d:∀R,o.blk=some R→r≠some R):o.Ok D P w':=by
 cases o with
 | bx R T cs=>exact⟨h.1.grown hg (d R rfl),h.2⟩
 | tr t cs=>exact TrC.keep hg c _ _ h
 | tn lo t cs=>exact⟨TrC.keep hg (c.less fun b hb=>hb.1) _ _ h.1,yAD h.2 hg.size⟩
 | ro v l=>exact RowP.keep h hg c
 | rn hi v l=>exact RowP.keep h hg (c.less fun b hb=>hb.1)
 | lf T v n xs=>exact⟨h.1,zCE h.2 h.1 hg c⟩
 | vs cs=>trivial
theorem Ob.Ok.sub {D E:List Nat} {P Q:Nat→Prop} {w:World} {o:Ob} (h:o.Ok D P w) (hs:∀b,P b→b < w.heap.size→Q b) (d:∀b∈D,b∈E):o.Ok E Q w:=by
 cases o with
 | bx R T cs=>exact⟨h.1,d R h.2.1,h.2.2⟩
 | tr t cs=>exact TrC.sub hs _ _ h
 | tn lo t cs=>exact⟨TrC.sub (fun b hb c=>⟨hs b hb.1 c,hb.2⟩) _ _ h.1,h.2⟩
 | ro v l=>exact RowP.sub h hs
 | rn hi v l=>exact RowP.sub h fun b hb c=>⟨hs b hb.1 c,hb.2⟩
 | lf T v n xs=>exact h
 | vs cs=>trivial
theorem zEe {l:List Ob} {x:Ob} {y:Ob} (h:(l++[x])[i]? =some y):(i < l.length∧l[i]? =some y)∨(i=l.length∧y=x):=by
 rcases yBO i l.length with h1 | h1
 · rw[yBD h1]at h;exact .inl ⟨h1,h⟩
 · rw[yAX h1]at h;rcases Nat.eq_or_lt_of_le h1 with b | b
   · rw[b,yCS]at h;simp at h;exact .inr ⟨b.symm,h.symm⟩
   · rw[yBC (by simp;omega)]at h;cases h
section
variable {C:Pc} {B:Nat→Prop} {a:World} {D:List Nat} {os:List Ob} {s s':Ps} {w w':World} {rr:Option Nat}
theorem FrR.lt (F:FrR C B a D os s w):C.g < a.heap.size:=F.bl _ (F.bh _ (yAC _))
theorem FrR.off (F:FrR C B a D os s w) {b:Nat} (h:w.heap.size≤b):Off B D b:=⟨F.bh b (yAD F.gr.size h),fun c=>by have:=(F.ds b c).2;omega⟩
theorem FrR.go' (F:FrR C B a D os s w) (j:Pa C s' w') (hg:w.grownBy w' rr) (d:rr=none∨rr=some C.g):FrR C B a D os s' w':=by
 have k:Fz w (Off B D) rr:=by
  rcases d with rfl | rfl
  · exact .none_ _ _
  · exact .box F.pa.box jd jd (fun h=>by have:=F.bl _ h.1;omega)
 refine⟨j,zC F.gr ?_,F.bl,F.bh,fun b hb=>⟨(F.ds b hb).1,yAA (F.ds b hb).2 hg.size⟩,F.nd,fun i x f=>(F.ob i x f).keep hg k ?_⟩
 · rcases d with rfl | rfl
   · exact zAX hg _
   · exact hg
 · intro R c e;have h1:=F.ob i x f;rcases d with rfl | rfl
   · cases e
   · injection e with e;cases x with
     | bx R' T cs=>injection c with c;subst c;have:=(F.ds _ h1.2.1).1;have:=F.lt;omega
     | _=>cases c
theorem FrR.snoc (F:FrR C B a D os s w) {x:Ob} (e:x.blk=none) (h:x.Ok D (Off B D) w):FrR C B a D (os++[x]) s w:=by
 refine⟨F.pa,F.gr,F.bl,F.bh,F.ds,?_,?_⟩
 · intro i j y z R h1 b c d;rcases zEe h1 with⟨_,h1⟩ | ⟨rfl,rfl⟩
   · rcases zEe b with⟨_,b⟩ | ⟨rfl,rfl⟩
     · exact F.nd i j y z R h1 b c d
     · rw[e]at d;cases d
   · rw[e]at c;cases c
 · intro i y h1;rcases zEe h1 with⟨_,h1⟩ | ⟨rfl,rfl⟩
   · exact F.ob i y h1
   · exact h
theorem Fr.n (F:Fr C B a D os s w) (hg:w.grownBy w' none):Fr C B a D os s w':=.mk (F.out.go' (F.out.pa.new hg) hg (.inl rfl))
theorem Fr.m (F:Fr C B a D os s w) (b:Pa C s' w') (hg:w.grownBy w' (some C.g)):Fr C B a D os s' w':=.mk (F.out.go' b hg (.inr rfl))
theorem Fr.dr (F:Fr C B a D os s w):Fr C B a D os s w.drew:=F.n (zAw w none)
theorem Fr.P (F:Fr C B a D os s w):Pa C s w:=F.out.pa
theorem Fr.box (F:Fr C B a D os s w) (cs:List Value) (T:TypeId) {R:Nat} (g:w.heap.size=R) (h1:T≠104) (k:T≠119):Fr C B a (R::D) (os++[.bx R T cs]) s (w.alloc (.cells cs.toArray T)):=by
 subst g;have G:=F.out;have hg:=zG w (.cells cs.toArray T) none;have hs:w.heap.size < (w.alloc (.cells cs.toArray T)).heap.size:=by simp
 refine .mk ⟨G.pa.new hg,zC G.gr (zAX hg _),G.bl,G.bh,?_,?_,?_⟩
 · intro b hb;rcases yAW.1 hb with rfl | hb
   · exact⟨G.gr.size,hs⟩
   · exact⟨(G.ds b hb).1,Nat.lt_trans (G.ds b hb).2 hs⟩
 · have f:∀(i:Nat) (y:Ob) (R:Nat),os[i]? =some y→y.blk=some R→R < w.heap.size:=by
    intro i y R d c;have e:=G.ob i y d;cases y with
    | bx R' m l=>injection c with c;subst c;exact(G.ds _ e.2.1).2
    | _=>cases c
   intro i j y z R d c e h6;rcases zEe d with⟨_,d⟩ | ⟨rfl,rfl⟩
   · rcases zEe c with⟨_,c⟩ | ⟨rfl,rfl⟩
     · exact G.nd i j y z R d c e h6
     · injection h6 with h6;have:=f _ _ _ d e;omega
   · rcases zEe c with⟨_,c⟩ | ⟨rfl,rfl⟩
     · injection e with e;have:=f _ _ _ c h6;omega
     · rfl
 · intro i y d;rcases zEe d with⟨_,d⟩ | ⟨rfl,rfl⟩
   · refine((G.ob i y d).sub (E:=w.heap.size::D) (Q:=Off B (w.heap.size::D)) ?_ (fun b hb=>yAV _ hb)).keep hg (.none_ _ _) (fun R _=>by simp);intro b hb o;refine⟨hb.1,fun c=>?_⟩;rcases yAW.1 c with rfl | c
     · omega
     · exact hb.2 c
   · exact⟨Bx.new w cs T,by simp,h1,k⟩
theorem Fr.bt (F:Fr C B a D os s w) (i:Nat) (T:TypeId) {R:Nat} {x:Ob} (b:w.heap.size=R) (_b:os[i]? =some x:=by rfl) (_hc:x.cells=[d0,d1,d2,d3,d4,d5,d6,d7,d8]:=by rfl) (h1:T≠104:=by decide) (h2:T≠119:=by decide):Fr C B a (R::D) (os++[.bx R T [d0,d1,d2,d3,d4,d5,d6,d7,d8]]) s (w.alloc (.cells #[d0,d1,d2,d3,d4,d5,d6,d7,d8] T)):=F.box [d0,d1,d2,d3,d4,d5,d6,d7,d8] T b h1 h2
theorem Fr.b (F:Fr C B a D os s w) (i:Nat) {R:Nat} (h:os[i]? =some (.bx R T cs):=by rfl):Bx w R T cs:=(F.out.ob i _ h).1
theorem Fr.c (F:Fr C B a D os s w) (i:Nat) {R:Nat} (h:os[i]? =some (.bx R T [v0,v1,v2,v3,v4,v5,v6,v7,v8]):=by rfl):w.cell? R=some v0∧w.cell? ⟨R,1,none⟩=some v1∧w.cell? ⟨R,2,none⟩=some v2∧w.cell? ⟨R,3,none⟩=some v3∧w.cell? ⟨R,4,none⟩=some v4∧w.cell? ⟨R,5,none⟩=some v5∧w.cell? ⟨R,6,none⟩=some v6∧w.cell? ⟨R,7,none⟩=some v7∧w.cell? ⟨R,8,none⟩=some v8:=(F.b i h).nine
theorem Fr.f (F:Fr C B a D os s w) (i:Nat) {R:Nat} (h:os[i]? =some (.bx R T cs):=by rfl):w.frozen? R=false∧w.frozen? ⟨R,1,none⟩=false∧w.frozen? ⟨R,2,none⟩=false∧w.frozen? ⟨R,3,none⟩=false∧w.frozen? ⟨R,4,none⟩=false∧w.frozen? ⟨R,5,none⟩=false∧w.frozen? ⟨R,6,none⟩=false∧w.frozen? ⟨R,7,none⟩=false∧w.frozen? ⟨R,8,none⟩=false:=(F.b i h).nineF
theorem Fr.t (F:Fr C B a D os s w) (i:Nat) {t:Tr} (h:os[i]? =some (.tr t cs):=by rfl):TrC w (Off B D) t cs:=F.out.ob i _ h
theorem Fr.r (F:Fr C B a D os s w) (i:Nat) {l:List Tr} (h:os[i]? =some (.ro v l):=by rfl):RowP w (Off B D) v l:=F.out.ob i _ h
theorem Fr.k1 (F:Fr C B a D os s w):w.cell? ⟨C.g,1,none⟩=some (.int .i64 (s.k:Int))∧w.frozen? ⟨C.g,1,none⟩=false∧s.k < C.N:=⟨F.P.c1,F.P.f 1,F.P.kN⟩
theorem Fr.step (F:Fr C B a D os s w) (hk:s.k < C.L.length - 1):Fr C B a D os (zB s) (w.setCell ⟨C.g,1,none⟩ (.int .i64 ((s.k:Int)+1))):=F.m (F.P.stepI hk rfl) (zM w C.g 1 _)
theorem Fr.to (F:Fr C B a D os s w) {k':Nat} (b:z=(k':Int)) (hk:k'≤C.L.length - 1):Fr C B a D os {s with k:=k'} (w.setCell ⟨C.g,1,none⟩ (.int .i64 z)):=F.m (F.P.to b hk) (zM w C.g 1 _)
theorem Fr.step2 (F:Fr C B a D os s w) (hk:s.k+1+1≤C.L.length - 1):Fr C B a D os (zB (zB s)) (w.setCell ⟨C.g,1,none⟩ (.int .i64 ((s.k:Int)+2))):=F.to (k':=s.k+1+1) jo hk
theorem Fr.back (F:Fr C B a D os (zB s) w) (hk:s.k≤C.L.length - 1):Fr C B a D os s (w.setCell ⟨C.g,1,none⟩ (.int .i64 (s.k:Int))):=F.to (k':=s.k) rfl hk
theorem FrR.setAt (F:FrR C B a D os s w) {R:Nat} {f:List Value} (hi:os[i]? =some (.bx R T cs)) (hg:w.grownBy w' (some R)) (hb:Bx w' R T f):FrR C B a D (os.set i (.bx R T f)) s w':=by
 obtain⟨h1,l,m,o⟩:=F.ob i _ hi;have u:=F.ds R l;have g:i < os.length:=by
  rcases yBO i os.length with d | d
  · exact d
  · rw[yBC d]at hi;cases hi
 refine⟨F.pa.grown hg (fun b hb=>by injection hb with hb;have:=F.lt;omega),zCF F.gr u.1 hg,F.bl,F.bh,fun b hb=>⟨(F.ds b hb).1,yAA (F.ds b hb).2 hg.size⟩,?_,?_⟩
 · have p:∀(j:Nat) (y:Ob),(os.set i (.bx R T f))[j]? =some y→∃z,os[j]? =some z∧z.blk=y.blk:=by
    intro j y c;rw[yCQ]at c;split at c
    · rename_i e
      subst e
      (try rw[if_pos g]at c)
      injection c with c;subst c;exact⟨_,hi,rfl⟩
    · exact⟨y,c,rfl⟩
   intro j k y z R' d h6 v A;obtain⟨E,G,q⟩:=p j y d;obtain⟨H,r,t⟩:=p k z h6;exact F.nd j k E H R' G r (q.trans v) (t.trans A)
 · intro j y c;rw[yCQ]at c;split at c
   · rename_i e
     subst e
     (try rw[if_pos g]at c)
     injection c with c;subst c;exact⟨hb,l,m,o⟩
   · rename_i e
     refine(F.ob j y c).keep hg (.box h1 m o (fun h=>h.2 l)) ?_;intro R' d h6;injection h6 with h6;subst h6;exact e (F.nd i j _ y R hi c rfl d)
theorem Fr.put9 (F:Fr C B a D os s w) (i:Nat) {R:Nat} (hi:os[i]? =some (.bx R T [v0,v1,v2,v3,v4,v5,v6,v7,v8])):Fr C B a D (os.set i (.bx R T [d0,d1,d2,d3,d4,d5,d6,d7,d8])) s (((((((((w.setCell R d0).setCell ⟨R,1,none⟩ d1).setCell ⟨R,2,none⟩ d2).setCell ⟨R,3,none⟩ d3).setCell ⟨R,4,none⟩ d4).setCell ⟨R,5,none⟩ d5).setCell ⟨R,6,none⟩ d6).setCell ⟨R,7,none⟩ d7).setCell ⟨R,8,none⟩ d8):=
 .mk (F.out.setAt hi zBh ((F.b i hi).set9 rfl))
theorem Fr.put (F:Fr C B a D os s w) (i j:Nat) {R:Nat} {x:Ob} (hi:os[i]? =some (.bx R T [v0,v1,v2,v3,v4,v5,v6,v7,v8]):=by rfl) (_hj:os[j]? =some x:=by rfl) (_hc:x.cells=[d0,d1,d2,d3,d4,d5,d6,d7,d8]:=by rfl):Fr C B a D (os.set i (.bx R T [d0,d1,d2,d3,d4,d5,d6,d7,d8])) s (((((((((w.setCell R d0).setCell ⟨R,1,none⟩ d1).setCell ⟨R,2,none⟩ d2).setCell ⟨R,3,none⟩ d3).setCell ⟨R,4,none⟩ d4).setCell ⟨R,5,none⟩ d5).setCell ⟨R,6,none⟩ d6).setCell ⟨R,7,none⟩ d7).setCell ⟨R,8,none⟩ d8):=F.put9 i hi
theorem Fr.set (F:Fr C B a D os s w) (i j:Nat) (v:Value) {R:Nat} (hi:os[i]? =some (.bx R T cs):=by rfl):Fr C B a D (os.set i (.bx R T (cs.set j v))) s (w.setCell ⟨R,j,none⟩ v):=.mk (F.out.setAt hi (zM w R j v) ((F.b i hi).set j v))
theorem zEf {Pg:Program} {c:Code} {b:Exit→Act→World→Prop} {A:Act} (F:Fr C B a D os s w) (k:∀V,Fr C B a D os s V→Code.wp Pg c b A V):Code.wp Pg c b A w:=k w F
theorem zCi {Pg:Program} {f:Func} {b:Ending→World→Prop} {A:Act} (F:Fr C B a D os s w) (k:∀V,Fr C B a D os s V→bodyPost Pg f b .ret A V):bodyPost Pg f b .ret A w:=k w F
theorem Fr.kB {f:FuncId} {b:Bool} (F:Fr C B a D os s w) (h:Calls prog f args w (zNo C s b w)) {Q:Ending→World→Prop} (k:∀w',Fr C B a D os s w'→Q (.returned b) w'):Calls prog f args w Q:=h.mono fun _ w' ⟨h1,_,c⟩=>h1▸k w' (F.n c)
theorem Fr.kM {f:FuncId} {b:Bool} (F:Fr C B a D os s w) (h:Calls prog f args w (zY5 C s' b w)) {Q:Ending→World→Prop} (k:∀w',Fr C B a D os s' w'→Q (.returned b) w'):Calls prog f args w Q:=h.mono fun _ w' ⟨h1,c,d⟩=>h1▸k w' (F.m c d)
theorem Fr.kN {f:FuncId} (F:Fr C B a D os s w) (h:Calls prog f args w (zYR C s' w)) {Q:Ending→World→Prop} (k:∀w',Fr C B a D os s' w'→Q (.returned (.tuple #[])) w'):Calls prog f args w Q:=h.mono fun _ w' ⟨h1,b,c⟩=>h1▸k w' (F.m b c)
theorem Fr.kS {f:FuncId} {p:jE×Ps} (F:Fr C B a D os s w) (h:Calls prog f args w (zY6 C p w)) {Q:Ending→World→Prop} (k:∀w',Fr C B a D os p.2 w'→Q (.returned p.1) w'):Calls prog f args w Q:=h.mono fun _ w' ⟨h1,b,c⟩=>h1▸k w' (F.m b c)
theorem Fr.kS2 {f:FuncId} {b:jE} (F:Fr C B a D os s w) (h:Calls prog f args w (zY6 C (b,s') w)) {Q:Ending→World→Prop} (k:∀w',Fr C B a D os s' w'→Q (.returned b) w'):Calls prog f args w Q:=h.mono fun _ w' ⟨h1,c,d⟩=>h1▸k w' (F.m c d)
theorem Fr.kQ {f:FuncId} (F:Fr C B a D os s w) (h:Calls prog f args w (fun e w'=>e=.returned v∧w.grownBy w' none)) {Q:Ending→World→Prop} (k:∀w',Fr C B a D os s w'→Q (.returned v) w'):Calls prog f args w Q:=h.mono fun _ w' ⟨h1,b⟩=>h1▸k w' (F.n b)
theorem Fr.addT {t:Tr} (F:Fr C B a D os s w) (b:Pa C s' w') (hg:w.grownBy w' (some C.g)) (c:TrC w' (w.heap.size≤·) t cs):Fr C B a D (os++[.tr t cs]) s' w':=
 .mk ((F.m b hg).out.snoc rfl (TrC.sub (fun _ hb _=>F.out.off hb) _ _ c))
theorem Fr.kD {f:FuncId} {p:Tr×Ps} (F:Fr C B a D os s w) (h:Calls prog f args w (zDb C p w)) {Q:Ending→World→Prop} (k:∀w' d0 d1 d2 d3 d4 d5 d6 d7 d8,Fr C B a D (os++[.tr p.1 [d0,d1,d2,d3,d4,d5,d6,d7,d8]]) p.2 w'→Q (.returned (.agg #[d0,d1,d2,d3,d4,d5,d6,d7,d8])) w'):Calls prog f args w Q:=
 h.mono fun _ w' ⟨d0,d1,d2,d3,d4,d5,d6,d7,d8,h1,b,c,d⟩=>h1▸k w' d0 d1 d2 d3 d4 d5 d6 d7 d8 (F.addT c d b)
theorem Fr.kX {f:FuncId} {p:Tr×Ps} (F:Fr C B a D os s w) (h:Calls prog f args w (zDb C p w)) {Q:Ending→World→Prop} (k:∀x,Hid (p=x)→∀w' d0 d1 d2 d3 d4 d5 d6 d7 d8,Fr C B a D (os++[.tr x.1 [d0,d1,d2,d3,d4,d5,d6,d7,d8]]) x.2 w'→Q (.returned (.agg #[d0,d1,d2,d3,d4,d5,d6,d7,d8])) w'):Calls prog f args w Q:=F.kD h (k p (zA rfl))
theorem Fr.al (F:Fr C B a D os s w) (o:Obj):Fr C B a D os s (w.alloc o):=F.n (zG w o none)
theorem Fr.kL {f:FuncId} {p:Tr×Ps} (F:Fr C B a D os s w) (h:Calls prog f args w (LstQ C p w)) {Q:Ending→World→Prop} (k:∀w' A n c,Hid (p.1.subs.length=n)→n≤c→c≤maxLen→Fr C B a D (os++[.ro (.slice A n c) p.1.subs]) p.2 w'→Q (.returned (.slice A n c)) w'):Calls prog f args w Q:=
 h.mono fun _ w' ⟨A,n,c,h1,b,d,e,g,h6,j⟩=>h1▸k w' A n c (zA b) d e (.mk ((F.m h6 j).out.snoc rfl (g.sub fun _ hb _=>F.out.off hb)))
theorem zVx {os:List Ob} {x:Ob} (h:os[i]? =some x):i < os.length:=by
 rcases yBO i os.length with b | b
 · exact b
 · rw[yBC b]at h;cases h
theorem FrR.rep (F:FrR C B a D os s w) {x y:Ob} (l:os[j]? =some x) (_b:x.blk=none) (m:y.blk=none) (h:y.Ok D (Off B D) w):FrR C B a D (os.set j y) s w:=by
 have c:∀(i:Nat) (z:Ob) (R:Nat),(os.set j y)[i]? =some z→z.blk=some R→os[i]? =some z:=by
  intro i z R h1 b;rw[yCQ]at h1;split at h1
  · split at h1
    · injection h1 with h1;subst h1;rw[m]at b;cases b
    · cases h1
  · exact h1
 refine⟨F.pa,F.gr,F.bl,F.bh,F.ds,fun i k z d R h1 b f g=>F.nd i k z d R (c i z R h1 f) (c k d R b g) f g,?_⟩;intro i z h1;rw[yCQ]at h1;split at h1
 · (try rw[if_pos (by rename_i e;subst e;exact zVx l)]at h1)
   injection h1 with h1;subst h1;exact h
 · exact F.ob i z h1
theorem Fr.kR {f:FuncId} {p:Tr×Ps} (F:Fr C B a D os s w) (j:Nat) {l:List Tr} (b:os[j]? =some (.ro v l)) (h:Calls prog f args w (zDb C p w)) {Q:Ending→World→Prop} (k:∀w' d0 d1 d2 d3 d4 d5 d6 d7 d8,Fr C B a D (os.set j (.rn w.heap.size v l)++[.tn w.heap.size p.1 [d0,d1,d2,d3,d4,d5,d6,d7,d8]]) p.2 w'→Q (.returned (.agg #[d0,d1,d2,d3,d4,d5,d6,d7,d8])) w'):Calls prog f args w Q:=
 h.mono fun _ w' ⟨d0,d1,d2,d3,d4,d5,d6,d7,d8,h1,d,e,c⟩=>h1▸k w' d0 d1 d2 d3 d4 d5 d6 d7 d8
  (.mk (((F.out.rep (y:=.rn w.heap.size v l) b rfl rfl ((F.r j b).sub fun _ hb g=>⟨hb,g⟩)).go' e c (.inr rfl)).snoc (x:=.tn _ _ _) rfl ⟨TrC.sub (fun _ hb _=>⟨F.out.off hb,hb⟩) _ _ d,c.size⟩))
theorem Fr.kRX {f:FuncId} {p:Tr×Ps} (F:Fr C B a D os s w) (j:Nat) {l:List Tr} (b:os[j]? =some (.ro v l)) (h:Calls prog f args w (zDb C p w)) {Q:Ending→World→Prop} (k:∀x,Hid (p=x)→∀w' d0 d1 d2 d3 d4 d5 d6 d7 d8,Fr C B a D (os.set j (.rn w.heap.size v l)++[.tn w.heap.size x.1 [d0,d1,d2,d3,d4,d5,d6,d7,d8]]) x.2 w'→Q (.returned (.agg #[d0,d1,d2,d3,d4,d5,d6,d7,d8])) w'):Calls prog f args w Q:=F.kR j b h (k p (zA rfl))
def Ob.calm:Ob→Ob
 | .tr _ cs=>.vs cs
 | .tn _ _ cs=>.vs cs
 | .ro _ _=>.vs []
 | .rn _ _ _=>.vs []
 | x=>x
theorem FrR.grow (F:FrR C B a D os s w) {v':Value} {l g:List Tr} {x:Ob} (p:os[j]? =some x) (q:x.blk=none) (d:RowP w (Off B D) v l) (hg:w.grownBy w' v.ownBlock) (r:RowP w' (Off B D) v' g) (hB:∀b,B b→a.heap.size≤b):FrR C B a D ((os.map Ob.calm).set j (.ro v' g)) s w':=by
 have f:∀y:Ob,y.calm.blk=y.blk:=fun y=>by cases y<;>rfl
 have t:FrR C B a D (os.map Ob.calm) s w':=by
  refine⟨F.pa.row d (fun b hb=>F.bl b hb.1) hg,zJk F.gr (fun b hb=>?_) hg,F.bl,F.bh,fun b hb=>⟨(F.ds b hb).1,yAA (F.ds b hb).2 hg.size⟩,?_,?_⟩
  · exact hB b (d.lt b hb).1.1
  · intro i k y z R h1 c m o;rw[yCH]at h1 c;cases h5:os[i]? with
    | none=>rw[h5]at h1;cases h1
    | some e=>
     cases h6:os[k]? with
     | none=>rw[h6]at c;cases c
     | some u=>
      rw[h5]at h1;rw[h6]at c;injection h1 with h1;injection c with c;subst h1 c;rw[f]at m o;exact F.nd i k e u R h5 h6 m o
  · intro i y h1;rw[yCH]at h1;cases h5:os[i]? with
    | none=>rw[h5]at h1;cases h1
    | some e=>
     rw[h5]at h1;injection h1 with h1;subst h1;have h6:=F.ob i e h5;cases e with
     | bx R T cs=>exact⟨h6.1.row d (fun h=>h.2 h6.2.1) hg,h6.2⟩
     | lf T v n xs=>
      refine⟨h6.1,zCE h6.2 h6.1 hg (d.fz (Q:=fun _=>False) (fun _ _ _ h=>h))⟩
     | _=>trivial
 exact t.rep (x:=x.calm) (by rw[yCH,p];rfl) ((f x).trans q) rfl r
theorem Fr.snocS {o:Oper} {d:Act} {r:Exit→Act→World→Prop} (F:Fr C B a D os s w) (j m:Nat) {hi n cp:Nat} {A:jQ} {l:List Tr} {t:Tr} {c0 c1 c2 c3 c4 c5 c6 c7 c8:Value} (p:os[j]? =some (.rn hi (.slice A n cp) l)) (u:os[m]? =some (.tn hi t [c0,c1,c2,c3,c4,c5,c6,c7,c8])) (hB:∀b,B b→a.heap.size≤b) (v:n≤4097) (q:o.guard=none) (x y:Operand)
 (z:o.op=.call {callee:=.builtin .append,args:=#[x,y],argTypes:=#[59,59]})
 (hs:d.eval x=.slice A n cp) (hx:d.eval y=.slice (some ⟨w.heap.size,0,none⟩) 1 1)
 (h:∀e c w',Fr C B a D ((os.map Ob.calm).set j (.ro (.slice e (n+1) c) (l++[t]))) s w'→K (d.put o.dst (.slice e (n+1) c)) w'):
 if Region.wanted o (yielded ops d.tmps)=true then Oper.wp prog o d (w.alloc (.cells #[c0,c1,c2,c3,c4,c5,c6,c7,c8] 61)) K r else E:=by
 have g:RowP w (fun b=>Off B D b∧b < hi) (.slice A n cp) l:=F.out.ob j _ p;have f:=g.sub (Q:=Off B D) fun _ hb _=>hb.1;have G:TrC w (fun b=>Off B D b∧hi≤b) t [c0,c1,c2,c3,c4,c5,c6,c7,c8]:=(F.out.ob m _ u).1;refine zJn (Px:=Off B D) (Q:=fun b=>Off B D b∧hi≤b) q x y z hs g.bounds.1 f G (fun b hb _=>hb.1) (fun b hb k=>?_) (F.out.off (Nat.le_succ _)) v hx ?_
 · have:=(g.lt b hb).1.2;have:=k.2;omega
 · intro e c w' h1 k;exact h e c w' (.mk ((F.al (.cells #[c0,c1,c2,c3,c4,c5,c6,c7,c8] 61)).out.grow p rfl (f.new (zG _ _ _)) k h1 hB))
theorem Fr.snocL {o:Oper} {d:Act} {p:Exit→Act→World→Prop} (F:Fr C B a D os s w) (j m:Nat) {hi n cp:Nat} {A:jQ} {l:List Tr} {t:Tr} {c0 c1 c2 c3 c4 c5 c6 c7 c8:Value} (q:os[j]? =some (.rn hi (.slice A n cp) l)) (u:os[m]? =some (.tn hi t [c0,c1,c2,c3,c4,c5,c6,c7,c8])) (hB:∀b,B b→a.heap.size≤b) (v:n≤4097) (r:o.guard=none) (x y:Operand)
 (z:o.op=.call {callee:=.builtin .append,args:=#[x,y],argTypes:=#[59,59]})
 (hs:d.eval x=.slice A n cp) (hx:d.eval y=.slice (some ⟨w.heap.size,0,none⟩) 1 1)
 (h:∀e c w',Fr C B a D ((os.map Ob.calm).set j (.ro (.slice e (n+1) c) (l++[t]))) s w'→wpList prog ops p rest (d.put o.dst (.slice e (n+1) c)) w'):
 wpList prog ops p (o::rest) d (w.alloc (.cells #[c0,c1,c2,c3,c4,c5,c6,c7,c8] 61)):=by
 have g:RowP w (fun b=>Off B D b∧b < hi) (.slice A n cp) l:=F.out.ob j _ q;have f:=g.sub (Q:=Off B D) fun _ hb _=>hb.1;have E:TrC w (fun b=>Off B D b∧hi≤b) t [c0,c1,c2,c3,c4,c5,c6,c7,c8]:=(F.out.ob m _ u).1;refine zEd (Px:=Off B D) (Q:=fun b=>Off B D b∧hi≤b) r x y z hs g.bounds.1 f E (fun b hb _=>hb.1) (fun b hb k=>?_) (F.out.off (Nat.le_succ _)) v hx ?_
 · have:=(g.lt b hb).1.2;have:=k.2;omega
 · intro e c w' h1 k;exact h e c w' (.mk ((F.al (.cells #[c0,c1,c2,c3,c4,c5,c6,c7,c8] 61)).out.grow q rfl (f.new (zG _ _ _)) k h1 hB))
theorem Fr.snoc0 {o:Oper} {d:Act} {k:Exit→Act→World→Prop} (F:Fr C B a D os s w) (m:Nat) (kk:Int) (nm:jE) {lo:Nat} {t:Tr} {c0 c1 c2 c3 c4 c5 c6 c7 c8:Value} (p:os[m]? =some (.tn lo t [c0,c1,c2,c3,c4,c5,c6,c7,c8])) (g:o.guard=none) (x y:Operand)
 (q:o.op=.call {callee:=.builtin .append,args:=#[x,y],argTypes:=#[59,59]})
 (hs:d.eval x=.slice none 0 0) (hx:d.eval y=.slice (some ⟨w.heap.size,0,none⟩) 1 1)
 (h:∀e c w',Fr C B a D (os++[.tn lo (trN kk nm [t]) [kk,nm,(),(0:Int),(0:Int),false,(),(),.slice e 1 c]]) s w'→K (d.put o.dst (.slice e (0+1) c)) w'):
 if Region.wanted o (yielded ops d.tmps)=true then Oper.wp prog o d (w.alloc (.cells #[c0,c1,c2,c3,c4,c5,c6,c7,c8] 61)) K k else E:=by
 have f:=F.out.ob m _ p;refine zJn (Px:=fun b=>Off B D b∧lo≤b) (Q:=fun b=>Off B D b∧lo≤b) g x y q hs (l:=[]) rfl (RowP.nil _ _) f.1 (fun b hb _=>hb) (fun b hb _=>by cases hb) ⟨F.out.off (Nat.le_succ _),Nat.le_succ_of_le f.2⟩ jo hx ?_;intro e c w' h1 j;have r:=(F.al (.cells #[c0,c1,c2,c3,c4,c5,c6,c7,c8] 61)).n (w':=w') j;refine h e c w' (.mk (r.out.snoc (x:=.tn _ _ _) rfl ⟨(show TrC _ _ _ _ from RowP.treeN h1),?_⟩));have u:=j.size;have v:=f.2;simp at u;omega
theorem Fr.nar (F:Fr C B a D os s w) (j:Nat) {l:List Tr} (b:os[j]? =some (.ro v l)):Fr C B a D (os.set j (.rn w.heap.size v l)) s w:=.mk (F.out.rep b rfl rfl (RowP.sub (F.r j b) fun _ hb c=>⟨hb,c⟩))
theorem Fr.leafM (F:Fr C B a D os s w) (kk:Int) (nm:jE):Fr C B a D (os++[.tn w.heap.size (trN kk nm []) [kk,nm,(),(0:Int),(0:Int),false,(),(),()]]) s w:=.mk (F.out.snoc (x:=.tn _ _ _) rfl ⟨(show TrC _ _ _ _ from(RowP.nil _ _).treeN),yAC _⟩)
theorem Fr.rowN (F:Fr C B a D os s w) (i:Nat) {l:List Tr} (h:os[i]? =some (.ro v l)) (kk:Int) (nm:jE):Fr C B a D (os++[.tr (trN kk nm l) [kk,nm,(),(0:Int),(0:Int),false,(),(),v]]) s w:=.mk (F.out.snoc rfl (show TrC _ _ _ _ from(F.r i h).treeN))
theorem Fr.rowK (F:Fr C B a D os s w) (i:Nat) {l:List Tr} (h:os[i]? =some (.ro v l)) (kk:Int):Fr C B a D (os++[.tr (trK kk l) [kk,"",(),(0:Int),(0:Int),false,(),(),v]]) s w:=.mk (F.out.snoc rfl (show TrC _ _ _ _ from(F.r i h).treeK))
theorem Fr.nil (F:Fr C B a D os s w):Fr C B a D (os++[.ro (.slice none 0 0) []]) s w:=.mk (F.out.snoc rfl (show RowP _ _ _ _ from RowP.nil _ _))
theorem Fr.leafN (F:Fr C B a D os s w) (kk:Int) (nm:jE):Fr C B a D (os++[.tr (trN kk nm []) [kk,nm,(),(0:Int),(0:Int),false,(),(),()]]) s w:=.mk (F.out.snoc rfl (show TrC _ _ _ _ from(RowP.nil _ _).treeN))
theorem Fr.leafK (F:Fr C B a D os s w) (kk:Int):Fr C B a D (os++[.tr (trK kk []) [kk,"",(),(0:Int),(0:Int),false,(),(),()]]) s w:=.mk (F.out.snoc rfl (show TrC _ _ _ _ from(RowP.nil _ _).treeK))
def pkL (os:List Ob) (l:List Nat):List Ob:=l.map fun i=>os.getD i (.vs [])
theorem Fr.pkc (F:Fr C B a D os s w) (E:List Nat) (l:List Nat) (o:∀b∈E,b∈D) (p:l.Nodup) (hk:∀R∈(pkL os l).filterMap Ob.blk,R∈E):Fr C B a E (pkL os l) s w:=by
 have G:=F.out;have e:∀(i:Nat) (x:Ob),(pkL os l)[i]? =some x→∃k,l[i]? =some k∧x=os.getD k (.vs []):=by
  intro i x h;unfold pkL at h;rw[yCH]at h;cases d:l[i]? with
  | none=>rw[d]at h;cases h
  | some k=>rw[d]at h;injection h with h;exact⟨k,rfl,h.symm⟩
 have f:∀k:Nat,os.getD k (.vs [])=.vs []∨os[k]? =some (os.getD k (.vs [])):=by
  intro k;rw[yAG];cases d:os[k]? with
  | none=>exact .inl rfl
  | some x=>exact .inr rfl
 refine .mk ⟨G.pa,G.gr,G.bl,G.bh,fun b hb=>G.ds b (o b hb),?_,?_⟩
 · intro i j x y R h1 c g m;obtain⟨k1,e1,rfl⟩:=e i x h1;obtain⟨k2,e2,rfl⟩:=e j y c;rcases f k1 with e3 | e3
   · rw[e3]at g;cases g
   rcases f k2 with e4 | e4
   · rw[e4]at m;cases m
   have e5:=G.nd k1 k2 _ _ R e3 e4 g m;subst e5;have l1:i < l.length:=by
    rcases yBO i l.length with d | d
    · exact d
    · rw[yBC d]at e1;cases e1
   exact(List.getElem?_inj l1 p).1 (e1.trans e2.symm)
 · intro i x h1;obtain⟨k,e1,rfl⟩:=e i x h1;rcases f k with e3 | e3
   · rw[e3];trivial
   · have c:=G.ob k _ e3;have hs:∀b,Off B D b→Off B E b:=fun b hb=>⟨hb.1,fun h=>hb.2 (o b h)⟩;have hk:∀R,(os.getD k (.vs [])).blk=some R→R∈E:=fun R h=>hk R (List.mem_filterMap.2 ⟨_,yCG h1,h⟩);generalize os.getD k (.vs [])=z at hk c;cases z with
     | bx R T cs=>exact⟨c.1,hk R rfl,c.2.2⟩
     | tr t cs=>exact TrC.sub (fun b hb _=>hs b hb) _ _ c
     | tn lo t cs=>exact⟨TrC.sub (fun b hb _=>⟨hs b hb.1,hb.2⟩) _ _ c.1,c.2⟩
     | ro v l=>exact RowP.sub c fun b hb _=>hs b hb
     | rn hi v l=>exact RowP.sub c fun b hb _=>⟨hs b hb.1,hb.2⟩
     | lf T v n xs=>exact c
     | vs cs=>trivial
theorem Fr.pk (F:Fr C B a D os s w) (E:List Nat) (l:List Nat) (c:∀b∈E,b∈D) (d:l.Nodup) {r1:Nat} (e:(pkL os l).filterMap Ob.blk=[r0,r1]) (f:r0∈E) (h1:r1∈E):Fr C B a E (pkL os l) s w:=F.pkc E l c d fun R h=>by
 rw[e]at h;rcases yAW.1 h with rfl | h
 · assumption
 · rw[yBT.1 h];assumption
theorem Fr.pk1 (F:Fr C B a D os s w) (E:List Nat) (l:List Nat) (c:∀b∈E,b∈D) (d:l.Nodup) (e:(pkL os l).filterMap Ob.blk=[r0]) (f:r0∈E):Fr C B a E (pkL os l) s w:=F.pkc E l c d fun R h=>by
 rw[e]at h;rw[yBT.1 h];assumption
theorem Fr.pk3 (F:Fr C B a D os s w) (E:List Nat) (l:List Nat) (c:∀b∈E,b∈D) (d:l.Nodup) {r1 r2:Nat} (e:(pkL os l).filterMap Ob.blk=[r0,r1,r2]) (f:r0∈E) (h1:r1∈E) (g:r2∈E):Fr C B a E (pkL os l) s w:=F.pkc E l c d fun R h=>by
 rw[e]at h;rcases yAW.1 h with rfl | h
 · assumption
 rcases yAW.1 h with rfl | h
 · assumption
 · rw[yBT.1 h];assumption
theorem Fr.kT {f:FuncId} {b:jH} {c:List Nat} (F:Fr C B a D os s w) (h:Calls prog f args w (zY7 C s kd tx b nk nn c ps nl w)) {Q:Ending→World→Prop} (k:∀w' As Am c1 c2,Fr C B a D (os++[.vs [kd,tx,.slice As b.length c1,nk,nn,false,.slice Am c.length c2,ps,nl]]) s w'→Q (.returned (.agg #[kd,tx,.slice As b.length c1,nk,nn,false,.slice Am c.length c2,ps,nl])) w'):Calls prog f args w Q:=
 h.mono fun _ w' ⟨As,Am,c1,c2,h1,_,_,_,d⟩=>h1▸k w' As Am c1 c2 (.mk ((F.n d).out.snoc rfl trivial))
theorem Fr.kTl {f:FuncId} {b:jH} {c:List Nat} (F:Fr C B a D os s w) (h:Calls prog f args w (zY7 C s kd tx b nk nn c ps nl w)) {Q:Ending→World→Prop} (k:∀w' As Am c1 c2,Fr C B a D (os++[.vs [kd,tx,.slice As b.length c1,nk,nn,false,.slice Am c.length c2,ps,nl]]++[.lf 104 (.slice As b.length c1) b.length (zAC b)]++[.lf 119 (.slice Am c.length c2) c.length (zBg c)]) s w'→Q (.returned (.agg #[kd,tx,.slice As b.length c1,nk,nn,false,.slice Am c.length c2,ps,nl])) w'):Calls prog f args w Q:=
 h.mono fun _ w' ⟨As,Am,c1,c2,h1,d,e,_,g⟩=>h1▸k w' As Am c1 c2 (.mk ((((F.n g).out.snoc (x:=.vs _) rfl trivial).snoc (x:=.lf _ _ _ _) rfl ⟨.inl rfl,d⟩).snoc (x:=.lf _ _ _ _) rfl ⟨.inr rfl,e⟩))
theorem Fr.l (F:Fr C B a D os s w) (i:Nat) {n:Nat} {xs:List Value} (h:os[i]? =some (.lf T v n xs):=by rfl):w.ownsRow 0 T 1 v n xs:=(F.out.ob i _ h).2
theorem zZQ {w:World} {P:Nat→Prop} {x:Nd} {vs b:Value} (hk:x.kids=[]) (hs:w.ownsRow 0 104 1 vs x.str.length (zAC x.str)) (c:w.ownsRow 0 119 1 b x.mag.length (zBg x.mag)):TrC w P (.mk x []) (zWt x vs b (.slice none 0 0)):=by
 rw[zER];exact⟨vs,b,.slice none 0 0,[],rfl,hk,hs,c,yAJ _ _ _ _,(fun _ h=>by cases h),zCs.mpr rfl⟩
theorem Fr.leafX (F:Fr C B a D os s w) (x:Nd) {vs b:Value} (hk:x.kids=[]) (hs:w.ownsRow 0 104 1 vs x.str.length (zAC x.str)) (c:w.ownsRow 0 119 1 b x.mag.length (zBg x.mag)):Fr C B a D (os++[.tr (.mk x []) (zWt x vs b (.slice none 0 0))]) s w:=.mk (F.out.snoc rfl (zZQ hk hs c))
theorem Fr.kA {f:FuncId} {p:Tr×Ps} {w1:World} (F:Fr C B a D os s w) (h:Calls prog f args w1 (zVw C w p)) {Q:Ending→World→Prop} (k:∀x,Hid (p=x)→∀w' d0 d1 d2 d3 d4 d5 d6 d7 d8,Fr C B a D (os++[.tr x.1 [d0,d1,d2,d3,d4,d5,d6,d7,d8]]) x.2 w'→Q (.returned (.agg #[d0,d1,d2,d3,d4,d5,d6,d7,d8])) w'):Calls prog f args w1 Q:=
 h.mono fun _ w' ⟨d0,d1,d2,d3,d4,d5,d6,d7,d8,h1,b,c,d⟩=>h1▸k p (zA rfl) w' d0 d1 d2 d3 d4 d5 d6 d7 d8 (F.addT c d b)
theorem Fr.kO {f:FuncId} {p:Tr×Ps} (F:Fr C B a D os s w) (h:Calls prog f args w (NodR C (Off B D) p w)) {Q:Ending→World→Prop} (k:∀w' d0 d1 d2 d3 d4 d5 d6 d7 d8,Fr C B a D (os++[.tr p.1 [d0,d1,d2,d3,d4,d5,d6,d7,d8]]) p.2 w'→Q (.returned (.agg #[d0,d1,d2,d3,d4,d5,d6,d7,d8])) w'):Calls prog f args w Q:=
 h.mono fun _ w' ⟨d0,d1,d2,d3,d4,d5,d6,d7,d8,h1,b,c,d⟩=>h1▸k w' d0 d1 d2 d3 d4 d5 d6 d7 d8 (.mk ((F.m c d).out.snoc rfl (TrC.sub (fun _ hb _=>hb.elim id F.out.off) _ _ b)))
theorem Fr.both (F:Fr C B a D os s w) (j:Nat) (c:os[j]? =some (.tr x [d0,d1,d2,d3,d4,d5,d6,d7,d8])) (h:zf C s w (.both x)):Calls prog 180 #[C,.agg #[d0,d1,d2,d3,d4,d5,d6,d7,d8]] w (NodR C (Off B D) (zE C.L (.both x) s) w):=h _ _ _ _ _ _ _ _ _ _ (fun b hb=>F.out.bl b hb.1) (F.t j c)
theorem Fr.made0 (F:Fr C B a D os s w) (kk:Int) {Q:Ending→World→Prop} (k:∀w',Fr C B a D (os++[.tr (trK kk []) [kk,"",(),(0:Int),(0:Int),false,(),(),()]]) s w'→Q (.returned (.agg #[kk,"",(),(0:Int),(0:Int),false,(),(),()])) w'):Calls prog 31 #[kk,()] w Q:=
 (zAr kk none 0 0).mono fun _ w' ⟨h1,b⟩=>h1▸k w' (.mk ((F.n b).out.snoc rfl (show TrC _ _ _ _ from(RowP.nil _ _).treeK)))
theorem Fr.named0 (F:Fr C B a D os s w) (kk:Int) (nm:jE) {Q:Ending→World→Prop} (k:∀w',Fr C B a D (os++[.tr (trN kk nm []) [kk,nm,(),(0:Int),(0:Int),false,(),(),()]]) s w'→Q (.returned (.agg #[kk,nm,(),(0:Int),(0:Int),false,(),(),()])) w'):Calls prog 121 #[kk,nm,()] w Q:=
 (zDB kk ⟨nm.toArray⟩ none 0 0).mono fun _ w' ⟨h1,b⟩=>h1▸k w' (.mk ((F.n b).out.snoc rfl (show TrC _ _ _ _ from(RowP.nil _ _).treeN)))
theorem Fr.litG {l:List Tr} {n R:Nat} (F:Fr C B a D os s w) (b:TrsC w (Off B D) l cs) (c:n=l.length) (d:n≤4097) (e:w.heap.size=R) (hg:(w.alloc (.cells cs.toArray 61)).grownBy w' none):FrR C B a D os s w'∧RowP w' (Off B D) (.slice (some ⟨R,0,none⟩) n n) l:=by
 subst e;exact⟨(F.n (zC (zG w (.cells cs.toArray 61) none) hg)).out,zMN c b d (F.out.off (yAC _)) hg⟩
theorem Fr.litK {l:List Tr} {n R:Nat} (F:Fr C B a D os s w) (kk:Int) (b:TrsC w (Off B D) l cs) (c:n=l.length) (d:n≤4097) (e:w.heap.size=R) {Q:Ending→World→Prop} (k:∀w',Fr C B a D (os++[.tr (trK kk l) [kk,"",(),(0:Int),(0:Int),false,(),(),.slice (some ⟨R,0,none⟩) n n]]) s w'→Q (.returned (.agg #[kk,"",(),(0:Int),(0:Int),false,(),(),.slice (some ⟨R,0,none⟩) n n])) w'):Calls prog 31 #[kk,.slice (some ⟨R,0,none⟩) n n] (w.alloc (.cells cs.toArray 61)) Q:=
 (zAr kk _ n n).mono fun _ w' ⟨h1,f⟩=>h1▸k w' (.mk ((F.litG b c d e f).1.snoc rfl (show TrC _ _ _ _ from(F.litG b c d e f).2.treeK)))
theorem Fr.litN {l:List Tr} {n R:Nat} (F:Fr C B a D os s w) (kk:Int) (nm:jE) (b:TrsC w (Off B D) l cs) (c:n=l.length) (d:n≤4097) (e:w.heap.size=R) {Q:Ending→World→Prop} (k:∀w',Fr C B a D (os++[.tr (trN kk nm l) [kk,nm,(),(0:Int),(0:Int),false,(),(),.slice (some ⟨R,0,none⟩) n n]]) s w'→Q (.returned (.agg #[kk,nm,(),(0:Int),(0:Int),false,(),(),.slice (some ⟨R,0,none⟩) n n])) w'):Calls prog 121 #[kk,nm,.slice (some ⟨R,0,none⟩) n n] (w.alloc (.cells cs.toArray 61)) Q:=
 (zDB kk ⟨nm.toArray⟩ _ n n).mono fun _ w' ⟨h1,f⟩=>h1▸k w' (.mk ((F.litG b c d e f).1.snoc rfl (show TrC _ _ _ _ from(F.litG b c d e f).2.treeN)))
theorem Fr.litR {l:List Tr} {n R:Nat} (F:Fr C B a D os s w) (kk:Int) (b:TrsC w (Off B D) l cs) (c:n=l.length) (d:n≤4097) (e:w.heap.size=R) {Q:Ending→World→Prop} (k:∀w',Fr C B a D (os++[.ro (.slice (some ⟨R,0,none⟩) n n) l]++[.tr (trK kk l) [kk,"",(),(0:Int),(0:Int),false,(),(),.slice (some ⟨R,0,none⟩) n n]]) s w'→Q (.returned (.agg #[kk,"",(),(0:Int),(0:Int),false,(),(),.slice (some ⟨R,0,none⟩) n n])) w'):Calls prog 31 #[kk,.slice (some ⟨R,0,none⟩) n n] (w.alloc (.cells cs.toArray 61)) Q:=
 (zAr kk _ n n).mono fun _ w' ⟨h1,f⟩=>h1▸k w' (.mk (((F.litG b c d e f).1.snoc (x:=.ro (.slice (some ⟨R,0,none⟩) n n) l) rfl (F.litG b c d e f).2).snoc rfl (show TrC _ _ _ _ from(F.litG b c d e f).2.treeK)))
section
variable {kk:Int} {nm:jE} {R:Nat} {t1 t2 t3:Tr} {e0 e1 e2 e3 e4 e5 e6 e7 e8 a0 a1 a2 a3 a4 a5 a6 a7 a8 p0 p1 p2 p3 p4 p5 p6 p7 p8:Value}
theorem Fr.ts1 (F:Fr C B a D os s w) (i:Nat) (h1:os[i]? =some (.tr t1 [e0,e1,e2,e3,e4,e5,e6,e7,e8]):=by rfl):TrsC w (Off B D) [t1] [e0,e1,e2,e3,e4,e5,e6,e7,e8]:=.single (F.t i h1)
theorem Fr.ts2 (F:Fr C B a D os s w) (i j:Nat) (h1:os[i]? =some (.tr t1 [e0,e1,e2,e3,e4,e5,e6,e7,e8]):=by rfl) (h2:os[j]? =some (.tr t2 [a0,a1,a2,a3,a4,a5,a6,a7,a8]):=by rfl):TrsC w (Off B D) [t1,t2] [e0,e1,e2,e3,e4,e5,e6,e7,e8,a0,a1,a2,a3,a4,a5,a6,a7,a8]:=TrsC.cons (F.t i h1) (.single (F.t j h2))
theorem Fr.ts3 (F:Fr C B a D os s w) (i j m:Nat) (h1:os[i]? =some (.tr t1 [e0,e1,e2,e3,e4,e5,e6,e7,e8]):=by rfl) (h2:os[j]? =some (.tr t2 [a0,a1,a2,a3,a4,a5,a6,a7,a8]):=by rfl) (h3:os[m]? =some (.tr t3 [p0,p1,p2,p3,p4,p5,p6,p7,p8]):=by rfl):TrsC w (Off B D) [t1,t2,t3] [e0,e1,e2,e3,e4,e5,e6,e7,e8,a0,a1,a2,a3,a4,a5,a6,a7,a8,p0,p1,p2,p3,p4,p5,p6,p7,p8]:=TrsC.cons (F.t i h1) (TrsC.cons (F.t j h2) (.single (F.t m h3)))
end
theorem Fr.sto (F:Fr C B a D os s w) (i:Nat) {t:Tr} {e0 e1 e2 e3 e4 e5 e6 e7 e8:Value} (h:os[i]? =some (.tr t [e0,e1,e2,e3,e4,e5,e6,e7,e8]):=by rfl):(∀(v:World) (a:Addr),(store a e0).run prog v=stored prog v a e0 .plain)∧(∀(v:World) (a:Addr),(store a e1).run prog v=stored prog v a e1 .plain)∧(∀(v:World) (a:Addr),(store a e2).run prog v=stored prog v a e2 .plain)∧(∀(v:World) (a:Addr),(store a e3).run prog v=stored prog v a e3 .plain)∧(∀(v:World) (a:Addr),(store a e4).run prog v=stored prog v a e4 .plain)∧(∀(v:World) (a:Addr),(store a e5).run prog v=stored prog v a e5 .plain)∧(∀(v:World) (a:Addr),(store a e6).run prog v=stored prog v a e6 .plain)∧(∀(v:World) (a:Addr),(store a e7).run prog v=stored prog v a e7 .plain)∧(∀(v:World) (a:Addr),(store a e8).run prog v=stored prog v a e8 .plain):=(F.t i h).sto
theorem Fr.kind (F:Fr C B a D os s w) (i:Nat) {t:Tr} {e0 e1 e2 e3 e4 e5 e6 e7 e8:Value} (h:os[i]? =some (.tr t [e0,e1,e2,e3,e4,e5,e6,e7,e8]):=by rfl):e0=.int .i64 t.nd.kind:=by
 have h1:=F.t i h;cases t with
 | mk x l=>
  rw[zER]at h1;obtain⟨vs,b,vo,ks,h1,_⟩:=h1;injection h1
theorem Fr.ret {Pg:Program} {A:Act} {p:Tr×Ps} {t:Tr} (F:Fr C B a D os s w) (j:Nat) (c:os[j]? =some (.tr t [d0,d1,d2,d3,d4,d5,d6,d7,d8])) (d:(results fn A.tmps).run Pg w=.ok (.agg #[d0,d1,d2,d3,d4,d5,d6,d7,d8]) w) (f:A.defers=[]) (e:p=(t,s)) (hB:∀b,B b→a.heap.size≤b):bodyPost Pg fn (zDb C p a) .ret A w:=by
 subst e;exact bodyPost_ret d f ⟨d0,d1,d2,d3,d4,d5,d6,d7,d8,rfl,.sub (fun b hb _=>hB b hb.1) _ _ (F.t j c),F.P,F.out.gr⟩
theorem Fr.fin {A:Act} {p:Tr×Ps} {t:Tr} (F:Fr C B a D os s w) (i j:Nat) {x:Tmp} {R:Nat} (f:os[j]? =some (.tr t [d0,d1,d2,d3,d4,d5,d6,d7,d8])) (e:p=(t,s)) (hB:∀b,B b→a.heap.size≤b:=by exact fun _ h=>h) (hi:os[i]? =some (.bx R 61 [v0,v1,v2,v3,v4,v5,v6,v7,v8]):=by rfl) (hf:fn.results=#[.cell x 61]:=by rfl) (hp:A.tmps[x]?.getD undef=.pointer (some ⟨R,0,none⟩):=by rfl) (hd:A.defers=[]:=by rfl):
 bodyPost prog fn (zDb C p a) .ret A (((((((((w.setCell R d0).setCell ⟨R,1,none⟩ d1).setCell ⟨R,2,none⟩ d2).setCell ⟨R,3,none⟩ d3).setCell ⟨R,4,none⟩ d4).setCell ⟨R,5,none⟩ d5).setCell ⟨R,6,none⟩ d6).setCell ⟨R,7,none⟩ d7).setCell ⟨R,8,none⟩ d8):=by
 refine zCi (F.put9 i (d0:=d0) (d1:=d1) (d2:=d2) (d3:=d3) (d4:=d4) (d5:=d5) (d6:=d6) (d7:=d7) (d8:=d8) hi) fun V G=>?_;have q:=G.c i (R:=R) (T:=61) (by rw[List.getElem?_set_self (yAT.1 hi).1])
 by_cases d:i=j
 · subst d;rw[hi]at f;cases f
 · exact G.ret j (by rw[List.getElem?_set_ne d];exact f) (by simp only[results,hf];simp[hp,go_sem,q]) hd e hB
end
theorem zR (L:List Tok) (k:Nat):∃b,Hid (zH L k=b):=⟨_,zA rfl⟩
theorem zBY {C:Pc} {s:Ps} {w:World} (h:Pa C s w) (v:jE) (hb:onP C.L v s=true):Calls prog 79 #[C,v] w (zY5 C (zB s) true w):=zA1 h v hb
theorem zBd {C:Pc} {s:Ps} {w:World} (h:Pa C s w) (v:jE) (hb:onP C.L v s=false):Calls prog 79 #[C,v] w (zY5 C s false w):=zA1 h v hb
theorem zBG {C:Pc} {s:Ps} {w:World} {c:Ph} {f:FuncId} (d:Pre C.L c s) (h:Pa C s w) (k:Hid (Lst C.L)→C.N≤4097→s.k≤C.L.length - 1→∀r W X,Hid (zD C.L (zE C.L) c s=r)→w.alloc (.cells #[(0:Int),"",(),(0:Int),(0:Int),false,(),(),()] 61)=W→w.heap.size=X→Fr C (w.heap.size≤·) w [X] [.bx X 61 [(0:Int),"",(),(0:Int),(0:Int),false,(),(),()]] s W→Calls prog f args w (zDb C r w)):Calls prog f args w (zDb C (zE C.L c s) w):=by
 refine k (zA h.cx.lst) h.cx.n4 d.1 _ _ _ (zA (zQ h.cx.lst d).symm) rfl rfl ?_;have e:FrR C (w.heap.size≤·) w [] [] s w:=⟨h,⟨rfl,rfl,rfl,yAC _,fun _ _ _=>rfl⟩,fun b hb=>yAA h.lt hb,fun _ hb=>hb,(fun _ hb=>by cases hb),(fun _ _ _ _ _ hb=>by cases hb),fun _ _ hb=>by cases hb⟩;exact(Fr.mk e).box zHu 61 rfl jd jd
theorem zYS {C:Pc} {s:Ps} {w:World} {Q:Nat→Prop} {f:FuncId} {c:Ending→World→Prop} (h:Pa C s w) (e:∀b,Q b→C.g < b) (j:TrC w Q x [d0,d1,d2,d3,d4,d5,d6,d7,d8]) (k:Hid (Lst C.L)→C.N≤4097→s.k≤C.L.length - 1→∀d W R X,w.alloc (.cells #[d0,d1,d2,d3,d4,d5,d6,d7,d8] 61)=d→d.alloc (.cells #[(0:Int),"",(),(0:Int),(0:Int),false,(),(),()] 61)=W→w.heap.size=R→d.heap.size=X→R+1=X→Fr C (fun b=>Q b∨w.heap.size≤b) w [X,R] [.tr x [d0,d1,d2,d3,d4,d5,d6,d7,d8],.bx R 61 [d0,d1,d2,d3,d4,d5,d6,d7,d8],.bx X 61 [(0:Int),"",(),(0:Int),(0:Int),false,(),(),()]] s W→Calls prog f args w c):Calls prog f args w c:=by
 refine k (zA h.cx.lst) h.cx.n4 h.hi _ _ _ _ rfl rfl rfl rfl js ?_;have l:FrR C (fun b=>Q b∨w.heap.size≤b) w [] [] s w:=⟨h,⟨rfl,rfl,rfl,yAC _,fun _ _ _=>rfl⟩,fun b hb=>hb.elim (e b) (fun hb=>yAA h.lt hb),fun _ hb=>.inr hb,(fun _ hb=>by cases hb),(fun _ _ _ _ _ hb=>by cases hb),fun _ _ hb=>by cases hb⟩;exact((Fr.mk (l.snoc (x:=.tr x _) rfl (TrC.sub (fun b hb _=>⟨.inl hb,by simp⟩) _ _ j))).box [d0,d1,d2,d3,d4,d5,d6,d7,d8] 61 rfl jd jd).box zHu 61 rfl jd jd
theorem zY9 {C:Pc} {s:Ps} {w:World} {l:List Tr} {f:FuncId} (d:Pre C.L (.body l) s) (h:Pa C s w) {a:World} {A:jQ} {n cp:Nat} (e:a.grownBy w (some C.g)) (j:C.g < a.heap.size) (c:RowP w (a.heap.size≤·) (.slice A n cp) l) (k:Hid (Lst C.L)→C.N≤4097→s.k≤C.L.length - 1→∀r W X,Hid (zD C.L (zE C.L) (.body l) s=r)→w.alloc (.cells #[(0:Int),"",(),(0:Int),(0:Int),false,(),(),()] 61)=W→w.heap.size=X→Fr C (a.heap.size≤·) a [X] [.ro (.slice A n cp) l,.bx X 61 [(0:Int),"",(),(0:Int),(0:Int),false,(),(),()]] s W→Calls prog f args w (zVw C a r)):Calls prog f args w (zVw C a (zE C.L (.body l) s)):=by
 refine k (zA h.cx.lst) h.cx.n4 d.1 _ _ _ (zA (zQ h.cx.lst d).symm) rfl rfl ?_;have m:FrR C (a.heap.size≤·) a [] [] s w:=⟨h,e,fun b hb=>yAA j hb,fun _ hb=>hb,(fun _ hb=>by cases hb),(fun _ _ _ _ _ hb=>by cases hb),fun _ _ hb=>by cases hb⟩;exact(Fr.mk (m.snoc (x:=.ro (.slice A n cp) l) rfl (RowP.sub c fun b hb _=>⟨hb,by simp⟩))).box zHu 61 rfl jd jd
theorem zNr {C:Pc} {s:Ps} {w:World}:zi C (.within) s w (zf C s w (.within)):=fun e K h=>by
 refine zBG e h fun m o g r W X p t u j=>?_;have v:=zA K;clear K h e;go_enter func154,ntmps154;go_upto_region 1 with(fail);clear t u;have y:=zA (za (w:=[40]) m g);go_wp2_with fail;refine j.kN (zAH j.P [40]) fun w1 d=>?_;go_wp2_with fail;refine d.kD (v.out.rank (q:=.assign) ⟨d.P.hi,trivial⟩ d.P y.out.adv.le (by simp[zAa])) fun w2 z A B D E F G H I k=>?_;have:=k.sto 1;have l:=k.bt 1 61 rfl;go_wp2_with fail;refine l.kN (zAH l.P [41]) fun J b=>?_;have:=b.c 2;have:=b.c 0;have:=b.f 0;go_wp2_with fail;exact b.fin 0 1 rfl (p.out.symm.trans (by
  unfold zD;dsimp only
  ))
theorem zNs {C:Pc} {s:Ps} {w:World}:zi C (.simple) s w (zf C s w (.simple)):=fun g K h=>by
 refine zBG g h fun H k G r W X l m o d=>?_;have p:=zA K;clear K h g;go_enter func130,ntmps130;go_upto_region 1 with(fail);clear m o;go_wp2_with fail;refine d.kD (p.out.rank (q:=.assign) ⟨d.P.hi,trivial⟩ d.P (yAC _) (by simp[zAa])) fun w1 t u v y z A B D E e=>?_;have:=e.sto 1;go_wp2_with fail;refine e.litK _ (n:=1) (e.ts1 1) rfl js rfl fun w2 F=>?_;have j:=F.bt 2 61 rfl;go_wp2_with fail;refine j.kN (zB8 j.P) fun I b=>?_;have:=b.c 3;have:=b.c 0;have:=b.f 0;go_wp2_with fail;exact b.fin 0 2 rfl (l.out.symm.trans (by
  unfold zD;dsimp only
  ))
theorem zNt {C:Pc} {v:jE} {s:Ps} {w:World}:zi C (.clause v) s w (zf C s w (.clause v)):=fun m K h=>by
 refine zBG m h fun R u Q r W X o y z A=>?_;have B:=zA K;clear K h m;go_enter func172,ntmps172;go_upto_region 1 with(fail);clear y z;go_wp2_with fail;refine A.made0 _ fun w1 D=>?_;have e:=D.bt 1 61 rfl
 by_cases b:onP C.L v s=true
 · have d:=zA b;clear b;go_wp2_with fail;refine e.kB (zAi e.P v d) fun w3 p=>?_;go_wp2_with fail;refine p.kN (zAH p.P v) fun S g=>?_;have:=g.c 2;have:=g.c 0;have:=g.f 0;go_wp2_with fail;exact g.fin 0 1 rfl (o.out.symm.trans (by
    unfold zD;dsimp only;rw[if_pos d.out]))
 · have d:=zA (show onP C.L v s=false by simpa using b);clear b;go_wp2_with fail;refine e.kB (zAi e.P v d) fun T l=>?_;go_wp2_with fail;refine l.kD (B.out.rank (q:=.assign) ⟨l.P.hi,trivial⟩ l.P (yAC _) (by simp[zAa])) fun U E F G H I J M N O j=>?_;have:=j.sto 3;have:=j.c 2;have:=j.f 2;go_upto_region 4 with(fail);refine zEf (j.put 2 3) fun V t=>?_;go_wp2_with fail;refine t.kN (zAH t.P v) fun Y k=>?_;have:=k.c 2;have:=k.c 0;have:=k.f 0;go_wp2_with fail;exact k.fin 0 3 rfl (o.out.symm.trans (by
    unfold zD;dsimp only;rw[if_neg (by rw[d.out];decide)]))
theorem zT2 {C:Pc} {s:Ps} {w:World}:zi C (.cond) s w (zf C s w (.cond)):=fun A K h=>by
 refine zBG A h fun g M j r W X B N O v=>?_;have y:=zA K;clear K h A;go_enter func151,ntmps151;go_upto_region 1 with(fail);clear N O;have R:=zA (zZ g (p:=.either) (s:=s) ⟨j,trivial⟩).adv.le;go_wp2_with fail;refine v.kD (y.out.rank (q:=.either) ⟨v.P.hi,trivial⟩ v.P (yAC _) (by simp[zAa])) fun w1 S T U V Y a0 a1 a2 a3 D=>?_;have:=D.sto 1;have t:=D.bt 1 61 rfl
 by_cases b:onP C.L [63] ((zE C.L (.either) (s)).2)=true
 · have e:=zA b;clear b;go_wp2_with fail;refine t.kM (zBY t.P [63] e) fun w3 z=>?_;have E:=zA (g.out.on (s:=(zE C.L (.either) (s)).2) (by have:=j;exact(zZ g (p:=.either) (s:=s) ⟨j,trivial⟩).adv.hi) e);have u:=zA (show s.k < (zB ((zE C.L (.either) (s)).2)).k from by have:=R.out;show s.k < ((zE C.L (.either) (s)).2).k+1;omega);have F:=zA (zZ g (p:=.assign) (s:=zB ((zE C.L (.either) (s)).2)) ⟨E,trivial⟩).adv;go_wp2_with fail;refine z.kD (y.out.more (q:=.assign) ⟨z.P.hi,trivial⟩ z.P u) fun w4 a4 a5 a6 a7 a8 a9 b0 b1 b2 G=>?_;have:=G.sto 3;have H:=G.bt 3 61 rfl;go_wp2_with fail;refine H.kN (zAH H.P [58]) fun w6 l=>?_;have hn:=zA (za (w:=[58]) g F.out.hi).adv;have I:=zA (fun Q=>l.dr.kD (Q:=Q) (y.out.more (q:=.assign) ⟨l.dr.P.hi,trivial⟩ l.dr.P (yAA u (yAD F.out.le hn.out.le))));have:=l.c 2;have:=l.c 4;go_wp2_with fail;go_region_law (first | (go_simp;go_at_call 122;(with_reducible refine I.out _ fun w7 b3 b4 b5 b6 b7 b8 b9 c0 c1 m=>?_);have:=m.c 2;have:=m.c 4;have:=m.c 0;have J:=zA (fun Q=>m.litK 48 (n:=3) (Q:=Q) (m.ts3 1 3 5) rfl js rfl)) | (go_simp;go_at_call 31;(with_reducible refine J.out _ fun w8 o=>?_);have:=o.c 0;have:=o.f 0))
   all_goals
    have:=o.c 0;have:=o.f 0;go_wp2_with fail;exact o.fin 0 6 rfl (B.out.symm.trans (by
     unfold zD;dsimp only;rw[if_pos e.out]))
 · have e:=zA (show onP C.L [63] ((zE C.L (.either) (s)).2)=false by simpa using b);clear b;go_wp2_with fail;refine t.kM (zBd t.P [63] e) fun c2 d=>?_;have:=d.c 2;have:=d.c 0;have:=d.f 0;go_wp2_with fail;exact d.fin 0 1 rfl (B.out.symm.trans (by
    unfold zD;dsimp only;rw[if_neg (by rw[e.out];decide)]))
theorem zIY (k:Int) (h:k=43∨k=44∨k=45∨k=49) {w:World} (v:jE) {q:Bool} (d:decide (v∈zOh k)=q):Calls prog 152 #[k,v] w fun e w'=>e=.returned q∧w.grownBy w' none:=by
 have f:=zA (show decide ((⟨v.toArray⟩:ByteArray).data.toList∈zOh k)=q from d);clear d;rcases h with rfl | rfl | rfl | rfl
 all_goals
  go_enter func152,ntmps152;go_wp2_with fail;refine(zPJ _ jo _).mono ?_;rintro e1 w1 ⟨l,c1,rfl,b,c⟩;have g:=zA b;have j:=zA c;clear b c;go_wp2_with fail;refine(zFs ⟨v.toArray⟩ (n:=(zOh _).length) rfl g jd f).mono ?_;rintro e2 w2 ⟨rfl,rfl⟩;go_wp2_with fail;go_ret;exact⟨rfl,zw none j⟩
def Top (k:Int) (l:List jE):Prop:=∀{w:World} (v:jE) {q:Bool},decide (v∈l)=q→Calls prog 152 #[k,v] w fun e w'=>e=.returned q∧w.grownBy w' none
theorem zQk:Top 43 zHe:=zIY 43 jo
theorem zVy:Top 44 zDa:=zIY 44 jo
theorem zMP:Top 45 zDa:=zIY 45 jo
theorem zQl:Top 49 zKO:=zIY 49 jo
theorem TrC.kind {w:World} {t:Tr} (h:TrC w F t [d0,d1,d2,d3,d4,d5,d6,d7,d8]):d0=.int .i64 t.nd.kind:=by
 cases t with
 | mk x l=>
  rw[zER]at h;obtain⟨vs,b,vo,ks,h1,_⟩:=h;unfold zWt at h1;injection h1
end Go.Proofs.YtjlfhidpmdgloaaGreatDoor
