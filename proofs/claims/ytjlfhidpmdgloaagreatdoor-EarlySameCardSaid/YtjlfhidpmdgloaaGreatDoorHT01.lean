/- Joined for the claim EarlySame: the parser, the lexer and the trees as they are walked, made short by a program of mine. -/
import Derived.Test.YtjlfhidpmdgloaaGreatDoorH01
import Derived.Test.YtjlfhidpmdgloaaGreatDoorH02
import Derived.Test.YtjlfhidpmdgloaaGreatDoorH03
import Derived.Test.YtjlfhidpmdgloaaGreatDoorH04
import Derived.Test.YtjlfhidpmdgloaaGreatDoorH05
import Derived.Test.YtjlfhidpmdgloaaGreatDoorH06
import Derived.Test.YtjlfhidpmdgloaaGreatDoorH07
import Derived.Test.YtjlfhidpmdgloaaGreatDoorH08
import Derived.Test.YtjlfhidpmdgloaaGreatDoorH09
import Derived.Test.YtjlfhidpmdgloaaGreatDoorH10
import Derived.Test.YtjlfhidpmdgloaaGreatDoorH11
import Derived.Test.YtjlfhidpmdgloaaGreatDoorH12
import Derived.Test.YtjlfhidpmdgloaaGreatDoorH13
import Derived.Test.YtjlfhidpmdgloaaGreatDoorH14
set_option maxHeartbeats 16000000
set_option maxRecDepth 1000000
namespace Go.Proofs.YtjlfhidpmdgloaaGreatDoor
open Go.Proofs.Tryz
open Go.RowKit
def zY2 (ts:List Nd) (w:World) (e:Ending) (w':World):Prop:=e=.returned (.tuple #[(),(2:Int)])∧jY w w'∨∃t,May ts t∧zI1 ts=true∧zMy (zDj t) w e w'
theorem zX5 {A:jQ} {c n:Nat} {ts:List Nd} {w0 w:World} (hN:NdsR w0 w0.heap.size A n ts) (b:Tab w0) (e:n≤c) (f:(zAR ts).length≤20000) (hb:jY w0 w):Calls prog 6 #[.agg #[.slice A n c]] w (zY2 ts w):=by
 cases hq:zI1 ts with
 | false=>exact(zVh (hN.below hb) hb.size e jo hq).mono fun _ _ h=>.inl h
 | true=>
  obtain⟨t,d⟩:=zLl hq;exact(zSD (hN.below hb) hb.size e jo (b.below b.lt hb) b.lt d (zVi d hN.limbs)).mono fun _ _ h=>.inr ⟨t,d,hq,h⟩
theorem zIx (A:jQ) (n c:Nat) (ts:List Nd) (hc:n≤c) (_b:c≤maxLen) (j:Int) (_c: -9223372036854775808≤j∧j≤9223372036854775807) (w:World) (hN:NdsR w w.heap.size A n ts) (r:Tab w∧Tabs w):
 Calls prog 3 #[.agg #[.slice A n c],j] w fun e w'=>e=.returned true∧jY w w':=by
 obtain⟨W,hW⟩:=jx (w.alloc (.cells #[.slice A n c] 24));have a6:jY w W:=jb hW;have L:w.heap.size < W.heap.size:=by rw[←hW];simp
 have x0:W.cell? w.heap.size=some (.slice A n c):=jc hW;have R:=zA a6;have CF:=zA (fun(x:World) (hb:jY w x)=>zOM (r.1.below r.1.lt hb) (r.2.grow hb));have CN:=zA (fun(x:World) (hb:jY w x)=>zX4 (c:=c) (hN.below hb) hb.size);have CP:=zA (fun(x:World) (hb:jY w x) (E:FewP ts)=>zX5 (c:=c) hN r.1 hc E.all hb);have CR:=zA (fun(x:World) (hb:jY w x) (m:Nat) (A:jQ) (d:Nat) (u:jH) (h1:u.length=m) (S:m≤d) (h3:d≤maxLen) (h4:Reads x x.heap.size 1 A m (zAC u)) (h5:zBt u=(ts,0,0))=>zMc (yAC _) h1 h4 S h3 (r.1.below r.1.lt hb) h5 hN.1);obtain⟨⟨ca,ce⟩,U⟩:=jx (chN ts);have CE:=zA (fun(x:World) (hb:jY w x) (E:FewP ts)=>by have h:=zKj (c:=c) (hN.below hb) hb.size hc (by have:=E.all;omega);rw[U]at h;exact h);have c1:=zA (fun(x:World) (G:jQ) (c2:Nat) (h:NdsR x x.heap.size G n ts) (S:n≤c2) (E:FewP ts)=>by have h:=zKj (c:=c2) h (yAC _) S (by have:=E.all;omega);rw[U]at h;exact h);have CM:=zA (fun(x:World) (hb:jY w x) (I:zI1 ts=true)=>zRU (c:=c) j (hN.below hb) hb.size hc I);have c3:=zA (fun(x:World) (G:jQ) (c2:Nat) (h:NdsR x x.heap.size G n ts) (S:n≤c2) (I:zI1 ts=true)=>zRU (c:=c2) j h (yAC _) S I);have HL:=zA hN.limbs;have c4:=zA hN.1;obtain⟨X,hX⟩:=jx w.heap.size;go_enter func3,ntmps3;go_upto_region 1 with(fail);clear hN a6 r hW hc U;rw[hX]at x0 L;clear hX;go_wp2_with fail;refine(CF.out _ R).mono ?_;rintro e1 w1 ⟨rfl,M⟩;have y1:=(M.cell (p:=X) L).trans x0;have V:=zA (zBM R M);have Y:X < w1.heap.size:=yAA L M.size;clear M x0 L R;go_wp2_with fail;refine(CN.out w1 V).mono ?_;rintro e2 w2 ⟨q,rfl,E,N⟩;have y2:=(N.cell (p:=X) Y).trans y1;have C:=zA (zBM V N);have a0:X < w2.heap.size:=yAA Y N.size;clear N y1 Y V CN;cases q with
 | false=>
  clear E;go_wp2_with fail;refine(CF.out w2 C).mono ?_;rintro e3 w3 ⟨rfl,f⟩;have g:=zA (zBM C f);clear f;go_wp2_with fail;go_ret;exact⟨rfl,g⟩
 | true=>
  have HF:=zA (E rfl);have C2:=zA (CP.out w2 C HF);clear CP E;go_wp2_with fail;refine C2.out.mono ?_;rintro e3 w3 (⟨rfl,f⟩ | ⟨t,hM,a1,f,⟨_,rfl⟩ | ⟨J,v,rfl,I⟩⟩);rotate_right
  · have hp:=zX3 hM HL J;have F:=zA a1;obtain⟨u,hu⟩:=jx (zDj t);rw[hu]at hp J I;obtain⟨B,d,rfl,a7,a8,hr⟩:=I.u16;have y3:=(f.cell (p:=X) a0).trans y2;have g:=zA (zBM C f);have O:X < w3.heap.size:=yAA a0 f.size;have C3:=zA (CR.out w3 g _ B d u rfl a7 a8 hr hp);obtain⟨m,a9⟩:=jx u.length;rw[a9]at C3⊢;clear f y2 a0 C hM a1 hu I hr hp a9 a7 a8 J HL c4 C2 CR;go_wp2_with fail;refine C3.out.mono ?_;rintro e4 w4 ⟨G,c2,rfl,b0,b1,c5,k⟩;have y4:=(k.cell (p:=X) O).trans y3;have P:=zA (zBM g k);obtain⟨s,Q⟩:=jx (w4.alloc (.cells #[.slice G n c2] 24));have hg:jY w4 s:=jb Q;obtain⟨T,r⟩:=jx w4.heap.size;have z4:s.cell? T=some (.slice G n c2):=by rw[←Q,←r,yBR _ _ _ _ rfl];rfl
    have b2:X < s.heap.size:=yAA (yAA O k.size) hg.size;have b3:T < s.heap.size:=by rw[←r,←Q];simp
    have y5:=(hg.cell (p:=X) (yAA O k.size)).trans y4;have D:=zA (zBM P hg);have b4:=zA (fun(x:World) (hb:jY s x)=>(((b0.below hg).more hg.size).below hb).more hb.size);have b5:=zA b1;have HZ:=zA (fun(x:World) (hb:jY s x)=>And.intro ((hb.cell (p:=X) b2).trans y5) ((hb.cell (p:=T) b3).trans z4));have d2:((ca:Int)==(ca:Int))=true:=by simp
    have d3:((ce:Int)==(ce:Int))=true:=by simp
    clear y3 O g k b0 b1 c5 hg y4 P C3 b2 b3;go_upto_region 9 with(fail);clear Q r;go_wp2_with fail;refine(CE.out s D HF).mono ?_;rintro e5 w5 ⟨rfl,a2⟩;have:=HZ.out w5 a2;have a3:=zA a2;clear a2 y5 z4;go_wp2_with fail;refine(c1.out w5 G c2 (b4.out w5 a3) b5 HF).mono ?_;rintro e6 w6 ⟨rfl,b6⟩;have b7:=zA (zBM a3 b6);clear b6 a3 this;go_upto_region 11 with(fail);have E1:=zA (CF.out w6.drew (zBM D b7.out.drew));refine wp_region_any (by kernel_rfl) ?_
    try (change wpAny _ _ _ _ _ _ _ (World.drew _))
    refine wpAny_ready (rs:=[0]) (by kernel_rfl) js ?_;refine AllReady.cons rfl (fun K b=>?_) AllReady.nil
    go_simp
    go_at_call 4
    (with_reducible refine E1.out.mono ?_)
    rintro eb wb ⟨rfl,b8⟩;have y:=zA (zBM b7.out.drew b8);obtain⟨yb,xb⟩:=HZ.out wb y;clear b8
    go_simp
    (refine b _ _ ?_;clear b K)
    refine wpAny_take (i:=1) (v:=?_) rfl (by kernel_rfl) (by kernel_rfl) (by kernel_rfl) (fun _ _ _ h=>h) (Or.inl ⟨by kernel_rfl,?_⟩) ?_;rotate_left
    · intro w;go_simp;try with_reducible rfl
    refine wpAny_take (i:=2) (v:=?_) rfl (by kernel_rfl) (by kernel_rfl) (by kernel_rfl) (fun _ _ _ h=>h) (Or.inl ⟨by kernel_rfl,?_⟩) ?_;rotate_left
    · intro w;go_simp;try with_reducible rfl
    refine wpAny_take (i:=3) (v:=?_) rfl (by kernel_rfl) (by kernel_rfl) (by kernel_rfl) (fun _ _ _ h=>h) (Or.inl ⟨by kernel_rfl,?_⟩) ?_;rotate_left
    · intro w;go_simp;try with_reducible rfl
    refine wpAny_take (i:=4) (v:=?_) rfl (by kernel_rfl) (by kernel_rfl) (by kernel_rfl) (fun _ _ _ h=>h) (Or.inl ⟨by kernel_rfl,?_⟩) ?_;rotate_left
    · intro w;go_simp;try with_reducible rfl
    refine wpAny_take (i:=5) (v:=?_) rfl (by kernel_rfl) (by kernel_rfl) (by kernel_rfl) (fun _ _ _ h=>h) (Or.inl ⟨by kernel_rfl,?_⟩) ?_;rotate_left
    · intro w;go_simp;try with_reducible rfl
    refine wpAny_take (i:=6) (v:=?_) rfl (by kernel_rfl) (by kernel_rfl) (by kernel_rfl) (fun _ _ _ h=>h) (Or.inl ⟨by kernel_rfl,?_⟩) ?_;rotate_left
    · intro w;go_simp;try with_reducible rfl
    refine wpAny_take (i:=7) (v:=?_) rfl (by kernel_rfl) (by kernel_rfl) (by kernel_rfl) (fun _ _ _ h=>h) (Or.inl ⟨by kernel_rfl,?_⟩) ?_;rotate_left
    · intro w;go_simp;try with_reducible rfl
    refine wpAny_take (i:=8) (v:=?_) rfl (by kernel_rfl) (by kernel_rfl) (by kernel_rfl) (fun _ _ _ h=>h) (Or.inl ⟨by kernel_rfl,?_⟩) ?_;rotate_left
    · intro w;go_simp;try with_reducible rfl
    refine wpAny_take (i:=9) (v:=?_) rfl (by kernel_rfl) (by kernel_rfl) (by kernel_rfl) (fun _ _ _ h=>h) (Or.inl ⟨by kernel_rfl,?_⟩) ?_;rotate_left
    · intro w;go_simp;try with_reducible rfl
    refine wpAny_take (i:=10) (v:=?_) rfl (by kernel_rfl) (by kernel_rfl) (by kernel_rfl) (fun _ _ _ h=>h) (Or.inl ⟨by kernel_rfl,?_⟩) ?_;rotate_left
    · intro w;go_simp;try with_reducible rfl
    refine wpAny_take (i:=11) (v:=?_) rfl (by kernel_rfl) (by kernel_rfl) (by kernel_rfl) (fun _ _ _ h=>h) (Or.inl ⟨by kernel_rfl,?_⟩) ?_;rotate_left
    · intro w;go_simp;try with_reducible rfl
    refine wpAny_take (i:=12) (v:=?_) rfl (by kernel_rfl) (by kernel_rfl) (by kernel_rfl) (fun _ _ _ h=>h) (Or.inl ⟨by kernel_rfl,?_⟩) ?_;rotate_left
    · intro w;go_simp;try with_reducible rfl
    refine wpAny_take (i:=13) (v:=?_) rfl (by kernel_rfl) (by kernel_rfl) (by kernel_rfl) (fun _ _ _ h=>h) (Or.inl ⟨by kernel_rfl,?_⟩) ?_;rotate_left
    · intro w;go_simp;try with_reducible rfl
    refine wpAny_take (i:=14) (v:=?_) rfl (by kernel_rfl) (by kernel_rfl) (by kernel_rfl) (fun _ _ _ h=>h) (Or.inl ⟨by kernel_rfl,?_⟩) ?_;rotate_left
    · intro w;go_simp;try with_reducible rfl
    refine wpAny_take (i:=15) (v:=?_) rfl (by kernel_rfl) (by kernel_rfl) (by kernel_rfl) (fun _ _ _ h=>h) (Or.inl ⟨by kernel_rfl,?_⟩) ?_;rotate_left
    · intro w;go_simp;try with_reducible rfl
    refine wpAny_take (i:=17) (v:=?_) rfl (by kernel_rfl) (by kernel_rfl) (by kernel_rfl) (fun _ _ _ h=>h) (Or.inl ⟨by kernel_rfl,?_⟩) ?_;rotate_left
    · intro w;go_simp;try with_reducible rfl
    refine wpAny_take (i:=20) (v:=?_) rfl (by kernel_rfl) (by kernel_rfl) (by kernel_rfl) (fun _ _ _ h=>h) (Or.inl ⟨by kernel_rfl,?_⟩) ?_;rotate_left
    · intro w;go_simp;try with_reducible rfl
    refine wpAny_ready (rs:=[16,19]) (by kernel_rfl) js ?_;refine AllReady.cons rfl (fun K b=>?_) (AllReady.cons rfl (fun K b=>?_) AllReady.nil)
    all_goals (go_simp;(refine b _ _ ?_;clear b K))
    refine wpAny_ready (rs:=[18,19]) (by kernel_rfl) js ?_;refine AllReady.cons rfl (fun K b=>?_) (AllReady.cons rfl (fun K b=>?_) AllReady.nil)
    go_simp
    go_at_call 10
    (with_reducible refine(CM.out wb (zBM D.out y.out) F.out).mono ?_)
    rintro ec wc ⟨v8,rfl,hv⟩;have z:=zA (zBM y hv.below);obtain⟨A8,c8,rfl,H,l,o⟩:=hv.form;have a4:=zA o;have a5:=zA (show(zZB ts j).length≤9223372036854775807 by unfold maxLen at l;omega);obtain⟨yc,xc⟩:=HZ.out wc z;clear hv H l o
    go_simp
    (refine b _ _ ?_;clear b K)
    refine wpAny_ready (rs:=[19]) (by kernel_rfl) js ?_;refine AllReady.cons rfl (fun K b=>?_) AllReady.nil
    go_simp
    (refine b _ _ ?_;clear b K)
    rotate_left
    go_simp
    (refine b _ _ ?_;clear b K)
    refine wpAny_ready (rs:=[18]) (by kernel_rfl) js ?_;refine AllReady.cons rfl (fun K b=>?_) AllReady.nil
    go_simp
    go_at_call 10
    (with_reducible refine(CM.out wb (zBM D.out y.out) F.out).mono ?_)
    rintro ec wc ⟨v8,rfl,hv⟩;have z:=zA (zBM y hv.below);obtain⟨A8,c8,rfl,H,l,o⟩:=hv.form;have a4:=zA o;have a5:=zA (show(zZB ts j).length≤9223372036854775807 by unfold maxLen at l;omega);obtain⟨yc,xc⟩:=HZ.out wc z;clear hv H l o
    go_simp
    (refine b _ _ ?_;clear b K)
    rotate_left;refine wpAny_ready (rs:=[16]) (by kernel_rfl) js ?_;refine AllReady.cons rfl (fun K b=>?_) AllReady.nil
    go_simp
    (refine b _ _ ?_;clear b K)
    refine wpAny_ready (rs:=[18]) (by kernel_rfl) js ?_;refine AllReady.cons rfl (fun K b=>?_) AllReady.nil
    go_simp
    go_at_call 10
    (with_reducible refine(CM.out wb (zBM D.out y.out) F.out).mono ?_)
    rintro ec wc ⟨v8,rfl,hv⟩;have z:=zA (zBM y hv.below);obtain⟨A8,c8,rfl,H,l,o⟩:=hv.form;have a4:=zA o;have a5:=zA (show(zZB ts j).length≤9223372036854775807 by unfold maxLen at l;omega);obtain⟨yc,xc⟩:=HZ.out wc z;clear hv H l o
    go_simp
    (refine b _ _ ?_;clear b K)
    all_goals
     refine wpAny_ready (rs:=[21]) (by kernel_rfl) js ?_;refine AllReady.cons rfl (fun K b=>?_) AllReady.nil
     go_simp
     go_at_call 10
     (with_reducible refine(c3.out wc G c2 (b4.out wc z.out) b5.out F.out).mono ?_)
     rintro ed wd ⟨v9,rfl,hv⟩;have c6:=zA ((a4.out.below hv.below).more hv.below.size);have c7:=zA (zBM z hv.below);obtain⟨A9,c9,rfl,_,_,b9⟩:=hv.form;have d0:=zA b9;clear hv b9
     go_simp
     (refine b _ _ ?_;clear b K)
     refine wpAny_ready (rs:=[22]) (by kernel_rfl) js ?_;refine AllReady.cons rfl (fun K b=>?_) AllReady.nil
     go_simp
     go_at_call 9
     (with_reducible refine(zLQ rfl (yAC _) c6.out d0.out a5.out).mono ?_)
     rintro ee we ⟨rfl,c0⟩;have d1:=zA (zBM c7 c0);clear c0
     go_simp
     (refine b _ _ ?_;clear b K)
     refine wpAny_take (i:=23) (v:=?_) rfl (by kernel_rfl) (by kernel_rfl) (by kernel_rfl) (fun _ _ _ h=>h) (Or.inl ⟨by kernel_rfl,?_⟩) ?_;rotate_left
     · intro w;go_simp;try with_reducible rfl
     refine wpAny_take (i:=24) (v:=?_) rfl (by kernel_rfl) (by kernel_rfl) (by kernel_rfl) (fun _ _ _ h=>h) (Or.inl ⟨by kernel_rfl,?_⟩) ?_;rotate_left
     · intro w;go_simp;try with_reducible rfl
     refine wpAny_done (by kernel_rfl) ?_ _;go_wp2_with fail;go_ret;exact⟨rfl,zBM D d1⟩
  all_goals
   have g:=zA (zBM C f);clear f;go_wp2_with fail;refine(CF.out w3 g).mono ?_;rintro e4 w4 ⟨rfl,k⟩;have P:=zA (zBM g k);clear k;go_wp2_with fail;go_ret;exact⟨rfl,P⟩
end Go.Proofs.YtjlfhidpmdgloaaGreatDoor
