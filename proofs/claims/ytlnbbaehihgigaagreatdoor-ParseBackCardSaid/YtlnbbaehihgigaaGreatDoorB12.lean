/- Joined for the claim ParseBack: the parser, the lexer and the trees as they are walked, made short by a program of mine. -/
import Derived.Test.YtlnbbaehihgigaaGreatDoorB02
import Derived.Test.YtlnbbaehihgigaaGreatDoorB11
import Derived.Deep.RegionLaw
import Derived.Deep.LoopGhost
import Derived.Test.YtlnbbaehihgigaaGreatDoorB10
import Derived.Deep.CutBlock
import Derived.Deep.DeepCutAuto
import Derived.Test.YtlnbbaehihgigaaGreatDoorB01
set_option maxHeartbeats 16000000
set_option maxRecDepth 1000000
namespace Go.Proofs.YtlnbbaehihgigaaGreatDoor
open Go.Proofs.Tryz
variable {w:World} {s:Ps} {C:Pc} {L:List Tok} {l:List Tr} {k:Int} {i f:Nat} {v:List UInt8}
theorem zV7 (c:Lst L):∀(f:Nat) (b:List Tr) (s:Ps),s.k≤L.length - 1→(zG2 L f (.paramL b) s).1.subs.length≤b.length+(L.length - s.k):=by
 intro f
 induction f with
 | zero=>intro b s _;exact yAE _
 | succ f g=>
  intro b s hs;have l:=c.pos;have e:=zA8 c hs;show(zD L (zG2 L f) (.paramL b) s).1.subs.length≤_;unfold zD;dsimp only;split
  · show(b++[_]).length≤_;rw[List.length_append,List.length_singleton];omega
  · rename_i hb
    have j:=e.lt hs hb;split
    · show(b++[_]).length≤_;rw[List.length_append,List.length_singleton];omega
    · have d:=(zc (w:=[44]) c e.adv.hi).adv;have:=g (b++[trN 20 (zo L s).1 []]) (zP L [44] (zo L s).2) d.hi;rw[List.length_append,List.length_singleton]at this;have h1:=d.le;have m:=d.hi;omega
theorem zV8 (c:Lst L) (w:List UInt8):∀(f:Nat) (b:List Tr) (s:Ps),s.k≤L.length - 1→(zG2 L f (.listL w b) s).1.subs.length≤b.length+(L.length - s.k):=by
 intro f
 induction f with
 | zero=>intro b s _;exact yAE _
 | succ f g=>
  intro b s hs;have l:=c.pos;have e:Eat L s (zG2 L f .assign s).2:=zJ9 c f .assign s ⟨hs,trivial⟩;show(zD L (zG2 L f) (.listL w b) s).1.subs.length≤_;unfold zD;dsimp only;split
  · show(b++[_]).length≤_;rw[List.length_append,List.length_singleton];omega
  · rename_i hb
    have j:=e.lt hs hb;split
    · show(b++[_]).length≤_;rw[List.length_append,List.length_singleton];omega
    · have d:=(zc (w:=[44]) c e.adv.hi).adv;have:=g (b++[(zG2 L f .assign s).1]) (zP L [44] (zG2 L f .assign s).2) d.hi;rw[List.length_append,List.length_singleton]at this;have h1:=d.le;have m:=d.hi;omega
theorem zF6 (b:Lst L) (hs:s.k≤L.length - 1):(zE L .params s).1.subs.length≤L.length:=by
 rw[zS b ⟨hs,trivial⟩];unfold zD;dsimp only;split
 · exact yAE _
 · have h:=zV7 b (zj L (.paramL []) (zP L [40] s)+1) [] (zP L [40] s) (zc b hs).adv.hi;have c:(zE L (.paramL []) (zP L [40] s)).1.subs.length≤0+(L.length - (zP L [40] s).k):=h;omega
theorem zQi (b:Lst L) {w:List UInt8} (hs:s.k≤L.length - 1):(zE L (.list w) s).1.subs.length≤L.length:=by
 rw[zS b ⟨hs,trivial⟩];unfold zD;dsimp only;split
 · exact yAE _
 · have h:=zV8 b w (zj L (.listL w []) s+1) [] s hs;have c:(zE L (.listL w []) s).1.subs.length≤0+(L.length - s.k):=h;omega
theorem zJp (b:Lst L) (hs:s.k < L.length - 1):(zE L .args s).1.subs.length≤L.length:=by
 rw[zS b ⟨Nat.le_of_lt hs,hs⟩];unfold zD;dsimp only;exact zQi b (zc b (Nat.le_of_lt hs)).adv.hi
open Go.RowKit
theorem zTq {n:List UInt8} (G:Pre C.L (.func k n) s) (K:KP C (zj C.L (.func k n) s)) (h:Pa C s w):zp C s w (.func k n):=by
 refine zBH G h fun H U j r W X V Y hX b=>?_;have I:=zA K;clear K h G;go_enter func72,ntmps72;go_upto_region 1 with(fail);clear Y hX;have J:=zA (zF6 H.out (s:=s) j);have M:=zA b.P.cx.n;go_wp2_with fail;refine b.kL (I.out.rank (q:=.params) ⟨b.P.hi,trivial⟩ b.P (yAC _) (by simp[zt])) fun w1 A N cp O _ a0 F1=>?_;go_wp2_with fail;refine F1.kQ (zC8 _ ⟨(n).toArray⟩ _ _ _) fun w2 F2=>?_;have F3:=F2.rowN 1 rfl k (n);have d:=F3.bt 2 58 rfl;have e:=zA (zd H.out (p:=.params) (s:=s) ⟨j,trivial⟩);have l:=zA (show Eat C.L s (zE C.L (.params) (s)).2 from e.out);have R:=zA (fun Q=>d.dr.kR 1 rfl (Q:=Q) (I.out.rank (q:=.block) ⟨d.dr.P.hi,trivial⟩ d.dr.P l.out.adv.le (by simp[zt])));have:=d.c 3;have S:N≤4097:=by have:=J.out;have:=M.out;have:=O.out;omega
 go_upto_region 2 with(fail);go_region_law (first | (go_simp;go_at_call 111;(with_reducible refine R.out _ fun w5 m o t u v y z B D E=>?_);have:=E.c 3;have:=(E.al (.cells #[m,o,t,u,v,y,z,B,D] 58)).c 3) | (refine E.snocS 1 4 rfl rfl (fun _ h=>h) S rfl _ _ rfl rfl rfl fun A6 T w6 F=>?_;have:=F.c 3;have:=F.f 3))
 all_goals
  have g:=F.set 3 8 (.slice A6 (N+1) T);have:=g.c 3;have:=g.c 0;have:=g.f 0;go_wp2_with fail;have F8:=g.rowN 1 rfl k (n);exact F8.fin 0 5 rfl (V.out.symm.trans (by
   unfold zD;rfl))
theorem zV9 (R:Pre C.L (.body l) s) (K:KP C (zj C.L (.body l) s)) (h:Pa C s w) (a:World) (A:Option Addr) (n cp:Nat) (_b:l.length=n) (S:n≤4097) (o:a.grownBy w (some C.g)) (p:C.g < a.heap.size) (e:RowP w (a.heap.size≤·) (.slice A n cp) l) (t:(zI C.L s.k).nl=true) (u:onP C.L [123] (zP C.L [61,62] (ze C.L s))=true):
 Calls prog 131 #[.pointer (some ⟨C.g,0,none⟩),.slice A n cp] w (zUk C a (zE C.L (.body l) s)):=by
 refine zXc R h o p e fun y a6 b r W X HR hW hX T=>?_;have HK:=zA K;have v:=zA t;have j:=zA u;clear K h R o p e t u;go_enter func131,ntmps131;go_upto_region 1 with(fail);clear hW hX;obtain⟨⟨kd,tx,st,nk,nn,mg,ps,nl⟩,U⟩:=zU C.L (s).k;have z:nl=true:=by have:=v.out;rwa[U.out]at this
 subst z;have a7:=zNO;go_wp2_with fail;refine T.kT (zv T.P U.out) fun w1 As Am c1 c2 V=>?_;go_wp2_with fail;refine V.kN (zAN V.P) fun w2 Y=>?_;go_wp2_with fail;refine Y.kN (zAK Y.P [61,62]) fun w3 F3=>?_;go_wp2_with fail;refine F3.kQ (zAv _ _ _ _) fun w4 F4=>?_;have F5:=F4.rowK 0 rfl 42;have F6:=F5.bt 3 58 rfl;go_wp2_with fail;refine F6.kB (zAl F6.P [123] j.out) fun w7 m=>?_;have a0:=zA (show s.k≤(zP C.L [61,62] (ze C.L s)).k from(yAD (zAD b).adv.le (zc (w:=[61,62]) y.out (zAD b).adv.hi).adv.le));have a1:=zA (show s.k < (zP C.L [61,62] (ze C.L s)).k from((zAD b).then (zc (w:=[61,62]) y.out (zAD b).adv.hi).adv).more (Nat.lt_of_le_of_lt a0.out (y.out.on (s:=zP C.L [61,62] (ze C.L s)) m.P.hi j.out)));have a2:=zA (fun Q=>m.dr.kR 0 rfl (Q:=Q) (HK.out.more (q:=.block) ⟨m.dr.P.hi,trivial⟩ m.dr.P a1.out));have:=m.c 4;have a3:n≤4097:=by exact S
 go_wp2_with fail;go_region_law (first | (go_simp;go_at_call 111;(with_reducible refine a2.out _ fun w8 B D E F G H I J M N=>?_);have:=N.c 4;have:=(N.al (.cells #[B,D,E,F,G,H,I,J,M] 58)).c 4) | (refine N.snocS 0 5 rfl rfl (fun _ h=>h) a3 rfl _ _ rfl rfl rfl fun A9 a4 w9 O=>?_;have:=O.c 4;have:=O.f 4))
 all_goals
  have d:=O.set 4 8 (.slice A9 (n+1) a4);have:=d.c 4;have:=d.c 1;have:=d.f 1;go_wp2_with fail;have a5:=d.rowK 0 rfl 42;exact a5.fin 1 6 rfl (HR.out.symm.trans (by
   unfold zD;dsimp only;simp[v.out,j.out]))
theorem zWA (O:Pre C.L (.body l) s) (K:KP C (zj C.L (.body l) s)) (h:Pa C s w) (a:World) (A:Option Addr) (n cp:Nat) (_b:l.length=n) (R:n≤4097) (j:a.grownBy w (some C.g)) (m:C.g < a.heap.size) (d:RowP w (a.heap.size≤·) (.slice A n cp) l) (o:(zI C.L s.k).nl=true) (p:onP C.L [123] (zP C.L [61,62] (ze C.L s))=false):
 Calls prog 131 #[.pointer (some ⟨C.g,0,none⟩),.slice A n cp] w (zUk C a (zE C.L (.body l) s)):=by
 refine zXc O h j m d fun HL a5 t r W X HR hW hX S=>?_;have HK:=zA K;have u:=zA o;have v:=zA p;clear K h O j m d o p;go_enter func131,ntmps131;go_upto_region 1 with(fail);clear hW hX;obtain⟨⟨kd,tx,st,nk,nn,mg,ps,nl⟩,T⟩:=zU C.L (s).k;have y:nl=true:=by have:=u.out;rwa[T.out]at this
 subst y;have a6:=zNO;go_wp2_with fail;refine S.kT (zv S.P T.out) fun w1 As Am c1 c2 U=>?_;go_wp2_with fail;refine U.kN (zAN U.P) fun w2 V=>?_;go_wp2_with fail;refine V.kN (zAK V.P [61,62]) fun w3 F3=>?_;go_wp2_with fail;refine F3.kQ (zAv _ _ _ _) fun w4 F4=>?_;have F5:=F4.rowK 0 rfl 42;have Y:=F5.bt 3 58 rfl;go_wp2_with fail;refine Y.kB (zAl Y.P [123] v.out) fun w7 e=>?_;have a0:=zA (show s.k≤(zP C.L [61,62] (ze C.L s)).k from(yAD (zAD t).adv.le (zc (w:=[61,62]) HL.out (zAD t).adv.hi).adv.le));have a1:=zA (fun Q=>e.dr.kR 0 rfl (Q:=Q) (HK.out.rank (q:=.assign) ⟨e.dr.P.hi,trivial⟩ e.dr.P a0.out (by simp[zt])));have:=e.c 4;have a2:n≤4097:=by exact R
 go_wp2_with fail;go_region_law (first | (go_simp;go_at_call 106;(with_reducible refine a1.out _ fun w8 z B D E F G H I J M=>?_);have:=M.c 4;have:=(M.al (.cells #[z,B,D,E,F,G,H,I,J] 58)).c 4) | (refine M.snocS 0 5 rfl rfl (fun _ h=>h) a2 rfl _ _ rfl rfl rfl fun A9 a3 w9 N=>?_;have:=N.c 4;have:=N.f 4))
 all_goals
  have b:=N.set 4 8 (.slice A9 (n+1) a3);have:=b.c 4;have:=b.c 1;have:=b.f 1;go_wp2_with fail;have a4:=b.rowK 0 rfl 42;exact a4.fin 1 6 rfl (HR.out.symm.trans (by
   unfold zD;dsimp only;simp[u.out,v.out]))
theorem zWB (S:Pre C.L (.body l) s) (K:KP C (zj C.L (.body l) s)) (h:Pa C s w) (a:World) (A:Option Addr) (n cp:Nat) (_b:l.length=n) (b:n≤4097) (o:a.grownBy w (some C.g)) (p:C.g < a.heap.size) (d:RowP w (a.heap.size≤·) (.slice A n cp) l) (t:(zI C.L s.k).nl=false) (u:onP C.L [123] (zP C.L [61,62] (s))=true):
 Calls prog 131 #[.pointer (some ⟨C.g,0,none⟩),.slice A n cp] w (zUk C a (zE C.L (.body l) s)):=by
 refine zXc S h o p d fun z a5 v r W X HR hW hX T=>?_;have HK:=zA K;have y:=zA t;have e:=zA u;clear K h S o p d t u;go_enter func131,ntmps131;go_upto_region 1 with(fail);clear hW hX;obtain⟨⟨kd,tx,st,nk,nn,mg,ps,nl⟩,U⟩:=zU C.L (s).k;have B:nl=false:=by have:=y.out;rwa[U.out]at this
 subst B;have a6:=zNO;go_wp2_with fail;refine T.kT (zv T.P U.out) fun w1 As Am c1 c2 V=>?_;go_wp2_with fail;refine V.kN (zAK V.P [61,62]) fun w2 F2=>?_;go_wp2_with fail;refine F2.kQ (zAv _ _ _ _) fun w3 F3=>?_;have F4:=F3.rowK 0 rfl 42;have Y:=F4.bt 3 58 rfl;go_wp2_with fail;refine Y.kB (zAl Y.P [123] e.out) fun w6 j=>?_;have a0:=zA (show s.k≤(zP C.L [61,62] (s)).k from(zc (w:=[61,62]) z.out v).adv.le);have a1:=zA (show s.k < (zP C.L [61,62] (s)).k from(zc (w:=[61,62]) z.out v).more (Nat.lt_of_le_of_lt a0.out (z.out.on (s:=zP C.L [61,62] (s)) j.P.hi e.out)));have a2:=zA (fun Q=>j.dr.kR 0 rfl (Q:=Q) (HK.out.more (q:=.block) ⟨j.dr.P.hi,trivial⟩ j.dr.P a1.out));have:=j.c 4;have b:n≤4097:=by exact b
 go_wp2_with fail;go_region_law (first | (go_simp;go_at_call 111;(with_reducible refine a2.out _ fun w7 D E F G H I J M N O=>?_);have:=O.c 4;have:=(O.al (.cells #[D,E,F,G,H,I,J,M,N] 58)).c 4) | (refine O.snocS 0 5 rfl rfl (fun _ h=>h) b rfl _ _ rfl rfl rfl fun A8 a3 w8 R=>?_;have:=R.c 4;have:=R.f 4))
 all_goals
  have m:=R.set 4 8 (.slice A8 (n+1) a3);have:=m.c 4;have:=m.c 1;have:=m.f 1;go_wp2_with fail;have a4:=m.rowK 0 rfl 42;exact a4.fin 1 6 rfl (HR.out.symm.trans (by
   unfold zD;dsimp only;simp[y.out,e.out]))
theorem zWC (O:Pre C.L (.body l) s) (K:KP C (zj C.L (.body l) s)) (h:Pa C s w) (a:World) (A:Option Addr) (n cp:Nat) (_b:l.length=n) (b:n≤4097) (m:a.grownBy w (some C.g)) (o:C.g < a.heap.size) (d:RowP w (a.heap.size≤·) (.slice A n cp) l) (p:(zI C.L s.k).nl=false) (t:onP C.L [123] (zP C.L [61,62] (s))=false):
 Calls prog 131 #[.pointer (some ⟨C.g,0,none⟩),.slice A n cp] w (zUk C a (zE C.L (.body l) s)):=by
 refine zXc O h m o d fun HL a3 R r W X HR hW hX S=>?_;have HK:=zA K;have u:=zA p;have v:=zA t;clear K h O m o d p t;go_enter func131,ntmps131;go_upto_region 1 with(fail);clear hW hX;obtain⟨⟨kd,tx,st,nk,nn,mg,ps,nl⟩,T⟩:=zU C.L (s).k;have y:nl=false:=by have:=u.out;rwa[T.out]at this
 subst y;have a4:=zNO;go_wp2_with fail;refine S.kT (zv S.P T.out) fun w1 As Am c1 c2 U=>?_;go_wp2_with fail;refine U.kN (zAK U.P [61,62]) fun w2 F2=>?_;go_wp2_with fail;refine F2.kQ (zAv _ _ _ _) fun w3 F3=>?_;have F4:=F3.rowK 0 rfl 42;have V:=F4.bt 3 58 rfl;go_wp2_with fail;refine V.kB (zAl V.P [123] v.out) fun w6 e=>?_;have Y:=zA (show s.k≤(zP C.L [61,62] (s)).k from(zc (w:=[61,62]) HL.out R).adv.le);have a0:=zA (fun Q=>e.dr.kR 0 rfl (Q:=Q) (HK.out.rank (q:=.assign) ⟨e.dr.P.hi,trivial⟩ e.dr.P Y.out (by simp[zt])));have:=e.c 4;have b:n≤4097:=by exact b
 go_wp2_with fail;go_region_law (first | (go_simp;go_at_call 106;(with_reducible refine a0.out _ fun w7 z B D E F G H I J M=>?_);have:=M.c 4;have:=(M.al (.cells #[z,B,D,E,F,G,H,I,J] 58)).c 4) | (refine M.snocS 0 5 rfl rfl (fun _ h=>h) b rfl _ _ rfl rfl rfl fun A8 a1 w8 N=>?_;have:=N.c 4;have:=N.f 4))
 all_goals
  have j:=N.set 4 8 (.slice A8 (n+1) a1);have:=j.c 4;have:=j.c 1;have:=j.f 1;go_wp2_with fail;have a2:=j.rowK 0 rfl 42;exact a2.fin 1 6 rfl (HR.out.symm.trans (by
   unfold zD;dsimp only;simp[u.out,v.out]))
theorem zTr (b:Pre C.L (.body l) s) (K:KP C (zj C.L (.body l) s)) (h:Pa C s w):zp C s w (.body l):=by
 intro a A n cp h1 c d e f;cases hn:(zI C.L s.k).nl with
 | true=>
  cases hb:onP C.L [123] (zP C.L [61,62] (ze C.L s))with
  | true=>exact zV9 b K h a A n cp h1 c d e f hn hb
  | false=>exact zWA b K h a A n cp h1 c d e f hn hb
 | false=>
  cases hb:onP C.L [123] (zP C.L [61,62] s)with
  | true=>exact zWB b K h a A n cp h1 c d e f hn hb
  | false=>exact zWC b K h a A n cp h1 c d e f hn hb
theorem zTs (R:Pre C.L (.item) s) (K:KP C (zj C.L (.item) s)) (h:Pa C s w):zp C s w (.item):=by
 refine zBH R h fun S c4 T r W X y hW hX U=>?_;have z:=zA K;clear K h R;go_enter func34,ntmps34;go_upto_region 1 with(fail);clear hW hX;obtain⟨⟨kd,tx,J,nk,nn,M,ps,nl⟩,o⟩:=zU C.L (s).k;go_wp2_with fail;refine U.kT (zv U.P o.out) fun w1 As Am c1 c2 F1=>?_;have V:=F1.bt 1 80 rfl;obtain⟨b1,E⟩:=jx (isT ⟨kd,tx,J,nk,nn,M,ps,nl⟩ [108,101,116]);have d:=zA E;clear E;obtain⟨b2,F⟩:=jx (isT ⟨kd,tx,J,nk,nn,M,ps,nl⟩ [99,111,110,115,116]);have g:=zA F;clear F;obtain⟨b3,G⟩:=jx (isT ⟨kd,tx,J,nk,nn,M,ps,nl⟩ [102,117,110,99,116,105,111,110]);have p:=zA G;clear G;have:=V.c 2;go_wp2_with fail;refine V.kQ (zDM [108,101,116] d.out) fun w3 t=>?_;cases b1 with
 | true=>
  go_wp2_with fail;refine t.kX (z.out.rank (q:=.declares) ⟨t.P.hi,trivial⟩ t.P (yAC _) (by simp[zt])) fun e5 N w4 c5 c6 c7 c8 c9 d0 d1 d2 d3 Y=>?_;have:=Y.sto 3;have F5:=Y.bt 3 58 rfl;go_wp2_with fail;refine F5.kN (zB7 F5.P) fun w6 A=>?_;have:=A.c 4;have:=A.c 0;have:=A.f 0;go_wp2_with fail;exact A.fin 0 3 rfl (y.out.symm.trans (by
   unfold zD;dsimp only;simp[zDr o.out,d.out,N.out]))
 | false=>
  have:=t.c 2;go_wp2_with fail;refine t.kQ (zDM [99,111,110,115,116] g.out) fun w8 e=>?_;cases b2 with
  | true=>
   go_wp2_with fail;refine e.kX (z.out.rank (q:=.declares) ⟨e.P.hi,trivial⟩ e.P (yAC _) (by simp[zt])) fun e6 O w9 d4 d5 d6 d7 d8 d9 e0 e1 e2 F9=>?_;have:=F9.sto 3;have H:=F9.bt 3 58 rfl;go_wp2_with fail;refine H.kN (zB7 H.P) fun e7 j=>?_;have:=j.c 4;have:=j.c 0;have:=j.f 0;go_wp2_with fail;exact j.fin 0 3 rfl (y.out.symm.trans (by
    unfold zD;dsimp only;simp[zDr o.out,d.out,g.out,O.out]))
  | false=>
   have Q:=zA ((zDr o.out).trans p.out);cases b3 with
   | true=>
    go_wp2_with fail;refine e.kM (zBY e.P [102,117,110,99,116,105,111,110] Q.out) fun e8 I=>?_;go_wp2_with fail;refine I.kS (zD9 I.P) fun e9 u=>?_;have a0:=zA (S.out.on T Q.out);go_wp2_with fail;refine u.kX (z.out.more (q:=.func 19 (zo C.L (zB s)).1) ⟨u.P.hi,trivial⟩ u.P (yAA (yAF s.k) (zA8 (s:=zB s) S.out a0.out).adv.le)) fun e3 B f0 a1 a2 a3 a4 a5 a6 a7 a8 a9 l=>?_;have:=l.sto 3;have:=l.c 0;have:=l.f 0;go_wp2_with fail;exact l.fin 0 3 rfl (y.out.symm.trans (by
     unfold zD;dsimp only;simp[zDr o.out,d.out,g.out,p.out,B.out]))
   | false=>
    go_wp2_with fail;refine e.kM (zBc e.P [102,117,110,99,116,105,111,110] Q.out) fun f1 v=>?_;go_wp2_with fail;refine v.kX (z.out.rank (q:=.statement) ⟨v.P.hi,trivial⟩ v.P (yAC _) (by simp[zt])) fun e4 D f2 b0 b4 b5 b6 b7 b8 b9 c0 c3 m=>?_;have:=m.sto 3;have:=m.c 0;have:=m.f 0;go_wp2_with fail;exact m.fin 0 3 rfl (y.out.symm.trans (by
     unfold zD;dsimp only;simp[zDr o.out,d.out,g.out,p.out,D.out]))
theorem zGw (hp:Pre C.L (.statement) s) (K:KP C (zj C.L (.statement) s)) (h:Pa C s w) (E:(zI C.L s.k).kind=1):zp C s w (.statement):=by
 refine zBH hp h fun HL d9 b6 r W X y hW hX F0=>?_;have HK:=zA K;clear K h hp;go_enter func73,ntmps73;go_upto_region 1 with(fail);clear hW hX;have d:=zA E;clear E;obtain⟨⟨kd,tx,st,nk,nn,mg,ps,nl⟩,HT⟩:=zU C.L (s).k;go_wp2_with fail;refine F0.kT (zv F0.P HT.out) fun w1 As Am c1 c2 F1=>?_;have z:=F1.bt 1 80 rfl;have F:=zA (show kd=1 by have:=d.out;rwa[HT.out]at this);have e1:((kd:Int)==1)=true:=by have:=F.out;rw[beq_iff_eq];omega
 have G:=zA (HL.out.lt b6 (by rw[d.out];decide));have hn:=z.P.cx.n;obtain⟨⟨H,I,J,M,O,R,ps2,S⟩,T⟩:=zU C.L (zB s).k;have a2:=zA (show zI C.L (min (s.k+1) (C.N - 1))=⟨H,I,J,M,O,R,ps2,S⟩ by rw[show min (s.k+1) (C.N - 1)=s.k+1 by have:=G.out;omega];exact T.out);obtain⟨b1,U⟩:=jx (isT ⟨H,I,J,M,O,R,ps2,S⟩ [58]);have V:=zA U;clear U;obtain⟨b3,Y⟩:=jx (onP C.L [59] s);have g:=zA Y;clear Y;obtain⟨b4,a0⟩:=jx (onP C.L [123] s);have o:=zA a0;clear a0;have p:=zA (show isT (zAp C.L s.k 1) [58]=b1 by have:=V.out;rwa[←T.out]at this);have:=z.c 2;go_wp2_with fail;refine z.kT (zBA z.P 1 1 rfl jd a2.out) fun w3 e3 e4 e5 e7 F3=>?_;go_wp2_with fail;refine F3.kQ (zDM [58] V.out) fun w4 j=>?_;cases b1 with
 | true=>
  have a3:=zA (HL.out.on (s:=zB s) G.out p.out);obtain⟨e8,e9,f0⟩:=j.k1;have A:=j.step2 a3.out;have b7:=zA (fun Q=>A.dr.kD (Q:=Q) (HK.out.more (q:=.statement) ⟨A.dr.P.hi,trivial⟩ A.dr.P (show s.k < s.k+1+1 by omega)));have:=A.c 2;go_wp2_with fail;go_region_law (first | (go_simp;go_at_call 73;(with_reducible refine b7.out _ fun w6 a4 a5 a6 a7 a8 a9 b0 b2 b5 t=>?_);have:=t.c 2;have:=t.c 0;have:=(t.al (.cells #[a4,a5,a6,a7,a8,a9,b0,b2,b5] 58)).c 2;have b8:=zA (fun Q=>t.litN 18 tx (n:=1) (Q:=Q) (t.ts1 4) rfl js rfl)) | (go_simp;go_at_call 105;(with_reducible refine b8.out _ fun w7 u=>?_);have:=u.c 0;have:=u.f 0))
  all_goals
   have:=u.c 0;have:=u.f 0;go_wp2_with fail;exact u.fin 0 5 rfl (y.out.symm.trans (by
    unfold zD;dsimp only;rw[if_pos ⟨d.out,p.out⟩,HT.out]))
 | false=>
  have e6:((kd:Int)==6)=false:=by have:=F.out;rw[yA];omega
  have:=j.c 2;cases b3 with
  | true=>
   go_wp2_with fail;refine j.kM (zBY j.P [59] g.out) fun w9 F9=>?_;go_wp2_with fail;refine F9.made0 _ fun f1 v=>?_;have:=v.c 0;have:=v.f 0;go_wp2_with fail;exact v.fin 0 4 rfl (y.out.symm.trans (by
    unfold zD;dsimp only;rw[if_neg (fun h=>by rw[p.out]at h;cases h.2),if_neg (by rw[d.out];decide)];simp[g.out]))
  | false=>
   go_wp2_with fail;refine j.kM (zBc j.P [59] g.out) fun f2 a1=>?_;go_wp2_with fail;refine a1.kB (zAl a1.P [123] o.out) fun f3 e=>?_;cases b4 with
   | true=>
    go_wp2_with fail;refine e.kX (HK.out.rank (q:=.block) ⟨e.P.hi,trivial⟩ e.P (yAC _) (by simp[zt])) fun e0 B f4 b9 c0 c3 c4 c5 c6 c7 c8 c9 l=>?_;have:=l.sto 4;have:=l.c 0;have:=l.f 0;go_wp2_with fail;exact l.fin 0 4 rfl (y.out.symm.trans (by
     unfold zD;dsimp only;rw[if_neg (fun h=>by rw[p.out]at h;cases h.2),if_neg (by rw[d.out];decide)];simp[g.out,o.out,B.out]))
   | false=>
    go_wp2_with fail;refine e.kX (HK.out.rank (q:=.simple) ⟨e.P.hi,trivial⟩ e.P (yAC _) (by simp[zt])) fun e2 D f5 d0 d1 d2 d3 d4 d5 d6 d7 d8 m=>?_;have:=m.sto 4;have:=m.c 0;have:=m.f 0;go_wp2_with fail;exact m.fin 0 4 rfl (y.out.symm.trans (by
     unfold zD;dsimp only;rw[if_neg (fun h=>by rw[p.out]at h;cases h.2),if_neg (by rw[d.out];decide)];simp[g.out,o.out,D.out]))
theorem zHB (o:Pre C.L (.statement) s) (K:KP C (zj C.L (.statement) s)) (h:Pa C s w) (g:(zI C.L s.k).kind=6):zp C s w (.statement):=by
 refine zBH o h fun v y p r W X z A B t=>?_;have D:=zA K;clear K h o;go_enter func73,ntmps73;go_upto_region 1 with(fail);clear A B;have b:=zA g;clear g;obtain⟨⟨kd,tx,S,nk,nn,T,ps,nl⟩,l⟩:=zU C.L (s).k;go_wp2_with fail;refine t.kT (zv t.P l.out) fun w1 As Am c1 c2 E=>?_;have d:=E.bt 1 80 rfl;have j:=zA (show kd=6 by have:=b.out;rwa[l.out]at this);have e1:((kd:Int)==1)=false:=by have:=j.out;rw[yA];omega
 have e6:((kd:Int)==6)=true:=by have:=j.out;rw[beq_iff_eq];omega
 have u:=zA (v.out.lt p (by rw[b.out];decide));have:=d.c 2;go_wp2_with fail;refine d.kX (D.out.rank (q:=.word tx) ⟨d.P.hi,u.out⟩ d.P (yAC _) (by simp[zt])) fun R m w3 F G H I J M N O Q e=>?_;have:=e.sto 3;have:=e.c 0;have:=e.f 0;go_wp2_with fail;exact e.fin 0 3 rfl (z.out.symm.trans (by
  unfold zD;dsimp only;rw[if_neg (fun h=>by rw[b.out]at h;cases h.1),if_pos b.out,l.out];simp only[m.out]))
theorem zGx (F:Pre C.L (.statement) s) (K:KP C (zj C.L (.statement) s)) (h:Pa C s w) (u:(zI C.L s.k).kind≠1) (v:(zI C.L s.k).kind≠6):zp C s w (.statement):=by
 refine zBH F h fun HL V b0 r W X A Y hX G=>?_;have H:=zA K;clear K h F;go_enter func73,ntmps73;go_upto_region 1 with(fail);clear Y hX;have e:=zA u;have g:=zA v;clear u v;obtain⟨⟨kd,tx,st,nk,nn,mg,ps,nl⟩,B⟩:=zU C.L (s).k;go_wp2_with fail;refine G.kT (zv G.P B.out) fun w1 As Am c1 c2 F1=>?_;have m:=F1.bt 1 80 rfl;have e1:((kd:Int)==1)=false:=by have:=e.out;rw[B.out]at this;have:kd≠1:=this;rw[yA];omega
 have e6:((kd:Int)==6)=false:=by have:=g.out;rw[B.out]at this;have:kd≠6:=this;rw[yA];omega
 obtain⟨b3,y⟩:=jx (onP C.L [59] s);have d:=zA y;clear y;obtain⟨b4,z⟩:=jx (onP C.L [123] s);have o:=zA z;clear z;have:=m.c 2;cases b3 with
 | true=>
  go_wp2_with fail;refine m.kM (zBY m.P [59] d.out) fun w3 F3=>?_;go_wp2_with fail;refine F3.made0 _ fun w4 D=>?_;have:=D.c 0;have:=D.f 0;go_wp2_with fail;exact D.fin 0 3 rfl (A.out.symm.trans (by
   unfold zD;dsimp only;rw[if_neg (fun h=>e.out h.1),if_neg g.out];simp[d.out]))
 | false=>
  go_wp2_with fail;refine m.kM (zBc m.P [59] d.out) fun w6 I=>?_;go_wp2_with fail;refine I.kB (zAl I.P [123] o.out) fun w7 l=>?_;cases b4 with
  | true=>
   go_wp2_with fail;refine l.kX (H.out.rank (q:=.block) ⟨l.P.hi,trivial⟩ l.P (yAC _) (by simp[zt])) fun b1 E w8 a0 a1 a2 a3 a4 a5 a6 a7 a8 p=>?_;have:=p.sto 3;have:=p.c 0;have:=p.f 0;go_wp2_with fail;exact p.fin 0 3 rfl (A.out.symm.trans (by
    unfold zD;dsimp only;rw[if_neg (fun h=>e.out h.1),if_neg g.out];simp[d.out,o.out,E.out]))
  | false=>
   go_wp2_with fail;refine l.kX (H.out.rank (q:=.simple) ⟨l.P.hi,trivial⟩ l.P (yAC _) (by simp[zt])) fun a9 t b2 J M N O Q R S T U j=>?_;have:=j.sto 3;have:=j.c 0;have:=j.f 0;go_wp2_with fail;exact j.fin 0 3 rfl (A.out.symm.trans (by
    unfold zD;dsimp only;rw[if_neg (fun h=>e.out h.1),if_neg g.out];simp[d.out,o.out,t.out]))
theorem zHC (b:Pre C.L .statement s) (K:KP C (zj C.L .statement s)) (h:Pa C s w):zp C s w .statement:=by
 by_cases h1:(zI C.L s.k).kind=1
 · exact zGw b K h h1
 by_cases h6:(zI C.L s.k).kind=6
 · exact zHB b K h h6
 exact zGx b K h h1 h6
theorem zQj (g:Pre C.L (.jump k) s) (_K:KP C (zj C.L (.jump k) s)) (h:Pa C s w) (hk:(zI C.L (zB s).k).kind=1) (p:(zI C.L (zB s).k).nl=false):zp C s w (.jump k):=by
 refine zBH g h fun M y G r W X z A B q=>?_;have t:=zA g.2;clear h g;go_enter func138,ntmps138;go_upto_region 1 with(fail);clear A B;have d:=zA hk;have e:=zA p;clear hk p;obtain⟨H,I,J⟩:=q.k1;have D:=q.step t.out;go_wp2_with fail;refine D.made0 _ fun w2 E=>?_;have u:=E.bt 1 58 rfl;obtain⟨⟨kd,tx,N,nk,nn,O,ps,nl⟩,j⟩:=zU C.L (zB (s)).k;go_wp2_with fail;refine u.kT (zv u.P j.out) fun Q As Am c1 c2 F=>?_;have l:=F.bt 3 80 rfl;have:=l.c 4;have e1:((kd:Int)==1)=true:=by have:=d.out;rw[j.out]at this;have:kd=1:=this;rw[beq_iff_eq];omega
 have m:nl=false:=by have:=e.out;rwa[j.out]at this
 subst m;go_wp2_with fail;refine l.kS (zD9 l.P) fun R o=>?_;have:=o.c 2;have:=o.f 2;have v:=(o.set 2 1 (.string ⟨((zo C.L (zB s)).1).toArray⟩)).leafN k ((zo C.L (zB s)).1);go_wp2_with fail;refine v.kN (zB7 v.P) fun S b=>?_;have:=b.c 2;have:=b.c 0;have:=b.f 0;go_wp2_with fail;exact b.fin 0 5 rfl (z.out.symm.trans (by
  unfold zD;dsimp only;rw[if_pos ⟨d.out,e.out⟩]))
theorem zWD (e:Pre C.L (.jump k) s) (_K:KP C (zj C.L (.jump k) s)) (h:Pa C s w) (m:(zI C.L (zB s).k).kind=1∧(zI C.L (zB s).k).nl=true):zp C s w (.jump k):=by
 refine zBH e h fun H t D r W X u v y o=>?_;have p:=zA e.2;clear h e;go_enter func138,ntmps138;go_upto_region 1 with(fail);clear v y;have b:=zA m;clear m;obtain⟨E,F,G⟩:=o.k1;have z:=o.step p.out;go_wp2_with fail;refine z.made0 _ fun w2 A=>?_;have q:=A.bt 1 58 rfl;obtain⟨⟨kd,tx,I,nk,nn,J,ps,nl⟩,g⟩:=zU C.L (zB (s)).k;go_wp2_with fail;refine q.kT (zv q.P g.out) fun M As Am c1 c2 B=>?_;have j:=B.bt 3 80 rfl;have:=j.c 4;have e1:((kd:Int)==1)=true:=by have:=b.out.1;rw[g.out]at this;have:kd=1:=this;rw[beq_iff_eq];omega
 have l:nl=true:=by have:=b.out.2;rwa[g.out]at this
 subst l;go_wp2_with fail;refine j.kN (zB7 j.P) fun N d=>?_;have:=d.c 2;have:=d.c 0;have:=d.f 0;go_wp2_with fail;exact d.fin 0 1 rfl (u.out.symm.trans (by
  unfold zD;dsimp only;rw[if_neg (fun h=>by rw[b.out.2]at h;cases h.2)]))
theorem zWE (e:Pre C.L (.jump k) s) (_K:KP C (zj C.L (.jump k) s)) (h:Pa C s w) (j:(zI C.L (zB s).k).kind≠1):zp C s w (.jump k):=by
 refine zBH e h fun G q B r W X t u v l=>?_;have m:=zA e.2;clear h e;go_enter func138,ntmps138;go_upto_region 1 with(fail);clear u v;have d:=zA j;clear j;obtain⟨D,E,F⟩:=l.k1;have y:=l.step m.out;go_wp2_with fail;refine y.made0 _ fun w2 z=>?_;have o:=z.bt 1 58 rfl;obtain⟨⟨kd,tx,H,nk,nn,I,ps,nl⟩,p⟩:=zU C.L (zB (s)).k;go_wp2_with fail;refine o.kT (zv o.P p.out) fun J As Am c1 c2 A=>?_;have g:=A.bt 3 80 rfl;have:=g.c 4;have e1:((kd:Int)==1)=false:=by have:=d.out;rw[p.out]at this;have:kd≠1:=this;rw[yA];omega
 go_wp2_with fail;refine g.kN (zB7 g.P) fun M b=>?_;have:=b.c 2;have:=b.c 0;have:=b.f 0;go_wp2_with fail;exact b.fin 0 1 rfl (t.out.symm.trans (by
  unfold zD;dsimp only;rw[if_neg (fun h=>d.out h.1)]))
theorem zTt (b:Pre C.L (.jump k) s) (_K:KP C (zj C.L (.jump k) s)) (h:Pa C s w):zp C s w (.jump k):=by
 by_cases h1:(zI C.L (zB s).k).kind=1
 · cases h2:(zI C.L (zB s).k).nl with
   | false=>exact zQj b _K h h1 h2
   | true=>exact zWD b _K h ⟨h1,h2⟩
 · exact zWE b _K h h1
theorem zNV (j:Pre C.L (.word [119,104,105,108,101]) s) (K:KP C (zj C.L (.word [119,104,105,108,101]) s)) (h:Pa C s w):zp C s w (.word [119,104,105,108,101]):=by
 refine zBH j h fun A B a4 r W X D E F u=>?_;have v:=zA K;have g:=zA j.2;clear K h j;go_enter func113,ntmps113;go_upto_region 1 with(fail);clear E F;obtain⟨a5,a6,a7⟩:=u.k1;have l:=u.step g.out;have d:=zA (zd A.out (p:=.within) (s:=zB s) ⟨g.out,trivial⟩);go_wp2_with fail;refine l.kX (v.out.more (q:=.within) ⟨l.P.hi,trivial⟩ l.P (yAF s.k)) fun y b w2 G H I J M N O Q R e=>?_;have:=e.sto 1;have z:=zA (show s.k < y.2.k from by have:=d.out.adv.le;rw[b.out]at this;exact yAA (yAF s.k) this);go_wp2_with fail;refine e.kX (v.out.more (q:=.statement) ⟨e.P.hi,trivial⟩ e.P z.out) fun a8 m w3 S T U V Y a0 a1 a2 a3 o=>?_;have:=o.sto 2;go_wp2_with fail;refine o.litK _ (n:=2) (o.ts2 1 2) rfl js rfl fun w4 t=>?_;have:=t.c 0;have:=t.f 0;go_wp2_with fail;exact t.fin 0 3 rfl (D.out.symm.trans (by
  unfold zD;dsimp only;rw[ji,if_pos rfl];simp only[b.out,m.out]))
theorem zTu (d:Pre C.L (.word [102,111,114]) s) (K:KP C (zj C.L (.word [102,111,114]) s)) (h:Pa C s w):zp C s w (.word [102,111,114]):=by
 refine zBH d h fun H k F r W X l m o e=>?_;have p:=zA K;have j:=zA d.2;clear K h d;go_enter func113,ntmps113;go_upto_region 1 with(fail);clear m o;go_wp2_with fail;refine e.kX (p.out.rank (q:=.loop) ⟨e.P.hi,j.out⟩ e.P (yAC _) (by simp[zt])) fun G g w1 t u v y z A B D E b=>?_;have:=b.sto 1;have:=b.c 0;have:=b.f 0;go_wp2_with fail;exact b.fin 0 1 rfl (l.out.symm.trans (by
  unfold zD;dsimp only;rw[ji,ji,if_pos rfl];simp only[g.out]))
theorem zNW (d:Pre C.L (.word [98,114,101,97,107]) s) (K:KP C (zj C.L (.word [98,114,101,97,107]) s)) (h:Pa C s w):zp C s w (.word [98,114,101,97,107]):=by
 refine zBH d h fun H k F r W X l m o e=>?_;have p:=zA K;have j:=zA d.2;clear K h d;go_enter func113,ntmps113;go_upto_region 1 with(fail);clear m o;go_wp2_with fail;refine e.kX (p.out.rank (q:=.jump 12) ⟨e.P.hi,j.out⟩ e.P (yAC _) (by simp[zt])) fun G g w1 t u v y z A B D E b=>?_;have:=b.sto 1;have:=b.c 0;have:=b.f 0;go_wp2_with fail;exact b.fin 0 1 rfl (l.out.symm.trans (by
  unfold zD;dsimp only;rw[ji,ji,ji,if_pos rfl];simp only[g.out]))
theorem zIR (d:Pre C.L (.word [99,111,110,116,105,110,117,101]) s) (K:KP C (zj C.L (.word [99,111,110,116,105,110,117,101]) s)) (h:Pa C s w):zp C s w (.word [99,111,110,116,105,110,117,101]):=by
 refine zBH d h fun H k F r W X l m o e=>?_;have p:=zA K;have j:=zA d.2;clear K h d;go_enter func113,ntmps113;go_upto_region 1 with(fail);clear m o;go_wp2_with fail;refine e.kX (p.out.rank (q:=.jump 13) ⟨e.P.hi,j.out⟩ e.P (yAC _) (by simp[zt])) fun G g w1 t u v y z A B D E b=>?_;have:=b.sto 1;have:=b.c 0;have:=b.f 0;go_wp2_with fail;exact b.fin 0 1 rfl (l.out.symm.trans (by
  unfold zD;dsimp only;rw[ji,ji,ji,ji,if_pos rfl];simp only[g.out]))
theorem zTv (d:Pre C.L (.word [116,114,121]) s) (K:KP C (zj C.L (.word [116,114,121]) s)) (h:Pa C s w):zp C s w (.word [116,114,121]):=by
 refine zBH d h fun H k F r W X l m o e=>?_;have p:=zA K;have j:=zA d.2;clear K h d;go_enter func113,ntmps113;go_upto_region 1 with(fail);clear m o;go_wp2_with fail;refine e.kX (p.out.rank (q:=.tries) ⟨e.P.hi,j.out⟩ e.P (yAC _) (by simp[zt])) fun G g w1 t u v y z A B D E b=>?_;have:=b.sto 1;have:=b.c 0;have:=b.f 0;go_wp2_with fail;exact b.fin 0 1 rfl (l.out.symm.trans (by
  unfold zD;dsimp only;rw[ji,ji,ji,ji,ji,ji,ji,if_pos rfl];simp only[g.out]))
theorem zGy (j:Pre C.L (.word [116,104,114,111,119]) s) (K:KP C (zj C.L (.word [116,104,114,111,119]) s)) (h:Pa C s w) (d:(zI C.L (zB s).k).nl=true):zp C s w (.word [116,104,114,111,119]):=by
 refine zBH j h fun HL B U r W X D E F t=>?_;have G:=zA K;have e:=zA j.2;clear K h j;go_enter func113,ntmps113;go_upto_region 1 with(fail);clear E F;have g:=zA d;clear d;have V:=zNO;obtain⟨Y,a0,a1⟩:=t.k1;have u:=t.step e.out;obtain⟨⟨kd,tx,st,nk,nn,mg,ps,nl⟩,v⟩:=zU C.L (zB (s)).k;have l:nl=true:=by have:=g.out;rwa[v.out]at this
 subst l;go_wp2_with fail;refine u.kT (zv u.P v.out) fun w2 As Am c1 c2 y=>?_;go_wp2_with fail;refine y.kN (zAN y.P) fun w3 m=>?_;have z:=zA (show(zB s).k≤(ze C.L (zB s)).k from(zAD (s:=zB s) e.out).adv.le);go_wp2_with fail;refine m.kX (G.out.more (q:=.assign) ⟨m.P.hi,trivial⟩ m.P (yAA (yAF s.k) z.out)) fun a2 o w4 H I J M N O Q R S p=>?_;have:=p.sto 2;go_wp2_with fail;refine p.litK _ (n:=1) (p.ts1 2) rfl js rfl fun w5 T=>?_;have A:=T.bt 3 58 rfl;go_wp2_with fail;refine A.kN (zB7 A.P) fun w7 b=>?_;have:=b.c 4;have:=b.c 0;have:=b.f 0;go_wp2_with fail;exact b.fin 0 3 rfl (D.out.symm.trans (by
  unfold zD;dsimp only;rw[ji,ji,ji,ji,ji,ji,if_pos rfl];simp[g.out,o.out]))
theorem zFs (g:Pre C.L (.word [116,104,114,111,119]) s) (K:KP C (zj C.L (.word [116,104,114,111,119]) s)) (h:Pa C s w) (d:(zI C.L (zB s).k).nl=false):zp C s w (.word [116,104,114,111,119]):=by
 refine zBH g h fun HL z S r W X A B D p=>?_;have E:=zA K;have t:=zA g.2;clear K h g;go_enter func113,ntmps113;go_upto_region 1 with(fail);clear B D;have e:=zA d;clear d;have T:=zNO;obtain⟨U,V,Y⟩:=p.k1;have u:=p.step t.out;obtain⟨⟨kd,tx,st,nk,nn,mg,ps,nl⟩,v⟩:=zU C.L (zB (s)).k;have j:nl=false:=by have:=e.out;rwa[v.out]at this
 subst j;go_wp2_with fail;refine u.kT (zv u.P v.out) fun w2 As Am c1 c2 l=>?_;go_wp2_with fail;refine l.kX (E.out.more (q:=.assign) ⟨l.P.hi,trivial⟩ l.P (yAF s.k)) fun a0 m w3 F G H I J M N O Q o=>?_;have:=o.sto 2;go_wp2_with fail;refine o.litK _ (n:=1) (o.ts1 2) rfl js rfl fun w4 R=>?_;have y:=R.bt 3 58 rfl;go_wp2_with fail;refine y.kN (zB7 y.P) fun w6 b=>?_;have:=b.c 4;have:=b.c 0;have:=b.f 0;go_wp2_with fail;exact b.fin 0 3 rfl (A.out.symm.trans (by
  unfold zD;dsimp only;rw[ji,ji,ji,ji,ji,ji,if_pos rfl];simp[e.out,m.out]))
theorem zIS (d:Pre C.L (.word [102,117,110,99,116,105,111,110]) s) (_K:KP C (zj C.L (.word [102,117,110,99,116,105,111,110]) s)) (h:Pa C s w):zp C s w (.word [102,117,110,99,116,105,111,110]):=by
 refine zBH d h fun p g o r W X j k l e=>?_;clear h d;go_enter func113,ntmps113;go_upto_region 1 with(fail);clear k l;go_wp2_with fail;refine e.kN (zAN e.P) fun w1 m=>?_;go_wp2_with fail;refine m.made0 _ fun w2 b=>?_;have:=b.c 0;have:=b.f 0;go_wp2_with fail;exact b.fin 0 1 rfl (j.out.symm.trans (by
  unfold zD;dsimp only;rw[ji,ji,ji,ji,ji,ji,ji,ji,if_pos (.inl rfl)]))
theorem zTw (d:Pre C.L (.word [108,101,116]) s) (_K:KP C (zj C.L (.word [108,101,116]) s)) (h:Pa C s w):zp C s w (.word [108,101,116]):=by
 refine zBH d h fun p g o r W X j k l e=>?_;clear h d;go_enter func113,ntmps113;go_upto_region 1 with(fail);clear k l;go_wp2_with fail;refine e.kN (zAN e.P) fun w1 m=>?_;go_wp2_with fail;refine m.made0 _ fun w2 b=>?_;have:=b.c 0;have:=b.f 0;go_wp2_with fail;exact b.fin 0 1 rfl (j.out.symm.trans (by
  unfold zD;dsimp only;rw[ji,ji,ji,ji,ji,ji,ji,ji,if_pos (.inr (.inl rfl))]))
theorem zNX (d:Pre C.L (.word [99,111,110,115,116]) s) (_K:KP C (zj C.L (.word [99,111,110,115,116]) s)) (h:Pa C s w):zp C s w (.word [99,111,110,115,116]):=by
 refine zBH d h fun p g o r W X j k l e=>?_;clear h d;go_enter func113,ntmps113;go_upto_region 1 with(fail);clear k l;go_wp2_with fail;refine e.kN (zAN e.P) fun w1 m=>?_;go_wp2_with fail;refine m.made0 _ fun w2 b=>?_;have:=b.c 0;have:=b.f 0;go_wp2_with fail;exact b.fin 0 1 rfl (j.out.symm.trans (by
  unfold zD;dsimp only;rw[ji,ji,ji,ji,ji,ji,ji,ji,if_pos (.inr (.inr rfl))]))
theorem zNY (j:Pre C.L (.word v) s) (K:KP C (zj C.L (.word v) s)) (h:Pa C s w) (k:¬v=[105,102]) (h1:¬v=[119,104,105,108,101]) (l:¬v=[102,111,114]) (m:¬v=[98,114,101,97,107]) (o:¬v=[99,111,110,116,105,110,117,101]) (p:¬v=[114,101,116,117,114,110]) (h6:¬v=[116,104,114,111,119]) (t:¬v=[116,114,121]) (u:¬v=[102,117,110,99,116,105,111,110]) (y:¬v=[108,101,116]) (d:¬v=[99,111,110,115,116]):zp C s w (.word v):=by
 refine zBH j h fun U z R r W X A B D e=>?_;have E:=zA K;clear K h j;go_enter func113,ntmps113;go_upto_region 1 with(fail);clear B D;have V:(v==[105,102])=false:=yA.mpr k;have Y:(v==[119,104,105,108,101])=false:=yA.mpr h1;have n2:(v==[102,111,114])=false:=yA.mpr l;have n3:(v==[98,114,101,97,107])=false:=yA.mpr m;have n4:(v==[99,111,110,116,105,110,117,101])=false:=yA.mpr o;have n5:(v==[114,101,116,117,114,110])=false:=yA.mpr p;have n6:(v==[116,104,114,111,119])=false:=yA.mpr h6;have n7:(v==[116,114,121])=false:=yA.mpr t;have n8:(v==[102,117,110,99,116,105,111,110])=false:=yA.mpr u;have n9:(v==[108,101,116])=false:=yA.mpr y;have S:(v==[99,111,110,115,116])=false:=yA.mpr d;go_wp2_with fail;refine e.kX (E.out.rank (q:=.simple) ⟨e.P.hi,trivial⟩ e.P (yAC _) (by simp[zt])) fun T g w1 F G H I J M N O Q b=>?_;have:=b.sto 1;have:=b.c 0;have:=b.f 0;go_wp2_with fail;exact b.fin 0 1 rfl (A.out.symm.trans (by
  unfold zD;dsimp only;rw[if_neg k,if_neg h1,if_neg l,if_neg m,if_neg o,if_neg p,if_neg h6,if_neg t,if_neg (fun h=>h.elim u (fun h=>h.elim y d))];simp only[g.out]))
theorem zNZ (B:Pre C.L (.word [105,102]) s) (K:KP C (zj C.L (.word [105,102]) s)) (h:Pa C s w) (j:onP C.L [101,108,115,101] (zE C.L .statement (zE C.L .within (zB s)).2).2=false):zp C s w (.word [105,102]):=by
 refine zBH B h fun F M b2 r W X N O Q G=>?_;have H:=zA K;have y:=zA B.2;clear K h B;go_enter func113,ntmps113;go_upto_region 1 with(fail);clear O Q;obtain⟨b3,b4,b5⟩:=G.k1;have D:=G.step y.out;have t:=zA (zd F.out (p:=.within) (s:=zB s) ⟨y.out,trivial⟩);go_wp2_with fail;refine D.kX (H.out.more (q:=.within) ⟨D.P.hi,trivial⟩ D.P (yAF s.k)) fun l d w2 R S T U V Y a0 a1 a2 u=>?_;have:=u.sto 1;have I:=zA (show Adv C.L (zB s) (l.2) by have:=t.out.adv;rwa[d.out]at this);have z:=zA (show s.k < (l.2).k from yAA (yAF s.k) I.out.le);have m:=zA (zd F.out (p:=.statement) (s:=l.2) ⟨I.out.hi,trivial⟩);go_wp2_with fail;refine u.kX (H.out.more (q:=.statement) ⟨u.P.hi,trivial⟩ u.P z.out) fun g e w3 a3 a4 a5 a6 a7 a8 a9 b0 b1 E=>?_;have:=E.sto 2;have hy:=zA (show s.k < (g.2).k from yAA z.out (show _≤(g.2).k by have:=m.out.adv.le;rwa[e.out]at this));obtain⟨be,A⟩:=jx (onP C.L [101,108,115,101] (g.2));have o:=zA A;clear A;go_wp2_with fail;refine E.litR _ (n:=2) (E.ts2 1 2) rfl js rfl fun w4 F4=>?_;have J:=F4.bt 4 58 rfl;have j:=zA (show onP C.L [101,108,115,101] (g.2)=false by have:=j;rwa[d.out,e.out]at this);cases be with
 | true=>exact absurd o.out (by have:=j.out;simp[this])
 | false=>
  go_wp2_with fail;refine J.kM (zBc J.P [101,108,115,101] o.out) fun w6 v=>?_;have:=v.c 5;have:=v.c 0;have:=v.f 0;go_wp2_with fail;exact v.fin 0 4 rfl (N.out.symm.trans (by
   unfold zD;dsimp only;simp[d.out,e.out,o.out]))
theorem zJq (D:Pre C.L (.word [105,102]) s) (K:KP C (zj C.L (.word [105,102]) s)) (h:Pa C s w) (j:onP C.L [101,108,115,101] (zE C.L .statement (zE C.L .within (zB s)).2).2=true):zp C s w (.word [105,102]):=by
 refine zBH D h fun HL a3 c2 r W X HR hW hX F0=>?_;have E:=zA K;have z:=zA D.2;clear K h D;go_enter func113,ntmps113;go_upto_region 1 with(fail);clear hW hX;obtain⟨c3,c4,c5⟩:=F0.k1;have F:=F0.step z.out;have t:=zA (zd HL.out (p:=.within) (s:=zB s) ⟨z.out,trivial⟩);go_wp2_with fail;refine F.kX (E.out.more (q:=.within) ⟨F.P.hi,trivial⟩ F.P (yAF s.k)) fun l d w2 a4 a5 a6 a7 a8 a9 b0 b1 b2 u=>?_;have:=u.sto 1;have hx:=zA (show Adv C.L (zB s) (l.2) by have:=t.out.adv;rwa[d.out]at this);have A:=zA (show s.k < (l.2).k from yAA (yAF s.k) hx.out.le);have m:=zA (zd HL.out (p:=.statement) (s:=l.2) ⟨hx.out.hi,trivial⟩);go_wp2_with fail;refine u.kX (E.out.more (q:=.statement) ⟨u.P.hi,trivial⟩ u.P A.out) fun g e w3 b3 b4 b5 b6 b7 b8 b9 c0 c1 G=>?_;have:=G.sto 2;have hy:=zA (show s.k < (g.2).k from yAA A.out (show _≤(g.2).k by have:=m.out.adv.le;rwa[e.out]at this));obtain⟨be,B⟩:=jx (onP C.L [101,108,115,101] (g.2));have o:=zA B;clear B;go_wp2_with fail;refine G.litR _ (n:=2) (G.ts2 1 2) rfl js rfl fun w4 F4=>?_;have F5:=F4.bt 4 58 rfl;have j:=zA (show onP C.L [101,108,115,101] (g.2)=true by have:=j;rwa[d.out,e.out]at this);cases be with
 | false=>exact absurd o.out (by have:=j.out;simp[this])
 | true=>
  go_wp2_with fail;refine F5.kM (zBY F5.P [101,108,115,101] o.out) fun w6 v=>?_;have a0:=zA (fun Q=>v.dr.kRX 3 rfl (Q:=Q) (E.out.more (q:=.statement) ⟨v.dr.P.hi,trivial⟩ v.dr.P (Nat.lt_succ_of_lt hy.out)));have:=v.c 5;go_wp2_with fail;go_region_law (first | (go_simp;go_at_call 73;(with_reducible refine a0.out _ fun c6 H w7 I J M N O R S T U V=>?_);have:=V.c 5;have:=(V.al (.cells #[I,J,M,N,O,R,S,T,U] 58)).c 5) | (refine V.snocS 3 6 rfl rfl (fun _ h=>h) js rfl _ _ rfl rfl rfl fun A8 a1 w8 Y=>?_;have:=Y.c 5;have:=Y.f 5))
  all_goals
   have y:=Y.set 5 8 (.slice A8 (2+1) a1);have:=y.c 5;have:=y.c 0;have:=y.f 0;go_wp2_with fail;have a2:=y.rowK 3 rfl 8;exact a2.fin 0 7 rfl (HR.out.symm.trans (by
    unfold zD;dsimp only;simp[d.out,e.out,H.out,o.out]))
theorem zGz (g:Pre C.L (.word [114,101,116,117,114,110]) s) (_K:KP C (zj C.L (.word [114,101,116,117,114,110]) s)) (h:Pa C s w) (d:zDe C.L (zB s)=true):zp C s w (.word [114,101,116,117,114,110]):=by
 refine zBH g h fun D o y r W X p q t j=>?_;have k:=zA g.2;clear h g;go_enter func113,ntmps113;go_upto_region 1 with(fail);clear q t;have e:=zA d;clear d;obtain⟨z,A,B⟩:=j.k1;have u:=j.step k.out;go_wp2_with fail;refine u.made0 _ fun w2 v=>?_;have l:=v.bt 1 58 rfl;go_wp2_with fail;refine l.kB (zJm l.P e.out) fun E m=>?_;go_wp2_with fail;refine m.kN (zB7 m.P) fun F b=>?_;have:=b.c 2;have:=b.c 0;have:=b.f 0;go_wp2_with fail;exact b.fin 0 1 rfl (p.out.symm.trans (by
  unfold zD;dsimp only;simp[e.out]))
theorem zHD (j:Pre C.L (.word [114,101,116,117,114,110]) s) (K:KP C (zj C.L (.word [114,101,116,117,114,110]) s)) (h:Pa C s w) (e:zDe C.L (zB s)=false):zp C s w (.word [114,101,116,117,114,110]):=by
 refine zBH j h fun HL N a0 r W X O R S E=>?_;have T:=zA K;have F:=zA j.2;clear K h j;go_enter func113,ntmps113;go_upto_region 1 with(fail);clear R S;have g:=zA e;clear e;obtain⟨a1,a2,a3⟩:=E.k1;have U:=E.step F.out;go_wp2_with fail;refine U.made0 _ fun w2 V=>?_;have G:=V.bt 1 58 rfl;go_wp2_with fail;refine G.kB (zJm G.P g.out) fun w4 Y=>?_;have b:=Y.nil;have H:=zA (fun Q=>b.dr.kRX 3 rfl (Q:=Q) (T.out.more (q:=.assign) ⟨b.dr.P.hi,trivial⟩ b.dr.P (yAF s.k)));have:=b.c 2;go_wp2_with fail;go_region_law (first | (go_simp;go_at_call 106;(with_reducible refine H.out _ fun a4 l w6 m o p t u v y z A B=>?_);have:=B.c 2;have:=(B.al (.cells #[m,o,p,t,u,v,y,z,A] 58)).c 2) | (refine B.snocS 3 4 rfl rfl (fun _ h=>h) js rfl _ _ rfl rfl rfl fun A7 I w7 D=>?_;have:=D.c 2;have:=D.f 2))
 all_goals
  have J:=D.set 2 8 (.slice A7 1 I);go_wp2_with fail;refine J.kN (zB7 J.P) fun w9 d=>?_;have:=d.c 2;have:=d.c 0;have:=d.f 0;go_wp2_with fail;have M:=d.rowK 3 rfl 14;exact M.fin 0 5 rfl (O.out.symm.trans (by
   unfold zD;dsimp only;simp[g.out,l.out]))
theorem zTx (b:Pre C.L (.word v) s) (K:KP C (zj C.L (.word v) s)) (h:Pa C s w):zp C s w (.word v):=by
 by_cases d:v=[105,102]
 · subst d;cases hel:onP C.L [101,108,115,101] (zE C.L .statement (zE C.L .within (zB s)).2).2 with
   | true=>exact zJq b K h hel
   | false=>exact zNZ b K h hel
 by_cases h1:v=[119,104,105,108,101]
 · subst h1;exact zNV b K h
 by_cases e:v=[102,111,114]
 · subst e;exact zTu b K h
 by_cases f:v=[98,114,101,97,107]
 · subst f;exact zNW b K h
 by_cases g:v=[99,111,110,116,105,110,117,101]
 · subst g;exact zIR b K h
 by_cases j:v=[114,101,116,117,114,110]
 · subst j;cases hbe:zDe C.L (zB s)with
   | true=>exact zGz b K h hbe
   | false=>exact zHD b K h hbe
 by_cases h6:v=[116,104,114,111,119]
 · subst h6;cases hnl:(zI C.L (zB s).k).nl with
   | true=>exact zGy b K h hnl
   | false=>exact zFs b K h hnl
 by_cases l:v=[116,114,121]
 · subst l;exact zTv b K h
 by_cases m:v=[102,117,110,99,116,105,111,110]
 · subst m;exact zIS b K h
 by_cases o:v=[108,101,116]
 · subst o;exact zTw b K h
 by_cases c:v=[99,111,110,115,116]
 · subst c;exact zNX b K h
 exact zNY b K h d h1 e f g j h6 l m o c
def zDs (L:List Tok) (f i:Nat):Bool:=match zEJ L f i with | none=>false | some j=>zBr L j
theorem zQk (h:(zI L i).kind≠1):zDs L f i=false:=by
 unfold zDs;cases f with
 | zero=>rfl
 | succ f=>unfold zEJ;rw[if_neg h]
theorem zQl (h:(zI L i).kind=1) (b:isT (zI L (i+1)) [44]=true):zDs L (f+1) i=zDs L f (i+2):=by
 unfold zDs;rw[zEJ,if_pos h,if_pos b]
theorem zNa (h:(zI L i).kind=1) (b:isT (zI L (i+1)) [44]=false):zDs L (f+1) i=zBr L (i+1):=by
 unfold zDs;rw[zEJ,if_pos h,if_neg (by rw[b];decide)]
theorem zL5 (h:onP L [40] s=true):zAg L s=(if isT (zI L (s.k+1)) [41]=true then zBr L (s.k+1)else zDs L L.length (s.k+1)):=by
 unfold zAg zDs;rw[h,Bool.true_and];rfl
theorem zG0 (h:L.length≤i):zI L i=zr:=by
 unfold zI;rw[yAG,List.getElem?_eq_none h];rfl
theorem zTy (b:Lst L) (i N:Nat) (hN:L.length=N):(zI L (min i (N - 1))).kind=(zI L i).kind:=by
 subst hN;rcases Nat.lt_or_ge i L.length with h | h
 · rw[show min i (L.length - 1)=i by omega]
 · have c:=b.pos;rw[show min i (L.length - 1)=L.length - 1 by omega,zG0 h,b.last];rfl
theorem zFe (b:Lst L) (i N:Nat) (hN:L.length=N) (v:List UInt8):isT (zI L (min i (N - 1))) v=isT (zI L i) v:=by
 subst hN;rcases Nat.lt_or_ge i L.length with h | h
 · rw[show min i (L.length - 1)=i by omega]
 · have d:=b.pos;have c:=b.last;rw[show min i (L.length - 1)=L.length - 1 by omega,zG0 h];unfold isT;rw[c];simp[zr]
theorem zWF (h:(zI L i).kind=1):i < L.length:=by
 rcases Nat.lt_or_ge i L.length with b | b
 · exact b
 · rw[zG0 b]at h;exact absurd h jd
theorem zQm (h:Pa C s w):Calls prog 132 #[.pointer (some ⟨C.g,0,none⟩)] w (zNN C s (zAg C.L s) w):=by
 have j:=zA h.cx.lst;have o5:C.N≤4097:=h.cx.n4;have hN:C.L.length=C.N:=h.cx.n;have q2:=h.kN;have k4:=zA h;have q3:=zXb;obtain⟨b0,b3⟩:=jx (onP C.L [40] s);obtain⟨b1,b4⟩:=jx (isT (zI C.L (s.k+1)) [41]);obtain⟨r,hr⟩:=jx (zAg C.L s);rw[hr];have HR:=zA hr;have p:=zA b3;have A:=zA b4;clear h hr b3 b4;go_enter func132,ntmps132;go_wp2_with fail;refine(zAl k4.out [40] p.out).mono ?_;rintro e1 w1 ⟨rfl,b5,b6⟩;have b7:=zA b5;have b8:=zA b6;clear b5 b6;cases b0 with
 | false=>
  go_wp2_with fail;go_ret;exact⟨zJ (by rw[←HR.out];unfold zAg;rw[p.out];rfl),b7.out,b8.out⟩
 | true=>
  obtain⟨⟨k5,k6,k7,k8,k9,l0,l1,l2⟩,B⟩:=jx (zI C.L (min (s.k+(1)) (C.N - 1)));have b9:=zA B;clear B;go_wp2_with fail;refine(zBA b7.out (1) _ (by first | omega | decide | rfl) jo b9.out).mono ?_;rintro e2 w2 ⟨q4,q5,q6,q7,rfl,l3,l4,c0,c1⟩;have l5:=zA c0;have l6:=zA (zC b8.out c1);clear l3 l4 c0 c1;go_wp2_with fail;refine(zDM [41] (show isT ⟨k5,k6,k7,k8,k9,l0,l1,l2⟩ [41]=b1 by rw[←b9.out,zFe j.out _ _ hN];exact A.out)).mono ?_;rintro e3 w3 ⟨rfl,D⟩;have c2:=zA (l5.out.new D);have c3:=zA (zC l6.out D);clear D;cases b1 with
  | true=>
   obtain⟨E,F⟩:=jx (isT (zI C.L (s.k+(1))) [41]);obtain⟨c4,G⟩:=jx (isT (zI C.L (s.k+(1+1))) [61,62]);have H:=zA F;have I:=zA G;clear F G;have J:=zA (show r=(E&&c4) by
    rw[←HR.out,zL5 p.out,if_pos A.out];unfold zBr;rw[←H.out,←I.out]
    all_goals first | rfl | (congr 3;omega))
   obtain⟨⟨f2,f3,f4,f5,f6,f7,f8,f9⟩,q⟩:=jx (zI C.L (min (s.k+(1)) (C.N - 1)));have M:=zA q;clear q;go_wp2_with fail;refine(zBA c2.out (1) _ (by first | omega | decide | rfl) jo M.out).mono ?_;rintro e4 w4 ⟨o6,o7,o8,o9,rfl,l7,l8,c5,c6⟩;have l9:=zA c5;have m0:=zA (zC c3.out c6);clear l7 l8 c5 c6;go_wp2_with fail;refine(zDM [41] (show isT ⟨f2,f3,f4,f5,f6,f7,f8,f9⟩ [41]=E by rw[←M.out,zFe j.out _ _ hN];exact H.out)).mono ?_;rintro e5 w5 ⟨rfl,O⟩;have c7:=zA (l9.out.new O);have c8:=zA (zC m0.out O);clear O;cases E with
   | false=>
    go_wp2_with fail;go_ret;exact⟨zJ J.out.symm,c7.out,c8.out⟩
   | true=>
    obtain⟨⟨g0,g1,g2,g3,g4,g5,g6,g7⟩,t⟩:=jx (zI C.L (min (s.k+(1+1)) (C.N - 1)));have P:=zA t;clear t;go_wp2_with fail;refine(zBA c7.out (1+1) _ (by first | omega | decide | rfl) jo P.out).mono ?_;rintro e6 w6 ⟨p0,p1,p2,p3,rfl,m1,m2,c9,d0⟩;have m3:=zA c9;have m4:=zA (zC c8.out d0);clear m1 m2 c9 d0;go_wp2_with fail;refine(zDM [61,62] (show isT ⟨g0,g1,g2,g3,g4,g5,g6,g7⟩ [61,62]=c4 by rw[←P.out,zFe j.out _ _ hN];exact I.out)).mono ?_;rintro e7 w7 ⟨rfl,Q⟩;have m5:=zA (m3.out.new Q);have m6:=zA (zC m4.out Q);clear Q;go_wp2_with fail;go_ret;exact⟨zJ (by rw[J.out];rfl),m5.out,m6.out⟩
  | false=>
   have m7:=zA (show zDs C.L C.L.length (s.k+1)=r by rw[←HR.out,zL5 p.out,if_neg (by rw[A.out];decide)]);go_wp2_with fail
   go_loopg [3] C.L.length (fun f v wr=>∃i:Nat,C.L.length≤f+s.k+i∧v=.int .i64 (i:Int)∧i≤5000∧Hid (zDs C.L f (s.k+i)=r)∧Hid (Pa C s wr)∧Hid (w.grownBy wr none))
   case atStart=>exact⟨1,by omega,rfl,by omega,m7.out,c2.out,c3.out⟩
   case round=>
    obtain⟨i,q8,hv,hi,R,m8,m9⟩:=hrel;subst hv;obtain⟨ck,u⟩:=jx (decide ((zI C.L (s.k+i)).kind=1));have q9:IntKind.i64.wrap ((i:Int)+1)=(i:Int)+1:=by rw[IntKind.wrap_i64];omega
    have r0:IntKind.i64.wrap ((i:Int)+1+1)=(i:Int)+1+1:=by rw[IntKind.wrap_i64];omega
    obtain⟨⟨e,r1,r2,r3,r4,r5,r6,r7⟩,S⟩:=jx (zI C.L (min (s.k+(i)) (C.N - 1)));have d1:=zA S;clear S;go_wp2_with fail;refine(zBA m8.out (i) _ (by first | omega | decide | rfl) jo d1.out).mono ?_;rintro e8 w8 ⟨r8,r9,s1,s2,rfl,n0,n1,d2,d3⟩;have d4:=zA d2;have d5:=zA (zC m9.out d3);clear n0 n1 d2 d3;have d6:e=(zI C.L (s.k+i)).kind:=by have:=zTy j.out (s.k+i) C.N hN;rwa[d1.out]at this
    cases ck with
    | false=>
     have d:(zI C.L (s.k+i)).kind≠1:=by simpa using u
     have e1:((e:Int)==1)=false:=by rw[yA];omega
     have e2:((e:Int) !=1)=true:=by rw[bne,e1];rfl
     have HZ:=zA (show r=false from R.out.symm.trans (zQk d));clear d6 u d;go_wp2_with fail;go_ret;exact⟨zJ HZ.out.symm,d4.out,d5.out⟩
    | true=>
     have d:(zI C.L (s.k+i)).kind=1:=by simpa using u
     have e1:((e:Int)==1)=true:=by rw[beq_iff_eq];omega
     have e2:((e:Int) !=1)=false:=by rw[bne,e1];rfl
     have s3:=zWF d;have d7:=zA d;clear d6 u d;obtain⟨f,rfl⟩:∃f,gk=f+1:=⟨gk - 1,by omega⟩;obtain⟨bc,d8⟩:=jx (isT (zI C.L (s.k+(i+1))) [44]);have T:=zA d8;clear d8;obtain⟨⟨n2,n3,n5,n6,n7,n8,n9,o0⟩,U⟩:=jx (zI C.L (min (s.k+(i+1)) (C.N - 1)));have d9:=zA U;clear U;go_wp2_with fail;refine(zBA d4.out (i+1) _ (by first | omega | decide | rfl) jo d9.out).mono ?_;rintro e9 w9 ⟨s4,s5,s6,s7,rfl,o1,o2,e0,f0⟩;have o3:=zA e0;have o4:=zA (zC d5.out f0);clear o1 o2 e0 f0;go_wp2_with fail;refine(zDM [44] (show isT ⟨n2,n3,n5,n6,n7,n8,n9,o0⟩ [44]=bc by rw[←d9.out,zFe j.out _ _ hN];exact T.out)).mono ?_;rintro s8 s9 ⟨rfl,l⟩;have V:=zA (o3.out.new l);have W:=zA (zC o4.out l);clear l;cases bc with
     | true=>
      go_wp2_with fail
      go_roundg f
      case measure=>omega
      case rel=>exact⟨i+2,by omega,congrArg (Value.int .i64) jo,by omega,(zQl d7.out T.out).symm.trans R.out,V.out,W.out⟩
     | false=>
      obtain⟨X,Y⟩:=jx (isT (zI C.L (s.k+(i+1))) [41]);obtain⟨f1,a0⟩:=jx (isT (zI C.L (s.k+(i+1+1))) [61,62]);have a1:=zA Y;have a2:=zA a0;clear Y a0;have J:=zA (show r=(X&&f1) by
       rw[←R.out,zNa d7.out T.out];unfold zBr;rw[←a1.out,←a2.out]
       all_goals first | rfl | (congr 3;omega))
      obtain⟨⟨g8,g9,h0,h1,h2,h3,h4,h5⟩,y⟩:=jx (zI C.L (min (s.k+(i+1)) (C.N - 1)));have a3:=zA y;clear y;go_wp2_with fail;refine(zBA V.out (i+1) _ (by first | omega | decide | rfl) jo a3.out).mono ?_;rintro t0 t1 ⟨p4,p5,p6,p7,rfl,h6,h7,a4,a5⟩;have h8:=zA a4;have h9:=zA (zC W.out a5);clear h6 h7 a4 a5;go_wp2_with fail;refine(zDM [41] (show isT ⟨g8,g9,h0,h1,h2,h3,h4,h5⟩ [41]=X by rw[←a3.out,zFe j.out _ _ hN];exact a1.out)).mono ?_;rintro t2 t3 ⟨rfl,m⟩;have a6:=zA (h8.out.new m);have a7:=zA (zC h9.out m);clear m;cases X with
      | false=>
       go_wp2_with fail;go_ret;exact⟨zJ J.out.symm,a6.out,a7.out⟩
      | true=>
       obtain⟨⟨j0,j1,j2,j3,j4,j5,j6,j7⟩,z⟩:=jx (zI C.L (min (s.k+(i+1+1)) (C.N - 1)));have a8:=zA z;clear z;go_wp2_with fail;refine(zBA a6.out (i+1+1) _ (by first | omega | decide | rfl) jo a8.out).mono ?_;rintro t4 t5 ⟨p8,p9,q0,q1,rfl,j8,j9,a9,b2⟩;have k0:=zA a9;have k1:=zA (zC a7.out b2);clear j8 j9 a9 b2;go_wp2_with fail;refine(zDM [61,62] (show isT ⟨j0,j1,j2,j3,j4,j5,j6,j7⟩ [61,62]=f1 by rw[←a8.out,zFe j.out _ _ hN];exact a2.out)).mono ?_;rintro t6 t7 ⟨rfl,o⟩;have k2:=zA (k0.out.new o);have k3:=zA (zC k1.out o);clear o;go_wp2_with fail;go_ret;exact⟨zJ (by rw[J.out];rfl),k2.out,k3.out⟩
theorem zEA (h:Pa C s w) {b:Bool} (hb:zAg C.L s=b):Calls prog 132 #[.pointer (some ⟨C.g,0,none⟩)] w (zNN C s b w):=hb▸zQm h
theorem zIT (h:zAg L s=true):onP L [40] s=true:=by
 unfold zAg at h;rw[Bool.and_eq_true]at h;exact h.1
theorem zKm (M:Pre C.L (.assign) s) (K:KP C (zj C.L (.assign) s)) (h:Pa C s w) (O:(zI C.L s.k).kind=1∧isT (zAp C.L s.k 1) [61,62]=true∧(zAp C.L s.k 1).nl=false):zp C s w (.assign):=by
 refine zBH M h fun Y a0 Q r W X HR hW hX R=>?_;have HK:=zA K;clear K h M;go_enter func106,ntmps106;go_upto_region 1 with(fail);clear hW hX;have d:=zA O;clear O;obtain⟨⟨kd,tx,st,nk,nn,mg,ps,nl⟩,G⟩:=zU C.L (s).k;go_wp2_with fail;refine R.kT (zv R.P G.out) fun w1 As Am c1 c2 F1=>?_;have l:=F1.bt 1 80 rfl;have b0:=zNO;have e1:((kd:Int)==1)=true:=by have:=d.out.1;rw[G.out]at this;have:kd=1:=this;rw[beq_iff_eq];omega
 have t:=zA (Y.out.lt Q (by rw[d.out.1];decide));have hn:=l.P.cx.n;obtain⟨⟨u,v,y,z,A,B,ps2,D⟩,e⟩:=zU C.L (zB s).k;have HA:=zA (show isT ⟨u,v,y,z,A,B,ps2,D⟩ [61,62]=true by rw[←e.out];exact d.out.2.1);have H:D=false:=by have:=d.out.2.2;rwa[show zAp C.L s.k 1=zI C.L (zB s).k from rfl,e.out]at this
 subst H;have j:=zA (show zI C.L (min (s.k+1) (C.N - 1))=⟨u,v,y,z,A,B,ps2,false⟩ by rw[show min (s.k+1) (C.N - 1)=s.k+1 by have:=t.out;omega];exact e.out);have:=l.c 2;go_wp2_with fail;refine l.kT (zBA l.P 1 1 rfl jd j.out) fun w3 b1 b2 b3 b4 F3=>?_;go_wp2_with fail;refine F3.kQ (zDM [61,62] HA.out) fun w4 S=>?_;go_wp2_with fail;refine S.kT (zBA S.P 1 1 rfl jd j.out) fun I b5 b6 b7 b8 T=>?_;obtain⟨b9,c0,c3⟩:=T.k1;have m:=T.step t.out;have:=m.c 2;go_wp2_with fail;refine(zC8 20 ⟨tx.toArray⟩ none 0 0).mono ?_;rintro c4 o ⟨rfl,b⟩;have E:=zA ((m.P.new b).alloc (.cells #[.int .i64 20,.string ⟨tx.toArray⟩,.slice none 0 0,.int .i64 0,.int .i64 0,.bool false,.slice none 0 0,.slice none 0 0,.slice none 0 0] 58));have F:((I).setCell ⟨C.g,1,none⟩ (.int .i64 (((s).k:Int)+1))).heap.size≤o.heap.size:=b.size;have U:=zA (show RowP ((o).alloc (.cells #[.int .i64 20,.string ⟨tx.toArray⟩,.slice none 0 0,.int .i64 0,.int .i64 0,.bool false,.slice none 0 0,.slice none 0 0,.slice none 0 0] 58)) (((I).setCell ⟨C.g,1,none⟩ (.int .i64 (((s).k:Int)+1))).heap.size≤·) (.slice (some ⟨o.heap.size,0,none⟩) 1 1) [trN 20 tx []]from RowP.lit (n:=1) rfl (TrsC.cons (show TrC _ _ (trN 20 tx []) [.int .i64 20,.string ⟨tx.toArray⟩,.slice none 0 0,.int .i64 0,.int .i64 0,.bool false,.slice none 0 0,.slice none 0 0,.slice none 0 0]from(RowP.nil _ _).treeN) (.nil _ _)) F (by show 1≤maxLen;unfold maxLen;omega));have V:=zA (show((I).setCell ⟨C.g,1,none⟩ (.int .i64 (((s).k:Int)+1))).grownBy ((o).alloc (.cells #[.int .i64 20,.string ⟨tx.toArray⟩,.slice none 0 0,.int .i64 0,.int .i64 0,.bool false,.slice none 0 0,.slice none 0 0,.slice none 0 0] 58)) (some C.g)from zC (zAd b _) (zF _ _ _));clear b F;go_wp2_with fail;refine m.kA ((HK.out.more (q:=.body [trN 20 tx []]) ⟨E.out.hi,trivial⟩ E.out (yAF s.k)) _ _ _ _ rfl js V.out m.P.lt U.out) fun c5 J w8 a1 a2 a3 a4 a5 a6 a7 a8 a9 p=>?_;have:=p.sto 5;have:=p.c 0;have:=p.f 0;go_wp2_with fail;exact p.fin 0 5 rfl (HR.out.symm.trans (by
  unfold zD;dsimp only;rw[if_pos d.out,G.out];simp only[J.out]))
theorem zHE (E:Pre C.L (.assign) s) (K:KP C (zj C.L (.assign) s)) (h:Pa C s w) (F:(zI C.L s.k).kind≠1) (l:zAg C.L s=true):zp C s w (.assign):=by
 refine zBH E h fun z V d r W X Y hW hX G=>?_;have H:=zA K;clear K h E;go_enter func106,ntmps106;go_upto_region 1 with(fail);clear hW hX;have I:=zA F;clear F;have b:=zA l;clear l;obtain⟨⟨kd,tx,st,nk,nn,mg,ps,nl⟩,J⟩:=zU C.L (s).k;go_wp2_with fail;refine G.kT (zv G.P J.out) fun w1 As Am c1 c2 F1=>?_;have A:=F1.bt 1 80 rfl;have a9:=zNO;have M:=zA (show¬((zI C.L s.k).kind=1∧isT (zAp C.L s.k 1) [61,62]=true∧(zAp C.L s.k 1).nl=false)from fun h=>I.out h.1);have e1:((kd:Int)==1)=false:=by have:=I.out;rw[J.out]at this;have:kd≠1:=this;rw[yA];omega
 have:=A.c 2;go_wp2_with fail;refine A.kB (zEA A.P b.out) fun w3 e=>?_;have N:=zA (zF6 z.out (s:=s) d);have O:=zA e.P.cx.n;have Q:=zA (z.out.on d (zIT b.out));have B:=zA (show Eat C.L s (zE C.L .params s).2 from zd z.out (p:=.params) (s:=s) ⟨d,trivial⟩);go_wp2_with fail;refine(Calls.mono (show Calls prog 110 #[.pointer (some ⟨C.g,0,none⟩)] _ (LstQ C (zE C.L .params s) _)from H.out.rank (q:=.params) ⟨e.P.hi,trivial⟩ e.P (yAC _) (by simp[zt])) ?_);rintro b0 w0 ⟨Ar,n0,cp,rfl,m,R,S,o,t,u⟩;have v:=zA t;have y:=zA m;have T:=zA o;have U:=zA u;clear m R S o t u;go_wp2_with fail;refine e.kA ((H.out.more (q:=.body (zE C.L .params s).1.subs) ⟨v.out.hi,trivial⟩ v.out (B.out.more Q.out)) _ _ _ _ y.out (by have:=N.out;have:=O.out;have:=y.out;omega) U.out e.P.lt T.out) fun b1 D w4 a0 a1 a2 a3 a4 a5 a6 a7 a8 j=>?_;have:=j.sto 3;have:=j.c 0;have:=j.f 0;go_wp2_with fail;exact j.fin 0 3 rfl (Y.out.symm.trans (by
  unfold zD;dsimp only;rw[if_neg M.out,if_pos b.out];simp only[D.out]))
theorem zHF (S:Pre C.L (.assign) s) (K:KP C (zj C.L (.assign) s)) (h:Pa C s w) (T:(zI C.L s.k).kind=1∧isT (zAp C.L s.k 1) [61,62]=false) (t:zAg C.L s=true):zp C s w (.assign):=by
 refine zBH S h fun j a9 d r W X HR hW hX U=>?_;have V:=zA K;clear K h S;go_enter func106,ntmps106;go_upto_region 1 with(fail);clear hW hX;have l:=zA T;clear T;have b:=zA t;clear t;obtain⟨⟨kd,tx,st,nk,nn,mg,ps,nl⟩,Y⟩:=zU C.L (s).k;go_wp2_with fail;refine U.kT (zv U.P Y.out) fun w1 As Am c1 c2 F1=>?_;have m:=F1.bt 1 80 rfl;have b9:=zNO;have e1:((kd:Int)==1)=true:=by have:=l.out.1;rw[Y.out]at this;have:kd=1:=this;rw[beq_iff_eq];omega
 have a0:=zA (j.out.lt d (by rw[l.out.1];decide));have hn:=m.P.cx.n;have a1:=zA (show¬((zI C.L s.k).kind=1∧isT (zAp C.L s.k 1) [61,62]=true∧(zAp C.L s.k 1).nl=false)from fun h=>by rw[l.out.2]at h;cases h.2.1);obtain⟨⟨u,v,y,z,A,B,ps2,D⟩,E⟩:=zU C.L (zB s).k;have HA:=zA (show isT ⟨u,v,y,z,A,B,ps2,D⟩ [61,62]=false by rw[←E.out];exact l.out.2);have O:=zA (show zI C.L (min (s.k+1) (C.N - 1))=⟨u,v,y,z,A,B,ps2,D⟩ by rw[show min (s.k+1) (C.N - 1)=s.k+1 by have:=a0.out;omega];exact E.out);have:=m.c 2;go_wp2_with fail;refine m.kT (zBA m.P 1 1 rfl jd O.out) fun w3 c0 c3 c4 c5 F3=>?_;go_wp2_with fail;refine F3.kQ (zDM [61,62] HA.out) fun w4 F4=>?_;go_wp2_with fail;refine F4.kB (zEA F4.P b.out) fun w5 e=>?_;have a2:=zA (zF6 j.out (s:=s) d);have a3:=zA e.P.cx.n;have a4:=zA (j.out.on d (zIT b.out));have Q:=zA (show Eat C.L s (zE C.L .params s).2 from zd j.out (p:=.params) (s:=s) ⟨d,trivial⟩);go_wp2_with fail;refine(Calls.mono (show Calls prog 110 #[.pointer (some ⟨C.g,0,none⟩)] _ (LstQ C (zE C.L .params s) _)from V.out.rank (q:=.params) ⟨e.P.hi,trivial⟩ e.P (yAC _) (by simp[zt])) ?_);rintro c6 w0 ⟨Ar,n0,cp,rfl,F,a5,a6,G,H,I⟩;have J:=zA H;have M:=zA F;have a7:=zA G;have a8:=zA I;clear F a5 a6 G H I;go_wp2_with fail;refine e.kA ((V.out.more (q:=.body (zE C.L .params s).1.subs) ⟨J.out.hi,trivial⟩ J.out (Q.out.more a4.out)) _ _ _ _ M.out (by have:=a2.out;have:=a3.out;have:=M.out;omega) a8.out e.P.lt a7.out) fun c7 R w6 b0 b1 b2 b3 b4 b5 b6 b7 b8 o=>?_;have:=o.sto 4;have:=o.c 0;have:=o.f 0;go_wp2_with fail;exact o.fin 0 4 rfl (HR.out.symm.trans (by
  unfold zD;dsimp only;rw[if_neg a1.out,if_pos b.out];simp only[R.out]))
theorem zHG (T:Pre C.L (.assign) s) (K:KP C (zj C.L (.assign) s)) (h:Pa C s w) (U:(zI C.L s.k).kind=1∧isT (zAp C.L s.k 1) [61,62]=true∧(zAp C.L s.k 1).nl=true) (v:zAg C.L s=true):zp C s w (.assign):=by
 refine zBH T h fun o a9 d r W X HR hW hX V=>?_;have Y:=zA K;clear K h T;go_enter func106,ntmps106;go_upto_region 1 with(fail);clear hW hX;have e:=zA U;clear U;have b:=zA v;clear v;obtain⟨⟨kd,tx,st,nk,nn,mg,ps,nl⟩,HT⟩:=zU C.L (s).k;go_wp2_with fail;refine V.kT (zv V.P HT.out) fun w1 As Am c1 c2 F1=>?_;have t:=F1.bt 1 80 rfl;have b9:=zNO;have e1:((kd:Int)==1)=true:=by have:=e.out.1;rw[HT.out]at this;have:kd=1:=this;rw[beq_iff_eq];omega
 have a0:=zA (o.out.lt d (by rw[e.out.1];decide));have hn:=t.P.cx.n;have a1:=zA (show¬((zI C.L s.k).kind=1∧isT (zAp C.L s.k 1) [61,62]=true∧(zAp C.L s.k 1).nl=false)from fun h=>by rw[e.out.2.2]at h;cases h.2.2);obtain⟨⟨y,z,A,B,D,E,ps2,F⟩,j⟩:=zU C.L (zB s).k;have HA:=zA (show isT ⟨y,z,A,B,D,E,ps2,F⟩ [61,62]=true by rw[←j.out];exact e.out.2.1);have Q:F=true:=by have:=e.out.2.2;rwa[show zAp C.L s.k 1=zI C.L (zB s).k from rfl,j.out]at this
 subst Q;have l:=zA (show zI C.L (min (s.k+1) (C.N - 1))=⟨y,z,A,B,D,E,ps2,true⟩ by rw[show min (s.k+1) (C.N - 1)=s.k+1 by have:=a0.out;omega];exact j.out);have:=t.c 2;go_wp2_with fail;refine t.kT (zBA t.P 1 1 rfl jd l.out) fun w3 c0 c3 c4 c5 F3=>?_;go_wp2_with fail;refine F3.kQ (zDM [61,62] HA.out) fun w4 F4=>?_;go_wp2_with fail;refine F4.kT (zBA F4.P 1 1 rfl jd l.out) fun w5 c6 c7 c8 c9 F5=>?_;go_wp2_with fail;refine F5.kB (zEA F5.P b.out) fun w6 m=>?_;have a2:=zA (zF6 o.out (s:=s) d);have a3:=zA m.P.cx.n;have a4:=zA (o.out.on d (zIT b.out));have R:=zA (show Eat C.L s (zE C.L .params s).2 from zd o.out (p:=.params) (s:=s) ⟨d,trivial⟩);go_wp2_with fail;refine(Calls.mono (show Calls prog 110 #[.pointer (some ⟨C.g,0,none⟩)] _ (LstQ C (zE C.L .params s) _)from Y.out.rank (q:=.params) ⟨m.P.hi,trivial⟩ m.P (yAC _) (by simp[zt])) ?_);rintro d0 w0 ⟨Ar,n0,cp,rfl,G,a5,a6,H,I,J⟩;have M:=zA I;have O:=zA G;have a7:=zA H;have a8:=zA J;clear G a5 a6 H I J;go_wp2_with fail;refine m.kA ((Y.out.more (q:=.body (zE C.L .params s).1.subs) ⟨M.out.hi,trivial⟩ M.out (R.out.more a4.out)) _ _ _ _ O.out (by have:=a2.out;have:=a3.out;have:=O.out;omega) a8.out m.P.lt a7.out) fun d1 S w7 b0 b1 b2 b3 b4 b5 b6 b7 b8 u=>?_;have:=u.sto 5;have:=u.c 0;have:=u.f 0;go_wp2_with fail;exact u.fin 0 5 rfl (HR.out.symm.trans (by
  unfold zD;dsimp only;rw[if_neg a1.out,if_pos b.out];simp only[S.out]))
theorem zIU (hp:Pre C.L (.assign) s) (K:KP C (zj C.L (.assign) s)) (h:Pa C s w) (hc:(zI C.L s.k).kind≠1) (a9:zAg C.L s=false):zp C s w (.assign):=by
 refine zBH hp h fun HL c3 b5 r W X V hW hX F0=>?_;have HK:=zA K;clear K h hp;go_enter func106,ntmps106;go_upto_region 1 with(fail);clear hW hX;have HC:=zA hc;clear hc;have e:=zA a9;clear a9;obtain⟨⟨kd,tx,st,nk,nn,mg,ps,nl⟩,HT⟩:=zU C.L (s).k;go_wp2_with fail;refine F0.kT (zv F0.P HT.out) fun w1 As Am c1 c2 F1=>?_;have F2:=F1.bt 1 80 rfl;have d0:=zNO;have B:=zA (show¬((zI C.L s.k).kind=1∧isT (zAp C.L s.k 1) [61,62]=true∧(zAp C.L s.k 1).nl=false)from fun h=>HC.out h.1);have e1:((kd:Int)==1)=false:=by have:=HC.out;rw[HT.out]at this;have:kd≠1:=this;rw[yA];omega
 have:=F2.c 2;go_wp2_with fail;refine F2.kB (zEA F2.P e.out) fun w3 F3=>?_;have hx:=zA (zd HL.out (p:=.cond) (s:=s) ⟨b5,trivial⟩).adv;go_wp2_with fail;refine F3.kX (HK.out.rank (q:=.cond) ⟨F3.P.hi,trivial⟩ F3.P (yAC _) (by simp[zt])) fun b g w4 c4 G H I J M N O R F4=>?_;have:=F4.sto 3;have b0:=zA (show Adv C.L s (b.2) by have:=hx.out;rwa[g.out]at this);obtain rfl:=(F4.t 3).kind;have F5:=F4.box [.int .i64 (b.1).nd.kind,G,H,I,J,M,N,O,R] 58 rfl jd jd;obtain⟨⟨d,j,sto,d1,d2,d3,d4,d5⟩,l⟩:=zU C.L (b.2).k;go_wp2_with fail;refine F5.kT (zv F5.P l.out) fun w6 d6 d7 d8 d9 F6=>?_;have Y:=F6.bt 5 80 rfl;obtain⟨ck,D⟩:=jx (decide (d=5));obtain⟨co,b1⟩:=jx (decide (j∈zJ1));obtain⟨bt,b2⟩:=jx (zAR (b.1).nd.kind);have E:=zA b1;have S:=zA b2;clear b1 b2;cases ck with
 | false=>
  have o:d≠5:=by simpa using D
  have e5:((d:Int)==5)=false:=by rw[yA];omega
  have e6:((d:Int) !=5)=true:=by rw[bne,e5];rfl
  have u:=zA o;clear D o;have:=Y.c 6;go_upto_region 10 with(fail);refine zEg Y fun w8 T=>?_;have:=T.c 4;have:=T.sto 3;have:=T.c 0;have:=T.f 0;go_wp2_with fail;exact T.fin 0 3 rfl (V.out.symm.trans (by
   unfold zD;dsimp only;rw[if_neg B.out,if_neg (by rw[e.out];decide)]
   try dsimp only
   rw[g.out,l.out];rw[if_pos (.inl u.out)]))
 | true=>
  have o:d=5:=by simpa using D
  have e5:((d:Int)==5)=true:=by rw[beq_iff_eq];omega
  have e6:((d:Int) !=5)=false:=by rw[bne,e5];rfl
  have u:=zA o;clear D o;have:=Y.c 6;go_wp2_with fail;refine Y.kQ (zQb j E.out) fun e0 m=>?_;cases co with
  | true=>
   have:=m.c 4;go_wp2_with fail;refine(zBz _ _).mono ?_;rintro c5 c6 ⟨rfl,rfl⟩;rw[S.out];cases bt with
   | true=>
    have b6:=zA (HL.out.lt (s:=b.2) b0.out.hi (by rw[l.out];show d≠0;have:=u.out;omega));obtain⟨c7,c8,c9⟩:=m.k1;have b7:=m.step b6.out;go_upto_region 15 with(fail);refine zEg b7 fun e2 v=>?_;have b3:=zA (fun Q=>v.dr.kX (Q:=Q) (HK.out.more (q:=.assign) ⟨v.dr.P.hi,trivial⟩ v.dr.P (Nat.lt_succ_of_le b0.out.le)));have:=v.c 4;have:=v.c 6;go_upto_region 15 with(fail)
    go_cut [70] (fun _ wx=>∃(F:Tr×Ps) (BB:Nat),Hid (zE C.L (.assign) (zB (b.2))=F)∧Fr C (w.heap.size≤·) w [X] [.bx X 58 [.int .i64 49,.string ⟨(j).toArray⟩,.slice none 0 0,.int .i64 0,.int .i64 0,.bool false,.slice none 0 0,.slice none 0 0,.slice (some ⟨BB,0,none⟩) 2 2],.tr (trN 49 (j) [b.1,F.1]) [.int .i64 49,.string ⟨(j).toArray⟩,.slice none 0 0,.int .i64 0,.int .i64 0,.bool false,.slice none 0 0,.slice none 0 0,.slice (some ⟨BB,0,none⟩) 2 2]] F.2 wx)
    case first=>
     go_region_law (first | (go_simp;go_at_call 106;(with_reducible refine b3.out _ fun F b8 b9 a0 a1 a2 a3 a4 a5 a6 a7 a8 y=>?_);have:=y.c 4;have:=y.c 6;have:=(y.al (.cells #[.int .i64 (b.1).nd.kind,G,H,I,J,M,N,O,R,a0,a1,a2,a3,a4,a5,a6,a7,a8] 58)).c 6;have b4:=zA (fun Q=>y.litN 49 j (n:=2) (Q:=Q) (y.ts2 3 7) rfl js rfl)) | (go_simp;go_at_call 105;(with_reducible refine b4.out _ fun e3 U=>?_);have:=U.c 0;have:=U.f 0))
     all_goals
      go_wp2_with fail;go_meet;exact⟨F,b9.heap.size,b8,(U.put 0 8).pk1 [X] [0,8] js jd rfl js⟩
    case rest=>
     obtain⟨F,BB,c0,Fq⟩:=hcut;have:=Fq.c 0;go_wp2_with fail;have q:=Fq.c 0;exact Fq.ret 1 rfl (by simp[results,results106,go_sem,q]) rfl (V.out.symm.trans (by
      unfold zD;dsimp only;rw[if_neg B.out,if_neg (by rw[e.out];decide)]
      try dsimp only
      rw[g.out,l.out];rw[if_neg (fun h=>h.elim (fun h=>h u.out) (fun h=>h (by have:=E.out;simpa using this)))];rw[if_neg (by rw[S.out];decide),c0.out])) (fun _ h=>h)
   | false=>
    go_wp2_with fail;refine m.kN (zCr m.P 5 jd) fun e4 z=>?_;have:=z.c 4;have:=z.sto 3;have:=z.c 0;have:=z.f 0;go_wp2_with fail;exact z.fin 0 3 rfl (V.out.symm.trans (by
     unfold zD;dsimp only;rw[if_neg B.out,if_neg (by rw[e.out];decide)]
     try dsimp only
     rw[g.out,l.out];rw[if_neg (fun h=>h.elim (fun h=>h u.out) (fun h=>h (by have:=E.out;simpa using this)))];rw[if_pos S.out]))
  | false=>
   go_upto_region 10 with(fail);refine zEg m fun e7 A=>?_;have:=A.c 4;have:=A.sto 3;have:=A.c 0;have:=A.f 0;go_wp2_with fail;exact A.fin 0 3 rfl (V.out.symm.trans (by
    unfold zD;dsimp only;rw[if_neg B.out,if_neg (by rw[e.out];decide)]
    try dsimp only
    rw[g.out,l.out];rw[if_pos (.inr (by have:=E.out;simpa using this))]))
theorem zIV (hp:Pre C.L (.assign) s) (K:KP C (zj C.L (.assign) s)) (h:Pa C s w) (hc:(zI C.L s.k).kind=1∧isT (zAp C.L s.k 1) [61,62]=false) (a9:zAg C.L s=false):zp C s w (.assign):=by
 refine zBH hp h fun HL d3 b0 r W X Y hW hX F0=>?_;have HK:=zA K;clear K h hp;go_enter func106,ntmps106;go_upto_region 1 with(fail);clear hW hX;have HC:=zA hc;clear hc;have e:=zA a9;clear a9;obtain⟨⟨kd,tx,st,nk,nn,mg,ps,nl⟩,HT⟩:=zU C.L (s).k;go_wp2_with fail;refine F0.kT (zv F0.P HT.out) fun w1 As Am c1 c2 F1=>?_;have F2:=F1.bt 1 80 rfl;have e0:=zNO;have e1:((kd:Int)==1)=true:=by have:=HC.out.1;rw[HT.out]at this;have:kd=1:=this;rw[beq_iff_eq];omega
 have c7:=zA (HL.out.lt b0 (by rw[HC.out.1];decide));have hn:=F2.P.cx.n;have D:=zA (show¬((zI C.L s.k).kind=1∧isT (zAp C.L s.k 1) [61,62]=true∧(zAp C.L s.k 1).nl=false)from fun h=>by rw[HC.out.2]at h;cases h.2.1);obtain⟨⟨b1,b2,b3,b4,b5,b6,ps2,b7⟩,b8⟩:=zU C.L (zB s).k;have HA:=zA (show isT ⟨b1,b2,b3,b4,b5,b6,ps2,b7⟩ [61,62]=false by rw[←b8.out];exact HC.out.2);have c4:=zA (show zI C.L (min (s.k+1) (C.N - 1))=⟨b1,b2,b3,b4,b5,b6,ps2,b7⟩ by rw[show min (s.k+1) (C.N - 1)=s.k+1 by have:=c7.out;omega];exact b8.out);have:=F2.c 2;go_wp2_with fail;refine F2.kT (zBA F2.P 1 1 rfl jd c4.out) fun w3 e2 e3 e4 e7 F3=>?_;go_wp2_with fail;refine F3.kQ (zDM [61,62] HA.out) fun w4 F4=>?_;go_wp2_with fail;refine F4.kB (zEA F4.P e.out) fun w5 F5=>?_;have hx:=zA (zd HL.out (p:=.cond) (s:=s) ⟨b0,trivial⟩).adv;go_wp2_with fail;refine F5.kX (HK.out.rank (q:=.cond) ⟨F5.P.hi,trivial⟩ F5.P (yAC _) (by simp[zt])) fun b g w6 d4 H I J M O R S T F6=>?_;have:=F6.sto 4;have b9:=zA (show Adv C.L s (b.2) by have:=hx.out;rwa[g.out]at this);obtain rfl:=(F6.t 4).kind;have F7:=F6.box [.int .i64 (b.1).nd.kind,H,I,J,M,O,R,S,T] 58 rfl jd jd;obtain⟨⟨d,j,sto,e8,e9,f0,f1,f2⟩,l⟩:=zU C.L (b.2).k;go_wp2_with fail;refine F7.kT (zv F7.P l.out) fun w8 f3 f4 f5 f6 F8=>?_;have F9:=F8.bt 6 80 rfl;obtain⟨ck,E⟩:=jx (decide (d=5));obtain⟨co,c0⟩:=jx (decide (j∈zJ1));obtain⟨bt,c3⟩:=jx (zAR (b.1).nd.kind);have F:=zA c0;have U:=zA c3;clear c0 c3;cases ck with
 | false=>
  have o:d≠5:=by simpa using E
  have e5:((d:Int)==5)=false:=by rw[yA];omega
  have e6:((d:Int) !=5)=true:=by rw[bne,e5];rfl
  have u:=zA o;clear E o;have:=F9.c 7;go_upto_region 10 with(fail);refine zEg F9 fun f7 v=>?_;have:=v.c 5;have:=v.sto 4;have:=v.c 0;have:=v.f 0;go_wp2_with fail;exact v.fin 0 4 rfl (Y.out.symm.trans (by
   unfold zD;dsimp only;rw[if_neg D.out,if_neg (by rw[e.out];decide)]
   try dsimp only
   rw[g.out,l.out];rw[if_pos (.inl u.out)]))
 | true=>
  have o:d=5:=by simpa using E
  have e5:((d:Int)==5)=true:=by rw[beq_iff_eq];omega
  have e6:((d:Int) !=5)=false:=by rw[bne,e5];rfl
  have u:=zA o;clear E o;have:=F9.c 7;go_wp2_with fail;refine F9.kQ (zQb j F.out) fun f8 m=>?_;cases co with
  | true=>
   have:=m.c 5;go_wp2_with fail;refine(zBz _ _).mono ?_;rintro d5 d6 ⟨rfl,rfl⟩;rw[U.out];cases bt with
   | true=>
    have c8:=zA (HL.out.lt (s:=b.2) b9.out.hi (by rw[l.out];show d≠0;have:=u.out;omega));obtain⟨d7,d8,d9⟩:=m.k1;have c9:=m.step c8.out;go_upto_region 15 with(fail);refine zEg c9 fun f9 y=>?_;have c5:=zA (fun Q=>y.dr.kX (Q:=Q) (HK.out.more (q:=.assign) ⟨y.dr.P.hi,trivial⟩ y.dr.P (Nat.lt_succ_of_le b9.out.le)));have:=y.c 5;have:=y.c 7;go_upto_region 15 with(fail)
    go_cut [70] (fun _ wx=>∃(G:Tr×Ps) (BB:Nat),Hid (zE C.L (.assign) (zB (b.2))=G)∧Fr C (w.heap.size≤·) w [X] [.bx X 58 [.int .i64 49,.string ⟨(j).toArray⟩,.slice none 0 0,.int .i64 0,.int .i64 0,.bool false,.slice none 0 0,.slice none 0 0,.slice (some ⟨BB,0,none⟩) 2 2],.tr (trN 49 (j) [b.1,G.1]) [.int .i64 49,.string ⟨(j).toArray⟩,.slice none 0 0,.int .i64 0,.int .i64 0,.bool false,.slice none 0 0,.slice none 0 0,.slice (some ⟨BB,0,none⟩) 2 2]] G.2 wx)
    case first=>
     go_region_law (first | (go_simp;go_at_call 106;(with_reducible refine c5.out _ fun G d0 d1 a0 a1 a2 a3 a4 a5 a6 a7 a8 z=>?_);have:=z.c 5;have:=z.c 7;have:=(z.al (.cells #[.int .i64 (b.1).nd.kind,H,I,J,M,O,R,S,T,a0,a1,a2,a3,a4,a5,a6,a7,a8] 58)).c 7;have c6:=zA (fun Q=>z.litN 49 j (n:=2) (Q:=Q) (z.ts2 4 8) rfl js rfl)) | (go_simp;go_at_call 105;(with_reducible refine c6.out _ fun g0 V=>?_);have:=V.c 0;have:=V.f 0))
     all_goals
      go_wp2_with fail;go_meet;exact⟨G,d1.heap.size,d0,(V.put 0 9).pk1 [X] [0,9] js jd rfl js⟩
    case rest=>
     obtain⟨G,BB,d2,Fq⟩:=hcut;have:=Fq.c 0;go_wp2_with fail;have q:=Fq.c 0;exact Fq.ret 1 rfl (by simp[results,results106,go_sem,q]) rfl (Y.out.symm.trans (by
      unfold zD;dsimp only;rw[if_neg D.out,if_neg (by rw[e.out];decide)]
      try dsimp only
      rw[g.out,l.out];rw[if_neg (fun h=>h.elim (fun h=>h u.out) (fun h=>h (by have:=F.out;simpa using this)))];rw[if_neg (by rw[U.out];decide),d2.out])) (fun _ h=>h)
   | false=>
    go_wp2_with fail;refine m.kN (zCr m.P 5 jd) fun g1 A=>?_;have:=A.c 5;have:=A.sto 4;have:=A.c 0;have:=A.f 0;go_wp2_with fail;exact A.fin 0 4 rfl (Y.out.symm.trans (by
     unfold zD;dsimp only;rw[if_neg D.out,if_neg (by rw[e.out];decide)]
     try dsimp only
     rw[g.out,l.out];rw[if_neg (fun h=>h.elim (fun h=>h u.out) (fun h=>h (by have:=F.out;simpa using this)))];rw[if_pos U.out]))
  | false=>
   go_upto_region 10 with(fail);refine zEg m fun g2 B=>?_;have:=B.c 5;have:=B.sto 4;have:=B.c 0;have:=B.f 0;go_wp2_with fail;exact B.fin 0 4 rfl (Y.out.symm.trans (by
    unfold zD;dsimp only;rw[if_neg D.out,if_neg (by rw[e.out];decide)]
    try dsimp only
    rw[g.out,l.out];rw[if_pos (.inr (by have:=F.out;simpa using this))]))
theorem zIW (hp:Pre C.L (.assign) s) (K:KP C (zj C.L (.assign) s)) (h:Pa C s w) (hc:(zI C.L s.k).kind=1∧isT (zAp C.L s.k 1) [61,62]=true∧(zAp C.L s.k 1).nl=true) (b2:zAg C.L s=false):zp C s w (.assign):=by
 refine zBH hp h fun HL d5 b3 r W X HR hW hX F0=>?_;have HK:=zA K;clear K h hp;go_enter func106,ntmps106;go_upto_region 1 with(fail);clear hW hX;have I:=zA hc;clear hc;have e:=zA b2;clear b2;obtain⟨⟨kd,tx,st,nk,nn,mg,ps,nl⟩,HT⟩:=zU C.L (s).k;go_wp2_with fail;refine F0.kT (zv F0.P HT.out) fun w1 As Am c1 c2 F1=>?_;have F2:=F1.bt 1 80 rfl;have e3:=zNO;have e1:((kd:Int)==1)=true:=by have:=I.out.1;rw[HT.out]at this;have:kd=1:=this;rw[beq_iff_eq];omega
 have c9:=zA (HL.out.lt b3 (by rw[I.out.1];decide));have hn:=F2.P.cx.n;have D:=zA (show¬((zI C.L s.k).kind=1∧isT (zAp C.L s.k 1) [61,62]=true∧(zAp C.L s.k 1).nl=false)from fun h=>by rw[I.out.2.2]at h;cases h.2.2);obtain⟨⟨b4,b5,b6,b7,b8,b9,ps2,c0⟩,J⟩:=zU C.L (zB s).k;have HA:=zA (show isT ⟨b4,b5,b6,b7,b8,b9,ps2,c0⟩ [61,62]=true by rw[←J.out];exact I.out.2.1);have c6:c0=true:=by have:=I.out.2.2;rwa[show zAp C.L s.k 1=zI C.L (zB s).k from rfl,J.out]at this
 subst c6;have M:=zA (show zI C.L (min (s.k+1) (C.N - 1))=⟨b4,b5,b6,b7,b8,b9,ps2,true⟩ by rw[show min (s.k+1) (C.N - 1)=s.k+1 by have:=c9.out;omega];exact J.out);have:=F2.c 2;go_wp2_with fail;refine F2.kT (zBA F2.P 1 1 rfl jd M.out) fun w3 e4 e7 e8 e9 F3=>?_;go_wp2_with fail;refine F3.kQ (zDM [61,62] HA.out) fun w4 F4=>?_;go_wp2_with fail;refine F4.kT (zBA F4.P 1 1 rfl jd M.out) fun w5 f0 f1 f2 f3 F5=>?_;go_wp2_with fail;refine F5.kB (zEA F5.P e.out) fun w6 F6=>?_;have hx:=zA (zd HL.out (p:=.cond) (s:=s) ⟨b3,trivial⟩).adv;go_wp2_with fail;refine F6.kX (HK.out.rank (q:=.cond) ⟨F6.P.hi,trivial⟩ F6.P (yAC _) (by simp[zt])) fun b g w7 d6 O R S T U V Y a0 F7=>?_;have:=F7.sto 5;have c3:=zA (show Adv C.L s (b.2) by have:=hx.out;rwa[g.out]at this);obtain rfl:=(F7.t 5).kind;have F8:=F7.box [.int .i64 (b.1).nd.kind,O,R,S,T,U,V,Y,a0] 58 rfl jd jd;obtain⟨⟨d,j,sto,f4,f5,f6,f7,f8⟩,l⟩:=zU C.L (b.2).k;go_wp2_with fail;refine F8.kT (zv F8.P l.out) fun w9 f9 g0 g1 g2 F9=>?_;have E:=F9.bt 7 80 rfl;obtain⟨ck,F⟩:=jx (decide (d=5));obtain⟨co,c4⟩:=jx (decide (j∈zJ1));obtain⟨bt,c5⟩:=jx (zAR (b.1).nd.kind);have G:=zA c4;have a1:=zA c5;clear c4 c5;cases ck with
 | false=>
  have o:d≠5:=by simpa using F
  have e5:((d:Int)==5)=false:=by rw[yA];omega
  have e6:((d:Int) !=5)=true:=by rw[bne,e5];rfl
  have u:=zA o;clear F o;have:=E.c 8;go_upto_region 10 with(fail);refine zEg E fun g3 v=>?_;have:=v.c 6;have:=v.sto 5;have:=v.c 0;have:=v.f 0;go_wp2_with fail;exact v.fin 0 5 rfl (HR.out.symm.trans (by
   unfold zD;dsimp only;rw[if_neg D.out,if_neg (by rw[e.out];decide)]
   try dsimp only
   rw[g.out,l.out];rw[if_pos (.inl u.out)]))
 | true=>
  have o:d=5:=by simpa using F
  have e5:((d:Int)==5)=true:=by rw[beq_iff_eq];omega
  have e6:((d:Int) !=5)=false:=by rw[bne,e5];rfl
  have u:=zA o;clear F o;have:=E.c 8;go_wp2_with fail;refine E.kQ (zQb j G.out) fun g4 m=>?_;cases co with
  | true=>
   have:=m.c 6;go_wp2_with fail;refine(zBz _ _).mono ?_;rintro d7 d8 ⟨rfl,rfl⟩;rw[a1.out];cases bt with
   | true=>
    have d0:=zA (HL.out.lt (s:=b.2) c3.out.hi (by rw[l.out];show d≠0;have:=u.out;omega));obtain⟨d9,e0,e2⟩:=m.k1;have d1:=m.step d0.out;go_upto_region 15 with(fail);refine zEg d1 fun g5 y=>?_;have c7:=zA (fun Q=>y.dr.kX (Q:=Q) (HK.out.more (q:=.assign) ⟨y.dr.P.hi,trivial⟩ y.dr.P (Nat.lt_succ_of_le c3.out.le)));have:=y.c 6;have:=y.c 8;go_upto_region 15 with(fail)
    go_cut [70] (fun _ wx=>∃(H:Tr×Ps) (BB:Nat),Hid (zE C.L (.assign) (zB (b.2))=H)∧Fr C (w.heap.size≤·) w [X] [.bx X 58 [.int .i64 49,.string ⟨(j).toArray⟩,.slice none 0 0,.int .i64 0,.int .i64 0,.bool false,.slice none 0 0,.slice none 0 0,.slice (some ⟨BB,0,none⟩) 2 2],.tr (trN 49 (j) [b.1,H.1]) [.int .i64 49,.string ⟨(j).toArray⟩,.slice none 0 0,.int .i64 0,.int .i64 0,.bool false,.slice none 0 0,.slice none 0 0,.slice (some ⟨BB,0,none⟩) 2 2]] H.2 wx)
    case first=>
     go_region_law (first | (go_simp;go_at_call 106;(with_reducible refine c7.out _ fun H d2 d3 a3 a4 a5 a6 a7 a8 a9 b0 b1 z=>?_);have:=z.c 6;have:=z.c 8;have:=(z.al (.cells #[.int .i64 (b.1).nd.kind,O,R,S,T,U,V,Y,a0,a3,a4,a5,a6,a7,a8,a9,b0,b1] 58)).c 8;have c8:=zA (fun Q=>z.litN 49 j (n:=2) (Q:=Q) (z.ts2 5 9) rfl js rfl)) | (go_simp;go_at_call 105;(with_reducible refine c8.out _ fun g6 a2=>?_);have:=a2.c 0;have:=a2.f 0))
     all_goals
      go_wp2_with fail;go_meet;exact⟨H,d3.heap.size,d2,(a2.put 0 10).pk1 [X] [0,10] js jd rfl js⟩
    case rest=>
     obtain⟨H,BB,d4,Fq⟩:=hcut;have:=Fq.c 0;go_wp2_with fail;have q:=Fq.c 0;exact Fq.ret 1 rfl (by simp[results,results106,go_sem,q]) rfl (HR.out.symm.trans (by
      unfold zD;dsimp only;rw[if_neg D.out,if_neg (by rw[e.out];decide)]
      try dsimp only
      rw[g.out,l.out];rw[if_neg (fun h=>h.elim (fun h=>h u.out) (fun h=>h (by have:=G.out;simpa using this)))];rw[if_neg (by rw[a1.out];decide),d4.out])) (fun _ h=>h)
   | false=>
    go_wp2_with fail;refine m.kN (zCr m.P 5 jd) fun g7 A=>?_;have:=A.c 6;have:=A.sto 5;have:=A.c 0;have:=A.f 0;go_wp2_with fail;exact A.fin 0 5 rfl (HR.out.symm.trans (by
     unfold zD;dsimp only;rw[if_neg D.out,if_neg (by rw[e.out];decide)]
     try dsimp only
     rw[g.out,l.out];rw[if_neg (fun h=>h.elim (fun h=>h u.out) (fun h=>h (by have:=G.out;simpa using this)))];rw[if_pos a1.out]))
  | false=>
   go_upto_region 10 with(fail);refine zEg m fun g8 B=>?_;have:=B.c 6;have:=B.sto 5;have:=B.c 0;have:=B.f 0;go_wp2_with fail;exact B.fin 0 5 rfl (HR.out.symm.trans (by
    unfold zD;dsimp only;rw[if_neg D.out,if_neg (by rw[e.out];decide)]
    try dsimp only
    rw[g.out,l.out];rw[if_pos (.inr (by have:=G.out;simpa using this))]))
theorem zNb (b:Pre C.L .assign s) (K:KP C (zj C.L .assign s)) (h:Pa C s w):zp C s w .assign:=by
 by_cases h1:(zI C.L s.k).kind=1
 · cases h2:isT (zAp C.L s.k 1) [61,62]with
   | true=>
    cases h3:(zAp C.L s.k 1).nl with
    | false=>exact zKm b K h ⟨h1,h2,h3⟩
    | true=>
     cases h4:zAg C.L s with
     | true=>exact zHG b K h ⟨h1,h2,h3⟩ h4
     | false=>exact zIW b K h ⟨h1,h2,h3⟩ h4
   | false=>
    cases h4:zAg C.L s with
    | true=>exact zHF b K h ⟨h1,h2⟩ h4
    | false=>exact zIV b K h ⟨h1,h2⟩ h4
 · cases h4:zAg C.L s with
   | true=>exact zHE b K h h1 h4
   | false=>exact zIU b K h h1 h4
theorem zJr (l:Pre C.L (.primary) s) (_K:KP C (zj C.L (.primary) s)) (h:Pa C s w) (m:(zI C.L s.k).kind≠0∧(zI C.L s.k).kind≠2∧(zI C.L s.k).kind≠3∧(zI C.L s.k).kind≠4∧(zI C.L s.k).kind≠1) (o:(zI C.L s.k).text=[116,114,117,101]):zp C s w (.primary):=by
 refine zBH l h fun z A p r W X B D E q=>?_;clear h l;go_enter func175,ntmps175;go_upto_region 1 with(fail);clear D E;have b:=zA m;have t:=zA o;clear m o;have u:=zA (z.out.lt p b.out.1);obtain⟨⟨kd,tx,J,nk,nn,M,ps,nl⟩,e⟩:=zU C.L (s).k;go_wp2_with fail;refine q.kT (zv q.P e.out) fun w1 As Am c1 c2 F=>?_;have g:=F.bt 1 80 rfl;have v:kd≠0∧kd≠2∧kd≠3∧kd≠4∧kd≠1:=by have:=b.out;rwa[e.out]at this
 have d:tx=[116,114,117,101]:=by have:=t.out;rwa[e.out]at this
 have e0:((kd:Int)==0)=false:=by rw[yA];omega
 have e1:((kd:Int)==1)=false:=by rw[yA];omega
 have e2:((kd:Int)==2)=false:=by rw[yA];omega
 have e3:((kd:Int)==3)=false:=by rw[yA];omega
 have e4:((kd:Int)==4)=false:=by rw[yA];omega
 have N:(tx==[116,114,117,101])=true:=by rw[d];decide
 clear v d;have:=g.c 2;obtain⟨G,H,I⟩:=g.k1;have y:=g.step u.out;have:=y.c 2;go_wp2_with fail;refine y.made0 _ fun O j=>?_;have:=j.c 0;have:=j.f 0;go_wp2_with fail;exact j.fin 0 3 rfl (B.out.symm.trans (by
  unfold zD;dsimp only;rw[if_neg b.out.1,if_neg b.out.2.1,if_neg b.out.2.2.1,if_neg b.out.2.2.2.1,if_neg b.out.2.2.2.2,if_pos t.out]))
theorem zIX (m:Pre C.L (.primary) s) (_K:KP C (zj C.L (.primary) s)) (h:Pa C s w) (o:(zI C.L s.k).kind≠0∧(zI C.L s.k).kind≠2∧(zI C.L s.k).kind≠3∧(zI C.L s.k).kind≠4∧(zI C.L s.k).kind≠1) (p:(zI C.L s.k).text=[102,97,108,115,101]):zp C s w (.primary):=by
 refine zBH m h fun z A q r W X B D E t=>?_;clear h m;go_enter func175,ntmps175;go_upto_region 1 with(fail);clear D E;have b:=zA o;have e:=zA p;clear o p;have u:=zA (z.out.lt q b.out.1);obtain⟨⟨kd,tx,J,nk,nn,M,ps,nl⟩,g⟩:=zU C.L (s).k;go_wp2_with fail;refine t.kT (zv t.P g.out) fun w1 As Am c1 c2 F=>?_;have j:=F.bt 1 80 rfl;have v:kd≠0∧kd≠2∧kd≠3∧kd≠4∧kd≠1:=by have:=b.out;rwa[g.out]at this
 have d:tx=[102,97,108,115,101]:=by have:=e.out;rwa[g.out]at this
 have e0:((kd:Int)==0)=false:=by rw[yA];omega
 have e1:((kd:Int)==1)=false:=by rw[yA];omega
 have e2:((kd:Int)==2)=false:=by rw[yA];omega
 have e3:((kd:Int)==3)=false:=by rw[yA];omega
 have e4:((kd:Int)==4)=false:=by rw[yA];omega
 have N:(tx==[116,114,117,101])=false:=by rw[d];decide
 have O:(tx==[102,97,108,115,101])=true:=by rw[d];decide
 clear v d;have:=j.c 2;obtain⟨G,H,I⟩:=j.k1;have y:=j.step u.out;have:=y.c 2;go_wp2_with fail;refine y.made0 _ fun Q l=>?_;have:=l.c 0;have:=l.f 0;go_wp2_with fail;exact l.fin 0 3 rfl (B.out.symm.trans (by
  unfold zD;dsimp only;rw[if_neg b.out.1,if_neg b.out.2.1,if_neg b.out.2.2.1,if_neg b.out.2.2.2.1,if_neg b.out.2.2.2.2,if_neg (by rw[e.out];decide),if_pos e.out]))
theorem zJs (m:Pre C.L (.primary) s) (_K:KP C (zj C.L (.primary) s)) (h:Pa C s w) (o:(zI C.L s.k).kind≠0∧(zI C.L s.k).kind≠2∧(zI C.L s.k).kind≠3∧(zI C.L s.k).kind≠4∧(zI C.L s.k).kind≠1) (p:(zI C.L s.k).text=[110,117,108,108]):zp C s w (.primary):=by
 refine zBH m h fun z A q r W X B D E t=>?_;clear h m;go_enter func175,ntmps175;go_upto_region 1 with(fail);clear D E;have b:=zA o;have e:=zA p;clear o p;have u:=zA (z.out.lt q b.out.1);obtain⟨⟨kd,tx,J,nk,nn,M,ps,nl⟩,g⟩:=zU C.L (s).k;go_wp2_with fail;refine t.kT (zv t.P g.out) fun w1 As Am c1 c2 F=>?_;have j:=F.bt 1 80 rfl;have v:kd≠0∧kd≠2∧kd≠3∧kd≠4∧kd≠1:=by have:=b.out;rwa[g.out]at this
 have d:tx=[110,117,108,108]:=by have:=e.out;rwa[g.out]at this
 have e0:((kd:Int)==0)=false:=by rw[yA];omega
 have e1:((kd:Int)==1)=false:=by rw[yA];omega
 have e2:((kd:Int)==2)=false:=by rw[yA];omega
 have e3:((kd:Int)==3)=false:=by rw[yA];omega
 have e4:((kd:Int)==4)=false:=by rw[yA];omega
 have N:(tx==[116,114,117,101])=false:=by rw[d];decide
 have O:(tx==[102,97,108,115,101])=false:=by rw[d];decide
 have Q:(tx==[110,117,108,108])=true:=by rw[d];decide
 clear v d;have:=j.c 2;obtain⟨G,H,I⟩:=j.k1;have y:=j.step u.out;have:=y.c 2;go_wp2_with fail;refine y.made0 _ fun R l=>?_;have:=l.c 0;have:=l.f 0;go_wp2_with fail;exact l.fin 0 3 rfl (B.out.symm.trans (by
  unfold zD;dsimp only;rw[if_neg b.out.1,if_neg b.out.2.1,if_neg b.out.2.2.1,if_neg b.out.2.2.2.1,if_neg b.out.2.2.2.2,if_neg (by rw[e.out];decide),if_neg (by rw[e.out];decide),if_pos e.out]))
theorem zJt (m:Pre C.L (.primary) s) (_K:KP C (zj C.L (.primary) s)) (h:Pa C s w) (o:(zI C.L s.k).kind≠0∧(zI C.L s.k).kind≠2∧(zI C.L s.k).kind≠3∧(zI C.L s.k).kind≠4∧(zI C.L s.k).kind≠1) (p:(zI C.L s.k).text=[116,104,105,115]):zp C s w (.primary):=by
 refine zBH m h fun z A q r W X B D E t=>?_;clear h m;go_enter func175,ntmps175;go_upto_region 1 with(fail);clear D E;have d:=zA o;have e:=zA p;clear o p;have u:=zA (z.out.lt q d.out.1);obtain⟨⟨kd,tx,J,nk,nn,M,ps,nl⟩,g⟩:=zU C.L (s).k;go_wp2_with fail;refine t.kT (zv t.P g.out) fun w1 As Am c1 c2 F=>?_;have j:=F.bt 1 80 rfl;have v:kd≠0∧kd≠2∧kd≠3∧kd≠4∧kd≠1:=by have:=d.out;rwa[g.out]at this
 have b:tx=[116,104,105,115]:=by have:=e.out;rwa[g.out]at this
 have e0:((kd:Int)==0)=false:=by rw[yA];omega
 have e1:((kd:Int)==1)=false:=by rw[yA];omega
 have e2:((kd:Int)==2)=false:=by rw[yA];omega
 have e3:((kd:Int)==3)=false:=by rw[yA];omega
 have e4:((kd:Int)==4)=false:=by rw[yA];omega
 have N:(tx==[116,114,117,101])=false:=by rw[b];decide
 have O:(tx==[102,97,108,115,101])=false:=by rw[b];decide
 have Q:(tx==[110,117,108,108])=false:=by rw[b];decide
 have R:(tx==[116,104,105,115])=true:=by rw[b];decide
 clear v b;have:=j.c 2;obtain⟨G,H,I⟩:=j.k1;have y:=j.step u.out;have:=y.c 2;go_wp2_with fail;refine y.made0 _ fun S l=>?_;have:=l.c 0;have:=l.f 0;go_wp2_with fail;exact l.fin 0 3 rfl (B.out.symm.trans (by
  unfold zD;dsimp only;rw[if_neg d.out.1,if_neg d.out.2.1,if_neg d.out.2.2.1,if_neg d.out.2.2.2.1,if_neg d.out.2.2.2.2,if_neg (by rw[e.out];decide),if_neg (by rw[e.out];decide),if_neg (by rw[e.out];decide),if_pos e.out]))
theorem zHH (p:Pre C.L (.primary) s) (K:KP C (zj C.L (.primary) s)) (h:Pa C s w) (t:(zI C.L s.k).kind≠0∧(zI C.L s.k).kind≠2∧(zI C.L s.k).kind≠3∧(zI C.L s.k).kind≠4∧(zI C.L s.k).kind≠1) (u:(zI C.L s.k).text=[123]):zp C s w (.primary):=by
 refine zBH p h fun B D v r W X E F G y=>?_;have H:=zA K;clear K h p;go_enter func175,ntmps175;go_upto_region 1 with(fail);clear F G;have d:=zA t;have e:=zA u;clear t u;have z:=zA (B.out.lt v d.out.1);obtain⟨⟨kd,tx,st,nk,nn,mg,ps,nl⟩,l⟩:=zU C.L (s).k;go_wp2_with fail;refine y.kT (zv y.P l.out) fun w1 As Am c1 c2 I=>?_;have m:=I.bt 1 80 rfl;have A:kd≠0∧kd≠2∧kd≠3∧kd≠4∧kd≠1:=by have:=d.out;rwa[l.out]at this
 have b:tx=[123]:=by have:=e.out;rwa[l.out]at this
 have e0:((kd:Int)==0)=false:=by rw[yA];omega
 have e1:((kd:Int)==1)=false:=by rw[yA];omega
 have e2:((kd:Int)==2)=false:=by rw[yA];omega
 have e3:((kd:Int)==3)=false:=by rw[yA];omega
 have e4:((kd:Int)==4)=false:=by rw[yA];omega
 have n0:(tx==[116,114,117,101])=false:=by rw[b];decide
 have n1:(tx==[102,97,108,115,101])=false:=by rw[b];decide
 have n2:(tx==[110,117,108,108])=false:=by rw[b];decide
 have n3:(tx==[116,104,105,115])=false:=by rw[b];decide
 have n4:(tx==[91])=false:=by rw[b];decide
 have n5:(tx==[123])=true:=by rw[b];decide
 clear A b;have:=m.c 2;obtain⟨V,Y,a0⟩:=m.k1;have g:=m.step z.out;have:=g.c 2;go_wp2_with fail;refine g.kX (H.out.more (q:=.object) ⟨g.P.hi,trivial⟩ g.P (yAF s.k)) fun a1 o w4 J M N O Q R S T U j=>?_;have:=j.sto 3;have:=j.c 0;have:=j.f 0;go_wp2_with fail;exact j.fin 0 3 rfl (E.out.symm.trans (by
  unfold zD;dsimp only;rw[if_neg d.out.1,if_neg d.out.2.1,if_neg d.out.2.2.1,if_neg d.out.2.2.2.1,if_neg d.out.2.2.2.2,if_neg (by rw[e.out];decide),if_neg (by rw[e.out];decide),if_neg (by rw[e.out];decide),if_neg (by rw[e.out];decide),if_neg (by rw[e.out];decide),if_pos e.out];simp only[o.out]))
theorem zIY (p:Pre C.L (.primary) s) (K:KP C (zj C.L (.primary) s)) (h:Pa C s w) (t:(zI C.L s.k).kind≠0∧(zI C.L s.k).kind≠2∧(zI C.L s.k).kind≠3∧(zI C.L s.k).kind≠4∧(zI C.L s.k).kind≠1) (u:(zI C.L s.k).text=[40]):zp C s w (.primary):=by
 refine zBH p h fun E F v r W X G H I y=>?_;have J:=zA K;clear K h p;go_enter func175,ntmps175;go_upto_region 1 with(fail);clear H I;have e:=zA t;have d:=zA u;clear t u;have z:=zA (E.out.lt v e.out.1);obtain⟨⟨kd,tx,st,nk,nn,mg,ps,nl⟩,l⟩:=zU C.L (s).k;go_wp2_with fail;refine y.kT (zv y.P l.out) fun w1 As Am c1 c2 M=>?_;have m:=M.bt 1 80 rfl;have A:kd≠0∧kd≠2∧kd≠3∧kd≠4∧kd≠1:=by have:=e.out;rwa[l.out]at this
 have b:tx=[40]:=by have:=d.out;rwa[l.out]at this
 have e0:((kd:Int)==0)=false:=by rw[yA];omega
 have e1:((kd:Int)==1)=false:=by rw[yA];omega
 have e2:((kd:Int)==2)=false:=by rw[yA];omega
 have e3:((kd:Int)==3)=false:=by rw[yA];omega
 have e4:((kd:Int)==4)=false:=by rw[yA];omega
 have n0:(tx==[116,114,117,101])=false:=by rw[b];decide
 have n1:(tx==[102,97,108,115,101])=false:=by rw[b];decide
 have n2:(tx==[110,117,108,108])=false:=by rw[b];decide
 have n3:(tx==[116,104,105,115])=false:=by rw[b];decide
 have n4:(tx==[91])=false:=by rw[b];decide
 have n5:(tx==[123])=false:=by rw[b];decide
 have n6:(tx==[102,117,110,99,116,105,111,110])=false:=by rw[b];decide
 have n7:(tx==[40])=true:=by rw[b];decide
 clear A b;have:=m.c 2;obtain⟨a0,a1,a2⟩:=m.k1;have g:=m.step z.out;have:=g.c 2;go_wp2_with fail;refine g.kX (J.out.more (q:=.assign) ⟨g.P.hi,trivial⟩ g.P (yAF s.k)) fun a3 o w4 N O Q R S T U V Y B=>?_;have:=B.sto 3;have D:=B.bt 3 58 rfl;go_wp2_with fail;refine D.kN (zAK D.P [41]) fun w6 j=>?_;have:=j.c 4;have:=j.c 0;have:=j.f 0;go_wp2_with fail;exact j.fin 0 3 rfl (G.out.symm.trans (by
  unfold zD;dsimp only;rw[if_neg e.out.1,if_neg e.out.2.1,if_neg e.out.2.2.1,if_neg e.out.2.2.2.1,if_neg e.out.2.2.2.2,if_neg (by rw[d.out];decide),if_neg (by rw[d.out];decide),if_neg (by rw[d.out];decide),if_neg (by rw[d.out];decide),if_neg (by rw[d.out];decide),if_neg (by rw[d.out];decide),if_neg (by rw[d.out];decide),if_pos d.out];simp only[o.out]))
theorem zJu (o:Pre C.L (.primary) s) (K:KP C (zj C.L (.primary) s)) (h:Pa C s w) (p:(zI C.L s.k).kind≠0∧(zI C.L s.k).kind≠2∧(zI C.L s.k).kind≠3∧(zI C.L s.k).kind≠4∧(zI C.L s.k).kind≠1) (t:(zI C.L s.k).text=[91]):zp C s w (.primary):=by
 refine zBH o h fun A B u r W X D E F v=>?_;have G:=zA K;clear K h o;go_enter func175,ntmps175;go_upto_region 1 with(fail);clear E F;have d:=zA p;have e:=zA t;clear p t;have y:=zA (A.out.lt u d.out.1);obtain⟨⟨kd,tx,T,nk,nn,U,ps,nl⟩,j⟩:=zU C.L (s).k;go_wp2_with fail;refine v.kT (zv v.P j.out) fun w1 As Am c1 c2 H=>?_;have l:=H.bt 1 80 rfl;have z:kd≠0∧kd≠2∧kd≠3∧kd≠4∧kd≠1:=by have:=d.out;rwa[j.out]at this
 have b:tx=[91]:=by have:=e.out;rwa[j.out]at this
 have e0:((kd:Int)==0)=false:=by rw[yA];omega
 have e1:((kd:Int)==1)=false:=by rw[yA];omega
 have e2:((kd:Int)==2)=false:=by rw[yA];omega
 have e3:((kd:Int)==3)=false:=by rw[yA];omega
 have e4:((kd:Int)==4)=false:=by rw[yA];omega
 have I:(tx==[116,114,117,101])=false:=by rw[b];decide
 have V:(tx==[102,97,108,115,101])=false:=by rw[b];decide
 have Y:(tx==[110,117,108,108])=false:=by rw[b];decide
 have n3:(tx==[116,104,105,115])=false:=by rw[b];decide
 have n4:(tx==[91])=true:=by rw[b];decide
 clear z b;have:=l.c 2;obtain⟨N,O,Q⟩:=l.k1;have g:=l.step y.out;have:=g.c 2;go_wp2_with fail;refine g.kL (G.out.more (q:=.list [93]) ⟨g.P.hi,trivial⟩ g.P (yAF s.k)) fun w4 Ar I cp R _ S J=>?_;go_wp2_with fail;refine J.kQ (zAv _ _ _ _) fun w5 M=>?_;have m:=M.rowK 3 rfl 38;have:=m.c 0;have:=m.f 0;go_wp2_with fail;exact m.fin 0 4 rfl (D.out.symm.trans (by
  unfold zD;dsimp only;rw[if_neg d.out.1,if_neg d.out.2.1,if_neg d.out.2.2.1,if_neg d.out.2.2.2.1,if_neg d.out.2.2.2.2,if_neg (by rw[e.out];decide),if_neg (by rw[e.out];decide),if_neg (by rw[e.out];decide),if_neg (by rw[e.out];decide),if_pos e.out]))
theorem zJv (l:Pre C.L (.primary) s) (_K:KP C (zj C.L (.primary) s)) (h:Pa C s w) (m:(zI C.L s.k).kind=1):zp C s w (.primary):=by
 refine zBH l h fun u v o r W X y z A p=>?_;clear h l;go_enter func175,ntmps175;go_upto_region 1 with(fail);clear z A;have d:=zA m;clear m;have q:=zA (u.out.lt o (by rw[d.out];decide));obtain⟨⟨kd,tx,G,nk,nn,H,ps,nl⟩,e⟩:=zU C.L (s).k;go_wp2_with fail;refine p.kT (zv p.P e.out) fun w1 As Am c1 c2 B=>?_;have g:=B.bt 1 80 rfl;have b:kd=1:=by have:=d.out;rwa[e.out]at this
 have e0:((kd:Int)==0)=false:=by rw[b];decide
 have e1:((kd:Int)==1)=true:=by rw[b];decide
 have e2:((kd:Int)==2)=false:=by rw[b];decide
 have e3:((kd:Int)==3)=false:=by rw[b];decide
 have e4:((kd:Int)==4)=false:=by rw[b];decide
 clear b;have:=g.c 2;obtain⟨D,E,F⟩:=g.k1;have t:=g.step q.out;have:=t.c 2;go_wp2_with fail;refine t.named0 _ tx fun I j=>?_;have:=j.c 0;have:=j.f 0;go_wp2_with fail;exact j.fin 0 3 rfl (y.out.symm.trans (by
  unfold zD;dsimp only;rw[if_neg (by rw[d.out];decide),if_neg (by rw[d.out];decide),if_neg (by rw[d.out];decide),if_neg (by rw[d.out];decide),if_pos d.out,e.out]))
theorem zDS (y:Pre C.L (.primary) s) (K:KP C (zj C.L (.primary) s)) (h:Pa C s w) (z:(zI C.L s.k).kind≠0∧(zI C.L s.k).kind≠2∧(zI C.L s.k).kind≠3∧(zI C.L s.k).kind≠4∧(zI C.L s.k).kind≠1) (A:(zI C.L s.k).text=[102,117,110,99,116,105,111,110]) (B:(zI C.L (zB s).k).kind=1):zp C s w (.primary):=by
 refine zBH y h fun D M E r W X N O Q F=>?_;have R:=zA K;clear K h y;go_enter func175,ntmps175;go_upto_region 1 with(fail);clear O Q;have e:=zA z;have d:=zA A;clear z A;have j:=zA (D.out.lt E e.out.1);obtain⟨⟨kd,tx,st,nk,nn,mg,ps,nl⟩,o⟩:=zU C.L (s).k;go_wp2_with fail;refine F.kT (zv F.P o.out) fun w1 As Am c1 c2 S=>?_;have p:=S.bt 1 80 rfl;have G:kd≠0∧kd≠2∧kd≠3∧kd≠4∧kd≠1:=by have:=e.out;rwa[o.out]at this
 have b:tx=[102,117,110,99,116,105,111,110]:=by have:=d.out;rwa[o.out]at this
 have e0:((kd:Int)==0)=false:=by rw[yA];omega
 have e1:((kd:Int)==1)=false:=by rw[yA];omega
 have e2:((kd:Int)==2)=false:=by rw[yA];omega
 have e3:((kd:Int)==3)=false:=by rw[yA];omega
 have e4:((kd:Int)==4)=false:=by rw[yA];omega
 have n0:(tx==[116,114,117,101])=false:=by rw[b];decide
 have n1:(tx==[102,97,108,115,101])=false:=by rw[b];decide
 have n2:(tx==[110,117,108,108])=false:=by rw[b];decide
 have n3:(tx==[116,104,105,115])=false:=by rw[b];decide
 have n4:(tx==[91])=false:=by rw[b];decide
 have n5:(tx==[123])=false:=by rw[b];decide
 have n6:(tx==[102,117,110,99,116,105,111,110])=true:=by rw[b];decide
 clear G b;have:=p.c 2;obtain⟨a5,a6,a7⟩:=p.k1;have t:=p.step j.out;have:=t.c 2;have H:=zA B;clear B;have a8:=zXb;obtain⟨⟨l,a9,b0,b1,b2,b3,ps2,b4⟩,m⟩:=zU C.L (zB (s)).k;have I:l=1:=by have:=H.out;rwa[m.out]at this
 have f1:((l:Int)==1)=true:=by rw[beq_iff_eq];omega
 clear I;go_wp2_with fail;refine t.kT (zv t.P m.out) fun w4 b5 b6 b7 b8 J=>?_;go_wp2_with fail;refine J.kS (zD9 J.P) fun w5 u=>?_;go_wp2_with fail;refine u.kX (R.out.more (q:=.func 41 (zo C.L (zB s)).1) ⟨u.P.hi,trivial⟩ u.P (yAA (yAF s.k) (zA8 (s:=zB s) D.out j.out).adv.le)) fun b9 v w6 T U V Y a0 a1 a2 a3 a4 g=>?_;have:=g.sto 4;have:=g.c 0;have:=g.f 0;go_wp2_with fail;exact g.fin 0 4 rfl (N.out.symm.trans (by
  unfold zD;dsimp only;rw[if_neg e.out.1,if_neg e.out.2.1,if_neg e.out.2.2.1,if_neg e.out.2.2.2.1,if_neg e.out.2.2.2.2,if_neg (by rw[d.out];decide),if_neg (by rw[d.out];decide),if_neg (by rw[d.out];decide),if_neg (by rw[d.out];decide),if_neg (by rw[d.out];decide),if_neg (by rw[d.out];decide),if_pos d.out,if_pos H.out];simp only[v.out]))
theorem zDt (v:Pre C.L (.primary) s) (K:KP C (zj C.L (.primary) s)) (h:Pa C s w) (y:(zI C.L s.k).kind≠0∧(zI C.L s.k).kind≠2∧(zI C.L s.k).kind≠3∧(zI C.L s.k).kind≠4∧(zI C.L s.k).kind≠1) (z:(zI C.L s.k).text=[102,117,110,99,116,105,111,110]) (A:(zI C.L (zB s).k).kind≠1):zp C s w (.primary):=by
 refine zBH v h fun I J B r W X M N O D=>?_;have Q:=zA K;clear K h v;go_enter func175,ntmps175;go_upto_region 1 with(fail);clear N O;have e:=zA y;have d:=zA z;clear y z;have E:=zA (I.out.lt B e.out.1);obtain⟨⟨kd,tx,st,nk,nn,mg,ps,nl⟩,m⟩:=zU C.L (s).k;go_wp2_with fail;refine D.kT (zv D.P m.out) fun w1 As Am c1 c2 R=>?_;have o:=R.bt 1 80 rfl;have F:kd≠0∧kd≠2∧kd≠3∧kd≠4∧kd≠1:=by have:=e.out;rwa[m.out]at this
 have b:tx=[102,117,110,99,116,105,111,110]:=by have:=d.out;rwa[m.out]at this
 have e0:((kd:Int)==0)=false:=by rw[yA];omega
 have e1:((kd:Int)==1)=false:=by rw[yA];omega
 have e2:((kd:Int)==2)=false:=by rw[yA];omega
 have e3:((kd:Int)==3)=false:=by rw[yA];omega
 have e4:((kd:Int)==4)=false:=by rw[yA];omega
 have n0:(tx==[116,114,117,101])=false:=by rw[b];decide
 have n1:(tx==[102,97,108,115,101])=false:=by rw[b];decide
 have n2:(tx==[110,117,108,108])=false:=by rw[b];decide
 have n3:(tx==[116,104,105,115])=false:=by rw[b];decide
 have n4:(tx==[91])=false:=by rw[b];decide
 have n5:(tx==[123])=false:=by rw[b];decide
 have n6:(tx==[102,117,110,99,116,105,111,110])=true:=by rw[b];decide
 clear F b;have:=o.c 2;obtain⟨a4,a5,a6⟩:=o.k1;have p:=o.step E.out;have:=p.c 2;have G:=zA A;clear A;have a7:=zXb;obtain⟨⟨j,a8,a9,b0,b1,b2,ps2,b3⟩,l⟩:=zU C.L (zB (s)).k;have H:j≠1:=by have:=G.out;rwa[l.out]at this
 have f1:((j:Int)==1)=false:=by rw[yA];omega
 clear H;go_wp2_with fail;refine p.kT (zv p.P l.out) fun w4 b4 b5 b6 b7 t=>?_;go_wp2_with fail;refine t.kX (Q.out.more (q:=.func 41 []) ⟨t.P.hi,trivial⟩ t.P (yAF s.k)) fun b8 u w5 S T U V Y a0 a1 a2 a3 g=>?_;have:=g.sto 4;have:=g.c 0;have:=g.f 0;go_wp2_with fail;exact g.fin 0 4 rfl (M.out.symm.trans (by
  unfold zD;dsimp only;rw[if_neg e.out.1,if_neg e.out.2.1,if_neg e.out.2.2.1,if_neg e.out.2.2.2.1,if_neg e.out.2.2.2.2,if_neg (by rw[d.out];decide),if_neg (by rw[d.out];decide),if_neg (by rw[d.out];decide),if_neg (by rw[d.out];decide),if_neg (by rw[d.out];decide),if_neg (by rw[d.out];decide),if_pos d.out,if_neg G.out];simp only[u.out]))
theorem zKn (e:Pre C.L (.primary) s) (_K:KP C (zj C.L (.primary) s)) (h:Pa C s w) (g:(zI C.L s.k).kind=0):zp C s w (.primary):=by
 refine zBH e h fun z o y r W X p q t j=>?_;clear h e;go_enter func175,ntmps175;go_upto_region 1 with(fail);clear q t;have l:=zA g;clear g;obtain⟨⟨kd,tx,A,nk,nn,B,ps,nl⟩,m⟩:=zU C.L (s).k;go_wp2_with fail;refine j.kT (zv j.P m.out) fun w1 As Am c1 c2 u=>?_;have b:=u.bt 1 80 rfl;have e0:((kd:Int)==0)=true:=by have:=l.out;rw[m.out]at this;have:kd=0:=this;rw[this];decide
 have:=b.c 2;go_wp2_with fail;refine b.kN (zAN b.P) fun w3 v=>?_;have d:=v.leafK 0;have:=d.c 0;have:=d.f 0;go_wp2_with fail;exact d.fin 0 3 rfl (p.out.symm.trans (by
  unfold zD;dsimp only;rw[if_pos l.out]))
theorem zIZ (m:Pre C.L (.primary) s) (_K:KP C (zj C.L (.primary) s)) (h:Pa C s w) (o:(zI C.L s.k).kind≠0∧(zI C.L s.k).kind≠2∧(zI C.L s.k).kind≠3∧(zI C.L s.k).kind≠4∧(zI C.L s.k).kind≠1) (x0:(zI C.L s.k).text≠[116,114,117,101]) (x1:(zI C.L s.k).text≠[102,97,108,115,101]) (p:(zI C.L s.k).text≠[110,117,108,108]) (q:(zI C.L s.k).text≠[116,104,105,115]) (t:(zI C.L s.k).text≠[91]) (u:(zI C.L s.k).text≠[123]) (v:(zI C.L s.k).text≠[102,117,110,99,116,105,111,110]) (x7:(zI C.L s.k).text≠[40]) (v1:onP C.L [47] s=true):zp C s w (.primary):=by
 refine zBH m h fun Q R e r W X S T U y=>?_;clear h m;go_enter func175,ntmps175;go_upto_region 1 with(fail);clear T U;have d:=zA o;have g:=zA v1;have z:=zA x0;have A:=zA x1;have B:=zA p;have D:=zA q;have E:=zA t;have F:=zA u;have G:=zA v;have H:=zA x7;clear o v1 x0 x1 p q t u v x7;have I:=zA (Q.out.lt e d.out.1);obtain⟨⟨kd,tx,st,nk,nn,mg,ps,nl⟩,b⟩:=zU C.L (s).k;go_wp2_with fail;refine y.kT (zv y.P b.out) fun w1 As Am c1 c2 V=>?_;have j:=V.bt 1 80 rfl;have J:kd≠0∧kd≠2∧kd≠3∧kd≠4∧kd≠1:=by have:=d.out;rwa[b.out]at this
 have e0:((kd:Int)==0)=false:=by rw[yA];omega
 have e1:((kd:Int)==1)=false:=by rw[yA];omega
 have e2:((kd:Int)==2)=false:=by rw[yA];omega
 have e3:((kd:Int)==3)=false:=by rw[yA];omega
 have e4:((kd:Int)==4)=false:=by rw[yA];omega
 have n0:(tx==[116,114,117,101])=false:=by have:=z.out;rw[b.out]at this;exact yA.mpr this
 have n1:(tx==[102,97,108,115,101])=false:=by have:=A.out;rw[b.out]at this;exact yA.mpr this
 have n2:(tx==[110,117,108,108])=false:=by have:=B.out;rw[b.out]at this;exact yA.mpr this
 have n3:(tx==[116,104,105,115])=false:=by have:=D.out;rw[b.out]at this;exact yA.mpr this
 have n4:(tx==[91])=false:=by have:=E.out;rw[b.out]at this;exact yA.mpr this
 have n5:(tx==[123])=false:=by have:=F.out;rw[b.out]at this;exact yA.mpr this
 have n6:(tx==[102,117,110,99,116,105,111,110])=false:=by have:=G.out;rw[b.out]at this;exact yA.mpr this
 have n7:(tx==[40])=false:=by have:=H.out;rw[b.out]at this;exact yA.mpr this
 clear J;have:=j.c 2;obtain⟨a0,a1,a2⟩:=j.k1;have M:=j.step I.out;have:=M.c 2;have N:=M.back e;go_wp2_with fail;refine N.kB (zAl N.P [47] g.out) fun w5 O=>?_;go_wp2_with fail;refine O.kN (zCr O.P 6 jd) fun w6 Y=>?_;have l:=Y.leafK 0;have:=l.c 0;have:=l.f 0;go_wp2_with fail;exact l.fin 0 3 rfl (S.out.symm.trans (by
  unfold zD;dsimp only;rw[if_neg d.out.1,if_neg d.out.2.1,if_neg d.out.2.2.1,if_neg d.out.2.2.2.1,if_neg d.out.2.2.2.2,if_neg z.out,if_neg A.out,if_neg B.out,if_neg D.out,if_neg E.out,if_neg F.out,if_neg G.out,if_neg H.out];simp[g.out]))
theorem zHI (o:Pre C.L (.primary) s) (_K:KP C (zj C.L (.primary) s)) (h:Pa C s w) (p:(zI C.L s.k).kind≠0∧(zI C.L s.k).kind≠2∧(zI C.L s.k).kind≠3∧(zI C.L s.k).kind≠4∧(zI C.L s.k).kind≠1) (x0:(zI C.L s.k).text≠[116,114,117,101]) (x1:(zI C.L s.k).text≠[102,97,108,115,101]) (q:(zI C.L s.k).text≠[110,117,108,108]) (t:(zI C.L s.k).text≠[116,104,105,115]) (u:(zI C.L s.k).text≠[91]) (v:(zI C.L s.k).text≠[123]) (y:(zI C.L s.k).text≠[102,117,110,99,116,105,111,110]) (x7:(zI C.L s.k).text≠[40]) (v1:onP C.L [47] s=false) (v2:onP C.L [47,61] s=true):zp C s w (.primary):=by
 refine zBH o h fun S T e r W X U V Y z=>?_;clear h o;go_enter func175,ntmps175;go_upto_region 1 with(fail);clear V Y;have d:=zA p;have g:=zA v1;have j:=zA v2;have A:=zA x0;have B:=zA x1;have D:=zA q;have E:=zA t;have F:=zA u;have G:=zA v;have H:=zA y;have I:=zA x7;clear p v1 v2 x0 x1 q t u v y x7;have J:=zA (S.out.lt e d.out.1);obtain⟨⟨kd,tx,st,nk,nn,mg,ps,nl⟩,b⟩:=zU C.L (s).k;go_wp2_with fail;refine z.kT (zv z.P b.out) fun w1 As Am c1 c2 F1=>?_;have l:=F1.bt 1 80 rfl;have M:kd≠0∧kd≠2∧kd≠3∧kd≠4∧kd≠1:=by have:=d.out;rwa[b.out]at this
 have e0:((kd:Int)==0)=false:=by rw[yA];omega
 have e1:((kd:Int)==1)=false:=by rw[yA];omega
 have e2:((kd:Int)==2)=false:=by rw[yA];omega
 have e3:((kd:Int)==3)=false:=by rw[yA];omega
 have e4:((kd:Int)==4)=false:=by rw[yA];omega
 have n0:(tx==[116,114,117,101])=false:=by have:=A.out;rw[b.out]at this;exact yA.mpr this
 have n1:(tx==[102,97,108,115,101])=false:=by have:=B.out;rw[b.out]at this;exact yA.mpr this
 have n2:(tx==[110,117,108,108])=false:=by have:=D.out;rw[b.out]at this;exact yA.mpr this
 have n3:(tx==[116,104,105,115])=false:=by have:=E.out;rw[b.out]at this;exact yA.mpr this
 have n4:(tx==[91])=false:=by have:=F.out;rw[b.out]at this;exact yA.mpr this
 have n5:(tx==[123])=false:=by have:=G.out;rw[b.out]at this;exact yA.mpr this
 have n6:(tx==[102,117,110,99,116,105,111,110])=false:=by have:=H.out;rw[b.out]at this;exact yA.mpr this
 have n7:(tx==[40])=false:=by have:=I.out;rw[b.out]at this;exact yA.mpr this
 clear M;have:=l.c 2;obtain⟨a0,a1,a2⟩:=l.k1;have N:=l.step J.out;have:=N.c 2;have O:=N.back e;go_wp2_with fail;refine O.kB (zAl O.P [47] g.out) fun w5 Q=>?_;go_wp2_with fail;refine Q.kB (zAl Q.P [47,61] j.out) fun w6 R=>?_;go_wp2_with fail;refine R.kN (zCr R.P 6 jd) fun w7 F7=>?_;have m:=F7.leafK 0;have:=m.c 0;have:=m.f 0;go_wp2_with fail;exact m.fin 0 3 rfl (U.out.symm.trans (by
  unfold zD;dsimp only;rw[if_neg d.out.1,if_neg d.out.2.1,if_neg d.out.2.2.1,if_neg d.out.2.2.2.1,if_neg d.out.2.2.2.2,if_neg A.out,if_neg B.out,if_neg D.out,if_neg E.out,if_neg F.out,if_neg G.out,if_neg H.out,if_neg I.out];simp[g.out,j.out]))
theorem zIa (o:Pre C.L (.primary) s) (_K:KP C (zj C.L (.primary) s)) (h:Pa C s w) (p:(zI C.L s.k).kind≠0∧(zI C.L s.k).kind≠2∧(zI C.L s.k).kind≠3∧(zI C.L s.k).kind≠4∧(zI C.L s.k).kind≠1) (x0:(zI C.L s.k).text≠[116,114,117,101]) (x1:(zI C.L s.k).text≠[102,97,108,115,101]) (q:(zI C.L s.k).text≠[110,117,108,108]) (t:(zI C.L s.k).text≠[116,104,105,115]) (u:(zI C.L s.k).text≠[91]) (v:(zI C.L s.k).text≠[123]) (y:(zI C.L s.k).text≠[102,117,110,99,116,105,111,110]) (x7:(zI C.L s.k).text≠[40]) (v1:onP C.L [47] s=false) (v2:onP C.L [47,61] s=false):zp C s w (.primary):=by
 refine zBH o h fun S T e r W X U V Y z=>?_;clear h o;go_enter func175,ntmps175;go_upto_region 1 with(fail);clear V Y;have d:=zA p;have g:=zA v1;have j:=zA v2;have A:=zA x0;have B:=zA x1;have D:=zA q;have E:=zA t;have F:=zA u;have G:=zA v;have H:=zA y;have I:=zA x7;clear p v1 v2 x0 x1 q t u v y x7;have J:=zA (S.out.lt e d.out.1);obtain⟨⟨kd,tx,st,nk,nn,mg,ps,nl⟩,b⟩:=zU C.L (s).k;go_wp2_with fail;refine z.kT (zv z.P b.out) fun w1 As Am c1 c2 F1=>?_;have l:=F1.bt 1 80 rfl;have M:kd≠0∧kd≠2∧kd≠3∧kd≠4∧kd≠1:=by have:=d.out;rwa[b.out]at this
 have e0:((kd:Int)==0)=false:=by rw[yA];omega
 have e1:((kd:Int)==1)=false:=by rw[yA];omega
 have e2:((kd:Int)==2)=false:=by rw[yA];omega
 have e3:((kd:Int)==3)=false:=by rw[yA];omega
 have e4:((kd:Int)==4)=false:=by rw[yA];omega
 have n0:(tx==[116,114,117,101])=false:=by have:=A.out;rw[b.out]at this;exact yA.mpr this
 have n1:(tx==[102,97,108,115,101])=false:=by have:=B.out;rw[b.out]at this;exact yA.mpr this
 have n2:(tx==[110,117,108,108])=false:=by have:=D.out;rw[b.out]at this;exact yA.mpr this
 have n3:(tx==[116,104,105,115])=false:=by have:=E.out;rw[b.out]at this;exact yA.mpr this
 have n4:(tx==[91])=false:=by have:=F.out;rw[b.out]at this;exact yA.mpr this
 have n5:(tx==[123])=false:=by have:=G.out;rw[b.out]at this;exact yA.mpr this
 have n6:(tx==[102,117,110,99,116,105,111,110])=false:=by have:=H.out;rw[b.out]at this;exact yA.mpr this
 have n7:(tx==[40])=false:=by have:=I.out;rw[b.out]at this;exact yA.mpr this
 clear M;have:=l.c 2;obtain⟨a0,a1,a2⟩:=l.k1;have N:=l.step J.out;have:=N.c 2;have O:=N.back e;go_wp2_with fail;refine O.kB (zAl O.P [47] g.out) fun w5 Q=>?_;go_wp2_with fail;refine Q.kB (zAl Q.P [47,61] j.out) fun w6 R=>?_;go_wp2_with fail;refine R.kN (zAN R.P) fun w7 F7=>?_;have m:=F7.leafK 0;have:=m.c 0;have:=m.f 0;go_wp2_with fail;exact m.fin 0 3 rfl (U.out.symm.trans (by
  unfold zD;dsimp only;rw[if_neg d.out.1,if_neg d.out.2.1,if_neg d.out.2.2.1,if_neg d.out.2.2.2.1,if_neg d.out.2.2.2.2,if_neg A.out,if_neg B.out,if_neg D.out,if_neg E.out,if_neg F.out,if_neg G.out,if_neg H.out,if_neg I.out];simp[g.out,j.out]))
end Go.Proofs.YtlnbbaehihgigaaGreatDoor
