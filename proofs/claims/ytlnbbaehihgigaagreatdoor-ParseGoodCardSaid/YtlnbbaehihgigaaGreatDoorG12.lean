/- Joined for the claim ParseGood: the parser, the lexer and the trees as they are walked, made short by a program of mine. -/
import Derived.Deep.LoopGhost
import Derived.Test.YtlnbbaehihgigaaGreatDoorG11
import Derived.Test.YtlnbbaehihgigaaGreatDoorG02
import Derived.Deep.RegionLaw
import Derived.Test.YtlnbbaehihgigaaGreatDoorG10
import Derived.Deep.CutBlock
import Derived.Deep.DeepCutAuto
import Derived.Test.YtlnbbaehihgigaaGreatDoorG01
set_option maxHeartbeats 16000000
set_option maxRecDepth 1000000
namespace Go.Proofs.YtlnbbaehihgigaaGreatDoor
open Go.Proofs.Tryz
open Go.RowKit
variable {w:World} {s:Ps} {C:Pc} {L:List Tok} {l:List Tr} {v:List UInt8} {k:Int} {i f:Nat}
theorem LstQ.mk {r:Tr×Ps} {w':World} {A:Option Addr} {n c:Nat} {t:Ps} (e:r=(trK 0 l,t)) (h:RowP w' (w.heap.size≤·) (.slice A n c) l) (b:Pa C t w') (hg:w.grownBy w' (some C.g)):LstQ C r w (.returned (.slice A n c)) w':=by
 subst e;obtain⟨h1,d,f⟩:=h.bounds;exact⟨A,n,c,rfl,h1,d,f,h,b,hg⟩
theorem zUQ (hp:Pre C.L (.list v) s) (K:KP C (zk C.L (.list v) s)) (h:Pa C s w):zo C s w (.list v):=by
 show Calls prog 176 #[C,v] w (LstQ C (zE C.L (.list v) s) w);have E:=zA h.cx.lst;have c6:C.N≤4097:=h.cx.n4;have b6:=zA h.cx.n;have c7:=h.lt;have HK:=zA K;have c8:=hp.1;have P:=zA hp;have HP:=zA h;obtain⟨r,hr⟩:=jx (zE C.L (.list v) s);rw[hr];have HR:=zA hr;clear hr h K hp
 by_cases c:onP C.L v s=true
 · have HO:=zA c;clear c;go_enter func176,ntmps176;go_wp2_with fail;refine(zA9 HP v HO).mono ?_;rintro ev w1 ⟨rfl,u,y⟩;have F:=zA (show Pa C (zB s) w1 from u);have G:=zA y;clear u y;go_wp2_with fail;go_ret;refine LstQ.mk (l:=[]) (HR.out.symm.trans (by
    rw[zV E.out P.out];unfold zD;dsimp only;rw[if_pos HO.out])) (RowP.nil _ _) F G
 · have HO:=zA (show onP C.L v s=false by simpa using c);have a6:=zA (show zE C.L (.listL v []) s=r from by
    refine Eq.trans ?_ HR;rw[zV E.out (p:=.list v) P.out];unfold zD;dsimp only;rw[if_neg c])
   clear c;go_enter func176,ntmps176;go_wp2_with fail;refine(zA9 HP v HO).mono ?_;rintro ev w1 ⟨rfl,u,y⟩;have F:=zA (show Pa C s w1 from u);have G:=zA y;clear u y;go_wp2_with fail
   go_loopg [5] (C.L.length - s.k) (fun gk v5 wr=>∃(j:List Tr) (s':Ps) (A:Option Addr) (n cp:Nat),v5=.slice A n cp∧C.L.length - s'.k≤gk∧s.k≤s'.k∧n≤s'.k∧Hid (zE C.L (.listL v j) s'=r)∧Hid (Pa C s' wr)∧Hid (RowP wr (w.heap.size≤·) (.slice A n cp) j)∧Hid (w.grownBy wr (some C.g)))
   case atStart=>exact⟨[],s,none,0,0,rfl,yAC _,yAC _,yAE _,a6,F,RowP.nil _ _,G⟩
   case round=>
    clear F G a6;obtain⟨j,s',A,n,cp,rfl,c9,b4,d9,R,d,S,a7⟩:=hrel;go_wp2_with fail;refine(Calls.mono (show Calls prog 106 #[C] wr (zDk C (zE C.L .assign s') wr)from HK.out.rank (q:=.assign) ⟨d.out.hi,trivial⟩ d b4 (by simp[zr])) ?_);rintro e0 w2 ⟨d0,d1,d2,d3,d4,d5,d6,d7,d8,rfl,a8,a9,H⟩;have e1:=a7.out.size;have T:=zA a9;have U:=zA a8;have V:=zA (S.out.keep H (.box d.out.box jd jd jo));have b0:=zA (zC a7 H);have b7:=zA (S.out.lt);have e2:=H.size;have f:=zA (zf E (p:=.assign) (s:=s') ⟨d.out.hi,trivial⟩);have b5:=f.out.adv.le;have W:=f.out.adv.hi;have e3:=b6.out;clear a8 a9 H;obtain⟨e,he⟩:=jx (zE C.L .assign s');rw[he]at T U f b5 W;have HE:=zA he;clear he;have HN:=zA S.out.bounds.1;go_wp2_with (at_builtin;refine zEx (Px:=fun b=>w.heap.size≤b) (Q:=fun b=>wr.heap.size≤b) rfl _ _ rfl rfl HN.out V.out U.out (fun b (hb:wr.heap.size≤b) _=>(by omega:w.heap.size≤b)) (fun b hb h2=>(by have:=b7.out b hb;omega)) (by show w.heap.size≤w2.heap.size+1;omega) jo rfl ?_;intro A3 b8 w3 X Y);have b1:=zA X;have a0:=V.out.new (zF w2 (.cells #[d0,d1,d2,d3,d4,d5,d6,d7,d8] 58) none);have b2:=zA ((T.out.alloc (.cells #[d0,d1,d2,d3,d4,d5,d6,d7,d8] 58)).row a0 (fun b (hb:w.heap.size≤b)=>(by omega:C.g < b)) Y);have a1:=zA (zH9 (zC b0 (zF _ _ _)) a0 (fun b hb=>hb) Y);have e4:=a1.out.size;clear X Y a0 V T b0 U
    by_cases hb:e.2.bad=0
    · have a2:=zA (show(e.2.bad==0)=true by rw[hb];rfl);have I:=zA hb;have e5:=f.out.lt d.out.hi (by rw[hb];simp);clear hb;refine(zBm b2 a2).mono ?_;rintro b9 w4 ⟨rfl,z,m⟩;have t:=zA z;have J:=zA (b1.out.new m);have M:=zA (zC a1 (zAd m _));clear z m
      by_cases c:onP C.L v e.2=true
      · have B:=zA c;clear c;go_wp2_with fail;refine(zA9 t v B).mono ?_;rintro c0 w5 ⟨rfl,D,o⟩;have O:=zA (show Pa C (zB e.2) w5 from D);have a3:=zA (J.out.keep o (.box t.out.box jd jd jo));have a4:=zA (zC M o);clear D o;go_wp2_with fail;go_ret;refine LstQ.mk (l:=j++[e.1]) (R.out.symm.trans (by
         rw[zV E.out ⟨d.out.hi,trivial⟩];unfold zD;dsimp only;rw[HE.out,if_neg (by rw[I.out];simp),if_pos B.out])) a3 O a4
      · have B:=zA (show onP C.L v e.2=false by simpa using c);clear c;go_wp2_with fail;refine(zA9 t v B).mono ?_;rintro c0 w5 ⟨rfl,D,o⟩;have O:=zA (show Pa C e.2 w5 from D);have a3:=zA (J.out.keep o (.box t.out.box jd jd jo));have a4:=zA (zC M o);clear D o;go_wp2_with fail;refine(zAK O [44]).mono ?_;rintro e6 w6 ⟨rfl,b3,a5⟩;have c1:=zA b3;have c2:=zA (a3.out.keep a5 (.box O.out.box jd jd jo));have c3:=zA (zC a4 a5);clear b3 a5;have c4:=zA (show zE C.L (.listL v (j++[e.1])) (zL C.L [44] e.2)=r from Eq.trans (Eq.symm (by
         rw[zV E.out (p:=.listL v j) (s:=s') ⟨d.out.hi,trivial⟩];unfold zD;dsimp only;rw[HE.out,if_neg (by rw[I.out];simp),if_neg (by rw[B.out];decide)])) R)
        have c5:=zA (zR (w:=[44]) E (s:=e.2) W).adv;have e7:=c5.out.le;go_wp2_with fail
        go_roundg (C.L.length - (zL C.L [44] e.2).k)
        case measure=>omega
        case rel=>exact⟨_,_,A3,n+1,b8,rfl,yAC _,by omega,by omega,c4,c1,c2,c3⟩
    · have a2:=zA (show(e.2.bad==0)=false by rw[yA];exact hb);have I:=zA hb;clear hb;refine(zBm b2 a2).mono ?_;rintro b9 w4 ⟨rfl,z,m⟩;have t:=zA z;have J:=zA (b1.out.new m);have M:=zA (zC a1 (zAd m _));clear z m;go_wp2_with fail;go_ret;refine LstQ.mk (l:=j++[e.1]) (R.out.symm.trans (by
       rw[zV E.out ⟨d.out.hi,trivial⟩];unfold zD;dsimp only;rw[HE.out,if_pos I.out])) J t M
theorem zUR (d:Pre C.L .args s) (K:KP C (zk C.L .args s)) (h:Pa C s w):zo C s w .args:=by
 show Calls prog 173 #[C] w (LstQ C (zE C.L .args s) w);have t:=zA h.cx.lst;have z:=zA K;have r:=zA d;have B:=zA h;have D:=zA (zR (w:=[40]) t d.1);have u:=zA (D.out.more d.2);clear h K d;go_enter func173,ntmps173;go_wp2_with fail;refine(zAK B [40]).mono ?_;rintro J w1 ⟨rfl,f,j⟩;have k:=zA f;have l:=zA j;clear f j;go_wp2_with fail;refine(Calls.mono (show Calls prog 176 #[C,.string ⟨#[41]⟩] w1 (LstQ C (zE C.L (.list [41]) (zL C.L [40] s)) w1)from z.out.more (q:=.list [41]) ⟨k.out.hi,trivial⟩ k u) ?_);rintro I w2 ⟨A,n,c,rfl,h1,E,F,m,o,p⟩;have G:=zA (show RowP w2 (w.heap.size≤·) (.slice A n c) (zE C.L (.list [41]) (zL C.L [40] s)).1.subs from m.sub fun b (hb:w1.heap.size≤b) _=>yAD l.out.size hb);have v:=zA o;have y:=zA (zC l p);have H:=zA h1;clear h1 m o p;go_wp2_with fail;go_ret;have e:zE C.L .args s=zE C.L (.list [41]) (zL C.L [40] s):=by
  rw[zV t.out r.out];rfl
 rw[e];exact⟨A,n,c,rfl,H,E,F,G,v,y⟩
theorem zNr (hp:Pre C.L (.object) s) (K:KP C (zk C.L (.object) s)) (h:Pa C s w):zo C s w (.object):=by
 refine zBP hp h fun u a8 b0 r W X HR hW hX F0=>?_;have HK:=zA K;clear K h hp;go_enter func177,ntmps177;go_upto_region 1 with(fail);clear hW hX;go_wp2_with fail;refine F0.made0 _ fun w1 F1=>?_;have B:=F1.bt 1 58 rfl
 by_cases l:onP C.L [125] s=true
 · have v:=zA l;clear l;go_wp2_with fail;refine B.kM (zBg B.P [125] v) fun w3 D=>?_;have:=D.c 2;have:=D.c 0;have:=D.f 0;go_wp2_with fail;exact D.fin 0 1 rfl (HR.out.symm.trans (by
    unfold zD;dsimp only;rw[if_pos v.out]))
 · have v:=zA (show onP C.L [125] s=false by simpa using l);clear l;have a0:=zA (show zE C.L (.objL []) s=r from by
    refine Eq.trans ?_ HR;unfold zD;dsimp only;rw[if_neg (by rw[v.out];decide)])
   go_wp2_with fail;refine B.kM (zBl B.P [125] v) fun w5 F5=>?_;go_wp2_with fail
   go_loopg [9] (C.L.length - s.k) (fun gk _ wr=>∃(b:List Tr) (s':Ps) (A:Option Addr) (n cp:Nat),C.L.length - s'.k≤gk∧s.k≤s'.k∧n≤s'.k∧Hid (zE C.L (.objL b) s'=r)∧Fr C (w.heap.size≤·) w [(w1.heap.size),X] [.bx X 58 [(0:Int),"",(),(0:Int),(0:Int),false,(),(),()],.bx (w1.heap.size) 58 [(39:Int),"",(),(0:Int),(0:Int),false,(),(),.slice A n cp],.ro (.slice A n cp) b] s' wr)
   case atStart=>exact⟨[],s,none,0,0,yAC _,yAC _,yAE _,a0,F5.nil.pk [(w1.heap.size),X] [0,2,3] js jd rfl js js⟩
   case round=>
    obtain⟨b,s',A,n,cp,b1,I,b2,y,d⟩:=hrel;have e:=zA (zf u (p:=.prop) (s:=s') ⟨d.P.hi,trivial⟩);have a9:=e.out.adv.le;have J:=e.out.adv.hi;have b3:=d.P.hi;have a1:=zA (fun Q=>d.dr.kR 2 rfl (Q:=Q) (HK.out.rank (q:=.prop) ⟨d.dr.P.hi,trivial⟩ d.dr.P I (by simp[zr])));have:=d.c 1;have a2:n≤4097:=by have:=d.P.cx.n;omega
    go_wp2_with fail;go_region_law (first | (go_simp;go_at_call 178;(with_reducible refine a1.out _ fun w6 M N O R S T U V Y F6=>?_);have:=F6.c 1;have:=(F6.al (.cells #[M,N,O,R,S,T,U,V,Y] 58)).c 1) | (refine F6.snocS 2 3 rfl rfl (fun _ h=>h) a2 rfl _ _ rfl rfl rfl fun A7 G w7 F7=>?_;have:=F7.c 1;have:=F7.f 1))
    all_goals
     have E:=F7.set 1 8 (.slice A7 (n+1) G)
     by_cases hb:(zE C.L .prop s').2.bad=0
     · have z:=zA (show((zE C.L .prop s').2.bad==0)=true by rw[hb];rfl);have m:=zA hb;have b4:=e.out.lt d.P.hi (by rw[hb];simp);clear hb;go_wp2_with fail;refine E.kB (zBm E.P z) fun w9 F=>?_
       by_cases g:onP C.L [125] (zE C.L .prop s').2=true
       · have j:=zA g;clear g;go_wp2_with fail;refine F.kM (zBg F.P [125] j) fun b5 o=>?_;have:=o.c 1;have:=o.c 0;have:=o.f 0;go_wp2_with fail;have a3:=o.rowK 2 rfl 39;exact a3.fin 0 4 rfl (y.out.symm.trans (by
          rw[zV u.out (p:=.objL b) ⟨d.P.hi,trivial⟩];unfold zD;dsimp only;rw[if_neg (by rw[m.out];simp),if_pos j.out]))
       · have j:=zA (show onP C.L [125] (zE C.L .prop s').2=false by simpa using g);clear g;go_wp2_with fail;refine F.kM (zBl F.P [125] j) fun b6 H=>?_;have a4:=zA (show zE C.L (.objL (b++[(zE C.L .prop s').1])) (zL C.L [44] (zE C.L .prop s').2)=r from Eq.trans (Eq.symm (by
          rw[zV u.out (p:=.objL b) (s:=s') ⟨d.P.hi,trivial⟩];unfold zD;dsimp only;rw[if_neg (by rw[m.out];simp),if_neg (by rw[j.out];decide)])) y)
         have a5:=zA (zR (w:=[44]) u (s:=(zE C.L .prop s').2) J).adv;have b7:=a5.out.le;go_wp2_with fail;refine H.kN (zAK H.P [44]) fun b8 a6=>?_;go_wp2_with fail
         go_roundg (C.L.length - (zL C.L [44] (zE C.L .prop s').2).k)
         case measure=>omega
         case rel=>exact⟨_,_,A7,n+1,G,yAC _,by omega,by omega,a4,a6.pk [(w1.heap.size),X] [0,1,2] js jd rfl js js⟩
     · have z:=zA (show((zE C.L .prop s').2.bad==0)=false by rw[yA];exact hb);have m:=zA hb;clear hb;go_wp2_with fail;refine E.kB (zBm E.P z) fun b9 t=>?_;have:=t.c 1;have:=t.c 0;have:=t.f 0;go_wp2_with fail;have a7:=t.rowK 2 rfl 39;exact a7.fin 0 4 rfl (y.out.symm.trans (by
        rw[zV u.out (p:=.objL b) ⟨d.P.hi,trivial⟩];unfold zD;dsimp only;rw[if_pos m.out]))
theorem zRF (hp:Pre C.L (.block) s) (K:KP C (zk C.L (.block) s)) (h:Pa C s w):zo C s w (.block):=by
 refine zBP hp h fun t b0 H r W X HR hW hX F0=>?_;have HK:=zA K;clear K h hp;go_enter func111,ntmps111;go_upto_region 1 with(fail);clear hW hX;go_wp2_with fail;refine F0.made0 _ fun w1 F1=>?_;have F2:=F1.bt 1 58 rfl;have hn:=zA (zR (w:=[123]) t H);have a1:=zA (show zE C.L (.blockL []) (zL C.L [123] (s))=r from by
  refine Eq.trans ?_ HR;unfold zD;rfl)
 go_wp2_with fail;refine F2.kN (zAK F2.P [123]) fun w3 F3=>?_;have a2:=zA (show(zL C.L [123] (s)).bad=0→s.k < (zL C.L [123] (s)).k from fun hb=>hn.out.lt H (by rw[hb];simp));have b4:=zA hn.out.adv.le;go_wp2_with fail
 go_loopg [7] (2*(C.L.length - (zL C.L [123] (s)).k)+(if(zL C.L [123] (s)).bad=0 then 1 else 0)) (fun gk _ wr=>∃(e:List Tr) (s':Ps) (A:Option Addr) (n cp:Nat),2*(C.L.length - s'.k)+(if s'.bad=0 then 1 else 0)≤gk∧(s'.bad=0→s.k < s'.k)∧(s'.bad=0→n≤s'.k)∧Hid (zE C.L (.blockL e) s'=r)∧Fr C (w.heap.size≤·) w [(w1.heap.size),X] [.bx X 58 [(0:Int),"",(),(0:Int),(0:Int),false,(),(),()],.bx (w1.heap.size) 58 [(4:Int),"",(),(0:Int),(0:Int),false,(),(),.slice A n cp],.ro (.slice A n cp) e] s' wr)
 case atStart=>exact⟨[],zL C.L [123] (s),none,0,0,yAC _,a2,fun _=>yAE _,a1,F3.nil.pk [(w1.heap.size),X] [0,2,3] js jd rfl js js⟩
 case round=>
  obtain⟨e,s',A,n,cp,l,j,I,u,b⟩:=hrel
  by_cases hb:s'.bad=0
  · have v:=zA (show(s'.bad==0)=true by rw[hb];rfl);have g:=zA hb;have y:=zA (j hb);have b1:2*(C.L.length - s'.k)+1≤gk:=by rw[if_pos hb]at l;exact l
    clear hb l j;go_wp2_with fail;refine b.kB (zBm b.P v) fun w4 E=>?_
    by_cases m:onP C.L [125] s'=true
    · have z:=zA m;clear m;go_wp2_with fail;refine E.kM (zBg E.P [125] z) fun w5 F=>?_;have:=F.c 1;have:=F.c 0;have:=F.f 0;go_wp2_with fail;have F6:=F.rowK 2 rfl 4;exact F6.fin 0 3 rfl (u.out.symm.trans (by
       rw[zV t.out (p:=.blockL e) ⟨b.P.hi,trivial⟩];unfold zD;dsimp only;rw[if_neg (by rw[g.out];simp),if_pos z.out]))
    · have z:=zA (show onP C.L [125] s'=false by simpa using m);clear m;go_wp2_with fail;refine E.kM (zBl E.P [125] z) fun w8 G=>?_;have d:=zA (zf t (p:=.item) (s:=s') ⟨b.P.hi,trivial⟩);have b2:=d.out.adv.le;have b3:=d.out.adv.hi;have b5:=b.P.hi;have b6:=I g;have a3:=zA (fun Q=>G.dr.kR 2 rfl (Q:=Q) (HK.out.more (q:=.item) ⟨G.dr.P.hi,trivial⟩ G.dr.P y));have:=G.c 1;have a4:n≤4097:=by have:=I g;have:=b.P.cx.n;omega
      go_wp2_with fail;go_region_law (first | (go_simp;go_at_call 34;(with_reducible refine a3.out _ fun w9 M N O R S T U V Y F9=>?_);have:=F9.c 1;have:=(F9.al (.cells #[M,N,O,R,S,T,U,V,Y] 58)).c 1) | (refine F9.snocS 2 3 rfl rfl (fun _ h=>h) a4 rfl _ _ rfl rfl rfl fun J B b7 D=>?_;have:=D.c 1;have:=D.f 1))
      all_goals
       have a5:=D.set 1 8 (.slice J (n+1) B);have a6:=zA (show zE C.L (.blockL (e++[(zE C.L .item s').1])) (zE C.L .item s').2=r from Eq.trans (Eq.symm (by
        rw[zV t.out (p:=.blockL e) (s:=s') ⟨b.P.hi,trivial⟩];unfold zD;dsimp only;rw[if_neg (by rw[g.out];simp),if_neg (by rw[z.out];decide)])) u)
       have b8:=y.out;have a7:2*(C.L.length - (zE C.L .item s').2.k)+(if(zE C.L .item s').2.bad=0 then 1 else 0) < gk:=by
        have a0:Eat C.L s' (zE C.L .item s').2:=d.out
        by_cases hb:(zE C.L .item s').2.bad=0
        · have:=a0.lt b.P.hi (by rw[hb];simp);rw[if_pos hb];omega
        · rw[if_neg hb];omega
       have a8:(zE C.L .item s').2.bad=0→n+1≤(zE C.L .item s').2.k:=fun hb=>by have:=(show Eat C.L s' (zE C.L .item s').2 from d.out).lt b.P.hi (by rw[hb];simp);omega
       go_wp2_with fail
       go_roundg (2*(C.L.length - (zE C.L .item s').2.k)+(if(zE C.L .item s').2.bad=0 then 1 else 0))
       case measure=>exact a7
       case rel=>exact⟨_,_,J,n+1,B,yAC _,fun _=>by omega,a8,a6,a5.pk [(w1.heap.size),X] [0,1,2] js jd rfl js js⟩
  · have v:=zA (show(s'.bad==0)=false by rw[yA];exact hb);have g:=zA hb;clear hb l j;go_wp2_with fail;refine b.kB (zBm b.P v) fun b9 o=>?_;have:=o.c 1;have:=o.c 0;have:=o.f 0;go_wp2_with fail;have a9:=o.rowK 2 rfl 4;exact a9.fin 0 3 rfl (u.out.symm.trans (by
     rw[zV t.out (p:=.blockL e) ⟨b.P.hi,trivial⟩];unfold zD;dsimp only;rw[if_pos g.out]))
theorem zLA (M:Pre C.L (.program []) s) (K:KP C (zk C.L (.program []) s)) (h:Pa C s w):zo C s w (.program []):=by
 refine zBP M h fun l V N r W X Y hW hX F0=>?_;have HK:=zA K;clear K h M;go_enter func16,ntmps16;go_upto_region 1 with(fail);clear hW hX;go_wp2_with fail;refine F0.made0 _ fun w1 F1=>?_;have F2:=F1.bt 1 58 rfl;go_wp2_with fail
 go_loopg [5] (C.L.length - s.k) (fun gk _ wr=>∃(b:List Tr) (s':Ps) (A:Option Addr) (n cp:Nat),C.L.length - s'.k≤gk∧s.k≤s'.k∧n≤s'.k∧Hid (zE C.L (.program b) s'=r)∧Fr C (w.heap.size≤·) w [(w1.heap.size),X] [.bx X 58 [(0:Int),"",(),(0:Int),(0:Int),false,(),(),()],.bx (w1.heap.size) 58 [(1:Int),"",(),(0:Int),(0:Int),false,(),(),.slice A n cp],.ro (.slice A n cp) b] s' wr)
 case atStart=>exact⟨[],s,none,0,0,yAC _,yAC _,yAE _,(zV l (p:=.program []) ⟨N,trivial⟩).trans Y,F2.nil.pk [(w1.heap.size),X] [0,2,3] js jd rfl js js⟩
 case round=>
  obtain⟨b,s',A,n,cp,a2,u,a3,o,d⟩:=hrel;have a4:=zYZ;obtain⟨⟨kd,tx,st,nk,nn,mg,ps,nl⟩,m⟩:=zW C.L (s').k;go_wp2_with fail;refine d.kT (zu d.P m) fun w3 As Am c1 c2 e=>?_
  by_cases hk:kd=0
  · have e0:((kd:Int) !=0)=false:=by rw[bne_eq_false_iff_eq];omega
    have g:=zA hk;clear hk;have:=e.c 1;have:=e.c 0;have:=e.f 0;go_wp2_with fail;have F4:=e.rowK 2 rfl 1;exact F4.fin 0 4 rfl (o.out.symm.trans (by
     rw[zV l.out (p:=.program b) ⟨d.P.hi,trivial⟩];unfold zD;dsimp only;rw[m.out,if_pos g.out]))
  · have e0:((kd:Int) !=0)=true:=by rw[bne_iff_ne];omega
    have g:=zA hk;clear hk;have O:=zA (l.out.lt (s:=s') d.P.hi (by rw[m.out];exact g.out));have j:=zA (zf l (p:=.item) (s:=s') ⟨d.P.hi,trivial⟩);have a0:=(show Eat C.L s' (zE C.L .item s').2 from j.out).more O;have a1:=j.out.adv.hi;have a5:=d.P.hi;have R:=zA (fun Q=>e.dr.kR 2 rfl (Q:=Q) (HK.out.rank (q:=.item) ⟨e.dr.P.hi,trivial⟩ e.dr.P u (by simp[zr])));have:=e.c 1;have S:n≤4097:=by have:=d.P.cx.n;omega
    go_wp2_with fail;go_region_law (first | (go_simp;go_at_call 34;(with_reducible refine R.out _ fun w6 v y z B D E F G H I=>?_);have:=I.c 1;have:=(I.al (.cells #[v,y,z,B,D,E,F,G,H] 58)).c 1) | (refine I.snocS 2 4 rfl rfl (fun _ h=>h) S rfl _ _ rfl rfl rfl fun T t w7 J=>?_;have:=J.c 1;have:=J.f 1))
    all_goals
     have F8:=J.set 1 8 (.slice T (n+1) t);have U:=zA (show zE C.L (.program (b++[(zE C.L .item s').1])) (zE C.L .item s').2=r from Eq.trans (Eq.symm (by
      rw[zV l.out (p:=.program b) (s:=s') ⟨d.P.hi,trivial⟩];unfold zD;dsimp only;rw[m.out,if_neg g.out])) o)
     go_wp2_with fail
     go_roundg (C.L.length - (zE C.L .item s').2.k)
     case measure=>omega
     case rel=>exact⟨_,_,T,n+1,t,yAC _,by omega,by omega,U,F8.pk [(w1.heap.size),X] [0,1,2] js jd rfl js js⟩
theorem zUS (hp:Pre C.L .params s) (_K:KP C (zk C.L .params s)) (h:Pa C s w):zo C s w .params:=by
 show Calls prog 110 #[C] w (LstQ C (zE C.L .params s) w);have z:=zA h.cx.lst;have d2:C.N≤4097:=h.cx.n4;have b9:=zA h.cx.n;have d4:=h.lt;have c0:=hp.1;have R:=zA hp;have HP:=zA h;obtain⟨r,hr⟩:=jx (zE C.L .params s);rw[hr];have HR:=zA hr;clear hr h _K hp;have c1:=zA (zR (w:=[40]) z c0)
 by_cases c:onP C.L [41] (zL C.L [40] s)=true
 · have HO:=zA c;clear c;go_enter func110,ntmps110;go_wp2_with fail;refine(zAK HP [40]).mono ?_;rintro c2 w0 ⟨rfl,B,D⟩;have S:=zA B;have T:=zA D;clear B D;go_wp2_with fail;refine(zA9 S [41] HO).mono ?_;rintro ev w1 ⟨rfl,f,d⟩;have m:=zA (show Pa C (zB (zL C.L [40] s)) w1 from f);have v:=zA (zC T d);clear f d;go_wp2_with fail;go_ret;refine LstQ.mk (l:=[]) (HR.out.symm.trans (by
    rw[zV z.out R.out];unfold zD;dsimp only;rw[if_pos HO.out])) (RowP.nil _ _) m v
 · have HO:=zA (show onP C.L [41] (zL C.L [40] s)=false by simpa using c);have a8:=zA (show zE C.L (.paramL []) (zL C.L [40] s)=r from by
    refine Eq.trans ?_ HR;rw[zV z.out (p:=.params) R.out];unfold zD;dsimp only;rw[if_neg c])
   clear c;go_enter func110,ntmps110;go_wp2_with fail;refine(zAK HP [40]).mono ?_;rintro c2 w0 ⟨rfl,B,D⟩;have S:=zA B;have T:=zA D;clear B D;go_wp2_with fail;refine(zA9 S [41] HO).mono ?_;rintro ev w1 ⟨rfl,f,d⟩;have m:=zA (show Pa C (zL C.L [40] s) w1 from f);have v:=zA (zC T d);clear f d;go_wp2_with fail
   go_loopg [3] (C.L.length - (zL C.L [40] s).k) (fun gk v5 wr=>∃(o:List Tr) (s':Ps) (A:Option Addr) (n cp:Nat),v5=.slice A n cp∧C.L.length - s'.k≤gk∧s.k≤s'.k∧n≤s'.k∧Hid (zE C.L (.paramL o) s'=r)∧Hid (Pa C s' wr)∧Hid (RowP wr (w.heap.size≤·) (.slice A n cp) o)∧Hid (w.grownBy wr (some C.g)))
   case atStart=>exact⟨[],zL C.L [40] s,none,0,0,rfl,yAC _,c1.out.adv.le,yAE _,a8,m,RowP.nil _ _,v⟩
   case round=>
    clear m v a8;obtain⟨o,s',A,n,cp,rfl,d5,d3,d6,U,q,a9,b0⟩:=hrel;go_wp2_with fail;refine(zER q).mono ?_;rintro d7 V ⟨rfl,f,d⟩;have d8:=b0.out.size;have m:=zA f;have b1:=zA (a9.out.keep d (.box q.out.box jd jd jo));have v:=zA (zC b0 d);have d9:=d.size;clear f d;have j:=zA (zAi z q.out.hi);have b8:=j.out.adv.le;have W:=j.out.adv.hi;have e0:=b9.out;obtain⟨nm,I⟩:=jx (zc C.L s');rw[I]at m j b8 W;simp only[I];have X:=zA I;clear I;go_wp2_with fail;refine(zDM 20 ⟨nm.1.toArray⟩ none 0 0).mono ?_;rintro e1 w2 ⟨rfl,E⟩;have b2:=zA (m.out.new E);have Y:=zA (b1.out.new E);have b3:=zA (zC v (zAd E _));have e2:=E.size;have c3:=zA (b1.out.lt);have b4:=zA (show TrC w2 (fun b=>V.heap.size≤b) (trN 20 nm.1 []) [(20:Int),nm.1,(),(0:Int),(0:Int),false,(),(),()]from(RowP.nil w2 _).treeN);clear E;have HN:=zA a9.out.bounds.1;go_wp2_with (at_builtin;refine zEx (Px:=fun b=>w.heap.size≤b) (Q:=fun b=>V.heap.size≤b) rfl _ _ rfl rfl HN.out Y.out b4.out (fun b (hb:V.heap.size≤b) _=>(by omega:w.heap.size≤b)) (fun b hb h2=>(by have:=c3.out b hb;omega)) (by show w.heap.size≤w2.heap.size+1;omega) jo rfl ?_;intro A3 c4 w3 a0 a1);have b5:=zA a0;have a2:=Y.out.new (zF w2 (.cells #[(20:Int),nm.1,(),(0:Int),(0:Int),false,(),(),()] 58) none);have b6:=zA ((b2.out.alloc (.cells #[(20:Int),nm.1,(),(0:Int),(0:Int),false,(),(),()] 58)).row a2 (fun b (hb:w.heap.size≤b)=>(by omega:C.g < b)) a1);have a3:=zA (zH9 (zC b3 (zF _ _ _)) a2 (fun b hb=>hb) a1);have e3:=a3.out.size;clear a0 a1 a2 Y b2 b3 b4
    by_cases hb:nm.2.bad=0
    · have a4:=zA (show(nm.2.bad==0)=true by rw[hb];rfl);have J:=zA hb;have e4:=j.out.lt q.out.hi (by rw[hb];simp);clear hb;refine(zBm b6 a4).mono ?_;rintro c5 w4 ⟨rfl,F,t⟩;have y:=zA F;have M:=zA (b5.out.new t);have O:=zA (zC a3 (zAd t _));clear F t
      by_cases c:onP C.L [41] nm.2=true
      · have G:=zA c;clear c;go_wp2_with fail;refine(zA9 y [41] G).mono ?_;rintro c6 w5 ⟨rfl,H,u⟩;have P:=zA (show Pa C (zB nm.2) w5 from H);have a5:=zA (M.out.keep u (.box y.out.box jd jd jo));have a6:=zA (zC O u);clear H u;go_wp2_with fail;go_ret;refine LstQ.mk (l:=o++[trN 20 nm.1 []]) (U.out.symm.trans (by
         rw[zV z.out ⟨q.out.hi,trivial⟩];unfold zD;dsimp only;rw[X.out,if_neg (by rw[J.out];simp),if_pos G.out])) a5 P a6
      · have G:=zA (show onP C.L [41] nm.2=false by simpa using c);clear c;go_wp2_with fail;refine(zA9 y [41] G).mono ?_;rintro c6 w5 ⟨rfl,H,u⟩;have P:=zA (show Pa C nm.2 w5 from H);have a5:=zA (M.out.keep u (.box y.out.box jd jd jo));have a6:=zA (zC O u);clear H u;go_wp2_with fail;refine(zAK P [44]).mono ?_;rintro e5 w6 ⟨rfl,b7,a7⟩;have c7:=zA b7;have c8:=zA (a5.out.keep a7 (.box P.out.box jd jd jo));have c9:=zA (zC a6 a7);clear b7 a7;have d0:=zA (show zE C.L (.paramL (o++[trN 20 nm.1 []])) (zL C.L [44] nm.2)=r from Eq.trans (Eq.symm (by
         rw[zV z.out (p:=.paramL o) (s:=s') ⟨q.out.hi,trivial⟩];unfold zD;dsimp only;rw[X.out,if_neg (by rw[J.out];simp),if_neg (by rw[G.out];decide)])) U)
        have d1:=zA (zR (w:=[44]) z (s:=nm.2) W).adv;have e6:=d1.out.le;go_wp2_with fail
        go_roundg (C.L.length - (zL C.L [44] nm.2).k)
        case measure=>omega
        case rel=>exact⟨_,_,A3,n+1,c4,rfl,yAC _,by omega,by omega,d0,c7,c8,c9⟩
    · have a4:=zA (show(nm.2.bad==0)=false by rw[yA];exact hb);have J:=zA hb;clear hb;refine(zBm b6 a4).mono ?_;rintro c5 w4 ⟨rfl,F,t⟩;have y:=zA F;have M:=zA (b5.out.new t);have O:=zA (zC a3 (zAd t _));clear F t;go_wp2_with fail;go_ret;refine LstQ.mk (l:=o++[trN 20 nm.1 []]) (U.out.symm.trans (by
       rw[zV z.out ⟨q.out.hi,trivial⟩];unfold zD;dsimp only;rw[X.out,if_pos J.out])) M y O
theorem zXA (c:Lst L):∀(f:Nat) (b:List Tr) (s:Ps),s.k≤L.length - 1→(zF9 L f (.paramL b) s).1.subs.length≤b.length+(L.length - s.k):=by
 intro f
 induction f with
 | zero=>intro b s _;exact yAE _
 | succ f g=>
  intro b s hs;have l:=c.pos;have e:=zAi c hs;show(zD L (zF9 L f) (.paramL b) s).1.subs.length≤_;unfold zD;dsimp only;split
  · show(b++[_]).length≤_;rw[List.length_append,List.length_singleton];omega
  · rename_i hb
    have j:=e.lt hs hb;split
    · show(b++[_]).length≤_;rw[List.length_append,List.length_singleton];omega
    · have d:=(zR (w:=[44]) c e.adv.hi).adv;have:=g (b++[trN 20 (zc L s).1 []]) (zL L [44] (zc L s).2) d.hi;rw[List.length_append,List.length_singleton]at this;have h1:=d.le;have m:=d.hi;omega
theorem zXB (c:Lst L) (w:List UInt8):∀(f:Nat) (b:List Tr) (s:Ps),s.k≤L.length - 1→(zF9 L f (.listL w b) s).1.subs.length≤b.length+(L.length - s.k):=by
 intro f
 induction f with
 | zero=>intro b s _;exact yAE _
 | succ f g=>
  intro b s hs;have l:=c.pos;have e:Eat L s (zF9 L f .assign s).2:=zIM c f .assign s ⟨hs,trivial⟩;show(zD L (zF9 L f) (.listL w b) s).1.subs.length≤_;unfold zD;dsimp only;split
  · show(b++[_]).length≤_;rw[List.length_append,List.length_singleton];omega
  · rename_i hb
    have j:=e.lt hs hb;split
    · show(b++[_]).length≤_;rw[List.length_append,List.length_singleton];omega
    · have d:=(zR (w:=[44]) c e.adv.hi).adv;have:=g (b++[(zF9 L f .assign s).1]) (zL L [44] (zF9 L f .assign s).2) d.hi;rw[List.length_append,List.length_singleton]at this;have h1:=d.le;have m:=d.hi;omega
theorem zGN (b:Lst L) (hs:s.k≤L.length - 1):(zE L .params s).1.subs.length≤L.length:=by
 rw[zV b ⟨hs,trivial⟩];unfold zD;dsimp only;split
 · exact yAE _
 · have h:=zXA b (zk L (.paramL []) (zL L [40] s)+1) [] (zL L [40] s) (zR b hs).adv.hi;have c:(zE L (.paramL []) (zL L [40] s)).1.subs.length≤0+(L.length - (zL L [40] s).k):=h;omega
theorem zRG (b:Lst L) {w:List UInt8} (hs:s.k≤L.length - 1):(zE L (.list w) s).1.subs.length≤L.length:=by
 rw[zV b ⟨hs,trivial⟩];unfold zD;dsimp only;split
 · exact yAE _
 · have h:=zXB b w (zk L (.listL w []) s+1) [] s hs;have c:(zE L (.listL w []) s).1.subs.length≤0+(L.length - s.k):=h;omega
theorem zKE (b:Lst L) (hs:s.k < L.length - 1):(zE L .args s).1.subs.length≤L.length:=by
 rw[zV b ⟨Nat.le_of_lt hs,hs⟩];unfold zD;dsimp only;exact zRG b (zR b (Nat.le_of_lt hs)).adv.hi
theorem zUT {n:List UInt8} (G:Pre C.L (.func k n) s) (K:KP C (zk C.L (.func k n) s)) (h:Pa C s w):zo C s w (.func k n):=by
 refine zBP G h fun H U j r W X V Y hX b=>?_;have I:=zA K;clear K h G;go_enter func72,ntmps72;go_upto_region 1 with(fail);clear Y hX;have J:=zA (zGN H (s:=s) j);have M:=zA b.P.cx.n;go_wp2_with fail;refine b.kL (I.out.rank (q:=.params) ⟨b.P.hi,trivial⟩ b.P (yAC _) (by simp[zr])) fun w1 A N cp O _ a0 F1=>?_;go_wp2_with fail;refine F1.kQ (zDM _ ⟨(n).toArray⟩ _ _ _) fun w2 F2=>?_;have F3:=F2.rowN 1 rfl k (n);have d:=F3.bt 2 58 rfl;have e:=zA (zf H (p:=.params) (s:=s) ⟨j,trivial⟩);have l:=zA (show Eat C.L s (zE C.L (.params) (s)).2 from e.out);have R:=zA (fun Q=>d.dr.kR 1 rfl (Q:=Q) (I.out.rank (q:=.block) ⟨d.dr.P.hi,trivial⟩ d.dr.P l.out.adv.le (by simp[zr])));have:=d.c 3;have S:N≤4097:=by have:=J.out;have:=M.out;have:=O.out;omega
 go_upto_region 2 with(fail);go_region_law (first | (go_simp;go_at_call 111;(with_reducible refine R.out _ fun w5 m o t u v y z B D E=>?_);have:=E.c 3;have:=(E.al (.cells #[m,o,t,u,v,y,z,B,D] 58)).c 3) | (refine E.snocS 1 4 rfl rfl (fun _ h=>h) S rfl _ _ rfl rfl rfl fun A6 T w6 F=>?_;have:=F.c 3;have:=F.f 3))
 all_goals
  have g:=F.set 3 8 (.slice A6 (N+1) T);have:=g.c 3;have:=g.c 0;have:=g.f 0;go_wp2_with fail;have F8:=g.rowN 1 rfl k (n);exact F8.fin 0 5 rfl (V.out.symm.trans (by
   unfold zD;rfl))
theorem zXC (R:Pre C.L (.body l) s) (K:KP C (zk C.L (.body l) s)) (h:Pa C s w) (a:World) (A:Option Addr) (n cp:Nat) (_b:l.length=n) (S:n≤4097) (o:a.grownBy w (some C.g)) (p:C.g < a.heap.size) (e:RowP w (a.heap.size≤·) (.slice A n cp) l) (t:(zG C.L s.k).nl=true) (u:onP C.L [123] (zL C.L [61,62] (za C.L s))=true):
 Calls prog 131 #[C,.slice A n cp] w (zVQ C a (zE C.L (.body l) s)):=by
 refine zYa R h o p e fun y a6 b r W X HR hW hX T=>?_;have HK:=zA K;have v:=zA t;have j:=zA u;clear K h R o p e t u;go_enter func131,ntmps131;go_upto_region 1 with(fail);clear hW hX;obtain⟨⟨kd,tx,st,nk,nn,mg,ps,nl⟩,U⟩:=zW C.L (s).k;have z:nl=true:=by have:=v.out;rwa[U.out]at this
 subst z;have a7:=zNl;go_wp2_with fail;refine T.kT (zu T.P U) fun w1 As Am c1 c2 V=>?_;go_wp2_with fail;refine V.kN (zAO V.P) fun w2 Y=>?_;go_wp2_with fail;refine Y.kN (zAK Y.P [61,62]) fun w3 F3=>?_;go_wp2_with fail;refine F3.kQ (zA0 _ _ _ _) fun w4 F4=>?_;have F5:=F4.rowK 0 rfl 42;have F6:=F5.bt 3 58 rfl;go_wp2_with fail;refine F6.kB (zAo F6.P [123] j) fun w7 m=>?_;have a0:=zA (show s.k≤(zL C.L [61,62] (za C.L s)).k from(yAD (zy b).adv.le (zR (w:=[61,62]) y (zy b).adv.hi).adv.le));have a1:=zA (show s.k < (zL C.L [61,62] (za C.L s)).k from((zy b).then (zR (w:=[61,62]) y (zy b).adv.hi).adv).more (Nat.lt_of_le_of_lt a0 (y.out.on (s:=zL C.L [61,62] (za C.L s)) m.P.hi j)));have a2:=zA (fun Q=>m.dr.kR 0 rfl (Q:=Q) (HK.out.more (q:=.block) ⟨m.dr.P.hi,trivial⟩ m.dr.P a1));have:=m.c 4;have a3:n≤4097:=by exact S
 go_wp2_with fail;go_region_law (first | (go_simp;go_at_call 111;(with_reducible refine a2.out _ fun w8 B D E F G H I J M N=>?_);have:=N.c 4;have:=(N.al (.cells #[B,D,E,F,G,H,I,J,M] 58)).c 4) | (refine N.snocS 0 5 rfl rfl (fun _ h=>h) a3 rfl _ _ rfl rfl rfl fun A9 a4 w9 O=>?_;have:=O.c 4;have:=O.f 4))
 all_goals
  have d:=O.set 4 8 (.slice A9 (n+1) a4);have:=d.c 4;have:=d.c 1;have:=d.f 1;go_wp2_with fail;have a5:=d.rowK 0 rfl 42;exact a5.fin 1 6 rfl (HR.out.symm.trans (by
   unfold zD;dsimp only;simp[v.out,j.out]))
theorem zXD (O:Pre C.L (.body l) s) (K:KP C (zk C.L (.body l) s)) (h:Pa C s w) (a:World) (A:Option Addr) (n cp:Nat) (_b:l.length=n) (R:n≤4097) (j:a.grownBy w (some C.g)) (m:C.g < a.heap.size) (d:RowP w (a.heap.size≤·) (.slice A n cp) l) (o:(zG C.L s.k).nl=true) (p:onP C.L [123] (zL C.L [61,62] (za C.L s))=false):
 Calls prog 131 #[C,.slice A n cp] w (zVQ C a (zE C.L (.body l) s)):=by
 refine zYa O h j m d fun HL a5 t r W X HR hW hX S=>?_;have HK:=zA K;have u:=zA o;have v:=zA p;clear K h O j m d o p;go_enter func131,ntmps131;go_upto_region 1 with(fail);clear hW hX;obtain⟨⟨kd,tx,st,nk,nn,mg,ps,nl⟩,T⟩:=zW C.L (s).k;have y:nl=true:=by have:=u.out;rwa[T.out]at this
 subst y;have a6:=zNl;go_wp2_with fail;refine S.kT (zu S.P T) fun w1 As Am c1 c2 U=>?_;go_wp2_with fail;refine U.kN (zAO U.P) fun w2 V=>?_;go_wp2_with fail;refine V.kN (zAK V.P [61,62]) fun w3 F3=>?_;go_wp2_with fail;refine F3.kQ (zA0 _ _ _ _) fun w4 F4=>?_;have F5:=F4.rowK 0 rfl 42;have Y:=F5.bt 3 58 rfl;go_wp2_with fail;refine Y.kB (zAo Y.P [123] v) fun w7 e=>?_;have a0:=zA (show s.k≤(zL C.L [61,62] (za C.L s)).k from(yAD (zy t).adv.le (zR (w:=[61,62]) HL (zy t).adv.hi).adv.le));have a1:=zA (fun Q=>e.dr.kR 0 rfl (Q:=Q) (HK.out.rank (q:=.assign) ⟨e.dr.P.hi,trivial⟩ e.dr.P a0 (by simp[zr])));have:=e.c 4;have a2:n≤4097:=by exact R
 go_wp2_with fail;go_region_law (first | (go_simp;go_at_call 106;(with_reducible refine a1.out _ fun w8 z B D E F G H I J M=>?_);have:=M.c 4;have:=(M.al (.cells #[z,B,D,E,F,G,H,I,J] 58)).c 4) | (refine M.snocS 0 5 rfl rfl (fun _ h=>h) a2 rfl _ _ rfl rfl rfl fun A9 a3 w9 N=>?_;have:=N.c 4;have:=N.f 4))
 all_goals
  have b:=N.set 4 8 (.slice A9 (n+1) a3);have:=b.c 4;have:=b.c 1;have:=b.f 1;go_wp2_with fail;have a4:=b.rowK 0 rfl 42;exact a4.fin 1 6 rfl (HR.out.symm.trans (by
   unfold zD;dsimp only;simp[u.out,v.out]))
theorem zXE (S:Pre C.L (.body l) s) (K:KP C (zk C.L (.body l) s)) (h:Pa C s w) (a:World) (A:Option Addr) (n cp:Nat) (_b:l.length=n) (b:n≤4097) (o:a.grownBy w (some C.g)) (p:C.g < a.heap.size) (d:RowP w (a.heap.size≤·) (.slice A n cp) l) (t:(zG C.L s.k).nl=false) (u:onP C.L [123] (zL C.L [61,62] (s))=true):
 Calls prog 131 #[C,.slice A n cp] w (zVQ C a (zE C.L (.body l) s)):=by
 refine zYa S h o p d fun z a5 v r W X HR hW hX T=>?_;have HK:=zA K;have y:=zA t;have e:=zA u;clear K h S o p d t u;go_enter func131,ntmps131;go_upto_region 1 with(fail);clear hW hX;obtain⟨⟨kd,tx,st,nk,nn,mg,ps,nl⟩,U⟩:=zW C.L (s).k;have B:nl=false:=by have:=y.out;rwa[U.out]at this
 subst B;have a6:=zNl;go_wp2_with fail;refine T.kT (zu T.P U) fun w1 As Am c1 c2 V=>?_;go_wp2_with fail;refine V.kN (zAK V.P [61,62]) fun w2 F2=>?_;go_wp2_with fail;refine F2.kQ (zA0 _ _ _ _) fun w3 F3=>?_;have F4:=F3.rowK 0 rfl 42;have Y:=F4.bt 3 58 rfl;go_wp2_with fail;refine Y.kB (zAo Y.P [123] e) fun w6 j=>?_;have a0:=zA (show s.k≤(zL C.L [61,62] (s)).k from(zR (w:=[61,62]) z v).adv.le);have a1:=zA (show s.k < (zL C.L [61,62] (s)).k from(zR (w:=[61,62]) z v).more (Nat.lt_of_le_of_lt a0 (z.out.on (s:=zL C.L [61,62] (s)) j.P.hi e)));have a2:=zA (fun Q=>j.dr.kR 0 rfl (Q:=Q) (HK.out.more (q:=.block) ⟨j.dr.P.hi,trivial⟩ j.dr.P a1));have:=j.c 4;have b:n≤4097:=by exact b
 go_wp2_with fail;go_region_law (first | (go_simp;go_at_call 111;(with_reducible refine a2.out _ fun w7 D E F G H I J M N O=>?_);have:=O.c 4;have:=(O.al (.cells #[D,E,F,G,H,I,J,M,N] 58)).c 4) | (refine O.snocS 0 5 rfl rfl (fun _ h=>h) b rfl _ _ rfl rfl rfl fun A8 a3 w8 R=>?_;have:=R.c 4;have:=R.f 4))
 all_goals
  have m:=R.set 4 8 (.slice A8 (n+1) a3);have:=m.c 4;have:=m.c 1;have:=m.f 1;go_wp2_with fail;have a4:=m.rowK 0 rfl 42;exact a4.fin 1 6 rfl (HR.out.symm.trans (by
   unfold zD;dsimp only;simp[y.out,e.out]))
theorem zXF (O:Pre C.L (.body l) s) (K:KP C (zk C.L (.body l) s)) (h:Pa C s w) (a:World) (A:Option Addr) (n cp:Nat) (_b:l.length=n) (b:n≤4097) (m:a.grownBy w (some C.g)) (o:C.g < a.heap.size) (d:RowP w (a.heap.size≤·) (.slice A n cp) l) (p:(zG C.L s.k).nl=false) (t:onP C.L [123] (zL C.L [61,62] (s))=false):
 Calls prog 131 #[C,.slice A n cp] w (zVQ C a (zE C.L (.body l) s)):=by
 refine zYa O h m o d fun HL a3 R r W X HR hW hX S=>?_;have HK:=zA K;have u:=zA p;have v:=zA t;clear K h O m o d p t;go_enter func131,ntmps131;go_upto_region 1 with(fail);clear hW hX;obtain⟨⟨kd,tx,st,nk,nn,mg,ps,nl⟩,T⟩:=zW C.L (s).k;have y:nl=false:=by have:=u.out;rwa[T.out]at this
 subst y;have a4:=zNl;go_wp2_with fail;refine S.kT (zu S.P T) fun w1 As Am c1 c2 U=>?_;go_wp2_with fail;refine U.kN (zAK U.P [61,62]) fun w2 F2=>?_;go_wp2_with fail;refine F2.kQ (zA0 _ _ _ _) fun w3 F3=>?_;have F4:=F3.rowK 0 rfl 42;have V:=F4.bt 3 58 rfl;go_wp2_with fail;refine V.kB (zAo V.P [123] v) fun w6 e=>?_;have Y:=zA (show s.k≤(zL C.L [61,62] (s)).k from(zR (w:=[61,62]) HL R).adv.le);have a0:=zA (fun Q=>e.dr.kR 0 rfl (Q:=Q) (HK.out.rank (q:=.assign) ⟨e.dr.P.hi,trivial⟩ e.dr.P Y (by simp[zr])));have:=e.c 4;have b:n≤4097:=by exact b
 go_wp2_with fail;go_region_law (first | (go_simp;go_at_call 106;(with_reducible refine a0.out _ fun w7 z B D E F G H I J M=>?_);have:=M.c 4;have:=(M.al (.cells #[z,B,D,E,F,G,H,I,J] 58)).c 4) | (refine M.snocS 0 5 rfl rfl (fun _ h=>h) b rfl _ _ rfl rfl rfl fun A8 a1 w8 N=>?_;have:=N.c 4;have:=N.f 4))
 all_goals
  have j:=N.set 4 8 (.slice A8 (n+1) a1);have:=j.c 4;have:=j.c 1;have:=j.f 1;go_wp2_with fail;have a2:=j.rowK 0 rfl 42;exact a2.fin 1 6 rfl (HR.out.symm.trans (by
   unfold zD;dsimp only;simp[u.out,v.out]))
theorem zUU (b:Pre C.L (.body l) s) (K:KP C (zk C.L (.body l) s)) (h:Pa C s w):zo C s w (.body l):=by
 intro a A n cp h1 c d e f;cases hn:(zG C.L s.k).nl with
 | true=>
  cases hb:onP C.L [123] (zL C.L [61,62] (za C.L s))with
  | true=>exact zXC b K h a A n cp h1 c d e f hn hb
  | false=>exact zXD b K h a A n cp h1 c d e f hn hb
 | false=>
  cases hb:onP C.L [123] (zL C.L [61,62] s)with
  | true=>exact zXE b K h a A n cp h1 c d e f hn hb
  | false=>exact zXF b K h a A n cp h1 c d e f hn hb
theorem zUV (R:Pre C.L (.item) s) (K:KP C (zk C.L (.item) s)) (h:Pa C s w):zo C s w (.item):=by
 refine zBP R h fun S c4 T r W X y hW hX U=>?_;have z:=zA K;clear K h R;go_enter func34,ntmps34;go_upto_region 1 with(fail);clear hW hX;obtain⟨⟨kd,tx,J,nk,nn,M,ps,nl⟩,o⟩:=zW C.L (s).k;go_wp2_with fail;refine U.kT (zu U.P o) fun w1 As Am c1 c2 F1=>?_;have V:=F1.bt 1 80 rfl;obtain⟨b1,E⟩:=jx (isT ⟨kd,tx,J,nk,nn,M,ps,nl⟩ [108,101,116]);have d:=zA E;clear E;obtain⟨b2,F⟩:=jx (isT ⟨kd,tx,J,nk,nn,M,ps,nl⟩ [99,111,110,115,116]);have g:=zA F;clear F;obtain⟨b3,G⟩:=jx (isT ⟨kd,tx,J,nk,nn,M,ps,nl⟩ [102,117,110,99,116,105,111,110]);have p:=zA G;clear G;have:=V.c 2;go_wp2_with fail;refine V.kQ (zDa [108,101,116] d) fun w3 t=>?_;cases b1 with
 | true=>
  go_wp2_with fail;refine t.kX (z.out.rank (q:=.declares) ⟨t.P.hi,trivial⟩ t.P (yAC _) (by simp[zr])) fun e5 N w4 c5 c6 c7 c8 c9 d0 d1 d2 d3 Y=>?_;have:=Y.sto 3;have F5:=Y.bt 3 58 rfl;go_wp2_with fail;refine F5.kN (zCD F5.P) fun w6 A=>?_;have:=A.c 4;have:=A.c 0;have:=A.f 0;go_wp2_with fail;exact A.fin 0 3 rfl (y.out.symm.trans (by
   unfold zD;dsimp only;simp[zEB o.out,d.out,N.out]))
 | false=>
  have:=t.c 2;go_wp2_with fail;refine t.kQ (zDa [99,111,110,115,116] g) fun w8 e=>?_;cases b2 with
  | true=>
   go_wp2_with fail;refine e.kX (z.out.rank (q:=.declares) ⟨e.P.hi,trivial⟩ e.P (yAC _) (by simp[zr])) fun e6 O w9 d4 d5 d6 d7 d8 d9 e0 e1 e2 F9=>?_;have:=F9.sto 3;have H:=F9.bt 3 58 rfl;go_wp2_with fail;refine H.kN (zCD H.P) fun e7 j=>?_;have:=j.c 4;have:=j.c 0;have:=j.f 0;go_wp2_with fail;exact j.fin 0 3 rfl (y.out.symm.trans (by
    unfold zD;dsimp only;simp[zEB o.out,d.out,g.out,O.out]))
  | false=>
   have Q:=zA ((zEB o).trans p);cases b3 with
   | true=>
    go_wp2_with fail;refine e.kM (zBg e.P [102,117,110,99,116,105,111,110] Q) fun e8 I=>?_;go_wp2_with fail;refine I.kS (zER I.P) fun e9 u=>?_;have a0:=zA (S.out.on T Q);go_wp2_with fail;refine u.kX (z.out.more (q:=.func 19 (zc C.L (zB s)).1) ⟨u.P.hi,trivial⟩ u.P (yAA (yAF s.k) (zAi (s:=zB s) S a0).adv.le)) fun e3 B f0 a1 a2 a3 a4 a5 a6 a7 a8 a9 l=>?_;have:=l.sto 3;have:=l.c 0;have:=l.f 0;go_wp2_with fail;exact l.fin 0 3 rfl (y.out.symm.trans (by
     unfold zD;dsimp only;simp[zEB o.out,d.out,g.out,p.out,B.out]))
   | false=>
    go_wp2_with fail;refine e.kM (zBl e.P [102,117,110,99,116,105,111,110] Q) fun f1 v=>?_;go_wp2_with fail;refine v.kX (z.out.rank (q:=.statement) ⟨v.P.hi,trivial⟩ v.P (yAC _) (by simp[zr])) fun e4 D f2 b0 b4 b5 b6 b7 b8 b9 c0 c3 m=>?_;have:=m.sto 3;have:=m.c 0;have:=m.f 0;go_wp2_with fail;exact m.fin 0 3 rfl (y.out.symm.trans (by
     unfold zD;dsimp only;simp[zEB o.out,d.out,g.out,p.out,D.out]))
theorem zHE (hp:Pre C.L (.statement) s) (K:KP C (zk C.L (.statement) s)) (h:Pa C s w) (E:(zG C.L s.k).kind=1):zo C s w (.statement):=by
 refine zBP hp h fun HL d9 b6 r W X y hW hX F0=>?_;have HK:=zA K;clear K h hp;go_enter func73,ntmps73;go_upto_region 1 with(fail);clear hW hX;have d:=zA E;clear E;obtain⟨⟨kd,tx,st,nk,nn,mg,ps,nl⟩,HT⟩:=zW C.L (s).k;go_wp2_with fail;refine F0.kT (zu F0.P HT) fun w1 As Am c1 c2 F1=>?_;have z:=F1.bt 1 80 rfl;have F:=zA (show kd=1 by have:=d.out;rwa[HT.out]at this);have e1:((kd:Int)==1)=true:=by have:=F.out;rw[beq_iff_eq];omega
 have G:=zA (HL.out.lt b6 (by rw[d.out];decide));have hn:=z.P.cx.n;obtain⟨⟨H,I,J,M,O,R,ps2,S⟩,T⟩:=zW C.L (zB s).k;have a2:=zA (show zG C.L (min (s.k+1) (C.N - 1))=⟨H,I,J,M,O,R,ps2,S⟩ by rw[show min (s.k+1) (C.N - 1)=s.k+1 by have:=G.out;omega];exact T.out);obtain⟨b1,U⟩:=jx (isT ⟨H,I,J,M,O,R,ps2,S⟩ [58]);have V:=zA U;clear U;obtain⟨b3,Y⟩:=jx (onP C.L [59] s);have g:=zA Y;clear Y;obtain⟨b4,a0⟩:=jx (onP C.L [123] s);have o:=zA a0;clear a0;have p:=zA (show isT (zAm C.L s.k 1) [58]=b1 by have:=V.out;rwa[←T.out]at this);have:=z.c 2;go_wp2_with fail;refine z.kT (zBH z.P 1 1 rfl jd a2) fun w3 e3 e4 e5 e7 F3=>?_;go_wp2_with fail;refine F3.kQ (zDa [58] V) fun w4 j=>?_;cases b1 with
 | true=>
  have a3:=zA (HL.out.on (s:=zB s) G p);obtain⟨e8,e9,f0⟩:=j.k1;have A:=j.step2 a3;have b7:=zA (fun Q=>A.dr.kD (Q:=Q) (HK.out.more (q:=.statement) ⟨A.dr.P.hi,trivial⟩ A.dr.P (show s.k < s.k+1+1 by omega)));have:=A.c 2;go_wp2_with fail;go_region_law (first | (go_simp;go_at_call 73;(with_reducible refine b7.out _ fun w6 a4 a5 a6 a7 a8 a9 b0 b2 b5 t=>?_);have:=t.c 2;have:=t.c 0;have:=(t.al (.cells #[a4,a5,a6,a7,a8,a9,b0,b2,b5] 58)).c 2;have b8:=zA (fun Q=>t.litN 18 tx (n:=1) (Q:=Q) (t.ts1 4) rfl js rfl)) | (go_simp;go_at_call 105;(with_reducible refine b8.out _ fun w7 u=>?_);have:=u.c 0;have:=u.f 0))
  all_goals
   have:=u.c 0;have:=u.f 0;go_wp2_with fail;exact u.fin 0 5 rfl (y.out.symm.trans (by
    unfold zD;dsimp only;rw[if_pos ⟨d.out,p.out⟩,HT.out]))
 | false=>
  have e6:((kd:Int)==6)=false:=by have:=F.out;rw[yA];omega
  have:=j.c 2;cases b3 with
  | true=>
   go_wp2_with fail;refine j.kM (zBg j.P [59] g) fun w9 F9=>?_;go_wp2_with fail;refine F9.made0 _ fun f1 v=>?_;have:=v.c 0;have:=v.f 0;go_wp2_with fail;exact v.fin 0 4 rfl (y.out.symm.trans (by
    unfold zD;dsimp only;rw[if_neg (fun h=>by rw[p.out]at h;cases h.2),if_neg (by rw[d.out];decide)];simp[g.out]))
  | false=>
   go_wp2_with fail;refine j.kM (zBl j.P [59] g) fun f2 a1=>?_;go_wp2_with fail;refine a1.kB (zAo a1.P [123] o) fun f3 e=>?_;cases b4 with
   | true=>
    go_wp2_with fail;refine e.kX (HK.out.rank (q:=.block) ⟨e.P.hi,trivial⟩ e.P (yAC _) (by simp[zr])) fun e0 B f4 b9 c0 c3 c4 c5 c6 c7 c8 c9 l=>?_;have:=l.sto 4;have:=l.c 0;have:=l.f 0;go_wp2_with fail;exact l.fin 0 4 rfl (y.out.symm.trans (by
     unfold zD;dsimp only;rw[if_neg (fun h=>by rw[p.out]at h;cases h.2),if_neg (by rw[d.out];decide)];simp[g.out,o.out,B.out]))
   | false=>
    go_wp2_with fail;refine e.kX (HK.out.rank (q:=.simple) ⟨e.P.hi,trivial⟩ e.P (yAC _) (by simp[zr])) fun e2 D f5 d0 d1 d2 d3 d4 d5 d6 d7 d8 m=>?_;have:=m.sto 4;have:=m.c 0;have:=m.f 0;go_wp2_with fail;exact m.fin 0 4 rfl (y.out.symm.trans (by
     unfold zD;dsimp only;rw[if_neg (fun h=>by rw[p.out]at h;cases h.2),if_neg (by rw[d.out];decide)];simp[g.out,o.out,D.out]))
theorem zHU (o:Pre C.L (.statement) s) (K:KP C (zk C.L (.statement) s)) (h:Pa C s w) (g:(zG C.L s.k).kind=6):zo C s w (.statement):=by
 refine zBP o h fun v y p r W X z A B t=>?_;have D:=zA K;clear K h o;go_enter func73,ntmps73;go_upto_region 1 with(fail);clear A B;have b:=zA g;clear g;obtain⟨⟨kd,tx,S,nk,nn,T,ps,nl⟩,l⟩:=zW C.L (s).k;go_wp2_with fail;refine t.kT (zu t.P l) fun w1 As Am c1 c2 E=>?_;have d:=E.bt 1 80 rfl;have j:=zA (show kd=6 by have:=b.out;rwa[l.out]at this);have e1:((kd:Int)==1)=false:=by have:=j.out;rw[yA];omega
 have e6:((kd:Int)==6)=true:=by have:=j.out;rw[beq_iff_eq];omega
 have u:=zA (v.out.lt p (by rw[b.out];decide));have:=d.c 2;go_wp2_with fail;refine d.kX (D.out.rank (q:=.word tx) ⟨d.P.hi,u⟩ d.P (yAC _) (by simp[zr])) fun R m w3 F G H I J M N O Q e=>?_;have:=e.sto 3;have:=e.c 0;have:=e.f 0;go_wp2_with fail;exact e.fin 0 3 rfl (z.out.symm.trans (by
  unfold zD;dsimp only;rw[if_neg (fun h=>by rw[b.out]at h;cases h.1),if_pos b.out,l.out];simp only[m.out]))
theorem zHF (F:Pre C.L (.statement) s) (K:KP C (zk C.L (.statement) s)) (h:Pa C s w) (u:(zG C.L s.k).kind≠1) (v:(zG C.L s.k).kind≠6):zo C s w (.statement):=by
 refine zBP F h fun HL V b0 r W X A Y hX G=>?_;have H:=zA K;clear K h F;go_enter func73,ntmps73;go_upto_region 1 with(fail);clear Y hX;have e:=zA u;have g:=zA v;clear u v;obtain⟨⟨kd,tx,st,nk,nn,mg,ps,nl⟩,B⟩:=zW C.L (s).k;go_wp2_with fail;refine G.kT (zu G.P B) fun w1 As Am c1 c2 F1=>?_;have m:=F1.bt 1 80 rfl;have e1:((kd:Int)==1)=false:=by have:=e.out;rw[B.out]at this;have:kd≠1:=this;rw[yA];omega
 have e6:((kd:Int)==6)=false:=by have:=g.out;rw[B.out]at this;have:kd≠6:=this;rw[yA];omega
 obtain⟨b3,y⟩:=jx (onP C.L [59] s);have d:=zA y;clear y;obtain⟨b4,z⟩:=jx (onP C.L [123] s);have o:=zA z;clear z;have:=m.c 2;cases b3 with
 | true=>
  go_wp2_with fail;refine m.kM (zBg m.P [59] d) fun w3 F3=>?_;go_wp2_with fail;refine F3.made0 _ fun w4 D=>?_;have:=D.c 0;have:=D.f 0;go_wp2_with fail;exact D.fin 0 3 rfl (A.out.symm.trans (by
   unfold zD;dsimp only;rw[if_neg (fun h=>e.out h.1),if_neg g.out];simp[d.out]))
 | false=>
  go_wp2_with fail;refine m.kM (zBl m.P [59] d) fun w6 I=>?_;go_wp2_with fail;refine I.kB (zAo I.P [123] o) fun w7 l=>?_;cases b4 with
  | true=>
   go_wp2_with fail;refine l.kX (H.out.rank (q:=.block) ⟨l.P.hi,trivial⟩ l.P (yAC _) (by simp[zr])) fun b1 E w8 a0 a1 a2 a3 a4 a5 a6 a7 a8 p=>?_;have:=p.sto 3;have:=p.c 0;have:=p.f 0;go_wp2_with fail;exact p.fin 0 3 rfl (A.out.symm.trans (by
    unfold zD;dsimp only;rw[if_neg (fun h=>e.out h.1),if_neg g.out];simp[d.out,o.out,E.out]))
  | false=>
   go_wp2_with fail;refine l.kX (H.out.rank (q:=.simple) ⟨l.P.hi,trivial⟩ l.P (yAC _) (by simp[zr])) fun a9 t b2 J M N O Q R S T U j=>?_;have:=j.sto 3;have:=j.c 0;have:=j.f 0;go_wp2_with fail;exact j.fin 0 3 rfl (A.out.symm.trans (by
    unfold zD;dsimp only;rw[if_neg (fun h=>e.out h.1),if_neg g.out];simp[d.out,o.out,t.out]))
theorem zHV (b:Pre C.L .statement s) (K:KP C (zk C.L .statement s)) (h:Pa C s w):zo C s w .statement:=by
 by_cases h1:(zG C.L s.k).kind=1
 · exact zHE b K h h1
 by_cases h6:(zG C.L s.k).kind=6
 · exact zHU b K h h6
 exact zHF b K h h1 h6
theorem zRH (g:Pre C.L (.jump k) s) (_K:KP C (zk C.L (.jump k) s)) (h:Pa C s w) (hk:(zG C.L (zB s).k).kind=1) (p:(zG C.L (zB s).k).nl=false):zo C s w (.jump k):=by
 refine zBP g h fun M y G r W X z A B q=>?_;have t:=zA g.2;clear h g;go_enter func138,ntmps138;go_upto_region 1 with(fail);clear A B;have d:=zA hk;have e:=zA p;clear hk p;obtain⟨H,I,J⟩:=q.k1;have D:=q.step t;go_wp2_with fail;refine D.made0 _ fun w2 E=>?_;have u:=E.bt 1 58 rfl;obtain⟨⟨kd,tx,N,nk,nn,O,ps,nl⟩,j⟩:=zW C.L (zB (s)).k;go_wp2_with fail;refine u.kT (zu u.P j) fun Q As Am c1 c2 F=>?_;have l:=F.bt 3 80 rfl;have:=l.c 4;have e1:((kd:Int)==1)=true:=by have:=d.out;rw[j.out]at this;have:kd=1:=this;rw[beq_iff_eq];omega
 have m:nl=false:=by have:=e.out;rwa[j.out]at this
 subst m;go_wp2_with fail;refine l.kS (zER l.P) fun R o=>?_;have:=o.c 2;have:=o.f 2;have v:=(o.set 2 1 (.string ⟨((zc C.L (zB s)).1).toArray⟩)).leafN k ((zc C.L (zB s)).1);go_wp2_with fail;refine v.kN (zCD v.P) fun S b=>?_;have:=b.c 2;have:=b.c 0;have:=b.f 0;go_wp2_with fail;exact b.fin 0 5 rfl (z.out.symm.trans (by
  unfold zD;dsimp only;rw[if_pos ⟨d.out,e.out⟩]))
theorem zXG (e:Pre C.L (.jump k) s) (_K:KP C (zk C.L (.jump k) s)) (h:Pa C s w) (m:(zG C.L (zB s).k).kind=1∧(zG C.L (zB s).k).nl=true):zo C s w (.jump k):=by
 refine zBP e h fun H t D r W X u v y o=>?_;have p:=zA e.2;clear h e;go_enter func138,ntmps138;go_upto_region 1 with(fail);clear v y;have b:=zA m;clear m;obtain⟨E,F,G⟩:=o.k1;have z:=o.step p;go_wp2_with fail;refine z.made0 _ fun w2 A=>?_;have q:=A.bt 1 58 rfl;obtain⟨⟨kd,tx,I,nk,nn,J,ps,nl⟩,g⟩:=zW C.L (zB (s)).k;go_wp2_with fail;refine q.kT (zu q.P g) fun M As Am c1 c2 B=>?_;have j:=B.bt 3 80 rfl;have:=j.c 4;have e1:((kd:Int)==1)=true:=by have:=b.out.1;rw[g.out]at this;have:kd=1:=this;rw[beq_iff_eq];omega
 have l:nl=true:=by have:=b.out.2;rwa[g.out]at this
 subst l;go_wp2_with fail;refine j.kN (zCD j.P) fun N d=>?_;have:=d.c 2;have:=d.c 0;have:=d.f 0;go_wp2_with fail;exact d.fin 0 1 rfl (u.out.symm.trans (by
  unfold zD;dsimp only;rw[if_neg (fun h=>by rw[b.out.2]at h;cases h.2)]))
theorem zXH (e:Pre C.L (.jump k) s) (_K:KP C (zk C.L (.jump k) s)) (h:Pa C s w) (j:(zG C.L (zB s).k).kind≠1):zo C s w (.jump k):=by
 refine zBP e h fun G q B r W X t u v l=>?_;have m:=zA e.2;clear h e;go_enter func138,ntmps138;go_upto_region 1 with(fail);clear u v;have d:=zA j;clear j;obtain⟨D,E,F⟩:=l.k1;have y:=l.step m;go_wp2_with fail;refine y.made0 _ fun w2 z=>?_;have o:=z.bt 1 58 rfl;obtain⟨⟨kd,tx,H,nk,nn,I,ps,nl⟩,p⟩:=zW C.L (zB (s)).k;go_wp2_with fail;refine o.kT (zu o.P p) fun J As Am c1 c2 A=>?_;have g:=A.bt 3 80 rfl;have:=g.c 4;have e1:((kd:Int)==1)=false:=by have:=d.out;rw[p.out]at this;have:kd≠1:=this;rw[yA];omega
 go_wp2_with fail;refine g.kN (zCD g.P) fun M b=>?_;have:=b.c 2;have:=b.c 0;have:=b.f 0;go_wp2_with fail;exact b.fin 0 1 rfl (t.out.symm.trans (by
  unfold zD;dsimp only;rw[if_neg (fun h=>d.out h.1)]))
theorem zUW (b:Pre C.L (.jump k) s) (_K:KP C (zk C.L (.jump k) s)) (h:Pa C s w):zo C s w (.jump k):=by
 by_cases h1:(zG C.L (zB s).k).kind=1
 · cases h2:(zG C.L (zB s).k).nl with
   | false=>exact zRH b _K h h1 h2
   | true=>exact zXG b _K h ⟨h1,h2⟩
 · exact zXH b _K h h1
theorem zNs (j:Pre C.L (.word [119,104,105,108,101]) s) (K:KP C (zk C.L (.word [119,104,105,108,101]) s)) (h:Pa C s w):zo C s w (.word [119,104,105,108,101]):=by
 refine zBP j h fun A B a4 r W X D E F u=>?_;have v:=zA K;have g:=zA j.2;clear K h j;go_enter func113,ntmps113;go_upto_region 1 with(fail);clear E F;obtain⟨a5,a6,a7⟩:=u.k1;have l:=u.step g;have d:=zA (zf A (p:=.within) (s:=zB s) ⟨g,trivial⟩);go_wp2_with fail;refine l.kX (v.out.more (q:=.within) ⟨l.P.hi,trivial⟩ l.P (yAF s.k)) fun y b w2 G H I J M N O Q R e=>?_;have:=e.sto 1;have z:=zA (show s.k < y.2.k from by have:=d.out.adv.le;rw[b.out]at this;exact yAA (yAF s.k) this);go_wp2_with fail;refine e.kX (v.out.more (q:=.statement) ⟨e.P.hi,trivial⟩ e.P z) fun a8 m w3 S T U V Y a0 a1 a2 a3 o=>?_;have:=o.sto 2;go_wp2_with fail;refine o.litK _ (n:=2) (o.ts2 1 2) rfl js rfl fun w4 t=>?_;have:=t.c 0;have:=t.f 0;go_wp2_with fail;exact t.fin 0 3 rfl (D.out.symm.trans (by
  unfold zD;dsimp only;rw[ji,if_pos rfl];simp only[b.out,m.out]))
theorem zUX (d:Pre C.L (.word [102,111,114]) s) (K:KP C (zk C.L (.word [102,111,114]) s)) (h:Pa C s w):zo C s w (.word [102,111,114]):=by
 refine zBP d h fun H k F r W X l m o e=>?_;have p:=zA K;have j:=zA d.2;clear K h d;go_enter func113,ntmps113;go_upto_region 1 with(fail);clear m o;go_wp2_with fail;refine e.kX (p.out.rank (q:=.loop) ⟨e.P.hi,j⟩ e.P (yAC _) (by simp[zr])) fun G g w1 t u v y z A B D E b=>?_;have:=b.sto 1;have:=b.c 0;have:=b.f 0;go_wp2_with fail;exact b.fin 0 1 rfl (l.out.symm.trans (by
  unfold zD;dsimp only;rw[ji,ji,if_pos rfl];simp only[g.out]))
theorem zNt (d:Pre C.L (.word [98,114,101,97,107]) s) (K:KP C (zk C.L (.word [98,114,101,97,107]) s)) (h:Pa C s w):zo C s w (.word [98,114,101,97,107]):=by
 refine zBP d h fun H k F r W X l m o e=>?_;have p:=zA K;have j:=zA d.2;clear K h d;go_enter func113,ntmps113;go_upto_region 1 with(fail);clear m o;go_wp2_with fail;refine e.kX (p.out.rank (q:=.jump 12) ⟨e.P.hi,j⟩ e.P (yAC _) (by simp[zr])) fun G g w1 t u v y z A B D E b=>?_;have:=b.sto 1;have:=b.c 0;have:=b.f 0;go_wp2_with fail;exact b.fin 0 1 rfl (l.out.symm.trans (by
  unfold zD;dsimp only;rw[ji,ji,ji,if_pos rfl];simp only[g.out]))
theorem zIn (d:Pre C.L (.word [99,111,110,116,105,110,117,101]) s) (K:KP C (zk C.L (.word [99,111,110,116,105,110,117,101]) s)) (h:Pa C s w):zo C s w (.word [99,111,110,116,105,110,117,101]):=by
 refine zBP d h fun H k F r W X l m o e=>?_;have p:=zA K;have j:=zA d.2;clear K h d;go_enter func113,ntmps113;go_upto_region 1 with(fail);clear m o;go_wp2_with fail;refine e.kX (p.out.rank (q:=.jump 13) ⟨e.P.hi,j⟩ e.P (yAC _) (by simp[zr])) fun G g w1 t u v y z A B D E b=>?_;have:=b.sto 1;have:=b.c 0;have:=b.f 0;go_wp2_with fail;exact b.fin 0 1 rfl (l.out.symm.trans (by
  unfold zD;dsimp only;rw[ji,ji,ji,ji,if_pos rfl];simp only[g.out]))
theorem zUY (d:Pre C.L (.word [116,114,121]) s) (K:KP C (zk C.L (.word [116,114,121]) s)) (h:Pa C s w):zo C s w (.word [116,114,121]):=by
 refine zBP d h fun H k F r W X l m o e=>?_;have p:=zA K;have j:=zA d.2;clear K h d;go_enter func113,ntmps113;go_upto_region 1 with(fail);clear m o;go_wp2_with fail;refine e.kX (p.out.rank (q:=.tries) ⟨e.P.hi,j⟩ e.P (yAC _) (by simp[zr])) fun G g w1 t u v y z A B D E b=>?_;have:=b.sto 1;have:=b.c 0;have:=b.f 0;go_wp2_with fail;exact b.fin 0 1 rfl (l.out.symm.trans (by
  unfold zD;dsimp only;rw[ji,ji,ji,ji,ji,ji,ji,if_pos rfl];simp only[g.out]))
theorem zHG (j:Pre C.L (.word [116,104,114,111,119]) s) (K:KP C (zk C.L (.word [116,104,114,111,119]) s)) (h:Pa C s w) (d:(zG C.L (zB s).k).nl=true):zo C s w (.word [116,104,114,111,119]):=by
 refine zBP j h fun HL B U r W X D E F t=>?_;have G:=zA K;have e:=zA j.2;clear K h j;go_enter func113,ntmps113;go_upto_region 1 with(fail);clear E F;have g:=zA d;clear d;have V:=zNl;obtain⟨Y,a0,a1⟩:=t.k1;have u:=t.step e;obtain⟨⟨kd,tx,st,nk,nn,mg,ps,nl⟩,v⟩:=zW C.L (zB (s)).k;have l:nl=true:=by have:=g.out;rwa[v.out]at this
 subst l;go_wp2_with fail;refine u.kT (zu u.P v) fun w2 As Am c1 c2 y=>?_;go_wp2_with fail;refine y.kN (zAO y.P) fun w3 m=>?_;have z:=zA (show(zB s).k≤(za C.L (zB s)).k from(zy (s:=zB s) e).adv.le);go_wp2_with fail;refine m.kX (G.out.more (q:=.assign) ⟨m.P.hi,trivial⟩ m.P (yAA (yAF s.k) z)) fun a2 o w4 H I J M N O Q R S p=>?_;have:=p.sto 2;go_wp2_with fail;refine p.litK _ (n:=1) (p.ts1 2) rfl js rfl fun w5 T=>?_;have A:=T.bt 3 58 rfl;go_wp2_with fail;refine A.kN (zCD A.P) fun w7 b=>?_;have:=b.c 4;have:=b.c 0;have:=b.f 0;go_wp2_with fail;exact b.fin 0 3 rfl (D.out.symm.trans (by
  unfold zD;dsimp only;rw[ji,ji,ji,ji,ji,ji,if_pos rfl];simp[g.out,o.out]))
theorem zF8 (g:Pre C.L (.word [116,104,114,111,119]) s) (K:KP C (zk C.L (.word [116,104,114,111,119]) s)) (h:Pa C s w) (d:(zG C.L (zB s).k).nl=false):zo C s w (.word [116,104,114,111,119]):=by
 refine zBP g h fun HL z S r W X A B D p=>?_;have E:=zA K;have t:=zA g.2;clear K h g;go_enter func113,ntmps113;go_upto_region 1 with(fail);clear B D;have e:=zA d;clear d;have T:=zNl;obtain⟨U,V,Y⟩:=p.k1;have u:=p.step t;obtain⟨⟨kd,tx,st,nk,nn,mg,ps,nl⟩,v⟩:=zW C.L (zB (s)).k;have j:nl=false:=by have:=e.out;rwa[v.out]at this
 subst j;go_wp2_with fail;refine u.kT (zu u.P v) fun w2 As Am c1 c2 l=>?_;go_wp2_with fail;refine l.kX (E.out.more (q:=.assign) ⟨l.P.hi,trivial⟩ l.P (yAF s.k)) fun a0 m w3 F G H I J M N O Q o=>?_;have:=o.sto 2;go_wp2_with fail;refine o.litK _ (n:=1) (o.ts1 2) rfl js rfl fun w4 R=>?_;have y:=R.bt 3 58 rfl;go_wp2_with fail;refine y.kN (zCD y.P) fun w6 b=>?_;have:=b.c 4;have:=b.c 0;have:=b.f 0;go_wp2_with fail;exact b.fin 0 3 rfl (A.out.symm.trans (by
  unfold zD;dsimp only;rw[ji,ji,ji,ji,ji,ji,if_pos rfl];simp[e.out,m.out]))
theorem zIo (d:Pre C.L (.word [102,117,110,99,116,105,111,110]) s) (_K:KP C (zk C.L (.word [102,117,110,99,116,105,111,110]) s)) (h:Pa C s w):zo C s w (.word [102,117,110,99,116,105,111,110]):=by
 refine zBP d h fun p g o r W X j k l e=>?_;clear h d;go_enter func113,ntmps113;go_upto_region 1 with(fail);clear k l;go_wp2_with fail;refine e.kN (zAO e.P) fun w1 m=>?_;go_wp2_with fail;refine m.made0 _ fun w2 b=>?_;have:=b.c 0;have:=b.f 0;go_wp2_with fail;exact b.fin 0 1 rfl (j.out.symm.trans (by
  unfold zD;dsimp only;rw[ji,ji,ji,ji,ji,ji,ji,ji,if_pos (.inl rfl)]))
theorem zUZ (d:Pre C.L (.word [108,101,116]) s) (_K:KP C (zk C.L (.word [108,101,116]) s)) (h:Pa C s w):zo C s w (.word [108,101,116]):=by
 refine zBP d h fun p g o r W X j k l e=>?_;clear h d;go_enter func113,ntmps113;go_upto_region 1 with(fail);clear k l;go_wp2_with fail;refine e.kN (zAO e.P) fun w1 m=>?_;go_wp2_with fail;refine m.made0 _ fun w2 b=>?_;have:=b.c 0;have:=b.f 0;go_wp2_with fail;exact b.fin 0 1 rfl (j.out.symm.trans (by
  unfold zD;dsimp only;rw[ji,ji,ji,ji,ji,ji,ji,ji,if_pos (.inr (.inl rfl))]))
theorem zNu (d:Pre C.L (.word [99,111,110,115,116]) s) (_K:KP C (zk C.L (.word [99,111,110,115,116]) s)) (h:Pa C s w):zo C s w (.word [99,111,110,115,116]):=by
 refine zBP d h fun p g o r W X j k l e=>?_;clear h d;go_enter func113,ntmps113;go_upto_region 1 with(fail);clear k l;go_wp2_with fail;refine e.kN (zAO e.P) fun w1 m=>?_;go_wp2_with fail;refine m.made0 _ fun w2 b=>?_;have:=b.c 0;have:=b.f 0;go_wp2_with fail;exact b.fin 0 1 rfl (j.out.symm.trans (by
  unfold zD;dsimp only;rw[ji,ji,ji,ji,ji,ji,ji,ji,if_pos (.inr (.inr rfl))]))
theorem zNv (j:Pre C.L (.word v) s) (K:KP C (zk C.L (.word v) s)) (h:Pa C s w) (k:¬v=[105,102]) (h1:¬v=[119,104,105,108,101]) (l:¬v=[102,111,114]) (m:¬v=[98,114,101,97,107]) (o:¬v=[99,111,110,116,105,110,117,101]) (p:¬v=[114,101,116,117,114,110]) (h6:¬v=[116,104,114,111,119]) (t:¬v=[116,114,121]) (u:¬v=[102,117,110,99,116,105,111,110]) (y:¬v=[108,101,116]) (d:¬v=[99,111,110,115,116]):zo C s w (.word v):=by
 refine zBP j h fun U z R r W X A B D e=>?_;have E:=zA K;clear K h j;go_enter func113,ntmps113;go_upto_region 1 with(fail);clear B D;have V:(v==[105,102])=false:=yA.mpr k;have Y:(v==[119,104,105,108,101])=false:=yA.mpr h1;have n2:(v==[102,111,114])=false:=yA.mpr l;have n3:(v==[98,114,101,97,107])=false:=yA.mpr m;have n4:(v==[99,111,110,116,105,110,117,101])=false:=yA.mpr o;have n5:(v==[114,101,116,117,114,110])=false:=yA.mpr p;have n6:(v==[116,104,114,111,119])=false:=yA.mpr h6;have n7:(v==[116,114,121])=false:=yA.mpr t;have n8:(v==[102,117,110,99,116,105,111,110])=false:=yA.mpr u;have n9:(v==[108,101,116])=false:=yA.mpr y;have S:(v==[99,111,110,115,116])=false:=yA.mpr d;go_wp2_with fail;refine e.kX (E.out.rank (q:=.simple) ⟨e.P.hi,trivial⟩ e.P (yAC _) (by simp[zr])) fun T g w1 F G H I J M N O Q b=>?_;have:=b.sto 1;have:=b.c 0;have:=b.f 0;go_wp2_with fail;exact b.fin 0 1 rfl (A.out.symm.trans (by
  unfold zD;dsimp only;rw[if_neg k,if_neg h1,if_neg l,if_neg m,if_neg o,if_neg p,if_neg h6,if_neg t,if_neg (fun h=>h.elim u (fun h=>h.elim y d))];simp only[g.out]))
theorem zNw (B:Pre C.L (.word [105,102]) s) (K:KP C (zk C.L (.word [105,102]) s)) (h:Pa C s w) (j:onP C.L [101,108,115,101] (zE C.L .statement (zE C.L .within (zB s)).2).2=false):zo C s w (.word [105,102]):=by
 refine zBP B h fun F M b2 r W X N O Q G=>?_;have H:=zA K;have y:=zA B.2;clear K h B;go_enter func113,ntmps113;go_upto_region 1 with(fail);clear O Q;obtain⟨b3,b4,b5⟩:=G.k1;have D:=G.step y;have t:=zA (zf F (p:=.within) (s:=zB s) ⟨y,trivial⟩);go_wp2_with fail;refine D.kX (H.out.more (q:=.within) ⟨D.P.hi,trivial⟩ D.P (yAF s.k)) fun l d w2 R S T U V Y a0 a1 a2 u=>?_;have:=u.sto 1;have I:=zA (show Adv C.L (zB s) (l.2) by have:=t.out.adv;rwa[d.out]at this);have z:=zA (show s.k < (l.2).k from yAA (yAF s.k) I.out.le);have m:=zA (zf F (p:=.statement) (s:=l.2) ⟨I.out.hi,trivial⟩);go_wp2_with fail;refine u.kX (H.out.more (q:=.statement) ⟨u.P.hi,trivial⟩ u.P z) fun g e w3 a3 a4 a5 a6 a7 a8 a9 b0 b1 E=>?_;have:=E.sto 2;have hy:=zA (show s.k < (g.2).k from yAA z (show _≤(g.2).k by have:=m.out.adv.le;rwa[e.out]at this));obtain⟨be,A⟩:=jx (onP C.L [101,108,115,101] (g.2));have o:=zA A;clear A;go_wp2_with fail;refine E.litR _ (n:=2) (E.ts2 1 2) rfl js rfl fun w4 F4=>?_;have J:=F4.bt 4 58 rfl;have j:=zA (show onP C.L [101,108,115,101] (g.2)=false by have:=j;rwa[d.out,e.out]at this);cases be with
 | true=>exact absurd o.out (by have:=j.out;simp[this])
 | false=>
  go_wp2_with fail;refine J.kM (zBl J.P [101,108,115,101] o) fun w6 v=>?_;have:=v.c 5;have:=v.c 0;have:=v.f 0;go_wp2_with fail;exact v.fin 0 4 rfl (N.out.symm.trans (by
   unfold zD;dsimp only;simp[d.out,e.out,o.out]))
theorem zKF (D:Pre C.L (.word [105,102]) s) (K:KP C (zk C.L (.word [105,102]) s)) (h:Pa C s w) (j:onP C.L [101,108,115,101] (zE C.L .statement (zE C.L .within (zB s)).2).2=true):zo C s w (.word [105,102]):=by
 refine zBP D h fun HL a3 c2 r W X HR hW hX F0=>?_;have E:=zA K;have z:=zA D.2;clear K h D;go_enter func113,ntmps113;go_upto_region 1 with(fail);clear hW hX;obtain⟨c3,c4,c5⟩:=F0.k1;have F:=F0.step z;have t:=zA (zf HL (p:=.within) (s:=zB s) ⟨z,trivial⟩);go_wp2_with fail;refine F.kX (E.out.more (q:=.within) ⟨F.P.hi,trivial⟩ F.P (yAF s.k)) fun l d w2 a4 a5 a6 a7 a8 a9 b0 b1 b2 u=>?_;have:=u.sto 1;have hx:=zA (show Adv C.L (zB s) (l.2) by have:=t.out.adv;rwa[d.out]at this);have A:=zA (show s.k < (l.2).k from yAA (yAF s.k) hx.out.le);have m:=zA (zf HL (p:=.statement) (s:=l.2) ⟨hx.out.hi,trivial⟩);go_wp2_with fail;refine u.kX (E.out.more (q:=.statement) ⟨u.P.hi,trivial⟩ u.P A) fun g e w3 b3 b4 b5 b6 b7 b8 b9 c0 c1 G=>?_;have:=G.sto 2;have hy:=zA (show s.k < (g.2).k from yAA A (show _≤(g.2).k by have:=m.out.adv.le;rwa[e.out]at this));obtain⟨be,B⟩:=jx (onP C.L [101,108,115,101] (g.2));have o:=zA B;clear B;go_wp2_with fail;refine G.litR _ (n:=2) (G.ts2 1 2) rfl js rfl fun w4 F4=>?_;have F5:=F4.bt 4 58 rfl;have j:=zA (show onP C.L [101,108,115,101] (g.2)=true by have:=j;rwa[d.out,e.out]at this);cases be with
 | false=>exact absurd o.out (by have:=j.out;simp[this])
 | true=>
  go_wp2_with fail;refine F5.kM (zBg F5.P [101,108,115,101] o) fun w6 v=>?_;have a0:=zA (fun Q=>v.dr.kRX 3 rfl (Q:=Q) (E.out.more (q:=.statement) ⟨v.dr.P.hi,trivial⟩ v.dr.P (Nat.lt_succ_of_lt hy)));have:=v.c 5;go_wp2_with fail;go_region_law (first | (go_simp;go_at_call 73;(with_reducible refine a0.out _ fun c6 H w7 I J M N O R S T U V=>?_);have:=V.c 5;have:=(V.al (.cells #[I,J,M,N,O,R,S,T,U] 58)).c 5) | (refine V.snocS 3 6 rfl rfl (fun _ h=>h) js rfl _ _ rfl rfl rfl fun A8 a1 w8 Y=>?_;have:=Y.c 5;have:=Y.f 5))
  all_goals
   have y:=Y.set 5 8 (.slice A8 (2+1) a1);have:=y.c 5;have:=y.c 0;have:=y.f 0;go_wp2_with fail;have a2:=y.rowK 3 rfl 8;exact a2.fin 0 7 rfl (HR.out.symm.trans (by
    unfold zD;dsimp only;simp[d.out,e.out,H.out,o.out]))
theorem zHH (g:Pre C.L (.word [114,101,116,117,114,110]) s) (_K:KP C (zk C.L (.word [114,101,116,117,114,110]) s)) (h:Pa C s w) (d:zDe C.L (zB s)=true):zo C s w (.word [114,101,116,117,114,110]):=by
 refine zBP g h fun D o y r W X p q t j=>?_;have k:=zA g.2;clear h g;go_enter func113,ntmps113;go_upto_region 1 with(fail);clear q t;have e:=zA d;clear d;obtain⟨z,A,B⟩:=j.k1;have u:=j.step k;go_wp2_with fail;refine u.made0 _ fun w2 v=>?_;have l:=v.bt 1 58 rfl;go_wp2_with fail;refine l.kB (zKB l.P e) fun E m=>?_;go_wp2_with fail;refine m.kN (zCD m.P) fun F b=>?_;have:=b.c 2;have:=b.c 0;have:=b.f 0;go_wp2_with fail;exact b.fin 0 1 rfl (p.out.symm.trans (by
  unfold zD;dsimp only;simp[e.out]))
theorem zHW (j:Pre C.L (.word [114,101,116,117,114,110]) s) (K:KP C (zk C.L (.word [114,101,116,117,114,110]) s)) (h:Pa C s w) (e:zDe C.L (zB s)=false):zo C s w (.word [114,101,116,117,114,110]):=by
 refine zBP j h fun HL N a0 r W X O R S E=>?_;have T:=zA K;have F:=zA j.2;clear K h j;go_enter func113,ntmps113;go_upto_region 1 with(fail);clear R S;have g:=zA e;clear e;obtain⟨a1,a2,a3⟩:=E.k1;have U:=E.step F;go_wp2_with fail;refine U.made0 _ fun w2 V=>?_;have G:=V.bt 1 58 rfl;go_wp2_with fail;refine G.kB (zKB G.P g) fun w4 Y=>?_;have b:=Y.nil;have H:=zA (fun Q=>b.dr.kRX 3 rfl (Q:=Q) (T.out.more (q:=.assign) ⟨b.dr.P.hi,trivial⟩ b.dr.P (yAF s.k)));have:=b.c 2;go_wp2_with fail;go_region_law (first | (go_simp;go_at_call 106;(with_reducible refine H.out _ fun a4 l w6 m o p t u v y z A B=>?_);have:=B.c 2;have:=(B.al (.cells #[m,o,p,t,u,v,y,z,A] 58)).c 2) | (refine B.snocS 3 4 rfl rfl (fun _ h=>h) js rfl _ _ rfl rfl rfl fun A7 I w7 D=>?_;have:=D.c 2;have:=D.f 2))
 all_goals
  have J:=D.set 2 8 (.slice A7 1 I);go_wp2_with fail;refine J.kN (zCD J.P) fun w9 d=>?_;have:=d.c 2;have:=d.c 0;have:=d.f 0;go_wp2_with fail;have M:=d.rowK 3 rfl 14;exact M.fin 0 5 rfl (O.out.symm.trans (by
   unfold zD;dsimp only;simp[g.out,l.out]))
theorem zUa (b:Pre C.L (.word v) s) (K:KP C (zk C.L (.word v) s)) (h:Pa C s w):zo C s w (.word v):=by
 by_cases d:v=[105,102]
 · subst d;cases hel:onP C.L [101,108,115,101] (zE C.L .statement (zE C.L .within (zB s)).2).2 with
   | true=>exact zKF b K h hel
   | false=>exact zNw b K h hel
 by_cases h1:v=[119,104,105,108,101]
 · subst h1;exact zNs b K h
 by_cases e:v=[102,111,114]
 · subst e;exact zUX b K h
 by_cases f:v=[98,114,101,97,107]
 · subst f;exact zNt b K h
 by_cases g:v=[99,111,110,116,105,110,117,101]
 · subst g;exact zIn b K h
 by_cases j:v=[114,101,116,117,114,110]
 · subst j;cases hbe:zDe C.L (zB s)with
   | true=>exact zHH b K h hbe
   | false=>exact zHW b K h hbe
 by_cases h6:v=[116,104,114,111,119]
 · subst h6;cases hnl:(zG C.L (zB s).k).nl with
   | true=>exact zHG b K h hnl
   | false=>exact zF8 b K h hnl
 by_cases l:v=[116,114,121]
 · subst l;exact zUY b K h
 by_cases m:v=[102,117,110,99,116,105,111,110]
 · subst m;exact zIo b K h
 by_cases o:v=[108,101,116]
 · subst o;exact zUZ b K h
 by_cases c:v=[99,111,110,115,116]
 · subst c;exact zNu b K h
 exact zNv b K h d h1 e f g j h6 l m o c
def zEC (L:List Tok) (f i:Nat):Bool:=match zEd L f i with | none=>false | some j=>zBy L j
theorem zRI (h:(zG L i).kind≠1):zEC L f i=false:=by
 unfold zEC;cases f with
 | zero=>rfl
 | succ f=>unfold zEd;rw[if_neg h]
theorem zRJ (h:(zG L i).kind=1) (b:isT (zG L (i+1)) [44]=true):zEC L (f+1) i=zEC L f (i+2):=by
 unfold zEC;rw[zEd,if_pos h,if_pos b]
theorem zNx (h:(zG L i).kind=1) (b:isT (zG L (i+1)) [44]=false):zEC L (f+1) i=zBy L (i+1):=by
 unfold zEC;rw[zEd,if_pos h,if_neg (by rw[b];decide)]
theorem zMQ (h:onP L [40] s=true):zAh L s=(if isT (zG L (s.k+1)) [41]=true then zBy L (s.k+1)else zEC L L.length (s.k+1)):=by
 unfold zAh zEC;rw[h,Bool.true_and];rfl
theorem zHI (h:L.length≤i):zG L i=zq:=by
 unfold zG;rw[yAG,List.getElem?_eq_none h];rfl
theorem zUb (b:Lst L) (i N:Nat) (hN:L.length=N):(zG L (min i (N - 1))).kind=(zG L i).kind:=by
 subst hN;rcases Nat.lt_or_ge i L.length with h | h
 · rw[show min i (L.length - 1)=i by omega]
 · have c:=b.pos;rw[show min i (L.length - 1)=L.length - 1 by omega,zHI h,b.last];rfl
theorem zFs (b:Lst L) (i N:Nat) (hN:L.length=N) (v:List UInt8):isT (zG L (min i (N - 1))) v=isT (zG L i) v:=by
 subst hN;rcases Nat.lt_or_ge i L.length with h | h
 · rw[show min i (L.length - 1)=i by omega]
 · have d:=b.pos;have c:=b.last;rw[show min i (L.length - 1)=L.length - 1 by omega,zHI h];unfold isT;rw[c];simp[zq]
theorem zXI (h:(zG L i).kind=1):i < L.length:=by
 rcases Nat.lt_or_ge i L.length with b | b
 · exact b
 · rw[zHI b]at h;exact absurd h jd
theorem zRK (h:Pa C s w):Calls prog 132 #[C] w (zNk C s (zAh C.L s) w):=by
 have j:=zA h.cx.lst;have o5:C.N≤4097:=h.cx.n4;have hN:C.L.length=C.N:=h.cx.n;have q2:=h.kN;have k4:=zA h;have q3:=zYZ;obtain⟨b0,b3⟩:=jx (onP C.L [40] s);obtain⟨b1,b4⟩:=jx (isT (zG C.L (s.k+1)) [41]);obtain⟨r,hr⟩:=jx (zAh C.L s);rw[hr];have HR:=zA hr;have p:=zA b3;have A:=zA b4;clear h hr b3 b4;go_enter func132,ntmps132;go_wp2_with fail;refine(zAo k4 [40] p).mono ?_;rintro e1 w1 ⟨rfl,b5,b6⟩;have b7:=zA b5;have b8:=zA b6;clear b5 b6;cases b0 with
 | false=>
  go_wp2_with fail;go_ret;exact⟨zJ (by rw[←HR.out];unfold zAh;rw[p.out];rfl),b7,b8⟩
 | true=>
  obtain⟨⟨k5,k6,k7,k8,k9,l0,l1,l2⟩,B⟩:=jx (zG C.L (min (s.k+(1)) (C.N - 1)));have b9:=zA B;clear B;go_wp2_with fail;refine(zBH b7 (1) _ (by first | omega | decide | rfl) jo b9).mono ?_;rintro e2 w2 ⟨q4,q5,q6,q7,rfl,l3,l4,c0,c1⟩;have l5:=zA c0;have l6:=zA (zC b8 c1);clear l3 l4 c0 c1;go_wp2_with fail;refine(zDa [41] (show isT ⟨k5,k6,k7,k8,k9,l0,l1,l2⟩ [41]=b1 by rw[←b9.out,zFs j.out _ _ hN];exact A.out)).mono ?_;rintro e3 w3 ⟨rfl,D⟩;have c2:=zA (l5.out.new D);have c3:=zA (zC l6 D);clear D;cases b1 with
  | true=>
   obtain⟨E,F⟩:=jx (isT (zG C.L (s.k+(1))) [41]);obtain⟨c4,G⟩:=jx (isT (zG C.L (s.k+(1+1))) [61,62]);have H:=zA F;have I:=zA G;clear F G;have J:=zA (show r=(E&&c4) by
    rw[←HR.out,zMQ p.out,if_pos A.out];unfold zBy;rw[←H.out,←I.out]
    all_goals first | rfl | (congr 3;omega))
   obtain⟨⟨f2,f3,f4,f5,f6,f7,f8,f9⟩,q⟩:=jx (zG C.L (min (s.k+(1)) (C.N - 1)));have M:=zA q;clear q;go_wp2_with fail;refine(zBH c2 (1) _ (by first | omega | decide | rfl) jo M).mono ?_;rintro e4 w4 ⟨o6,o7,o8,o9,rfl,l7,l8,c5,c6⟩;have l9:=zA c5;have m0:=zA (zC c3 c6);clear l7 l8 c5 c6;go_wp2_with fail;refine(zDa [41] (show isT ⟨f2,f3,f4,f5,f6,f7,f8,f9⟩ [41]=E by rw[←M.out,zFs j.out _ _ hN];exact H.out)).mono ?_;rintro e5 w5 ⟨rfl,O⟩;have c7:=zA (l9.out.new O);have c8:=zA (zC m0 O);clear O;cases E with
   | false=>
    go_wp2_with fail;go_ret;exact⟨zJ J.out.symm,c7,c8⟩
   | true=>
    obtain⟨⟨g0,g1,g2,g3,g4,g5,g6,g7⟩,t⟩:=jx (zG C.L (min (s.k+(1+1)) (C.N - 1)));have P:=zA t;clear t;go_wp2_with fail;refine(zBH c7 (1+1) _ (by first | omega | decide | rfl) jo P).mono ?_;rintro e6 w6 ⟨p0,p1,p2,p3,rfl,m1,m2,c9,d0⟩;have m3:=zA c9;have m4:=zA (zC c8 d0);clear m1 m2 c9 d0;go_wp2_with fail;refine(zDa [61,62] (show isT ⟨g0,g1,g2,g3,g4,g5,g6,g7⟩ [61,62]=c4 by rw[←P.out,zFs j.out _ _ hN];exact I.out)).mono ?_;rintro e7 w7 ⟨rfl,Q⟩;have m5:=zA (m3.out.new Q);have m6:=zA (zC m4 Q);clear Q;go_wp2_with fail;go_ret;exact⟨zJ (by rw[J.out];rfl),m5,m6⟩
  | false=>
   have m7:=zA (show zEC C.L C.L.length (s.k+1)=r by rw[←HR.out,zMQ p.out,if_neg (by rw[A.out];decide)]);go_wp2_with fail
   go_loopg [3] C.L.length (fun f v wr=>∃i:Nat,C.L.length≤f+s.k+i∧v=.int .i64 (i:Int)∧i≤5000∧Hid (zEC C.L f (s.k+i)=r)∧Hid (Pa C s wr)∧Hid (w.grownBy wr none))
   case atStart=>exact⟨1,by omega,rfl,by omega,m7,c2,c3⟩
   case round=>
    obtain⟨i,q8,hv,hi,R,m8,m9⟩:=hrel;subst hv;obtain⟨ck,u⟩:=jx (decide ((zG C.L (s.k+i)).kind=1));have q9:IntKind.i64.wrap ((i:Int)+1)=(i:Int)+1:=by rw[IntKind.wrap_i64];omega
    have r0:IntKind.i64.wrap ((i:Int)+1+1)=(i:Int)+1+1:=by rw[IntKind.wrap_i64];omega
    obtain⟨⟨e,r1,r2,r3,r4,r5,r6,r7⟩,S⟩:=jx (zG C.L (min (s.k+(i)) (C.N - 1)));have d1:=zA S;clear S;go_wp2_with fail;refine(zBH m8 (i) _ (by first | omega | decide | rfl) jo d1).mono ?_;rintro e8 w8 ⟨r8,r9,s1,s2,rfl,n0,n1,d2,d3⟩;have d4:=zA d2;have d5:=zA (zC m9 d3);clear n0 n1 d2 d3;have d6:e=(zG C.L (s.k+i)).kind:=by have:=zUb j (s.k+i) C.N hN;rwa[d1.out]at this
    cases ck with
    | false=>
     have d:(zG C.L (s.k+i)).kind≠1:=by simpa using u
     have e1:((e:Int)==1)=false:=by rw[yA];omega
     have e2:((e:Int) !=1)=true:=by rw[bne,e1];rfl
     have HZ:=zA (show r=false from R.out.symm.trans (zRI d));clear d6 u d;go_wp2_with fail;go_ret;exact⟨zJ HZ.out.symm,d4,d5⟩
    | true=>
     have d:(zG C.L (s.k+i)).kind=1:=by simpa using u
     have e1:((e:Int)==1)=true:=by rw[beq_iff_eq];omega
     have e2:((e:Int) !=1)=false:=by rw[bne,e1];rfl
     have s3:=zXI d;have d7:=zA d;clear d6 u d;obtain⟨f,rfl⟩:∃f,gk=f+1:=⟨gk - 1,by omega⟩;obtain⟨bc,d8⟩:=jx (isT (zG C.L (s.k+(i+1))) [44]);have T:=zA d8;clear d8;obtain⟨⟨n2,n3,n5,n6,n7,n8,n9,o0⟩,U⟩:=jx (zG C.L (min (s.k+(i+1)) (C.N - 1)));have d9:=zA U;clear U;go_wp2_with fail;refine(zBH d4 (i+1) _ (by first | omega | decide | rfl) jo d9).mono ?_;rintro e9 w9 ⟨s4,s5,s6,s7,rfl,o1,o2,e0,f0⟩;have o3:=zA e0;have o4:=zA (zC d5 f0);clear o1 o2 e0 f0;go_wp2_with fail;refine(zDa [44] (show isT ⟨n2,n3,n5,n6,n7,n8,n9,o0⟩ [44]=bc by rw[←d9.out,zFs j.out _ _ hN];exact T.out)).mono ?_;rintro s8 s9 ⟨rfl,l⟩;have V:=zA (o3.out.new l);have W:=zA (zC o4 l);clear l;cases bc with
     | true=>
      go_wp2_with fail
      go_roundg f
      case measure=>omega
      case rel=>exact⟨i+2,by omega,congrArg (Value.int .i64) jo,by omega,(zRJ d7 T).symm.trans R,V,W⟩
     | false=>
      obtain⟨X,Y⟩:=jx (isT (zG C.L (s.k+(i+1))) [41]);obtain⟨f1,a0⟩:=jx (isT (zG C.L (s.k+(i+1+1))) [61,62]);have a1:=zA Y;have a2:=zA a0;clear Y a0;have J:=zA (show r=(X&&f1) by
       rw[←R.out,zNx d7.out T.out];unfold zBy;rw[←a1.out,←a2.out]
       all_goals first | rfl | (congr 3;omega))
      obtain⟨⟨g8,g9,h0,h1,h2,h3,h4,h5⟩,y⟩:=jx (zG C.L (min (s.k+(i+1)) (C.N - 1)));have a3:=zA y;clear y;go_wp2_with fail;refine(zBH V (i+1) _ (by first | omega | decide | rfl) jo a3).mono ?_;rintro t0 t1 ⟨p4,p5,p6,p7,rfl,h6,h7,a4,a5⟩;have h8:=zA a4;have h9:=zA (zC W a5);clear h6 h7 a4 a5;go_wp2_with fail;refine(zDa [41] (show isT ⟨g8,g9,h0,h1,h2,h3,h4,h5⟩ [41]=X by rw[←a3.out,zFs j.out _ _ hN];exact a1.out)).mono ?_;rintro t2 t3 ⟨rfl,m⟩;have a6:=zA (h8.out.new m);have a7:=zA (zC h9 m);clear m;cases X with
      | false=>
       go_wp2_with fail;go_ret;exact⟨zJ J.out.symm,a6,a7⟩
      | true=>
       obtain⟨⟨j0,j1,j2,j3,j4,j5,j6,j7⟩,z⟩:=jx (zG C.L (min (s.k+(i+1+1)) (C.N - 1)));have a8:=zA z;clear z;go_wp2_with fail;refine(zBH a6 (i+1+1) _ (by first | omega | decide | rfl) jo a8).mono ?_;rintro t4 t5 ⟨p8,p9,q0,q1,rfl,j8,j9,a9,b2⟩;have k0:=zA a9;have k1:=zA (zC a7 b2);clear j8 j9 a9 b2;go_wp2_with fail;refine(zDa [61,62] (show isT ⟨j0,j1,j2,j3,j4,j5,j6,j7⟩ [61,62]=f1 by rw[←a8.out,zFs j.out _ _ hN];exact a2.out)).mono ?_;rintro t6 t7 ⟨rfl,o⟩;have k2:=zA (k0.out.new o);have k3:=zA (zC k1 o);clear o;go_wp2_with fail;go_ret;exact⟨zJ (by rw[J.out];rfl),k2,k3⟩
theorem zES (h:Pa C s w) {b:Bool} (hb:zAh C.L s=b):Calls prog 132 #[C] w (zNk C s b w):=hb▸zRK h
theorem zIp (h:zAh L s=true):onP L [40] s=true:=by
 unfold zAh at h;rw[Bool.and_eq_true]at h;exact h.1
theorem zLB (M:Pre C.L (.assign) s) (K:KP C (zk C.L (.assign) s)) (h:Pa C s w) (O:(zG C.L s.k).kind=1∧isT (zAm C.L s.k 1) [61,62]=true∧(zAm C.L s.k 1).nl=false):zo C s w (.assign):=by
 refine zBP M h fun Y a0 Q r W X HR hW hX R=>?_;have HK:=zA K;clear K h M;go_enter func106,ntmps106;go_upto_region 1 with(fail);clear hW hX;have d:=zA O;clear O;obtain⟨⟨kd,tx,st,nk,nn,mg,ps,nl⟩,G⟩:=zW C.L (s).k;go_wp2_with fail;refine R.kT (zu R.P G) fun w1 As Am c1 c2 F1=>?_;have l:=F1.bt 1 80 rfl;have b0:=zNl;have e1:((kd:Int)==1)=true:=by have:=d.out.1;rw[G.out]at this;have:kd=1:=this;rw[beq_iff_eq];omega
 have t:=zA (Y.out.lt Q (by rw[d.out.1];decide));have hn:=l.P.cx.n;obtain⟨⟨u,v,y,z,A,B,ps2,D⟩,e⟩:=zW C.L (zB s).k;have HA:=zA (show isT ⟨u,v,y,z,A,B,ps2,D⟩ [61,62]=true by rw[←e.out];exact d.out.2.1);have H:D=false:=by have:=d.out.2.2;rwa[show zAm C.L s.k 1=zG C.L (zB s).k from rfl,e.out]at this
 subst H;have j:=zA (show zG C.L (min (s.k+1) (C.N - 1))=⟨u,v,y,z,A,B,ps2,false⟩ by rw[show min (s.k+1) (C.N - 1)=s.k+1 by have:=t.out;omega];exact e.out);have:=l.c 2;go_wp2_with fail;refine l.kT (zBH l.P 1 1 rfl jd j) fun w3 b1 b2 b3 b4 F3=>?_;go_wp2_with fail;refine F3.kQ (zDa [61,62] HA) fun w4 S=>?_;go_wp2_with fail;refine S.kT (zBH S.P 1 1 rfl jd j) fun I b5 b6 b7 b8 T=>?_;obtain⟨b9,c0,c3⟩:=T.k1;have m:=T.step t;have:=m.c 2;go_wp2_with fail;refine(zDM 20 ⟨tx.toArray⟩ none 0 0).mono ?_;rintro c4 o ⟨rfl,b⟩;have E:=zA ((m.P.new b).alloc (.cells #[(20:Int),tx,(),(0:Int),(0:Int),false,(),(),()] 58));have F:((I).setCell ⟨C.g,1,none⟩ (.int .i64 (((s).k:Int)+1))).heap.size≤o.heap.size:=b.size;have U:=zA (show RowP ((o).alloc (.cells #[(20:Int),tx,(),(0:Int),(0:Int),false,(),(),()] 58)) (((I).setCell ⟨C.g,1,none⟩ (.int .i64 (((s).k:Int)+1))).heap.size≤·) (.slice (some ⟨o.heap.size,0,none⟩) 1 1) [trN 20 tx []]from RowP.lit (n:=1) rfl (TrsC.cons (show TrC _ _ (trN 20 tx []) [(20:Int),tx,(),(0:Int),(0:Int),false,(),(),()]from(RowP.nil _ _).treeN) (.nil _ _)) F (by show 1≤maxLen;unfold maxLen;omega));have V:=zA (show((I).setCell ⟨C.g,1,none⟩ (.int .i64 (((s).k:Int)+1))).grownBy ((o).alloc (.cells #[(20:Int),tx,(),(0:Int),(0:Int),false,(),(),()] 58)) (some C.g)from zC (zAd b _) (zF _ _ _));clear b F;go_wp2_with fail;refine m.kA ((HK.out.more (q:=.body [trN 20 tx []]) ⟨E.out.hi,trivial⟩ E (yAF s.k)) _ _ _ _ rfl js V m.P.lt U) fun c5 J w8 a1 a2 a3 a4 a5 a6 a7 a8 a9 p=>?_;have:=p.sto 5;have:=p.c 0;have:=p.f 0;go_wp2_with fail;exact p.fin 0 5 rfl (HR.out.symm.trans (by
  unfold zD;dsimp only;rw[if_pos d.out,G.out];simp only[J.out]))
theorem zHX (E:Pre C.L (.assign) s) (K:KP C (zk C.L (.assign) s)) (h:Pa C s w) (F:(zG C.L s.k).kind≠1) (l:zAh C.L s=true):zo C s w (.assign):=by
 refine zBP E h fun z V d r W X Y hW hX G=>?_;have H:=zA K;clear K h E;go_enter func106,ntmps106;go_upto_region 1 with(fail);clear hW hX;have I:=zA F;clear F;have b:=zA l;clear l;obtain⟨⟨kd,tx,st,nk,nn,mg,ps,nl⟩,J⟩:=zW C.L (s).k;go_wp2_with fail;refine G.kT (zu G.P J) fun w1 As Am c1 c2 F1=>?_;have A:=F1.bt 1 80 rfl;have a9:=zNl;have M:=zA (show¬((zG C.L s.k).kind=1∧isT (zAm C.L s.k 1) [61,62]=true∧(zAm C.L s.k 1).nl=false)from fun h=>I.out h.1);have e1:((kd:Int)==1)=false:=by have:=I.out;rw[J.out]at this;have:kd≠1:=this;rw[yA];omega
 have:=A.c 2;go_wp2_with fail;refine A.kB (zES A.P b) fun w3 e=>?_;have N:=zA (zGN z (s:=s) d);have O:=zA e.P.cx.n;have Q:=zA (z.out.on d (zIp b));have B:=zA (show Eat C.L s (zE C.L .params s).2 from zf z (p:=.params) (s:=s) ⟨d,trivial⟩);go_wp2_with fail;refine(Calls.mono (show Calls prog 110 #[C] _ (LstQ C (zE C.L .params s) _)from H.out.rank (q:=.params) ⟨e.P.hi,trivial⟩ e.P (yAC _) (by simp[zr])) ?_);rintro b0 w0 ⟨Ar,n0,cp,rfl,m,R,S,o,t,u⟩;have v:=zA t;have y:=zA m;have T:=zA o;have U:=zA u;clear m R S o t u;go_wp2_with fail;refine e.kA ((H.out.more (q:=.body (zE C.L .params s).1.subs) ⟨v.out.hi,trivial⟩ v (B.out.more Q)) _ _ _ _ y (by have:=N.out;have:=O.out;have:=y.out;omega) U e.P.lt T) fun b1 D w4 a0 a1 a2 a3 a4 a5 a6 a7 a8 j=>?_;have:=j.sto 3;have:=j.c 0;have:=j.f 0;go_wp2_with fail;exact j.fin 0 3 rfl (Y.out.symm.trans (by
  unfold zD;dsimp only;rw[if_neg M.out,if_pos b.out];simp only[D.out]))
theorem zHY (S:Pre C.L (.assign) s) (K:KP C (zk C.L (.assign) s)) (h:Pa C s w) (T:(zG C.L s.k).kind=1∧isT (zAm C.L s.k 1) [61,62]=false) (t:zAh C.L s=true):zo C s w (.assign):=by
 refine zBP S h fun j a9 d r W X HR hW hX U=>?_;have V:=zA K;clear K h S;go_enter func106,ntmps106;go_upto_region 1 with(fail);clear hW hX;have l:=zA T;clear T;have b:=zA t;clear t;obtain⟨⟨kd,tx,st,nk,nn,mg,ps,nl⟩,Y⟩:=zW C.L (s).k;go_wp2_with fail;refine U.kT (zu U.P Y) fun w1 As Am c1 c2 F1=>?_;have m:=F1.bt 1 80 rfl;have b9:=zNl;have e1:((kd:Int)==1)=true:=by have:=l.out.1;rw[Y.out]at this;have:kd=1:=this;rw[beq_iff_eq];omega
 have a0:=zA (j.out.lt d (by rw[l.out.1];decide));have hn:=m.P.cx.n;have a1:=zA (show¬((zG C.L s.k).kind=1∧isT (zAm C.L s.k 1) [61,62]=true∧(zAm C.L s.k 1).nl=false)from fun h=>by rw[l.out.2]at h;cases h.2.1);obtain⟨⟨u,v,y,z,A,B,ps2,D⟩,E⟩:=zW C.L (zB s).k;have HA:=zA (show isT ⟨u,v,y,z,A,B,ps2,D⟩ [61,62]=false by rw[←E.out];exact l.out.2);have O:=zA (show zG C.L (min (s.k+1) (C.N - 1))=⟨u,v,y,z,A,B,ps2,D⟩ by rw[show min (s.k+1) (C.N - 1)=s.k+1 by have:=a0.out;omega];exact E.out);have:=m.c 2;go_wp2_with fail;refine m.kT (zBH m.P 1 1 rfl jd O) fun w3 c0 c3 c4 c5 F3=>?_;go_wp2_with fail;refine F3.kQ (zDa [61,62] HA) fun w4 F4=>?_;go_wp2_with fail;refine F4.kB (zES F4.P b) fun w5 e=>?_;have a2:=zA (zGN j (s:=s) d);have a3:=zA e.P.cx.n;have a4:=zA (j.out.on d (zIp b));have Q:=zA (show Eat C.L s (zE C.L .params s).2 from zf j (p:=.params) (s:=s) ⟨d,trivial⟩);go_wp2_with fail;refine(Calls.mono (show Calls prog 110 #[C] _ (LstQ C (zE C.L .params s) _)from V.out.rank (q:=.params) ⟨e.P.hi,trivial⟩ e.P (yAC _) (by simp[zr])) ?_);rintro c6 w0 ⟨Ar,n0,cp,rfl,F,a5,a6,G,H,I⟩;have J:=zA H;have M:=zA F;have a7:=zA G;have a8:=zA I;clear F a5 a6 G H I;go_wp2_with fail;refine e.kA ((V.out.more (q:=.body (zE C.L .params s).1.subs) ⟨J.out.hi,trivial⟩ J (Q.out.more a4)) _ _ _ _ M (by have:=a2.out;have:=a3.out;have:=M.out;omega) a8 e.P.lt a7) fun c7 R w6 b0 b1 b2 b3 b4 b5 b6 b7 b8 o=>?_;have:=o.sto 4;have:=o.c 0;have:=o.f 0;go_wp2_with fail;exact o.fin 0 4 rfl (HR.out.symm.trans (by
  unfold zD;dsimp only;rw[if_neg a1.out,if_pos b.out];simp only[R.out]))
theorem zHZ (T:Pre C.L (.assign) s) (K:KP C (zk C.L (.assign) s)) (h:Pa C s w) (U:(zG C.L s.k).kind=1∧isT (zAm C.L s.k 1) [61,62]=true∧(zAm C.L s.k 1).nl=true) (v:zAh C.L s=true):zo C s w (.assign):=by
 refine zBP T h fun o a9 d r W X HR hW hX V=>?_;have Y:=zA K;clear K h T;go_enter func106,ntmps106;go_upto_region 1 with(fail);clear hW hX;have e:=zA U;clear U;have b:=zA v;clear v;obtain⟨⟨kd,tx,st,nk,nn,mg,ps,nl⟩,HT⟩:=zW C.L (s).k;go_wp2_with fail;refine V.kT (zu V.P HT) fun w1 As Am c1 c2 F1=>?_;have t:=F1.bt 1 80 rfl;have b9:=zNl;have e1:((kd:Int)==1)=true:=by have:=e.out.1;rw[HT.out]at this;have:kd=1:=this;rw[beq_iff_eq];omega
 have a0:=zA (o.out.lt d (by rw[e.out.1];decide));have hn:=t.P.cx.n;have a1:=zA (show¬((zG C.L s.k).kind=1∧isT (zAm C.L s.k 1) [61,62]=true∧(zAm C.L s.k 1).nl=false)from fun h=>by rw[e.out.2.2]at h;cases h.2.2);obtain⟨⟨y,z,A,B,D,E,ps2,F⟩,j⟩:=zW C.L (zB s).k;have HA:=zA (show isT ⟨y,z,A,B,D,E,ps2,F⟩ [61,62]=true by rw[←j.out];exact e.out.2.1);have Q:F=true:=by have:=e.out.2.2;rwa[show zAm C.L s.k 1=zG C.L (zB s).k from rfl,j.out]at this
 subst Q;have l:=zA (show zG C.L (min (s.k+1) (C.N - 1))=⟨y,z,A,B,D,E,ps2,true⟩ by rw[show min (s.k+1) (C.N - 1)=s.k+1 by have:=a0.out;omega];exact j.out);have:=t.c 2;go_wp2_with fail;refine t.kT (zBH t.P 1 1 rfl jd l) fun w3 c0 c3 c4 c5 F3=>?_;go_wp2_with fail;refine F3.kQ (zDa [61,62] HA) fun w4 F4=>?_;go_wp2_with fail;refine F4.kT (zBH F4.P 1 1 rfl jd l) fun w5 c6 c7 c8 c9 F5=>?_;go_wp2_with fail;refine F5.kB (zES F5.P b) fun w6 m=>?_;have a2:=zA (zGN o (s:=s) d);have a3:=zA m.P.cx.n;have a4:=zA (o.out.on d (zIp b));have R:=zA (show Eat C.L s (zE C.L .params s).2 from zf o (p:=.params) (s:=s) ⟨d,trivial⟩);go_wp2_with fail;refine(Calls.mono (show Calls prog 110 #[C] _ (LstQ C (zE C.L .params s) _)from Y.out.rank (q:=.params) ⟨m.P.hi,trivial⟩ m.P (yAC _) (by simp[zr])) ?_);rintro d0 w0 ⟨Ar,n0,cp,rfl,G,a5,a6,H,I,J⟩;have M:=zA I;have O:=zA G;have a7:=zA H;have a8:=zA J;clear G a5 a6 H I J;go_wp2_with fail;refine m.kA ((Y.out.more (q:=.body (zE C.L .params s).1.subs) ⟨M.out.hi,trivial⟩ M (R.out.more a4)) _ _ _ _ O (by have:=a2.out;have:=a3.out;have:=O.out;omega) a8 m.P.lt a7) fun d1 S w7 b0 b1 b2 b3 b4 b5 b6 b7 b8 u=>?_;have:=u.sto 5;have:=u.c 0;have:=u.f 0;go_wp2_with fail;exact u.fin 0 5 rfl (HR.out.symm.trans (by
  unfold zD;dsimp only;rw[if_neg a1.out,if_pos b.out];simp only[S.out]))
theorem zIq (hp:Pre C.L (.assign) s) (K:KP C (zk C.L (.assign) s)) (h:Pa C s w) (hc:(zG C.L s.k).kind≠1) (a9:zAh C.L s=false):zo C s w (.assign):=by
 refine zBP hp h fun HL c3 b5 r W X V hW hX F0=>?_;have HK:=zA K;clear K h hp;go_enter func106,ntmps106;go_upto_region 1 with(fail);clear hW hX;have HC:=zA hc;clear hc;have e:=zA a9;clear a9;obtain⟨⟨kd,tx,st,nk,nn,mg,ps,nl⟩,HT⟩:=zW C.L (s).k;go_wp2_with fail;refine F0.kT (zu F0.P HT) fun w1 As Am c1 c2 F1=>?_;have F2:=F1.bt 1 80 rfl;have d0:=zNl;have B:=zA (show¬((zG C.L s.k).kind=1∧isT (zAm C.L s.k 1) [61,62]=true∧(zAm C.L s.k 1).nl=false)from fun h=>HC.out h.1);have e1:((kd:Int)==1)=false:=by have:=HC.out;rw[HT.out]at this;have:kd≠1:=this;rw[yA];omega
 have:=F2.c 2;go_wp2_with fail;refine F2.kB (zES F2.P e) fun w3 F3=>?_;have hx:=zA (zf HL (p:=.cond) (s:=s) ⟨b5,trivial⟩).adv;go_wp2_with fail;refine F3.kX (HK.out.rank (q:=.cond) ⟨F3.P.hi,trivial⟩ F3.P (yAC _) (by simp[zr])) fun b g w4 c4 G H I J M N O R F4=>?_;have:=F4.sto 3;have b0:=zA (show Adv C.L s (b.2) by have:=hx.out;rwa[g.out]at this);obtain rfl:=(F4.t 3).kind;have F5:=F4.box [.int .i64 (b.1).nd.kind,G,H,I,J,M,N,O,R] 58 rfl jd jd;obtain⟨⟨d,j,sto,d1,d2,d3,d4,d5⟩,l⟩:=zW C.L (b.2).k;go_wp2_with fail;refine F5.kT (zu F5.P l) fun w6 d6 d7 d8 d9 F6=>?_;have Y:=F6.bt 5 80 rfl;obtain⟨ck,D⟩:=jx (decide (d=5));obtain⟨co,b1⟩:=jx (decide (j∈zIF));obtain⟨bt,b2⟩:=jx (zAB (b.1).nd.kind);have E:=zA b1;have S:=zA b2;clear b1 b2;cases ck with
 | false=>
  have o:d≠5:=by simpa using D
  have e5:((d:Int)==5)=false:=by rw[yA];omega
  have e6:((d:Int) !=5)=true:=by rw[bne,e5];rfl
  have u:=zA o;clear D o;have:=Y.c 6;go_upto_region 10 with(fail);refine zEz Y fun w8 T=>?_;have:=T.c 4;have:=T.sto 3;have:=T.c 0;have:=T.f 0;go_wp2_with fail;exact T.fin 0 3 rfl (V.out.symm.trans (by
   unfold zD;dsimp only;rw[if_neg B.out,if_neg (by rw[e.out];decide)]
   try dsimp only
   rw[g.out,l.out];rw[if_pos (.inl u.out)]))
 | true=>
  have o:d=5:=by simpa using D
  have e5:((d:Int)==5)=true:=by rw[beq_iff_eq];omega
  have e6:((d:Int) !=5)=false:=by rw[bne,e5];rfl
  have u:=zA o;clear D o;have:=Y.c 6;go_wp2_with fail;refine Y.kQ (zQ9 j E) fun e0 m=>?_;cases co with
  | true=>
   have:=m.c 4;go_wp2_with fail;refine(zB5 _ _).mono ?_;rintro c5 c6 ⟨rfl,rfl⟩;rw[S.out];cases bt with
   | true=>
    have b6:=zA (HL.out.lt (s:=b.2) b0.out.hi (by rw[l.out];show d≠0;have:=u.out;omega));obtain⟨c7,c8,c9⟩:=m.k1;have b7:=m.step b6;go_upto_region 15 with(fail);refine zEz b7 fun e2 v=>?_;have b3:=zA (fun Q=>v.dr.kX (Q:=Q) (HK.out.more (q:=.assign) ⟨v.dr.P.hi,trivial⟩ v.dr.P (Nat.lt_succ_of_le b0.out.le)));have:=v.c 4;have:=v.c 6;go_upto_region 15 with(fail)
    go_cut [70] (fun _ wx=>∃(F:Tr×Ps) (BB:Nat),Hid (zE C.L (.assign) (zB (b.2))=F)∧Fr C (w.heap.size≤·) w [X] [.bx X 58 [(49:Int),(j),(),(0:Int),(0:Int),false,(),(),.slice (some ⟨BB,0,none⟩) 2 2],.tr (trN 49 (j) [b.1,F.1]) [(49:Int),(j),(),(0:Int),(0:Int),false,(),(),.slice (some ⟨BB,0,none⟩) 2 2]] F.2 wx)
    case first=>
     go_region_law (first | (go_simp;go_at_call 106;(with_reducible refine b3.out _ fun F b8 b9 a0 a1 a2 a3 a4 a5 a6 a7 a8 y=>?_);have:=y.c 4;have:=y.c 6;have:=(y.al (.cells #[.int .i64 (b.1).nd.kind,G,H,I,J,M,N,O,R,a0,a1,a2,a3,a4,a5,a6,a7,a8] 58)).c 6;have b4:=zA (fun Q=>y.litN 49 j (n:=2) (Q:=Q) (y.ts2 3 7) rfl js rfl)) | (go_simp;go_at_call 105;(with_reducible refine b4.out _ fun e3 U=>?_);have:=U.c 0;have:=U.f 0))
     all_goals
      go_wp2_with fail;go_meet;exact⟨F,b9.heap.size,b8,(U.put 0 8).pk1 [X] [0,8] js jd rfl js⟩
    case rest=>
     obtain⟨F,BB,c0,Fq⟩:=hcut;have:=Fq.c 0;go_wp2_with fail;have q:=Fq.c 0;exact Fq.ret 1 rfl (by simp[results,results106,go_sem,q]) rfl (V.out.symm.trans (by
      unfold zD;dsimp only;rw[if_neg B.out,if_neg (by rw[e.out];decide)]
      try dsimp only
      rw[g.out,l.out];rw[if_neg (fun h=>h.elim (fun h=>h u.out) (fun h=>h (by have:=E.out;simpa using this)))];rw[if_neg (by rw[S.out];decide),c0.out])) (fun _ h=>h)
   | false=>
    go_wp2_with fail;refine m.kN (zC2 m.P 5 jd) fun e4 z=>?_;have:=z.c 4;have:=z.sto 3;have:=z.c 0;have:=z.f 0;go_wp2_with fail;exact z.fin 0 3 rfl (V.out.symm.trans (by
     unfold zD;dsimp only;rw[if_neg B.out,if_neg (by rw[e.out];decide)]
     try dsimp only
     rw[g.out,l.out];rw[if_neg (fun h=>h.elim (fun h=>h u.out) (fun h=>h (by have:=E.out;simpa using this)))];rw[if_pos S.out]))
  | false=>
   go_upto_region 10 with(fail);refine zEz m fun e7 A=>?_;have:=A.c 4;have:=A.sto 3;have:=A.c 0;have:=A.f 0;go_wp2_with fail;exact A.fin 0 3 rfl (V.out.symm.trans (by
    unfold zD;dsimp only;rw[if_neg B.out,if_neg (by rw[e.out];decide)]
    try dsimp only
    rw[g.out,l.out];rw[if_pos (.inr (by have:=E.out;simpa using this))]))
theorem zIr (hp:Pre C.L (.assign) s) (K:KP C (zk C.L (.assign) s)) (h:Pa C s w) (hc:(zG C.L s.k).kind=1∧isT (zAm C.L s.k 1) [61,62]=false) (a9:zAh C.L s=false):zo C s w (.assign):=by
 refine zBP hp h fun HL d3 b0 r W X Y hW hX F0=>?_;have HK:=zA K;clear K h hp;go_enter func106,ntmps106;go_upto_region 1 with(fail);clear hW hX;have HC:=zA hc;clear hc;have e:=zA a9;clear a9;obtain⟨⟨kd,tx,st,nk,nn,mg,ps,nl⟩,HT⟩:=zW C.L (s).k;go_wp2_with fail;refine F0.kT (zu F0.P HT) fun w1 As Am c1 c2 F1=>?_;have F2:=F1.bt 1 80 rfl;have e0:=zNl;have e1:((kd:Int)==1)=true:=by have:=HC.out.1;rw[HT.out]at this;have:kd=1:=this;rw[beq_iff_eq];omega
 have c7:=zA (HL.out.lt b0 (by rw[HC.out.1];decide));have hn:=F2.P.cx.n;have D:=zA (show¬((zG C.L s.k).kind=1∧isT (zAm C.L s.k 1) [61,62]=true∧(zAm C.L s.k 1).nl=false)from fun h=>by rw[HC.out.2]at h;cases h.2.1);obtain⟨⟨b1,b2,b3,b4,b5,b6,ps2,b7⟩,b8⟩:=zW C.L (zB s).k;have HA:=zA (show isT ⟨b1,b2,b3,b4,b5,b6,ps2,b7⟩ [61,62]=false by rw[←b8.out];exact HC.out.2);have c4:=zA (show zG C.L (min (s.k+1) (C.N - 1))=⟨b1,b2,b3,b4,b5,b6,ps2,b7⟩ by rw[show min (s.k+1) (C.N - 1)=s.k+1 by have:=c7.out;omega];exact b8.out);have:=F2.c 2;go_wp2_with fail;refine F2.kT (zBH F2.P 1 1 rfl jd c4) fun w3 e2 e3 e4 e7 F3=>?_;go_wp2_with fail;refine F3.kQ (zDa [61,62] HA) fun w4 F4=>?_;go_wp2_with fail;refine F4.kB (zES F4.P e) fun w5 F5=>?_;have hx:=zA (zf HL (p:=.cond) (s:=s) ⟨b0,trivial⟩).adv;go_wp2_with fail;refine F5.kX (HK.out.rank (q:=.cond) ⟨F5.P.hi,trivial⟩ F5.P (yAC _) (by simp[zr])) fun b g w6 d4 H I J M O R S T F6=>?_;have:=F6.sto 4;have b9:=zA (show Adv C.L s (b.2) by have:=hx.out;rwa[g.out]at this);obtain rfl:=(F6.t 4).kind;have F7:=F6.box [.int .i64 (b.1).nd.kind,H,I,J,M,O,R,S,T] 58 rfl jd jd;obtain⟨⟨d,j,sto,e8,e9,f0,f1,f2⟩,l⟩:=zW C.L (b.2).k;go_wp2_with fail;refine F7.kT (zu F7.P l) fun w8 f3 f4 f5 f6 F8=>?_;have F9:=F8.bt 6 80 rfl;obtain⟨ck,E⟩:=jx (decide (d=5));obtain⟨co,c0⟩:=jx (decide (j∈zIF));obtain⟨bt,c3⟩:=jx (zAB (b.1).nd.kind);have F:=zA c0;have U:=zA c3;clear c0 c3;cases ck with
 | false=>
  have o:d≠5:=by simpa using E
  have e5:((d:Int)==5)=false:=by rw[yA];omega
  have e6:((d:Int) !=5)=true:=by rw[bne,e5];rfl
  have u:=zA o;clear E o;have:=F9.c 7;go_upto_region 10 with(fail);refine zEz F9 fun f7 v=>?_;have:=v.c 5;have:=v.sto 4;have:=v.c 0;have:=v.f 0;go_wp2_with fail;exact v.fin 0 4 rfl (Y.out.symm.trans (by
   unfold zD;dsimp only;rw[if_neg D.out,if_neg (by rw[e.out];decide)]
   try dsimp only
   rw[g.out,l.out];rw[if_pos (.inl u.out)]))
 | true=>
  have o:d=5:=by simpa using E
  have e5:((d:Int)==5)=true:=by rw[beq_iff_eq];omega
  have e6:((d:Int) !=5)=false:=by rw[bne,e5];rfl
  have u:=zA o;clear E o;have:=F9.c 7;go_wp2_with fail;refine F9.kQ (zQ9 j F) fun f8 m=>?_;cases co with
  | true=>
   have:=m.c 5;go_wp2_with fail;refine(zB5 _ _).mono ?_;rintro d5 d6 ⟨rfl,rfl⟩;rw[U.out];cases bt with
   | true=>
    have c8:=zA (HL.out.lt (s:=b.2) b9.out.hi (by rw[l.out];show d≠0;have:=u.out;omega));obtain⟨d7,d8,d9⟩:=m.k1;have c9:=m.step c8;go_upto_region 15 with(fail);refine zEz c9 fun f9 y=>?_;have c5:=zA (fun Q=>y.dr.kX (Q:=Q) (HK.out.more (q:=.assign) ⟨y.dr.P.hi,trivial⟩ y.dr.P (Nat.lt_succ_of_le b9.out.le)));have:=y.c 5;have:=y.c 7;go_upto_region 15 with(fail)
    go_cut [70] (fun _ wx=>∃(G:Tr×Ps) (BB:Nat),Hid (zE C.L (.assign) (zB (b.2))=G)∧Fr C (w.heap.size≤·) w [X] [.bx X 58 [(49:Int),(j),(),(0:Int),(0:Int),false,(),(),.slice (some ⟨BB,0,none⟩) 2 2],.tr (trN 49 (j) [b.1,G.1]) [(49:Int),(j),(),(0:Int),(0:Int),false,(),(),.slice (some ⟨BB,0,none⟩) 2 2]] G.2 wx)
    case first=>
     go_region_law (first | (go_simp;go_at_call 106;(with_reducible refine c5.out _ fun G d0 d1 a0 a1 a2 a3 a4 a5 a6 a7 a8 z=>?_);have:=z.c 5;have:=z.c 7;have:=(z.al (.cells #[.int .i64 (b.1).nd.kind,H,I,J,M,O,R,S,T,a0,a1,a2,a3,a4,a5,a6,a7,a8] 58)).c 7;have c6:=zA (fun Q=>z.litN 49 j (n:=2) (Q:=Q) (z.ts2 4 8) rfl js rfl)) | (go_simp;go_at_call 105;(with_reducible refine c6.out _ fun g0 V=>?_);have:=V.c 0;have:=V.f 0))
     all_goals
      go_wp2_with fail;go_meet;exact⟨G,d1.heap.size,d0,(V.put 0 9).pk1 [X] [0,9] js jd rfl js⟩
    case rest=>
     obtain⟨G,BB,d2,Fq⟩:=hcut;have:=Fq.c 0;go_wp2_with fail;have q:=Fq.c 0;exact Fq.ret 1 rfl (by simp[results,results106,go_sem,q]) rfl (Y.out.symm.trans (by
      unfold zD;dsimp only;rw[if_neg D.out,if_neg (by rw[e.out];decide)]
      try dsimp only
      rw[g.out,l.out];rw[if_neg (fun h=>h.elim (fun h=>h u.out) (fun h=>h (by have:=F.out;simpa using this)))];rw[if_neg (by rw[U.out];decide),d2.out])) (fun _ h=>h)
   | false=>
    go_wp2_with fail;refine m.kN (zC2 m.P 5 jd) fun g1 A=>?_;have:=A.c 5;have:=A.sto 4;have:=A.c 0;have:=A.f 0;go_wp2_with fail;exact A.fin 0 4 rfl (Y.out.symm.trans (by
     unfold zD;dsimp only;rw[if_neg D.out,if_neg (by rw[e.out];decide)]
     try dsimp only
     rw[g.out,l.out];rw[if_neg (fun h=>h.elim (fun h=>h u.out) (fun h=>h (by have:=F.out;simpa using this)))];rw[if_pos U.out]))
  | false=>
   go_upto_region 10 with(fail);refine zEz m fun g2 B=>?_;have:=B.c 5;have:=B.sto 4;have:=B.c 0;have:=B.f 0;go_wp2_with fail;exact B.fin 0 4 rfl (Y.out.symm.trans (by
    unfold zD;dsimp only;rw[if_neg D.out,if_neg (by rw[e.out];decide)]
    try dsimp only
    rw[g.out,l.out];rw[if_pos (.inr (by have:=F.out;simpa using this))]))
theorem zIs (hp:Pre C.L (.assign) s) (K:KP C (zk C.L (.assign) s)) (h:Pa C s w) (hc:(zG C.L s.k).kind=1∧isT (zAm C.L s.k 1) [61,62]=true∧(zAm C.L s.k 1).nl=true) (b2:zAh C.L s=false):zo C s w (.assign):=by
 refine zBP hp h fun HL d5 b3 r W X HR hW hX F0=>?_;have HK:=zA K;clear K h hp;go_enter func106,ntmps106;go_upto_region 1 with(fail);clear hW hX;have I:=zA hc;clear hc;have e:=zA b2;clear b2;obtain⟨⟨kd,tx,st,nk,nn,mg,ps,nl⟩,HT⟩:=zW C.L (s).k;go_wp2_with fail;refine F0.kT (zu F0.P HT) fun w1 As Am c1 c2 F1=>?_;have F2:=F1.bt 1 80 rfl;have e3:=zNl;have e1:((kd:Int)==1)=true:=by have:=I.out.1;rw[HT.out]at this;have:kd=1:=this;rw[beq_iff_eq];omega
 have c9:=zA (HL.out.lt b3 (by rw[I.out.1];decide));have hn:=F2.P.cx.n;have D:=zA (show¬((zG C.L s.k).kind=1∧isT (zAm C.L s.k 1) [61,62]=true∧(zAm C.L s.k 1).nl=false)from fun h=>by rw[I.out.2.2]at h;cases h.2.2);obtain⟨⟨b4,b5,b6,b7,b8,b9,ps2,c0⟩,J⟩:=zW C.L (zB s).k;have HA:=zA (show isT ⟨b4,b5,b6,b7,b8,b9,ps2,c0⟩ [61,62]=true by rw[←J.out];exact I.out.2.1);have c6:c0=true:=by have:=I.out.2.2;rwa[show zAm C.L s.k 1=zG C.L (zB s).k from rfl,J.out]at this
 subst c6;have M:=zA (show zG C.L (min (s.k+1) (C.N - 1))=⟨b4,b5,b6,b7,b8,b9,ps2,true⟩ by rw[show min (s.k+1) (C.N - 1)=s.k+1 by have:=c9.out;omega];exact J.out);have:=F2.c 2;go_wp2_with fail;refine F2.kT (zBH F2.P 1 1 rfl jd M) fun w3 e4 e7 e8 e9 F3=>?_;go_wp2_with fail;refine F3.kQ (zDa [61,62] HA) fun w4 F4=>?_;go_wp2_with fail;refine F4.kT (zBH F4.P 1 1 rfl jd M) fun w5 f0 f1 f2 f3 F5=>?_;go_wp2_with fail;refine F5.kB (zES F5.P e) fun w6 F6=>?_;have hx:=zA (zf HL (p:=.cond) (s:=s) ⟨b3,trivial⟩).adv;go_wp2_with fail;refine F6.kX (HK.out.rank (q:=.cond) ⟨F6.P.hi,trivial⟩ F6.P (yAC _) (by simp[zr])) fun b g w7 d6 O R S T U V Y a0 F7=>?_;have:=F7.sto 5;have c3:=zA (show Adv C.L s (b.2) by have:=hx.out;rwa[g.out]at this);obtain rfl:=(F7.t 5).kind;have F8:=F7.box [.int .i64 (b.1).nd.kind,O,R,S,T,U,V,Y,a0] 58 rfl jd jd;obtain⟨⟨d,j,sto,f4,f5,f6,f7,f8⟩,l⟩:=zW C.L (b.2).k;go_wp2_with fail;refine F8.kT (zu F8.P l) fun w9 f9 g0 g1 g2 F9=>?_;have E:=F9.bt 7 80 rfl;obtain⟨ck,F⟩:=jx (decide (d=5));obtain⟨co,c4⟩:=jx (decide (j∈zIF));obtain⟨bt,c5⟩:=jx (zAB (b.1).nd.kind);have G:=zA c4;have a1:=zA c5;clear c4 c5;cases ck with
 | false=>
  have o:d≠5:=by simpa using F
  have e5:((d:Int)==5)=false:=by rw[yA];omega
  have e6:((d:Int) !=5)=true:=by rw[bne,e5];rfl
  have u:=zA o;clear F o;have:=E.c 8;go_upto_region 10 with(fail);refine zEz E fun g3 v=>?_;have:=v.c 6;have:=v.sto 5;have:=v.c 0;have:=v.f 0;go_wp2_with fail;exact v.fin 0 5 rfl (HR.out.symm.trans (by
   unfold zD;dsimp only;rw[if_neg D.out,if_neg (by rw[e.out];decide)]
   try dsimp only
   rw[g.out,l.out];rw[if_pos (.inl u.out)]))
 | true=>
  have o:d=5:=by simpa using F
  have e5:((d:Int)==5)=true:=by rw[beq_iff_eq];omega
  have e6:((d:Int) !=5)=false:=by rw[bne,e5];rfl
  have u:=zA o;clear F o;have:=E.c 8;go_wp2_with fail;refine E.kQ (zQ9 j G) fun g4 m=>?_;cases co with
  | true=>
   have:=m.c 6;go_wp2_with fail;refine(zB5 _ _).mono ?_;rintro d7 d8 ⟨rfl,rfl⟩;rw[a1.out];cases bt with
   | true=>
    have d0:=zA (HL.out.lt (s:=b.2) c3.out.hi (by rw[l.out];show d≠0;have:=u.out;omega));obtain⟨d9,e0,e2⟩:=m.k1;have d1:=m.step d0;go_upto_region 15 with(fail);refine zEz d1 fun g5 y=>?_;have c7:=zA (fun Q=>y.dr.kX (Q:=Q) (HK.out.more (q:=.assign) ⟨y.dr.P.hi,trivial⟩ y.dr.P (Nat.lt_succ_of_le c3.out.le)));have:=y.c 6;have:=y.c 8;go_upto_region 15 with(fail)
    go_cut [70] (fun _ wx=>∃(H:Tr×Ps) (BB:Nat),Hid (zE C.L (.assign) (zB (b.2))=H)∧Fr C (w.heap.size≤·) w [X] [.bx X 58 [(49:Int),(j),(),(0:Int),(0:Int),false,(),(),.slice (some ⟨BB,0,none⟩) 2 2],.tr (trN 49 (j) [b.1,H.1]) [(49:Int),(j),(),(0:Int),(0:Int),false,(),(),.slice (some ⟨BB,0,none⟩) 2 2]] H.2 wx)
    case first=>
     go_region_law (first | (go_simp;go_at_call 106;(with_reducible refine c7.out _ fun H d2 d3 a3 a4 a5 a6 a7 a8 a9 b0 b1 z=>?_);have:=z.c 6;have:=z.c 8;have:=(z.al (.cells #[.int .i64 (b.1).nd.kind,O,R,S,T,U,V,Y,a0,a3,a4,a5,a6,a7,a8,a9,b0,b1] 58)).c 8;have c8:=zA (fun Q=>z.litN 49 j (n:=2) (Q:=Q) (z.ts2 5 9) rfl js rfl)) | (go_simp;go_at_call 105;(with_reducible refine c8.out _ fun g6 a2=>?_);have:=a2.c 0;have:=a2.f 0))
     all_goals
      go_wp2_with fail;go_meet;exact⟨H,d3.heap.size,d2,(a2.put 0 10).pk1 [X] [0,10] js jd rfl js⟩
    case rest=>
     obtain⟨H,BB,d4,Fq⟩:=hcut;have:=Fq.c 0;go_wp2_with fail;have q:=Fq.c 0;exact Fq.ret 1 rfl (by simp[results,results106,go_sem,q]) rfl (HR.out.symm.trans (by
      unfold zD;dsimp only;rw[if_neg D.out,if_neg (by rw[e.out];decide)]
      try dsimp only
      rw[g.out,l.out];rw[if_neg (fun h=>h.elim (fun h=>h u.out) (fun h=>h (by have:=G.out;simpa using this)))];rw[if_neg (by rw[a1.out];decide),d4.out])) (fun _ h=>h)
   | false=>
    go_wp2_with fail;refine m.kN (zC2 m.P 5 jd) fun g7 A=>?_;have:=A.c 6;have:=A.sto 5;have:=A.c 0;have:=A.f 0;go_wp2_with fail;exact A.fin 0 5 rfl (HR.out.symm.trans (by
     unfold zD;dsimp only;rw[if_neg D.out,if_neg (by rw[e.out];decide)]
     try dsimp only
     rw[g.out,l.out];rw[if_neg (fun h=>h.elim (fun h=>h u.out) (fun h=>h (by have:=G.out;simpa using this)))];rw[if_pos a1.out]))
  | false=>
   go_upto_region 10 with(fail);refine zEz m fun g8 B=>?_;have:=B.c 6;have:=B.sto 5;have:=B.c 0;have:=B.f 0;go_wp2_with fail;exact B.fin 0 5 rfl (HR.out.symm.trans (by
    unfold zD;dsimp only;rw[if_neg D.out,if_neg (by rw[e.out];decide)]
    try dsimp only
    rw[g.out,l.out];rw[if_pos (.inr (by have:=G.out;simpa using this))]))
theorem zNy (b:Pre C.L .assign s) (K:KP C (zk C.L .assign s)) (h:Pa C s w):zo C s w .assign:=by
 by_cases h1:(zG C.L s.k).kind=1
 · cases h2:isT (zAm C.L s.k 1) [61,62]with
   | true=>
    cases h3:(zAm C.L s.k 1).nl with
    | false=>exact zLB b K h ⟨h1,h2,h3⟩
    | true=>
     cases h4:zAh C.L s with
     | true=>exact zHZ b K h ⟨h1,h2,h3⟩ h4
     | false=>exact zIs b K h ⟨h1,h2,h3⟩ h4
   | false=>
    cases h4:zAh C.L s with
    | true=>exact zHY b K h ⟨h1,h2⟩ h4
    | false=>exact zIr b K h ⟨h1,h2⟩ h4
 · cases h4:zAh C.L s with
   | true=>exact zHX b K h h1 h4
   | false=>exact zIq b K h h1 h4
end Go.Proofs.YtlnbbaehihgigaaGreatDoor
