/- Joined for the claim EarlySame: the parser, the lexer and the trees as they are walked, made short by a program of mine. -/
import Derived.Deep.RegionLaw
import Derived.Test.YtjlfhidpmdgloaaGreatDoorH07
import Derived.Deep.LoopGhost
import Derived.Test.YtjlfhidpmdgloaaGreatDoorH04
import Derived.Test.YtjlfhidpmdgloaaGreatDoorH01
set_option maxHeartbeats 16000000
set_option maxRecDepth 1000000
namespace Go.Proofs.YtjlfhidpmdgloaaGreatDoor
open Go.Proofs.Tryz
open Go.RowKit
variable {w:World} {s:Ps} {C:Pc} {L:List Tok} {l:List Tr} {k:Int} {i n f:Nat} {v:jE}
theorem zT3:zi C (.unary) s w (∀(_hk:((zH C.L s.k).kind=5∨(zH C.L s.k).kind=6)) (_m:(zH C.L s.k).text∈zHe),zf C s w (.unary)):=fun D K h hk m=>by
 refine zBG D h fun R S E r W X T U V F=>?_;have Y:=zA K;clear K h D;go_enter func186,ntmps186;go_upto_region 1 with(fail);clear U V;have G:=zA hk;have H:=zA m;clear hk m;obtain⟨⟨kd,tx,st,nk,nn,mg,ps,nl⟩,e⟩:=zR C.L (s).k;have d:=zA (show kd=5∨kd=6 from by have:=G.out;rwa[e.out]at this);obtain⟨e5,e6⟩ | ⟨e5,e6⟩:((kd:Int)==5)=true∧((kd:Int)==6)=false∨((kd:Int)==5)=false∧((kd:Int)==6)=true:=by have:=d.out;simp only[yBL,yA];omega
 all_goals
  go_wp2_with fail;refine F.kT (zj F.P e) fun w1 As Am c1 c2 F1=>?_;have I:=F1.bt 1 78 rfl;obtain⟨a0,a1,a2,a3,a4,a5,a6,a7,a8⟩:=(I.b 2).nine;go_wp2_with fail;refine I.kQ (zQk tx (show decide (tx∈zHe)=true from by have:=H.out;rw[e.out]at this;simpa using this)) fun w3 J=>?_;have M:=zA (R.out.lt E (by rw[e.out];have:=d.out;show kd≠0;omega));obtain⟨a9,b0,b1⟩:=J.k1;have l:=J.step M;have N:=zA (fun Q=>l.dr.kD (Q:=Q) (Y.out.more (q:=.unary) ⟨l.dr.P.hi,trivial⟩ l.dr.P (yAF s.k)));have:=l.c 2;go_wp2_with fail;go_region_law (first | (go_simp;go_at_call 186;(with_reducible refine N.out _ fun w5 o p t u v y z A B g=>?_);have:=g.c 2;have:=g.c 0;have:=(g.al (.cells #[o,p,t,u,v,y,z,A,B] 61)).c 2;have O:=zA (fun Q=>g.litN 43 tx (n:=1) (Q:=Q) (g.ts1 3) rfl js rfl)) | (go_simp;go_at_call 121;(with_reducible refine O.out _ fun w6 j=>?_);have:=j.c 0;have:=j.f 0))
  all_goals
   have:=j.c 0;have:=j.f 0;go_wp2_with fail;exact j.fin 0 4 rfl (T.out.symm.trans (by
    unfold zD;dsimp only;rw[e.out,if_pos ⟨by have:=d.out;show kd=5∨kd=6;omega,by have:=H.out;rwa[e.out]at this⟩]))
theorem zT4:zi C (.unary) s w (∀(_hk:((zH C.L s.k).kind=5∨(zH C.L s.k).kind=6)) (_G:¬(zH C.L s.k).text∈zHe) (_o:(zH C.L s.k).text∈zDa),zf C s w (.unary)):=fun hp K h hk G o=>by
 refine zBG hp h fun HL b1 a5 r W X H hW hX F0=>?_;have HK:=zA K;clear K h hp;go_enter func186,ntmps186;go_upto_region 1 with(fail);clear hW hX;have a6:=zA hk;have B:=zA G;have j:=zA o;clear hk G o;obtain⟨⟨kd,tx,st,nk,nn,mg,ps,nl⟩,d⟩:=zR C.L (s).k;have e:=zA (show kd=5∨kd=6 from by have:=a6.out;rwa[d.out]at this);obtain⟨e5,e6⟩ | ⟨e5,e6⟩:((kd:Int)==5)=true∧((kd:Int)==6)=false∨((kd:Int)==5)=false∧((kd:Int)==6)=true:=by have:=e.out;simp only[yBL,yA];omega
 all_goals
  go_wp2_with fail;refine F0.kT (zj F0.P d) fun w1 As Am c1 c2 F1=>?_;have F2:=F1.bt 1 78 rfl;obtain⟨I,J,M,N,O,Q,R,S,T⟩:=(F2.b 2).nine;go_wp2_with fail;refine F2.kQ (zQk tx (show decide (tx∈zHe)=false from by have:=B.out;rw[d.out]at this;simpa using this)) fun w3 F3=>?_;obtain⟨I,J,M,N,O,Q,R,S,T⟩:=(F3.b 2).nine;go_wp2_with fail;refine F3.kQ (zVy tx (show decide (tx∈zDa)=true from by have:=j.out;rw[d.out]at this;simpa using this)) fun w4 F4=>?_;have a7:=zA (HL.out.lt a5 (by rw[d.out];have:=e.out;show kd≠0;omega));obtain⟨a8,a9,b0⟩:=F4.k1;have D:=F4.step a7;have:=D.c 2;go_wp2_with fail;clear a8 a9 b0;refine D.kD (HK.out.more (q:=.unary) ⟨D.P.hi,trivial⟩ D.P (yAF s.k)) fun w6 b2 U V Y a0 a1 a2 a3 a4 F6=>?_;have:=F6.sto 3;obtain rfl:=(F6.t 3).kind;have E:=F6.box [.int .i64 ((zE C.L (.unary) (zB (s))).1).nd.kind,U,V,Y,a0,a1,a2,a3,a4] 61 rfl jd jd
  by_cases hb:((zE C.L (.unary) (zB (s))).2).bad=0
  · have p:=zA (show(((zE C.L (.unary) (zB (s))).2).bad==0)=true by rw[hb];rfl);have u:=zA hb;clear hb;go_wp2_with fail;refine E.kB (zBe E.P p) fun w8 g=>?_;have:=g.c 4;go_wp2_with fail;refine(zB1 _ _).mono ?_;rintro b3 b4 ⟨rfl,rfl⟩;obtain⟨bt,v⟩:=jx (zAN ((zE C.L (.unary) (zB (s))).1).nd.kind);rw[v];have F:=zA v;clear v;cases bt with
    | true=>
     have:=g.c 2;have:=g.c 4;go_wp2_with fail;refine g.litN _ _ (n:=1) (g.ts1 3) rfl js rfl fun b5 y=>?_;have:=y.c 0;have:=y.f 0;go_wp2_with fail;exact y.fin 0 5 rfl (H.out.symm.trans (by
      unfold zD;dsimp only;rw[d.out,if_neg (fun h=>by have:=B.out;rw[d.out]at this;exact this h.2),if_pos ⟨by have:=e.out;show kd=5∨kd=6;omega,by have:=j.out;rwa[d.out]at this⟩]
      try dsimp only
      rw[F.out,if_neg js]))
    | false=>
     go_wp2_with fail;refine g.kN (zAJ g.P) fun b6 l=>?_;have:=l.c 2;have:=l.c 4;go_wp2_with fail;refine l.litN _ _ (n:=1) (l.ts1 3) rfl js rfl fun b7 z=>?_;have:=z.c 0;have:=z.f 0;go_wp2_with fail;exact z.fin 0 5 rfl (H.out.symm.trans (by
      unfold zD;dsimp only;rw[d.out,if_neg (fun h=>by have:=B.out;rw[d.out]at this;exact this h.2),if_pos ⟨by have:=e.out;show kd=5∨kd=6;omega,by have:=j.out;rwa[d.out]at this⟩]
      try dsimp only
      rw[F.out,if_pos ⟨u.out,rfl⟩]))
  · have p:=zA (show(((zE C.L (.unary) (zB (s))).2).bad==0)=false by rw[yA];exact hb);have u:=zA hb;clear hb;go_wp2_with fail;refine E.kB (zBe E.P p) fun b8 m=>?_;have:=m.c 2;have:=m.c 4;go_wp2_with fail;refine m.litN _ _ (n:=1) (m.ts1 3) rfl js rfl fun b9 A=>?_;have:=A.c 0;have:=A.f 0;go_wp2_with fail;exact A.fin 0 5 rfl (H.out.symm.trans (by
     unfold zD;dsimp only;rw[d.out,if_neg (fun h=>by have:=B.out;rw[d.out]at this;exact this h.2),if_pos ⟨by have:=e.out;show kd=5∨kd=6;omega,by have:=j.out;rwa[d.out]at this⟩]
     try dsimp only
     rw[if_neg (fun h=>u.out h.1)]))
theorem zT5:zi C (.unary) s w (∀(_hk:((zH C.L s.k).kind=5∨(zH C.L s.k).kind=6)) (_M:¬(zH C.L s.k).text∈zHe) (_E:¬(zH C.L s.k).text∈zDa),zf C s w (.unary)):=fun hp K h hk M E=>by
 refine zBG hp h fun HL b6 c3 r W X F hW hX F0=>?_;have HK:=zA K;clear K h hp;go_enter func186,ntmps186;go_upto_region 1 with(fail);clear hW hX;have b2:=zA hk;have D:=zA M;have j:=zA E;clear hk M E;obtain⟨⟨kd,tx,st,nk,nn,mg,ps,nl⟩,d⟩:=zR C.L (s).k;have N:=zA (show kd=5∨kd=6 from by have:=b2.out;rwa[d.out]at this);obtain⟨e5,e6⟩ | ⟨e5,e6⟩:((kd:Int)==5)=true∧((kd:Int)==6)=false∨((kd:Int)==5)=false∧((kd:Int)==6)=true:=by have:=N.out;simp only[yBL,yA];omega
 all_goals
  go_wp2_with fail;refine F0.kT (zj F0.P d) fun w1 As Am c1 c2 F1=>?_;have F2:=F1.bt 1 78 rfl;obtain⟨O,Q,R,S,T,U,V,Y,a0⟩:=(F2.b 2).nine;go_wp2_with fail;refine F2.kQ (zQk tx (show decide (tx∈zHe)=false from by have:=D.out;rw[d.out]at this;simpa using this)) fun w3 F3=>?_;obtain⟨O,Q,R,S,T,U,V,Y,a0⟩:=(F3.b 2).nine;go_wp2_with fail;refine F3.kQ (zVy tx (show decide (tx∈zDa)=false from by have:=j.out;rw[d.out]at this;simpa using this)) fun w4 F4=>?_;go_wp2_with fail;refine F4.kD (HK.out.rank (q:=.calls) ⟨F4.P.hi,trivial⟩ F4.P (yAC _) (by simp[zAa])) fun w5 b7 a1 a2 a3 a4 a5 a6 a7 a8 I=>?_;have:=I.sto 3;obtain rfl:=(I.t 3).kind;have b8:=(I.b 2).lt;have F6:=I.box [.int .i64 ((zE C.L (.calls) (s)).1).nd.kind,a1,a2,a3,a4,a5,a6,a7,a8] 61 rfl jd jd;obtain⟨⟨v,m,sto,c4,c5,c6,c7,b3⟩,e⟩:=zR C.L ((zE C.L (.calls) (s)).2).k;go_wp2_with fail;refine F6.kT (zj F6.P e) fun w7 c8 c9 d0 d1 F7=>?_;have:=F7.c 2;have:=F7.f 2;go_upto_region 14 with(fail);refine zEf (F7.put 2 5) fun w8 u=>?_;have:=u.c 2
  by_cases y:v=5
  · have o:=zA y;have b4:((v:Int)==5)=true:=by rw[yBL];omega
    clear y
    by_cases z:m∈zDa
    · have l:=zA z;clear z;go_wp2_with fail;refine u.kQ (zMP m (show decide (m∈zDa)=true from by simpa using l.out)) fun w9 g=>?_;have:=g.c 2;have:=g.c 4;cases b3 with
      | true=>
       have:=g.c 0;have:=g.f 0;go_wp2_with fail;exact g.fin 0 3 rfl (F.out.symm.trans (by
        unfold zD;dsimp only;rw[d.out,if_neg (fun h=>by have:=D.out;rw[d.out]at this;exact this h.2),if_neg (fun h=>by have:=j.out;rw[d.out]at this;exact this h.2)]
        try dsimp only
        rw[e.out]
        try dsimp only
        rw[if_neg js]))
      | false=>
       go_wp2_with fail;refine(zB1 _ _).mono ?_;rintro b9 c0 ⟨rfl,rfl⟩;obtain⟨bt,G⟩:=jx (zAN ((zE C.L (.calls) (s)).1).nd.kind);rw[G];have J:=zA G;clear G;cases bt with
       | true=>
        have b5:=zA (HL.out.lt (s:=(zE C.L (.calls) (s)).2) g.P.hi (by rw[e.out];have:=o.out;show v≠0;omega));obtain⟨a9,b0,b1⟩:=g.k1;have A:=g.step b5;have:=A.c 2;have:=A.c 4;go_wp2_with fail;clear a9 b0 b1;refine A.litN _ _ (n:=1) (A.ts1 3) rfl js (show _=w9.heap.size by simp) fun d2 H=>?_;have:=H.c 0;have:=H.f 0;go_wp2_with fail;exact H.fin 0 6 rfl (F.out.symm.trans (by
         unfold zD;dsimp only;rw[d.out,if_neg (fun h=>by have:=D.out;rw[d.out]at this;exact this h.2),if_neg (fun h=>by have:=j.out;rw[d.out]at this;exact this h.2)]
         try dsimp only
         rw[e.out]
         try dsimp only
         rw[if_pos ⟨o.out,l.out,rfl⟩,J.out,if_neg js]))
       | false=>
        go_wp2_with fail;refine g.kN (zAJ g.P) fun d3 B=>?_;have:=B.c 4;have:=B.c 0;have:=B.f 0;go_wp2_with fail;exact B.fin 0 3 rfl (F.out.symm.trans (by
         unfold zD;dsimp only;rw[d.out,if_neg (fun h=>by have:=D.out;rw[d.out]at this;exact this h.2),if_neg (fun h=>by have:=j.out;rw[d.out]at this;exact this h.2)]
         try dsimp only
         rw[e.out]
         try dsimp only
         rw[if_pos ⟨o.out,l.out,rfl⟩,J.out,if_pos rfl]))
    · have l:=zA z;clear z;go_wp2_with fail;refine u.kQ (zMP m (show decide (m∈zDa)=false from by simpa using l.out)) fun d4 p=>?_;have:=p.c 2;have:=p.c 4;have:=p.c 0;have:=p.f 0;go_wp2_with fail;exact p.fin 0 3 rfl (F.out.symm.trans (by
       unfold zD;dsimp only;rw[d.out,if_neg (fun h=>by have:=D.out;rw[d.out]at this;exact this h.2),if_neg (fun h=>by have:=j.out;rw[d.out]at this;exact this h.2)]
       try dsimp only
       rw[e.out]
       try dsimp only
       rw[if_neg (fun h=>l.out h.2.1)]))
  · have o:=zA y;have b4:((v:Int)==5)=false:=by rw[yA];omega
    clear y;have:=u.c 4;have:=u.c 0;have:=u.f 0;go_wp2_with fail;exact u.fin 0 3 rfl (F.out.symm.trans (by
     unfold zD;dsimp only;rw[d.out,if_neg (fun h=>by have:=D.out;rw[d.out]at this;exact this h.2),if_neg (fun h=>by have:=j.out;rw[d.out]at this;exact this h.2)]
     try dsimp only
     rw[e.out]
     try dsimp only
     rw[if_neg (fun h=>o.out h.1)]))
theorem zT6:zi C (.unary) s w (∀(_hk:((zH C.L s.k).kind≠5∧(zH C.L s.k).kind≠6)) (_M:True),zf C s w (.unary)):=fun hp K h hk M=>by
 refine zBG hp h fun HL a7 b9 r W X E hW hX F0=>?_;have HK:=zA K;clear K h hp;go_enter func186,ntmps186;go_upto_region 1 with(fail);clear hW hX;have a3:=zA hk;have HW:=zA M;clear hk M;obtain⟨⟨kd,tx,st,nk,nn,mg,ps,nl⟩,u⟩:=zR C.L (s).k;have d:=zA (show kd≠5∧kd≠6 from by have:=a3.out;rwa[u.out]at this);have e5:((kd:Int)==5)=false:=by have:=d.out.1;rw[yA];omega
 have e6:((kd:Int)==6)=false:=by have:=d.out.2;rw[yA];omega
 go_wp2_with fail;refine F0.kT (zj F0.P u) fun w1 As Am c1 c2 F1=>?_;have H:=F1.bt 1 78 rfl;obtain⟨a8,a9,b0,b1,b2,b3,b4,b5,b6⟩:=(H.b 2).nine;go_wp2_with fail;refine H.kD (HK.out.rank (q:=.calls) ⟨H.P.hi,trivial⟩ H.P (yAC _) (by simp[zAa])) fun w3 b7 N O Q R S T U V I=>?_;have:=I.sto 3;obtain rfl:=(I.t 3).kind;have b8:=(I.b 2).lt;have F4:=I.box [.int .i64 ((zE C.L (.calls) (s)).1).nd.kind,N,O,Q,R,S,T,U,V] 61 rfl jd jd;obtain⟨⟨y,m,sto,c0,c3,c4,c5,a4⟩,g⟩:=zR C.L ((zE C.L (.calls) (s)).2).k;go_wp2_with fail;refine F4.kT (zj F4.P g) fun w5 c6 c7 c8 c9 Y=>?_;have:=Y.c 2;have:=Y.f 2;go_upto_region 14 with(fail);refine zEf (Y.put 2 5) fun w6 v=>?_;have:=v.c 2
 by_cases z:y=5
 · have o:=zA z;have a5:((y:Int)==5)=true:=by rw[yBL];omega
   clear z
   by_cases A:m∈zDa
   · have l:=zA A;clear A;go_wp2_with fail;refine v.kQ (zMP m (show decide (m∈zDa)=true from by simpa using l.out)) fun w7 j=>?_;have:=j.c 2;have:=j.c 4;cases a4 with
     | true=>
      have:=j.c 0;have:=j.f 0;go_wp2_with fail;exact j.fin 0 3 rfl (E.out.symm.trans (by
       unfold zD;dsimp only;rw[u.out,if_neg (fun h=>h.1.elim (fun e=>d.out.1 e) (fun e=>d.out.2 e)),if_neg (fun h=>h.1.elim (fun e=>d.out.1 e) (fun e=>d.out.2 e))]
       try dsimp only
       rw[g.out]
       try dsimp only
       rw[if_neg js]))
     | false=>
      go_wp2_with fail;refine(zB1 _ _).mono ?_;rintro d0 d1 ⟨rfl,rfl⟩;obtain⟨bt,F⟩:=jx (zAN ((zE C.L (.calls) (s)).1).nd.kind);rw[F];have J:=zA F;clear F;cases bt with
      | true=>
       have a6:=zA (HL.out.lt (s:=(zE C.L (.calls) (s)).2) j.P.hi (by rw[g.out];have:=o.out;show y≠0;omega));obtain⟨a0,a1,a2⟩:=j.k1;have B:=j.step a6;have:=B.c 2;have:=B.c 4;go_wp2_with fail;clear a0 a1 a2;refine B.litN _ _ (n:=1) (B.ts1 3) rfl js (show _=w7.heap.size by simp) fun d2 G=>?_;have:=G.c 0;have:=G.f 0;go_wp2_with fail;exact G.fin 0 6 rfl (E.out.symm.trans (by
        unfold zD;dsimp only;rw[u.out,if_neg (fun h=>h.1.elim (fun e=>d.out.1 e) (fun e=>d.out.2 e)),if_neg (fun h=>h.1.elim (fun e=>d.out.1 e) (fun e=>d.out.2 e))]
        try dsimp only
        rw[g.out]
        try dsimp only
        rw[if_pos ⟨o.out,l.out,rfl⟩,J.out,if_neg js]))
      | false=>
       go_wp2_with fail;refine j.kN (zAJ j.P) fun d3 D=>?_;have:=D.c 4;have:=D.c 0;have:=D.f 0;go_wp2_with fail;exact D.fin 0 3 rfl (E.out.symm.trans (by
        unfold zD;dsimp only;rw[u.out,if_neg (fun h=>h.1.elim (fun e=>d.out.1 e) (fun e=>d.out.2 e)),if_neg (fun h=>h.1.elim (fun e=>d.out.1 e) (fun e=>d.out.2 e))]
        try dsimp only
        rw[g.out]
        try dsimp only
        rw[if_pos ⟨o.out,l.out,rfl⟩,J.out,if_pos rfl]))
   · have l:=zA A;clear A;go_wp2_with fail;refine v.kQ (zMP m (show decide (m∈zDa)=false from by simpa using l.out)) fun d4 p=>?_;have:=p.c 2;have:=p.c 4;have:=p.c 0;have:=p.f 0;go_wp2_with fail;exact p.fin 0 3 rfl (E.out.symm.trans (by
      unfold zD;dsimp only;rw[u.out,if_neg (fun h=>h.1.elim (fun e=>d.out.1 e) (fun e=>d.out.2 e)),if_neg (fun h=>h.1.elim (fun e=>d.out.1 e) (fun e=>d.out.2 e))]
      try dsimp only
      rw[g.out]
      try dsimp only
      rw[if_neg (fun h=>l.out h.2.1)]))
 · have o:=zA z;have a5:((y:Int)==5)=false:=by rw[yA];omega
   clear z;have:=v.c 4;have:=v.c 0;have:=v.f 0;go_wp2_with fail;exact v.fin 0 3 rfl (E.out.symm.trans (by
    unfold zD;dsimp only;rw[u.out,if_neg (fun h=>h.1.elim (fun e=>d.out.1 e) (fun e=>d.out.2 e)),if_neg (fun h=>h.1.elim (fun e=>d.out.1 e) (fun e=>d.out.2 e))]
    try dsimp only
    rw[g.out]
    try dsimp only
    rw[if_neg (fun h=>o.out h.1)]))
theorem zQm:zi C .unary s w (zf C s w .unary):=fun b K h=>by
 by_cases k5:(zH C.L s.k).kind=5∨(zH C.L s.k).kind=6
 · by_cases u:(zH C.L s.k).text∈zHe
   · exact zT3 b K h k5 u
   · by_cases p:(zH C.L s.k).text∈zDa
     · exact zT4 b K h k5 u p
     · exact zT5 b K h k5 u p
 · exact zT6 b K h (not_or.1 k5) trivial
theorem zQn {m:Nat} (b:n < 8) (h:m=n):(zJm m==(n:Int))=true:=by
 subst h;unfold zJm;rw[jn];simp
theorem zQo {m:Nat} (h:¬m=n):(zJm m==(n:Int))=false:=by
 rw[yA];unfold zJm;split<;>omega
theorem zQp:zi C (.level n) s w (zf C s w (.level n)):=fun F K h=>by
 refine zBG F h fun o b4 a1 r W X HR hW hX m=>?_;have G:=zA K;have c7:n≤8:=F.2;clear K h F;go_enter func179,ntmps179;go_upto_region 1 with(fail);clear hW hX
 by_cases H:n=8
 · subst H;go_wp2_with fail;refine m.kD (G.out.rank (q:=.unary) ⟨m.P.hi,trivial⟩ m.P (yAC _) (by simp[zAa])) fun w1 b5 b6 b7 b8 b9 c0 c3 c4 c5 z=>?_;have:=z.sto 1;have:=z.c 0;have:=z.f 0;go_wp2_with fail;exact z.fin 0 1 rfl (HR.out.symm.trans (by
    unfold zD;dsimp only;rw[if_pos rfl]))
 · have b:n < 8:=by omega
   have c8:IntKind.i64.wrap ((n:Int)+1)=(n:Int)+1:=by rw[IntKind.wrap_i64];omega
   have e8:((n:Int)==8)=false:=by rw[yA];omega
   have HN:=zA H;clear H;have a2:=zA (show zAa (.level (n+1)) s < zAa (.level n) s by simp only[zAa];omega);go_wp2_with fail;refine m.kD (G.out.rank (q:=.level (n+1)) ⟨m.P.hi,b⟩ m.P (yAC _) a2) fun w3 I J M N O R S T U F3=>?_;have:=F3.sto 1;have F4:=F3.bt 1 61 rfl;have D:=zA (zZ o (p:=.level (n+1)) (s:=s) ⟨a1,b⟩).adv.le;have a3:=zA (show zE C.L (.levelL n ((zE C.L (.level (n+1)) (s)).1)) ((zE C.L (.level (n+1)) (s)).2)=r by
    refine Eq.trans ?_ HR;unfold zD;dsimp only;rw[if_neg HN.out])
   have c9:=zA (show C.L.length - ((zE C.L (.level (n+1)) (s)).2).k≤C.L.length - s.k by have:=D.out;omega);go_wp2_with fail
   go_loopg [6] (C.L.length - ((zE C.L (.level (n+1)) (s)).2).k) (fun gk _ wr=>∃(e:Tr) (s':Ps) (e0 e1 e2 e3 e4 e5 e6 e7 e8:Value),C.L.length - s'.k≤gk∧s.k≤s'.k∧Hid (zE C.L (.levelL n e) s'=r)∧Hid (Fr C (w.heap.size≤·) w [(w3.heap.size),X] [.bx X 61 [(0:Int),"",(),(0:Int),(0:Int),false,(),(),()],.bx (w3.heap.size) 61 [e0,e1,e2,e3,e4,e5,e6,e7,e8],.tr e [e0,e1,e2,e3,e4,e5,e6,e7,e8]] s' wr))
   case atStart=>exact⟨(zE C.L (.level (n+1)) (s)).1,(zE C.L (.level (n+1)) (s)).2,I,J,M,N,O,R,S,T,U,by omega,D,a3,F4.pk [(w3.heap.size),X] [0,2,1] js jd rfl js js⟩
   case round=>
    obtain⟨e,s',e0,e1,e2,e3,e4,e5,e6,e7,e8,d0,c6,E,Fl⟩:=hrel;obtain⟨⟨kd,tx,st,nk,nn,mg,ps,nl⟩,t⟩:=zR C.L (s').k;go_wp2_with fail;refine Fl.kT (zj Fl.P t) fun w6 As Am c1 c2 F6=>?_
    by_cases hb:zBJ ⟨kd,tx,st,nk,nn,mg,ps,nl⟩=n
    · have a4:=zQn b hb;have j:=zA hb;clear hb;go_wp2_with fail;refine F6.kQ (zMM) fun w7 F7=>?_;have d1:=zar;go_wp2_with fail;refine F7.kT (zj F7.P t) fun w8 d2 d3 d4 d5 V=>?_;have l:=zA (o.out.lt (s:=s') V.P.hi (by rw[t.out];exact zFe (by rw[j.out];omega)));obtain⟨d6,d7,d8⟩:=V.k1;have A:=V.step l;have B:=zA (zZ o (p:=.level (n+1)) (s:=zB s') ⟨l,b⟩);have Y:=zA (fun Q=>A.dr.kD (Q:=Q) (args:=#[C,.int .i64 ((n:Int)+1)]) (G.out.more (q:=.level (n+1)) ⟨A.dr.P.hi,b⟩ A.dr.P (by show s.k < s'.k+1;omega)));have:=A.c 1;go_wp2_with fail;go_region_law (first | (go_simp;go_at_call 179;(with_reducible refine Y.out _ fun d9 a5 a6 a7 a8 a9 b0 b1 b2 b3 u=>?_);have:=u.c 1;have a0:=zA (fun Q=>u.litN 46 tx (n:=2) (Q:=Q) (u.ts2 2 5) rfl js rfl)) | (go_simp;go_at_call 121;(with_reducible refine a0.out _ fun e9 v=>?_);have:=v.c 1;have:=v.f 1))
      all_goals
       have y:=zA (show zE C.L (.levelL n e) s'=zE C.L (.levelL n (trN 46 (tx) [e,(zE C.L (.level (n+1)) (zB (s'))).1])) ((zE C.L (.level (n+1)) (zB (s'))).2) by
        rw[zQ o.out (p:=.levelL n e) ⟨(yAM l.out),b⟩];unfold zD;dsimp only;rw[t.out,if_pos j.out])
       have f0:(zB s').k=s'.k+1:=rfl;have f1:=B.out.adv.le;have f2:=l.out;go_wp2_with fail
       go_roundg (C.L.length - ((zE C.L (.level (n+1)) (zB (s'))).2).k)
       case measure=>omega
       case rel=>
        exact⟨_,_,_,_,_,_,_,_,_,_,_,yAC _,jo,y.out.symm.trans E,(v.put 1 6).pk [(w3.heap.size),X] [0,1,6] js jd rfl js js⟩
    · have a4:=zQo (n:=n) hb;have j:=zA hb;clear hb;go_wp2_with fail;refine F6.kQ (zMM) fun f3 d=>?_;have:=d.c 1;have:=d.sto 2;have y:=zA (show zE C.L (.levelL n e) s'=(e,s') by
       rw[zQ o.out (p:=.levelL n e) ⟨d.P.hi,b⟩];unfold zD;dsimp only;rw[t.out,if_neg j.out])
      have:=d.c 0;have:=d.f 0;go_wp2_with fail;exact d.fin 0 2 rfl (E.out.symm.trans y)
theorem zK4:zi C (.either) s w (∀(_d:onP C.L [63,63] (zE C.L (.level 0) s).2=true),zf C s w (.either)):=fun hp K h d=>by
 refine zBG hp h fun y a4 a0 r W X HR hW hX J=>?_;have HK:=zA K;clear K h hp;go_enter func171,ntmps171;go_upto_region 1 with(fail);clear hW hX;have j:=zA d;clear d;go_wp2_with fail;refine J.kD (HK.out.rank (q:=.level 0) ⟨J.P.hi,yAE _⟩ J.P (yAC _) (by simp[zAa])) fun w1 M N O R S T U V Y F1=>?_;have:=F1.sto 1;have F2:=F1.bt 1 61 rfl;have a1:=zA (zZ y (p:=.level 0) (s:=s) ⟨a0,yAE _⟩).adv.le;go_wp2_with fail;refine F2.kB (zAi F2.P [63,63] j) fun w3 F3=>?_;obtain⟨q,hq⟩:=jx (zE C.L (.nullL ((zE C.L (.level 0) (s)).1)) ((zE C.L (.level 0) (s)).2));have HQ:=zA hq;clear hq;have z:=zA (show r=(q.1,if(onP C.L [124,124] q.2 || onP C.L [38,38] q.2)=true then zb C.L q.2 else q.2)from by
  refine HR.out.symm.trans ?_;unfold zD;dsimp only;rw[if_pos j.out,HQ.out])
 go_wp2_with fail
 go_loopg [9] (C.L.length - ((zE C.L (.level 0) (s)).2).k) (fun gk _ wr=>∃(l:Tr) (s':Ps) (e0 e1 e2 e3 e4 e5 e6 e7 e8:Value),C.L.length - s'.k≤gk∧s.k≤s'.k∧Hid (zE C.L (.nullL l) s'=q)∧Hid (Fr C (w.heap.size≤·) w [(w1.heap.size),X] [.bx X 61 [(0:Int),"",(),(0:Int),(0:Int),false,(),(),()],.bx (w1.heap.size) 61 [e0,e1,e2,e3,e4,e5,e6,e7,e8],.tr l [e0,e1,e2,e3,e4,e5,e6,e7,e8]] s' wr))
 case atStart=>exact⟨(zE C.L (.level 0) (s)).1,(zE C.L (.level 0) (s)).2,M,N,O,R,S,T,U,V,Y,by omega,a1,HQ,F3.pk [(w1.heap.size),X] [0,2,1] js jd rfl js js⟩
 case round=>
  obtain⟨l,s',e0,e1,e2,e3,e4,e5,e6,e7,e8,b7,a5,G,A⟩:=hrel
  by_cases d:onP C.L [63,63] s'=true
  · have j:=zA d;clear d;have B:=zA (y.out.on A.P.hi j);go_wp2_with fail;refine A.kM (zBY A.P [63,63] j) fun w5 D=>?_;have E:=zA (zZ y (p:=.level 0) (s:=zB s') ⟨B,yAE _⟩);have a2:=zA (fun Q=>D.dr.kD (Q:=Q) (args:=#[C,(0:Int)]) (HK.out.more (q:=.level 0) ⟨D.dr.P.hi,yAE _⟩ D.dr.P (by show s.k < s'.k+1;omega)));have:=D.c 1;go_wp2_with fail;go_region_law (first | (go_simp;go_at_call 179;(with_reducible refine a2.out _ fun w6 a6 a7 a8 a9 b0 b3 b4 b5 b6 F6=>?_);have:=F6.c 1;have a3:=zA (fun Q=>F6.litN 47 [63,63] (n:=2) (Q:=Q) (F6.ts2 2 3) rfl js rfl)) | (go_simp;go_at_call 121;(with_reducible refine a3.out _ fun w7 F7=>?_);have:=F7.c 1;have:=F7.f 1))
    all_goals
     have m:=zA (show zE C.L (.nullL l) s'=zE C.L (.nullL (trN 47 ([63,63]) [l,(zE C.L (.level 0) (zB (s'))).1])) ((zE C.L (.level 0) (zB (s'))).2) by
      rw[zQ y.out (p:=.nullL l) ⟨(yAM B.out),trivial⟩];unfold zD;dsimp only;rw[if_pos j.out])
     have b8:(zB s').k=s'.k+1:=rfl;have b9:=E.out.adv.le;have c0:=B.out;go_wp2_with fail
     go_roundg (C.L.length - ((zE C.L (.level 0) (zB (s'))).2).k)
     case measure=>omega
     case rel=>
      exact⟨_,_,_,_,_,_,_,_,_,_,_,yAC _,jo,m.out.symm.trans G,(F7.put 1 4).pk [(w1.heap.size),X] [0,1,4] js jd rfl js js⟩
  · have j:=zA (show onP C.L [63,63] s'=false by simpa using d);clear d;go_wp2_with fail;refine A.kM (zBd A.P [63,63] j) fun w8 F8=>?_;have m:=zA (show q=(l,s')from G.out.symm.trans (by
     rw[zQ y.out (p:=.nullL l) ⟨F8.P.hi,trivial⟩];unfold zD;dsimp only;rw[if_neg (by rw[j.out];decide)]))
    obtain⟨b1,H⟩:=jx (onP C.L [124,124] s');obtain⟨b2,I⟩:=jx (onP C.L [38,38] s');have u:=zA H;have v:=zA I;clear H I;go_wp2_with fail;refine F8.kB (zAi F8.P [124,124] u) fun w9 F=>?_;cases b1 with
    | true=>
     go_wp2_with fail;refine F.kN (zAJ F.P) fun c1 o=>?_;have:=o.c 1;have:=o.sto 2;have:=o.c 0;have:=o.f 0;go_wp2_with fail;exact o.fin 0 2 rfl (by rw[z.out,m.out];simp[u.out,v.out])
    | false=>
     go_wp2_with fail;refine F.kB (zAi F.P [38,38] v) fun c2 e=>?_;cases b2 with
     | true=>
      go_wp2_with fail;refine e.kN (zAJ e.P) fun c3 t=>?_;have:=t.c 1;have:=t.sto 2;have:=t.c 0;have:=t.f 0;go_wp2_with fail;exact t.fin 0 2 rfl (by rw[z.out,m.out];simp[u.out,v.out])
     | false=>
      have:=e.c 1;have:=e.sto 2;have:=e.c 0;have:=e.f 0;go_wp2_with fail;exact e.fin 0 2 rfl (by rw[z.out,m.out];simp[u.out,v.out])
theorem zQq:zi C (.either) s w (∀(_d:¬onP C.L [63,63] (zE C.L (.level 0) s).2=true),zf C s w (.either)):=fun hp K h d=>by
 refine zBG hp h fun l c6 M r W X HR hW hX S=>?_;have H:=zA K;clear K h hp;go_enter func171,ntmps171;go_upto_region 1 with(fail);clear hW hX;have e:=zA (show onP C.L [63,63] (zE C.L (.level 0) s).2=false by simpa using d);clear d;go_wp2_with fail;refine S.kD (H.out.rank (q:=.level 0) ⟨S.P.hi,yAE _⟩ S.P (yAC _) (by simp[zAa])) fun w1 c7 c8 c9 d0 d1 d2 d3 d4 d5 F1=>?_;have:=F1.sto 1;have F2:=F1.bt 1 61 rfl;have N:=zA (zZ l (p:=.level 0) (s:=s) ⟨M,yAE _⟩).adv.le;go_wp2_with fail;refine F2.kB (zAi F2.P [63,63] e) fun w3 v=>?_;have:=v.c 2;go_wp2_with fail;refine v.kO (v.both 1 rfl (H.out.rank (q:=.both ((zE C.L (.level 0) (s)).1)) ⟨v.P.hi,trivial⟩ v.P N (by simp[zAa]))) fun w4 T U V Y a9 b9 c0 c1 c2 I=>?_;have:=I.sto 3;have:=I.c 2;have:=I.f 2;obtain⟨q,hq⟩:=jx (zE C.L (.orL ((zE C.L (.both ((zE C.L (.level 0) (s)).1)) ((zE C.L (.level 0) (s)).2)).1)) ((zE C.L (.both ((zE C.L (.level 0) (s)).1)) ((zE C.L (.level 0) (s)).2)).2));have HQ:=zA hq;clear hq;have O:=zA (show r=(q.1,if onP C.L [63,63] q.2=true then zb C.L q.2 else q.2)from by
  refine HR.out.symm.trans ?_;unfold zD;dsimp only;rw[if_neg (by rw[e.out];decide),HQ.out])
 have c3:=zA (yAD N (zZ l (p:=.both ((zE C.L (.level 0) (s)).1)) (s:=(zE C.L (.level 0) (s)).2) ⟨(zZ l (p:=.level 0) (s:=s) ⟨M,yAE _⟩).adv.hi,trivial⟩).adv.le);go_wp2_with fail
 go_loopg [28] (C.L.length - ((zE C.L (.both ((zE C.L (.level 0) (s)).1)) ((zE C.L (.level 0) (s)).2)).2).k) (fun gk _ wr=>∃(m:Tr) (s':Ps) (e0 e1 e2 e3 e4 e5 e6 e7 e8:Value),C.L.length - s'.k≤gk∧s.k≤s'.k∧Hid (zE C.L (.orL m) s'=q)∧Hid (Fr C (w.heap.size≤·) w [(w1.heap.size),X] [.bx X 61 [(0:Int),"",(),(0:Int),(0:Int),false,(),(),()],.bx (w1.heap.size) 61 [e0,e1,e2,e3,e4,e5,e6,e7,e8],.tr m [e0,e1,e2,e3,e4,e5,e6,e7,e8]] s' wr))
 case atStart=>exact⟨(zE C.L (.both ((zE C.L (.level 0) (s)).1)) ((zE C.L (.level 0) (s)).2)).1,(zE C.L (.both ((zE C.L (.level 0) (s)).1)) ((zE C.L (.level 0) (s)).2)).2,T,U,V,Y,a9,b9,c0,c1,c2,yAC _,c3,HQ,(I.put 2 3).pk [(w1.heap.size),X] [0,2,3] js jd rfl js js⟩
 case round=>
  obtain⟨m,s',e0,e1,e2,e3,e4,e5,e6,e7,e8,d8,d6,R,y⟩:=hrel
  by_cases d:onP C.L [124,124] s'=true
  · have e:=zA d;clear d;have z:=zA (l.out.on y.P.hi e);go_wp2_with fail;refine y.kM (zBY y.P [124,124] e) fun w6 J=>?_;have j:=zA (zZ l (p:=.level 0) (s:=zB s') ⟨z,yAE _⟩);have A:=zA (zZ l (p:=.both ((zE C.L (.level 0) (zB s')).1)) (s:=(zE C.L (.level 0) (zB s')).2) ⟨j.out.adv.hi,trivial⟩);have c4:=zA (fun Q=>J.dr.kD (Q:=Q) (args:=#[C,(0:Int)]) (H.out.more (q:=.level 0) ⟨J.dr.P.hi,yAE _⟩ J.dr.P (by show s.k < s'.k+1;omega)));have:=J.c 1;go_wp2_with fail;go_region_law (first | (go_simp;go_at_call 179;(with_reducible refine c4.out _ fun d9 a0 a1 a2 a3 a4 a5 a6 a7 a8 o=>?_);have:=o.c 1;have c5:=zA (fun Q=>o.kO (Q:=Q) (o.both 3 rfl (H.out.rank (q:=.both ((zE C.L (.level 0) (zB s')).1)) ⟨o.P.hi,trivial⟩ o.P (by have:=j.out.adv.le;have:(zB s').k=s'.k+1:=rfl;omega) (by simp[zAa]))))) | (go_simp;go_at_call 180;(with_reducible refine c5.out _ fun e9 b0 b1 b2 b3 b4 b5 b6 b7 b8 B=>?_);have:=B.c 1;have LT:=zA (fun Q=>B.litN 47 [124,124] (n:=2) (Q:=Q) (B.ts2 2 4) rfl js rfl)) | (go_simp;go_at_call 121;(with_reducible refine LT.out _ fun f0 D=>?_);have:=D.c 1;have:=D.f 1))
    all_goals
     have u:=zA (show zE C.L (.orL m) s'=zE C.L (.orL (trN 47 ([124,124]) [m,(zE C.L (.both ((zE C.L (.level 0) (zB s')).1)) ((zE C.L (.level 0) (zB s')).2)).1])) ((zE C.L (.both ((zE C.L (.level 0) (zB s')).1)) ((zE C.L (.level 0) (zB s')).2)).2) by
      rw[zQ l.out (p:=.orL m) ⟨(yAM z.out),trivial⟩];unfold zD;dsimp only;rw[if_pos e.out])
     have f1:(zB s').k=s'.k+1:=rfl;have f2:=j.out.adv.le;have d7:=A.out.adv.le;have f3:=z.out;go_wp2_with fail
     go_roundg (C.L.length - ((zE C.L (.both ((zE C.L (.level 0) (zB s')).1)) ((zE C.L (.level 0) (zB s')).2)).2).k)
     case measure=>omega
     case rel=>
      exact⟨_,_,_,_,_,_,_,_,_,_,_,yAC _,jo,u.out.symm.trans R,(D.put 1 5).pk [(w1.heap.size),X] [0,1,5] js jd rfl js js⟩
  · have e:=zA (show onP C.L [124,124] s'=false by simpa using d);clear d;go_wp2_with fail;refine y.kM (zBd y.P [124,124] e) fun w7 F7=>?_;have u:=zA (show q=(m,s')from R.out.symm.trans (by
     rw[zQ l.out (p:=.orL m) ⟨F7.P.hi,trivial⟩];unfold zD;dsimp only;rw[if_neg (by rw[e.out];decide)]))
    obtain⟨b1,E⟩:=jx (onP C.L [63,63] s');have F:=zA E;have f4:=zA E;clear E;go_wp2_with fail;refine F7.kB (zAi F7.P [63,63] F) fun w8 t=>?_;cases b1 with
    | true=>
     go_wp2_with fail;refine t.kN (zAJ t.P) fun w9 G=>?_;have:=G.c 1;have:=G.sto 2;have:=G.c 0;have:=G.f 0;go_wp2_with fail;exact G.fin 0 2 rfl (by rw[O.out,u.out];simp[F.out])
    | false=>
     have:=t.c 1;have:=t.sto 2;have:=t.c 0;have:=t.f 0;go_wp2_with fail;exact t.fin 0 2 rfl (by rw[O.out,u.out];simp[F.out])
theorem zNu:zi C .either s w (zf C s w .either):=fun c K h=>by
 by_cases b:onP C.L [63,63] (zE C.L (.level 0) s).2=true
 · exact zK4 c K h b
 · exact zQq c K h b
theorem LstQ.mk {r:Tr×Ps} {w':World} {A:jQ} {c:Nat} {t:Ps} (e:r=(trK 0 l,t)) (h:RowP w' (w.heap.size≤·) (.slice A n c) l) (b:Pa C t w') (hg:w.grownBy w' (some C.g)):LstQ C r w (.returned (.slice A n c)) w':=by
 subst e;obtain⟨h1,d,f⟩:=h.bounds;exact⟨A,n,c,rfl,h1,d,f,h,b,hg⟩
theorem zT7:zi C (.list v) s w (zf C s w (.list v)):=fun hp K h=>by
 show Calls prog 195 #[C,v] w (LstQ C (zE C.L (.list v) s) w);have E:=zA h.cx.lst;have c6:C.N≤4097:=h.cx.n4;have b6:=zA h.cx.n;have c7:=h.lt;have HK:=zA K;have c8:=hp.1;have P:=zA hp;have HP:=zA h;obtain⟨r,hr⟩:=jx (zE C.L (.list v) s);rw[hr];have HR:=zA hr;clear hr h K hp
 by_cases c:onP C.L v s=true
 · have HO:=zA c;clear c;go_enter func195,ntmps195;go_wp2_with fail;refine(zA1 HP v HO).mono ?_;rintro ev w1 ⟨rfl,u,y⟩;have F:=zA (show Pa C (zB s) w1 from u);have G:=zA y;clear u y;go_wp2_with fail;go_ret;refine LstQ.mk (l:=[]) (HR.out.symm.trans (by
    rw[zQ E.out P.out];unfold zD;dsimp only;rw[if_pos HO.out])) (RowP.nil _ _) F G
 · have HO:=zA (show onP C.L v s=false by simpa using c);have a6:=zA (show zE C.L (.listL v []) s=r from by
    refine Eq.trans ?_ HR;rw[zQ E.out (p:=.list v) P.out];unfold zD;dsimp only;rw[if_neg c])
   clear c;go_enter func195,ntmps195;go_wp2_with fail;refine(zA1 HP v HO).mono ?_;rintro ev w1 ⟨rfl,u,y⟩;have F:=zA (show Pa C s w1 from u);have G:=zA y;clear u y;go_wp2_with fail
   go_loopg [5] (C.L.length - s.k) (fun gk v5 wr=>∃(j:List Tr) (s':Ps) (A:jQ) (n cp:Nat),v5=.slice A n cp∧C.L.length - s'.k≤gk∧s.k≤s'.k∧n≤s'.k∧Hid (zE C.L (.listL v j) s'=r)∧Hid (Pa C s' wr)∧Hid (RowP wr (w.heap.size≤·) (.slice A n cp) j)∧Hid (w.grownBy wr (some C.g)))
   case atStart=>exact⟨[],s,none,0,0,rfl,yAC _,yAC _,yAE _,a6,F,RowP.nil _ _,G⟩
   case round=>
    clear F G a6;obtain⟨j,s',A,n,cp,rfl,c9,b4,d9,R,d,S,a7⟩:=hrel;go_wp2_with fail;refine(Calls.mono (show Calls prog 122 #[C] wr (zDb C (zE C.L .assign s') wr)from HK.out.rank (q:=.assign) ⟨d.out.hi,trivial⟩ d b4 (by simp[zAa])) ?_);rintro e0 w2 ⟨d0,d1,d2,d3,d4,d5,d6,d7,d8,rfl,a8,a9,H⟩;have e1:=a7.out.size;have T:=zA a9;have U:=zA a8;have V:=zA (S.out.keep H (.box d.out.box jd jd jo));have b0:=zA (zC a7 H);have b7:=zA (S.out.lt);have e2:=H.size;have f:=zA (zZ E (p:=.assign) (s:=s') ⟨d.out.hi,trivial⟩);have b5:=f.out.adv.le;have W:=f.out.adv.hi;have e3:=b6.out;clear a8 a9 H;obtain⟨e,he⟩:=jx (zE C.L .assign s');rw[he]at T U f b5 W;have HE:=zA he;clear he;have HN:=zA S.out.bounds.1;go_wp2_with (at_builtin;refine zEd (Px:=fun b=>w.heap.size≤b) (Q:=fun b=>wr.heap.size≤b) rfl _ _ rfl rfl HN.out V.out U.out (fun b (hb:wr.heap.size≤b) _=>(by omega:w.heap.size≤b)) (fun b hb h2=>(by have:=b7.out b hb;omega)) (by show w.heap.size≤w2.heap.size+1;omega) jo rfl ?_;intro A3 b8 w3 X Y);have b1:=zA X;have a0:=V.out.new (zG w2 (.cells #[d0,d1,d2,d3,d4,d5,d6,d7,d8] 61) none);have b2:=zA ((T.out.alloc (.cells #[d0,d1,d2,d3,d4,d5,d6,d7,d8] 61)).row a0 (fun b (hb:w.heap.size≤b)=>(by omega:C.g < b)) Y);have a1:=zA (zHv (zC b0 (zG _ _ _)) a0 (fun b hb=>hb) Y);have e4:=a1.out.size;clear X Y a0 V T b0 U
    by_cases hb:e.2.bad=0
    · have a2:=zA (show(e.2.bad==0)=true by rw[hb];rfl);have I:=zA hb;have e5:=f.out.lt d.out.hi (by rw[hb];simp);clear hb;refine(zBe b2 a2).mono ?_;rintro b9 w4 ⟨rfl,z,m⟩;have t:=zA z;have J:=zA (b1.out.new m);have M:=zA (zC a1 (zAX m _));clear z m
      by_cases c:onP C.L v e.2=true
      · have B:=zA c;clear c;go_wp2_with fail;refine(zA1 t v B).mono ?_;rintro c0 w5 ⟨rfl,D,o⟩;have O:=zA (show Pa C (zB e.2) w5 from D);have a3:=zA (J.out.keep o (.box t.out.box jd jd jo));have a4:=zA (zC M o);clear D o;go_wp2_with fail;go_ret;refine LstQ.mk (l:=j++[e.1]) (R.out.symm.trans (by
         rw[zQ E.out ⟨d.out.hi,trivial⟩];unfold zD;dsimp only;rw[HE.out,if_neg (by rw[I.out];simp),if_pos B.out])) a3 O a4
      · have B:=zA (show onP C.L v e.2=false by simpa using c);clear c;go_wp2_with fail;refine(zA1 t v B).mono ?_;rintro c0 w5 ⟨rfl,D,o⟩;have O:=zA (show Pa C e.2 w5 from D);have a3:=zA (J.out.keep o (.box t.out.box jd jd jo));have a4:=zA (zC M o);clear D o;go_wp2_with fail;refine(zAH O [44]).mono ?_;rintro e6 w6 ⟨rfl,b3,a5⟩;have c1:=zA b3;have c2:=zA (a3.out.keep a5 (.box O.out.box jd jd jo));have c3:=zA (zC a4 a5);clear b3 a5;have c4:=zA (show zE C.L (.listL v (j++[e.1])) (zO C.L [44] e.2)=r from Eq.trans (Eq.symm (by
         rw[zQ E.out (p:=.listL v j) (s:=s') ⟨d.out.hi,trivial⟩];unfold zD;dsimp only;rw[HE.out,if_neg (by rw[I.out];simp),if_neg (by rw[B.out];decide)])) R)
        have c5:=zA (za (w:=[44]) E (s:=e.2) W).adv;have e7:=c5.out.le;go_wp2_with fail
        go_roundg (C.L.length - (zO C.L [44] e.2).k)
        case measure=>omega
        case rel=>exact⟨_,_,A3,n+1,b8,rfl,yAC _,by omega,by omega,c4,c1,c2,c3⟩
    · have a2:=zA (show(e.2.bad==0)=false by rw[yA];exact hb);have I:=zA hb;clear hb;refine(zBe b2 a2).mono ?_;rintro b9 w4 ⟨rfl,z,m⟩;have t:=zA z;have J:=zA (b1.out.new m);have M:=zA (zC a1 (zAX m _));clear z m;go_wp2_with fail;go_ret;refine LstQ.mk (l:=j++[e.1]) (R.out.symm.trans (by
       rw[zQ E.out ⟨d.out.hi,trivial⟩];unfold zD;dsimp only;rw[HE.out,if_pos I.out])) J t M
theorem zT8:zi C .args s w (zf C s w .args):=fun d K h=>by
 show Calls prog 192 #[C] w (LstQ C (zE C.L .args s) w);have t:=zA h.cx.lst;have z:=zA K;have r:=zA d;have B:=zA h;have D:=zA (za (w:=[40]) t d.1);have u:=zA (D.out.more d.2);clear h K d;go_enter func192,ntmps192;go_wp2_with fail;refine(zAH B [40]).mono ?_;rintro J w1 ⟨rfl,f,j⟩;have k:=zA f;have l:=zA j;clear f j;go_wp2_with fail;refine(Calls.mono (show Calls prog 195 #[C,.string ⟨#[41]⟩] w1 (LstQ C (zE C.L (.list [41]) (zO C.L [40] s)) w1)from z.out.more (q:=.list [41]) ⟨k.out.hi,trivial⟩ k u) ?_);rintro I w2 ⟨A,n,c,rfl,h1,E,F,m,o,p⟩;have G:=zA (show RowP w2 (w.heap.size≤·) (.slice A n c) (zE C.L (.list [41]) (zO C.L [40] s)).1.subs from m.sub fun b (hb:w1.heap.size≤b) _=>yAD l.out.size hb);have v:=zA o;have y:=zA (zC l p);have H:=zA h1;clear h1 m o p;go_wp2_with fail;go_ret;have e:zE C.L .args s=zE C.L (.list [41]) (zO C.L [40] s):=by
  rw[zQ t.out r.out];rfl
 rw[e];exact⟨A,n,c,rfl,H,E,F,G,v,y⟩
theorem zNv:zi C (.object) s w (zf C s w (.object)):=fun hp K h=>by
 refine zBG hp h fun u a8 b0 r W X HR hW hX F0=>?_;have HK:=zA K;clear K h hp;go_enter func196,ntmps196;go_upto_region 1 with(fail);clear hW hX;go_wp2_with fail;refine F0.made0 _ fun w1 F1=>?_;have B:=F1.bt 1 61 rfl
 by_cases l:onP C.L [125] s=true
 · have v:=zA l;clear l;go_wp2_with fail;refine B.kM (zBY B.P [125] v) fun w3 D=>?_;have:=D.c 2;have:=D.c 0;have:=D.f 0;go_wp2_with fail;exact D.fin 0 1 rfl (HR.out.symm.trans (by
    unfold zD;dsimp only;rw[if_pos v.out]))
 · have v:=zA (show onP C.L [125] s=false by simpa using l);clear l;have a0:=zA (show zE C.L (.objL []) s=r from by
    refine Eq.trans ?_ HR;unfold zD;dsimp only;rw[if_neg (by rw[v.out];decide)])
   go_wp2_with fail;refine B.kM (zBd B.P [125] v) fun w5 F5=>?_;go_wp2_with fail
   go_loopg [9] (C.L.length - s.k) (fun gk _ wr=>∃(b:List Tr) (s':Ps) (A:jQ) (n cp:Nat),C.L.length - s'.k≤gk∧s.k≤s'.k∧n≤s'.k∧Hid (zE C.L (.objL b) s'=r)∧Fr C (w.heap.size≤·) w [(w1.heap.size),X] [.bx X 61 [(0:Int),"",(),(0:Int),(0:Int),false,(),(),()],.bx (w1.heap.size) 61 [(39:Int),"",(),(0:Int),(0:Int),false,(),(),.slice A n cp],.ro (.slice A n cp) b] s' wr)
   case atStart=>exact⟨[],s,none,0,0,yAC _,yAC _,yAE _,a0,F5.nil.pk [(w1.heap.size),X] [0,2,3] js jd rfl js js⟩
   case round=>
    obtain⟨b,s',A,n,cp,b1,I,b2,y,d⟩:=hrel;have e:=zA (zZ u (p:=.prop) (s:=s') ⟨d.P.hi,trivial⟩);have a9:=e.out.adv.le;have J:=e.out.adv.hi;have b3:=d.P.hi;have a1:=zA (fun Q=>d.dr.kR 2 rfl (Q:=Q) (HK.out.rank (q:=.prop) ⟨d.dr.P.hi,trivial⟩ d.dr.P I (by simp[zAa])));have:=d.c 1;have a2:n≤4097:=by have:=d.P.cx.n;omega
    go_wp2_with fail;go_region_law (first | (go_simp;go_at_call 197;(with_reducible refine a1.out _ fun w6 M N O R S T U V Y F6=>?_);have:=F6.c 1;have:=(F6.al (.cells #[M,N,O,R,S,T,U,V,Y] 61)).c 1) | (refine F6.snocS 2 3 rfl rfl (fun _ h=>h) a2 rfl _ _ rfl rfl rfl fun A7 G w7 F7=>?_;have:=F7.c 1;have:=F7.f 1))
    all_goals
     have E:=F7.set 1 8 (.slice A7 (n+1) G)
     by_cases hb:(zE C.L .prop s').2.bad=0
     · have z:=zA (show((zE C.L .prop s').2.bad==0)=true by rw[hb];rfl);have m:=zA hb;have b4:=e.out.lt d.P.hi (by rw[hb];simp);clear hb;go_wp2_with fail;refine E.kB (zBe E.P z) fun w9 F=>?_
       by_cases g:onP C.L [125] (zE C.L .prop s').2=true
       · have j:=zA g;clear g;go_wp2_with fail;refine F.kM (zBY F.P [125] j) fun b5 o=>?_;have:=o.c 1;have:=o.c 0;have:=o.f 0;go_wp2_with fail;have a3:=o.rowK 2 rfl 39;exact a3.fin 0 4 rfl (y.out.symm.trans (by
          rw[zQ u.out (p:=.objL b) ⟨d.P.hi,trivial⟩];unfold zD;dsimp only;rw[if_neg (by rw[m.out];simp),if_pos j.out]))
       · have j:=zA (show onP C.L [125] (zE C.L .prop s').2=false by simpa using g);clear g;go_wp2_with fail;refine F.kM (zBd F.P [125] j) fun b6 H=>?_;have a4:=zA (show zE C.L (.objL (b++[(zE C.L .prop s').1])) (zO C.L [44] (zE C.L .prop s').2)=r from Eq.trans (Eq.symm (by
          rw[zQ u.out (p:=.objL b) (s:=s') ⟨d.P.hi,trivial⟩];unfold zD;dsimp only;rw[if_neg (by rw[m.out];simp),if_neg (by rw[j.out];decide)])) y)
         have a5:=zA (za (w:=[44]) u (s:=(zE C.L .prop s').2) J).adv;have b7:=a5.out.le;go_wp2_with fail;refine H.kN (zAH H.P [44]) fun b8 a6=>?_;go_wp2_with fail
         go_roundg (C.L.length - (zO C.L [44] (zE C.L .prop s').2).k)
         case measure=>omega
         case rel=>exact⟨_,_,A7,n+1,G,yAC _,by omega,by omega,a4,a6.pk [(w1.heap.size),X] [0,1,2] js jd rfl js js⟩
     · have z:=zA (show((zE C.L .prop s').2.bad==0)=false by rw[yA];exact hb);have m:=zA hb;clear hb;go_wp2_with fail;refine E.kB (zBe E.P z) fun b9 t=>?_;have:=t.c 1;have:=t.c 0;have:=t.f 0;go_wp2_with fail;have a7:=t.rowK 2 rfl 39;exact a7.fin 0 4 rfl (y.out.symm.trans (by
        rw[zQ u.out (p:=.objL b) ⟨d.P.hi,trivial⟩];unfold zD;dsimp only;rw[if_pos m.out]))
theorem zQr:zi C (.block) s w (zf C s w (.block)):=fun hp K h=>by
 refine zBG hp h fun t b0 H r W X HR hW hX F0=>?_;have HK:=zA K;clear K h hp;go_enter func127,ntmps127;go_upto_region 1 with(fail);clear hW hX;go_wp2_with fail;refine F0.made0 _ fun w1 F1=>?_;have F2:=F1.bt 1 61 rfl;have hn:=zA (za (w:=[123]) t H);have a1:=zA (show zE C.L (.blockL []) (zO C.L [123] (s))=r from by
  refine Eq.trans ?_ HR;unfold zD;rfl)
 go_wp2_with fail;refine F2.kN (zAH F2.P [123]) fun w3 F3=>?_;have a2:=zA (show(zO C.L [123] (s)).bad=0→s.k < (zO C.L [123] (s)).k from fun hb=>hn.out.lt H (by rw[hb];simp));have b4:=zA hn.out.adv.le;go_wp2_with fail
 go_loopg [7] (2*(C.L.length - (zO C.L [123] (s)).k)+(if(zO C.L [123] (s)).bad=0 then 1 else 0)) (fun gk _ wr=>∃(e:List Tr) (s':Ps) (A:jQ) (n cp:Nat),2*(C.L.length - s'.k)+(if s'.bad=0 then 1 else 0)≤gk∧(s'.bad=0→s.k < s'.k)∧(s'.bad=0→n≤s'.k)∧Hid (zE C.L (.blockL e) s'=r)∧Fr C (w.heap.size≤·) w [(w1.heap.size),X] [.bx X 61 [(0:Int),"",(),(0:Int),(0:Int),false,(),(),()],.bx (w1.heap.size) 61 [(4:Int),"",(),(0:Int),(0:Int),false,(),(),.slice A n cp],.ro (.slice A n cp) e] s' wr)
 case atStart=>exact⟨[],zO C.L [123] (s),none,0,0,yAC _,a2,fun _=>yAE _,a1,F3.nil.pk [(w1.heap.size),X] [0,2,3] js jd rfl js js⟩
 case round=>
  obtain⟨e,s',A,n,cp,l,j,I,u,b⟩:=hrel
  by_cases hb:s'.bad=0
  · have v:=zA (show(s'.bad==0)=true by rw[hb];rfl);have g:=zA hb;have y:=zA (j hb);have b1:2*(C.L.length - s'.k)+1≤gk:=by rw[if_pos hb]at l;exact l
    clear hb l j;go_wp2_with fail;refine b.kB (zBe b.P v) fun w4 E=>?_
    by_cases m:onP C.L [125] s'=true
    · have z:=zA m;clear m;go_wp2_with fail;refine E.kM (zBY E.P [125] z) fun w5 F=>?_;have:=F.c 1;have:=F.c 0;have:=F.f 0;go_wp2_with fail;have F6:=F.rowK 2 rfl 4;exact F6.fin 0 3 rfl (u.out.symm.trans (by
       rw[zQ t.out (p:=.blockL e) ⟨b.P.hi,trivial⟩];unfold zD;dsimp only;rw[if_neg (by rw[g.out];simp),if_pos z.out]))
    · have z:=zA (show onP C.L [125] s'=false by simpa using m);clear m;go_wp2_with fail;refine E.kM (zBd E.P [125] z) fun w8 G=>?_;have d:=zA (zZ t (p:=.item) (s:=s') ⟨b.P.hi,trivial⟩);have b2:=d.out.adv.le;have b3:=d.out.adv.hi;have b5:=b.P.hi;have b6:=I g;have a3:=zA (fun Q=>G.dr.kR 2 rfl (Q:=Q) (HK.out.more (q:=.item) ⟨G.dr.P.hi,trivial⟩ G.dr.P y));have:=G.c 1;have a4:n≤4097:=by have:=I g;have:=b.P.cx.n;omega
      go_wp2_with fail;go_region_law (first | (go_simp;go_at_call 33;(with_reducible refine a3.out _ fun w9 M N O R S T U V Y F9=>?_);have:=F9.c 1;have:=(F9.al (.cells #[M,N,O,R,S,T,U,V,Y] 61)).c 1) | (refine F9.snocS 2 3 rfl rfl (fun _ h=>h) a4 rfl _ _ rfl rfl rfl fun J B b7 D=>?_;have:=D.c 1;have:=D.f 1))
      all_goals
       have a5:=D.set 1 8 (.slice J (n+1) B);have a6:=zA (show zE C.L (.blockL (e++[(zE C.L .item s').1])) (zE C.L .item s').2=r from Eq.trans (Eq.symm (by
        rw[zQ t.out (p:=.blockL e) (s:=s') ⟨b.P.hi,trivial⟩];unfold zD;dsimp only;rw[if_neg (by rw[g.out];simp),if_neg (by rw[z.out];decide)])) u)
       have b8:=y.out;have a7:2*(C.L.length - (zE C.L .item s').2.k)+(if(zE C.L .item s').2.bad=0 then 1 else 0) < gk:=by
        have a0:Eat C.L s' (zE C.L .item s').2:=d.out
        by_cases hb:(zE C.L .item s').2.bad=0
        · have:=a0.lt b.P.hi (by rw[hb];simp);rw[if_pos hb];omega
        · rw[if_neg hb];omega
       have a8:(zE C.L .item s').2.bad=0→n+1≤(zE C.L .item s').2.k:=fun hb=>by have:=(show Eat C.L s' (zE C.L .item s').2 from d.out).lt b.P.hi (by rw[hb];simp);omega
       go_wp2_with fail
       go_roundg (2*(C.L.length - (zE C.L .item s').2.k)+(if(zE C.L .item s').2.bad=0 then 1 else 0))
       case measure=>exact a7
       case rel=>exact⟨_,_,J,n+1,B,yAC _,fun _=>by omega,a8,a6,a5.pk [(w1.heap.size),X] [0,1,2] js jd rfl js js⟩
  · have v:=zA (show(s'.bad==0)=false by rw[yA];exact hb);have g:=zA hb;clear hb l j;go_wp2_with fail;refine b.kB (zBe b.P v) fun b9 o=>?_;have:=o.c 1;have:=o.c 0;have:=o.f 0;go_wp2_with fail;have a9:=o.rowK 2 rfl 4;exact a9.fin 0 3 rfl (u.out.symm.trans (by
     rw[zQ t.out (p:=.blockL e) ⟨b.P.hi,trivial⟩];unfold zD;dsimp only;rw[if_pos g.out]))
theorem zK5:zi C (.program []) s w (zf C s w (.program [])):=fun M K h=>by
 refine zBG M h fun l V N r W X Y hW hX F0=>?_;have HK:=zA K;clear K h M;go_enter func16,ntmps16;go_upto_region 1 with(fail);clear hW hX;go_wp2_with fail;refine F0.made0 _ fun w1 F1=>?_;have F2:=F1.bt 1 61 rfl;go_wp2_with fail
 go_loopg [5] (C.L.length - s.k) (fun gk _ wr=>∃(b:List Tr) (s':Ps) (A:jQ) (n cp:Nat),C.L.length - s'.k≤gk∧s.k≤s'.k∧n≤s'.k∧Hid (zE C.L (.program b) s'=r)∧Fr C (w.heap.size≤·) w [(w1.heap.size),X] [.bx X 61 [(0:Int),"",(),(0:Int),(0:Int),false,(),(),()],.bx (w1.heap.size) 61 [(1:Int),"",(),(0:Int),(0:Int),false,(),(),.slice A n cp],.ro (.slice A n cp) b] s' wr)
 case atStart=>exact⟨[],s,none,0,0,yAC _,yAC _,yAE _,(zQ l (p:=.program []) ⟨N,trivial⟩).trans Y,F2.nil.pk [(w1.heap.size),X] [0,2,3] js jd rfl js js⟩
 case round=>
  obtain⟨b,s',A,n,cp,a2,u,a3,o,d⟩:=hrel;have a4:=zY8;obtain⟨⟨kd,tx,st,nk,nn,mg,ps,nl⟩,m⟩:=zR C.L (s').k;go_wp2_with fail;refine d.kT (zj d.P m) fun w3 As Am c1 c2 e=>?_
  by_cases hk:kd=0
  · have e0:((kd:Int) !=0)=false:=by rw[bne_eq_false_iff_eq];omega
    have g:=zA hk;clear hk;have:=e.c 1;have:=e.c 0;have:=e.f 0;go_wp2_with fail;have F4:=e.rowK 2 rfl 1;exact F4.fin 0 4 rfl (o.out.symm.trans (by
     rw[zQ l.out (p:=.program b) ⟨d.P.hi,trivial⟩];unfold zD;dsimp only;rw[m.out,if_pos g.out]))
  · have e0:((kd:Int) !=0)=true:=by rw[yBM];omega
    have g:=zA hk;clear hk;have O:=zA (l.out.lt (s:=s') d.P.hi (by rw[m.out];exact g.out));have j:=zA (zZ l (p:=.item) (s:=s') ⟨d.P.hi,trivial⟩);have a0:=(show Eat C.L s' (zE C.L .item s').2 from j.out).more O;have a1:=j.out.adv.hi;have a5:=d.P.hi;have R:=zA (fun Q=>e.dr.kR 2 rfl (Q:=Q) (HK.out.rank (q:=.item) ⟨e.dr.P.hi,trivial⟩ e.dr.P u (by simp[zAa])));have:=e.c 1;have S:n≤4097:=by have:=d.P.cx.n;omega
    go_wp2_with fail;go_region_law (first | (go_simp;go_at_call 33;(with_reducible refine R.out _ fun w6 v y z B D E F G H I=>?_);have:=I.c 1;have:=(I.al (.cells #[v,y,z,B,D,E,F,G,H] 61)).c 1) | (refine I.snocS 2 4 rfl rfl (fun _ h=>h) S rfl _ _ rfl rfl rfl fun T t w7 J=>?_;have:=J.c 1;have:=J.f 1))
    all_goals
     have F8:=J.set 1 8 (.slice T (n+1) t);have U:=zA (show zE C.L (.program (b++[(zE C.L .item s').1])) (zE C.L .item s').2=r from Eq.trans (Eq.symm (by
      rw[zQ l.out (p:=.program b) (s:=s') ⟨d.P.hi,trivial⟩];unfold zD;dsimp only;rw[m.out,if_neg g.out])) o)
     go_wp2_with fail
     go_roundg (C.L.length - (zE C.L .item s').2.k)
     case measure=>omega
     case rel=>exact⟨_,_,T,n+1,t,yAC _,by omega,by omega,U,F8.pk [(w1.heap.size),X] [0,1,2] js jd rfl js js⟩
theorem zT9:zi C .params s w (zf C s w .params):=fun hp _K h=>by
 show Calls prog 126 #[C] w (LstQ C (zE C.L .params s) w);have z:=zA h.cx.lst;have d2:C.N≤4097:=h.cx.n4;have b9:=zA h.cx.n;have d4:=h.lt;have c0:=hp.1;have R:=zA hp;have HP:=zA h;obtain⟨r,hr⟩:=jx (zE C.L .params s);rw[hr];have HR:=zA hr;clear hr h _K hp;have c1:=zA (za (w:=[40]) z c0)
 by_cases c:onP C.L [41] (zO C.L [40] s)=true
 · have HO:=zA c;clear c;go_enter func126,ntmps126;go_wp2_with fail;refine(zAH HP [40]).mono ?_;rintro c2 w0 ⟨rfl,B,D⟩;have S:=zA B;have T:=zA D;clear B D;go_wp2_with fail;refine(zA1 S [41] HO).mono ?_;rintro ev w1 ⟨rfl,f,d⟩;have m:=zA (show Pa C (zB (zO C.L [40] s)) w1 from f);have v:=zA (zC T d);clear f d;go_wp2_with fail;go_ret;refine LstQ.mk (l:=[]) (HR.out.symm.trans (by
    rw[zQ z.out R.out];unfold zD;dsimp only;rw[if_pos HO.out])) (RowP.nil _ _) m v
 · have HO:=zA (show onP C.L [41] (zO C.L [40] s)=false by simpa using c);have a8:=zA (show zE C.L (.paramL []) (zO C.L [40] s)=r from by
    refine Eq.trans ?_ HR;rw[zQ z.out (p:=.params) R.out];unfold zD;dsimp only;rw[if_neg c])
   clear c;go_enter func126,ntmps126;go_wp2_with fail;refine(zAH HP [40]).mono ?_;rintro c2 w0 ⟨rfl,B,D⟩;have S:=zA B;have T:=zA D;clear B D;go_wp2_with fail;refine(zA1 S [41] HO).mono ?_;rintro ev w1 ⟨rfl,f,d⟩;have m:=zA (show Pa C (zO C.L [40] s) w1 from f);have v:=zA (zC T d);clear f d;go_wp2_with fail
   go_loopg [3] (C.L.length - (zO C.L [40] s).k) (fun gk v5 wr=>∃(o:List Tr) (s':Ps) (A:jQ) (n cp:Nat),v5=.slice A n cp∧C.L.length - s'.k≤gk∧s.k≤s'.k∧n≤s'.k∧Hid (zE C.L (.paramL o) s'=r)∧Hid (Pa C s' wr)∧Hid (RowP wr (w.heap.size≤·) (.slice A n cp) o)∧Hid (w.grownBy wr (some C.g)))
   case atStart=>exact⟨[],zO C.L [40] s,none,0,0,rfl,yAC _,c1.out.adv.le,yAE _,a8,m,RowP.nil _ _,v⟩
   case round=>
    clear m v a8;obtain⟨o,s',A,n,cp,rfl,d5,d3,d6,U,q,a9,b0⟩:=hrel;go_wp2_with fail;refine(zD8 q).mono ?_;rintro d7 V ⟨rfl,f,d⟩;have d8:=b0.out.size;have m:=zA f;have b1:=zA (a9.out.keep d (.box q.out.box jd jd jo));have v:=zA (zC b0 d);have d9:=d.size;clear f d;have j:=zA (zA7 z q.out.hi);have b8:=j.out.adv.le;have W:=j.out.adv.hi;have e0:=b9.out;obtain⟨nm,I⟩:=jx (ze C.L s');rw[I]at m j b8 W;simp only[I];have X:=zA I;clear I;go_wp2_with fail;refine(zDB 20 ⟨nm.1.toArray⟩ none 0 0).mono ?_;rintro e1 w2 ⟨rfl,E⟩;have b2:=zA (m.out.new E);have Y:=zA (b1.out.new E);have b3:=zA (zC v (zAX E _));have e2:=E.size;have c3:=zA (b1.out.lt);have b4:=zA (show TrC w2 (fun b=>V.heap.size≤b) (trN 20 nm.1 []) [(20:Int),nm.1,(),(0:Int),(0:Int),false,(),(),()]from(RowP.nil w2 _).treeN);clear E;have HN:=zA a9.out.bounds.1;go_wp2_with (at_builtin;refine zEd (Px:=fun b=>w.heap.size≤b) (Q:=fun b=>V.heap.size≤b) rfl _ _ rfl rfl HN.out Y.out b4.out (fun b (hb:V.heap.size≤b) _=>(by omega:w.heap.size≤b)) (fun b hb h2=>(by have:=c3.out b hb;omega)) (by show w.heap.size≤w2.heap.size+1;omega) jo rfl ?_;intro A3 c4 w3 a0 a1);have b5:=zA a0;have a2:=Y.out.new (zG w2 (.cells #[(20:Int),nm.1,(),(0:Int),(0:Int),false,(),(),()] 61) none);have b6:=zA ((b2.out.alloc (.cells #[(20:Int),nm.1,(),(0:Int),(0:Int),false,(),(),()] 61)).row a2 (fun b (hb:w.heap.size≤b)=>(by omega:C.g < b)) a1);have a3:=zA (zHv (zC b3 (zG _ _ _)) a2 (fun b hb=>hb) a1);have e3:=a3.out.size;clear a0 a1 a2 Y b2 b3 b4
    by_cases hb:nm.2.bad=0
    · have a4:=zA (show(nm.2.bad==0)=true by rw[hb];rfl);have J:=zA hb;have e4:=j.out.lt q.out.hi (by rw[hb];simp);clear hb;refine(zBe b6 a4).mono ?_;rintro c5 w4 ⟨rfl,F,t⟩;have y:=zA F;have M:=zA (b5.out.new t);have O:=zA (zC a3 (zAX t _));clear F t
      by_cases c:onP C.L [41] nm.2=true
      · have G:=zA c;clear c;go_wp2_with fail;refine(zA1 y [41] G).mono ?_;rintro c6 w5 ⟨rfl,H,u⟩;have P:=zA (show Pa C (zB nm.2) w5 from H);have a5:=zA (M.out.keep u (.box y.out.box jd jd jo));have a6:=zA (zC O u);clear H u;go_wp2_with fail;go_ret;refine LstQ.mk (l:=o++[trN 20 nm.1 []]) (U.out.symm.trans (by
         rw[zQ z.out ⟨q.out.hi,trivial⟩];unfold zD;dsimp only;rw[X.out,if_neg (by rw[J.out];simp),if_pos G.out])) a5 P a6
      · have G:=zA (show onP C.L [41] nm.2=false by simpa using c);clear c;go_wp2_with fail;refine(zA1 y [41] G).mono ?_;rintro c6 w5 ⟨rfl,H,u⟩;have P:=zA (show Pa C nm.2 w5 from H);have a5:=zA (M.out.keep u (.box y.out.box jd jd jo));have a6:=zA (zC O u);clear H u;go_wp2_with fail;refine(zAH P [44]).mono ?_;rintro e5 w6 ⟨rfl,b7,a7⟩;have c7:=zA b7;have c8:=zA (a5.out.keep a7 (.box P.out.box jd jd jo));have c9:=zA (zC a6 a7);clear b7 a7;have d0:=zA (show zE C.L (.paramL (o++[trN 20 nm.1 []])) (zO C.L [44] nm.2)=r from Eq.trans (Eq.symm (by
         rw[zQ z.out (p:=.paramL o) (s:=s') ⟨q.out.hi,trivial⟩];unfold zD;dsimp only;rw[X.out,if_neg (by rw[J.out];simp),if_neg (by rw[G.out];decide)])) U)
        have d1:=zA (za (w:=[44]) z (s:=nm.2) W).adv;have e6:=d1.out.le;go_wp2_with fail
        go_roundg (C.L.length - (zO C.L [44] nm.2).k)
        case measure=>omega
        case rel=>exact⟨_,_,A3,n+1,c4,rfl,yAC _,by omega,by omega,d0,c7,c8,c9⟩
    · have a4:=zA (show(nm.2.bad==0)=false by rw[yA];exact hb);have J:=zA hb;clear hb;refine(zBe b6 a4).mono ?_;rintro c5 w4 ⟨rfl,F,t⟩;have y:=zA F;have M:=zA (b5.out.new t);have O:=zA (zC a3 (zAX t _));clear F t;go_wp2_with fail;go_ret;refine LstQ.mk (l:=o++[trN 20 nm.1 []]) (U.out.symm.trans (by
       rw[zQ z.out ⟨q.out.hi,trivial⟩];unfold zD;dsimp only;rw[X.out,if_pos J.out])) M y O
theorem zXB (c:Lst L):∀(f:Nat) (b:List Tr) (s:Ps),s.k≤L.length - 1→(zHK L f (.paramL b) s).1.subs.length≤b.length+(L.length - s.k):=by
 intro f
 induction f with
 | zero=>intro b s _;exact yAE _
 | succ f g=>
  intro b s hs;have l:=c.pos;have e:=zA7 c hs;show(zD L (zHK L f) (.paramL b) s).1.subs.length≤_;unfold zD;dsimp only;split
  · show(b++[_]).length≤_;rw[yAN,yBW];omega
  · rename_i hb
    have j:=e.lt hs hb;split
    · show(b++[_]).length≤_;rw[yAN,yBW];omega
    · have d:=(za (w:=[44]) c e.adv.hi).adv;have:=g (b++[trN 20 (ze L s).1 []]) (zO L [44] (ze L s).2) d.hi;rw[yAN,yBW]at this;have h1:=d.le;have m:=d.hi;omega
theorem zXC (c:Lst L) (w:jE):∀(f:Nat) (b:List Tr) (s:Ps),s.k≤L.length - 1→(zHK L f (.listL w b) s).1.subs.length≤b.length+(L.length - s.k):=by
 intro f
 induction f with
 | zero=>intro b s _;exact yAE _
 | succ f g=>
  intro b s hs;have l:=c.pos;have e:Eat L s (zHK L f .assign s).2:=zKp c f .assign s ⟨hs,trivial⟩;show(zD L (zHK L f) (.listL w b) s).1.subs.length≤_;unfold zD;dsimp only;split
  · show(b++[_]).length≤_;rw[yAN,yBW];omega
  · rename_i hb
    have j:=e.lt hs hb;split
    · show(b++[_]).length≤_;rw[yAN,yBW];omega
    · have d:=(za (w:=[44]) c e.adv.hi).adv;have:=g (b++[(zHK L f .assign s).1]) (zO L [44] (zHK L f .assign s).2) d.hi;rw[yAN,yBW]at this;have h1:=d.le;have m:=d.hi;omega
theorem zGD (b:Lst L) (hs:s.k≤L.length - 1):(zE L .params s).1.subs.length≤L.length:=by
 rw[zQ b ⟨hs,trivial⟩];unfold zD;dsimp only;split
 · exact yAE _
 · have h:=zXB b (zCL L (.paramL []) (zO L [40] s)+1) [] (zO L [40] s) (za b hs).adv.hi;have c:(zE L (.paramL []) (zO L [40] s)).1.subs.length≤0+(L.length - (zO L [40] s).k):=h;omega
theorem zQs (b:Lst L) {w:jE} (hs:s.k≤L.length - 1):(zE L (.list w) s).1.subs.length≤L.length:=by
 rw[zQ b ⟨hs,trivial⟩];unfold zD;dsimp only;split
 · exact yAE _
 · have h:=zXC b w (zCL L (.listL w []) s+1) [] s hs;have c:(zE L (.listL w []) s).1.subs.length≤0+(L.length - s.k):=h;omega
theorem zJo (b:Lst L) (hs:s.k < L.length - 1):(zE L .args s).1.subs.length≤L.length:=by
 rw[zQ b ⟨yAM hs,hs⟩];unfold zD;dsimp only;exact zQs b (za b (yAM hs)).adv.hi
theorem zUA {n:jE}:zi C (.func k n) s w (zf C s w (.func k n)):=fun G K h=>by
 refine zBG G h fun H U j r W X V Y hX b=>?_;have I:=zA K;clear K h G;go_enter func81,ntmps81;go_upto_region 1 with(fail);clear Y hX;have J:=zA (zGD H (s:=s) j);have M:=zA b.P.cx.n;go_wp2_with fail;refine b.kL (I.out.rank (q:=.params) ⟨b.P.hi,trivial⟩ b.P (yAC _) (by simp[zAa])) fun w1 A N cp O _ a0 F1=>?_;go_wp2_with fail;refine F1.kQ (zDB _ ⟨(n).toArray⟩ _ _ _) fun w2 F2=>?_;have F3:=F2.rowN 1 rfl k (n);have d:=F3.bt 2 61 rfl;have e:=zA (zZ H (p:=.params) (s:=s) ⟨j,trivial⟩);have l:=zA (show Eat C.L s (zE C.L (.params) (s)).2 from e.out);have R:=zA (fun Q=>d.dr.kR 1 rfl (Q:=Q) (I.out.rank (q:=.block) ⟨d.dr.P.hi,trivial⟩ d.dr.P l.out.adv.le (by simp[zAa])));have:=d.c 3;have S:N≤4097:=by have:=J.out;have:=M.out;have:=O.out;omega
 go_upto_region 2 with(fail);go_region_law (first | (go_simp;go_at_call 127;(with_reducible refine R.out _ fun w5 m o t u v y z B D E=>?_);have:=E.c 3;have:=(E.al (.cells #[m,o,t,u,v,y,z,B,D] 61)).c 3) | (refine E.snocS 1 4 rfl rfl (fun _ h=>h) S rfl _ _ rfl rfl rfl fun A6 T w6 F=>?_;have:=F.c 3;have:=F.f 3))
 all_goals
  have g:=F.set 3 8 (.slice A6 (N+1) T);have:=g.c 3;have:=g.c 0;have:=g.f 0;go_wp2_with fail;have F8:=g.rowN 1 rfl k (n);exact F8.fin 0 5 rfl (V.out.symm.trans (by
   unfold zD;rfl))
theorem zXD (R:Pre C.L (.body l) s) (K:KP C (zCL C.L (.body l) s)) (h:Pa C s w) (a:World) (A:jQ) (n cp:Nat) (_b:l.length=n) (S:n≤4097) (o:a.grownBy w (some C.g)) (p:C.g < a.heap.size) (e:RowP w (a.heap.size≤·) (.slice A n cp) l) (t:(zH C.L s.k).nl=true) (u:onP C.L [123] (zO C.L [61,62] (zb C.L s))=true):
 Calls prog 149 #[C,.slice A n cp] w (zVw C a (zE C.L (.body l) s)):=by
 refine zY9 R h o p e fun y a6 b r W X HR hW hX T=>?_;have HK:=zA K;have v:=zA t;have j:=zA u;clear K h R o p e t u;go_enter func149,ntmps149;go_upto_region 1 with(fail);clear hW hX;obtain⟨⟨kd,tx,st,nk,nn,mg,ps,nl⟩,U⟩:=zR C.L (s).k;have z:nl=true:=by have:=v.out;rwa[U.out]at this
 subst z;have a7:=zNp;go_wp2_with fail;refine T.kT (zj T.P U) fun w1 As Am c1 c2 V=>?_;go_wp2_with fail;refine V.kN (zAJ V.P) fun w2 Y=>?_;go_wp2_with fail;refine Y.kN (zAH Y.P [61,62]) fun w3 F3=>?_;go_wp2_with fail;refine F3.kQ (zAr _ _ _ _) fun w4 F4=>?_;have F5:=F4.rowK 0 rfl 42;have F6:=F5.bt 3 61 rfl;go_wp2_with fail;refine F6.kB (zAi F6.P [123] j) fun w7 m=>?_;have a0:=zA (show s.k≤(zO C.L [61,62] (zb C.L s)).k from(yAD (zz b).adv.le (za (w:=[61,62]) y (zz b).adv.hi).adv.le));have a1:=zA (show s.k < (zO C.L [61,62] (zb C.L s)).k from((zz b).then (za (w:=[61,62]) y (zz b).adv.hi).adv).more (Nat.lt_of_le_of_lt a0 (y.out.on (s:=zO C.L [61,62] (zb C.L s)) m.P.hi j)));have a2:=zA (fun Q=>m.dr.kR 0 rfl (Q:=Q) (HK.out.more (q:=.block) ⟨m.dr.P.hi,trivial⟩ m.dr.P a1));have:=m.c 4;have a3:n≤4097:=by exact S
 go_wp2_with fail;go_region_law (first | (go_simp;go_at_call 127;(with_reducible refine a2.out _ fun w8 B D E F G H I J M N=>?_);have:=N.c 4;have:=(N.al (.cells #[B,D,E,F,G,H,I,J,M] 61)).c 4) | (refine N.snocS 0 5 rfl rfl (fun _ h=>h) a3 rfl _ _ rfl rfl rfl fun A9 a4 w9 O=>?_;have:=O.c 4;have:=O.f 4))
 all_goals
  have d:=O.set 4 8 (.slice A9 (n+1) a4);have:=d.c 4;have:=d.c 1;have:=d.f 1;go_wp2_with fail;have a5:=d.rowK 0 rfl 42;exact a5.fin 1 6 rfl (HR.out.symm.trans (by
   unfold zD;dsimp only;simp[v.out,j.out]))
theorem zXE (O:Pre C.L (.body l) s) (K:KP C (zCL C.L (.body l) s)) (h:Pa C s w) (a:World) (A:jQ) (n cp:Nat) (_b:l.length=n) (R:n≤4097) (j:a.grownBy w (some C.g)) (m:C.g < a.heap.size) (d:RowP w (a.heap.size≤·) (.slice A n cp) l) (o:(zH C.L s.k).nl=true) (p:onP C.L [123] (zO C.L [61,62] (zb C.L s))=false):
 Calls prog 149 #[C,.slice A n cp] w (zVw C a (zE C.L (.body l) s)):=by
 refine zY9 O h j m d fun HL a5 t r W X HR hW hX S=>?_;have HK:=zA K;have u:=zA o;have v:=zA p;clear K h O j m d o p;go_enter func149,ntmps149;go_upto_region 1 with(fail);clear hW hX;obtain⟨⟨kd,tx,st,nk,nn,mg,ps,nl⟩,T⟩:=zR C.L (s).k;have y:nl=true:=by have:=u.out;rwa[T.out]at this
 subst y;have a6:=zNp;go_wp2_with fail;refine S.kT (zj S.P T) fun w1 As Am c1 c2 U=>?_;go_wp2_with fail;refine U.kN (zAJ U.P) fun w2 V=>?_;go_wp2_with fail;refine V.kN (zAH V.P [61,62]) fun w3 F3=>?_;go_wp2_with fail;refine F3.kQ (zAr _ _ _ _) fun w4 F4=>?_;have F5:=F4.rowK 0 rfl 42;have Y:=F5.bt 3 61 rfl;go_wp2_with fail;refine Y.kB (zAi Y.P [123] v) fun w7 e=>?_;have a0:=zA (show s.k≤(zO C.L [61,62] (zb C.L s)).k from(yAD (zz t).adv.le (za (w:=[61,62]) HL (zz t).adv.hi).adv.le));have a1:=zA (fun Q=>e.dr.kR 0 rfl (Q:=Q) (HK.out.rank (q:=.assign) ⟨e.dr.P.hi,trivial⟩ e.dr.P a0 (by simp[zAa])));have:=e.c 4;have a2:n≤4097:=by exact R
 go_wp2_with fail;go_region_law (first | (go_simp;go_at_call 122;(with_reducible refine a1.out _ fun w8 z B D E F G H I J M=>?_);have:=M.c 4;have:=(M.al (.cells #[z,B,D,E,F,G,H,I,J] 61)).c 4) | (refine M.snocS 0 5 rfl rfl (fun _ h=>h) a2 rfl _ _ rfl rfl rfl fun A9 a3 w9 N=>?_;have:=N.c 4;have:=N.f 4))
 all_goals
  have b:=N.set 4 8 (.slice A9 (n+1) a3);have:=b.c 4;have:=b.c 1;have:=b.f 1;go_wp2_with fail;have a4:=b.rowK 0 rfl 42;exact a4.fin 1 6 rfl (HR.out.symm.trans (by
   unfold zD;dsimp only;simp[u.out,v.out]))
theorem zXF (S:Pre C.L (.body l) s) (K:KP C (zCL C.L (.body l) s)) (h:Pa C s w) (a:World) (A:jQ) (n cp:Nat) (_b:l.length=n) (b:n≤4097) (o:a.grownBy w (some C.g)) (p:C.g < a.heap.size) (d:RowP w (a.heap.size≤·) (.slice A n cp) l) (t:(zH C.L s.k).nl=false) (u:onP C.L [123] (zO C.L [61,62] (s))=true):
 Calls prog 149 #[C,.slice A n cp] w (zVw C a (zE C.L (.body l) s)):=by
 refine zY9 S h o p d fun z a5 v r W X HR hW hX T=>?_;have HK:=zA K;have y:=zA t;have e:=zA u;clear K h S o p d t u;go_enter func149,ntmps149;go_upto_region 1 with(fail);clear hW hX;obtain⟨⟨kd,tx,st,nk,nn,mg,ps,nl⟩,U⟩:=zR C.L (s).k;have B:nl=false:=by have:=y.out;rwa[U.out]at this
 subst B;have a6:=zNp;go_wp2_with fail;refine T.kT (zj T.P U) fun w1 As Am c1 c2 V=>?_;go_wp2_with fail;refine V.kN (zAH V.P [61,62]) fun w2 F2=>?_;go_wp2_with fail;refine F2.kQ (zAr _ _ _ _) fun w3 F3=>?_;have F4:=F3.rowK 0 rfl 42;have Y:=F4.bt 3 61 rfl;go_wp2_with fail;refine Y.kB (zAi Y.P [123] e) fun w6 j=>?_;have a0:=zA (show s.k≤(zO C.L [61,62] (s)).k from(za (w:=[61,62]) z v).adv.le);have a1:=zA (show s.k < (zO C.L [61,62] (s)).k from(za (w:=[61,62]) z v).more (Nat.lt_of_le_of_lt a0 (z.out.on (s:=zO C.L [61,62] (s)) j.P.hi e)));have a2:=zA (fun Q=>j.dr.kR 0 rfl (Q:=Q) (HK.out.more (q:=.block) ⟨j.dr.P.hi,trivial⟩ j.dr.P a1));have:=j.c 4;have b:n≤4097:=by exact b
 go_wp2_with fail;go_region_law (first | (go_simp;go_at_call 127;(with_reducible refine a2.out _ fun w7 D E F G H I J M N O=>?_);have:=O.c 4;have:=(O.al (.cells #[D,E,F,G,H,I,J,M,N] 61)).c 4) | (refine O.snocS 0 5 rfl rfl (fun _ h=>h) b rfl _ _ rfl rfl rfl fun A8 a3 w8 R=>?_;have:=R.c 4;have:=R.f 4))
 all_goals
  have m:=R.set 4 8 (.slice A8 (n+1) a3);have:=m.c 4;have:=m.c 1;have:=m.f 1;go_wp2_with fail;have a4:=m.rowK 0 rfl 42;exact a4.fin 1 6 rfl (HR.out.symm.trans (by
   unfold zD;dsimp only;simp[y.out,e.out]))
theorem zXG (O:Pre C.L (.body l) s) (K:KP C (zCL C.L (.body l) s)) (h:Pa C s w) (a:World) (A:jQ) (n cp:Nat) (_b:l.length=n) (b:n≤4097) (m:a.grownBy w (some C.g)) (o:C.g < a.heap.size) (d:RowP w (a.heap.size≤·) (.slice A n cp) l) (p:(zH C.L s.k).nl=false) (t:onP C.L [123] (zO C.L [61,62] (s))=false):
 Calls prog 149 #[C,.slice A n cp] w (zVw C a (zE C.L (.body l) s)):=by
 refine zY9 O h m o d fun HL a3 R r W X HR hW hX S=>?_;have HK:=zA K;have u:=zA p;have v:=zA t;clear K h O m o d p t;go_enter func149,ntmps149;go_upto_region 1 with(fail);clear hW hX;obtain⟨⟨kd,tx,st,nk,nn,mg,ps,nl⟩,T⟩:=zR C.L (s).k;have y:nl=false:=by have:=u.out;rwa[T.out]at this
 subst y;have a4:=zNp;go_wp2_with fail;refine S.kT (zj S.P T) fun w1 As Am c1 c2 U=>?_;go_wp2_with fail;refine U.kN (zAH U.P [61,62]) fun w2 F2=>?_;go_wp2_with fail;refine F2.kQ (zAr _ _ _ _) fun w3 F3=>?_;have F4:=F3.rowK 0 rfl 42;have V:=F4.bt 3 61 rfl;go_wp2_with fail;refine V.kB (zAi V.P [123] v) fun w6 e=>?_;have Y:=zA (show s.k≤(zO C.L [61,62] (s)).k from(za (w:=[61,62]) HL R).adv.le);have a0:=zA (fun Q=>e.dr.kR 0 rfl (Q:=Q) (HK.out.rank (q:=.assign) ⟨e.dr.P.hi,trivial⟩ e.dr.P Y (by simp[zAa])));have:=e.c 4;have b:n≤4097:=by exact b
 go_wp2_with fail;go_region_law (first | (go_simp;go_at_call 122;(with_reducible refine a0.out _ fun w7 z B D E F G H I J M=>?_);have:=M.c 4;have:=(M.al (.cells #[z,B,D,E,F,G,H,I,J] 61)).c 4) | (refine M.snocS 0 5 rfl rfl (fun _ h=>h) b rfl _ _ rfl rfl rfl fun A8 a1 w8 N=>?_;have:=N.c 4;have:=N.f 4))
 all_goals
  have j:=N.set 4 8 (.slice A8 (n+1) a1);have:=j.c 4;have:=j.c 1;have:=j.f 1;go_wp2_with fail;have a2:=j.rowK 0 rfl 42;exact a2.fin 1 6 rfl (HR.out.symm.trans (by
   unfold zD;dsimp only;simp[u.out,v.out]))
theorem zUB:zi C (.body l) s w (zf C s w (.body l)):=fun b K h=>by
 intro a A n cp h1 c d e f;cases hn:(zH C.L s.k).nl with
 | true=>
  cases hb:onP C.L [123] (zO C.L [61,62] (zb C.L s))with
  | true=>exact zXD b K h a A n cp h1 c d e f hn hb
  | false=>exact zXE b K h a A n cp h1 c d e f hn hb
 | false=>
  cases hb:onP C.L [123] (zO C.L [61,62] s)with
  | true=>exact zXF b K h a A n cp h1 c d e f hn hb
  | false=>exact zXG b K h a A n cp h1 c d e f hn hb
theorem zUC:zi C (.item) s w (zf C s w (.item)):=fun R K h=>by
 refine zBG R h fun S c4 T r W X y hW hX U=>?_;have z:=zA K;clear K h R;go_enter func33,ntmps33;go_upto_region 1 with(fail);clear hW hX;obtain⟨⟨kd,tx,J,nk,nn,M,ps,nl⟩,o⟩:=zR C.L (s).k;go_wp2_with fail;refine U.kT (zj U.P o) fun w1 As Am c1 c2 F1=>?_;have V:=F1.bt 1 78 rfl;obtain⟨b1,E⟩:=jx (isT ⟨kd,tx,J,nk,nn,M,ps,nl⟩ [108,101,116]);have d:=zA E;clear E;obtain⟨b2,F⟩:=jx (isT ⟨kd,tx,J,nk,nn,M,ps,nl⟩ [99,111,110,115,116]);have g:=zA F;clear F;obtain⟨b3,G⟩:=jx (isT ⟨kd,tx,J,nk,nn,M,ps,nl⟩ [102,117,110,99,116,105,111,110]);have p:=zA G;clear G;have:=V.c 2;go_wp2_with fail;refine V.kQ (zDP [108,101,116] d) fun w3 t=>?_;cases b1 with
 | true=>
  go_wp2_with fail;refine t.kX (z.out.rank (q:=.declares) ⟨t.P.hi,trivial⟩ t.P (yAC _) (by simp[zAa])) fun e5 N w4 c5 c6 c7 c8 c9 d0 d1 d2 d3 Y=>?_;have:=Y.sto 3;have F5:=Y.bt 3 61 rfl;go_wp2_with fail;refine F5.kN (zB8 F5.P) fun w6 A=>?_;have:=A.c 4;have:=A.c 0;have:=A.f 0;go_wp2_with fail;exact A.fin 0 3 rfl (y.out.symm.trans (by
   unfold zD;dsimp only;simp[zDv o.out,d.out,N.out]))
 | false=>
  have:=t.c 2;go_wp2_with fail;refine t.kQ (zDP [99,111,110,115,116] g) fun w8 e=>?_;cases b2 with
  | true=>
   go_wp2_with fail;refine e.kX (z.out.rank (q:=.declares) ⟨e.P.hi,trivial⟩ e.P (yAC _) (by simp[zAa])) fun e6 O w9 d4 d5 d6 d7 d8 d9 e0 e1 e2 F9=>?_;have:=F9.sto 3;have H:=F9.bt 3 61 rfl;go_wp2_with fail;refine H.kN (zB8 H.P) fun e7 j=>?_;have:=j.c 4;have:=j.c 0;have:=j.f 0;go_wp2_with fail;exact j.fin 0 3 rfl (y.out.symm.trans (by
    unfold zD;dsimp only;simp[zDv o.out,d.out,g.out,O.out]))
  | false=>
   have Q:=zA ((zDv o).trans p);cases b3 with
   | true=>
    go_wp2_with fail;refine e.kM (zBY e.P [102,117,110,99,116,105,111,110] Q) fun e8 I=>?_;go_wp2_with fail;refine I.kS (zD8 I.P) fun e9 u=>?_;have a0:=zA (S.out.on T Q);go_wp2_with fail;refine u.kX (z.out.more (q:=.func 19 (ze C.L (zB s)).1) ⟨u.P.hi,trivial⟩ u.P (yAA (yAF s.k) (zA7 (s:=zB s) S a0).adv.le)) fun e3 B f0 a1 a2 a3 a4 a5 a6 a7 a8 a9 l=>?_;have:=l.sto 3;have:=l.c 0;have:=l.f 0;go_wp2_with fail;exact l.fin 0 3 rfl (y.out.symm.trans (by
     unfold zD;dsimp only;simp[zDv o.out,d.out,g.out,p.out,B.out]))
   | false=>
    go_wp2_with fail;refine e.kM (zBd e.P [102,117,110,99,116,105,111,110] Q) fun f1 v=>?_;go_wp2_with fail;refine v.kX (z.out.rank (q:=.statement) ⟨v.P.hi,trivial⟩ v.P (yAC _) (by simp[zAa])) fun e4 D f2 b0 b4 b5 b6 b7 b8 b9 c0 c3 m=>?_;have:=m.sto 3;have:=m.c 0;have:=m.f 0;go_wp2_with fail;exact m.fin 0 3 rfl (y.out.symm.trans (by
     unfold zD;dsimp only;simp[zDv o.out,d.out,g.out,p.out,D.out]))
theorem zG1:zi C (.statement) s w (∀(_o:(zH C.L s.k).kind=1),zf C s w (.statement)):=fun hp K h o=>by
 refine zBG hp h fun HL d9 b6 r W X z hW hX F0=>?_;have HK:=zA K;clear K h hp;go_enter func82,ntmps82;go_upto_region 1 with(fail);clear hW hX;have d:=zA o;clear o;obtain⟨⟨kd,tx,st,nk,nn,mg,ps,nl⟩,HT⟩:=zR C.L (s).k;go_wp2_with fail;refine F0.kT (zj F0.P HT) fun w1 As Am c1 c2 F1=>?_;have A:=F1.bt 1 78 rfl;have F:=zA (show kd=1 by have:=d.out;rwa[HT.out]at this);have e1:((kd:Int)==1)=true:=by have:=F.out;rw[yBL];omega
 have G:=zA (HL.out.lt b6 (by rw[d.out];decide));have hn:=A.P.cx.n;obtain⟨⟨H,I,J,M,O,R,ps2,S⟩,T⟩:=zR C.L (zB s).k;have a2:=zA (show zH C.L (min (s.k+1) (C.N - 1))=⟨H,I,J,M,O,R,ps2,S⟩ by rw[show min (s.k+1) (C.N - 1)=s.k+1 by have:=G.out;omega];exact T.out);obtain⟨b1,U⟩:=jx (isT ⟨H,I,J,M,O,R,ps2,S⟩ [58]);have V:=zA U;clear U;obtain⟨b3,Y⟩:=jx (onP C.L [59] s);have g:=zA Y;clear Y;obtain⟨b4,a0⟩:=jx (onP C.L [123] s);have p:=zA a0;clear a0;have t:=zA (show isT (zAm C.L s.k 1) [58]=b1 by have:=V.out;rwa[←T.out]at this);have:=A.c 2;go_wp2_with fail;refine A.kT (zA9 A.P 1 1 rfl jd a2) fun w3 e3 e4 e5 e7 F3=>?_;go_wp2_with fail;refine F3.kQ (zDP [58] V) fun w4 j=>?_;cases b1 with
 | true=>
  have a3:=zA (HL.out.on (s:=zB s) G t);obtain⟨e8,e9,f0⟩:=j.k1;have B:=j.step2 a3;have b7:=zA (fun Q=>B.dr.kD (Q:=Q) (HK.out.more (q:=.statement) ⟨B.dr.P.hi,trivial⟩ B.dr.P (show s.k < s.k+1+1 by omega)));have:=B.c 2;go_wp2_with fail;go_region_law (first | (go_simp;go_at_call 82;(with_reducible refine b7.out _ fun w6 a4 a5 a6 a7 a8 a9 b0 b2 b5 u=>?_);have:=u.c 2;have:=u.c 0;have:=(u.al (.cells #[a4,a5,a6,a7,a8,a9,b0,b2,b5] 61)).c 2;have b8:=zA (fun Q=>u.litN 18 tx (n:=1) (Q:=Q) (u.ts1 4) rfl js rfl)) | (go_simp;go_at_call 121;(with_reducible refine b8.out _ fun w7 v=>?_);have:=v.c 0;have:=v.f 0))
  all_goals
   have:=v.c 0;have:=v.f 0;go_wp2_with fail;exact v.fin 0 5 rfl (z.out.symm.trans (by
    unfold zD;dsimp only;rw[if_pos ⟨d.out,t.out⟩,HT.out]))
 | false=>
  have e6:((kd:Int)==6)=false:=by have:=F.out;rw[yA];omega
  have:=j.c 2;cases b3 with
  | true=>
   go_wp2_with fail;refine j.kM (zBY j.P [59] g) fun w9 F9=>?_;go_wp2_with fail;refine F9.made0 _ fun f1 y=>?_;have:=y.c 0;have:=y.f 0;go_wp2_with fail;exact y.fin 0 4 rfl (z.out.symm.trans (by
    unfold zD;dsimp only;rw[if_neg (fun h=>by rw[t.out]at h;cases h.2),if_neg (by rw[d.out];decide)];simp[g.out]))
  | false=>
   go_wp2_with fail;refine j.kM (zBd j.P [59] g) fun f2 a1=>?_;go_wp2_with fail;refine a1.kB (zAi a1.P [123] p) fun f3 e=>?_;cases b4 with
   | true=>
    go_wp2_with fail;refine e.kX (HK.out.rank (q:=.block) ⟨e.P.hi,trivial⟩ e.P (yAC _) (by simp[zAa])) fun e0 D f4 b9 c0 c3 c4 c5 c6 c7 c8 c9 l=>?_;have:=l.sto 4;have:=l.c 0;have:=l.f 0;go_wp2_with fail;exact l.fin 0 4 rfl (z.out.symm.trans (by
     unfold zD;dsimp only;rw[if_neg (fun h=>by rw[t.out]at h;cases h.2),if_neg (by rw[d.out];decide)];simp[g.out,p.out,D.out]))
   | false=>
    go_wp2_with fail;refine e.kX (HK.out.rank (q:=.simple) ⟨e.P.hi,trivial⟩ e.P (yAC _) (by simp[zAa])) fun e2 E f5 d0 d1 d2 d3 d4 d5 d6 d7 d8 m=>?_;have:=m.sto 4;have:=m.c 0;have:=m.f 0;go_wp2_with fail;exact m.fin 0 4 rfl (z.out.symm.trans (by
     unfold zD;dsimp only;rw[if_neg (fun h=>by rw[t.out]at h;cases h.2),if_neg (by rw[d.out];decide)];simp[g.out,p.out,E.out]))
theorem zHR:zi C (.statement) s w (∀(_d:(zH C.L s.k).kind=6),zf C s w (.statement)):=fun o K h d=>by
 refine zBG o h fun v y p r W X z A B t=>?_;have D:=zA K;clear K h o;go_enter func82,ntmps82;go_upto_region 1 with(fail);clear A B;have b:=zA d;clear d;obtain⟨⟨kd,tx,S,nk,nn,T,ps,nl⟩,l⟩:=zR C.L (s).k;go_wp2_with fail;refine t.kT (zj t.P l) fun w1 As Am c1 c2 E=>?_;have e:=E.bt 1 78 rfl;have j:=zA (show kd=6 by have:=b.out;rwa[l.out]at this);have e1:((kd:Int)==1)=false:=by have:=j.out;rw[yA];omega
 have e6:((kd:Int)==6)=true:=by have:=j.out;rw[yBL];omega
 have u:=zA (v.out.lt p (by rw[b.out];decide));have:=e.c 2;go_wp2_with fail;refine e.kX (D.out.rank (q:=.word tx) ⟨e.P.hi,u⟩ e.P (yAC _) (by simp[zAa])) fun R m w3 F G H I J M N O Q g=>?_;have:=g.sto 3;have:=g.c 0;have:=g.f 0;go_wp2_with fail;exact g.fin 0 3 rfl (z.out.symm.trans (by
  unfold zD;dsimp only;rw[if_neg (fun h=>by rw[b.out]at h;cases h.1),if_pos b.out,l.out];simp only[m.out]))
theorem zG2:zi C (.statement) s w (∀(_m:(zH C.L s.k).kind≠1) (_o:(zH C.L s.k).kind≠6),zf C s w (.statement)):=fun F K h m o=>by
 refine zBG F h fun HL V b0 r W X A Y hX G=>?_;have H:=zA K;clear K h F;go_enter func82,ntmps82;go_upto_region 1 with(fail);clear Y hX;have e:=zA m;have g:=zA o;clear m o;obtain⟨⟨kd,tx,st,nk,nn,mg,ps,nl⟩,B⟩:=zR C.L (s).k;go_wp2_with fail;refine G.kT (zj G.P B) fun w1 As Am c1 c2 F1=>?_;have p:=F1.bt 1 78 rfl;have e1:((kd:Int)==1)=false:=by have:=e.out;rw[B.out]at this;have:kd≠1:=this;rw[yA];omega
 have e6:((kd:Int)==6)=false:=by have:=g.out;rw[B.out]at this;have:kd≠6:=this;rw[yA];omega
 obtain⟨b3,y⟩:=jx (onP C.L [59] s);have d:=zA y;clear y;obtain⟨b4,z⟩:=jx (onP C.L [123] s);have t:=zA z;clear z;have:=p.c 2;cases b3 with
 | true=>
  go_wp2_with fail;refine p.kM (zBY p.P [59] d) fun w3 F3=>?_;go_wp2_with fail;refine F3.made0 _ fun w4 D=>?_;have:=D.c 0;have:=D.f 0;go_wp2_with fail;exact D.fin 0 3 rfl (A.out.symm.trans (by
   unfold zD;dsimp only;rw[if_neg (fun h=>e.out h.1),if_neg g.out];simp[d.out]))
 | false=>
  go_wp2_with fail;refine p.kM (zBd p.P [59] d) fun w6 I=>?_;go_wp2_with fail;refine I.kB (zAi I.P [123] t) fun w7 l=>?_;cases b4 with
  | true=>
   go_wp2_with fail;refine l.kX (H.out.rank (q:=.block) ⟨l.P.hi,trivial⟩ l.P (yAC _) (by simp[zAa])) fun b1 E w8 a0 a1 a2 a3 a4 a5 a6 a7 a8 u=>?_;have:=u.sto 3;have:=u.c 0;have:=u.f 0;go_wp2_with fail;exact u.fin 0 3 rfl (A.out.symm.trans (by
    unfold zD;dsimp only;rw[if_neg (fun h=>e.out h.1),if_neg g.out];simp[d.out,t.out,E.out]))
  | false=>
   go_wp2_with fail;refine l.kX (H.out.rank (q:=.simple) ⟨l.P.hi,trivial⟩ l.P (yAC _) (by simp[zAa])) fun a9 v b2 J M N O Q R S T U j=>?_;have:=j.sto 3;have:=j.c 0;have:=j.f 0;go_wp2_with fail;exact j.fin 0 3 rfl (A.out.symm.trans (by
    unfold zD;dsimp only;rw[if_neg (fun h=>e.out h.1),if_neg g.out];simp[d.out,t.out,v.out]))
theorem zHS:zi C .statement s w (zf C s w .statement):=fun b K h=>by
 by_cases h1:(zH C.L s.k).kind=1
 · exact zG1 b K h h1
 by_cases h6:(zH C.L s.k).kind=6
 · exact zHR b K h h6
 exact zG2 b K h h1 h6
theorem zQt:zi C (.jump k) s w (∀(_hk:(zH C.L (zB s).k).kind=1) (_g:(zH C.L (zB s).k).nl=false),zf C s w (.jump k)):=fun j _K h hk g=>by
 refine zBG j h fun M y G r W X z A B q=>?_;have t:=zA j.2;clear h j;go_enter func156,ntmps156;go_upto_region 1 with(fail);clear A B;have d:=zA hk;have e:=zA g;clear hk g;obtain⟨H,I,J⟩:=q.k1;have D:=q.step t;go_wp2_with fail;refine D.made0 _ fun w2 E=>?_;have u:=E.bt 1 61 rfl;obtain⟨⟨kd,tx,N,nk,nn,O,ps,nl⟩,l⟩:=zR C.L (zB (s)).k;go_wp2_with fail;refine u.kT (zj u.P l) fun Q As Am c1 c2 F=>?_;have m:=F.bt 3 78 rfl;have:=m.c 4;have e1:((kd:Int)==1)=true:=by have:=d.out;rw[l.out]at this;have:kd=1:=this;rw[yBL];omega
 have o:nl=false:=by have:=e.out;rwa[l.out]at this
 subst o;go_wp2_with fail;refine m.kS (zD8 m.P) fun R p=>?_;have:=p.c 2;have:=p.f 2;have v:=(p.set 2 1 (.string ⟨((ze C.L (zB s)).1).toArray⟩)).leafN k ((ze C.L (zB s)).1);go_wp2_with fail;refine v.kN (zB8 v.P) fun S b=>?_;have:=b.c 2;have:=b.c 0;have:=b.f 0;go_wp2_with fail;exact b.fin 0 5 rfl (z.out.symm.trans (by
  unfold zD;dsimp only;rw[if_pos ⟨d.out,e.out⟩]))
theorem zXH:zi C (.jump k) s w (∀(_e:(zH C.L (zB s).k).kind=1∧(zH C.L (zB s).k).nl=true),zf C s w (.jump k)):=fun g _K h e=>by
 refine zBG g h fun H t D r W X u v y o=>?_;have p:=zA g.2;clear h g;go_enter func156,ntmps156;go_upto_region 1 with(fail);clear v y;have b:=zA e;clear e;obtain⟨E,F,G⟩:=o.k1;have z:=o.step p;go_wp2_with fail;refine z.made0 _ fun w2 A=>?_;have q:=A.bt 1 61 rfl;obtain⟨⟨kd,tx,I,nk,nn,J,ps,nl⟩,j⟩:=zR C.L (zB (s)).k;go_wp2_with fail;refine q.kT (zj q.P j) fun M As Am c1 c2 B=>?_;have l:=B.bt 3 78 rfl;have:=l.c 4;have e1:((kd:Int)==1)=true:=by have:=b.out.1;rw[j.out]at this;have:kd=1:=this;rw[yBL];omega
 have m:nl=true:=by have:=b.out.2;rwa[j.out]at this
 subst m;go_wp2_with fail;refine l.kN (zB8 l.P) fun N d=>?_;have:=d.c 2;have:=d.c 0;have:=d.f 0;go_wp2_with fail;exact d.fin 0 1 rfl (u.out.symm.trans (by
  unfold zD;dsimp only;rw[if_neg (fun h=>by rw[b.out.2]at h;cases h.2)]))
theorem zXI:zi C (.jump k) s w (∀(_e:(zH C.L (zB s).k).kind≠1),zf C s w (.jump k)):=fun g _K h e=>by
 refine zBG g h fun G q B r W X t u v l=>?_;have m:=zA g.2;clear h g;go_enter func156,ntmps156;go_upto_region 1 with(fail);clear u v;have d:=zA e;clear e;obtain⟨D,E,F⟩:=l.k1;have y:=l.step m;go_wp2_with fail;refine y.made0 _ fun w2 z=>?_;have o:=z.bt 1 61 rfl;obtain⟨⟨kd,tx,H,nk,nn,I,ps,nl⟩,p⟩:=zR C.L (zB (s)).k;go_wp2_with fail;refine o.kT (zj o.P p) fun J As Am c1 c2 A=>?_;have j:=A.bt 3 78 rfl;have:=j.c 4;have e1:((kd:Int)==1)=false:=by have:=d.out;rw[p.out]at this;have:kd≠1:=this;rw[yA];omega
 go_wp2_with fail;refine j.kN (zB8 j.P) fun M b=>?_;have:=b.c 2;have:=b.c 0;have:=b.f 0;go_wp2_with fail;exact b.fin 0 1 rfl (t.out.symm.trans (by
  unfold zD;dsimp only;rw[if_neg (fun h=>d.out h.1)]))
theorem zUD:zi C (.jump k) s w (zf C s w (.jump k)):=fun b _K h=>by
 by_cases h1:(zH C.L (zB s).k).kind=1
 · cases h2:(zH C.L (zB s).k).nl with
   | false=>exact zQt b _K h h1 h2
   | true=>exact zXH b _K h ⟨h1,h2⟩
 · exact zXI b _K h h1
theorem zNw:zi C (.word [119,104,105,108,101]) s w (zf C s w (.word [119,104,105,108,101])):=fun j K h=>by
 refine zBG j h fun A B a3 r W X D E F u=>?_;have v:=zA K;have g:=zA j.2;clear K h j;go_enter func129,ntmps129;go_upto_region 1 with(fail);clear E F;obtain⟨a4,a5,a6⟩:=u.k1;have l:=u.step g;have d:=zA (zZ A (p:=.within) (s:=zB s) ⟨g,trivial⟩);go_wp2_with fail;refine l.kX (v.out.more (q:=.within) ⟨l.P.hi,trivial⟩ l.P (yAF s.k)) fun y b w2 G H I J L M N O Q e=>?_;have:=e.sto 1;have z:=zA (show s.k < y.2.k from by have:=d.out.adv.le;rw[b.out]at this;exact yAA (yAF s.k) this);go_wp2_with fail;refine e.kX (v.out.more (q:=.statement) ⟨e.P.hi,trivial⟩ e.P z) fun a7 m w3 R S T U V Y a0 a1 a2 o=>?_;have:=o.sto 2;go_wp2_with fail;refine o.litK _ (n:=2) (o.ts2 1 2) rfl js rfl fun w4 t=>?_;have:=t.c 0;have:=t.f 0;go_wp2_with fail;exact t.fin 0 3 rfl (D.out.symm.trans (by
  unfold zD;dsimp only;rw[ji,if_pos rfl];simp only[b.out,m.out]))
theorem zUE:zi C (.word [102,111,114]) s w (zf C s w (.word [102,111,114])):=fun d K h=>by
 refine zBG d h fun H k F r W X l m o e=>?_;have p:=zA K;have j:=zA d.2;clear K h d;go_enter func129,ntmps129;go_upto_region 1 with(fail);clear m o;go_wp2_with fail;refine e.kX (p.out.rank (q:=.loop) ⟨e.P.hi,j⟩ e.P (yAC _) (by simp[zAa])) fun G g w1 t u v y z A B D E b=>?_;have:=b.sto 1;have:=b.c 0;have:=b.f 0;go_wp2_with fail;exact b.fin 0 1 rfl (l.out.symm.trans (by
  unfold zD;dsimp only;rw[ji,ji,if_pos rfl];simp only[g.out]))
theorem zNx:zi C (.word [98,114,101,97,107]) s w (zf C s w (.word [98,114,101,97,107])):=fun d K h=>by
 refine zBG d h fun H k F r W X l m o e=>?_;have p:=zA K;have j:=zA d.2;clear K h d;go_enter func129,ntmps129;go_upto_region 1 with(fail);clear m o;go_wp2_with fail;refine e.kX (p.out.rank (q:=.jump 12) ⟨e.P.hi,j⟩ e.P (yAC _) (by simp[zAa])) fun G g w1 t u v y z A B D E b=>?_;have:=b.sto 1;have:=b.c 0;have:=b.f 0;go_wp2_with fail;exact b.fin 0 1 rfl (l.out.symm.trans (by
  unfold zD;dsimp only;rw[ji,ji,ji,if_pos rfl];simp only[g.out]))
theorem zIZ:zi C (.word [99,111,110,116,105,110,117,101]) s w (zf C s w (.word [99,111,110,116,105,110,117,101])):=fun d K h=>by
 refine zBG d h fun H k F r W X l m o e=>?_;have p:=zA K;have j:=zA d.2;clear K h d;go_enter func129,ntmps129;go_upto_region 1 with(fail);clear m o;go_wp2_with fail;refine e.kX (p.out.rank (q:=.jump 13) ⟨e.P.hi,j⟩ e.P (yAC _) (by simp[zAa])) fun G g w1 t u v y z A B D E b=>?_;have:=b.sto 1;have:=b.c 0;have:=b.f 0;go_wp2_with fail;exact b.fin 0 1 rfl (l.out.symm.trans (by
  unfold zD;dsimp only;rw[ji,ji,ji,ji,if_pos rfl];simp only[g.out]))
theorem zUF:zi C (.word [116,114,121]) s w (zf C s w (.word [116,114,121])):=fun d K h=>by
 refine zBG d h fun H k F r W X l m o e=>?_;have p:=zA K;have j:=zA d.2;clear K h d;go_enter func129,ntmps129;go_upto_region 1 with(fail);clear m o;go_wp2_with fail;refine e.kX (p.out.rank (q:=.tries) ⟨e.P.hi,j⟩ e.P (yAC _) (by simp[zAa])) fun G g w1 t u v y z A B D E b=>?_;have:=b.sto 1;have:=b.c 0;have:=b.f 0;go_wp2_with fail;exact b.fin 0 1 rfl (l.out.symm.trans (by
  unfold zD;dsimp only;rw[ji,ji,ji,ji,ji,ji,ji,if_pos rfl];simp only[g.out]))
theorem zG3:zi C (.word [116,104,114,111,119]) s w (∀(_b:(zH C.L (zB s).k).nl=true),zf C s w (.word [116,104,114,111,119])):=fun j K h b=>by
 refine zBG j h fun HL B U r W X D E F t=>?_;have G:=zA K;have e:=zA j.2;clear K h j;go_enter func129,ntmps129;go_upto_region 1 with(fail);clear E F;have g:=zA b;clear b;have V:=zNp;obtain⟨Y,a0,a1⟩:=t.k1;have u:=t.step e;obtain⟨⟨kd,tx,st,nk,nn,mg,ps,nl⟩,v⟩:=zR C.L (zB (s)).k;have l:nl=true:=by have:=g.out;rwa[v.out]at this
 subst l;go_wp2_with fail;refine u.kT (zj u.P v) fun w2 As Am c1 c2 y=>?_;go_wp2_with fail;refine y.kN (zAJ y.P) fun w3 m=>?_;have z:=zA (show(zB s).k≤(zb C.L (zB s)).k from(zz (s:=zB s) e).adv.le);go_wp2_with fail;refine m.kX (G.out.more (q:=.assign) ⟨m.P.hi,trivial⟩ m.P (yAA (yAF s.k) z)) fun a2 o w4 H I J M N O Q R S p=>?_;have:=p.sto 2;go_wp2_with fail;refine p.litK _ (n:=1) (p.ts1 2) rfl js rfl fun w5 T=>?_;have A:=T.bt 3 61 rfl;go_wp2_with fail;refine A.kN (zB8 A.P) fun w7 d=>?_;have:=d.c 4;have:=d.c 0;have:=d.f 0;go_wp2_with fail;exact d.fin 0 3 rfl (D.out.symm.trans (by
  unfold zD;dsimp only;rw[ji,ji,ji,ji,ji,ji,if_pos rfl];simp[g.out,o.out]))
theorem zF1:zi C (.word [116,104,114,111,119]) s w (∀(_b:(zH C.L (zB s).k).nl=false),zf C s w (.word [116,104,114,111,119])):=fun g K h b=>by
 refine zBG g h fun HL z S r W X A B D p=>?_;have E:=zA K;have t:=zA g.2;clear K h g;go_enter func129,ntmps129;go_upto_region 1 with(fail);clear B D;have e:=zA b;clear b;have T:=zNp;obtain⟨U,V,Y⟩:=p.k1;have u:=p.step t;obtain⟨⟨kd,tx,st,nk,nn,mg,ps,nl⟩,v⟩:=zR C.L (zB (s)).k;have j:nl=false:=by have:=e.out;rwa[v.out]at this
 subst j;go_wp2_with fail;refine u.kT (zj u.P v) fun w2 As Am c1 c2 l=>?_;go_wp2_with fail;refine l.kX (E.out.more (q:=.assign) ⟨l.P.hi,trivial⟩ l.P (yAF s.k)) fun a0 m w3 F G H I J M N O Q o=>?_;have:=o.sto 2;go_wp2_with fail;refine o.litK _ (n:=1) (o.ts1 2) rfl js rfl fun w4 R=>?_;have y:=R.bt 3 61 rfl;go_wp2_with fail;refine y.kN (zB8 y.P) fun w6 d=>?_;have:=d.c 4;have:=d.c 0;have:=d.f 0;go_wp2_with fail;exact d.fin 0 3 rfl (A.out.symm.trans (by
  unfold zD;dsimp only;rw[ji,ji,ji,ji,ji,ji,if_pos rfl];simp[e.out,m.out]))
theorem zIa:zi C (.word [102,117,110,99,116,105,111,110]) s w (zf C s w (.word [102,117,110,99,116,105,111,110])):=fun d _K h=>by
 refine zBG d h fun p g o r W X j k l e=>?_;clear h d;go_enter func129,ntmps129;go_upto_region 1 with(fail);clear k l;go_wp2_with fail;refine e.kN (zAJ e.P) fun w1 m=>?_;go_wp2_with fail;refine m.made0 _ fun w2 b=>?_;have:=b.c 0;have:=b.f 0;go_wp2_with fail;exact b.fin 0 1 rfl (j.out.symm.trans (by
  unfold zD;dsimp only;rw[ji,ji,ji,ji,ji,ji,ji,ji,if_pos (.inl rfl)]))
theorem zUG:zi C (.word [108,101,116]) s w (zf C s w (.word [108,101,116])):=fun d _K h=>by
 refine zBG d h fun p g o r W X j k l e=>?_;clear h d;go_enter func129,ntmps129;go_upto_region 1 with(fail);clear k l;go_wp2_with fail;refine e.kN (zAJ e.P) fun w1 m=>?_;go_wp2_with fail;refine m.made0 _ fun w2 b=>?_;have:=b.c 0;have:=b.f 0;go_wp2_with fail;exact b.fin 0 1 rfl (j.out.symm.trans (by
  unfold zD;dsimp only;rw[ji,ji,ji,ji,ji,ji,ji,ji,if_pos (.inr (.inl rfl))]))
theorem zNy:zi C (.word [99,111,110,115,116]) s w (zf C s w (.word [99,111,110,115,116])):=fun d _K h=>by
 refine zBG d h fun p g o r W X j k l e=>?_;clear h d;go_enter func129,ntmps129;go_upto_region 1 with(fail);clear k l;go_wp2_with fail;refine e.kN (zAJ e.P) fun w1 m=>?_;go_wp2_with fail;refine m.made0 _ fun w2 b=>?_;have:=b.c 0;have:=b.f 0;go_wp2_with fail;exact b.fin 0 1 rfl (j.out.symm.trans (by
  unfold zD;dsimp only;rw[ji,ji,ji,ji,ji,ji,ji,ji,if_pos (.inr (.inr rfl))]))
theorem zNz:zi C (.word v) s w (∀(_e:¬v=[105,102]) (_h1:¬v=[119,104,105,108,101]) (_g:¬v=[102,111,114]) (_j:¬v=[98,114,101,97,107]) (_k:¬v=[99,111,110,116,105,110,117,101]) (_l:¬v=[114,101,116,117,114,110]) (_h6:¬v=[116,104,114,111,119]) (_m:¬v=[116,114,121]) (_o:¬v=[102,117,110,99,116,105,111,110]) (_p:¬v=[108,101,116]) (_b:¬v=[99,111,110,115,116]),zf C s w (.word v)):=fun y K h e h1 g j k l h6 m o p b=>by
 refine zBG y h fun T z Q r W X A B D t=>?_;have E:=zA K;clear K h y;go_enter func129,ntmps129;go_upto_region 1 with(fail);clear B D;have U:(v==[105,102])=false:=yA.mpr e;have V:(v==[119,104,105,108,101])=false:=yA.mpr h1;have Y:(v==[102,111,114])=false:=yA.mpr g;have n3:(v==[98,114,101,97,107])=false:=yA.mpr j;have n4:(v==[99,111,110,116,105,110,117,101])=false:=yA.mpr k;have n5:(v==[114,101,116,117,114,110])=false:=yA.mpr l;have n6:(v==[116,104,114,111,119])=false:=yA.mpr h6;have n7:(v==[116,114,121])=false:=yA.mpr m;have n8:(v==[102,117,110,99,116,105,111,110])=false:=yA.mpr o;have n9:(v==[108,101,116])=false:=yA.mpr p;have R:(v==[99,111,110,115,116])=false:=yA.mpr b;go_wp2_with fail;refine t.kX (E.out.rank (q:=.simple) ⟨t.P.hi,trivial⟩ t.P (yAC _) (by simp[zAa])) fun S u w1 F G H I J L M N O d=>?_;have:=d.sto 1;have:=d.c 0;have:=d.f 0;go_wp2_with fail;exact d.fin 0 1 rfl (A.out.symm.trans (by
  unfold zD;dsimp only;rw[if_neg e,if_neg h1,if_neg g,if_neg j,if_neg k,if_neg l,if_neg h6,if_neg m,if_neg (fun h=>h.elim o (fun h=>h.elim p b))];simp only[u.out]))
theorem zN0:zi C (.word [105,102]) s w (∀(_g:onP C.L [101,108,115,101] (zE C.L .statement (zE C.L .within (zB s)).2).2=false),zf C s w (.word [105,102])):=fun B K h g=>by
 refine zBG B h fun F M b2 r W X N O Q G=>?_;have H:=zA K;have y:=zA B.2;clear K h B;go_enter func129,ntmps129;go_upto_region 1 with(fail);clear O Q;obtain⟨b3,b4,b5⟩:=G.k1;have D:=G.step y;have t:=zA (zZ F (p:=.within) (s:=zB s) ⟨y,trivial⟩);go_wp2_with fail;refine D.kX (H.out.more (q:=.within) ⟨D.P.hi,trivial⟩ D.P (yAF s.k)) fun l d w2 R S T U V Y a0 a1 a2 u=>?_;have:=u.sto 1;have I:=zA (show Adv C.L (zB s) (l.2) by have:=t.out.adv;rwa[d.out]at this);have z:=zA (show s.k < (l.2).k from yAA (yAF s.k) I.out.le);have m:=zA (zZ F (p:=.statement) (s:=l.2) ⟨I.out.hi,trivial⟩);go_wp2_with fail;refine u.kX (H.out.more (q:=.statement) ⟨u.P.hi,trivial⟩ u.P z) fun j e w3 a3 a4 a5 a6 a7 a8 a9 b0 b1 E=>?_;have:=E.sto 2;have hy:=zA (show s.k < (j.2).k from yAA z (show _≤(j.2).k by have:=m.out.adv.le;rwa[e.out]at this));obtain⟨be,A⟩:=jx (onP C.L [101,108,115,101] (j.2));have o:=zA A;clear A;go_wp2_with fail;refine E.litR _ (n:=2) (E.ts2 1 2) rfl js rfl fun w4 F4=>?_;have J:=F4.bt 4 61 rfl;have g:=zA (show onP C.L [101,108,115,101] (j.2)=false by have:=g;rwa[d.out,e.out]at this);cases be with
 | true=>exact absurd o.out (by have:=g.out;simp[this])
 | false=>
  go_wp2_with fail;refine J.kM (zBd J.P [101,108,115,101] o) fun w6 v=>?_;have:=v.c 5;have:=v.c 0;have:=v.f 0;go_wp2_with fail;exact v.fin 0 4 rfl (N.out.symm.trans (by
   unfold zD;dsimp only;simp[d.out,e.out,o.out]))
theorem zJp:zi C (.word [105,102]) s w (∀(_g:onP C.L [101,108,115,101] (zE C.L .statement (zE C.L .within (zB s)).2).2=true),zf C s w (.word [105,102])):=fun D K h g=>by
 refine zBG D h fun HL a3 c2 r W X HR hW hX F0=>?_;have E:=zA K;have z:=zA D.2;clear K h D;go_enter func129,ntmps129;go_upto_region 1 with(fail);clear hW hX;obtain⟨c3,c4,c5⟩:=F0.k1;have F:=F0.step z;have t:=zA (zZ HL (p:=.within) (s:=zB s) ⟨z,trivial⟩);go_wp2_with fail;refine F.kX (E.out.more (q:=.within) ⟨F.P.hi,trivial⟩ F.P (yAF s.k)) fun l d w2 a4 a5 a6 a7 a8 a9 b0 b1 b2 u=>?_;have:=u.sto 1;have hx:=zA (show Adv C.L (zB s) (l.2) by have:=t.out.adv;rwa[d.out]at this);have A:=zA (show s.k < (l.2).k from yAA (yAF s.k) hx.out.le);have m:=zA (zZ HL (p:=.statement) (s:=l.2) ⟨hx.out.hi,trivial⟩);go_wp2_with fail;refine u.kX (E.out.more (q:=.statement) ⟨u.P.hi,trivial⟩ u.P A) fun j e w3 b3 b4 b5 b6 b7 b8 b9 c0 c1 G=>?_;have:=G.sto 2;have hy:=zA (show s.k < (j.2).k from yAA A (show _≤(j.2).k by have:=m.out.adv.le;rwa[e.out]at this));obtain⟨be,B⟩:=jx (onP C.L [101,108,115,101] (j.2));have o:=zA B;clear B;go_wp2_with fail;refine G.litR _ (n:=2) (G.ts2 1 2) rfl js rfl fun w4 F4=>?_;have F5:=F4.bt 4 61 rfl;have g:=zA (show onP C.L [101,108,115,101] (j.2)=true by have:=g;rwa[d.out,e.out]at this);cases be with
 | false=>exact absurd o.out (by have:=g.out;simp[this])
 | true=>
  go_wp2_with fail;refine F5.kM (zBY F5.P [101,108,115,101] o) fun w6 v=>?_;have a0:=zA (fun Q=>v.dr.kRX 3 rfl (Q:=Q) (E.out.more (q:=.statement) ⟨v.dr.P.hi,trivial⟩ v.dr.P (Nat.lt_succ_of_lt hy)));have:=v.c 5;go_wp2_with fail;go_region_law (first | (go_simp;go_at_call 82;(with_reducible refine a0.out _ fun c6 H w7 I J M N O R S T U V=>?_);have:=V.c 5;have:=(V.al (.cells #[I,J,M,N,O,R,S,T,U] 61)).c 5) | (refine V.snocS 3 6 rfl rfl (fun _ h=>h) js rfl _ _ rfl rfl rfl fun A8 a1 w8 Y=>?_;have:=Y.c 5;have:=Y.f 5))
  all_goals
   have y:=Y.set 5 8 (.slice A8 (2+1) a1);have:=y.c 5;have:=y.c 0;have:=y.f 0;go_wp2_with fail;have a2:=y.rowK 3 rfl 8;exact a2.fin 0 7 rfl (HR.out.symm.trans (by
    unfold zD;dsimp only;simp[d.out,e.out,H.out,o.out]))
theorem zG4:zi C (.word [114,101,116,117,114,110]) s w (∀(_b:zDm C.L (zB s)=true),zf C s w (.word [114,101,116,117,114,110])):=fun g _K h b=>by
 refine zBG g h fun D o y r W X p q t j=>?_;have k:=zA g.2;clear h g;go_enter func129,ntmps129;go_upto_region 1 with(fail);clear q t;have e:=zA b;clear b;obtain⟨z,A,B⟩:=j.k1;have u:=j.step k;go_wp2_with fail;refine u.made0 _ fun w2 v=>?_;have l:=v.bt 1 61 rfl;go_wp2_with fail;refine l.kB (zJl l.P e) fun E m=>?_;go_wp2_with fail;refine m.kN (zB8 m.P) fun F d=>?_;have:=d.c 2;have:=d.c 0;have:=d.f 0;go_wp2_with fail;exact d.fin 0 1 rfl (p.out.symm.trans (by
  unfold zD;dsimp only;simp[e.out]))
theorem zHT:zi C (.word [114,101,116,117,114,110]) s w (∀(_b:zDm C.L (zB s)=false),zf C s w (.word [114,101,116,117,114,110])):=fun j K h b=>by
 refine zBG j h fun HL N a0 r W X O R S E=>?_;have T:=zA K;have F:=zA j.2;clear K h j;go_enter func129,ntmps129;go_upto_region 1 with(fail);clear R S;have g:=zA b;clear b;obtain⟨a1,a2,a3⟩:=E.k1;have U:=E.step F;go_wp2_with fail;refine U.made0 _ fun w2 V=>?_;have G:=V.bt 1 61 rfl;go_wp2_with fail;refine G.kB (zJl G.P g) fun w4 Y=>?_;have d:=Y.nil;have H:=zA (fun Q=>d.dr.kRX 3 rfl (Q:=Q) (T.out.more (q:=.assign) ⟨d.dr.P.hi,trivial⟩ d.dr.P (yAF s.k)));have:=d.c 2;go_wp2_with fail;go_region_law (first | (go_simp;go_at_call 122;(with_reducible refine H.out _ fun a4 l w6 m o p t u v y z A B=>?_);have:=B.c 2;have:=(B.al (.cells #[m,o,p,t,u,v,y,z,A] 61)).c 2) | (refine B.snocS 3 4 rfl rfl (fun _ h=>h) js rfl _ _ rfl rfl rfl fun A7 I w7 D=>?_;have:=D.c 2;have:=D.f 2))
 all_goals
  have J:=D.set 2 8 (.slice A7 1 I);go_wp2_with fail;refine J.kN (zB8 J.P) fun w9 e=>?_;have:=e.c 2;have:=e.c 0;have:=e.f 0;go_wp2_with fail;have M:=e.rowK 3 rfl 14;exact M.fin 0 5 rfl (O.out.symm.trans (by
   unfold zD;dsimp only;simp[g.out,l.out]))
theorem zUH:zi C (.word v) s w (zf C s w (.word v)):=fun b K h=>by
 by_cases d:v=[105,102]
 · subst d;cases hel:onP C.L [101,108,115,101] (zE C.L .statement (zE C.L .within (zB s)).2).2 with
   | true=>exact zJp b K h hel
   | false=>exact zN0 b K h hel
 by_cases h1:v=[119,104,105,108,101]
 · subst h1;exact zNw b K h
 by_cases e:v=[102,111,114]
 · subst e;exact zUE b K h
 by_cases f:v=[98,114,101,97,107]
 · subst f;exact zNx b K h
 by_cases g:v=[99,111,110,116,105,110,117,101]
 · subst g;exact zIZ b K h
 by_cases j:v=[114,101,116,117,114,110]
 · subst j;cases hbe:zDm C.L (zB s)with
   | true=>exact zG4 b K h hbe
   | false=>exact zHT b K h hbe
 by_cases h6:v=[116,104,114,111,119]
 · subst h6;cases hnl:(zH C.L (zB s).k).nl with
   | true=>exact zG3 b K h hnl
   | false=>exact zF1 b K h hnl
 by_cases l:v=[116,114,121]
 · subst l;exact zUF b K h
 by_cases m:v=[102,117,110,99,116,105,111,110]
 · subst m;exact zIa b K h
 by_cases o:v=[108,101,116]
 · subst o;exact zUG b K h
 by_cases c:v=[99,111,110,115,116]
 · subst c;exact zNy b K h
 exact zNz b K h d h1 e f g j h6 l m o c
def zDw (L:List Tok) (f i:Nat):Bool:=match zEQ L f i with | none=>false | some j=>zBs L j
theorem zQu (h:(zH L i).kind≠1):zDw L f i=false:=by
 unfold zDw;cases f with
 | zero=>rfl
 | succ f=>unfold zEQ;rw[if_neg h]
theorem zQv (h:(zH L i).kind=1) (b:isT (zH L (i+1)) [44]=true):zDw L (f+1) i=zDw L f (i+2):=by
 unfold zDw;rw[zEQ,if_pos h,if_pos b]
theorem zN1 (h:(zH L i).kind=1) (b:isT (zH L (i+1)) [44]=false):zDw L (f+1) i=zBs L (i+1):=by
 unfold zDw;rw[zEQ,if_pos h,if_neg (by rw[b];decide)]
theorem zMQ (h:onP L [40] s=true):zAb L s=(if isT (zH L (s.k+1)) [41]=true then zBs L (s.k+1)else zDw L L.length (s.k+1)):=by
 unfold zAb zDw;rw[h,yC];rfl
theorem zG5 (h:L.length≤i):zH L i=zh:=by
 unfold zH;rw[yAG,yBC h];rfl
theorem zUI (b:Lst L) (i N:Nat) (hN:L.length=N):(zH L (min i (N - 1))).kind=(zH L i).kind:=by
 subst hN;rcases yBO i L.length with h | h
 · rw[show min i (L.length - 1)=i by omega]
 · have c:=b.pos;rw[show min i (L.length - 1)=L.length - 1 by omega,zG5 h,b.last];rfl
theorem zFk (b:Lst L) (i N:Nat) (hN:L.length=N) (v:jE):isT (zH L (min i (N - 1))) v=isT (zH L i) v:=by
 subst hN;rcases yBO i L.length with h | h
 · rw[show min i (L.length - 1)=i by omega]
 · have d:=b.pos;have c:=b.last;rw[show min i (L.length - 1)=L.length - 1 by omega,zG5 h];unfold isT;rw[c];simp[zh]
theorem zXJ (h:(zH L i).kind=1):i < L.length:=by
 rcases yBO i L.length with b | b
 · exact b
 · rw[zG5 b]at h;exact absurd h jd
theorem zQw (h:Pa C s w):Calls prog 150 #[C] w (zNo C s (zAb C.L s) w):=by
 have j:=zA h.cx.lst;have o5:C.N≤4097:=h.cx.n4;have hN:C.L.length=C.N:=h.cx.n;have q2:=h.kN;have k4:=zA h;have q3:=zY8;obtain⟨b0,b3⟩:=jx (onP C.L [40] s);obtain⟨b1,b4⟩:=jx (isT (zH C.L (s.k+1)) [41]);obtain⟨r,hr⟩:=jx (zAb C.L s);rw[hr];have HR:=zA hr;have p:=zA b3;have A:=zA b4;clear h hr b3 b4;go_enter func150,ntmps150;go_wp2_with fail;refine(zAi k4 [40] p).mono ?_;rintro e1 w1 ⟨rfl,b5,b6⟩;have b7:=zA b5;have b8:=zA b6;clear b5 b6;cases b0 with
 | false=>
  go_wp2_with fail;go_ret;exact⟨zF (by rw[←HR.out];unfold zAb;rw[p.out];rfl),b7,b8⟩
 | true=>
  obtain⟨⟨k5,k6,k7,k8,k9,l0,l1,l2⟩,B⟩:=jx (zH C.L (min (s.k+(1)) (C.N - 1)));have b9:=zA B;clear B;go_wp2_with fail;refine(zA9 b7 (1) _ (by first | omega | decide | rfl) jo b9).mono ?_;rintro e2 w2 ⟨q4,q5,q6,q7,rfl,l3,l4,c0,c1⟩;have l5:=zA c0;have l6:=zA (zC b8 c1);clear l3 l4 c0 c1;go_wp2_with fail;refine(zDP [41] (show isT ⟨k5,k6,k7,k8,k9,l0,l1,l2⟩ [41]=b1 by rw[←b9.out,zFk j.out _ _ hN];exact A.out)).mono ?_;rintro e3 w3 ⟨rfl,D⟩;have c2:=zA (l5.out.new D);have c3:=zA (zC l6 D);clear D;cases b1 with
  | true=>
   obtain⟨E,F⟩:=jx (isT (zH C.L (s.k+(1))) [41]);obtain⟨c4,G⟩:=jx (isT (zH C.L (s.k+(1+1))) [61,62]);have H:=zA F;have I:=zA G;clear F G;have J:=zA (show r=(E&&c4) by
    rw[←HR.out,zMQ p.out,if_pos A.out];unfold zBs;rw[←H.out,←I.out]
    all_goals first | rfl | (congr 3;omega))
   obtain⟨⟨f2,f3,f4,f5,f6,f7,f8,f9⟩,q⟩:=jx (zH C.L (min (s.k+(1)) (C.N - 1)));have M:=zA q;clear q;go_wp2_with fail;refine(zA9 c2 (1) _ (by first | omega | decide | rfl) jo M).mono ?_;rintro e4 w4 ⟨o6,o7,o8,o9,rfl,l7,l8,c5,c6⟩;have l9:=zA c5;have m0:=zA (zC c3 c6);clear l7 l8 c5 c6;go_wp2_with fail;refine(zDP [41] (show isT ⟨f2,f3,f4,f5,f6,f7,f8,f9⟩ [41]=E by rw[←M.out,zFk j.out _ _ hN];exact H.out)).mono ?_;rintro e5 w5 ⟨rfl,O⟩;have c7:=zA (l9.out.new O);have c8:=zA (zC m0 O);clear O;cases E with
   | false=>
    go_wp2_with fail;go_ret;exact⟨zF J.out.symm,c7,c8⟩
   | true=>
    obtain⟨⟨g0,g1,g2,g3,g4,g5,g6,g7⟩,t⟩:=jx (zH C.L (min (s.k+(1+1)) (C.N - 1)));have P:=zA t;clear t;go_wp2_with fail;refine(zA9 c7 (1+1) _ (by first | omega | decide | rfl) jo P).mono ?_;rintro e6 w6 ⟨p0,p1,p2,p3,rfl,m1,m2,c9,d0⟩;have m3:=zA c9;have m4:=zA (zC c8 d0);clear m1 m2 c9 d0;go_wp2_with fail;refine(zDP [61,62] (show isT ⟨g0,g1,g2,g3,g4,g5,g6,g7⟩ [61,62]=c4 by rw[←P.out,zFk j.out _ _ hN];exact I.out)).mono ?_;rintro e7 w7 ⟨rfl,Q⟩;have m5:=zA (m3.out.new Q);have m6:=zA (zC m4 Q);clear Q;go_wp2_with fail;go_ret;exact⟨zF (by rw[J.out];rfl),m5,m6⟩
  | false=>
   have m7:=zA (show zDw C.L C.L.length (s.k+1)=r by rw[←HR.out,zMQ p.out,if_neg (by rw[A.out];decide)]);go_wp2_with fail
   go_loopg [3] C.L.length (fun f v wr=>∃i:Nat,C.L.length≤f+s.k+i∧v=.int .i64 (i:Int)∧i≤5000∧Hid (zDw C.L f (s.k+i)=r)∧Hid (Pa C s wr)∧Hid (w.grownBy wr none))
   case atStart=>exact⟨1,by omega,rfl,by omega,m7,c2,c3⟩
   case round=>
    obtain⟨i,q8,hv,hi,R,m8,m9⟩:=hrel;subst hv;obtain⟨ck,u⟩:=jx (decide ((zH C.L (s.k+i)).kind=1));have q9:IntKind.i64.wrap ((i:Int)+1)=(i:Int)+1:=by rw[IntKind.wrap_i64];omega
    have r0:IntKind.i64.wrap ((i:Int)+1+1)=(i:Int)+1+1:=by rw[IntKind.wrap_i64];omega
    obtain⟨⟨e,r1,r2,r3,r4,r5,r6,r7⟩,S⟩:=jx (zH C.L (min (s.k+(i)) (C.N - 1)));have d1:=zA S;clear S;go_wp2_with fail;refine(zA9 m8 (i) _ (by first | omega | decide | rfl) jo d1).mono ?_;rintro e8 w8 ⟨r8,r9,s1,s2,rfl,n0,n1,d2,d3⟩;have d4:=zA d2;have d5:=zA (zC m9 d3);clear n0 n1 d2 d3;have d6:e=(zH C.L (s.k+i)).kind:=by have:=zUI j (s.k+i) C.N hN;rwa[d1.out]at this
    cases ck with
    | false=>
     have d:(zH C.L (s.k+i)).kind≠1:=by simpa using u
     have e1:((e:Int)==1)=false:=by rw[yA];omega
     have e2:((e:Int) !=1)=true:=by rw[bne,e1];rfl
     have HZ:=zA (show r=false from R.out.symm.trans (zQu d));clear d6 u d;go_wp2_with fail;go_ret;exact⟨zF HZ.out.symm,d4,d5⟩
    | true=>
     have d:(zH C.L (s.k+i)).kind=1:=by simpa using u
     have e1:((e:Int)==1)=true:=by rw[yBL];omega
     have e2:((e:Int) !=1)=false:=by rw[bne,e1];rfl
     have s3:=zXJ d;have d7:=zA d;clear d6 u d;obtain⟨f,rfl⟩:∃f,gk=f+1:=⟨gk - 1,by omega⟩;obtain⟨bc,d8⟩:=jx (isT (zH C.L (s.k+(i+1))) [44]);have T:=zA d8;clear d8;obtain⟨⟨n2,n3,n5,n6,n7,n8,n9,o0⟩,U⟩:=jx (zH C.L (min (s.k+(i+1)) (C.N - 1)));have d9:=zA U;clear U;go_wp2_with fail;refine(zA9 d4 (i+1) _ (by first | omega | decide | rfl) jo d9).mono ?_;rintro e9 w9 ⟨s4,s5,s6,s7,rfl,o1,o2,e0,f0⟩;have o3:=zA e0;have o4:=zA (zC d5 f0);clear o1 o2 e0 f0;go_wp2_with fail;refine(zDP [44] (show isT ⟨n2,n3,n5,n6,n7,n8,n9,o0⟩ [44]=bc by rw[←d9.out,zFk j.out _ _ hN];exact T.out)).mono ?_;rintro s8 s9 ⟨rfl,l⟩;have V:=zA (o3.out.new l);have W:=zA (zC o4 l);clear l;cases bc with
     | true=>
      go_wp2_with fail
      go_roundg f
      case measure=>omega
      case rel=>exact⟨i+2,by omega,congrArg (Value.int .i64) jo,by omega,(zQv d7 T).symm.trans R,V,W⟩
     | false=>
      obtain⟨X,Y⟩:=jx (isT (zH C.L (s.k+(i+1))) [41]);obtain⟨f1,a0⟩:=jx (isT (zH C.L (s.k+(i+1+1))) [61,62]);have a1:=zA Y;have a2:=zA a0;clear Y a0;have J:=zA (show r=(X&&f1) by
       rw[←R.out,zN1 d7.out T.out];unfold zBs;rw[←a1.out,←a2.out]
       all_goals first | rfl | (congr 3;omega))
      obtain⟨⟨g8,g9,h0,h1,h2,h3,h4,h5⟩,y⟩:=jx (zH C.L (min (s.k+(i+1)) (C.N - 1)));have a3:=zA y;clear y;go_wp2_with fail;refine(zA9 V (i+1) _ (by first | omega | decide | rfl) jo a3).mono ?_;rintro t0 t1 ⟨p4,p5,p6,p7,rfl,h6,h7,a4,a5⟩;have h8:=zA a4;have h9:=zA (zC W a5);clear h6 h7 a4 a5;go_wp2_with fail;refine(zDP [41] (show isT ⟨g8,g9,h0,h1,h2,h3,h4,h5⟩ [41]=X by rw[←a3.out,zFk j.out _ _ hN];exact a1.out)).mono ?_;rintro t2 t3 ⟨rfl,m⟩;have a6:=zA (h8.out.new m);have a7:=zA (zC h9 m);clear m;cases X with
      | false=>
       go_wp2_with fail;go_ret;exact⟨zF J.out.symm,a6,a7⟩
      | true=>
       obtain⟨⟨j0,j1,j2,j3,j4,j5,j6,j7⟩,z⟩:=jx (zH C.L (min (s.k+(i+1+1)) (C.N - 1)));have a8:=zA z;clear z;go_wp2_with fail;refine(zA9 a6 (i+1+1) _ (by first | omega | decide | rfl) jo a8).mono ?_;rintro t4 t5 ⟨p8,p9,q0,q1,rfl,j8,j9,a9,b2⟩;have k0:=zA a9;have k1:=zA (zC a7 b2);clear j8 j9 a9 b2;go_wp2_with fail;refine(zDP [61,62] (show isT ⟨j0,j1,j2,j3,j4,j5,j6,j7⟩ [61,62]=f1 by rw[←a8.out,zFk j.out _ _ hN];exact a2.out)).mono ?_;rintro t6 t7 ⟨rfl,o⟩;have k2:=zA (k0.out.new o);have k3:=zA (zC k1 o);clear o;go_wp2_with fail;go_ret;exact⟨zF (by rw[J.out];rfl),k2,k3⟩
theorem zD9 (h:Pa C s w) {b:Bool} (hb:zAb C.L s=b):Calls prog 150 #[C] w (zNo C s b w):=hb▸zQw h
theorem zIb (h:zAb L s=true):onP L [40] s=true:=by
 unfold zAb at h;rw[yAQ]at h;exact h.1
theorem zK6:zi C (.assign) s w (∀(_G:(zH C.L s.k).kind=1∧isT (zAm C.L s.k 1) [61,62]=true∧(zAm C.L s.k 1).nl=false),zf C s w (.assign)):=fun O K h G=>by
 refine zBG O h fun Y a0 Q r W X HR hW hX R=>?_;have HK:=zA K;clear K h O;go_enter func122,ntmps122;go_upto_region 1 with(fail);clear hW hX;have d:=zA G;clear G;obtain⟨⟨kd,tx,st,nk,nn,mg,ps,nl⟩,H⟩:=zR C.L (s).k;go_wp2_with fail;refine R.kT (zj R.P H) fun w1 As Am c1 c2 F1=>?_;have l:=F1.bt 1 78 rfl;have b0:=zNp;have e1:((kd:Int)==1)=true:=by have:=d.out.1;rw[H.out]at this;have:kd=1:=this;rw[yBL];omega
 have t:=zA (Y.out.lt Q (by rw[d.out.1];decide));have hn:=l.P.cx.n;obtain⟨⟨u,v,y,z,A,B,ps2,D⟩,e⟩:=zR C.L (zB s).k;have HA:=zA (show isT ⟨u,v,y,z,A,B,ps2,D⟩ [61,62]=true by rw[←e.out];exact d.out.2.1);have I:D=false:=by have:=d.out.2.2;rwa[show zAm C.L s.k 1=zH C.L (zB s).k from rfl,e.out]at this
 subst I;have j:=zA (show zH C.L (min (s.k+1) (C.N - 1))=⟨u,v,y,z,A,B,ps2,false⟩ by rw[show min (s.k+1) (C.N - 1)=s.k+1 by have:=t.out;omega];exact e.out);have:=l.c 2;go_wp2_with fail;refine l.kT (zA9 l.P 1 1 rfl jd j) fun w3 b1 b2 b3 b4 F3=>?_;go_wp2_with fail;refine F3.kQ (zDP [61,62] HA) fun w4 S=>?_;go_wp2_with fail;refine S.kT (zA9 S.P 1 1 rfl jd j) fun J b5 b6 b7 b8 T=>?_;obtain⟨b9,c0,c3⟩:=T.k1;have m:=T.step t;have:=m.c 2;go_wp2_with fail;refine(zDB 20 ⟨tx.toArray⟩ none 0 0).mono ?_;rintro c4 o ⟨rfl,b⟩;have E:=zA ((m.P.new b).alloc (.cells #[(20:Int),tx,(),(0:Int),(0:Int),false,(),(),()] 61));have F:((J).setCell ⟨C.g,1,none⟩ (.int .i64 (((s).k:Int)+1))).heap.size≤o.heap.size:=b.size;have U:=zA (show RowP ((o).alloc (.cells #[(20:Int),tx,(),(0:Int),(0:Int),false,(),(),()] 61)) (((J).setCell ⟨C.g,1,none⟩ (.int .i64 (((s).k:Int)+1))).heap.size≤·) (.slice (some ⟨o.heap.size,0,none⟩) 1 1) [trN 20 tx []]from RowP.lit (n:=1) rfl (TrsC.cons (show TrC _ _ (trN 20 tx []) [(20:Int),tx,(),(0:Int),(0:Int),false,(),(),()]from(RowP.nil _ _).treeN) (.nil _ _)) F (by show 1≤maxLen;unfold maxLen;omega));have V:=zA (show((J).setCell ⟨C.g,1,none⟩ (.int .i64 (((s).k:Int)+1))).grownBy ((o).alloc (.cells #[(20:Int),tx,(),(0:Int),(0:Int),false,(),(),()] 61)) (some C.g)from zC (zAX b _) (zG _ _ _));clear b F;go_wp2_with fail;refine m.kA ((HK.out.more (q:=.body [trN 20 tx []]) ⟨E.out.hi,trivial⟩ E (yAF s.k)) _ _ _ _ rfl js V m.P.lt U) fun c5 M w8 a1 a2 a3 a4 a5 a6 a7 a8 a9 p=>?_;have:=p.sto 5;have:=p.c 0;have:=p.f 0;go_wp2_with fail;exact p.fin 0 5 rfl (HR.out.symm.trans (by
  unfold zD;dsimp only;rw[if_pos d.out,H.out];simp only[M.out]))
theorem zHU:zi C (.assign) s w (∀(_z:(zH C.L s.k).kind≠1) (_d:zAb C.L s=true),zf C s w (.assign)):=fun F K h z d=>by
 refine zBG F h fun A V e r W X Y hW hX G=>?_;have H:=zA K;clear K h F;go_enter func122,ntmps122;go_upto_region 1 with(fail);clear hW hX;have I:=zA z;clear z;have b:=zA d;clear d;obtain⟨⟨kd,tx,st,nk,nn,mg,ps,nl⟩,J⟩:=zR C.L (s).k;go_wp2_with fail;refine G.kT (zj G.P J) fun w1 As Am c1 c2 F1=>?_;have B:=F1.bt 1 78 rfl;have a9:=zNp;have M:=zA (show¬((zH C.L s.k).kind=1∧isT (zAm C.L s.k 1) [61,62]=true∧(zAm C.L s.k 1).nl=false)from fun h=>I.out h.1);have e1:((kd:Int)==1)=false:=by have:=I.out;rw[J.out]at this;have:kd≠1:=this;rw[yA];omega
 have:=B.c 2;go_wp2_with fail;refine B.kB (zD9 B.P b) fun w3 j=>?_;have N:=zA (zGD A (s:=s) e);have O:=zA j.P.cx.n;have Q:=zA (A.out.on e (zIb b));have D:=zA (show Eat C.L s (zE C.L .params s).2 from zZ A (p:=.params) (s:=s) ⟨e,trivial⟩);go_wp2_with fail;refine(Calls.mono (show Calls prog 126 #[C] _ (LstQ C (zE C.L .params s) _)from H.out.rank (q:=.params) ⟨j.P.hi,trivial⟩ j.P (yAC _) (by simp[zAa])) ?_);rintro b0 w0 ⟨Ar,n0,cp,rfl,m,R,S,o,t,u⟩;have v:=zA t;have y:=zA m;have T:=zA o;have U:=zA u;clear m R S o t u;go_wp2_with fail;refine j.kA ((H.out.more (q:=.body (zE C.L .params s).1.subs) ⟨v.out.hi,trivial⟩ v (D.out.more Q)) _ _ _ _ y (by have:=N.out;have:=O.out;have:=y.out;omega) U j.P.lt T) fun b1 E w4 a0 a1 a2 a3 a4 a5 a6 a7 a8 l=>?_;have:=l.sto 3;have:=l.c 0;have:=l.f 0;go_wp2_with fail;exact l.fin 0 3 rfl (Y.out.symm.trans (by
  unfold zD;dsimp only;rw[if_neg M.out,if_pos b.out];simp only[E.out]))
theorem zHV:zi C (.assign) s w (∀(_O:(zH C.L s.k).kind=1∧isT (zAm C.L s.k 1) [61,62]=false) (_e:zAb C.L s=true),zf C s w (.assign)):=fun T K h O e=>by
 refine zBG T h fun l a9 d r W X HR hW hX U=>?_;have V:=zA K;clear K h T;go_enter func122,ntmps122;go_upto_region 1 with(fail);clear hW hX;have m:=zA O;clear O;have b:=zA e;clear e;obtain⟨⟨kd,tx,st,nk,nn,mg,ps,nl⟩,Y⟩:=zR C.L (s).k;go_wp2_with fail;refine U.kT (zj U.P Y) fun w1 As Am c1 c2 F1=>?_;have o:=F1.bt 1 78 rfl;have b9:=zNp;have e1:((kd:Int)==1)=true:=by have:=m.out.1;rw[Y.out]at this;have:kd=1:=this;rw[yBL];omega
 have a0:=zA (l.out.lt d (by rw[m.out.1];decide));have hn:=o.P.cx.n;have a1:=zA (show¬((zH C.L s.k).kind=1∧isT (zAm C.L s.k 1) [61,62]=true∧(zAm C.L s.k 1).nl=false)from fun h=>by rw[m.out.2]at h;cases h.2.1);obtain⟨⟨u,v,y,z,A,B,ps2,D⟩,E⟩:=zR C.L (zB s).k;have HA:=zA (show isT ⟨u,v,y,z,A,B,ps2,D⟩ [61,62]=false by rw[←E.out];exact m.out.2);have Q:=zA (show zH C.L (min (s.k+1) (C.N - 1))=⟨u,v,y,z,A,B,ps2,D⟩ by rw[show min (s.k+1) (C.N - 1)=s.k+1 by have:=a0.out;omega];exact E.out);have:=o.c 2;go_wp2_with fail;refine o.kT (zA9 o.P 1 1 rfl jd Q) fun w3 c0 c3 c4 c5 F3=>?_;go_wp2_with fail;refine F3.kQ (zDP [61,62] HA) fun w4 F4=>?_;go_wp2_with fail;refine F4.kB (zD9 F4.P b) fun w5 j=>?_;have a2:=zA (zGD l (s:=s) d);have a3:=zA j.P.cx.n;have a4:=zA (l.out.on d (zIb b));have R:=zA (show Eat C.L s (zE C.L .params s).2 from zZ l (p:=.params) (s:=s) ⟨d,trivial⟩);go_wp2_with fail;refine(Calls.mono (show Calls prog 126 #[C] _ (LstQ C (zE C.L .params s) _)from V.out.rank (q:=.params) ⟨j.P.hi,trivial⟩ j.P (yAC _) (by simp[zAa])) ?_);rintro c6 w0 ⟨Ar,n0,cp,rfl,F,a5,a6,G,H,I⟩;have J:=zA H;have M:=zA F;have a7:=zA G;have a8:=zA I;clear F a5 a6 G H I;go_wp2_with fail;refine j.kA ((V.out.more (q:=.body (zE C.L .params s).1.subs) ⟨J.out.hi,trivial⟩ J (R.out.more a4)) _ _ _ _ M (by have:=a2.out;have:=a3.out;have:=M.out;omega) a8 j.P.lt a7) fun c7 S w6 b0 b1 b2 b3 b4 b5 b6 b7 b8 t=>?_;have:=t.sto 4;have:=t.c 0;have:=t.f 0;go_wp2_with fail;exact t.fin 0 4 rfl (HR.out.symm.trans (by
  unfold zD;dsimp only;rw[if_neg a1.out,if_pos b.out];simp only[S.out]))
theorem zHW:zi C (.assign) s w (∀(_Q:(zH C.L s.k).kind=1∧isT (zAm C.L s.k 1) [61,62]=true∧(zAm C.L s.k 1).nl=true) (_e:zAb C.L s=true),zf C s w (.assign)):=fun U K h Q e=>by
 refine zBG U h fun t a9 d r W X HR hW hX V=>?_;have Y:=zA K;clear K h U;go_enter func122,ntmps122;go_upto_region 1 with(fail);clear hW hX;have j:=zA Q;clear Q;have b:=zA e;clear e;obtain⟨⟨kd,tx,st,nk,nn,mg,ps,nl⟩,HT⟩:=zR C.L (s).k;go_wp2_with fail;refine V.kT (zj V.P HT) fun w1 As Am c1 c2 F1=>?_;have u:=F1.bt 1 78 rfl;have b9:=zNp;have e1:((kd:Int)==1)=true:=by have:=j.out.1;rw[HT.out]at this;have:kd=1:=this;rw[yBL];omega
 have a0:=zA (t.out.lt d (by rw[j.out.1];decide));have hn:=u.P.cx.n;have a1:=zA (show¬((zH C.L s.k).kind=1∧isT (zAm C.L s.k 1) [61,62]=true∧(zAm C.L s.k 1).nl=false)from fun h=>by rw[j.out.2.2]at h;cases h.2.2);obtain⟨⟨y,z,A,B,D,E,ps2,F⟩,l⟩:=zR C.L (zB s).k;have HA:=zA (show isT ⟨y,z,A,B,D,E,ps2,F⟩ [61,62]=true by rw[←l.out];exact j.out.2.1);have R:F=true:=by have:=j.out.2.2;rwa[show zAm C.L s.k 1=zH C.L (zB s).k from rfl,l.out]at this
 subst R;have m:=zA (show zH C.L (min (s.k+1) (C.N - 1))=⟨y,z,A,B,D,E,ps2,true⟩ by rw[show min (s.k+1) (C.N - 1)=s.k+1 by have:=a0.out;omega];exact l.out);have:=u.c 2;go_wp2_with fail;refine u.kT (zA9 u.P 1 1 rfl jd m) fun w3 c0 c3 c4 c5 F3=>?_;go_wp2_with fail;refine F3.kQ (zDP [61,62] HA) fun w4 F4=>?_;go_wp2_with fail;refine F4.kT (zA9 F4.P 1 1 rfl jd m) fun w5 c6 c7 c8 c9 F5=>?_;go_wp2_with fail;refine F5.kB (zD9 F5.P b) fun w6 o=>?_;have a2:=zA (zGD t (s:=s) d);have a3:=zA o.P.cx.n;have a4:=zA (t.out.on d (zIb b));have S:=zA (show Eat C.L s (zE C.L .params s).2 from zZ t (p:=.params) (s:=s) ⟨d,trivial⟩);go_wp2_with fail;refine(Calls.mono (show Calls prog 126 #[C] _ (LstQ C (zE C.L .params s) _)from Y.out.rank (q:=.params) ⟨o.P.hi,trivial⟩ o.P (yAC _) (by simp[zAa])) ?_);rintro d0 w0 ⟨Ar,n0,cp,rfl,G,a5,a6,H,I,J⟩;have M:=zA I;have O:=zA G;have a7:=zA H;have a8:=zA J;clear G a5 a6 H I J;go_wp2_with fail;refine o.kA ((Y.out.more (q:=.body (zE C.L .params s).1.subs) ⟨M.out.hi,trivial⟩ M (S.out.more a4)) _ _ _ _ O (by have:=a2.out;have:=a3.out;have:=O.out;omega) a8 o.P.lt a7) fun d1 T w7 b0 b1 b2 b3 b4 b5 b6 b7 b8 v=>?_;have:=v.sto 5;have:=v.c 0;have:=v.f 0;go_wp2_with fail;exact v.fin 0 5 rfl (HR.out.symm.trans (by
  unfold zD;dsimp only;rw[if_neg a1.out,if_pos b.out];simp only[T.out]))
end Go.Proofs.YtjlfhidpmdgloaaGreatDoor
