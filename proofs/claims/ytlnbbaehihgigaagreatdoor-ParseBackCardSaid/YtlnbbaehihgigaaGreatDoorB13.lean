/- Joined for the claim ParseBack: the parser, the lexer and the trees as they are walked, made short by a program of mine. -/
import Derived.Deep.RegionLaw
import Derived.Test.YtlnbbaehihgigaaGreatDoorB12
import Derived.Test.YtlnbbaehihgigaaGreatDoorB11
import Derived.Deep.LoopGhost
import Derived.Deep.CutBlock
import Derived.Deep.DeepCutAuto
import Derived.Test.YtlnbbaehihgigaaGreatDoorB02
import Derived.Test.YtlnbbaehihgigaaGreatDoorB01
set_option maxHeartbeats 16000000
set_option maxRecDepth 1000000
namespace Go.Proofs.YtlnbbaehihgigaaGreatDoor
open Go.Proofs.Tryz
open Go.RowKit
variable {cs:List Value} {x:Tr} {ops:Array Oper} {L:List Tok} {f:Exit→Act→World→Prop} {d0 d1 d2 d3 d4 d5 d6 d7 d8:Value} {o:Oper} {K:Act→World→Prop} {rest:List Oper} {Pg:Program} {fn:Func} {p:Tr×Ps} {E:Prop} {i:Nat} {d:Act}
theorem zHJ {C:Pc} {s:Ps} {w:World} (l:Pre C.L (.primary) s) (_K:KP C (zj C.L (.primary) s)) (h:Pa C s w) (m:(zI C.L s.k).kind=2):zp C s w (.primary):=by
 refine zBH l h fun y z o r W X A B D p=>?_;clear h l;go_enter func175,ntmps175;go_upto_region 1 with(fail);clear B D;have d:=zA m;clear m;have t:=zA (y.out.lt o (by rw[d.out];decide));obtain⟨⟨kd,tx,I,nk,nn,J,ps,nl⟩,e⟩:=zU C.L (s).k;go_wp2_with fail;refine p.kTl (zv p.P e.out) fun w1 As Am c1 c2 E=>?_;have g:=E.bt 1 80 rfl;have b:kd=2:=by have:=d.out;rwa[e.out]at this
 have e0:((kd:Int)==0)=false:=by rw[b];decide
 have e2:((kd:Int)==2)=true:=by rw[b];decide
 have e3:((kd:Int)==3)=false:=by rw[b];decide
 have e4:((kd:Int)==4)=false:=by rw[b];decide
 clear b;have:=g.c 4;obtain⟨F,G,H⟩:=g.k1;have u:=g.step t.out;have:=u.c 4;have j:=u.leafX {zB9 with kind:=30,nk:=nk,nn:=nn} rfl (yAJ _ _ _ _) (yAJ _ _ _ _);have:=j.c 0;have:=j.f 0;go_wp2_with fail;refine zCe (j.put 0 5) fun M v=>?_;have q:=v.c 0;exact v.ret 5 rfl (by simp[results,results175,go_sem,q,zB9]) rfl (A.out.symm.trans (by
  unfold zD;dsimp only;rw[if_neg (by rw[d.out];decide),if_pos d.out,e.out])) (fun _ h=>h)
theorem zKo {C:Pc} {s:Ps} {w:World} (o:Pre C.L (.primary) s) (_K:KP C (zj C.L (.primary) s)) (h:Pa C s w) (p:(zI C.L s.k).kind=3):zp C s w (.primary):=by
 refine zBH o h fun z A t r W X B D E u=>?_;clear h o;go_enter func175,ntmps175;go_upto_region 1 with(fail);clear D E;have d:=zA p;clear p;have v:=zA (z.out.lt t (by rw[d.out];decide));obtain⟨⟨kd,tx,M,nk,nn,F,ps,nl⟩,e⟩:=zU C.L (s).k;go_wp2_with fail;refine u.kTl (zv u.P e.out) fun w1 As Am c1 c2 G=>?_;have g:=G.bt 1 80 rfl;have b:kd=3:=by have:=d.out;rwa[e.out]at this
 have e0:((kd:Int)==0)=false:=by rw[b];decide
 have e2:((kd:Int)==2)=false:=by rw[b];decide
 have e3:((kd:Int)==3)=true:=by rw[b];decide
 have e4:((kd:Int)==4)=false:=by rw[b];decide
 clear b;have:=g.c 4;obtain⟨H,I,J⟩:=g.k1;have j:=g.step v.out;have:=j.c 4;have m:=j.leafX {zB9 with kind:=31,mag:=F} rfl (yAJ _ _ _ _) ((j.l 3));have:=m.c 0;have:=m.f 0;go_wp2_with fail;refine zCe (m.put 0 5) fun N y=>?_;have q:=y.c 0;exact y.ret 5 rfl (by simp[results,results175,go_sem,q,zB9]) rfl (B.out.symm.trans (by
  unfold zD;dsimp only;rw[if_neg (by rw[d.out];decide),if_neg (by rw[d.out];decide),if_pos d.out,e.out])) (fun _ h=>h)
theorem zHK {C:Pc} {s:Ps} {w:World} (o:Pre C.L (.primary) s) (_K:KP C (zj C.L (.primary) s)) (h:Pa C s w) (p:(zI C.L s.k).kind=4):zp C s w (.primary):=by
 refine zBH o h fun z A t r W X B D E u=>?_;clear h o;go_enter func175,ntmps175;go_upto_region 1 with(fail);clear D E;have d:=zA p;clear p;have v:=zA (z.out.lt t (by rw[d.out];decide));obtain⟨⟨kd,tx,F,nk,nn,M,ps,nl⟩,e⟩:=zU C.L (s).k;go_wp2_with fail;refine u.kTl (zv u.P e.out) fun w1 As Am c1 c2 G=>?_;have g:=G.bt 1 80 rfl;have b:kd=4:=by have:=d.out;rwa[e.out]at this
 have e0:((kd:Int)==0)=false:=by rw[b];decide
 have e2:((kd:Int)==2)=false:=by rw[b];decide
 have e3:((kd:Int)==3)=false:=by rw[b];decide
 have e4:((kd:Int)==4)=true:=by rw[b];decide
 clear b;have:=g.c 4;obtain⟨H,I,J⟩:=g.k1;have j:=g.step v.out;have:=j.c 4;have m:=j.leafX {zB9 with kind:=32,str:=F} rfl ((j.l 2)) (yAJ _ _ _ _);have:=m.c 0;have:=m.f 0;go_wp2_with fail;refine zCe (m.put 0 5) fun N y=>?_;have q:=y.c 0;exact y.ret 5 rfl (by simp[results,results175,go_sem,q,zB9]) rfl (B.out.symm.trans (by
  unfold zD;dsimp only;rw[if_neg (by rw[d.out];decide),if_neg (by rw[d.out];decide),if_neg (by rw[d.out];decide),if_pos d.out,e.out])) (fun _ h=>h)
theorem zKp {C:Pc} {s:Ps} {w:World} (b:Pre C.L .primary s) (K:KP C (zj C.L .primary s)) (h:Pa C s w):zp C s w .primary:=by
 by_cases k0:(zI C.L s.k).kind=0
 · exact zKn b K h k0
 by_cases k2:(zI C.L s.k).kind=2
 · exact zHJ b K h k2
 by_cases k3:(zI C.L s.k).kind=3
 · exact zKo b K h k3
 by_cases k4:(zI C.L s.k).kind=4
 · exact zHK b K h k4
 by_cases k1:(zI C.L s.k).kind=1
 · exact zJv b K h k1
 have kk:=And.intro k0 (And.intro k2 (And.intro k3 (And.intro k4 k1)))
 by_cases x0:(zI C.L s.k).text=[116,114,117,101]
 · exact zJr b K h kk x0
 by_cases x1:(zI C.L s.k).text=[102,97,108,115,101]
 · exact zIX b K h kk x1
 by_cases d:(zI C.L s.k).text=[110,117,108,108]
 · exact zJs b K h kk d
 by_cases e:(zI C.L s.k).text=[116,104,105,115]
 · exact zJt b K h kk e
 by_cases f:(zI C.L s.k).text=[91]
 · exact zJu b K h kk f
 by_cases g:(zI C.L s.k).text=[123]
 · exact zHH b K h kk g
 by_cases c:(zI C.L s.k).text=[102,117,110,99,116,105,111,110]
 · by_cases j:(zI C.L (zB s).k).kind=1
   · exact zDS b K h kk c j
   · exact zDt b K h kk c j
 by_cases x7:(zI C.L s.k).text=[40]
 · exact zIY b K h kk x7
 cases v1:onP C.L [47] s with
 | true=>exact zIZ b K h kk x0 x1 d e f g c x7 v1
 | false=>
  cases v2:onP C.L [47,61] s with
  | true=>exact zHI b K h kk x0 x1 d e f g c x7 v1 v2
  | false=>exact zIa b K h kk x0 x1 d e f g c x7 v1 v2
def zDQ (L:List Tok) (R:Ph→Ps→Tr×Ps) (x:Tr) (s:Ps):(Tr×Bool)×Ps:=
 if onP L [46] s=true then
  (if(zI L (zB s).k).kind≠1∧(zI L (zB s).k).kind≠6 then((x,false),ze L (zB s))else((trN 52 (zI L (zB s).k).text [x],true),zB (zB s)))
 else if onP L [91] s=true then((trK 53 [x,(R .assign (zB s)).1],true),zP L [93] (R .assign (zB s)).2)
 else((x,false),s)
theorem zJw (b:Lst L) {s:Ps} (hs:s.k≤L.length - 1) (c:¬onP L [40] s=true):zE L (.callsL x) s=if(zDQ L (zE L) x s).1.2=true then zE L (.callsL (zDQ L (zE L) x s).1.1) (zDQ L (zE L) x s).2 else(x,(zDQ L (zE L) x s).2):=by
 rw[zS b ⟨hs,trivial⟩];unfold zD zDQ;dsimp only;rw[if_neg c];split
 · split<;>rfl
 · split<;>rfl
theorem zTz (b:Lst L) {s:Ps} (hs:s.k≤L.length - 1):zE L (.headL x) s=if(zDQ L (zE L) x s).1.2=true then zE L (.headL (zDQ L (zE L) x s).1.1) (zDQ L (zE L) x s).2 else(x,(zDQ L (zE L) x s).2):=by
 rw[zS b ⟨hs,trivial⟩];unfold zD zDQ;dsimp only;split
 · split<;>rfl
 · split<;>rfl
theorem zW8 {R:Ph→Ps→Tr×Ps} {s:Ps} (h:(zDQ L R x s).1.2=false):(zDQ L R x s).1.1=x:=by
 unfold zDQ at h⊢;split
 · rename_i c
   rw[if_pos c]at h;split
   · rfl
   · rename_i c2;rw[if_neg c2]at h;cases h
 · rename_i c
   rw[if_neg c]at h;split
   · rename_i c2;rw[if_pos c2]at h;cases h
   · rfl
theorem zL6 (b:Lst L) {s:Ps} (hs:s.k≤L.length - 1):s.k≤(zDQ L (zE L) x s).2.k∧(zDQ L (zE L) x s).2.k≤L.length - 1∧((zDQ L (zE L) x s).1.2=true→s.k < (zDQ L (zE L) x s).2.k):=by
 unfold zDQ;split
 · rename_i c
   have h1:s.k+1≤L.length - 1:=b.on hs c;split
   · exact⟨hs,yAC _,fun h=>by cases h⟩
   · rename_i c2
     have d:s.k+1 < L.length - 1:=b.lt (s:=zB s) h1 jo;exact⟨(by show s.k≤s.k+1+1;omega),(by show s.k+1+1≤_;omega),fun _=>(by show s.k < s.k+1+1;omega)⟩
 · split
   · rename_i c
     have h1:s.k+1≤L.length - 1:=b.on hs c;have d:=(zd b (p:=.assign) (s:=zB s) ⟨h1,trivial⟩).adv;have e:=(zc (w:=[93]) b d.hi).adv;have:(zB s).k=s.k+1:=rfl;have:=d.le;have:=e.le;exact⟨by dsimp only;omega,e.hi,fun _=>by dsimp only;omega⟩
   · exact⟨yAC _,hs,fun h=>by cases h⟩
def zWG (C:Pc) (Q:Nat→Prop) (r:(Tr×Bool)×Ps) (w:World) (e:Ending) (w':World):Prop:=
 ∃d0 d1 d2 d3 d4 d5 d6 d7 d8,e=.returned (.tuple #[.agg #[d0,d1,d2,d3,d4,d5,d6,d7,d8],.bool r.1.2])∧TrC w' (fun b=>Q b∨w.heap.size≤b) r.1.1 [d0,d1,d2,d3,d4,d5,d6,d7,d8]∧Pa C r.2 w'∧w.grownBy w' (some C.g)
theorem Fr.retM {C:Pc} {Q:Nat→Prop} {a w:World} {D:List Nat} {os:List Ob} {s:Ps} {A:Act} {p:(Tr×Bool)×Ps} {t:Tr} {b:Bool} (F:Fr C (fun b=>Q b∨a.heap.size≤b) a D os s w) (j:Nat) (c:os[j]? =some (.tr t [d0,d1,d2,d3,d4,d5,d6,d7,d8])) (d:(results fn A.tmps).run Pg w=.ok (.tuple #[.agg #[d0,d1,d2,d3,d4,d5,d6,d7,d8],.bool b]) w) (f:A.defers=[]) (e:p=((t,b),s)):bodyPost Pg fn (zWG C Q p a) .ret A w:=by
 subst e;exact bodyPost_ret d f ⟨d0,d1,d2,d3,d4,d5,d6,d7,d8,rfl,TrC.sub (fun b hb _=>hb.1) _ _ (F.t j c),F.P,F.out.gr⟩
theorem zQn {C:Pc} {Q:Nat→Prop} {s:Ps} {w:World} (h:Pa C s w) (l:onP C.L [91] s=true→∀W,Pa C (zB s) W→zp C (zB s) W .assign) (m:∀b,Q b→C.g < b) (o:TrC w Q x [d0,d1,d2,d3,d4,d5,d6,d7,d8]) (h1:onP C.L [46] s=false) (p:onP C.L [91] s=false):
 Calls prog 174 #[.pointer (some ⟨C.g,0,none⟩),.agg #[d0,d1,d2,d3,d4,d5,d6,d7,d8]] w (zWG C Q (zDQ C.L (zE C.L) x s) w):=by
 generalize hr:zDQ C.L (zE C.L) x s=r;have A:=zA hr;clear hr;refine zW7 h m o fun H B F I W R X t D u v E k=>?_;have G:=zA l;have e:=zA h1;have j:=zA p;clear h1 p;clear h o m l;go_enter func174,ntmps174;go_upto_region 1 with(fail);clear D t u v E;have:=k.sto 0;go_wp2_with fail;refine k.kM (zBc k.P [46] e.out) fun w1 y=>?_;go_wp2_with fail;refine y.kM (zBc y.P [91] j.out) fun w2 d=>?_;have:=d.c 1;have:=d.c 2;have:=d.f 2;go_wp2_with fail;refine zCe (d.put 2 0) fun J z=>?_;have q:=z.c 2;exact z.retM (b:=false) 0 rfl (by simp[results,results174,go_sem,q]) rfl (A.out.symm.trans (by
  unfold zDQ;rw[if_neg (by rw[e.out];decide),if_neg (by rw[j.out];decide)]))
theorem zJx {C:Pc} {Q:Nat→Prop} {s:Ps} {w:World} (h:Pa C s w) (o:onP C.L [91] s=true→∀W,Pa C (zB s) W→zp C (zB s) W .assign) (p:∀b,Q b→C.g < b) (t:TrC w Q x [d0,d1,d2,d3,d4,d5,d6,d7,d8]) (h1:onP C.L [46] s=false) (u:onP C.L [91] s=true):
 Calls prog 174 #[.pointer (some ⟨C.g,0,none⟩),.agg #[d0,d1,d2,d3,d4,d5,d6,d7,d8]] w (zWG C Q (zDQ C.L (zE C.L) x s) w):=by
 generalize hr:zDQ C.L (zE C.L) x s=r;have I:=zA hr;clear hr;refine zW7 h p t fun HL J a3 W0 W R X v M y z N A=>?_;have B:=zA o;have k:=zA h1;have d:=zA u;clear h1 u;clear h t p o;go_enter func174,ntmps174;go_upto_region 1 with(fail);clear M v y z N;go_wp2_with fail;refine A.kM (zBc A.P [46] k.out) fun w1 D=>?_;go_wp2_with fail;refine D.kM (zBY D.P [91] d.out) fun w2 l=>?_;have E:=zA (fun Q=>l.dr.kD (Q:=Q) (B.out d.out _ l.dr.P));have:=l.c 1;go_wp2_with fail;go_region_law (first | (go_simp;go_at_call 106;(with_reducible refine E.out _ fun w3 O S T U V Y a0 a1 a2 m=>?_);have:=m.c 1;have F:=zA (fun Q=>m.litK 53 (n:=2) (Q:=Q) (m.ts2 0 3) rfl js rfl)) | (go_simp;go_at_call 32;(with_reducible refine F.out _ fun w4 e=>?_);have:=e.c 1;have:=e.f 1))
 all_goals
  have:=e.c 1;have:=e.f 1;go_upto_region 10 with(fail);refine zEg (e.put 1 4) fun w5 G=>?_;go_wp2_with fail;refine G.kN (zAK G.P [93]) fun w6 j=>?_;have:=j.c 1;have:=j.sto 4;have:=j.c 2;have:=j.f 2;go_wp2_with fail;refine zCe (j.put 2 4) fun V7 H=>?_;have q:=H.c 2;exact H.retM (b:=true) 4 rfl (by simp[results,results174,go_sem,q]) rfl (I.out.symm.trans (by
   unfold zDQ;rw[if_neg (by rw[k.out];decide),if_pos d.out]))
theorem zKq {C:Pc} {Q:Nat→Prop} {s:Ps} {w:World} (h:Pa C s w) (u:onP C.L [91] s=true→∀W,Pa C (zB s) W→zp C (zB s) W .assign) (v:∀b,Q b→C.g < b) (y:TrC w Q x [d0,d1,d2,d3,d4,d5,d6,d7,d8]) (h1:onP C.L [46] s=true) (hk:(zI C.L (zB s).k).kind=1):
 Calls prog 174 #[.pointer (some ⟨C.g,0,none⟩),.agg #[d0,d1,d2,d3,d4,d5,d6,d7,d8]] w (zWG C Q (zDQ C.L (zE C.L) x s) w):=by
 generalize hr:zDQ C.L (zE C.L) x s=r;have J:=zA hr;clear hr;refine zW7 h v y fun M N U Y W R X z O A B S p=>?_;have V:=zA u;have m:=zA h1;have o:=zA hk;clear h1 hk;clear h y v u;go_enter func174,ntmps174;go_upto_region 1 with(fail);clear O z A B S;have:=p.sto 0;go_wp2_with fail;refine p.kM (zBY p.P [46] m.out) fun w1 D=>?_;obtain⟨⟨kd,tx,st,nk,nn,mg,ps,nl⟩,j⟩:=zU C.L (zB (s)).k;have d:=zA (show kd=1 from by have:=o.out;rwa[j.out]at this);have e5:((kd:Int) !=1)=false:=by have:=d.out;rw[bne_eq_false_iff_eq];omega
 go_wp2_with fail;refine D.kT (zv D.P j.out) fun w2 As Am c1 c2 T=>?_;have e:=T.bt 3 80 rfl;have E:=zA (M.out.lt (s:=zB s) e.P.hi (by rw[j.out];have:=d.out;show kd≠0;omega));have:=e.c 4;have:=e.c 1;obtain⟨F,G,H⟩:=e.k1;have l:=e.step E.out;have:=l.c 1;have:=l.c 4;go_wp2_with fail;clear F G H;refine l.litN _ _ (n:=1) (l.ts1 0) rfl js (show _=w2.heap.size+1 by simp) fun w5 t=>?_;have:=t.c 2;have:=t.f 2;go_wp2_with fail;refine zCe (t.put 2 5) fun V6 I=>?_;have q:=I.c 2;exact I.retM (b:=true) 5 rfl (by simp[results,results174,go_sem,q]) rfl (J.out.symm.trans (by
  unfold zDQ;rw[if_pos m.out,if_neg (fun h=>by have:=o.out;omega),j.out]))
theorem zKr {C:Pc} {Q:Nat→Prop} {s:Ps} {w:World} (h:Pa C s w) (u:onP C.L [91] s=true→∀W,Pa C (zB s) W→zp C (zB s) W .assign) (v:∀b,Q b→C.g < b) (y:TrC w Q x [d0,d1,d2,d3,d4,d5,d6,d7,d8]) (h1:onP C.L [46] s=true) (hk:(zI C.L (zB s).k).kind=6):
 Calls prog 174 #[.pointer (some ⟨C.g,0,none⟩),.agg #[d0,d1,d2,d3,d4,d5,d6,d7,d8]] w (zWG C Q (zDQ C.L (zE C.L) x s) w):=by
 generalize hr:zDQ C.L (zE C.L) x s=r;have J:=zA hr;clear hr;refine zW7 h v y fun M N U Y W R X z O A B S p=>?_;have V:=zA u;have m:=zA h1;have o:=zA hk;clear h1 hk;clear h y v u;go_enter func174,ntmps174;go_upto_region 1 with(fail);clear O z A B S;have:=p.sto 0;go_wp2_with fail;refine p.kM (zBY p.P [46] m.out) fun w1 D=>?_;obtain⟨⟨kd,tx,st,nk,nn,mg,ps,nl⟩,j⟩:=zU C.L (zB (s)).k;have d:=zA (show kd=6 from by have:=o.out;rwa[j.out]at this);have e5:((kd:Int) !=1)=true:=by have:=d.out;rw[bne_iff_ne];omega
 have e6:((kd:Int) !=6)=false:=by have:=d.out;rw[bne_eq_false_iff_eq];omega
 go_wp2_with fail;refine D.kT (zv D.P j.out) fun w2 As Am c1 c2 T=>?_;have e:=T.bt 3 80 rfl;have E:=zA (M.out.lt (s:=zB s) e.P.hi (by rw[j.out];have:=d.out;show kd≠0;omega));have:=e.c 4;have:=e.c 1;obtain⟨F,G,H⟩:=e.k1;have l:=e.step E.out;have:=l.c 1;have:=l.c 4;go_wp2_with fail;clear F G H;refine l.litN _ _ (n:=1) (l.ts1 0) rfl js (show _=w2.heap.size+1 by simp) fun w5 t=>?_;have:=t.c 2;have:=t.f 2;go_wp2_with fail;refine zCe (t.put 2 5) fun V6 I=>?_;have q:=I.c 2;exact I.retM (b:=true) 5 rfl (by simp[results,results174,go_sem,q]) rfl (J.out.symm.trans (by
  unfold zDQ;rw[if_pos m.out,if_neg (fun h=>by have:=o.out;omega),j.out]))
theorem zNc {C:Pc} {Q:Nat→Prop} {s:Ps} {w:World} (h:Pa C s w) (p:onP C.L [91] s=true→∀W,Pa C (zB s) W→zp C (zB s) W .assign) (t:∀b,Q b→C.g < b) (u:TrC w Q x [d0,d1,d2,d3,d4,d5,d6,d7,d8]) (h1:onP C.L [46] s=true) (hk:(zI C.L (zB s).k).kind≠1∧(zI C.L (zB s).k).kind≠6):
 Calls prog 174 #[.pointer (some ⟨C.g,0,none⟩),.agg #[d0,d1,d2,d3,d4,d5,d6,d7,d8]] w (zWG C Q (zDQ C.L (zE C.L) x s) w):=by
 generalize hr:zDQ C.L (zE C.L) x s=r;have E:=zA hr;clear hr;refine zW7 h t u fun N F J O W R X v G y z H m=>?_;have M:=zA p;have j:=zA h1;have l:=zA hk;clear h1 hk;clear h u t p;go_enter func174,ntmps174;go_upto_region 1 with(fail);clear G v y z H;have:=m.sto 0;go_wp2_with fail;refine m.kM (zBY m.P [46] j.out) fun w1 A=>?_;obtain⟨⟨kd,tx,S,nk,nn,T,ps,nl⟩,B⟩:=zU C.L (zB (s)).k;have d:=zA (show kd≠1∧kd≠6 from by have:=l.out;rwa[B.out]at this);have e5:((kd:Int) !=1)=true:=by have:=d.out.1;rw[bne_iff_ne];omega
 have e6:((kd:Int) !=6)=true:=by have:=d.out.2;rw[bne_iff_ne];omega
 go_wp2_with fail;refine A.kT (zv A.P B.out) fun w2 As Am c1 c2 I=>?_;have o:=I.bt 3 80 rfl;have:=o.c 4;go_wp2_with fail;refine o.kN (zAN o.P) fun U e=>?_;have:=e.c 1;have:=e.c 2;have:=e.f 2;go_wp2_with fail;refine zCe (e.put 2 0) fun V D=>?_;have q:=D.c 2;exact D.retM (b:=false) 0 rfl (by simp[results,results174,go_sem,q]) rfl (E.out.symm.trans (by
  unfold zDQ;rw[if_pos j.out,if_pos l.out]))
theorem zNd {C:Pc} {Q:Nat→Prop} {s:Ps} {w:World} (h:Pa C s w) (c:onP C.L [91] s=true→∀W,Pa C (zB s) W→zp C (zB s) W .assign) (d:∀b,Q b→C.g < b) (e:TrC w Q x [d0,d1,d2,d3,d4,d5,d6,d7,d8]):
 Calls prog 174 #[.pointer (some ⟨C.g,0,none⟩),.agg #[d0,d1,d2,d3,d4,d5,d6,d7,d8]] w (zWG C Q (zDQ C.L (zE C.L) x s) w):=by
 cases h1:onP C.L [46] s with
 | false=>
  cases h2:onP C.L [91] s with
  | false=>exact zQn h c d e h1 h2
  | true=>exact zJx h c d e h1 h2
 | true=>
  by_cases k1:(zI C.L (zB s).k).kind=1
  · exact zKq h c d e h1 k1
  · by_cases k6:(zI C.L (zB s).k).kind=6
    · exact zKr h c d e h1 k6
    · exact zNc h c d e h1 ⟨k1,k6⟩
theorem zQo {C:Pc} {Q:Nat→Prop} {c:Tr} {d:Bool} {s f:Ps} {w:World} (h:Pa C s w) (q:onP C.L [91] s=true→∀W,Pa C (zB s) W→zp C (zB s) W .assign) (r:∀b,Q b→C.g < b) (t:TrC w Q x [d0,d1,d2,d3,d4,d5,d6,d7,d8]) (u:zDQ C.L (zE C.L) x s=((c,d),f)):
 Calls prog 174 #[.pointer (some ⟨C.g,0,none⟩),.agg #[d0,d1,d2,d3,d4,d5,d6,d7,d8]] w (fun e w'=>∃j m1 m2 k l m m6 o p,e=.returned (.tuple #[.agg #[j,m1,m2,k,l,m,m6,o,p],.bool d])∧TrC w' (fun b=>Q b∨w.heap.size≤b) c [j,m1,m2,k,l,m,m6,o,p]∧Pa C f w'∧w.grownBy w' (some C.g)):=by
 have:=zNd h q r t;rwa[u]at this
theorem zL7 {w w':World} {P Q F:Nat→Prop} {B n cp:Nat} {v':Value} {A:Option Addr} {l:List Tr} {t:Tr} {c ks:List Value}
 (r:TrC w Q t c) (j:RowK w Q (.slice A n cp) l ks F) (s:l.length=n) (hb:Bx w B 58 c) (k:∀b,Q b→b < w.heap.size→P b) (g:¬Q B) (m:P B) (u:P w.heap.size)
 (v:w'.ownsRow 0 58 9 v' (1+n) (c++ks)) (hg:w.grownBy w' (some B)) (o:v'.ownBlock=some B∨v'.ownBlock=some w.heap.size):RowP w' P v' (t::l):=by
 have p:Fz w (fun b=>Q b∧b < w.heap.size) (some B):=.box hb jd jd (fun h=>g h.1);have q:=hg.size;refine⟨c++ks,fun b=>Q b∧b < w.heap.size,?_,?_,?_,?_,?_⟩
 · rw[List.length_cons,s,Nat.add_comm];exact v
 · intro b d;rcases o with e | e
   · rw[e]at d;injection d with d;subst d;exact m
   · rw[e]at d;injection d with d;subst d;exact u
 · refine .cons ?_ ?_
   · exact TrC.keep hg p _ _ (.sub (fun b d y=>⟨d,y⟩) _ _ r)
   · exact TrsC.keep hg p _ _ (.sub (fun b d _=>j.low b d) _ _ j.subs)
 · intro b d f;rcases o with e | e
   · rw[e]at d;injection d with d;subst d;exact g f.1
   · rw[e]at d;injection d with d;subst d;omega
 · intro b f;exact⟨k b f.1 f.2,yAA f.2 q⟩
section
variable {w:World} {P Q:Nat→Prop} {B n cp:Nat} {A:Option Addr} {l:List Tr} {t:Tr} {c0 c1 c2 c3 c4 c5 c6 c7 c8:Value}
theorem zWH (hb:Bx w B 58 [c0,c1,c2,c3,c4,c5,c6,c7,c8]) (k:TrC w Q t [c0,c1,c2,c3,c4,c5,c6,c7,c8]) (d:∀b,Q b→b < w.heap.size→P b) (f:¬Q B) (g:P B):RowP w P (.slice (some ⟨B,0,none⟩) 1 1) [t]:=by
 refine⟨[c0,c1,c2,c3,c4,c5,c6,c7,c8],fun b=>Q b∧b < w.heap.size,⟨rfl,.inr ⟨B,1,#[c0,c1,c2,c3,c4,c5,c6,c7,c8],rfl,yAE _,hb,yAC _,by unfold maxLen;omega,rfl,rfl⟩⟩,?_,?_,?_,fun b c=>⟨d b c.1 c.2,c.2⟩⟩
 · intro b e;simp only[Value.ownBlock,Option.some.injEq]at e;subst e;exact g
 · exact .single (.sub (fun b j l=>⟨j,l⟩) _ _ k)
 · intro b e c;simp only[Value.ownBlock,Option.some.injEq]at e;subst e;exact f c.1
theorem zT0 (C:TypeId) (o:l.length=n) (hb:Bx w B 58 [c0,c1,c2,c3,c4,c5,c6,c7,c8]) (D:TrC w Q t [c0,c1,c2,c3,c4,c5,c6,c7,c8]) (M:RowP w Q (.slice A n cp) l) (r:∀b,Q b→b < w.heap.size→P b) (s:¬Q B) (v:P B) (E:P w.heap.size) (S:n≤4097):
 ∃p d w',(Builtin.append_ #[56,56] C #[.slice (some ⟨B,0,none⟩) 1 1,.slice A n cp]).run prog w=.ok (.slice p (n+1) d) w'∧RowP w' P (.slice p (n+1) d) (t::l)∧w.grownBy w' (some B):=by
 obtain⟨ks,F,hk⟩:=M;obtain⟨i,hi,G,H,I⟩:=info_parts Tryz.info_pnode;have k:w.ownsRow 0 58 9 (.slice (some ⟨B,0,none⟩) 1 1) 1 [c0,c1,c2,c3,c4,c5,c6,c7,c8]:=
  ⟨rfl,.inr ⟨B,1,#[c0,c1,c2,c3,c4,c5,c6,c7,c8],rfl,yAE _,hb,yAC _,by unfold maxLen;omega,rfl,rfl⟩⟩
 have c:=hk.own;rw[o]at c;rcases c.2 with⟨e,e0⟩ | ⟨g,cap,R,e,_,hg,h1,T,U,N⟩
 · injection e with e1 e2 e3;subst e1 e2 e3;have J:ks=[]:=List.eq_nil_of_length_eq_zero (by simpa using c.1);refine⟨some ⟨B,0,none⟩,1,w,?_,?_,⟨rfl,rfl,rfl,yAC _,fun _ _ _=>rfl⟩⟩
   · simp[Builtin.append_,run_underlying underlying56,sizeOf,typeInfo,hi,Builtin.lenOf,Builtin.firstCells,storeCells]
   · refine zL7 D hk o hb r s v E ?_ ⟨rfl,rfl,rfl,yAC _,fun _ _ _=>rfl⟩ (.inl rfl);rw[J,List.append_nil];exact k
 · injection e with e1 e2 e3;subst e1 e3;have q:∀j u,ks[j]? =some u→w.cell? ((⟨g,0,none⟩:Addr).add j)=some u:=by
    intro j u f;refine World.news_of_block hg j u ?_;rw[←N,List.getElem?_take]at f;split at f
    · exact f
    · cases f
   obtain⟨v',w',z,O,y,_,L⟩:=run_append_own_at (P:=prog) w 0 56 C 58 i _ 9 144 underlying56 hi G H I rfl jd (.slice (some ⟨B,0,none⟩) 1 1) 1 [c0,c1,c2,c3,c4,c5,c6,c7,c8] k ⟨g,0,none⟩ n cp ks c.1 q (fun u f=>List.all_eq_true.1 (TrsC.one hk.subs) u f) (by unfold maxLen;omega) jo (yAE _);have m:=zL7 D hk o hb r s v E O y (by
    rcases L with e | e
    · exact .inl e
    · exact .inr e)
   obtain⟨p,d,e',_⟩:=m.shape;rw[List.length_cons,o]at e';subst e';exact⟨p,d,w',z,m,y⟩
theorem zQp {f:Act→World→Prop} {a:Act} {g:Exit→Act→World→Prop} (s x:Operand)
 (j:o.op=.call {callee:=.builtin .append,args:=#[s,x],argTypes:=#[56,56]})
 (hs:a.eval s=.slice (some ⟨B,0,none⟩) 1 1) (hx:a.eval x=.slice A n cp)
 (hn:l.length=n) (hb:Bx w B 58 [c0,c1,c2,c3,c4,c5,c6,c7,c8]) (ht:TrC w Q t [c0,c1,c2,c3,c4,c5,c6,c7,c8]) (hr:RowP w Q (.slice A n cp) l) (hQP:∀b,Q b→b < w.heap.size→P b) (hQB:¬Q B) (hPB:P B) (hP:P w.heap.size) (hl:n≤4097)
 (h:∀d c w',RowP w' P (.slice d (n+1) c) (t::l)→w.grownBy w' (some B)→f (a.put o.dst (.slice d (n+1) c)) w'):o.wp prog a w f g:=by
 obtain⟨d,c,w',e,h1,k⟩:=zT0 (P:=P) o.type hn hb ht hr hQP hQB hPB hP hl;unfold Oper.wp execOp;simp only[j,resolve,invoke,builtin,Sem.run_bind,Sem.run_pure,Result.andThen_ok,List.map_toArray,List.map_cons,List.map_nil,hs,hx,e];exact h d c w' h1 k
theorem zQq {a:Act} (d:o.guard=none) (s x:Operand)
 (g:o.op=.call {callee:=.builtin .append,args:=#[s,x],argTypes:=#[56,56]})
 (hs:a.eval s=.slice (some ⟨B,0,none⟩) 1 1) (hx:a.eval x=.slice A n cp)
 (hn:l.length=n) (hb:Bx w B 58 [c0,c1,c2,c3,c4,c5,c6,c7,c8]) (ht:TrC w Q t [c0,c1,c2,c3,c4,c5,c6,c7,c8]) (hr:RowP w Q (.slice A n cp) l) (hQP:∀b,Q b→b < w.heap.size→P b) (hQB:¬Q B) (hPB:P B) (hP:P w.heap.size) (hl:n≤4097)
 (h:∀e c w',RowP w' P (.slice e (n+1) c) (t::l)→w.grownBy w' (some B)→K (a.put o.dst (.slice e (n+1) c)) w'):
 if Region.wanted o (yielded ops a.tmps)=true then Oper.wp prog o a w K f else E:=by
 have j:Region.wanted o (yielded ops a.tmps)=true:=by simp[Region.wanted,d]
 rw[if_pos j];exact zQp s x g hs hx hn hb ht hr hQP hQB hPB hP hl h
theorem zKs {a:Act} {e:Exit→Act→World→Prop} (f:o.guard=none) (s x:Operand)
 (g:o.op=.call {callee:=.builtin .append,args:=#[s,x],argTypes:=#[56,56]})
 (hs:a.eval s=.slice (some ⟨B,0,none⟩) 1 1) (hx:a.eval x=.slice A n cp)
 (hn:l.length=n) (hb:Bx w B 58 [c0,c1,c2,c3,c4,c5,c6,c7,c8]) (ht:TrC w Q t [c0,c1,c2,c3,c4,c5,c6,c7,c8]) (hr:RowP w Q (.slice A n cp) l) (hQP:∀b,Q b→b < w.heap.size→P b) (hQB:¬Q B) (hPB:P B) (hP:P w.heap.size) (hl:n≤4097)
 (h:∀d c w',RowP w' P (.slice d (n+1) c) (t::l)→w.grownBy w' (some B)→wpList prog ops e rest (a.put o.dst (.slice d (n+1) c)) w'):
 wpList prog ops e (o::rest) a w:=
 wpList_plain f fun _ j=>zQp s x g hs hx hn hb ht hr hQP hQB hPB hP hl fun d c w' h1 k=>j _ _ (h d c w' h1 k)
end
section
variable {C:Pc} {B:Nat→Prop} {a:World} {D:List Nat} {os:List Ob} {s s':Ps} {w w':World}
theorem Fr.kMb (F:Fr C B a D os s w) (j:Nat) {p:Tr} {q:Bool} {r:Ps} (u:os[j]? =some (.tr x [d0,d1,d2,d3,d4,d5,d6,d7,d8])) (v:onP C.L [91] s=true→∀W,Pa C (zB s) W→zp C (zB s) W .assign) (y:zDQ C.L (zE C.L) x s=((p,q),r)) {Q:Ending→World→Prop} (k:∀w' c m1 m2 d e f m6 l o,Fr C B a D (os++[.tr p [c,m1,m2,d,e,f,m6,l,o]]) r w'→Q (.returned (.tuple #[.agg #[c,m1,m2,d,e,f,m6,l,o],.bool q])) w'):Calls prog 174 #[.pointer (some ⟨C.g,0,none⟩),.agg #[d0,d1,d2,d3,d4,d5,d6,d7,d8]] w Q:=
 (zQo F.P v (fun b hb=>F.out.bl b hb.1) (F.t j u) y).mono fun _ w' ⟨c,m1,m2,d,e,f,m6,l,o,h1,z,A,E⟩=>h1▸k w' c m1 m2 d e f m6 l o (.mk ((F.m A E).out.snoc (x:=.tr _ _) rfl (TrC.sub (fun _ hb _=>hb.elim id F.out.off) _ _ z)))
theorem Fr.kLX {f:FuncId} {args:Array Value} (F:Fr C B a D os s w) (h:Calls prog f args w (LstQ C p w)) {Q:Ending→World→Prop} (k:∀x,Hid (p=x)→∀w' A n c,Hid (x.1.subs.length=n)→Fr C B a D (os++[.ro (.slice A n c) x.1.subs]) x.2 w'→Q (.returned (.slice A n c)) w'):Calls prog f args w Q:=
 F.kL h fun w' A n c h1 _ _ b=>k p (zA rfl) w' A n c h1 b
theorem FrR.join {R:Nat} {T:TypeId} {v:Value} {l:List Tr} (F:FrR C B a (R::D) os s w) (hi:os[i]? =some (.bx R T cs)) (E:R∉D) (hg:w.grownBy w' (some R)) (p:RowP w' (Off B D) v l):FrR C B a D (os.set i (.vs [])++[.ro v l]) s w':=by
 obtain⟨h1,G,q,r⟩:=F.ob i _ hi;have u:=F.ds R js;have o:=zUl hi;have m:∀(j:Nat) (z:Ob),(os.set i (.vs []))[j]? =some z→(j=i∧z=.vs [])∨(j≠i∧os[j]? =some z):=by
  intro j z h;rw[List.getElem?_set]at h;split at h
  · rename_i e
    subst e
    (try rw[if_pos o]at h)
    injection h with h;exact .inl ⟨rfl,h.symm⟩
  · rename_i e;exact .inr ⟨fun h=>e h.symm,h⟩
 have hs:∀b,Off B (R::D) b→Off B D b:=fun b hb=>⟨hb.1,fun h=>hb.2 (List.mem_cons_of_mem _ h)⟩;have A:FrR C B a D (os.set i (.vs [])) s w':=by
  refine⟨F.pa.grown hg (fun b hb=>by injection hb with hb;have:=F.lt;omega),zCF F.gr u.1 hg,F.bl,F.bh,fun b hb=>⟨(F.ds b (List.mem_cons_of_mem _ hb)).1,yAA (F.ds b (List.mem_cons_of_mem _ hb)).2 hg.size⟩,?_,?_⟩
  · intro j k y z R' d h6 c g;rcases m j y d with⟨_,rfl⟩ | ⟨_,d⟩
    · cases c
    rcases m k z h6 with⟨_,rfl⟩ | ⟨_,h6⟩
    · cases g
    exact F.nd j k y z R' d h6 c g
  · intro j y d;rcases m j y d with⟨_,rfl⟩ | ⟨h6,d⟩
    · trivial
    · have c:=(F.ob j y d).keep hg (.box h1 q r (fun h=>h.2 js)) (fun R' g e=>by injection e with e;subst e;exact h6 (F.nd j i y _ R d hi g rfl));cases y with
      | bx R' H f=>
       refine⟨c.1,?_,c.2.2⟩;rcases List.mem_cons.1 c.2.1 with e | e
       · subst e;exact absurd (F.nd j i _ _ R' d hi rfl rfl) h6
       · exact e
      | tr t f=>exact TrC.sub (fun b hb _=>hs b hb) _ _ c
      | tn lo t f=>exact⟨TrC.sub (fun b hb _=>⟨hs b hb.1,hb.2⟩) _ _ c.1,c.2⟩
      | ro v l=>exact RowP.sub c fun b hb _=>hs b hb
      | rn hi v l=>exact RowP.sub c fun b hb _=>⟨hs b hb.1,hb.2⟩
      | lf T v n xs=>exact c
      | vs f=>trivial
 exact A.snoc rfl p
theorem FrR.lone {R j:Nat} {c0 c1 c2 c3 c4 c5 c6 c7 c8:Value} (F:FrR C B a (R::D) os s w) (hi:os[i]? =some (.bx R 58 [c0,c1,c2,c3,c4,c5,c6,c7,c8])) (c:os[j]? =some (.tr x [c0,c1,c2,c3,c4,c5,c6,c7,c8])) (d:R∉D):RowP w (Off B D) (.slice (some ⟨R,0,none⟩) 1 1) [x]:=
 zWH (F.ob i _ hi).1 (F.ob j _ c) (fun b hb _=>⟨hb.1,fun h=>hb.2 (List.mem_cons_of_mem _ h)⟩) (fun h=>h.2 js) ⟨F.bh R (F.ds R js).1,d⟩
theorem Fr.joinS {k:Exit→Act→World→Prop} {R n cp:Nat} {A:Option Addr} {l:List Tr} {t:Tr} {c0 c1 c2 c3 c4 c5 c6 c7 c8:Value} (F:Fr C B a (R::D) os s w) (i j m:Nat) (hi:os[i]? =some (.bx R 58 [c0,c1,c2,c3,c4,c5,c6,c7,c8])) (p:os[j]? =some (.tr t [c0,c1,c2,c3,c4,c5,c6,c7,c8])) (q:os[m]? =some (.ro (.slice A n cp) l)) (f:R∉D) (u:l.length=n) (v:n≤4097) (g:o.guard=none) (x y:Operand)
 (z:o.op=.call {callee:=.builtin .append,args:=#[x,y],argTypes:=#[56,56]})
 (hs:d.eval x=.slice (some ⟨R,0,none⟩) 1 1) (hx:d.eval y=.slice A n cp)
 (h:∀e c w',Fr C B a D (os.set i (.vs [])++[.ro (.slice e (n+1) c) (t::l)]) s w'→K (d.put o.dst (.slice e (n+1) c)) w'):
 if Region.wanted o (yielded ops d.tmps)=true then Oper.wp prog o d w K k else E:=
 zQq g x y z hs hx u (F.b i hi) (F.t j p) (F.r m q) (fun b hb _=>⟨hb.1,fun h=>hb.2 (List.mem_cons_of_mem _ h)⟩) (fun h=>h.2 js) ⟨F.out.bh R (F.out.ds R js).1,f⟩ ⟨F.out.bh _ F.out.gr.size,fun h=>by have:=(F.out.ds _ (List.mem_cons_of_mem _ h)).2;omega⟩ v fun e c w' h1 G=>h e c w' (.mk (F.out.join hi f G h1))
theorem Fr.joinL {R n cp:Nat} {A:Option Addr} {l:List Tr} {t:Tr} {c0 c1 c2 c3 c4 c5 c6 c7 c8:Value} (F:Fr C B a (R::D) os s w) (i j m:Nat) (hi:os[i]? =some (.bx R 58 [c0,c1,c2,c3,c4,c5,c6,c7,c8])) (p:os[j]? =some (.tr t [c0,c1,c2,c3,c4,c5,c6,c7,c8])) (q:os[m]? =some (.ro (.slice A n cp) l)) (g:R∉D) (u:l.length=n) (v:n≤4097) (k:o.guard=none) (x y:Operand)
 (z:o.op=.call {callee:=.builtin .append,args:=#[x,y],argTypes:=#[56,56]})
 (hs:d.eval x=.slice (some ⟨R,0,none⟩) 1 1) (hx:d.eval y=.slice A n cp)
 (h:∀e c w',Fr C B a D (os.set i (.vs [])++[.ro (.slice e (n+1) c) (t::l)]) s w'→wpList prog ops f rest (d.put o.dst (.slice e (n+1) c)) w'):wpList prog ops f (o::rest) d w:=
 zKs k x y z hs hx u (F.b i hi) (F.t j p) (F.r m q) (fun b hb _=>⟨hb.1,fun h=>hb.2 (List.mem_cons_of_mem _ h)⟩) (fun h=>h.2 js) ⟨F.out.bh R (F.out.ds R js).1,g⟩ ⟨F.out.bh _ F.out.gr.size,fun h=>by have:=(F.out.ds _ (List.mem_cons_of_mem _ h)).2;omega⟩ v fun e c w' h1 E=>h e c w' (.mk (F.out.join hi g E h1))
theorem Fr.loneR {R j:Nat} {c0 c1 c2 c3 c4 c5 c6 c7 c8:Value} (F:Fr C B a (R::D) os s w) (hi:os[i]? =some (.bx R 58 [c0,c1,c2,c3,c4,c5,c6,c7,c8])) (c:os[j]? =some (.tr x [c0,c1,c2,c3,c4,c5,c6,c7,c8])) (b:R∉D):Fr C B a D (os.set i (.vs [])++[.ro (.slice (some ⟨R,0,none⟩) 1 1) [x]]) s w:=.mk (F.out.join hi b ⟨rfl,rfl,rfl,yAC _,fun _ _ _=>rfl⟩ (F.out.lone hi c b))
end
theorem zQr {C:Pc} {s:Ps} {w:World} (hp:Pre C.L (.calls) s) (K:KP C (zj C.L (.calls) s)) (h:Pa C s w):zp C s w (.calls):=by
 refine zBH hp h fun o c4 b3 r W X HR O hX F0=>?_;have R:=zA K;clear K h hp;go_enter func171,ntmps171;go_wp2_with fail
 go_step3
 clear O hX;go_wp2_with fail;refine F0.kX (R.out.rank (q:=.head) ⟨F0.P.hi,trivial⟩ F0.P (yAC _) (by simp[zt])) fun e D w1 a3 a4 a5 a6 a7 a8 a9 b0 b2 F1=>?_;have:=F1.sto 1;have F2:=F1.bt 1 58 rfl;have b4:=zA (show Adv C.L s (e.2) by have:=(zd o.out (p:=.head) (s:=s) ⟨b3,trivial⟩).adv;rwa[D.out]at this);have b5:=zA (show zE C.L (.callsL e.1) e.2=r by
  refine Eq.trans ?_ HR.out;unfold zD;dsimp only;rw[D.out])
 go_wp2_with fail
 go_step3
 go_wp2_with fail
 go_loopg [5] (C.L.length - (e.2).k) (fun gk _ wr=>∃(d:Tr) (s':Ps) (e0 e1 e2 e3 e4 e5 e6 e7 e8:Value),C.L.length - s'.k≤gk∧s.k≤s'.k∧Hid (zE C.L (.callsL d) s'=r)∧Hid (Fr C (w.heap.size≤·) w [(w1.heap.size),X] [.bx X 58 [.int .i64 0,.string ⟨#[]⟩,.slice none 0 0,.int .i64 0,.int .i64 0,.bool false,.slice none 0 0,.slice none 0 0,.slice none 0 0],.bx (w1.heap.size) 58 [e0,e1,e2,e3,e4,e5,e6,e7,e8],.tr d [e0,e1,e2,e3,e4,e5,e6,e7,e8]] s' wr))
 case atStart=>exact⟨e.1,e.2,a3,a4,a5,a6,a7,a8,a9,b0,b2,by omega,b4.out.le,b5.out,F2.pk [(w1.heap.size),X] [0,2,1] js jd rfl js js⟩
 case round=>
  obtain⟨d,s',e0,e1,e2,e3,e4,e5,e6,e7,e8,c7,E,F,z⟩:=hrel;obtain⟨b1,U⟩:=jx (onP C.L [40] s');have t:=zA U;clear U;go_wp2_with fail;refine z.kB (zAl z.P [40] t.out) fun w4 l=>?_;cases b1 with
  | false=>
   obtain⟨⟨⟨xm,bm⟩,G⟩,A⟩:∃q,Hid (zDQ C.L (zE C.L) d s'=q):=⟨_,zA rfl⟩;have V:=zA (by have Y:=zL6 (x:=d) o.out l.P.hi;rw[A.out]at Y;exact Y);have:=l.c 1;go_wp2_with fail;refine l.kMb 2 rfl (fun h5 W O=>R.out.more (q:=.assign) ⟨O.hi,trivial⟩ O (show s.k < s'.k+1 by omega)) A.out fun w5 m0 m1 m2 m3 m4 m5 m6 m7 m8 F5=>?_;have:=F5.sto 3;have F6:=F5.bt 3 58 rfl;go_upto_region 5 with(fail);refine zEg F6 fun w7 m=>?_;cases bm with
   | true=>
    have:=m.c 4;have:=m.c 1;have:=m.f 1;have u:=zA (show zE C.L (.callsL d) s'=zE C.L (.callsL xm) G by
     rw[zJw o.out z.P.hi (by rw[t.out];decide),A.out];exact if_pos rfl)
    have c5:s'.k < G.k:=V.out.2.2 rfl;have c6:G.k≤C.L.length - 1:=V.out.2.1;go_wp2_with fail
    go_roundg (C.L.length - (G).k)
    case measure=>omega
    case rel=>
     exact⟨_,_,_,_,_,_,_,_,_,_,_,yAC _,jo,u.out.symm.trans F.out,(m.put 1 3).pk [(w1.heap.size),X] [0,1,3] js jd rfl js js⟩
   | false=>
    have u:=zA (show zE C.L (.callsL d) s'=(d,G) by
     rw[zJw o.out z.P.hi (by rw[t.out];decide),A.out];exact if_neg js)
    have:=m.c 1;have:=m.sto 2;have:=m.c 0;have:=m.f 0;go_wp2_with fail;exact m.fin 0 2 rfl (F.out.symm.trans u.out)
  | true=>
   have g:=zA (o.out.on z.P.hi t.out);have S:=zA (zd o.out (p:=.args) (s:=s') ⟨z.P.hi,g.out⟩);have a0:=zA (zJp o.out g.out);have a1:=zA z.P.cx.n;have FA:=(l.bt 2 58 rfl).dr;have b6:=zA (fun Q=>FA.kLX (Q:=Q) (R.out.rank (q:=.args) ⟨FA.P.hi,g.out⟩ FA.P E (by simp[zt])));have b7:=zA (fun Q=>l.dr.kLX (Q:=Q) (R.out.rank (q:=.args) ⟨l.dr.P.hi,g.out⟩ l.dr.P E (by simp[zt])));have b8:=zA (fun h=>Nat.lt_irrefl _ (l.out.ds _ h).2);have:=l.c 1;go_wp2_with fail;go_region_law (first | (go_simp;go_at_call 173;first | ((with_reducible refine b6.out _ fun H v b9 A1 T c0 y B=>?_);have I:=zA (show T≤4097 by have:=a0.out;rw[v.out]at this;have:=y.out;have:=a1.out;omega);have:=B.c 1) | ((with_reducible refine b7.out _ fun H v b9 A1 T c0 y J=>?_);have I:=zA (show T≤4097 by have:=a0.out;rw[v.out]at this;have:=y.out;have:=a1.out;omega);have:=J.c 1;have c1:=zA (fun h=>Nat.lt_irrefl _ (J.out.ds _ h).2);have B:=J.bt 2 58 rfl)) | (refine B.joinS 3 2 4 rfl rfl rfl b8.out y.out I.out rfl _ _ rfl rfl rfl fun A3 a2 c2 j=>?_;have:=j.c 1;have:=j.f 1) | (refine B.joinS 4 2 3 rfl rfl rfl c1.out y.out I.out rfl _ _ rfl rfl rfl fun A3 a2 c2 j=>?_;have:=j.c 1;have:=j.f 1) | (go_simp;go_at_call 32;refine j.kQ (zAv 50 A3 (T+1) a2) fun c8 M=>?_;have:=M.c 1;have:=M.f 1))
   all_goals
    have c3:=M.rowK 5 rfl 50;have u:=zA (show zE C.L (.callsL d) s'=zE C.L (.callsL (trK 50 (d::H.1.subs))) H.2 by
     rw[zS o.out (p:=.callsL d) ⟨(Nat.le_of_lt g.out),trivial⟩];unfold zD;dsimp only;rw[if_pos t.out,v.out])
    have N:Eat C.L s' H.2:=(by have:=(show Eat C.L s' (zE C.L .args s').2 from S.out);rwa[v.out]at this);have c9:=N.more g.out;have d0:=N.adv.hi;clear N;go_wp2_with fail
    go_roundg (C.L.length - (H.2).k)
    case measure=>omega
    case rel=>
     exact⟨_,_,_,_,_,_,_,_,_,_,_,yAC _,jo,u.out.symm.trans F.out,(c3.put 1 6).pk [(w1.heap.size),X] [0,1,6] js jd rfl js js⟩
theorem zQs {C:Pc} {s:Ps} {w:World} (j:Pre C.L (.head) s) (K:KP C (zj C.L (.head) s)) (h:Pa C s w) (d:onP C.L [110,101,119] s=false):zp C s w (.head):=by
 refine zBH j h fun J m H r W X o p t k=>?_;have u:=zA K;clear K h j;go_enter func172,ntmps172;go_upto_region 1 with(fail);clear p t;have l:=zA d;clear d;go_wp2_with fail;refine k.kM (zBc k.P [110,101,119] l.out) fun w1 e=>?_;go_wp2_with fail;refine e.kX (u.out.rank (q:=.primary) ⟨e.P.hi,trivial⟩ e.P (yAC _) (by simp[zt])) fun I g w2 v y z A B D E F G b=>?_;have:=b.sto 1;have:=b.c 0;have:=b.f 0;go_wp2_with fail;exact b.fin 0 1 rfl (o.out.symm.trans (by
  unfold zD;dsimp only;rw[if_neg (by rw[l.out];decide)];simp only[g.out]))
theorem zT1 {C:Pc} {s:Ps} {w:World} (hp:Pre C.L (.head) s) (K:KP C (zj C.L (.head) s)) (h:Pa C s w) (H:onP C.L [110,101,119] s=true):zp C s w (.head):=by
 refine zBH hp h fun u c3 b1 r W X HR B hX F0=>?_;have U:=zA K;clear K h hp;go_enter func172,ntmps172;go_upto_region 1 with(fail);clear B hX;have V:=zA H;clear H;have b3:=zA (u.out.on b1 V.out);go_wp2_with fail;refine F0.kM (zBY F0.P [110,101,119] V.out) fun w1 Y=>?_;go_wp2_with fail;refine Y.kX (U.out.more (q:=.head) ⟨Y.P.hi,trivial⟩ Y.P (yAF s.k)) fun g v w2 a0 a1 a2 a3 a4 a5 a6 a7 a8 F2=>?_;have:=F2.sto 1;have F3:=F2.bt 1 58 rfl;have b4:=zA (show s.k < (g.2).k from yAA (yAF s.k) (show(zB s).k≤(g.2).k by have:=(zd u.out (p:=.head) (s:=zB s) ⟨b3.out,trivial⟩).adv.le;rwa[v.out]at this));obtain⟨q,hq⟩:=jx (zE C.L (.headL g.1) g.2);have HQ:=zA hq;clear hq;have I:=zA (show r=(if onP C.L [40] q.2=true then(trK 51 (q.1::(zE C.L .args q.2).1.subs),(zE C.L .args q.2).2)else(trK 51 [q.1],q.2))from by
  refine HR.out.symm.trans ?_;unfold zD;dsimp only;rw[if_pos V.out,v.out,HQ.out])
 go_wp2_with fail
 go_loopg [4] (C.L.length) (fun gk v4 wr=>∃(l:Bool) (e:Tr) (s':Ps) (e0 e1 e2 e3 e4 e5 e6 e7 e8:Value),v4=.bool l∧(if l=true then C.L.length - s'.k else 0)≤gk∧s.k < s'.k∧Hid ((if l=true then zE C.L (.headL e) s' else(e,s'))=q)∧Fr C (w.heap.size≤·) w [(w2.heap.size),X] [.bx X 58 [.int .i64 0,.string ⟨#[]⟩,.slice none 0 0,.int .i64 0,.int .i64 0,.bool false,.slice none 0 0,.slice none 0 0,.slice none 0 0],.bx (w2.heap.size) 58 [e0,e1,e2,e3,e4,e5,e6,e7,e8],.tr e [e0,e1,e2,e3,e4,e5,e6,e7,e8]] s' wr)
 case atStart=>exact⟨true,g.1,g.2,a0,a1,a2,a3,a4,a5,a6,a7,a8,rfl,Nat.sub_le _ _,b4.out,HQ.out,F3.pk [(w2.heap.size),X] [0,2,1] js jd rfl js js⟩
 case round=>
  obtain⟨b5,e,s',e0,e1,e2,e3,e4,e5,e6,e7,e8,rfl,o,a9,J,d⟩:=hrel;cases b5 with
  | true=>
   have c4:C.L.length - s'.k≤gk:=by rw[if_pos rfl]at o;exact o
   clear o;have c7:=d.P.kN;have c8:=d.P.cx.n;obtain⟨⟨⟨D,l⟩,E⟩,m⟩:∃q,Hid (zDQ C.L (zE C.L) e s'=q):=⟨_,zA rfl⟩;have y:=zA (by have M:=zL6 (x:=e) u.out d.P.hi;rw[m.out]at M;exact M);have:=d.c 1;go_wp2_with fail;refine d.kMb 2 rfl (fun h5 W B=>U.out.more (q:=.assign) ⟨B.hi,trivial⟩ B (show s.k < s'.k+1 by omega)) m.out fun w4 m0 m1 m2 m3 m4 m5 m6 m7 m8 F=>?_;have:=F.sto 3;have b6:=zA (show(if l=true then zE C.L (.headL D) E else(D,E))=q from by
    refine Eq.trans (Eq.symm ?_) (show zE C.L (.headL e) s'=q by have h9:=J.out;simpa using h9);rw[zTz u.out d.P.hi,m.out];cases l with
    | true=>rfl
    | false=>
     have hx:D=e:=by
      have:=zW8 (L:=C.L) (R:=zE C.L) (x:=e) (s:=s') (by rw[m.out]);rwa[m.out]at this
     rw[hx])
   have c5:=y.out.1;have c6:=y.out.2.1;have b0:=y.out.2.2;have:=F.c 1;have:=F.f 1;go_wp2_with fail
   go_roundg (if l=true then C.L.length - E.k else 0)
   case measure=>
    cases l with
    | true=>rw[if_pos rfl];have:=b0 rfl;omega
    | false=>rw[ji];omega
   case rel=>exact⟨l,D,E,m0,m1,m2,m3,m4,m5,m6,m7,m8,rfl,yAC _,by omega,b6.out,(F.put 1 3).pk [(w2.heap.size),X] [0,1,3] js jd rfl js js⟩
  | false=>
   have N:=zA (show q=(e,s')from by have h9:=J.out;simpa using h9.symm);clear o;have:=d.sto 2;have:=d.c 1;have O:=zA (fun h=>Nat.lt_irrefl _ (d.out.ds _ h).2);have F5:=d.bt 2 58 rfl;obtain⟨b2,Q⟩:=jx (onP C.L [40] s');have t:=zA Q;clear Q;go_wp2_with fail;refine F5.kB (zAl F5.P [40] t.out) fun w6 G=>?_;cases b2 with
   | false=>
    have F7:=G.loneR (i:=3) (j:=2) rfl rfl O.out;go_wp2_with fail;refine F7.kQ (zAv _ _ _ _) fun w8 F8=>?_;have F9:=F8.rowK 4 rfl 51;have:=F9.c 0;have:=F9.f 0;go_wp2_with fail;exact F9.fin 0 5 rfl (by
     rw[I.out,N.out];dsimp only;rw[if_neg (by rw[t.out];decide)])
   | true=>
    have z:=zA (u.out.on d.P.hi t.out);have b7:=zA (zJp u.out z.out);have b8:=zA d.P.cx.n;go_wp2_with fail;refine G.kLX (U.out.more (q:=.args) ⟨G.P.hi,z.out⟩ G.P a9) fun ra S c9 A1 n1 d0 T b9=>?_;have c0:=zA (show n1≤4097 by have:=b7.out;rw[S.out]at this;have:=T.out;have:=b8.out;omega);go_wp2_with (at_builtin;refine b9.joinL 3 2 4 rfl rfl rfl O.out T.out c0.out rfl _ _ rfl rfl rfl fun A3 d1 d2 c1=>?_);go_wp2_with fail;refine c1.kQ (zAv _ _ _ _) fun d3 c2=>?_;have A:=c2.rowK 5 rfl 51;have:=A.c 0;have:=A.f 0;go_wp2_with fail;exact A.fin 0 6 rfl (by
     rw[I.out,N.out];dsimp only;rw[if_pos t.out,S.out])
theorem zT2 {C:Pc} {s:Ps} {w:World} (b:Pre C.L .head s) (K:KP C (zj C.L .head s)) (h:Pa C s w):zp C s w .head:=by
 cases hon:onP C.L [110,101,119] s with
 | true=>exact zT1 b K h hon
 | false=>exact zQs b K h hon
theorem zT3 {C:Pc} {s:Ps} {w:World} (hp:Pre C.L (.loop) s) (K:KP C (zj C.L (.loop) s)) (h:Pa C s w) (d4:onP C.L [108,101,116] (zP C.L [40] (zB s))=true):zp C s w (.loop):=by
 refine zBH hp h fun M h2 j2 r W X HR hW hX F0=>?_;have HK:=zA K;have d5:=zA hp.2;clear K h hp;go_enter func137,ntmps137;go_upto_region 1 with(fail);clear hW hX;have d6:=zA d4;clear d4;have f6:=zA (zc (w:=[40]) M.out (s:=zB s) d5.out);have j3:s.k < (zP C.L [40] (zB s)).k:=by have:=f6.out.adv.le;have:(zB s).k=s.k+1:=rfl;omega
 obtain⟨j4,j5,j6⟩:=F0.k1;have F1:=F0.step d5.out;go_wp2_with fail;refine F1.kN (zAK F1.P [40]) fun w2 F2=>?_;go_wp2_with fail;refine F2.made0 _ fun w3 F3=>?_;have F4:=F3.bt 1 58 rfl;go_wp2_with fail;refine F4.kB (zAl F4.P [108,101,116] d6.out) fun w5 F5=>?_;have N:=F5.nil;have f7:=zA (fun Q=>N.dr.kRX 3 rfl (Q:=Q) (HK.out.more (q:=.declares) ⟨N.dr.P.hi,trivial⟩ N.dr.P jo));have:=N.c 2;go_upto_region 5 with(fail)
 go_cut [20] (fun _ I=>∃(d:Tr×Ps) (A:Option Addr) (n cp:Nat),Hid (zE C.L (.declares) (zP C.L [40] (zB (s)))=d)∧Hid (n=1)∧Fr C (w.heap.size≤·) w [(w3.heap.size),X] [.bx X 58 [.int .i64 0,.string ⟨#[]⟩,.slice none 0 0,.int .i64 0,.int .i64 0,.bool false,.slice none 0 0,.slice none 0 0,.slice none 0 0],.bx (w3.heap.size) 58 [.int .i64 10,.string ⟨#[]⟩,.slice none 0 0,.int .i64 0,.int .i64 0,.bool false,.slice none 0 0,.slice none 0 0,.slice A n cp],.ro (.slice A n cp) ([]++[d.1])] d.2 I)
 case first=>
  go_region_law (first | (go_simp;go_at_call 68;(with_reducible refine f7.out _ fun d l w7 e1 e2 e3 e4 e5 e6 e7 e8 e9 F7=>?_);have:=F7.c 2;have:=(F7.al (.cells #[e1,e2,e3,e4,e5,e6,e7,e8,e9] 58)).c 2) | (refine F7.snocS 3 4 rfl rfl (fun _ h=>h) js rfl _ _ rfl rfl rfl fun A8 d7 w8 F8=>?_;have:=F8.c 2;have:=F8.f 2))
  all_goals
   have F9:=F8.set 2 8 (.slice A8 (1) d7);go_wp2_with fail;go_meet;exact⟨d,A8,1,d7,l,zA rfl,F9.pk [(w3.heap.size),X] [0,2,3] js jd rfl js js⟩
 case rest=>
  obtain⟨b,h3,t,g4,B,u,O⟩:=hcut;obtain⟨h4,rfl⟩:∃x,x=wc:=⟨_,rfl⟩;have D:=zA (show Adv C.L (zP C.L [40] (zB (s))) b.2 by have:=(zd M.out (p:=.declares) (s:=zP C.L [40] (zB (s))) ⟨N.P.hi,trivial⟩).adv;rwa[B.out]at this);have g5:s.k < b.2.k:=by have:=D.out.le;omega
  have f8:=zA (zc (w:=[59]) M.out (s:=b.2) D.out.hi);have j7:s.k < (zP C.L [59] b.2).k:=by have:=f8.out.adv.le;omega
  go_wp2_with fail;refine O.kN (zAK O.P [59]) fun j8 E=>?_;have f0:=zA (fun Q=>E.dr.kRX 2 rfl (Q:=Q) (args:=#[.pointer (some ⟨C.g,0,none⟩),.string ⟨#[59]⟩]) (HK.out.more (q:=.clause [59]) ⟨E.dr.P.hi,trivial⟩ E.dr.P jo));have:=E.c 1;have f1:t≤4097:=by have:=u.out;omega
  go_upto_region 8 with(fail)
  go_cut [36] (fun _ I=>∃(d:Tr×Ps) (A:Option Addr) (n cp:Nat),Hid (zE C.L (.clause [59]) (zP C.L [59] (b.2))=d)∧Hid (n=t+1)∧Fr C (w.heap.size≤·) w [(w3.heap.size),X] [.bx X 58 [.int .i64 0,.string ⟨#[]⟩,.slice none 0 0,.int .i64 0,.int .i64 0,.bool false,.slice none 0 0,.slice none 0 0,.slice none 0 0],.bx (w3.heap.size) 58 [.int .i64 10,.string ⟨#[]⟩,.slice none 0 0,.int .i64 0,.int .i64 0,.bool false,.slice none 0 0,.slice none 0 0,.slice A n cp],.ro (.slice A n cp) ([]++[b.1]++[d.1])] d.2 I)
  case first=>
   go_region_law (first | (go_simp;go_at_call 153;(with_reducible refine f0.out _ fun d l j9 a5 a6 a7 a8 a9 b0 b1 b2 b3 R=>?_);have:=R.c 1;have:=(R.al (.cells #[a5,a6,a7,a8,a9,b0,b1,b2,b3] 58)).c 1) | (refine R.snocS 2 3 rfl rfl (fun _ h=>h) f1 rfl _ _ rfl rfl rfl fun d8 S k0 T=>?_;have:=T.c 1;have:=T.f 1))
   all_goals
    have f9:=T.set 1 8 (.slice d8 (t+1) S);go_wp2_with fail;go_meet;exact⟨d,d8,t+1,S,l,zA rfl,f9.pk [(w3.heap.size),X] [0,1,2] js jd rfl js js⟩
  case rest=>
   obtain⟨e,h5,v,g6,F,J,m⟩:=hcut;obtain⟨h6,rfl⟩:∃x,x=wc:=⟨_,rfl⟩;have U:=zA (show Adv C.L (zP C.L [59] (b.2)) e.2 by have:=(zd M.out (p:=.clause [59]) (s:=zP C.L [59] (b.2)) ⟨E.P.hi,trivial⟩).adv;rwa[F.out]at this);have g7:s.k < e.2.k:=by have:=U.out.le;omega
   have f2:=zA (fun Q=>m.dr.kRX 2 rfl (Q:=Q) (args:=#[.pointer (some ⟨C.g,0,none⟩),.string ⟨#[41]⟩]) (HK.out.more (q:=.clause [41]) ⟨m.dr.P.hi,trivial⟩ m.dr.P jo));have:=m.c 1;have f3:v≤4097:=by have:=u.out;have:=J.out;omega
   go_upto_region 9 with(fail)
   go_cut [43] (fun _ I=>∃(d:Tr×Ps) (A:Option Addr) (n cp:Nat),Hid (zE C.L (.clause [41]) (e.2)=d)∧Hid (n=v+1)∧Fr C (w.heap.size≤·) w [(w3.heap.size),X] [.bx X 58 [.int .i64 0,.string ⟨#[]⟩,.slice none 0 0,.int .i64 0,.int .i64 0,.bool false,.slice none 0 0,.slice none 0 0,.slice none 0 0],.bx (w3.heap.size) 58 [.int .i64 10,.string ⟨#[]⟩,.slice none 0 0,.int .i64 0,.int .i64 0,.bool false,.slice none 0 0,.slice none 0 0,.slice A n cp],.ro (.slice A n cp) ([]++[b.1]++[e.1]++[d.1])] d.2 I)
   case first=>
    go_region_law (first | (go_simp;go_at_call 153;(with_reducible refine f2.out _ fun d l k2 b4 b5 b6 b7 b8 b9 c0 c1 c2 V=>?_);have:=V.c 1;have:=(V.al (.cells #[b4,b5,b6,b7,b8,b9,c0,c1,c2] 58)).c 1) | (refine V.snocS 2 3 rfl rfl (fun _ h=>h) f3 rfl _ _ rfl rfl rfl fun d9 Y k3 a0=>?_;have:=a0.c 1;have:=a0.f 1))
    all_goals
     have g0:=a0.set 1 8 (.slice d9 (v+1) Y);go_wp2_with fail;go_meet;exact⟨d,d9,v+1,Y,l,zA rfl,g0.pk [(w3.heap.size),X] [0,1,2] js jd rfl js js⟩
   case rest=>
    obtain⟨j,h7,y,g8,G,c3,o⟩:=hcut;obtain⟨h8,rfl⟩:∃x,x=wc:=⟨_,rfl⟩;have a1:=zA (show Adv C.L (e.2) j.2 by have:=(zd M.out (p:=.clause [41]) (s:=e.2) ⟨m.P.hi,trivial⟩).adv;rwa[G.out]at this);have g9:s.k < j.2.k:=by have:=a1.out.le;omega
    have f4:=zA (fun Q=>o.dr.kRX 2 rfl (Q:=Q) (HK.out.more (q:=.statement) ⟨o.dr.P.hi,trivial⟩ o.dr.P jo));have:=o.c 1;have f5:y≤4097:=by have:=u.out;have:=J.out;have:=c3.out;omega
    go_upto_region 10 with(fail)
    go_cut [50] (fun _ I=>∃(d:Tr×Ps) (A:Option Addr) (n cp:Nat),Hid (zE C.L (.statement) (j.2)=d)∧Hid (n=y+1)∧Fr C (w.heap.size≤·) w [(w3.heap.size),X] [.bx X 58 [.int .i64 0,.string ⟨#[]⟩,.slice none 0 0,.int .i64 0,.int .i64 0,.bool false,.slice none 0 0,.slice none 0 0,.slice none 0 0],.bx (w3.heap.size) 58 [.int .i64 10,.string ⟨#[]⟩,.slice none 0 0,.int .i64 0,.int .i64 0,.bool false,.slice none 0 0,.slice none 0 0,.slice A n cp],.ro (.slice A n cp) ([]++[b.1]++[e.1]++[j.1]++[d.1])] d.2 I)
    case first=>
     go_region_law (first | (go_simp;go_at_call 73;(with_reducible refine f4.out _ fun d l k4 c4 c5 c6 c7 c8 c9 d0 d1 d2 a2=>?_);have:=a2.c 1;have:=(a2.al (.cells #[c4,c5,c6,c7,c8,c9,d0,d1,d2] 58)).c 1) | (refine a2.snocS 2 3 rfl rfl (fun _ h=>h) f5 rfl _ _ rfl rfl rfl fun e0 a3 k5 a4=>?_;have:=a4.c 1;have:=a4.f 1))
     all_goals
      have g1:=a4.set 1 8 (.slice e0 (y+1) a3);go_wp2_with fail;go_meet;exact⟨d,e0,y+1,a3,l,zA rfl,g1.pk [(w3.heap.size),X] [0,1,2] js jd rfl js js⟩
    case rest=>
     obtain⟨d3,h9,j0,h0,H,h1,z⟩:=hcut;obtain⟨j1,rfl⟩:∃x,x=wc:=⟨_,rfl⟩;have g2:=zA (show Adv C.L (j.2) d3.2 by have:=(zd M.out (p:=.statement) (s:=j.2) ⟨o.P.hi,trivial⟩).adv;rwa[H.out]at this);have:=z.c 1;have:=z.c 0;have:=z.f 0;go_wp2_with fail;have g3:=z.rowK 2 rfl 10;exact g3.fin 0 3 rfl (HR.out.symm.trans (by
      unfold zD;dsimp only;simp[d6.out,B.out,F.out,G.out,H.out]))
theorem zNe {C:Pc} {s:Ps} {w:World} (hp:Pre C.L (.loop) s) (K:KP C (zj C.L (.loop) s)) (h:Pa C s w) (d4:onP C.L [108,101,116] (zP C.L [40] (zB s))=false) (d5:onP C.L [99,111,110,115,116] (zP C.L [40] (zB s))=true):zp C s w (.loop):=by
 refine zBH hp h fun M h5 j5 r W X HR hW hX F0=>?_;have HK:=zA K;have d6:=zA hp.2;clear K h hp;go_enter func137,ntmps137;go_upto_region 1 with(fail);clear hW hX;have d7:=zA d4;clear d4;have d8:=zA d5;clear d5;have f8:=zA (zc (w:=[40]) M.out (s:=zB s) d6.out);have j6:s.k < (zP C.L [40] (zB s)).k:=by have:=f8.out.adv.le;have:(zB s).k=s.k+1:=rfl;omega
 obtain⟨j7,j8,j9⟩:=F0.k1;have F1:=F0.step d6.out;go_wp2_with fail;refine F1.kN (zAK F1.P [40]) fun w2 F2=>?_;go_wp2_with fail;refine F2.made0 _ fun w3 F3=>?_;have F4:=F3.bt 1 58 rfl;go_wp2_with fail;refine F4.kB (zAl F4.P [108,101,116] d7.out) fun w5 F5=>?_;go_wp2_with fail;refine F5.kB (zAl F5.P [99,111,110,115,116] d8.out) fun w6 F6=>?_;have N:=F6.nil;have f9:=zA (fun Q=>N.dr.kRX 3 rfl (Q:=Q) (HK.out.more (q:=.declares) ⟨N.dr.P.hi,trivial⟩ N.dr.P jo));have:=N.c 2;go_upto_region 5 with(fail)
 go_cut [20] (fun _ I=>∃(d:Tr×Ps) (A:Option Addr) (n cp:Nat),Hid (zE C.L (.declares) (zP C.L [40] (zB (s)))=d)∧Hid (n=1)∧Fr C (w.heap.size≤·) w [(w3.heap.size),X] [.bx X 58 [.int .i64 0,.string ⟨#[]⟩,.slice none 0 0,.int .i64 0,.int .i64 0,.bool false,.slice none 0 0,.slice none 0 0,.slice none 0 0],.bx (w3.heap.size) 58 [.int .i64 10,.string ⟨#[]⟩,.slice none 0 0,.int .i64 0,.int .i64 0,.bool false,.slice none 0 0,.slice none 0 0,.slice A n cp],.ro (.slice A n cp) ([]++[d.1])] d.2 I)
 case first=>
  go_region_law (first | (go_simp;go_at_call 68;(with_reducible refine f9.out _ fun d l w8 e3 e4 e5 e6 e7 e8 e9 f0 f1 F8=>?_);have:=F8.c 2;have:=(F8.al (.cells #[e3,e4,e5,e6,e7,e8,e9,f0,f1] 58)).c 2) | (refine F8.snocS 3 4 rfl rfl (fun _ h=>h) js rfl _ _ rfl rfl rfl fun A9 d9 w9 F9=>?_;have:=F9.c 2;have:=F9.f 2))
  all_goals
   have g0:=F9.set 2 8 (.slice A9 (1) d9);go_wp2_with fail;go_meet;exact⟨d,A9,1,d9,l,zA rfl,g0.pk [(w3.heap.size),X] [0,2,3] js jd rfl js js⟩
 case rest=>
  obtain⟨b,h6,t,g7,B,u,O⟩:=hcut;obtain⟨h7,rfl⟩:∃x,x=wc:=⟨_,rfl⟩;have D:=zA (show Adv C.L (zP C.L [40] (zB (s))) b.2 by have:=(zd M.out (p:=.declares) (s:=zP C.L [40] (zB (s))) ⟨N.P.hi,trivial⟩).adv;rwa[B.out]at this);have g8:s.k < b.2.k:=by have:=D.out.le;omega
  have g1:=zA (zc (w:=[59]) M.out (s:=b.2) D.out.hi);have k0:s.k < (zP C.L [59] b.2).k:=by have:=g1.out.adv.le;omega
  go_wp2_with fail;refine O.kN (zAK O.P [59]) fun k2 E=>?_;have f2:=zA (fun Q=>E.dr.kRX 2 rfl (Q:=Q) (args:=#[.pointer (some ⟨C.g,0,none⟩),.string ⟨#[59]⟩]) (HK.out.more (q:=.clause [59]) ⟨E.dr.P.hi,trivial⟩ E.dr.P jo));have:=E.c 1;have f3:t≤4097:=by have:=u.out;omega
  go_upto_region 8 with(fail)
  go_cut [36] (fun _ I=>∃(d:Tr×Ps) (A:Option Addr) (n cp:Nat),Hid (zE C.L (.clause [59]) (zP C.L [59] (b.2))=d)∧Hid (n=t+1)∧Fr C (w.heap.size≤·) w [(w3.heap.size),X] [.bx X 58 [.int .i64 0,.string ⟨#[]⟩,.slice none 0 0,.int .i64 0,.int .i64 0,.bool false,.slice none 0 0,.slice none 0 0,.slice none 0 0],.bx (w3.heap.size) 58 [.int .i64 10,.string ⟨#[]⟩,.slice none 0 0,.int .i64 0,.int .i64 0,.bool false,.slice none 0 0,.slice none 0 0,.slice A n cp],.ro (.slice A n cp) ([]++[b.1]++[d.1])] d.2 I)
  case first=>
   go_region_law (first | (go_simp;go_at_call 153;(with_reducible refine f2.out _ fun d l k3 a5 a6 a7 a8 a9 b0 b1 b2 b3 R=>?_);have:=R.c 1;have:=(R.al (.cells #[a5,a6,a7,a8,a9,b0,b1,b2,b3] 58)).c 1) | (refine R.snocS 2 3 rfl rfl (fun _ h=>h) f3 rfl _ _ rfl rfl rfl fun e0 S k4 T=>?_;have:=T.c 1;have:=T.f 1))
   all_goals
    have g2:=T.set 1 8 (.slice e0 (t+1) S);go_wp2_with fail;go_meet;exact⟨d,e0,t+1,S,l,zA rfl,g2.pk [(w3.heap.size),X] [0,1,2] js jd rfl js js⟩
  case rest=>
   obtain⟨e,h8,v,g9,F,J,m⟩:=hcut;obtain⟨h9,rfl⟩:∃x,x=wc:=⟨_,rfl⟩;have U:=zA (show Adv C.L (zP C.L [59] (b.2)) e.2 by have:=(zd M.out (p:=.clause [59]) (s:=zP C.L [59] (b.2)) ⟨E.P.hi,trivial⟩).adv;rwa[F.out]at this);have h0:s.k < e.2.k:=by have:=U.out.le;omega
   have f4:=zA (fun Q=>m.dr.kRX 2 rfl (Q:=Q) (args:=#[.pointer (some ⟨C.g,0,none⟩),.string ⟨#[41]⟩]) (HK.out.more (q:=.clause [41]) ⟨m.dr.P.hi,trivial⟩ m.dr.P jo));have:=m.c 1;have f5:v≤4097:=by have:=u.out;have:=J.out;omega
   go_upto_region 9 with(fail)
   go_cut [43] (fun _ I=>∃(d:Tr×Ps) (A:Option Addr) (n cp:Nat),Hid (zE C.L (.clause [41]) (e.2)=d)∧Hid (n=v+1)∧Fr C (w.heap.size≤·) w [(w3.heap.size),X] [.bx X 58 [.int .i64 0,.string ⟨#[]⟩,.slice none 0 0,.int .i64 0,.int .i64 0,.bool false,.slice none 0 0,.slice none 0 0,.slice none 0 0],.bx (w3.heap.size) 58 [.int .i64 10,.string ⟨#[]⟩,.slice none 0 0,.int .i64 0,.int .i64 0,.bool false,.slice none 0 0,.slice none 0 0,.slice A n cp],.ro (.slice A n cp) ([]++[b.1]++[e.1]++[d.1])] d.2 I)
   case first=>
    go_region_law (first | (go_simp;go_at_call 153;(with_reducible refine f4.out _ fun d l k5 b4 b5 b6 b7 b8 b9 c0 c1 c2 V=>?_);have:=V.c 1;have:=(V.al (.cells #[b4,b5,b6,b7,b8,b9,c0,c1,c2] 58)).c 1) | (refine V.snocS 2 3 rfl rfl (fun _ h=>h) f5 rfl _ _ rfl rfl rfl fun e1 Y k6 a0=>?_;have:=a0.c 1;have:=a0.f 1))
    all_goals
     have g3:=a0.set 1 8 (.slice e1 (v+1) Y);go_wp2_with fail;go_meet;exact⟨d,e1,v+1,Y,l,zA rfl,g3.pk [(w3.heap.size),X] [0,1,2] js jd rfl js js⟩
   case rest=>
    obtain⟨j,j0,y,h1,G,c3,o⟩:=hcut;obtain⟨j1,rfl⟩:∃x,x=wc:=⟨_,rfl⟩;have a1:=zA (show Adv C.L (e.2) j.2 by have:=(zd M.out (p:=.clause [41]) (s:=e.2) ⟨m.P.hi,trivial⟩).adv;rwa[G.out]at this);have h2:s.k < j.2.k:=by have:=a1.out.le;omega
    have f6:=zA (fun Q=>o.dr.kRX 2 rfl (Q:=Q) (HK.out.more (q:=.statement) ⟨o.dr.P.hi,trivial⟩ o.dr.P jo));have:=o.c 1;have f7:y≤4097:=by have:=u.out;have:=J.out;have:=c3.out;omega
    go_upto_region 10 with(fail)
    go_cut [50] (fun _ I=>∃(d:Tr×Ps) (A:Option Addr) (n cp:Nat),Hid (zE C.L (.statement) (j.2)=d)∧Hid (n=y+1)∧Fr C (w.heap.size≤·) w [(w3.heap.size),X] [.bx X 58 [.int .i64 0,.string ⟨#[]⟩,.slice none 0 0,.int .i64 0,.int .i64 0,.bool false,.slice none 0 0,.slice none 0 0,.slice none 0 0],.bx (w3.heap.size) 58 [.int .i64 10,.string ⟨#[]⟩,.slice none 0 0,.int .i64 0,.int .i64 0,.bool false,.slice none 0 0,.slice none 0 0,.slice A n cp],.ro (.slice A n cp) ([]++[b.1]++[e.1]++[j.1]++[d.1])] d.2 I)
    case first=>
     go_region_law (first | (go_simp;go_at_call 73;(with_reducible refine f6.out _ fun d l k7 c4 c5 c6 c7 c8 c9 d0 d1 d2 a2=>?_);have:=a2.c 1;have:=(a2.al (.cells #[c4,c5,c6,c7,c8,c9,d0,d1,d2] 58)).c 1) | (refine a2.snocS 2 3 rfl rfl (fun _ h=>h) f7 rfl _ _ rfl rfl rfl fun e2 a3 k8 a4=>?_;have:=a4.c 1;have:=a4.f 1))
     all_goals
      have g4:=a4.set 1 8 (.slice e2 (y+1) a3);go_wp2_with fail;go_meet;exact⟨d,e2,y+1,a3,l,zA rfl,g4.pk [(w3.heap.size),X] [0,1,2] js jd rfl js js⟩
    case rest=>
     obtain⟨d3,j2,j3,h3,H,h4,z⟩:=hcut;obtain⟨j4,rfl⟩:∃x,x=wc:=⟨_,rfl⟩;have g5:=zA (show Adv C.L (j.2) d3.2 by have:=(zd M.out (p:=.statement) (s:=j.2) ⟨o.P.hi,trivial⟩).adv;rwa[H.out]at this);have:=z.c 1;have:=z.c 0;have:=z.f 0;go_wp2_with fail;have g6:=z.rowK 2 rfl 10;exact g6.fin 0 3 rfl (HR.out.symm.trans (by
      unfold zD;dsimp only;simp[d7.out,d8.out,B.out,F.out,G.out,H.out]))
theorem zKt {C:Pc} {s:Ps} {w:World} (hp:Pre C.L (.loop) s) (K:KP C (zj C.L (.loop) s)) (h:Pa C s w) (d3:onP C.L [108,101,116] (zP C.L [40] (zB s))=false) (d4:onP C.L [99,111,110,115,116] (zP C.L [40] (zB s))=false):zp C s w (.loop):=by
 refine zBH hp h fun J h3 j3 r W X HR hW hX F0=>?_;have HK:=zA K;have d5:=zA hp.2;clear K h hp;go_enter func137,ntmps137;go_upto_region 1 with(fail);clear hW hX;have d6:=zA d3;clear d3;have d7:=zA d4;clear d4;have f7:=zA (zc (w:=[40]) J.out (s:=zB s) d5.out);have j4:s.k < (zP C.L [40] (zB s)).k:=by have:=f7.out.adv.le;have:(zB s).k=s.k+1:=rfl;omega
 obtain⟨j5,j6,j7⟩:=F0.k1;have F1:=F0.step d5.out;go_wp2_with fail;refine F1.kN (zAK F1.P [40]) fun w2 F2=>?_;go_wp2_with fail;refine F2.made0 _ fun w3 F3=>?_;have F4:=F3.bt 1 58 rfl;go_wp2_with fail;refine F4.kB (zAl F4.P [108,101,116] d6.out) fun w5 F5=>?_;go_wp2_with fail;refine F5.kB (zAl F5.P [99,111,110,115,116] d7.out) fun w6 F6=>?_;have M:=F6.nil;have f8:=zA (fun Q=>M.dr.kRX 3 rfl (Q:=Q) (args:=#[.pointer (some ⟨C.g,0,none⟩),.string ⟨#[59]⟩]) (HK.out.more (q:=.clause [59]) ⟨M.dr.P.hi,trivial⟩ M.dr.P jo));have:=M.c 2;go_upto_region 7 with(fail)
 go_cut [29] (fun _ H=>∃(b:Tr×Ps) (A:Option Addr) (n cp:Nat),Hid (zE C.L (.clause [59]) (zP C.L [40] (zB (s)))=b)∧Hid (n=1)∧Fr C (w.heap.size≤·) w [(w3.heap.size),X] [.bx X 58 [.int .i64 0,.string ⟨#[]⟩,.slice none 0 0,.int .i64 0,.int .i64 0,.bool false,.slice none 0 0,.slice none 0 0,.slice none 0 0],.bx (w3.heap.size) 58 [.int .i64 10,.string ⟨#[]⟩,.slice none 0 0,.int .i64 0,.int .i64 0,.bool false,.slice none 0 0,.slice none 0 0,.slice A n cp],.ro (.slice A n cp) ([]++[b.1])] b.2 H)
 case first=>
  go_region_law (first | (go_simp;go_at_call 153;(with_reducible refine f8.out _ fun b l w8 e2 e3 e4 e5 e6 e7 e8 e9 f0 F8=>?_);have:=F8.c 2;have:=(F8.al (.cells #[e2,e3,e4,e5,e6,e7,e8,e9,f0] 58)).c 2) | (refine F8.snocS 3 4 rfl rfl (fun _ h=>h) js rfl _ _ rfl rfl rfl fun A9 d8 w9 F9=>?_;have:=F9.c 2;have:=F9.f 2))
  all_goals
   have f9:=F9.set 2 8 (.slice A9 (1) d8);go_wp2_with fail;go_meet;exact⟨b,A9,1,d8,l,zA rfl,f9.pk [(w3.heap.size),X] [0,2,3] js jd rfl js js⟩
 case rest=>
  obtain⟨d,h4,u,g5,D,v,m⟩:=hcut;obtain⟨h5,rfl⟩:∃x,x=wc:=⟨_,rfl⟩;have N:=zA (show Adv C.L (zP C.L [40] (zB (s))) d.2 by have:=(zd J.out (p:=.clause [59]) (s:=zP C.L [40] (zB (s))) ⟨M.P.hi,trivial⟩).adv;rwa[D.out]at this);have g6:s.k < d.2.k:=by have:=N.out.le;omega
  have f1:=zA (fun Q=>m.dr.kRX 2 rfl (Q:=Q) (args:=#[.pointer (some ⟨C.g,0,none⟩),.string ⟨#[59]⟩]) (HK.out.more (q:=.clause [59]) ⟨m.dr.P.hi,trivial⟩ m.dr.P jo));have:=m.c 1;have f2:u≤4097:=by have:=v.out;omega
  go_upto_region 8 with(fail)
  go_cut [36] (fun _ H=>∃(b:Tr×Ps) (A:Option Addr) (n cp:Nat),Hid (zE C.L (.clause [59]) (d.2)=b)∧Hid (n=u+1)∧Fr C (w.heap.size≤·) w [(w3.heap.size),X] [.bx X 58 [.int .i64 0,.string ⟨#[]⟩,.slice none 0 0,.int .i64 0,.int .i64 0,.bool false,.slice none 0 0,.slice none 0 0,.slice none 0 0],.bx (w3.heap.size) 58 [.int .i64 10,.string ⟨#[]⟩,.slice none 0 0,.int .i64 0,.int .i64 0,.bool false,.slice none 0 0,.slice none 0 0,.slice A n cp],.ro (.slice A n cp) ([]++[d.1]++[b.1])] b.2 H)
  case first=>
   go_region_law (first | (go_simp;go_at_call 153;(with_reducible refine f1.out _ fun b l j8 a4 a5 a6 a7 a8 a9 b0 b1 b2 O=>?_);have:=O.c 1;have:=(O.al (.cells #[a4,a5,a6,a7,a8,a9,b0,b1,b2] 58)).c 1) | (refine O.snocS 2 3 rfl rfl (fun _ h=>h) f2 rfl _ _ rfl rfl rfl fun d9 R j9 S=>?_;have:=S.c 1;have:=S.f 1))
   all_goals
    have g0:=S.set 1 8 (.slice d9 (u+1) R);go_wp2_with fail;go_meet;exact⟨b,d9,u+1,R,l,zA rfl,g0.pk [(w3.heap.size),X] [0,1,2] js jd rfl js js⟩
  case rest=>
   obtain⟨e,h6,y,g7,E,I,o⟩:=hcut;obtain⟨h7,rfl⟩:∃x,x=wc:=⟨_,rfl⟩;have T:=zA (show Adv C.L (d.2) e.2 by have:=(zd J.out (p:=.clause [59]) (s:=d.2) ⟨m.P.hi,trivial⟩).adv;rwa[E.out]at this);have g8:s.k < e.2.k:=by have:=T.out.le;omega
   have f3:=zA (fun Q=>o.dr.kRX 2 rfl (Q:=Q) (args:=#[.pointer (some ⟨C.g,0,none⟩),.string ⟨#[41]⟩]) (HK.out.more (q:=.clause [41]) ⟨o.dr.P.hi,trivial⟩ o.dr.P jo));have:=o.c 1;have f4:y≤4097:=by have:=v.out;have:=I.out;omega
   go_upto_region 9 with(fail)
   go_cut [43] (fun _ H=>∃(b:Tr×Ps) (A:Option Addr) (n cp:Nat),Hid (zE C.L (.clause [41]) (e.2)=b)∧Hid (n=y+1)∧Fr C (w.heap.size≤·) w [(w3.heap.size),X] [.bx X 58 [.int .i64 0,.string ⟨#[]⟩,.slice none 0 0,.int .i64 0,.int .i64 0,.bool false,.slice none 0 0,.slice none 0 0,.slice none 0 0],.bx (w3.heap.size) 58 [.int .i64 10,.string ⟨#[]⟩,.slice none 0 0,.int .i64 0,.int .i64 0,.bool false,.slice none 0 0,.slice none 0 0,.slice A n cp],.ro (.slice A n cp) ([]++[d.1]++[e.1]++[b.1])] b.2 H)
   case first=>
    go_region_law (first | (go_simp;go_at_call 153;(with_reducible refine f3.out _ fun b l k0 b3 b4 b5 b6 b7 b8 b9 c0 c1 U=>?_);have:=U.c 1;have:=(U.al (.cells #[b3,b4,b5,b6,b7,b8,b9,c0,c1] 58)).c 1) | (refine U.snocS 2 3 rfl rfl (fun _ h=>h) f4 rfl _ _ rfl rfl rfl fun e0 V k2 Y=>?_;have:=Y.c 1;have:=Y.f 1))
    all_goals
     have g1:=Y.set 1 8 (.slice e0 (y+1) V);go_wp2_with fail;go_meet;exact⟨b,e0,y+1,V,l,zA rfl,g1.pk [(w3.heap.size),X] [0,1,2] js jd rfl js js⟩
   case rest=>
    obtain⟨j,h8,z,g9,F,c2,t⟩:=hcut;obtain⟨h9,rfl⟩:∃x,x=wc:=⟨_,rfl⟩;have a0:=zA (show Adv C.L (e.2) j.2 by have:=(zd J.out (p:=.clause [41]) (s:=e.2) ⟨o.P.hi,trivial⟩).adv;rwa[F.out]at this);have h0:s.k < j.2.k:=by have:=a0.out.le;omega
    have f5:=zA (fun Q=>t.dr.kRX 2 rfl (Q:=Q) (HK.out.more (q:=.statement) ⟨t.dr.P.hi,trivial⟩ t.dr.P jo));have:=t.c 1;have f6:z≤4097:=by have:=v.out;have:=I.out;have:=c2.out;omega
    go_upto_region 10 with(fail)
    go_cut [50] (fun _ H=>∃(b:Tr×Ps) (A:Option Addr) (n cp:Nat),Hid (zE C.L (.statement) (j.2)=b)∧Hid (n=z+1)∧Fr C (w.heap.size≤·) w [(w3.heap.size),X] [.bx X 58 [.int .i64 0,.string ⟨#[]⟩,.slice none 0 0,.int .i64 0,.int .i64 0,.bool false,.slice none 0 0,.slice none 0 0,.slice none 0 0],.bx (w3.heap.size) 58 [.int .i64 10,.string ⟨#[]⟩,.slice none 0 0,.int .i64 0,.int .i64 0,.bool false,.slice none 0 0,.slice none 0 0,.slice A n cp],.ro (.slice A n cp) ([]++[d.1]++[e.1]++[j.1]++[b.1])] b.2 H)
    case first=>
     go_region_law (first | (go_simp;go_at_call 73;(with_reducible refine f5.out _ fun b l k3 c3 c4 c5 c6 c7 c8 c9 d0 d1 a1=>?_);have:=a1.c 1;have:=(a1.al (.cells #[c3,c4,c5,c6,c7,c8,c9,d0,d1] 58)).c 1) | (refine a1.snocS 2 3 rfl rfl (fun _ h=>h) f6 rfl _ _ rfl rfl rfl fun e1 a2 k4 a3=>?_;have:=a3.c 1;have:=a3.f 1))
     all_goals
      have g2:=a3.set 1 8 (.slice e1 (z+1) a2);go_wp2_with fail;go_meet;exact⟨b,e1,z+1,a2,l,zA rfl,g2.pk [(w3.heap.size),X] [0,1,2] js jd rfl js js⟩
    case rest=>
     obtain⟨d2,j0,j1,h1,G,h2,B⟩:=hcut;obtain⟨j2,rfl⟩:∃x,x=wc:=⟨_,rfl⟩;have g3:=zA (show Adv C.L (j.2) d2.2 by have:=(zd J.out (p:=.statement) (s:=j.2) ⟨t.P.hi,trivial⟩).adv;rwa[G.out]at this);have:=B.c 1;have:=B.c 0;have:=B.f 0;go_wp2_with fail;have g4:=B.rowK 2 rfl 10;exact g4.fin 0 3 rfl (HR.out.symm.trans (by
      unfold zD;dsimp only;simp[d6.out,d7.out,D.out,E.out,F.out,G.out]))
theorem zT4 {C:Pc} {s:Ps} {w:World} (b:Pre C.L .loop s) (K:KP C (zj C.L .loop s)) (h:Pa C s w):zp C s w .loop:=by
 cases b1:onP C.L [108,101,116] (zP C.L [40] (zB s))with
 | true=>exact zT3 b K h b1
 | false=>
  cases b2:onP C.L [99,111,110,115,116] (zP C.L [40] (zB s))with
  | true=>exact zNe b K h b1 b2
  | false=>exact zKt b K h b1 b2
theorem zJy {C:Pc} {s:Ps} {w:World} (hp:Pre C.L (.declares) s) (K:KP C (zj C.L (.declares) s)) (h:Pa C s w):zp C s w (.declares):=by
 refine zBH hp h fun o b8 Y r W X HR hW hX F0=>?_;have HK:=zA K;clear K h hp;go_enter func68,ntmps68;go_upto_region 1 with(fail);clear hW hX;go_wp2_with fail;refine F0.made0 _ fun w1 F1=>?_;have F2:=F1.bt 1 58 rfl;obtain⟨b,hb⟩:=jx (onP C.L [99,111,110,115,116] s);have S:=zA hb;clear hb;go_wp2_with fail;refine F2.kM (zA1 F2.P [99,111,110,115,116] S.out) fun w3 F3=>?_
 go_upto_if 7 with(fail)
 go_cut [8] (fun _ wx=>∃(kz:Int) (s1:Ps),Hid (zE C.L (.declL kz []) s1=r)∧s.k≤s1.k∧Fr C (w.heap.size≤·) w [(w1.heap.size),X] [.bx X 58 [.int .i64 0,.string ⟨#[]⟩,.slice none 0 0,.int .i64 0,.int .i64 0,.bool false,.slice none 0 0,.slice none 0 0,.slice none 0 0],.bx (w1.heap.size) 58 [.int .i64 kz,.string ⟨#[]⟩,.slice none 0 0,.int .i64 0,.int .i64 0,.bool false,.slice none 0 0,.slice none 0 0,.slice none 0 0]] s1 wx)
 case first=>
  cases b with
  | true=>
   have F4:=(show Fr _ _ _ _ _ (zB s) _ from F3);have a0:=zA (o.out.on Y S.out);go_wp2_with fail;refine F4.made0 _ fun w5 F5=>?_;have:=F5.c 2;have:=F5.f 2;go_wp2_with fail;go_meet;exact⟨6,zB s,zA (by
    refine Eq.trans ?_ HR.out;unfold zD;dsimp only;rw[if_pos S.out]),Nat.le_succ _,(F5.put 2 3).pk [(w1.heap.size),X] [0,2] js jd rfl js js⟩
  | false=>
   have F6:=(show Fr _ _ _ _ _ (s) _ from F3);go_wp2_with fail;refine F6.kN (zAK F6.P [108,101,116]) fun w7 F7=>?_;go_wp2_with fail;go_meet;exact⟨5,zP C.L [108,101,116] s,zA (by
    refine Eq.trans ?_ HR.out;unfold zD;dsimp only;rw[if_neg (by rw[S.out];decide)]),(zc (w:=[108,101,116]) o.out Y).adv.le,F7.pk [(w1.heap.size),X] [0,2] js jd rfl js js⟩
 case rest=>
  obtain⟨k,s1,a6,a7,Fq⟩:=hcut;obtain⟨wq,rfl⟩:∃x,x=wc:=⟨_,rfl⟩;go_wp2_with fail
  go_loopg [4] (C.L.length - s1.k) (fun gk _ wr=>∃(j:List Tr) (s':Ps) (A:Option Addr) (n cp:Nat),C.L.length - s'.k≤gk∧s.k≤s'.k∧n≤s'.k∧Hid (zE C.L (.declL k j) s'=r)∧Fr C (w.heap.size≤·) w [(w1.heap.size),X] [.bx X 58 [.int .i64 0,.string ⟨#[]⟩,.slice none 0 0,.int .i64 0,.int .i64 0,.bool false,.slice none 0 0,.slice none 0 0,.slice none 0 0],.bx (w1.heap.size) 58 [.int .i64 k,.string ⟨#[]⟩,.slice none 0 0,.int .i64 0,.int .i64 0,.bool false,.slice none 0 0,.slice none 0 0,.slice A n cp],.ro (.slice A n cp) j] s' wr)
  case atStart=>exact⟨[],s1,none,0,0,yAC _,a7,yAE _,a6.out,Fq.nil.pk [(w1.heap.size),X] [0,1,2] js jd rfl js js⟩
  case round=>
   obtain⟨j,s',A,n,cp,c1,b9,c2,I,z⟩:=hrel;obtain⟨⟨m,d⟩,t⟩:∃q,Hid (zo C.L s'=q):=⟨_,zA rfl⟩;have a8:=zA (show Calls prog 71 #[.pointer (some ⟨C.g,0,none⟩)] wr (zXZ C (m,d) wr) by have:=zD9 z.P;rwa[t.out]at this);have B:=zA (show Eat C.L s' d by have:=zA8 o.out z.P.hi;rwa[t.out]at this);go_wp2_with fail;refine z.kS2 a8.out fun w8 F8=>?_;go_wp2_with fail;refine F8.named0 _ m fun T F9=>?_;have a1:=F9.bt 3 58 rfl;obtain⟨be,a2⟩:=jx (onP C.L [61] d);have D:=zA a2;clear a2;go_wp2_with fail;refine a1.kM (zA1 a1.P [61] D.out) fun c3 a3=>?_
   go_upto_if 15 with(fail)
   go_cut [16] (fun _ wx=>∃(l:List Tr) (e:Ps) (Ad:Option Addr) (nd J lo:Nat),Hid ((if onP C.L [61] d=true then(trN 7 m [(zE C.L .assign (zB d)).1],(zE C.L .assign (zB d)).2)else(trN 7 m [],d))=(trN 7 m l,e))∧Hid (Adv C.L d e)∧Fr C (w.heap.size≤·) w [(T.heap.size),(w1.heap.size),X] [.bx X 58 [.int .i64 0,.string ⟨#[]⟩,.slice none 0 0,.int .i64 0,.int .i64 0,.bool false,.slice none 0 0,.slice none 0 0,.slice none 0 0],.bx (w1.heap.size) 58 [.int .i64 k,.string ⟨#[]⟩,.slice none 0 0,.int .i64 0,.int .i64 0,.bool false,.slice none 0 0,.slice none 0 0,.slice A n cp],.rn lo (.slice A n cp) j,.bx (T.heap.size) 58 [.int .i64 7,.string ⟨m.toArray⟩,.slice none 0 0,.int .i64 0,.int .i64 0,.bool false,.slice none 0 0,.slice none 0 0,.slice Ad nd J],.tn lo (trN 7 m l) [.int .i64 7,.string ⟨m.toArray⟩,.slice none 0 0,.int .i64 0,.int .i64 0,.bool false,.slice none 0 0,.slice none 0 0,.slice Ad nd J]] e wx)
   case first=>
    cases be with
    | true=>
     have u:=(show Fr _ _ _ _ _ (zB d) _ from a3);have a0:=zA (o.out.on B.out.adv.hi D.out);have a9:s.k < (zB d).k:=by have:=B.out.adv.le;have:(zB d).k=d.k+1:=rfl;omega
     have b0:=zA (fun Q=>u.dr.kRX 2 rfl (Q:=Q) (HK.out.more (q:=.assign) ⟨u.dr.P.hi,trivial⟩ u.dr.P a9));have:=u.c 4;go_wp2_with fail;go_region_law (first | (go_simp;go_at_call 106;(with_reducible refine b0.out _ fun rq a4 wa d0 d1 d2 d3 d4 d5 d6 d7 d8 Fa=>?_);have:=Fa.c 4;have:=(Fa.al (.cells #[d0,d1,d2,d3,d4,d5,d6,d7,d8] 58)).c 4) | (refine Fa.snoc0 5 7 m rfl rfl _ _ rfl rfl rfl fun M v wb Fb=>?_;have:=Fb.c 4;have:=Fb.f 4))
     all_goals
      have Fc:=Fb.set 4 8 (.slice M 1 v);go_wp2_with fail;go_meet;exact⟨[rq.1],rq.2,M,1,v,_,zA (by rw[if_pos D.out,a4.out]),zA ((zAO a0.out).trans (by have:=(zd o.out (p:=.assign) (s:=zB d) ⟨u.P.hi,trivial⟩).adv;rwa[a4.out]at this)),Fc.pk3 [(T.heap.size),(w1.heap.size),X] [0,1,2,4,6] js jd rfl js js js⟩
    | false=>
     have b1:=(show Fr _ _ _ _ _ (d) _ from a3);go_wp2_with fail;go_meet;exact⟨[],d,none,0,0,_,zA (if_neg (by rw[D.out];decide)),zA (Adv.refl B.out.adv.hi),((b1.nar 2 rfl).leafM 7 m).pk3 [(T.heap.size),(w1.heap.size),X] [0,1,2,4,5] js jd rfl js js js⟩
   case rest=>
    obtain⟨l,e,Ad,nd,J,lo,N,a5,U⟩:=hcut;obtain⟨we,rfl⟩:∃x,x=wc:=⟨_,rfl⟩;have:=U.c 3;have:=U.c 1;have b2:n≤4097:=by have:=U.P.cx.n;have:=z.P.hi;omega
    go_wp2_with (at_builtin;refine U.snocL 2 4 rfl rfl (fun _ h=>h) b2 rfl _ _ rfl rfl rfl fun M v w3 Ff=>?_;have:=Ff.c 1;have:=Ff.f 1);have V:=Ff.set 1 8 (.slice M (n+1) v);have c4:=a5.out.le;have c5:=B.out.adv.le
    by_cases hb:e.bad=0
    · have O:=zA (show(e.bad==0)=true by rw[hb];rfl);have E:=zA hb;clear hb;go_wp2_with fail;refine V.kB (zBd V.P O.out) fun c6 F=>?_
      by_cases y:onP C.L [44] e=true
      · have R:=zA y;have b3:=zA (o.out.on a5.out.hi y);clear y;go_wp2_with fail;refine F.kM (zBY F.P [44] R.out) fun c7 b4=>?_;have b5:=zA (show zE C.L (.declL k (j++[trN 7 m l])) (zB e)=r from Eq.trans (Eq.symm (by
         rw[zS o.out (p:=.declL k j) (s:=s') ⟨z.P.hi,trivial⟩];unfold zD;dsimp only;rw[t.out];dsimp only;rw[N.out];dsimp only;rw[if_neg (by rw[E.out];simp),if_pos R.out])) I.out)
        have c8:(zB e).k=e.k+1:=rfl;have c0:=b3.out;go_wp2_with fail
        go_roundg (C.L.length - (zB e).k)
        case measure=>omega
        case rel=>exact⟨_,_,M,n+1,v,yAC _,by omega,by omega,b5,b4.pk [(w1.heap.size),X] [0,1,2] js jd rfl js js⟩
      · have R:=zA (show onP C.L [44] e=false by simpa using y);clear y;go_wp2_with fail;refine F.kM (zBc F.P [44] R.out) fun c9 G=>?_;have:=G.c 1;have:=G.c 0;have:=G.f 0;go_wp2_with fail;have b6:=G.rowK 2 rfl k;exact b6.fin 0 5 rfl (I.out.symm.trans (by
         rw[zS o.out (p:=.declL k j) ⟨z.P.hi,trivial⟩];unfold zD;dsimp only;rw[t.out];dsimp only;rw[N.out];dsimp only;rw[if_neg (by rw[E.out];simp),if_neg (by rw[R.out];decide)]))
    · have O:=zA (show(e.bad==0)=false by rw[yA];exact hb);have E:=zA hb;clear hb;go_wp2_with fail;refine V.kB (zBd V.P O.out) fun d9 H=>?_;have:=H.c 1;have:=H.c 0;have:=H.f 0;go_wp2_with fail;have b7:=H.rowK 2 rfl k;exact b7.fin 0 5 rfl (I.out.symm.trans (by
       rw[zS o.out (p:=.declL k j) ⟨z.P.hi,trivial⟩];unfold zD;dsimp only;rw[t.out];dsimp only;rw[N.out];dsimp only;rw[if_pos E.out]))
theorem zL8 {t:Tok} (h:t.kind=0) (w:List UInt8):isT t w=false:=by
 cases hh:isT t w with
 | false=>rfl
 | true=>exact absurd h (zFu hh)
theorem zT5 {w:World} {P Q:Nat→Prop} {R n:Nat} {l:List Tr} (hb:Bx w R 58 cs) (h:TrsC w Q l cs) (k:l.length=n) (o:n≤4097) (d:∀b,Q b→b < w.heap.size→P b) (f:¬Q R) (g:P R):RowP w P (.slice (some ⟨R,0,none⟩) n n) l:=by
 subst k;refine⟨cs,fun b=>Q b∧b < w.heap.size,⟨h.len,.inr ⟨R,l.length,cs.toArray,rfl,yAE _,hb,yAC _,by unfold maxLen;omega,by simp[h.len],by rw[←h.len];simp⟩⟩,?_,.sub (fun b j m=>⟨j,m⟩) _ _ h,?_,fun b c=>⟨d b c.1 c.2,c.2⟩⟩
 · intro b e;simp only[Value.ownBlock,Option.some.injEq]at e;subst e;exact g
 · intro b e c;simp only[Value.ownBlock,Option.some.injEq]at e;subst e;exact f c.1
structure PutR (C:Pc) (s:Ps) (w W:World) (R:Nat) (cs:List Value) (V:World):Prop where
 box:Bx V R 58 cs
 pa:Pa C s V
 grown:w.grownBy V (some C.g)
 from_:W.grownBy V (some R)
theorem zL9 {w:World} {R:Nat} {v0 v1 v2 v3 v4 v5 v6 v7 v8:Value}:w.grownBy (((((((((w.setCell ⟨R,9,none⟩ v0).setCell ⟨R,10,none⟩ v1).setCell ⟨R,11,none⟩ v2).setCell ⟨R,12,none⟩ v3).setCell ⟨R,13,none⟩ v4).setCell ⟨R,14,none⟩ v5).setCell ⟨R,15,none⟩ v6).setCell ⟨R,16,none⟩ v7).setCell ⟨R,17,none⟩ v8) (some R):=by
 exact(zC (zC (zC (zC (zC (zC (zC (zC (zQ _ _ _ _) (zQ _ _ _ _)) (zQ _ _ _ _)) (zQ _ _ _ _)) (zQ _ _ _ _)) (zQ _ _ _ _)) (zQ _ _ _ _)) (zQ _ _ _ _)) (zQ _ _ _ _))
theorem zT6 {C:Pc} {s:Ps} {w W:World} {R:Nat} {p0 p1 p2 p3 p4 p5 p6 p7 p8 q0 q1 q2 q3 q4 q5 q6 q7 q8 r0 r1 r2 r3 r4 r5 r6 r7 r8 v0 v1 v2 v3 v4 v5 v6 v7 v8:Value} (hB:Bx W R 58 [p0,p1,p2,p3,p4,p5,p6,p7,p8,q0,q1,q2,q3,q4,q5,q6,q7,q8,r0,r1,r2,r3,r4,r5,r6,r7,r8]) (c:w.heap.size≤R) (j:C.g < R) (d:Pa C s W) (f:w.grownBy W (some C.g)):
 PutR C s w W R [p0,p1,p2,p3,p4,p5,p6,p7,p8,v0,v1,v2,v3,v4,v5,v6,v7,v8,r0,r1,r2,r3,r4,r5,r6,r7,r8] (((((((((W.setCell ⟨R,9,none⟩ v0).setCell ⟨R,10,none⟩ v1).setCell ⟨R,11,none⟩ v2).setCell ⟨R,12,none⟩ v3).setCell ⟨R,13,none⟩ v4).setCell ⟨R,14,none⟩ v5).setCell ⟨R,15,none⟩ v6).setCell ⟨R,16,none⟩ v7).setCell ⟨R,17,none⟩ v8):=by
 have hg:=zL9 (w:=W) (R:=R) (v0:=v0) (v1:=v1) (v2:=v2) (v3:=v3) (v4:=v4) (v5:=v5) (v6:=v6) (v7:=v7) (v8:=v8);exact⟨(((((((((hB.set 9 v0).set 10 v1).set 11 v2).set 12 v3).set 13 v4).set 14 v5).set 15 v6).set 16 v7).set 17 v8),d.grown hg (fun b e=>by injection e with e;omega),zCF f c hg,hg⟩
theorem zMA {w:World} {R:Nat} {v0 v1 v2 v3 v4 v5 v6 v7 v8:Value}:w.grownBy (((((((((w.setCell ⟨R,18,none⟩ v0).setCell ⟨R,19,none⟩ v1).setCell ⟨R,20,none⟩ v2).setCell ⟨R,21,none⟩ v3).setCell ⟨R,22,none⟩ v4).setCell ⟨R,23,none⟩ v5).setCell ⟨R,24,none⟩ v6).setCell ⟨R,25,none⟩ v7).setCell ⟨R,26,none⟩ v8) (some R):=by
 exact(zC (zC (zC (zC (zC (zC (zC (zC (zQ _ _ _ _) (zQ _ _ _ _)) (zQ _ _ _ _)) (zQ _ _ _ _)) (zQ _ _ _ _)) (zQ _ _ _ _)) (zQ _ _ _ _)) (zQ _ _ _ _)) (zQ _ _ _ _))
theorem zT7 {C:Pc} {s:Ps} {w W:World} {R:Nat} {p0 p1 p2 p3 p4 p5 p6 p7 p8 q0 q1 q2 q3 q4 q5 q6 q7 q8 r0 r1 r2 r3 r4 r5 r6 r7 r8 v0 v1 v2 v3 v4 v5 v6 v7 v8:Value} (hB:Bx W R 58 [p0,p1,p2,p3,p4,p5,p6,p7,p8,q0,q1,q2,q3,q4,q5,q6,q7,q8,r0,r1,r2,r3,r4,r5,r6,r7,r8]) (c:w.heap.size≤R) (j:C.g < R) (d:Pa C s W) (f:w.grownBy W (some C.g)):
 PutR C s w W R [p0,p1,p2,p3,p4,p5,p6,p7,p8,q0,q1,q2,q3,q4,q5,q6,q7,q8,v0,v1,v2,v3,v4,v5,v6,v7,v8] (((((((((W.setCell ⟨R,18,none⟩ v0).setCell ⟨R,19,none⟩ v1).setCell ⟨R,20,none⟩ v2).setCell ⟨R,21,none⟩ v3).setCell ⟨R,22,none⟩ v4).setCell ⟨R,23,none⟩ v5).setCell ⟨R,24,none⟩ v6).setCell ⟨R,25,none⟩ v7).setCell ⟨R,26,none⟩ v8):=by
 have hg:=zMA (w:=W) (R:=R) (v0:=v0) (v1:=v1) (v2:=v2) (v3:=v3) (v4:=v4) (v5:=v5) (v6:=v6) (v7:=v7) (v8:=v8);exact⟨(((((((((hB.set 18 v0).set 19 v1).set 20 v2).set 21 v3).set 22 v4).set 23 v5).set 24 v6).set 25 v7).set 26 v8),d.grown hg (fun b e=>by injection e with e;omega),zCF f c hg,hg⟩
theorem Bx.mid1 {w:World} {R:Nat} {T:TypeId} {p0 p1 p2 p3 p4 p5 p6 p7 p8 q0 q1 q2 q3 q4 q5 q6 q7 q8 r0 r1 r2 r3 r4 r5 r6 r7 r8:Value} (h:Bx w R T [p0,p1,p2,p3,p4,p5,p6,p7,p8,q0,q1,q2,q3,q4,q5,q6,q7,q8,r0,r1,r2,r3,r4,r5,r6,r7,r8]):w.cell? ⟨R,9,none⟩=some q0∧w.cell? ⟨R,10,none⟩=some q1∧w.cell? ⟨R,11,none⟩=some q2∧w.cell? ⟨R,12,none⟩=some q3∧w.cell? ⟨R,13,none⟩=some q4∧w.cell? ⟨R,14,none⟩=some q5∧w.cell? ⟨R,15,none⟩=some q6∧w.cell? ⟨R,16,none⟩=some q7∧w.cell? ⟨R,17,none⟩=some q8:=⟨h.cell 9,h.cell 10,h.cell 11,h.cell 12,h.cell 13,h.cell 14,h.cell 15,h.cell 16,h.cell 17⟩
theorem Bx.midF1 {w:World} {R:Nat} {T:TypeId} (h:Bx w R T cs):w.frozen? ⟨R,9,none⟩=false∧w.frozen? ⟨R,10,none⟩=false∧w.frozen? ⟨R,11,none⟩=false∧w.frozen? ⟨R,12,none⟩=false∧w.frozen? ⟨R,13,none⟩=false∧w.frozen? ⟨R,14,none⟩=false∧w.frozen? ⟨R,15,none⟩=false∧w.frozen? ⟨R,16,none⟩=false∧w.frozen? ⟨R,17,none⟩=false:=⟨h.frozen 9,h.frozen 10,h.frozen 11,h.frozen 12,h.frozen 13,h.frozen 14,h.frozen 15,h.frozen 16,h.frozen 17⟩
theorem Bx.mid2 {w:World} {R:Nat} {T:TypeId} {p0 p1 p2 p3 p4 p5 p6 p7 p8 q0 q1 q2 q3 q4 q5 q6 q7 q8 r0 r1 r2 r3 r4 r5 r6 r7 r8:Value} (h:Bx w R T [p0,p1,p2,p3,p4,p5,p6,p7,p8,q0,q1,q2,q3,q4,q5,q6,q7,q8,r0,r1,r2,r3,r4,r5,r6,r7,r8]):w.cell? ⟨R,18,none⟩=some r0∧w.cell? ⟨R,19,none⟩=some r1∧w.cell? ⟨R,20,none⟩=some r2∧w.cell? ⟨R,21,none⟩=some r3∧w.cell? ⟨R,22,none⟩=some r4∧w.cell? ⟨R,23,none⟩=some r5∧w.cell? ⟨R,24,none⟩=some r6∧w.cell? ⟨R,25,none⟩=some r7∧w.cell? ⟨R,26,none⟩=some r8:=⟨h.cell 18,h.cell 19,h.cell 20,h.cell 21,h.cell 22,h.cell 23,h.cell 24,h.cell 25,h.cell 26⟩
theorem Bx.midF2 {w:World} {R:Nat} {T:TypeId} (h:Bx w R T cs):w.frozen? ⟨R,18,none⟩=false∧w.frozen? ⟨R,19,none⟩=false∧w.frozen? ⟨R,20,none⟩=false∧w.frozen? ⟨R,21,none⟩=false∧w.frozen? ⟨R,22,none⟩=false∧w.frozen? ⟨R,23,none⟩=false∧w.frozen? ⟨R,24,none⟩=false∧w.frozen? ⟨R,25,none⟩=false∧w.frozen? ⟨R,26,none⟩=false:=⟨h.frozen 18,h.frozen 19,h.frozen 20,h.frozen 21,h.frozen 22,h.frozen 23,h.frozen 24,h.frozen 25,h.frozen 26⟩
section
variable {C:Pc} {B:Nat→Prop} {a:World} {D:List Nat} {os:List Ob} {s s':Ps} {w w':World} {t1 t2 t3:Tr} {p0 p1 p2 p3 p4 p5 p6 p7 p8 q0 q1 q2 q3 q4 q5 q6 q7 q8 r0 r1 r2 r3 r4 r5 r6 r7 r8 v0 v1 v2 v3 v4 v5 v6 v7 v8:Value} {R:Nat} {T:TypeId}
theorem Fr.box3 (F:Fr C B a D os s w) (i j m:Nat) (_b:os[i]? =some (.tr t1 [p0,p1,p2,p3,p4,p5,p6,p7,p8]):=by rfl) (_h2:os[j]? =some (.tr t2 [q0,q1,q2,q3,q4,q5,q6,q7,q8]):=by rfl) (_h3:os[m]? =some (.tr t3 [r0,r1,r2,r3,r4,r5,r6,r7,r8]):=by rfl):Fr C B a (w.heap.size::D) (os++[.bx w.heap.size 58 [p0,p1,p2,p3,p4,p5,p6,p7,p8,q0,q1,q2,q3,q4,q5,q6,q7,q8,r0,r1,r2,r3,r4,r5,r6,r7,r8]]) s (w.alloc (.cells #[p0,p1,p2,p3,p4,p5,p6,p7,p8,q0,q1,q2,q3,q4,q5,q6,q7,q8,r0,r1,r2,r3,r4,r5,r6,r7,r8] 58)):=F.box [p0,p1,p2,p3,p4,p5,p6,p7,p8,q0,q1,q2,q3,q4,q5,q6,q7,q8,r0,r1,r2,r3,r4,r5,r6,r7,r8] 58 rfl jd jd
theorem Fr.put1 (F:Fr C B a D os s w) (i j:Nat) {x:Ob} (hi:os[i]? =some (.bx R 58 [p0,p1,p2,p3,p4,p5,p6,p7,p8,q0,q1,q2,q3,q4,q5,q6,q7,q8,r0,r1,r2,r3,r4,r5,r6,r7,r8]):=by rfl) (_hj:os[j]? =some x:=by rfl) (_hc:x.cells=[v0,v1,v2,v3,v4,v5,v6,v7,v8]:=by rfl):Fr C B a D (os.set i (.bx R 58 [p0,p1,p2,p3,p4,p5,p6,p7,p8,v0,v1,v2,v3,v4,v5,v6,v7,v8,r0,r1,r2,r3,r4,r5,r6,r7,r8])) s (((((((((w.setCell ⟨R,9,none⟩ v0).setCell ⟨R,10,none⟩ v1).setCell ⟨R,11,none⟩ v2).setCell ⟨R,12,none⟩ v3).setCell ⟨R,13,none⟩ v4).setCell ⟨R,14,none⟩ v5).setCell ⟨R,15,none⟩ v6).setCell ⟨R,16,none⟩ v7).setCell ⟨R,17,none⟩ v8):=
 .mk (F.out.setAt hi zL9 (zT6 (F.b i hi) (F.out.ds R (F.out.ob i _ hi).2.1).1 (yAA F.out.lt (F.out.ds R (F.out.ob i _ hi).2.1).1) F.P F.out.gr).box)
theorem Fr.put2 (F:Fr C B a D os s w) (i j:Nat) {x:Ob} (hi:os[i]? =some (.bx R 58 [p0,p1,p2,p3,p4,p5,p6,p7,p8,q0,q1,q2,q3,q4,q5,q6,q7,q8,r0,r1,r2,r3,r4,r5,r6,r7,r8]):=by rfl) (_hj:os[j]? =some x:=by rfl) (_hc:x.cells=[v0,v1,v2,v3,v4,v5,v6,v7,v8]:=by rfl):Fr C B a D (os.set i (.bx R 58 [p0,p1,p2,p3,p4,p5,p6,p7,p8,q0,q1,q2,q3,q4,q5,q6,q7,q8,v0,v1,v2,v3,v4,v5,v6,v7,v8])) s (((((((((w.setCell ⟨R,18,none⟩ v0).setCell ⟨R,19,none⟩ v1).setCell ⟨R,20,none⟩ v2).setCell ⟨R,21,none⟩ v3).setCell ⟨R,22,none⟩ v4).setCell ⟨R,23,none⟩ v5).setCell ⟨R,24,none⟩ v6).setCell ⟨R,25,none⟩ v7).setCell ⟨R,26,none⟩ v8):=
 .mk (F.out.setAt hi zMA (zT7 (F.b i hi) (F.out.ds R (F.out.ob i _ hi).2.1).1 (yAA F.out.lt (F.out.ds R (F.out.ob i _ hi).2.1).1) F.P F.out.gr).box)
theorem Fr.m1 (F:Fr C B a D os s w) (i:Nat) (h:os[i]? =some (.bx R T [p0,p1,p2,p3,p4,p5,p6,p7,p8,q0,q1,q2,q3,q4,q5,q6,q7,q8,r0,r1,r2,r3,r4,r5,r6,r7,r8]):=by rfl):w.cell? ⟨R,9,none⟩=some q0∧w.cell? ⟨R,10,none⟩=some q1∧w.cell? ⟨R,11,none⟩=some q2∧w.cell? ⟨R,12,none⟩=some q3∧w.cell? ⟨R,13,none⟩=some q4∧w.cell? ⟨R,14,none⟩=some q5∧w.cell? ⟨R,15,none⟩=some q6∧w.cell? ⟨R,16,none⟩=some q7∧w.cell? ⟨R,17,none⟩=some q8:=(F.b i h).mid1
theorem Fr.g1 (F:Fr C B a D os s w) (i:Nat) (h:os[i]? =some (.bx R T cs):=by rfl):w.frozen? ⟨R,9,none⟩=false∧w.frozen? ⟨R,10,none⟩=false∧w.frozen? ⟨R,11,none⟩=false∧w.frozen? ⟨R,12,none⟩=false∧w.frozen? ⟨R,13,none⟩=false∧w.frozen? ⟨R,14,none⟩=false∧w.frozen? ⟨R,15,none⟩=false∧w.frozen? ⟨R,16,none⟩=false∧w.frozen? ⟨R,17,none⟩=false:=(F.b i h).midF1
theorem Fr.m2 (F:Fr C B a D os s w) (i:Nat) (h:os[i]? =some (.bx R T [p0,p1,p2,p3,p4,p5,p6,p7,p8,q0,q1,q2,q3,q4,q5,q6,q7,q8,r0,r1,r2,r3,r4,r5,r6,r7,r8]):=by rfl):w.cell? ⟨R,18,none⟩=some r0∧w.cell? ⟨R,19,none⟩=some r1∧w.cell? ⟨R,20,none⟩=some r2∧w.cell? ⟨R,21,none⟩=some r3∧w.cell? ⟨R,22,none⟩=some r4∧w.cell? ⟨R,23,none⟩=some r5∧w.cell? ⟨R,24,none⟩=some r6∧w.cell? ⟨R,25,none⟩=some r7∧w.cell? ⟨R,26,none⟩=some r8:=(F.b i h).mid2
theorem Fr.g2 (F:Fr C B a D os s w) (i:Nat) (h:os[i]? =some (.bx R T cs):=by rfl):w.frozen? ⟨R,18,none⟩=false∧w.frozen? ⟨R,19,none⟩=false∧w.frozen? ⟨R,20,none⟩=false∧w.frozen? ⟨R,21,none⟩=false∧w.frozen? ⟨R,22,none⟩=false∧w.frozen? ⟨R,23,none⟩=false∧w.frozen? ⟨R,24,none⟩=false∧w.frozen? ⟨R,25,none⟩=false∧w.frozen? ⟨R,26,none⟩=false:=(F.b i h).midF2
theorem Fr.wide (F:Fr C B a D os s w) (j:Nat) {lo:Nat} {t:Tr} (b:os[j]? =some (.tn lo t cs)):Fr C B a D (os.set j (.tr t cs)) s w:=.mk (F.out.rep b rfl rfl (TrC.sub (fun _ hb _=>hb.1) _ _ (F.out.ob j _ b).1))
theorem Fr.pk4 (F:Fr C B a D os s w) (E:List Nat) (l:List Nat) (c:∀b∈E,b∈D) (d:l.Nodup) {r0 r1 r2 r3:Nat} (e:(pkL os l).filterMap Ob.blk=[r0,r1,r2,r3]) (f:r0∈E) (h1:r1∈E) (g:r2∈E) (j:r3∈E):Fr C B a E (pkL os l) s w:=F.pkc E l c d fun R h=>by
 rw[e]at h;rcases List.mem_cons.1 h with rfl | h
 · assumption
 rcases List.mem_cons.1 h with rfl | h
 · assumption
 rcases List.mem_cons.1 h with rfl | h
 · assumption
 · rw[List.mem_singleton.1 h];assumption
theorem Fr.ret3 {A:Act} {kk:Int} (F:Fr C B a D os s w) (i j m n:Nat) (hi:os[i]? =some (.bx R 58 [p0,p1,p2,p3,p4,p5,p6,p7,p8,q0,q1,q2,q3,q4,q5,q6,q7,q8,r0,r1,r2,r3,r4,r5,r6,r7,r8])) (h1:os[j]? =some (.tr t1 [p0,p1,p2,p3,p4,p5,p6,p7,p8])) (f:os[m]? =some (.tr t2 [q0,q1,q2,q3,q4,q5,q6,q7,q8])) (g:os[n]? =some (.tr t3 [r0,r1,r2,r3,r4,r5,r6,r7,r8]))
 (k:(results fn A.tmps).run Pg w=.ok (.agg #[.int .i64 kk,.string ⟨#[]⟩,.slice none 0 0,.int .i64 0,.int .i64 0,.bool false,.slice none 0 0,.slice none 0 0,.slice (some ⟨R,0,none⟩) 3 3]) w) (o:A.defers=[]) (e:p=(trK kk [t1,t2,t3],s)) (hB:∀b,B b→a.heap.size≤b):bodyPost Pg fn (zDU C p a) .ret A w:=by
 subst e;have d:=(F.out.ob i _ hi).2.1;have c:=zT5 (P:=(a.heap.size≤·)) (Q:=Off B D) (l:=[t1,t2,t3]) (n:=3) (F.b i hi) (F.ts3 j m n h1 f g) rfl jd (fun b hb _=>hB b hb.1) (fun h=>h.2 d) (F.out.ds R d).1;exact bodyPost_ret k o ⟨_,_,_,_,_,_,_,_,_,rfl,(show TrC _ _ _ _ from c.treeK),F.P,F.out.gr⟩
end
theorem zQt {C:Pc} {s:Ps} {w:World} (hp:Pre C.L (.tries) s) (K:KP C (zj C.L (.tries) s)) (h:Pa C s w) (hc:onP C.L [99,97,116,99,104] (zE C.L .block (zB s)).2=true) (hq:onP C.L [40] (zB (zE C.L .block (zB s)).2)=true):zp C s w (.tries):=by
 refine zBH hp h fun G c4 c5 r W X HR hW hX F0=>?_;have HK:=zA K;have a1:=zA hp.2;clear K h hp;go_enter func140,ntmps140;go_upto_region 1 with(fail);clear hW hX;obtain⟨c6,c7,c8⟩:=F0.k1;have F1:=F0.step a1.out;have b1:=zA (zd G.out (p:=.block) (s:=zB s) ⟨a1.out,trivial⟩).adv;go_wp2_with fail;refine F1.kX (HK.out.more (q:=.block) ⟨F1.P.hi,trivial⟩ F1.P (yAF s.k)) fun H b0 w2 g j l m o t u v y A=>?_;have:=A.sto 1;obtain⟨b,N⟩:=jx H.2;have B:=zA (show zE C.L .block (zB s)=(H.1,b) by rw[b0.out,←N]);have F3:=A;rw[N]at F3;have b2:=zA (show Adv C.L (zB s) b by have:=b1.out;rwa[B.out]at this);have c9:s.k < b.k:=by have:=b2.out.le;have:(zB s).k=s.k+1:=rfl;omega
 have O:=zA (show onP C.L [99,97,116,99,104] b=true by rw[B.out]at hc;exact hc);clear hc N;have HQ:=zA (show onP C.L [40] (zB b)=true by rw[B.out]at hq;exact hq);clear hq;go_wp2_with fail;refine F3.made0 _ fun w4 F4=>?_;go_wp2_with fail;refine F4.made0 _ fun z F5=>?_;have F6:=F5.box3 1 2 3;go_wp2_with fail;refine F6.kQ (zAv _ _ _ _) fun J F7=>?_;have F8:=F7.box [.int .i64 16,.string ⟨#[]⟩,.slice none 0 0,.int .i64 0,.int .i64 0,.bool false,.slice none 0 0,.slice none 0 0,.slice (some ⟨z.heap.size,0,none⟩) 3 3] 58 rfl jd jd;go_wp2_with fail;refine F8.kB (zAl F8.P [99,97,116,99,104] O.out) fun w9 F9=>?_;have b3:=zA (G.out.on F9.P.hi O.out);have d9:(zB b).k=b.k+1:=rfl;go_wp2_with fail;refine F9.kM (zBY F9.P [99,97,116,99,104] O.out) fun e0 b4=>?_;go_wp2_with fail;refine b4.made0 _ fun R b5=>?_;have a2:=b5.bt 6 58 rfl;have b6:=zA (G.out.on (s:=zB b) b3.out HQ.out);go_wp2_with fail;refine a2.kM (zBY a2.P [40] HQ.out) fun e1 a3=>?_;have a4:=zA (zA8 G.out (s:=zB (zB (b))) b6.out).adv;have b7:=zA (zc (w:=[41]) G.out a4.out.hi).adv;have b8:s.k < (zP C.L [41] ((zo C.L (zB (zB (b)))).2)).k:=by have h1:=a4.out.le;have h2:=b7.out.le;have:(zB (zB (b))).k=b.k+1+1:=rfl;omega
 go_wp2_with fail;refine a3.kS (zD9 a3.P) fun e2 S=>?_;have:=S.c 7;have:=S.f 7;have a5:=S.set 7 1 (.string ⟨((zo C.L (zB (zB (b)))).1).toArray⟩);go_wp2_with fail;refine a5.kN (zAK a5.P [41]) fun e3 b9=>?_;have D:=b9.nil;have c0:=zA (fun Q=>D.dr.kRX 8 rfl (Q:=Q) (HK.out.more (q:=.block) ⟨D.dr.P.hi,trivial⟩ D.dr.P b8));have:=D.c 7;go_upto_region 10 with(fail)
 go_cut [39] (fun _ wx=>∃(d:Tr×Ps) (T:Option Addr) (E lo:Nat),Hid (zE C.L .block (zP C.L [41] ((zo C.L (zB (zB (b)))).2))=d)∧Fr C (w.heap.size≤·) w [(R.heap.size),(J.heap.size),(z.heap.size),X] [.bx X 58 [.int .i64 0,.string ⟨#[]⟩,.slice none 0 0,.int .i64 0,.int .i64 0,.bool false,.slice none 0 0,.slice none 0 0,.slice none 0 0],.bx (z.heap.size) 58 [g,j,l,m,o,t,u,v,y,.int .i64 11,.string ⟨#[]⟩,.slice none 0 0,.int .i64 0,.int .i64 0,.bool false,.slice none 0 0,.slice none 0 0,.slice none 0 0,.int .i64 11,.string ⟨#[]⟩,.slice none 0 0,.int .i64 0,.int .i64 0,.bool false,.slice none 0 0,.slice none 0 0,.slice none 0 0],.bx (J.heap.size) 58 [.int .i64 16,.string ⟨#[]⟩,.slice none 0 0,.int .i64 0,.int .i64 0,.bool false,.slice none 0 0,.slice none 0 0,.slice (some ⟨z.heap.size,0,none⟩) 3 3],.bx (R.heap.size) 58 [.int .i64 17,.string ⟨((zo C.L (zB (zB (b)))).1).toArray⟩,.slice none 0 0,.int .i64 0,.int .i64 0,.bool false,.slice none 0 0,.slice none 0 0,.slice T 1 E],.tr (H.1) [g,j,l,m,o,t,u,v,y],.tr (trK 11 []) [.int .i64 11,.string ⟨#[]⟩,.slice none 0 0,.int .i64 0,.int .i64 0,.bool false,.slice none 0 0,.slice none 0 0,.slice none 0 0],.tn lo (trN 17 ((zo C.L (zB (zB (b)))).1) [d.1]) [.int .i64 17,.string ⟨((zo C.L (zB (zB (b)))).1).toArray⟩,.slice none 0 0,.int .i64 0,.int .i64 0,.bool false,.slice none 0 0,.slice none 0 0,.slice T 1 E]] d.2 wx)
 case first=>
  go_region_law (first | (go_simp;go_at_call 111;(with_reducible refine c0.out _ fun d F wa d0 d1 d2 d3 d4 d5 d6 d7 d8 Fa=>?_);have:=Fa.c 7;have:=(Fa.al (.cells #[d0,d1,d2,d3,d4,d5,d6,d7,d8] 58)).c 7) | (refine Fa.snoc0 9 17 ((zo C.L (zB (zB (b)))).1) rfl rfl _ _ rfl rfl rfl fun A3 a6 wb Fb=>?_;have:=Fb.c 7;have:=Fb.f 7))
  all_goals
   have Fc:=Fb.set 7 8 (.slice A3 1 a6);go_wp2_with fail;go_meet;exact⟨d,A3,a6,_,F,Fc.pk4 [(R.heap.size),(J.heap.size),(z.heap.size),X] [0,4,5,7,1,3,10] js jd rfl js js js js⟩
 case rest=>
  obtain⟨d,T,E,lo,F,c1⟩:=hcut;obtain⟨wh,rfl⟩:∃x,x=wc:=⟨_,rfl⟩;have U:=c1.wide 6 rfl;have c2:=zA (show Adv C.L (zP C.L [41] ((zo C.L (zB (zB (b)))).2)) d.2 by have:=(zd G.out (p:=.block) (s:=zP C.L [41] ((zo C.L (zB (zB (b)))).2)) ⟨D.P.hi,trivial⟩).adv;rwa[F.out]at this);have e4:s.k < d.2.k:=by have:=c2.out.le;omega
  have:=U.c 3;have:=U.c 2;have:=U.m1 1;have:=U.g1 1;go_upto_region 12 with(fail);refine zEg (U.put1 1 6) fun wi V=>?_;obtain⟨bf,a7⟩:=jx (onP C.L [102,105,110,97,108,108,121] d.2);have Y:=zA a7;clear a7;cases bf with
  | false=>
   go_wp2_with fail;refine V.kM (zBc V.P [102,105,110,97,108,108,121] Y.out) fun e5 I=>?_;have:=I.c 2;have:=I.c 0;have:=I.f 0;go_wp2_with fail;refine zCe (I.put 0 2) fun e6 a8=>?_;have q:=a8.c 0;exact a8.ret3 (kk:=16) 1 4 6 5 rfl rfl rfl rfl (by simp[results,results140,go_sem,q]) rfl (HR.out.symm.trans (by
    unfold zD;dsimp only;simp[B.out,O.out,HQ.out,F.out,Y.out])) (fun _ h=>h)
  | true=>
   have e7:=zA (G.out.on V.P.hi Y.out);have e8:(zB d.2).k=d.2.k+1:=rfl;go_wp2_with fail;refine V.kM (zBY V.P [102,105,110,97,108,108,121] Y.out) fun e9 e=>?_;have c3:=zA (fun Q=>e.dr.kX (Q:=Q) (HK.out.more (q:=.block) ⟨e.dr.P.hi,trivial⟩ e.dr.P jo));have:=e.c 2;have:=e.m2 1;have:=e.g2 1;go_upto_region 13 with(fail)
   go_cut [52] (fun _ wx=>∃(M:Tr×Ps) (d0 d1 d2 d3 d4 d5 d6 d7 d8:Value),Hid (zE C.L .block (zB (d.2))=M)∧Fr C (w.heap.size≤·) w [(J.heap.size),(z.heap.size),X] [.bx X 58 [.int .i64 0,.string ⟨#[]⟩,.slice none 0 0,.int .i64 0,.int .i64 0,.bool false,.slice none 0 0,.slice none 0 0,.slice none 0 0],.bx (z.heap.size) 58 [g,j,l,m,o,t,u,v,y,.int .i64 17,.string ⟨((zo C.L (zB (zB (b)))).1).toArray⟩,.slice none 0 0,.int .i64 0,.int .i64 0,.bool false,.slice none 0 0,.slice none 0 0,.slice T 1 E,d0,d1,d2,d3,d4,d5,d6,d7,d8],.bx (J.heap.size) 58 [.int .i64 16,.string ⟨#[]⟩,.slice none 0 0,.int .i64 0,.int .i64 0,.bool false,.slice none 0 0,.slice none 0 0,.slice (some ⟨z.heap.size,0,none⟩) 3 3],.tr (H.1) [g,j,l,m,o,t,u,v,y],.tr (trN 17 ((zo C.L (zB (zB (b)))).1) [d.1]) [.int .i64 17,.string ⟨((zo C.L (zB (zB (b)))).1).toArray⟩,.slice none 0 0,.int .i64 0,.int .i64 0,.bool false,.slice none 0 0,.slice none 0 0,.slice T 1 E],.tr M.1 [d0,d1,d2,d3,d4,d5,d6,d7,d8]] M.2 wx)
   case first=>
    go_region_law (go_simp;go_at_call 111;(with_reducible refine c3.out _ fun M a0 w2 d0 d1 d2 d3 d4 d5 d6 d7 d8 A=>?_);have:=A.c 2;have:=A.m2 1;have:=A.g2 1;have:=A.sto 7)
    all_goals
     go_wp2_with fail;go_meet;exact⟨M,d0,d1,d2,d3,d4,d5,d6,d7,d8,a0,(A.put2 1 7).pk3 [(J.heap.size),(z.heap.size),X] [0,1,2,4,6,7] js jd rfl js js js⟩
   case rest=>
    obtain⟨M,d0,d1,d2,d3,d4,d5,d6,d7,d8,a0,Fz⟩:=hcut;obtain⟨wz,rfl⟩:∃x,x=wc:=⟨_,rfl⟩;have:=Fz.c 2;have:=Fz.c 0;have:=Fz.f 0;go_wp2_with fail;refine zCe (Fz.put 0 2) fun f0 a9=>?_;have q:=a9.c 0;exact a9.ret3 (kk:=16) 1 3 4 5 rfl rfl rfl rfl (by simp[results,results140,go_sem,q]) rfl (HR.out.symm.trans (by
     unfold zD;dsimp only;simp[B.out,O.out,HQ.out,F.out,Y.out,a0.out])) (fun _ h=>h)
theorem zT8 {C:Pc} {s:Ps} {w:World} (hp:Pre C.L (.tries) s) (K:KP C (zj C.L (.tries) s)) (h:Pa C s w) (hc:onP C.L [99,97,116,99,104] (zE C.L .block (zB s)).2=true) (hq:onP C.L [40] (zB (zE C.L .block (zB s)).2)=false):zp C s w (.tries):=by
 refine zBH hp h fun Y b7 b8 r W X HR hW hX F0=>?_;have HK:=zA K;have a0:=zA hp.2;clear K h hp;go_enter func140,ntmps140;go_upto_region 1 with(fail);clear hW hX;obtain⟨b9,c0,c1⟩:=F0.k1;have F1:=F0.step a0.out;have a7:=zA (zd Y.out (p:=.block) (s:=zB s) ⟨a0.out,trivial⟩).adv;go_wp2_with fail;refine F1.kX (HK.out.more (q:=.block) ⟨F1.P.hi,trivial⟩ F1.P (yAF s.k)) fun G a6 w2 g j l m o t u v y A=>?_;have:=A.sto 1;obtain⟨d,M⟩:=jx G.2;have B:=zA (show zE C.L .block (zB s)=(G.1,d) by rw[a6.out,←M]);have F3:=A;rw[M]at F3;have a8:=zA (show Adv C.L (zB s) d by have:=a7.out;rwa[B.out]at this);have c2:s.k < d.k:=by have:=a8.out.le;have:(zB s).k=s.k+1:=rfl;omega
 have N:=zA (show onP C.L [99,97,116,99,104] d=true by rw[B.out]at hc;exact hc);clear hc M;have HQ:=zA (show onP C.L [40] (zB d)=false by rw[B.out]at hq;exact hq);clear hq;go_wp2_with fail;refine F3.made0 _ fun w4 F4=>?_;go_wp2_with fail;refine F4.made0 _ fun z F5=>?_;have F6:=F5.box3 1 2 3;go_wp2_with fail;refine F6.kQ (zAv _ _ _ _) fun I F7=>?_;have F8:=F7.box [.int .i64 16,.string ⟨#[]⟩,.slice none 0 0,.int .i64 0,.int .i64 0,.bool false,.slice none 0 0,.slice none 0 0,.slice (some ⟨z.heap.size,0,none⟩) 3 3] 58 rfl jd jd;go_wp2_with fail;refine F8.kB (zAl F8.P [99,97,116,99,104] N.out) fun w9 F9=>?_;have c3:=zA (Y.out.on F9.P.hi N.out);have c4:(zB d).k=d.k+1:=rfl;go_wp2_with fail;refine F9.kM (zBY F9.P [99,97,116,99,104] N.out) fun c5 a9=>?_;go_wp2_with fail;refine a9.made0 _ fun O b0=>?_;have a1:=b0.bt 6 58 rfl;go_wp2_with fail;refine a1.kM (zBc a1.P [40] HQ.out) fun c6 b1=>?_;have b2:s.k < (zB (d)).k:=by omega
 have D:=b1.nil;have b3:=zA (fun Q=>D.dr.kRX 8 rfl (Q:=Q) (HK.out.more (q:=.block) ⟨D.dr.P.hi,trivial⟩ D.dr.P b2));have:=D.c 7;go_upto_region 10 with(fail)
 go_cut [39] (fun _ wx=>∃(b:Tr×Ps) (R:Option Addr) (E lo:Nat),Hid (zE C.L .block (zB (d))=b)∧Fr C (w.heap.size≤·) w [(O.heap.size),(I.heap.size),(z.heap.size),X] [.bx X 58 [.int .i64 0,.string ⟨#[]⟩,.slice none 0 0,.int .i64 0,.int .i64 0,.bool false,.slice none 0 0,.slice none 0 0,.slice none 0 0],.bx (z.heap.size) 58 [g,j,l,m,o,t,u,v,y,.int .i64 11,.string ⟨#[]⟩,.slice none 0 0,.int .i64 0,.int .i64 0,.bool false,.slice none 0 0,.slice none 0 0,.slice none 0 0,.int .i64 11,.string ⟨#[]⟩,.slice none 0 0,.int .i64 0,.int .i64 0,.bool false,.slice none 0 0,.slice none 0 0,.slice none 0 0],.bx (I.heap.size) 58 [.int .i64 16,.string ⟨#[]⟩,.slice none 0 0,.int .i64 0,.int .i64 0,.bool false,.slice none 0 0,.slice none 0 0,.slice (some ⟨z.heap.size,0,none⟩) 3 3],.bx (O.heap.size) 58 [.int .i64 17,.string ⟨([]).toArray⟩,.slice none 0 0,.int .i64 0,.int .i64 0,.bool false,.slice none 0 0,.slice none 0 0,.slice R 1 E],.tr (G.1) [g,j,l,m,o,t,u,v,y],.tr (trK 11 []) [.int .i64 11,.string ⟨#[]⟩,.slice none 0 0,.int .i64 0,.int .i64 0,.bool false,.slice none 0 0,.slice none 0 0,.slice none 0 0],.tn lo (trN 17 ([]) [b.1]) [.int .i64 17,.string ⟨([]).toArray⟩,.slice none 0 0,.int .i64 0,.int .i64 0,.bool false,.slice none 0 0,.slice none 0 0,.slice R 1 E]] b.2 wx)
 case first=>
  go_region_law (first | (go_simp;go_at_call 111;(with_reducible refine b3.out _ fun b F wa d0 d1 d2 d3 d4 d5 d6 d7 d8 Fa=>?_);have:=Fa.c 7;have:=(Fa.al (.cells #[d0,d1,d2,d3,d4,d5,d6,d7,d8] 58)).c 7) | (refine Fa.snoc0 9 17 ([]) rfl rfl _ _ rfl rfl rfl fun A3 a2 wb Fb=>?_;have:=Fb.c 7;have:=Fb.f 7))
  all_goals
   have Fc:=Fb.set 7 8 (.slice A3 1 a2);go_wp2_with fail;go_meet;exact⟨b,A3,a2,_,F,Fc.pk4 [(O.heap.size),(I.heap.size),(z.heap.size),X] [0,4,5,7,1,3,10] js jd rfl js js js js⟩
 case rest=>
  obtain⟨b,R,E,lo,F,b4⟩:=hcut;obtain⟨wh,rfl⟩:∃x,x=wc:=⟨_,rfl⟩;have S:=b4.wide 6 rfl;have b5:=zA (show Adv C.L (zB (d)) b.2 by have:=(zd Y.out (p:=.block) (s:=zB (d)) ⟨D.P.hi,trivial⟩).adv;rwa[F.out]at this);have c7:s.k < b.2.k:=by have:=b5.out.le;omega
  have:=S.c 3;have:=S.c 2;have:=S.m1 1;have:=S.g1 1;go_upto_region 12 with(fail);refine zEg (S.put1 1 6) fun wi T=>?_;obtain⟨bf,a3⟩:=jx (onP C.L [102,105,110,97,108,108,121] b.2);have U:=zA a3;clear a3;cases bf with
  | false=>
   go_wp2_with fail;refine T.kM (zBc T.P [102,105,110,97,108,108,121] U.out) fun c8 H=>?_;have:=H.c 2;have:=H.c 0;have:=H.f 0;go_wp2_with fail;refine zCe (H.put 0 2) fun c9 a4=>?_;have q:=a4.c 0;exact a4.ret3 (kk:=16) 1 4 6 5 rfl rfl rfl rfl (by simp[results,results140,go_sem,q]) rfl (HR.out.symm.trans (by
    unfold zD;dsimp only;simp[B.out,N.out,HQ.out,F.out,U.out])) (fun _ h=>h)
  | true=>
   have d9:=zA (Y.out.on T.P.hi U.out);have e0:(zB b.2).k=b.2.k+1:=rfl;go_wp2_with fail;refine T.kM (zBY T.P [102,105,110,97,108,108,121] U.out) fun e1 e=>?_;have b6:=zA (fun Q=>e.dr.kX (Q:=Q) (HK.out.more (q:=.block) ⟨e.dr.P.hi,trivial⟩ e.dr.P jo));have:=e.c 2;have:=e.m2 1;have:=e.g2 1;go_upto_region 13 with(fail)
   go_cut [52] (fun _ wx=>∃(J:Tr×Ps) (d0 d1 d2 d3 d4 d5 d6 d7 d8:Value),Hid (zE C.L .block (zB (b.2))=J)∧Fr C (w.heap.size≤·) w [(I.heap.size),(z.heap.size),X] [.bx X 58 [.int .i64 0,.string ⟨#[]⟩,.slice none 0 0,.int .i64 0,.int .i64 0,.bool false,.slice none 0 0,.slice none 0 0,.slice none 0 0],.bx (z.heap.size) 58 [g,j,l,m,o,t,u,v,y,.int .i64 17,.string ⟨([]).toArray⟩,.slice none 0 0,.int .i64 0,.int .i64 0,.bool false,.slice none 0 0,.slice none 0 0,.slice R 1 E,d0,d1,d2,d3,d4,d5,d6,d7,d8],.bx (I.heap.size) 58 [.int .i64 16,.string ⟨#[]⟩,.slice none 0 0,.int .i64 0,.int .i64 0,.bool false,.slice none 0 0,.slice none 0 0,.slice (some ⟨z.heap.size,0,none⟩) 3 3],.tr (G.1) [g,j,l,m,o,t,u,v,y],.tr (trN 17 ([]) [b.1]) [.int .i64 17,.string ⟨([]).toArray⟩,.slice none 0 0,.int .i64 0,.int .i64 0,.bool false,.slice none 0 0,.slice none 0 0,.slice R 1 E],.tr J.1 [d0,d1,d2,d3,d4,d5,d6,d7,d8]] J.2 wx)
   case first=>
    go_region_law (go_simp;go_at_call 111;(with_reducible refine b6.out _ fun J V w2 d0 d1 d2 d3 d4 d5 d6 d7 d8 A=>?_);have:=A.c 2;have:=A.m2 1;have:=A.g2 1;have:=A.sto 7)
    all_goals
     go_wp2_with fail;go_meet;exact⟨J,d0,d1,d2,d3,d4,d5,d6,d7,d8,V,(A.put2 1 7).pk3 [(I.heap.size),(z.heap.size),X] [0,1,2,4,6,7] js jd rfl js js js⟩
   case rest=>
    obtain⟨J,d0,d1,d2,d3,d4,d5,d6,d7,d8,V,Fz⟩:=hcut;obtain⟨wz,rfl⟩:∃x,x=wc:=⟨_,rfl⟩;have:=Fz.c 2;have:=Fz.c 0;have:=Fz.f 0;go_wp2_with fail;refine zCe (Fz.put 0 2) fun e2 a5=>?_;have q:=a5.c 0;exact a5.ret3 (kk:=16) 1 3 4 5 rfl rfl rfl rfl (by simp[results,results140,go_sem,q]) rfl (HR.out.symm.trans (by
     unfold zD;dsimp only;simp[B.out,N.out,HQ.out,F.out,U.out,V.out])) (fun _ h=>h)
theorem zWI {C:Pc} {s:Ps} {w:World} (N:Pre C.L (.tries) s) (K:KP C (zj C.L (.tries) s)) (h:Pa C s w) (O:onP C.L [99,97,116,99,104] (zE C.L .block (zB s)).2=false) (R:onP C.L [102,105,110,97,108,108,121] (zE C.L .block (zB s)).2=true):zp C s w (.tries):=by
 refine zBH N h fun Y a3 a4 r W X HR hW hX F0=>?_;have HK:=zA K;have I:=zA N.2;clear K h N;go_enter func140,ntmps140;go_upto_region 1 with(fail);clear hW hX;obtain⟨a5,a6,a7⟩:=F0.k1;have S:=F0.step I.out;have a0:=zA (zd Y.out (p:=.block) (s:=zB s) ⟨I.out,trivial⟩).adv;go_wp2_with fail;refine S.kX (HK.out.more (q:=.block) ⟨S.P.hi,trivial⟩ S.P (yAF s.k)) fun l T w2 m o t u v y z A B d=>?_;have:=d.sto 1;obtain⟨e,D⟩:=jx l.2;have g:=zA (show zE C.L .block (zB s)=(l.1,e) by rw[T.out,←D]);have F3:=d;rw[D]at F3;have a1:=zA (show Adv C.L (zB s) e by have:=a0.out;rwa[g.out]at this);have a8:s.k < e.k:=by have:=a1.out.le;have:(zB s).k=s.k+1:=rfl;omega
 have U:=zA (show onP C.L [99,97,116,99,104] e=false by rw[g.out]at O;exact O);clear O D;have H:=zA (show onP C.L [102,105,110,97,108,108,121] e=true by rw[g.out]at R;exact R);clear R;go_wp2_with fail;refine F3.made0 _ fun w4 F4=>?_;go_wp2_with fail;refine F4.made0 _ fun E F5=>?_;have F6:=F5.box3 1 2 3;go_wp2_with fail;refine F6.kQ (zAv _ _ _ _) fun V F7=>?_;have F8:=F7.box [.int .i64 16,.string ⟨#[]⟩,.slice none 0 0,.int .i64 0,.int .i64 0,.bool false,.slice none 0 0,.slice none 0 0,.slice (some ⟨E.heap.size,0,none⟩) 3 3] 58 rfl jd jd;go_wp2_with fail;refine F8.kB (zAl F8.P [99,97,116,99,104] U.out) fun w9 F9=>?_;go_wp2_with fail;refine F9.kB (zAl F9.P [102,105,110,97,108,108,121] H.out) fun a9 J=>?_;go_wp2_with fail;refine J.kM (zBc J.P [99,97,116,99,104] U.out) fun b0 F=>?_;have b1:=zA (Y.out.on F.P.hi H.out);go_wp2_with fail;refine F.kM (zBY F.P [102,105,110,97,108,108,121] H.out) fun b2 b=>?_;have b3:(zB e).k=e.k+1:=rfl;have a2:=zA (fun Q=>b.dr.kX (Q:=Q) (HK.out.more (q:=.block) ⟨b.dr.P.hi,trivial⟩ b.dr.P jo));have:=b.c 5;have:=b.m2 4;have:=b.g2 4;go_upto_region 13 with(fail)
 go_cut [52] (fun _ wx=>∃(j:Tr×Ps) (d0 d1 d2 d3 d4 d5 d6 d7 d8:Value),Hid (zE C.L .block (zB (e))=j)∧Fr C (w.heap.size≤·) w [(V.heap.size),(E.heap.size),X] [.bx X 58 [.int .i64 0,.string ⟨#[]⟩,.slice none 0 0,.int .i64 0,.int .i64 0,.bool false,.slice none 0 0,.slice none 0 0,.slice none 0 0],.bx (E.heap.size) 58 [m,o,t,u,v,y,z,A,B,.int .i64 11,.string ⟨#[]⟩,.slice none 0 0,.int .i64 0,.int .i64 0,.bool false,.slice none 0 0,.slice none 0 0,.slice none 0 0,d0,d1,d2,d3,d4,d5,d6,d7,d8],.bx (V.heap.size) 58 [.int .i64 16,.string ⟨#[]⟩,.slice none 0 0,.int .i64 0,.int .i64 0,.bool false,.slice none 0 0,.slice none 0 0,.slice (some ⟨E.heap.size,0,none⟩) 3 3],.tr (l.1) [m,o,t,u,v,y,z,A,B],.tr (trK 11 []) [.int .i64 11,.string ⟨#[]⟩,.slice none 0 0,.int .i64 0,.int .i64 0,.bool false,.slice none 0 0,.slice none 0 0,.slice none 0 0],.tr j.1 [d0,d1,d2,d3,d4,d5,d6,d7,d8]] j.2 wx)
 case first=>
  go_region_law (go_simp;go_at_call 111;(with_reducible refine a2.out _ fun j G w2 d0 d1 d2 d3 d4 d5 d6 d7 d8 d=>?_);have:=d.c 5;have:=d.m2 4;have:=d.g2 4;have:=d.sto 6)
  all_goals
   go_wp2_with fail;go_meet;exact⟨j,d0,d1,d2,d3,d4,d5,d6,d7,d8,G,(d.put2 4 6).pk3 [(V.heap.size),(E.heap.size),X] [0,4,5,1,2,6] js jd rfl js js js⟩
 case rest=>
  obtain⟨j,d0,d1,d2,d3,d4,d5,d6,d7,d8,G,Fz⟩:=hcut;obtain⟨wz,rfl⟩:∃x,x=wc:=⟨_,rfl⟩;have:=Fz.c 2;have:=Fz.c 0;have:=Fz.f 0;go_wp2_with fail;refine zCe (Fz.put 0 2) fun b4 M=>?_;have q:=M.c 0;exact M.ret3 (kk:=16) 1 3 4 5 rfl rfl rfl rfl (by simp[results,results140,go_sem,q]) rfl (HR.out.symm.trans (by
   unfold zD;dsimp only;simp[g.out,U.out,H.out,G.out])) (fun _ h=>h)
theorem zT9 {C:Pc} {s:Ps} {w:World} (z:Pre C.L (.tries) s) (K:KP C (zj C.L (.tries) s)) (h:Pa C s w) (A:onP C.L [99,97,116,99,104] (zE C.L .block (zB s)).2=false) (B:onP C.L [102,105,110,97,108,108,121] (zE C.L .block (zB s)).2=false):zp C s w (.tries):=by
 refine zBH z h fun F T a9 r W X U V Y G=>?_;have HK:=zA K;have j:=zA z.2;clear K h z;go_enter func140,ntmps140;go_upto_region 1 with(fail);clear V Y;obtain⟨b0,b1,b2⟩:=G.k1;have D:=G.step j.out;have H:=zA (zd F.out (p:=.block) (s:=zB s) ⟨j.out,trivial⟩).adv;go_wp2_with fail;refine D.kX (HK.out.more (q:=.block) ⟨D.P.hi,trivial⟩ D.P (yAF s.k)) fun l E w2 a0 a1 a2 a3 a4 a5 a6 a7 a8 I=>?_;have:=I.sto 1;obtain⟨b,g⟩:=jx l.2;have d:=zA (show zE C.L .block (zB s)=(l.1,b) by rw[E.out,←g]);have J:=I;rw[g]at J;have M:=zA (show Adv C.L (zB s) b by have:=H.out;rwa[d.out]at this);have b3:s.k < b.k:=by have:=M.out.le;have:(zB s).k=s.k+1:=rfl;omega
 have N:=zA (show onP C.L [99,97,116,99,104] b=false by rw[d.out]at A;exact A);clear A g;have O:=zA (show onP C.L [102,105,110,97,108,108,121] b=false by rw[d.out]at B;exact B);clear B;go_wp2_with fail;refine J.made0 _ fun w4 F4=>?_;go_wp2_with fail;refine F4.made0 _ fun w5 F5=>?_;have F6:=F5.box3 1 2 3;go_wp2_with fail;refine F6.kQ (zAv _ _ _ _) fun w7 F7=>?_;have Q:=F7.box [.int .i64 16,.string ⟨#[]⟩,.slice none 0 0,.int .i64 0,.int .i64 0,.bool false,.slice none 0 0,.slice none 0 0,.slice (some ⟨w5.heap.size,0,none⟩) 3 3] 58 rfl jd jd;go_wp2_with fail;refine Q.kB (zAl Q.P [99,97,116,99,104] N.out) fun w9 R=>?_;go_wp2_with fail;refine R.kB (zAl R.P [102,105,110,97,108,108,121] O.out) fun b4 m=>?_;go_wp2_with fail;refine m.kN (zAN m.P) fun b5 o=>?_;have S:=zA (show(zI C.L (ze C.L (b)).k).kind=0 from F.out.last);have t:=zA (show onP C.L [99,97,116,99,104] (ze C.L (b))=false from zL8 S.out _);have u:=zA (show onP C.L [102,105,110,97,108,108,121] (ze C.L (b))=false from zL8 S.out _);go_wp2_with fail;refine o.kM (zBc o.P [99,97,116,99,104] t.out) fun b6 v=>?_;go_wp2_with fail;refine v.kM (zBc v.P [102,105,110,97,108,108,121] u.out) fun b7 e=>?_;have:=e.c 5;have:=e.c 0;have:=e.f 0;go_wp2_with fail;refine zCe (e.put 0 5) fun b8 y=>?_;have q:=y.c 0;exact y.ret3 (kk:=16) 4 1 2 3 rfl rfl rfl rfl (by simp[results,results140,go_sem,q]) rfl (U.out.symm.trans (by
  unfold zD;dsimp only;simp[d.out,N.out,O.out,t.out,u.out])) (fun _ h=>h)
theorem zWJ {C:Pc} {s:Ps} {w:World} (b:Pre C.L .tries s) (K:KP C (zj C.L .tries s)) (h:Pa C s w):zp C s w .tries:=by
 cases hc:onP C.L [99,97,116,99,104] (zE C.L .block (zB s)).2 with
 | true=>
  cases hq:onP C.L [40] (zB (zE C.L .block (zB s)).2)with
  | true=>exact zQt b K h hc hq
  | false=>exact zT8 b K h hc hq
 | false=>
  cases hf:onP C.L [102,105,110,97,108,108,121] (zE C.L .block (zB s)).2 with
  | true=>exact zWI b K h hc hf
  | false=>exact zT9 b K h hc hf
set_option linter.unusedVariables false
structure TG (t:Tok):Prop where
 name:t.kind=1→zBn t.text=true
 word:t.kind=6→zF9 t.text=true
 num:t.kind=2→t.nk=0∧0≤t.nn∧t.nn≤9007199254740991
 big:t.kind=3→zBN false t.mag=true
 str:t.kind=4→t.str.length≤4096
 len:t.text.length≤4096
def TL (L:List Tok):Prop:=∀i,TG (zI L i)
end Go.Proofs.YtlnbbaehihgigaaGreatDoor
