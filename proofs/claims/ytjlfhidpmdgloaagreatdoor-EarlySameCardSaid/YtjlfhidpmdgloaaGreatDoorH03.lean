/- Joined for the claim EarlySame: the parser, the lexer and the trees as they are walked, made short by a program of mine. -/
import Derived.Test.YtjlfhidpmdgloaaGreatDoorH02
import Derived.OwnWalk
import Derived.Laws.OwnMore
import Derived.Test.YtjlfhidpmdgloaaGreatDoorH01
import Derived.Deep.RegionHeld3
import Derived.Deep.CutBlock
import Derived.Deep.DeepCutAuto
import Derived.Deep.LoopGhost
set_option maxHeartbeats 16000000
set_option maxRecDepth 1000000
namespace Go.Proofs.YtjlfhidpmdgloaaGreatDoor
open Go.Proofs.Tryz
open Go.RowKit
variable {ts:List Nd} {w W wr w':World} {n B k c N j Y m g X:Nat} {q:Bool} {b ks:List Int} {A:jQ} {d:List Nat} {x:Nd} {l xs:List jE} {p:Int→Bool} {v:Value} {s:NdSl} {a:Int}
def zaj (s:jE) (xs:List jE) (w:World) (e:Ending) (w':World):Prop:=∃r:Int,e=.returned r∧w=w'∧decide (0≤r)=decide (s∈xs)∧ -1≤r∧r≤33554432
theorem zWM (s:ByteArray) (o:xs.length=n) (p:Reads w B 1 A n (zBk xs)) (E:n≤33554432):
 Calls prog 131 #[.slice A n c,.string s] w (zaj s.data.toList xs w):=by
 have q:=zA o;have D:=zA p;clear o p;go_enter func131,ntmps131;go_wp2_with fail
 go_loop [8] (fun i=>∃k:Nat,k≤n∧i=.int .i64 k∧Hid (s.data.toList∉xs.take k)) (fun i=>n - (intOf i).toNat)
 case atStart=>exact⟨0,yAE _,rfl,by simp[Hid]⟩
 case round=>
  obtain⟨k,hk,rfl,j⟩:=hrel
  by_cases r:k < n
  · have g:k < xs.length:=by rw[q.out];exact r
    obtain⟨b,off,rfl,_,e⟩:=D.out.spotR jo;have f:=e k (.string ⟨xs[k].toArray⟩) (by simp[zBk,yAB g]);have t:=zA (show xs[k]∈xs from yAZ g);have u:=zA (show xs.take (k+1)=xs.take k++[xs[k]]from yAK g);obtain⟨x,l⟩:=jx (xs[k]);rw[l]at f t u;clear e l g
    by_cases d:x=s.data.toList
    · have v:(⟨x.toArray⟩:ByteArray)=s:=by rw[d]
      have m:=zA (show decide (s.data.toList∈xs)=true from yBE (by rw[←d];exact t.out));rw[v]at f;clear d v;go_wp2_with fail
      (try rw[Exit.noGoto_ret])
      go_ret;exact⟨_,rfl,rfl,by rw[m.out];exact yBE jo,by omega,by omega⟩
    · have e1:((⟨x.toArray⟩:ByteArray).toList==s.toList)=false:=by
       rw[yA,ByteArray.toList_eq,ByteArray.toList_eq];exact d
      have e2:(s.toList==(⟨x.toArray⟩:ByteArray).toList)=false:=by
       rw[yA,ByteArray.toList_eq,ByteArray.toList_eq];exact fun h=>d h.symm
      have z:=zA (show s.data.toList∉xs.take (k+1) by
       rw[u.out,yBQ,yBT];rintro(h | h)
       · exact j.out h
       · exact d h.symm)
      obtain⟨y,C⟩:∃y:ByteArray,⟨x.toArray⟩=y:=⟨_,rfl⟩;rw[C]at f e1 e2;clear d C;go_wp2_with fail;go_round
      case rel=>exact⟨k+1,by omega,by go_num,z⟩
      case measure=>simp[intOf];omega
  · have m:=zA (show decide (s.data.toList∈xs)=false from yAI (by
     have:=j.out;rwa [yB (by rw[q.out];omega)]at this))
    go_wp2_with fail;go_ret;exact⟨_,rfl,rfl,by rw[m.out];rfl,by omega,by omega⟩
theorem zPU (s:ByteArray) (d:xs.length=n) (b:Reads w B 1 A n (zBk xs)) (g:n≤33554432) (f:decide (s.data.toList∈xs)=q):
 Calls prog 83 #[.slice A n c,.string s] w fun e w'=>e=.returned q∧w=w':=by
 have H:=zA (fun w (b:Reads w B 1 A n (zBk xs))=>zWM (c:=c) s d b g);have j:=zA b;have k:=zA f;clear d b f;go_enter func83,ntmps83;go_wp2_with (go_at_call 131;refine(H.out w j.out).mono ?_;rintro e w' ⟨r,rfl,rfl,l,m,o⟩);go_ret;exact⟨zF (by rw[←k.out,←l]),rfl⟩
theorem zL3 {b o:Nat} (c:∀i v,(zBk l)[i]? =some v→w.cell? ⟨b,o+i,none⟩=some v) {q:Nat} (d:q < l.length):w.cell? ⟨b,o+q,none⟩=some (.string ⟨l[q].toArray⟩):=
 c q _ (by simp[zBk,yAB d])
theorem Reads.takeS (h:Reads w B 1 A n (zBk xs)) (hk:k≤n):Reads w B 1 A k (zBk (xs.take k)):=by
 have h1:=h.take hk;rw[Nat.mul_one]at h1;unfold zBk at h1⊢;rw[List.map_take];exact h1
theorem zWN (v:l.length=n) (h:Reads w B 1 A n (zBk l)) (J:n≤c) (L:n≤33554432):
 Calls prog 35 #[.slice A n c] w fun e w'=>e=.returned (twN l)∧w=w':=by
 have y:=zA v;have z:=zA h;clear v h;go_enter func35,ntmps35;go_wp2_with fail
 go_loop [7] (fun i=>∃q:Nat,q≤n∧i=.int .i64 (q:Int)∧Hid (twN l=zY3 (l.take q) (l.drop q))) (fun i=>n - (intOf i).toNat)
 case atStart=>exact⟨0,yAE _,rfl,rfl⟩
 case round=>
  obtain⟨q,M,rfl,j⟩:=hrel
  by_cases C:q < n
  · have f:q < l.length:=by rw[y.out];exact C
    obtain⟨b,o,rfl,_,g⟩:=z.out.spotR jo;have D:=zL3 g f;have d:=j.out;rw[yAH f,zY3,←yAK f]at d;have E:=zA (z.out.takeS (k:=q) jo);have s:(l.take q).length=q:=by rw[yBK];omega
    obtain⟨m,p⟩:∃m:ByteArray,(⟨l[q].toArray⟩:ByteArray)=m:=⟨_,rfl⟩;have t:m.data.toList=l[q]:=by rw[←p]
    rw[p]at D;rw[←t]at d;obtain⟨u,r⟩:=jx (decide (m.data.toList∈l.take q));rw[r]at d;have F:=zA d;have G:=zA (zPU (c:=c) (w:=w) m s E jo r);have I:(q:Int)≤(c:Int):=by omega
    clear g f d s p t r j;go_wp2_with fail;refine G.out.mono ?_;rintro e2 w2 ⟨rfl,rfl⟩;cases u with
    | true=>
     go_wp2_with fail;go_ret;exact⟨zF (by rw[F.out];rfl),rfl⟩
    | false=>
     go_wp2_with fail;go_round
     case rel=>exact⟨q+1,by omega,by go_num,by have:=F.out;rwa[Bool.false_or]at this⟩
     case measure=>simp[intOf];omega
  · obtain rfl:q=n:=by omega
    have H:=zA (show twN l=false by
     have:=j.out;rw[yCA (by rw[y.out];exact yAC _)]at this;exact this)
    go_wp2_with fail;go_ret;exact⟨zF H.out.symm,rfl⟩
theorem zWO (b:l.length=n) (h:Reads w B 1 A n (zBk l)) (d:n≤33554432) (g:w.cell? Y=some (.slice A n c)) (s:jE):
 Calls prog 85 #[s,.pointer (some Y)] w fun e w'=>e=.returned (decide (s∈l))∧w=w':=by
 have f:=zA (zPU (c:=c) (w:=w) ⟨s.toArray⟩ b h d rfl);clear b h;go_enter func85,ntmps85;go_wp2_with fail;refine f.out.mono ?_;rintro e2 w2 ⟨rfl,rfl⟩;go_wp2_with fail;go_ret;exact⟨rfl,rfl⟩
theorem zak {p:jE→Bool} (u:l.length=n) (h:Reads w B 1 A n (zBk l)) (J:n≤33554432) (v:∀s∈l,Calls prog 85 #[s,.pointer (some Y)] w fun e w'=>e=.returned (p s)∧w=w'):
 Calls prog 132 #[.slice A n c,.func (.func 85) #[] #[.pointer (some Y)]] w fun e w'=>∃r:Int,e=.returned r∧w=w'∧decide (0≤r)=l.any p:=by
 have y:=zA u;have G:=zA h;have H:=zA v;clear u h v;go_enter func132,ntmps132;go_wp2_with fail
 go_loop [8] (fun i=>∃q:Nat,q≤n∧i=.int .i64 (q:Int)∧Hid (l.any p=(l.drop q).any p)) (fun i=>n - (intOf i).toNat)
 case atStart=>exact⟨0,yAE _,rfl,rfl⟩
 case round=>
  obtain⟨q,L,rfl,j⟩:=hrel
  by_cases C:q < n
  · have f:q < l.length:=by rw[y.out];exact C
    obtain⟨b,o,rfl,_,g⟩:=G.out.spotR jo;have D:=zL3 g f;have d:=j.out;rw[yAH f,List.any_cons]at d;have m:=zA (H.out l[q] (yAZ f));obtain⟨z,E⟩:=jx (l[q]);rw[E]at D d m;obtain⟨t,k⟩:=jx (p z);rw[k]at d m;have F:=zA d;clear g f d E k j;go_wp2_with fail;refine m.out.mono ?_;rintro e2 w2 ⟨rfl,rfl⟩;cases t with
    | true=>
     go_wp2_with fail;go_ret;exact⟨_,rfl,rfl,by rw[F.out,Bool.true_or];exact yBE jo⟩
    | false=>
     go_wp2_with fail;go_round
     case rel=>exact⟨q+1,by omega,by go_num,by have:=F.out;rwa[Bool.false_or]at this⟩
     case measure=>simp[intOf];omega
  · obtain rfl:q=n:=by omega
    have I:=zA (show l.any p=false by
     have:=j.out;rw[yCA (by rw[y.out];exact yAC _)]at this;exact this)
    go_wp2_with fail;go_ret;exact⟨_,rfl,rfl,by rw[I.out];rfl⟩
theorem zal {p:jE→Bool} (b:l.length=n) (h:Reads w B 1 A n (zBk l)) (g:n≤33554432) (d:∀s∈l,Calls prog 85 #[s,.pointer (some Y)] w fun e w'=>e=.returned (p s)∧w=w'):
 Calls prog 84 #[.slice A n c,.func (.func 85) #[] #[.pointer (some Y)]] w fun e w'=>e=.returned (l.any p)∧w=w':=by
 have j:=zA (zak (c:=c) b h g d);clear b h d;go_enter func84,ntmps84;go_wp2_with fail;refine j.out.mono ?_;rintro e2 w2 ⟨r,rfl,rfl,f⟩;have k:=zA f;clear f;go_wp2_with fail;go_ret;exact⟨zF (by rw[←k.out]),rfl⟩
theorem zam {l:List Int} (D:l.length=n) (hB:B≤w.heap.size) (h:Reads w B 1 A n (zBw l)) (P:n≤33554432) (E:∀s∈l,∀m,jY w m→Calls prog 39 #[s,.pointer (some X),.pointer (some Y)] m fun e w'=>e=.returned (p s)∧jY m w'):
 Calls prog 86 #[.slice A n c,.func (.func 39) #[] #[.pointer (some X),.pointer (some Y)]] w fun e w'=>∃r:Int,e=.returned r∧jY w w'∧decide (0≤r)=l.any p:=by
 have F:=zA D;have M:=zA h;have N:=zA E;have G:=zA (Below.refl w.heap.size w);clear D h E;go_enter func86,ntmps86;go_wp2_with fail
 go_loopw [8] (fun i wr=>∃q:Nat,q≤n∧i=.int .i64 (q:Int)∧Hid (l.any p=(l.drop q).any p)∧Hid (jY w wr)) (fun i _=>n - (intOf i).toNat)
 case atStart=>exact⟨0,yAE _,rfl,rfl,G⟩
 case round=>
  obtain⟨q,Q,rfl,k,d⟩:=hrel
  by_cases H:q < n
  · have g:q < l.length:=by rw[F.out];exact H
    obtain⟨b,o,rfl,_,j⟩:=(M.out.below (d.out.mono hB)).spotR jo;have I:=zL2 j g;have f:=k.out;rw[yAH g,List.any_cons]at f;have y:=zA (N.out l[q] (yAZ g) wr d);obtain⟨z,J⟩:=jx (l[q]);rw[J]at I f y;obtain⟨C,t⟩:=jx (p z);rw[t]at f y;have L:=zA f;clear j g f J t k;go_wp2_with fail;refine y.out.mono ?_;rintro e2 w2 ⟨rfl,u⟩;have v:=zA (d.out.trans (u.mono d.out.size));clear u;cases C with
    | true=>
     go_wp2_with fail;go_ret;exact⟨_,rfl,v,by rw[L.out,Bool.true_or];exact yBE jo⟩
    | false=>
     go_wp2_with fail
     go_roundw
     case rel=>exact⟨q+1,by omega,by go_num,by have:=L.out;rwa[Bool.false_or]at this,v⟩
     case measure=>simp[intOf];omega
  · obtain rfl:q=n:=by omega
    have O:=zA (show l.any p=false by
     have:=k.out;rw[yCA (by rw[F.out];exact yAC _)]at this;exact this)
    go_wp2_with fail;go_ret;exact⟨_,rfl,d,by rw[O.out];rfl⟩
theorem zan {l:List Int} (d:l.length=n) (hB:B≤w.heap.size) (h:Reads w B 1 A n (zBw l)) (j:n≤33554432) (f:∀s∈l,∀b,jY w b→Calls prog 39 #[s,.pointer (some X),.pointer (some Y)] b fun e w'=>e=.returned (p s)∧jY b w'):
 Calls prog 38 #[.slice A n c,.func (.func 39) #[] #[.pointer (some X),.pointer (some Y)]] w fun e w'=>e=.returned (l.any p)∧jY w w':=by
 have k:=zA (zam (c:=c) d hB h j f);clear d h f;go_enter func38,ntmps38;go_wp2_with fail;refine k.out.mono ?_;rintro e2 w2 ⟨r,rfl,hb,g⟩;have m:=zA g;have o:=zA hb;clear g hb;go_wp2_with fail;go_ret;exact⟨zF (by rw[←m.out]),o⟩
theorem EOk.names (h:EOk ts) (n:Int):(zA5 ts n).length≤16777216:=by
 have h1:=zF6 (zKP ts) h.blk (atN ts n).kids;have c:=zF6 (zKQ ts) h.par (atN ts n).kids;have b:=h.at_ n;have d:(atN ts n).kids.length*4096≤4096*4096:=Nat.mul_le_mul_right _ b;unfold zA5;split
 · omega
 split
 · unfold zGY;rw[List.length_map];have:=h.at_ (zO8 (atN ts n));omega
 split
 · simp
 split
 · omega
 · simp
theorem zWP {p:Int} (hN:NdsR w B A n ts) (hB:B≤w.heap.size) (hE:EOk ts) (hj:j < n) (hp:p < 0∨∃m:Nat,p=(m:Int)∧m < n):
 Calls prog 36 #[.agg #[.slice A n c],j,p] w fun e w'=>e=.returned (hiN ts (j:Int) p)∧jY w w':=by
 obtain⟨W,hW⟩:=jx (w.alloc (.cells #[.slice A n c] 24));have bW:jY w W:=jb hW;have sW:W.heap.size=w.heap.size+1:=by rw[←hW];simp
 obtain⟨X,hX⟩:=jx w.heap.size;have a0:W.cell? X=some (.slice A n c):=by rw[←hW,←hX,yBR _ _ _ _ rfl];rfl
 have b1:X < W.heap.size:=by omega
 have b2:=zA a0;have J:=zA (hN.below (bW.mono hB));have a4:B≤W.heap.size:=by omega
 have u:=zA bW;have HE:=zA hE;have CN:=zA (fun(H:World) (hb:jY W H) (m:Nat) (hm:m < n)=>zFb (c:=c) (w:=H) (J.out.below (hb.mono a4)) (yAD a4 hb.size) hE hm);clear hN hE hB bW sW;go_enter func36,ntmps36;go_upto_region 1 with(fail);clear hW hX;rcases hp with hp | ⟨m,rfl,hm⟩
 · have t:=zA (show hiN ts (j:Int) p=false by unfold hiN;rw[if_pos (.inl hp)]);have hd:decide (p < 0)=true:=yBE hp;go_wp2_with fail;go_ret;exact⟨zF t.out.symm,u⟩
 have hd:decide ((m:Int) < 0)=false:=yAI jo;have c1:¬(m:Int) < 0:=by omega
 obtain⟨b,o,x,s,rfl,c2,hx,hC,_⟩:=J.out.get hj;obtain⟨b',o',y,r,a5,b0,hy,a6,_⟩:=J.out.get hm;simp only[yCE,Addr.mk.injEq,and_true]at a5;obtain⟨rfl,rfl⟩:=a5;have b3:=hC.k0;have b4:=a6.k0;obtain⟨L,M⟩:=jx x.kind;obtain⟨d,N⟩:=jx y.kind;rw[M]at b3;rw[N]at b4;have a7:hiN ts (j:Int) (m:Int)=if(m:Int) < 0∨L≠4∨(zOi d=false∧d≠17)then false else(zA5 ts (j:Int)).any fun s=>decide (s∈zA5 ts (m:Int)):=by
  unfold hiN knK;rw[zBX hx,zBX hy,M,N]
 have HH:=zA a7;clear hx hy hC a6 M N a7 b0
 by_cases h4:L=4
 rotate_left
 · have t:=zA (show hiN ts (j:Int) (m:Int)=false by rw[HH.out,if_pos (.inr (.inl h4))]);have e4:(L !=4)=true:=by rw[yBM];exact h4
   clear h4;go_wp2_with fail;go_ret;exact⟨zF t.out.symm,u⟩
 subst h4;obtain⟨f,g⟩:=jx (zOi d);have CF:=zA (fun(H:World)=>(show Calls prog 43 #[d] H fun e w'=>e=.returned f∧H=w' by rw[←g];exact zEy d H));rw[g]at HH;clear g;have GO:∀(q:Bool),(f=true∨d=17)→hiN ts (j:Int) (m:Int)=(zA5 ts (j:Int)).any fun s=>decide (s∈zA5 ts (m:Int)):=by
  intro _ h;rw[HH.out,if_neg];rintro(h1 | h1 | ⟨h1,h2⟩)
  · omega
  · exact h1 rfl
  · rcases h with h | h
    · rw[h1]at h;cases h
    · exact h2 h
 have GO:=zA (GO true);go_wp2_with fail;refine(CF.out _).mono ?_;rintro e2 w2 ⟨rfl,rfl⟩;have CM:=zA (CN.out W (Below.refl _ _) m hm)
 by_cases k:f=true∨d=17
 rotate_left
 · have g:f=false:=by cases f with | true=>exact absurd (.inl rfl) k | false=>rfl
   have O:d≠17:=fun h=>k (.inr h);have t:=zA (show hiN ts (j:Int) (m:Int)=false by rw[HH.out,if_pos (.inr (.inr ⟨g,O⟩))]);have c5:(d !=17)=true:=by rw[yBM];exact O
   subst g;clear k O;go_wp2_with fail;go_ret;exact⟨zF t.out.symm,u⟩
 have t:=zA (GO.out k);have GG:=zA k;clear k;obtain⟨LM,P⟩:=jx (zA5 ts (m:Int));obtain⟨LJ,v⟩:=jx (zA5 ts (j:Int));have b5:LM.length≤16777216:=by rw[←P];exact HE.out.names _
 have b6:LJ.length≤16777216:=by rw[←v];exact HE.out.names _
 rw[P]at CM t;rw[v]at t;have b7:=zA v;clear P v GO CF;obtain⟨n3,Q⟩:=jx LM.length;obtain⟨n4,R⟩:=jx LJ.length;have a8:=zA Q;have a9:=zA R;rw[Q]at b5;rw[R]at b6;clear Q R;rcases(show f=true∨(f=false∧d=17) by have:=GG.out;cases f<;>simp_all)with rfl | ⟨rfl,rfl⟩
 all_goals
  go_wp2_with fail;refine CM.out.mono ?_;rintro e3 w3 ⟨v3,rfl,S⟩;obtain⟨A3,c3,rfl,c6,c7,T⟩:=MadeS.form S;have U:=S.below;rw[a8.out]at T⊢;obtain⟨I,C⟩:=jx (w3.alloc (.cells #[.slice A3 n3 c3] 36));have D:jY w3 I:=jb C;have V:I.cell? w3.heap.size=some (.slice A3 n3 c3):=jc C;have a1:w3.heap.size < I.heap.size:=by rw[←C];simp
  obtain⟨Y,hY⟩:=jx w3.heap.size;have b8:=zA ((T.below D).more D.size);have E:=zA (U.trans (D.mono U.size));have a3:=(E.out.cell (p:=X) b1).trans b2;have CJ:=zA (CN.out I E j hj);rw[hY]at V a1;have b9:=zA V;clear T S U D V CM CN;go_upto_region 4 with(fail);clear C hY;go_wp2_with fail;refine CJ.out.mono ?_;rintro e4 w4 ⟨v4,rfl,F⟩;rw[b7.out]at F;obtain⟨A4,c4,rfl,c8,c9,a2⟩:=MadeS.form F;have G:=F.below;rw[a9.out]at a2⊢;have CC:=zA (zal (c:=c4) (Y:=Y) (p:=fun s=>decide (s∈LM)) a9 a2 jo (fun s _=>zWO a8 (b8.out.below (G.mono (yAC _))) jo ((G.cell (p:=Y) a1).trans b9) s));have c0:=zA (E.out.trans (G.mono E.out.size));clear a2 F G CJ a3;go_wp2_with fail;refine CC.out.mono ?_;rintro e5 w5 ⟨rfl,rfl⟩;go_wp2_with fail;go_ret;exact⟨zF t.out.symm,u.out.trans (c0.out.mono u.out.size)⟩
theorem zPV (d:UpOk b):∀(f g n:Nat),n < b.length→n < f→n < g→zLo ts b f (n:Int)=zLo ts b g (n:Int):=by
 intro f
 induction f with
 | zero=>intro g n _ h;omega
 | succ f e=>
  intro g n j o hg;obtain⟨g,rfl⟩:∃k,g=k+1:=⟨g - 1,by omega⟩;have h1:=d.get j;rw[zLo,zLo]
  by_cases c:upA b (n:Int) < 0
  · rw[if_pos c,if_pos c]
  rw[if_neg c,if_neg c];obtain⟨m,l⟩:∃m:Nat,upA b (n:Int)=(m:Int):=⟨(upA b (n:Int)).toNat,by omega⟩;rw[l]at h1⊢;rw[e g m jo jo jo]
theorem zPW {b o:Nat} {l:List Int} (d:∀i v,(zBw l)[i]? =some v→w.cell? ⟨b,o+i,none⟩=some v) (c:n < l.length):w.cell? ⟨b,o+n,none⟩=some (.int .i64 (upA l (n:Int))):=by
 refine d n _ ?_;unfold upA;rw[yAG,Int.toNat_natCast,yAB c];simp[zBw,yAB c]
theorem zWQ {S:jQ} {cu:Nat} {d:List Int} (hN:NdsR w B A n ts) (T:Reads w B 1 S n (zBw d)) (U:d.length=n) (V:UpOk d) (hB:B≤w.heap.size) (h4:n≤4096) (hj:j < n):
 Calls prog 37 #[.agg #[.slice A n c],.slice S n cu,j] w fun e w'=>∃v,e=.returned (.tuple #[v,.int .i64 (arN ts d (j:Int)).2])∧Made w w' 3 v (zBw (arN ts d (j:Int)).1):=by
 obtain⟨W,F⟩:=jx (w.alloc (.cells #[.slice A n c] 24));have G:jY w W:=jb F;have sW:W.heap.size=w.heap.size+1:=by rw[←F];simp
 obtain⟨X,Y⟩:=jx w.heap.size;have a0:W.cell? X=some (.slice A n c):=by rw[←F,←Y,yBR _ _ _ _ rfl];rfl
 have a2:X < W.heap.size:=by omega
 have a3:=zA a0;have a4:=zA (hN.below (G.mono hB));have a5:B≤W.heap.size:=by omega
 have I:=zA G;have a6:=zA (T.below (G.mono hB));have s:=zA V;have t:=zA U;obtain⟨R,ou,rfl,b8,u⟩:=a6.out.spotR (show 0 < n by omega);have b9:=zPW u (show j < d.length by omega);have J:=zA (fun(f:World) (hb:jY W f) (m:Nat) (k:m < n)=>(show f.cell? ⟨R,ou+m,none⟩=some (.int .i64 (upA d (m:Int)))from(hb.cell (p:=⟨R,ou+m,none⟩) (show R < W.heap.size by omega)).trans (zPW u jo)));obtain⟨i0,a7,a8,a9,b0⟩:=info_parts Tryz.info_int;have M0:=zA (Made.nil W 3);clear hN T hB U V G u sW;go_enter func37,ntmps37;go_upto_region 1 with(fail);clear F Y;go_wp2_with fail
 go_loopw [2,8] (fun i v wr=>∃(p:Nat) (l:List Int),p≤j∧i=.int .i64 (upA d (p:Int))∧Hid (l.length+p≤j)∧Hid (arN ts d (j:Int)=(l++(zLo ts d (p+1) (p:Int)).1,(zLo ts d (p+1) (p:Int)).2))∧Hid (Made W wr 3 v (zBw l))) (fun i _ _=>(intOf i+1).toNat)
 case atStart=>exact⟨j,[],yAC _,rfl,by simp[Hid],by simp[Hid,arN],M0⟩
 case round=>
  obtain⟨p,l,hp,rfl,L,z,k⟩:=hrel;have b1:=s.out.get (show p < d.length by rw[t.out];omega);have b:=z.out;rw[zLo]at b
  by_cases o:upA d (p:Int) < 0
  · rw[if_pos o,yAS]at b;have q:=zA b;have b2:¬(0:Int)≤upA d (p:Int):=by omega
    clear b z;go_wp2_with fail
    go_ret2
    refine⟨u8,by rw[q.out];rfl,?_⟩;rw[q.out];exact k.out.back I
  rw[if_neg o]at b;obtain⟨m,C⟩:∃m:Nat,upA d (p:Int)=(m:Int):=⟨(upA d (p:Int)).toNat,by omega⟩;rw[C]at b b1⊢;have b3:m < p:=by omega
  have g:m < n:=by omega
  have b2:(0:Int)≤(m:Int):=by omega
  have a1:=(k.out.below.cell (p:=X) a2).trans a3;obtain⟨b',o',y,r,rfl,b7,hy,M,_⟩:=(a4.out.below (k.out.below.mono a5)).get g;have b4:=M.k0;have N:knK ts (m:Int)=y.kind:=by unfold knK;rw[zBX hy]
  rw[N]at b;obtain⟨D,O⟩:=jx y.kind;rw[O]at b4 b;obtain⟨H,E⟩:=jx (zOi D);rw[E]at b;have CF:=zA (fun(f:World)=>(show Calls prog 43 #[D] f fun e w'=>e=.returned H∧f=w' by rw[←E];exact zEy D f));have c0:=zA C;clear o C hy M N O E z;go_wp2_with fail;refine(CF.out _).mono ?_;rintro e3 w3 ⟨rfl,rfl⟩;cases H with
  | true=>
   rw[if_pos rfl,yAS]at b;have q:=zA b;clear b;go_wp2_with fail
   go_ret2
   refine⟨u8,by rw[q.out];rfl,?_⟩;rw[q.out];exact k.out.back I
  | false=>
   rw[ji,zPV s.out p (m+1) m (by rw[t.out];exact g) b3 (yAF m)]at b;have q:=zA b;have P:=J.out wr k.out.below m g;have c1:(zBw l).length≤4096:=by rw[zIC];have:=L.out;omega
   have b5:=zA (show(l++[(m:Int)]).length+m≤j by rw[yAN,yBW];have:=L.out;omega);have b6:=zA (fun(f:World) (hb:jY W f)=>J.out f hb m g);clear b CF P;go_upto_region 4 with(at_builtin;refine zIO rfl _ _ 56 rfl 3 i0 _ 8 underlying56 a7 a8 a9 b0 rfl u8 (zBw l) rfl k.out (.int .i64 (m:Int)) rfl rfl jo jo ?_;intro v7 w7 Q;have H7:=zA (show Made W w7 3 v7 (zBw (l++[(m:Int)]))from Q.cells (by simp[zBw]));clear Q);have P:=b6.out w7 H7.out.below;go_wp2_with fail
   go_roundw
   case rel=>exact⟨m,l++[(m:Int)],by omega,rfl,b5,by show _=_;rw[q.out];simp,H7⟩
   case measure=>
    have:=s.out.get (show m < d.length by rw[t.out];exact g);simp only[intOf];omega
theorem zSu (e:UpOk b):∀(f n:Nat),n < b.length→∀k∈(zLo ts b f (n:Int)).1,∃m:Nat,k=(m:Int)∧m < n:=by
 intro f
 induction f with
 | zero=>intro n _ k hk;cases hk
 | succ f g=>
  intro n j k hk;have h1:=e.get j;rw[zLo]at hk
  by_cases c:upA b (n:Int) < 0
  · rw[if_pos c]at hk;cases hk
  rw[if_neg c]at hk
  by_cases d:zOi (knK ts (upA b (n:Int)))=true
  · rw[if_pos d]at hk;cases hk
  rw[if_neg d]at hk;obtain⟨m,l⟩:∃m:Nat,upA b (n:Int)=(m:Int):=⟨(upA b (n:Int)).toNat,by omega⟩;rw[l]at hk h1;rcases yAW.1 hk with rfl | h
  · exact⟨m,rfl,by omega⟩
  · obtain⟨q,rfl,o⟩:=g m jo k h;exact⟨q,rfl,by omega⟩
theorem zSv (e:UpOk b):∀(f n:Nat),n < b.length→(zLo ts b f (n:Int)).1.length≤n:=by
 intro f
 induction f with
 | zero=>intro n _;exact yAE _
 | succ f g=>
  intro n j;have h1:=e.get j;rw[zLo]
  by_cases c:upA b (n:Int) < 0
  · rw[if_pos c];exact yAE _
  rw[if_neg c]
  by_cases d:zOi (knK ts (upA b (n:Int)))=true
  · rw[if_pos d];exact yAE _
  rw[if_neg d];obtain⟨m,k⟩:∃m:Nat,upA b (n:Int)=(m:Int):=⟨(upA b (n:Int)).toNat,by omega⟩;rw[k]at h1⊢;have:=g m jo;simp only[yAO];omega
theorem zWR (hN:NdsR w B A n ts) (L:w.cell? X=some (.slice A n c)) (D:X8 w Y x s) (H:m < n):
 Calls prog 39 #[m,.pointer (some X),.pointer (some Y)] w fun e w'=>e=.returned (knK ts (m:Int)==18&&decide (nmN ts (m:Int)=x.name))∧jY w w':=by
 obtain⟨b,o,y,r,rfl,J,E,v,_⟩:=hN.get H;have k0:=v.k0;have k1:=v.k1;obtain⟨_,p1,_,_,_,_,_,_⟩:=D.c;obtain⟨j,k⟩:=jx y.kind;obtain⟨d,l⟩:∃z:ByteArray,(⟨x.name.toArray⟩:ByteArray)=z:=⟨_,rfl⟩;obtain⟨f,p⟩:∃z:ByteArray,(⟨y.name.toArray⟩:ByteArray)=z:=⟨_,rfl⟩;have t:d.toList=x.name:=by rw[←l,ByteArray.toList_eq]
 have u:f.toList=y.name:=by rw[←p,ByteArray.toList_eq]
 have F:(knK ts (m:Int)==18&&decide (nmN ts (m:Int)=x.name))=(j==18&&decide (f.toList=d.toList)):=by
  unfold knK nmN;rw[zBX E,k,t,u]
 rw[F];rw[k]at k0;rw[p]at k1;rw[l]at p1;clear hN v E k l p t u F D
 by_cases q:j=18
 · subst q
   by_cases g:f.toList=d.toList
   · have I:(f.toList==d.toList)=true:=by rw[g,beq_self_eq_true]
     have C:=zA (show((18:Int)==18&&decide (f.toList=d.toList))=true by rw[yBE g];rfl);rw[C.out];clear g;go_enter func39,ntmps39;go_upto_region 1 with(fail)
     go_quiet (fail)
     go_wp2_with fail;go_ret;exact⟨rfl,zv (Below.refl _ _) _⟩
   · have I:(f.toList==d.toList)=false:=by rw[yA];exact g
     have C:=zA (show((18:Int)==18&&decide (f.toList=d.toList))=false by rw[yAI g];rfl);rw[C.out];clear g;go_enter func39,ntmps39;go_upto_region 1 with(fail)
     go_quiet (fail)
     go_wp2_with fail;go_ret;exact⟨rfl,zv (Below.refl _ _) _⟩
 · have G:(j==18)=false:=yA.2 q;rw[G,Bool.false_and];clear q;go_enter func39,ntmps39;go_upto_region 1 with(fail)
   go_quiet (fail)
   go_wp2_with fail;go_ret;exact⟨rfl,zv (Below.refl _ _) _⟩
theorem zBM {a b c:World} (h:jY a b) (k:jY b c):jY a c:=h.trans (k.mono h.size)
theorem zWS {Au:jQ} {cu:Nat} {t:List Int} (hN:NdsR w B A n ts) (hB:B≤w.heap.size) (hE:EOk ts) (hU:Reads w B 1 Au n (zBw t)) (hl:t.length=n) (hu:UpOk t) (hj:j < n) (U:knK ts (j:Int)=7→0 < j):
 Calls prog 21 #[.agg #[.slice A n c],.slice Au n cu,j] w fun e w'=>e=.returned (wrN ts t (j:Int))∧jY w w':=by
 obtain⟨b,o,x,⟨As,Am,Ak,cs,cm,ck⟩,rfl,e9,hx,c6,f0⟩:=hN.get hj;obtain⟨V,hV⟩:=jx (w.alloc (.cells #[.slice (some ⟨b,o,none⟩) n c] 24));obtain⟨W,hW⟩:=jx (V.alloc (.cells #[x.kind,x.name,.slice As x.str.length cs,x.nk,x.nn,x.neg,.slice Am x.mag.length cm,.slice Ak x.kids.length ck] 58));have bV:jY w V:=jb hV;have bW:jY V W:=jb hW;have sV:V.heap.size=w.heap.size+1:=by rw[←hV];simp
 have sW:W.heap.size=V.heap.size+1:=by rw[←hW];simp
 obtain⟨X,hX⟩:=jx w.heap.size;obtain⟨Y,hY⟩:=jx V.heap.size;have a0:V.cell? X=some (.slice (some ⟨b,o,none⟩) n c):=by rw[←hV,←hX,yBR _ _ _ _ rfl];rfl
 have N:X < W.heap.size:=by omega
 have a4:Y < W.heap.size:=by omega
 have f1:=zA ((bW.cell (p:=X) (show X < V.heap.size by omega)).trans a0);have c7:=zA (show X8 W Y x ⟨As,Am,Ak,cs,cm,ck⟩ by rw[←hW,←hY];exact X8.new V x ⟨As,Am,Ak,cs,cm,ck⟩);have bw:jY w W:=bV.trans (bW.mono bV.size);have O:=zA (hN.below (bw.mono hB));have c8:=zA (hU.below (bw.mono hB));have C:B≤W.heap.size:=by omega
 have c9:=zA bw;have HE:=zA hE;have d0:=zA hu;have d1:=zA hl;have H7:=zA U;have f2:n≤4096:=by rw[←hN.1];exact hE.len
 have g8:=zA hx;obtain⟨bu,ou,rfl,g9,d2⟩:=c8.out.spotR (show 0 < n by omega);have P:=zPW d2 (show j < t.length by omega);have a3:bu < W.heap.size:=by omega
 have a9:=hu.get3 (show j < t.length by omega);have C0:=(c6.below (bV.mono hB) e9);obtain⟨f3,f4,f5,f6,f7,f8,f9,g0⟩:=C0;have CN:=zA (fun(g:World) (hb:jY W g)=>zFb (c:=c) (w:=g) (O.out.below (hb.mono C)) (yAD C hb.size) hE hj);have CA:=zA (fun(g:World) (hb:jY W g)=>zWQ (c:=c) (cu:=cu) (w:=g) (O.out.below (hb.mono C)) (c8.out.below (hb.mono C)) hl hu (yAD C hb.size) f2 hj);have CI:=zA (fun(g:World) (hb:jY W g)=>zWP (c:=c) (p:=upA t (j:Int)) (w:=g) (O.out.below (hb.mono C)) (yAD C hb.size) hE hj (by
  by_cases h:upA t (j:Int) < 0
  · exact .inl h
  · exact .inr ⟨(upA t (j:Int)).toNat,by omega,by omega⟩))
 have d3:wrN ts t (j:Int)=if(twN (zA5 ts (j:Int)) || hiN ts (j:Int) (upA t (j:Int)))=true then true
  else if x.kind=7 then(knK ts (upA t (j:Int))==6&&decide (x.kids=[]))
  else if x.kind=18 then(arN ts t (j:Int)).1.any fun k=>knK ts k==18&&decide (nmN ts k=x.name)
  else if x.kind=12∨x.kind=13 then !juN ts x (arN ts t (j:Int)).1
  else if x.kind=14 then decide ((arN ts t (j:Int)).2 < 0)else false:=by
  unfold wrN;rw[show knK ts (j:Int)=x.kind by unfold knK;rw[zBX hx],show nmN ts (j:Int)=x.name by unfold nmN;rw[zBX hx],zBX hx]
 have Q:=zA d3;have d4:x.kind=7→0 < j:=fun h=>U (by unfold knK;rw[zBX hx];exact h);have H7:=zA d4;have d5:=hE.names (j:Int);clear hN hB hE hx c6 f0 bV bW bw d3 U d4 d2 sW sV hU hl hu;obtain⟨NM,d6⟩:=jx (zA5 ts (j:Int));rw[d6]at CN Q d5;obtain⟨nm,b1⟩:=jx NM.length;rw[b1]at d5;have d7:=zA b1;obtain⟨bt,b2⟩:=jx (twN NM);obtain⟨bh,b3⟩:=jx (hiN ts (j:Int) (upA t (j:Int)));rw[b3]at CI;rw[b2,b3]at Q;have CT:=zA (fun(g:World) (q:jQ) (c3:Nat) (a1:nm≤c3) (u:Reads g g.heap.size 1 q nm (zBk NM))=>(show Calls prog 35 #[.slice q nm c3] g fun e w'=>e=.returned bt∧g=w' by rw[←b2];exact zWN d7 u a1 jo));clear d6 b1 b2 b3;obtain⟨pu,b4⟩:=jx (upA t (j:Int));rw[b4]at CI Q P a9;have h0:=zA b4;clear b4;have b5:=zA (fun(g:World) (hb:jY W g)=>(show Calls prog 22 #[.agg #[.slice (some ⟨b,o,none⟩) n c],j] g fun e w'=>∃q c3,e=.returned (.slice q nm c3)∧nm≤c3∧Hid (Reads w' w'.heap.size 1 q nm (zBk NM))∧jY g w' from(CN.out g hb).mono fun e w' ⟨v,he,hm⟩=>by
  obtain⟨q,c3,rfl,h1,_,J⟩:=MadeS.form hm;rw[d7.out]at he h1 J;exact⟨q,c3,he,h1,J,hm.below⟩))
 clear CN;go_enter func21,ntmps21;go_upto_region 1 with(fail);clear hV hX;go_upto_region 2 with(fail);clear hW hY a0 f3 f4 f5 f6 f7 f8 f9 g0;have a0:=f1.out;obtain⟨p0,p1,p2,p3,p4,p5,p6,p7⟩:=c7.out.c;have P0:=zA p0;have P7:=zA p7;clear p0 p1 p2 p3 p4 p5 p6 p7
 go_cut [31] (fun v g=>v=.bool (bt || bh)∧Hid (jY W g))
 case first=>
  cases bt with
  | true=>
   first
    | go_region_law (first | (go_simp;go_at_call 22;(with_reducible refine(b5.out W.drew ((Below.refl _ W).drew)).mono ?_);rintro e3 w3 ⟨q,c3,rfl,a1,u,f⟩;have J:=zBM ((Below.refl W.heap.size W).drew) f) | (go_simp;go_at_call 35;(with_reducible refine(CT.out w3 q c3 a1 u.out).mono ?_);rintro e4 w4 ⟨rfl,rfl⟩))
    | fail
   all_goals
    go_wp2_with fail;go_meet;exact⟨by first | rfl | simp,J⟩
  | false=>
   go_region_held3 (fun w'=>w'.cell? X=some (.slice (some ⟨b,o,none⟩) n c)∧w'.cell? ⟨bu,ou+j,none⟩=some (.int .i64 pu))
    (first | (exact⟨a0,P⟩) | (exact⟨(h5.cell (p:=X) N).trans a0,(h5.cell (p:=⟨bu,ou+j,none⟩) a3).trans P⟩) | (exact⟨(J.cell (p:=X) N).trans a0,(J.cell (p:=⟨bu,ou+j,none⟩) a3).trans P⟩) | go_keep)
    (first | (go_at_call 22;go_split_ands;(with_reducible refine(b5.out W.drew ((Below.refl _ W).drew)).mono ?_);rintro e3 w3 ⟨q,c3,rfl,a1,u,f⟩;have J:=zBM ((Below.refl W.heap.size W).drew) f) | (go_at_call 35;go_split_ands;(with_reducible refine(CT.out w3 q c3 a1 u.out).mono ?_);rintro e4 w4 ⟨rfl,rfl⟩) | (go_at_call 36;go_split_ands;(with_reducible refine(CI.out w3 J).mono ?_);rintro e5 w5 ⟨rfl,M⟩;have h5:=zBM J M))
   all_goals
    go_wp2_with fail;go_meet;exact⟨by first | rfl | simp,h5⟩
 case rest=>
  obtain⟨hv,R⟩:=hcut;subst hv;obtain⟨V,rfl⟩:∃z,z=wc:=⟨_,rfl⟩;have E:=zA (c9.out.trans (R.out.mono c9.out.size));have b0:=(R.out.cell (p:=X) N).trans a0;have h4:=(R.out.cell (p:=⟨bu,ou+j,none⟩) a3).trans P;have b6:=zA (c7.out.below R a4);obtain⟨p0,p1,p2,p3,p4,p5,p6,p7⟩:=b6.out.c;have F:=zA R;clear a0 P b5 CT CI R P0 P7
  by_cases S:(bt || bh)=true
  · rw[S];have H:=zA (Q.out.trans (if_pos S));clear S;go_wp2_with fail;go_ret;exact⟨zF H.out.symm,E⟩
  have d8:(bt || bh)=false:=by simpa using S
  rw[d8];have d:=Q.out.trans (if_neg S);clear S d8 Q;obtain⟨K,hK⟩:=jx x.kind;rw[hK]at p0 d;have HK:=zA hK
  by_cases U:K=7
  · have g1:=H7.out (hK.trans U);subst U;have h8:0≤pu:=a9.2.2 g1;obtain⟨m,rfl⟩:∃m:Nat,pu=(m:Int):=⟨pu.toNat,by omega⟩;have g2:m < n:=by omega
    obtain⟨b',o',y,r,d9,e8,hy,e0,_⟩:=(O.out.below (F.out.mono C)).get g2;simp only[yCE,Addr.mk.injEq,and_true]at d9;obtain⟨rfl,rfl⟩:=d9;have g3:=e0.k0;obtain⟨Ky,b7⟩:=jx y.kind;rw[b7]at g3;rw[if_pos rfl,show knK ts (m:Int)=Ky by unfold knK;rw[zBX hy,b7]]at d;obtain⟨L,hL⟩:=jx x.kids.length;have e1:decide (x.kids=[])=((L:Int)==0):=by
     cases hkk:x.kids with
     | nil=>rw[←hL,hkk];rfl
     | cons a r=>rw[←hL,hkk];simp;omega
    rw[e1]at d;have H:=zA d;rw[hL]at p7;clear d e1 hy e0 b7 hK hL e8
    by_cases h6:Ky=6
    · subst h6
      by_cases g4:L=0
      · subst g4;go_upto_region 6 with(fail)
        go_quiet (fail)
        go_wp2_with fail;go_ret;exact⟨zF (by rw[H.out];rfl),zv E _⟩
      · have el:((L:Int)==0)=false:=yA.2 jo;go_upto_region 6 with(fail)
        go_quiet (fail)
        go_wp2_with fail;go_ret;exact⟨zF (by rw[H.out,el];rfl),zv E _⟩
    · have e6:(Ky==6)=false:=yA.2 h6;clear h6;go_upto_region 6 with(fail)
      go_quiet (fail)
      go_wp2_with fail;go_ret;exact⟨zF (by rw[H.out,e6,Bool.false_and]),zv E _⟩
  have e7:(K==7)=false:=yA.2 U;rw[if_neg U]at d;clear U H7;have a5:=zA (CA.out V F);clear CA;obtain⟨AR,a6⟩:=jx (arN ts t (j:Int));obtain⟨al,ar⟩:=AR;have b8:∀k∈al,∃m:Nat,k=(m:Int)∧m < n:=by
   intro k hk;have:=zSu (ts:=ts) d0 (Int.toNat (j:Int)+1) j (by rw[d1.out];exact hj) k (by
    have h:(arN ts t (j:Int)).1=al:=by rw[a6]
    unfold arN at h;rw[h];exact hk)
   obtain⟨m,h1,h2⟩:=this;exact⟨m,h1,by omega⟩
  have b9:al.length≤4096:=by
   have:=zSv (ts:=ts) d0 (Int.toNat (j:Int)+1) j (by rw[d1.out];exact hj);have h:(arN ts t (j:Int)).1=al:=by rw[a6]
   unfold arN at h;rw[h]at this;omega
  rw[a6]at a5 d;simp only at a5 d;obtain⟨na,c0⟩:=jx al.length;rw[c0]at b9;have c1:=zA c0;have c2:=zA b8;have T:=zA (show Calls prog 37 #[.agg #[.slice (some ⟨b,o,none⟩) n c],.slice (some ⟨bu,ou,none⟩) n cu,j] V fun e w'=>∃q c3,e=.returned (.tuple #[.slice q na c3,ar])∧Hid (Reads w' w'.heap.size 1 q na (zBw al))∧jY V w' from a5.out.mono fun e w' ⟨v,he,hm⟩=>by
   obtain⟨q,c3,rfl,_,_,J⟩:=hm.shape;rw[zIC,c1.out]at he J;exact⟨q,c3,he,J,hm.below⟩)
  clear a5 a6 c0 b8
  by_cases a7:K=18
  · subst a7;rw[if_pos rfl]at d;have H:=zA d;clear d hK;go_wp2_with fail;refine T.out.mono ?_;rintro e3 w3 ⟨q,c3,rfl,u,f⟩;have a2:=zA (F.out.trans (f.mono F.out.size));have e2:=(f.cell (p:=X) (yAA N F.out.size)).trans b0;have g5:=zA e2;have c4:=zA (b6.out.below f (yAA a4 F.out.size));have g6:X < w3.heap.size:=yAA N a2.out.size;have g7:Y < w3.heap.size:=yAA a4 a2.out.size;have CC:=zA (zan (c:=c3) (X:=X) (Y:=Y) (p:=fun k=>knK ts k==18&&decide (nmN ts k=x.name)) c1 (yAC _) u jo (fun k hk g hb=>by
     obtain⟨m,rfl,hm⟩:=c2.out k hk;exact zWR (c:=c) (B:=B) (O.out.below ((zBM a2 hb).mono C)) ((hb.cell (p:=X) g6).trans g5) (c4.out.below hb g7) hm))
    have G:=zA (E.out.trans (f.mono E.out.size));clear f u T;go_wp2_with fail;refine CC.out.mono ?_;rintro e5 w5 ⟨rfl,M⟩;have c5:=zA (G.out.trans (M.mono G.out.size));clear M;go_wp2_with fail;go_ret;exact⟨zF H.out.symm,c5⟩
  have h9:(K==18)=false:=yA.2 a7;rw[if_neg a7]at d;clear a7
  by_cases I:K=12∨K=13
  · rw[if_pos I]at d;have H:=zA d;have CJ:=zA (fun(g:World) (D:Nat) (q:jQ) (c3:Nat) (hb:jY W g) (hr:Reads g D 1 q na (zBw al)) (hD:D≤g.heap.size)=>zWL (c:=c) (cl:=c3) (x:=x) (s:=⟨As,Am,Ak,cs,cm,ck⟩) (w:=g) (O.out.below (hb.mono C)) (yAD C hb.size) HE c1 b9 hr hD c2);rw[HK.out]at CJ;clear d hK;rcases I with rfl | rfl
    all_goals
     go_wp2_with fail;refine T.out.mono ?_;rintro e3 w3 ⟨q,c3,rfl,u,f⟩;have a2:=zA (F.out.trans (f.mono F.out.size));have e2:=(f.cell (p:=X) (yAA N F.out.size)).trans b0;have c4:=zA (b6.out.below f (yAA a4 F.out.size));have CC:=zA (CJ.out w3 w3.heap.size q c3 a2 u (yAC _));have G:=zA (E.out.trans (f.mono E.out.size));obtain⟨q0,q1,q2,q3,q4,q5,q6,q7⟩:=c4.out.c;rw[HK.out]at q0;clear f u T p0 p1 p2 p3 p4 p5 p6 p7 CJ;go_wp2_with fail;refine CC.out.mono ?_;rintro e5 w5 ⟨rfl,M⟩;have c5:=zA (G.out.trans (M.mono G.out.size));clear M;go_wp2_with fail;go_ret;exact⟨zF H.out.symm,c5⟩
  have j0:(K==12)=false:=yA.2 (fun h=>I (.inl h));have j1:(K==13)=false:=yA.2 (fun h=>I (.inr h));rw[if_neg I]at d;clear I
  by_cases a8:K=14
  · subst a8;rw[if_pos rfl]at d;have H:=zA d;clear d hK;go_wp2_with fail;refine T.out.mono ?_;rintro e3 w3 ⟨q,c3,rfl,u,f⟩;have G:=zA (E.out.trans (f.mono E.out.size));clear f u T;go_wp2_with fail;go_ret;exact⟨zF H.out.symm,G⟩
  · have j2:(K==14)=false:=yA.2 a8;rw[if_neg a8]at d;have H:=zA d;clear d hK a8;go_wp2_with fail;go_ret;exact⟨zF H.out.symm,E⟩
structure DpS (W wr:World) (v:Value) (n:Nat) (d:List Nat):Prop where
 own:wr.ownsRow W.heap.size 3 1 v n (zEv d)
 below:jY W wr
theorem zPX (n:Nat):(madeCells (Value.int .i64 0).cells (n*1)).toList=zEv (List.replicate n 0):=by
 rw[Nat.mul_one];show(madeCells #[Value.int .i64 0] n).toList=_;rw[toList_madeCells_one];simp[zEv]
def DeepAt (ts:List Nd) (k:Nat) (d q:List Nat):Prop:=zDh k (ts.drop k) d=q∧d.length=ts.length∧∀y∈d,y≤k+1
theorem DeepAt.start {q:List Nat} (h:zKV ts=q):DeepAt ts 0 (List.replicate ts.length 0) q:=
 ⟨h,List.length_replicate,fun y b=>by have:=List.eq_of_mem_replicate b;omega⟩
theorem DeepAt.done {q:List Nat} (h:DeepAt ts ts.length d q):d=q:=by
 have:=h.1;rwa[yCA (yAC _)]at this
def DeepIn (ts:List Nd) (k v:Nat) (ks:List Int) (d q:List Nat):Prop:=zDh (k+1) (ts.drop (k+1)) (zEN d (v+1) ks)=q∧d[k]? =some v∧d.length=ts.length∧v≤k+1∧∀y∈d,y≤k+2
theorem zHj {i v b:Nat} (h:∀y∈d,y≤b) (hv:v≤b):∀y∈d.set i v,y≤b:=by
 intro y c;rcases List.mem_or_eq_of_mem_set c with h1 | h1
 · exact h y h1
 · rw[h1];exact hv
theorem DeepAt.go {a:Nat} {q:List Nat} (h:DeepAt ts k d q) (e:ts[k]? =some x) (b:d[k]? =some a):DeepIn ts k (max a 1) x.kids (d.set k (max a 1)) q:=by
 obtain⟨c,rfl⟩:=yAT.1 e;have hb:=h.2.2 a (yCG b);refine⟨?_,List.getElem?_set_self (by rw[h.2.1];exact c),by rw[List.length_set];exact h.2.1,by omega,zHj (fun y f=>by have:=h.2.2 y f;omega) jo⟩;have:=h.1;rwa[yAH c,zGO,yAG,b]at this
theorem DeepIn.step {v:Nat} {q:List Nat} (h:DeepIn ts k v ((m:Int)::ks) d q) (b:k < m):DeepIn ts k v ks (d.set m (v+1)) q:=by
 refine⟨h.1,?_,by rw[List.length_set];exact h.2.2.1,h.2.2.2.1,zHj h.2.2.2.2 (by have:=h.2.2.2.1;omega)⟩;rw[List.getElem?_set_ne jo];exact h.2.1
theorem DeepIn.done {v:Nat} {q:List Nat} (h:DeepIn ts k v [] d q):DeepAt ts (k+1) d q:=⟨h.1,h.2.2.1,h.2.2.2.2⟩
theorem zSw (l:List Nat) (k x:Nat):(zEv l).set k (.int .i64 (x:Int))=zEv (l.set k x):=by
 unfold zEv;rw[List.map_set]
theorem DpS.cell {a:Nat} (h:DpS W wr (.slice (some ⟨g,0,none⟩) n n) n d) (b:d[k]? =some a):wr.cell? ⟨g,k,none⟩=some (.int .i64 (a:Int)):=by
 have e:k < n:=by
  have h1:=(yAT.1 b).1;have c:=h.own.1;rw[zLu]at c;omega
 rw[h.own.cellAt k jo];simp[zEv,b]
theorem DpS.store {a:Nat} (h:DpS W wr (.slice (some ⟨g,0,none⟩) n n) n d) (hg:W.heap.size≤g) {z:Int} (b:z=(a:Int)):DpS W (wr.setCell ⟨g,k,none⟩ (.int .i64 z)) (.slice (some ⟨g,0,none⟩) n n) n (d.set k a):=by
 subst b;have h1:=h.own.stored k (.int .i64 (a:Int));rw[zSw]at h1;exact⟨h1.1,h.below.setCell hg _⟩
theorem DpS.below' (h:DpS W wr v n d) (hb:jY wr w'):DpS W w' v n d:=⟨zC2 h.own hb,h.below.trans (hb.mono h.below.size)⟩
theorem zL4 (hN:NdsR w B A n ts) (hB:B≤w.heap.size) (h0:0 < n) (hl:n≤4096) (hf:Fwd ts) (Y:∀x∈ts,x.kids.length≤1000000) {q:List Nat} (hq:zKV ts=q):
 Calls prog 19 #[.agg #[.slice A n c]] w fun e w'=>∃A' c',e=.returned (.slice A' n c')∧q.length=n∧n≤c'∧Reads w' w'.heap.size 1 A' n (zEv q)∧jY w w':=by
 obtain⟨W,M⟩:=jx (w.alloc (.cells #[.slice A n c] 24));have N:jY w W:=jb M;have a0:W.heap.size=w.heap.size+1:=by rw[←M];simp
 have c1:=zA ((hN.below (N.mono hB)));have c2:W.cell? w.heap.size=some (.slice A n c):=jc M;have c3:=zA N;have HF:=zA hf;have c4:=zA Y;have t:=zA hN.1;have HQ:=zA hq;have HB:=zA hB;clear hq N hN hf Y;go_enter func19,ntmps19;go_upto_region 1 with(fail);have HW:=zA M;clear M;obtain⟨i0,hi,a1,a2,a3⟩:=info_parts Tryz.info_int;have a4:i0.bytes*n≤281474976710656:=by rw[a3];omega
 have a5:n≤maxLen:=by unfold maxLen;omega
 have e9:w.heap.size < W.heap.size:=by omega
 have f1:=zA a0;obtain⟨G,hG⟩:=jx W.heap.size;clear a0;go_wp2_with (refine wpList_make_full _ rfl _ _ 56 rfl W.heap.size 3 i0 (.int .i64 0) 1 underlying56 hi a1 a2 .i64 .i64 (n:Int) (n:Int) n rfl rfl rfl rfl a4 a5 (yAC _) ?_;intro w1 a6 g;have c5:w1.cell? w.heap.size=some (.slice A n c):=g.cell c2 js);have HG:=zA hG;have a7:=zA (show DpS W w1 (.slice (some ⟨G,0,none⟩) n n) n (List.replicate n 0)from⟨by have:=a6;rw[zPX]at this;rw[←hG];exact this,⟨g.os,g.tape,g.output,g.size,fun i hi=>g.block i hi js⟩⟩);clear a6 g hi a1 a2 a3 a4 a5 hG
 go_loopw [15] (fun i wr=>∃(k:Nat) (d:List Nat),k≤n∧i=.int .i64 k∧Hid (DeepAt ts k d q)∧Hid (DpS W wr (.slice (some ⟨G,0,none⟩) n n) n d)) (fun i _=>n - (intOf i).toNat)
 case atStart=>exact⟨0,_,yAE _,rfl,by have:=DeepAt.start HQ;rwa[t.out]at this,a7⟩
 case round=>
  clear c5 a7;obtain⟨k,d,hk,rfl,l,D⟩:=hrel
  by_cases a8:k < n
  · have c6:=D.out.below.size;obtain⟨b,o,x,s,rfl,f2,S,hC,hR⟩:=(c1.out.below (D.out.below.mono jo)).get a8;obtain⟨c7,c8,c9,d0,d1,d3,d4,d5⟩:=hC;have a9:=zA (show∀y∈x.kids,(k:Int) < y∧y < (n:Int)from by have:=HF.out k x S;rwa[t.out]at this);have d6:=c4.out x (yCG S);have b0:k < d.length:=by rw[l.out.2.1,t.out];exact a8
    obtain⟨a,T⟩:∃a,d[k]? =some a:=⟨_,yAB b0⟩;have E:=zA (l.out.go S T);have d7:a≤k+1:=l.out.2.2 a (yCG T);have HA:=zA T;clear S b0 T;go_upto_region 5 with(fail);obtain⟨O,F⟩:=jx (wr.alloc (.cells #[x.kind,x.name,.slice s.As x.str.length s.cs,x.nk,x.nn,x.neg,.slice s.Am x.mag.length s.cm,.slice s.Ak x.kids.length s.ck] 58));rw[F];have J:wr.heap.size < O.heap.size:=by rw[←F];simp
    have p7:O.cell? ⟨wr.heap.size,7,none⟩=some (.slice s.Ak x.kids.length s.ck):=jc F;have b1:jY wr O:=jb F;have u:=zA (D.out.below' b1);have d8:G < wr.heap.size:=by have:=(D.out.own.lt G rfl).2;exact this
    have b2:=zA (hR.back (D.out.below.mono jo));obtain⟨X,hX⟩:=jx wr.heap.size;rw[hX]at p7 J d8;rw[hX];have U:=u.out.cell HA;have b3:=u.out.own.frozenAt k;have f3:G≠X:=by omega
    have P:W.heap.size≤G:=by rw[HG.out];omega
    have d9:=u.out.below.size;clear F b1 c7 c8 c9 d0 d1 d3 d4 d5 hR D hX c6 l
    go_cut [3] (fun v3 Q=>v3=.slice (some ⟨G,0,none⟩) n n∧Hid (DpS W Q (.slice (some ⟨G,0,none⟩) n n) n (d.set k (max a 1)))∧Q.cell? ⟨X,7,none⟩=some (.slice s.Ak x.kids.length s.ck)∧X < Q.heap.size)
    case first=>
     by_cases b4:a≤1
     · have hv:max a 1=1:=by omega
       have HV:=zA hv;have e0:max (a:Int) 1=1:=by omega
       clear hv;rcases(show a=0∨a=1 by omega)with rfl | rfl
       all_goals
        clear e0 b4 d7;go_wp2_with fail;go_meet;exact⟨rfl,u.out.store P (by rw[HV.out];rfl),zBT (zM _ _ _ _) p7 (show X≠G by omega),by simpa using J⟩
     · have hv:max a 1=a:=by omega
       have HV:=zA hv;have e1:¬(a:Int)≤1:=by omega
       have e2:(1:Int)≤a:=by omega
       have e4:max (a:Int) 1=(a:Int):=by omega
       clear hv b4;go_wp2_with fail;go_meet;exact⟨rfl,u.out.store P (by rw[HV.out]),zBT (zM _ _ _ _) p7 (show X≠G by omega),by simpa using J⟩
    case rest=>
     obtain⟨rfl,H,b5,e3⟩:=hcut;clear u p7 J U b3 d9;obtain⟨v,hv⟩:=jx (max a 1);rw[hv]at E H;have f4:v≤4097:=by omega
     obtain⟨d2,b6⟩:=jx (d.set k v);rw[b6]at E H;clear hv b6 HA
     by_cases I:x.kids=[]
     · have C:=zA (show DeepAt ts (k+1) d2 q from by have:=E.out;rw[I]at this;exact this.done);rw[I]at b5;clear I E d6 a9;go_wp2_with fail
       go_loopw [31] (fun i Q=>i=.int .i64 0∧Q=wc) (fun _ _=>0)
       case atStart=>exact⟨rfl,rfl⟩
       case round=>
        obtain⟨rfl,rfl⟩:=hrel;go_wp2_with fail
        go_roundw
        case rel=>exact⟨k+1,d2,by omega,by go_num,C,H⟩
        case measure=>simp[intOf];omega
     have b7:=yCL.2 I;obtain⟨bk,ok,f5,f6,b8⟩:=b2.out.kids.spotK b7;have f0:=b2.out.ck.1;have e5:=zA b8;clear I b8 b7;go_wp2_with fail
     go_loopw [31] (fun i wr=>∃(j:Nat) (e:List Nat),j≤x.kids.length∧i=.int .i64 j∧Hid (DeepIn ts k v (x.kids.drop j) e q)∧Hid (DpS W wr (.slice (some ⟨G,0,none⟩) n n) n e)) (fun i _=>x.kids.length - (intOf i).toNat)
     case atStart=>exact⟨0,d2,yAE _,rfl,E,H⟩
     case round=>
      clear H b5 e3;obtain⟨j,e,hj,rfl,L,r⟩:=hrel
      by_cases R:j < x.kids.length
      · have e6:=(r.out.below.cell (p:=⟨bk,ok+j,none⟩) (show bk < W.heap.size by omega)).trans (e5.out j R);have b9:=a9.out x.kids[j] (yAZ R);have f:=L.out;rw[yAH R]at f;obtain⟨y,hy⟩:=jx (x.kids[j]);rw[hy]at e6 b9 f;obtain⟨m,rfl⟩:∃m:Nat,y=(m:Int):=⟨y.toNat,by omega⟩;have e7:k < m:=by omega
        have e8:m < n:=by omega
        have V:=zA (f.step e7);have f7:=r.out.cell f.2.1;obtain⟨z,hz⟩:∃z,e[m]? =some z:=⟨_,yAB (by rw[f.2.2.1,t.out];exact e8)⟩;have f8:=r.out.cell hz;have b3:=r.out.own.frozenAt m;have f9:=r.out.below.size;clear b9 f hy hz L;go_wp2_with fail
        go_roundw
        case rel=>exact⟨j+1,e.set m (v+1),by omega,by go_num,V,r.out.store P jo⟩
        case measure=>simp[intOf];omega
      · obtain rfl:j=x.kids.length:=by omega
        have C:=zA (show DeepAt ts (k+1) e q from by have:=L.out;rw[yBZ]at this;exact this.done);clear L;go_wp2_with fail
        go_roundw
        case rel=>exact⟨k+1,e,by omega,by go_num,C,r⟩
        case measure=>simp[intOf];omega
  · obtain rfl:k=n:=by omega
    have C:=zA (show d=q from by have:=l.out;rw[←t.out]at this;exact this.done);have c0:=zA (show q.length=k from by rw[←C.out,l.out.2.1,t.out]);clear l;go_wp2_with fail;go_ret;refine⟨_,_,rfl,c0,yAC _,?_,c3.out.trans (D.out.below.mono jo)⟩;rw[←C.out];exact Reads.of_own D.out.own
theorem zPY (l:List Nat) (x:Nat):zGN (l++[x])=max (zGN l) x:=by
 rw[zLg];simp[zGN]
theorem zPZ (v:d.length=n) (C:0 < n) (R:n≤100000) (D:Reads w B 1 A n (zEv d)) {q:Nat} (E:zGN d=q):
 Calls prog 18 #[.slice A n c] w fun e w'=>e=.returned q∧w=w':=by
 obtain⟨b,o,rfl,hb,f⟩:=D.spotR C;have l:∀(j:Nat) (x:Nat),d[j]? =some x→w.cell? ⟨b,o+j,none⟩=some (.int .i64 (x:Int)):=fun j x L=>f j _ (by simp[zEv,L]);have F:=zA l;obtain⟨x0,g⟩:∃x0,d[0]? =some x0:=⟨_,yAB jo⟩;have G:w.cell? ⟨b,o,none⟩=some (.int .i64 (x0:Int)):=l 0 x0 g;have M:=zA (show zGN (d.take 1)=x0 by
  cases d with
  | nil=>cases g
  | cons y r=>obtain rfl:=yBI g;simp[zGN])
 have H:=zA v;have N:=zA E;have h1:(1:Int)≤(n:Int):=by omega
 clear l f g D v E;go_enter func18,ntmps18;go_wp2_with fail
 go_loop [3,4] (fun m i=>∃k z:Nat,1≤k∧k≤n∧i=.int .i64 k∧m=.int .i64 z∧Hid (zGN (d.take k)=z)) (fun _ i=>n - (intOf i).toNat)
 case atStart=>exact⟨1,x0,yAC _,C,rfl,rfl,M⟩
 case round=>
  clear G;obtain⟨k,z,P,hk,rfl,rfl,I⟩:=hrel
  by_cases J:k < n
  · have s:k < d.length:=by rw[H.out];exact J
    obtain⟨y,t⟩:∃y,d[k]? =some y:=⟨_,yAB s⟩;have Q:=F.out k y t;have u:=zA (show zGN (d.take (k+1))=max z y by
     rw[List.take_add_one,t];show zGN (d.take k++[y])=_;rw[zPY,I.out])
    clear s t;rcases Nat.lt_trichotomy z y with p | p | p
    · have e1:(z:Int)≤(y:Int):=by omega
      have e2:¬(y:Int)≤(z:Int):=by omega
      have e3:(z:Int) < (y:Int):=by omega
      have e4:max (z:Int) (y:Int)=(y:Int):=by omega
      go_wp2_with fail;go_round
      case rel=>exact⟨k+1,y,by omega,by omega,by go_num,rfl,u.out.trans jo⟩
      case measure=>simp[intOf];omega
    · subst p;go_wp2_with fail
      all_goals go_round
      case rel=>exact⟨k+1,z,by omega,by omega,by go_num,rfl,u.out.trans jo⟩
      case measure=>simp[intOf];omega
    · have e1:¬(z:Int)≤(y:Int):=by omega
      have e2:(y:Int)≤(z:Int):=by omega
      have e3:(y:Int) < (z:Int):=by omega
      have e4:max (z:Int) (y:Int)=(z:Int):=by omega
      go_wp2_with fail;go_round
      case rel=>exact⟨k+1,z,by omega,by omega,by go_num,rfl,u.out.trans jo⟩
      case measure=>simp[intOf];omega
  · obtain rfl:k=n:=by omega
    have O:=zA (show z=q by rw[←I.out,←N.out,yB (by rw[H.out];omega)]);go_wp2_with fail;go_ret;exact⟨zFL (by rw[O.out]),rfl⟩
structure UpS (W wr:World) (v:Value) (n:Nat) (d:List Int):Prop where
 own:wr.ownsRow W.heap.size 3 1 v n (zBw d)
 below:jY W wr
theorem zNL (n:Nat):(madeCells (Value.int .i64 0).cells (n*1)).toList=zBw (List.replicate n 0):=by
 rw[Nat.mul_one];show(madeCells #[Value.int .i64 0] n).toList=_;rw[toList_madeCells_one];simp[zBw]
theorem UpS.cell {d:List Int} (h:UpS W wr (.slice (some ⟨g,0,none⟩) n n) n d) (b:d[k]? =some a):wr.cell? ⟨g,k,none⟩=some (.int .i64 a):=by
 have e:k < n:=by
  have h1:=(yAT.1 b).1;have c:=h.own.1;rw[zIC]at c;omega
 rw[h.own.cellAt k jo];simp[zBw,b]
theorem UpS.store {d:List Int} (h:UpS W wr (.slice (some ⟨g,0,none⟩) n n) n d) (hg:W.heap.size≤g):UpS W (wr.setCell ⟨g,k,none⟩ (.int .i64 a)) (.slice (some ⟨g,0,none⟩) n n) n (d.set k a):=by
 have h1:=h.own.stored k (.int .i64 a);have e:(zBw d).set k (.int .i64 a)=zBw (d.set k a):=by unfold zBw;rw[List.map_set]
 rw[e]at h1;exact⟨h1.1,h.below.setCell hg _⟩
theorem UpS.below' {d:List Int} (h:UpS W wr v n d) (hb:jY wr w'):UpS W w' v n d:=⟨zC2 h.own hb,h.below.trans (hb.mono h.below.size)⟩
theorem zSx {l:List Int} {q:Nat} (b:q < ks.length) (c:ks[q]=(m:Int)):upK n l (ks.take (q+1))=(upK n l (ks.take q)).set m (n:Int):=by
 rw[yAK b,zWE,c,Int.toNat_natCast]
theorem zWT (hN:NdsR w B A n ts) (hB:B≤w.heap.size) (h0:0 < n) (hE:EOk ts):
 Calls prog 20 #[.agg #[.slice A n c]] w fun e w'=>∃g,e=.returned (.slice (some ⟨g,0,none⟩) n n)∧Reads w' w'.heap.size 1 (some ⟨g,0,none⟩) n (zBw (upN ts))∧jY w w':=by
 obtain⟨W,J⟩:=jx (w.alloc (.cells #[.slice A n c] 24));have v:jY w W:=jb J;have O:W.heap.size=w.heap.size+1:=by rw[←J];simp
 have a6:=zA ((hN.below (v.mono hB)));have P:W.cell? w.heap.size=some (.slice A n c):=jc J;have Q:=zA v;have HE:=zA hE;have r:=zA hN.1;have hl:n≤4096:=by rw[←hN.1];exact hE.len
 have y:B≤W.heap.size:=by omega
 clear v hN hE;go_enter func20,ntmps20;go_upto_region 1 with(fail);clear J;obtain⟨i0,hi,R,S,T⟩:=info_parts Tryz.info_int;have U:i0.bytes*n≤281474976710656:=by rw[T];omega
 have V:n≤maxLen:=by unfold maxLen;omega
 have a5:w.heap.size < W.heap.size:=by omega
 have c7:=zA O;obtain⟨G,hG⟩:=jx W.heap.size;clear O;go_upto_region 2 with(refine wpList_make_full _ rfl _ _ 56 rfl W.heap.size 3 i0 (.int .i64 0) 1 underlying56 hi R S .i64 .i64 (n:Int) (n:Int) n rfl rfl rfl rfl U V (yAC _) ?_;intro w1 Y d;have C:w1.cell? w.heap.size=some (.slice A n c):=d.cell P js);have HG:=zA hG;have s:UpS W w1 (.slice (some ⟨G,0,none⟩) n n) n (List.replicate n 0):=⟨by have:=Y;rw[zNL]at this;rw[←hG];exact this,⟨d.os,d.tape,d.output,d.size,fun i hi=>d.block i hi js⟩⟩;have a7:w1.cell? G=some (.int .i64 0):=s.cell (by rw[List.getElem?_replicate,if_pos h0]);have a8:=s.own.frozenAt 0;have a0:W.heap.size≤G:=by omega
 have D:=zA (show UpS W (w1.setCell G (.int .i64 (-1))) (.slice (some ⟨G,0,none⟩) n n) n (zIJ ts 0) by
  rw[show zIJ ts 0=(List.replicate n 0).set 0 (-1) by show(List.replicate ts.length 0).set 0 (-1)=_;rw[r.out]];exact s.store a0)
 obtain⟨X,hX⟩:=jx w.heap.size;rw[hX]at C;have a1:(⟨X,0,none⟩:Addr)≠⟨G,0,none⟩:=by intro e;injection e;omega
 have f:(w1.setCell G (.int .i64 (-1))).cell? X=some (.slice A n c):=by rw[World.cell?_setCell_other _ _ _ _ a1.symm];exact C
 have a9:=zA f;have c8:(0:Int) < (n:Int):=by omega
 clear Y d hi R S T U V hG s;go_upto_region 3 with(fail);obtain⟨w2,a2⟩:=jx (w1.setCell G (.int .i64 (-1)));rw[a2]at D f a9⊢;have E:X < W.heap.size:=by omega
 rw[hX];clear a2 C a7 a8 a1 hX P a5;have b0:=zA (show X < W.heap.size∧W.cell? X=some (.slice A n c)from⟨E,by have:=D.out.below.cell (p:=X) E;rw[←this];exact f⟩);go_wp2_with fail
 go_loopw [17] (fun i wr=>∃k:Nat,k≤n∧i=.int .i64 (k:Int)∧Hid (UpS W wr (.slice (some ⟨G,0,none⟩) n n) n (zIJ ts k))) (fun i _=>n - (intOf i).toNat)
 case atStart=>exact⟨0,yAE _,rfl,D⟩
 case round=>
  clear f;obtain⟨k,hk,rfl,l⟩:=hrel
  by_cases b2:k < n
  · have c9:=l.out.below.size;obtain⟨b,o,x,⟨As,Am,Ak,cs,cm,ck⟩,rfl,d0,M,hC,hR⟩:=(a6.out.below (l.out.below.mono y)).get b2;obtain⟨b3,b4,b5,b6,b7,b8,b9,a3⟩:=hC;have HX:=zA M;have HK:=zA (show Reads W B 1 Ak x.kids.length (zBw x.kids)from(hR.back (l.out.below.mono y)).kids);have c0:=HE.out.many x (yCG M);obtain⟨L,F⟩:=jx x.kids.length;have HL:=zA F;have c1:=zA (show zIJ ts (k+1)=upK k (zIJ ts k) x.kids by rw[zIJ,zBX M]);rw[F]at a3 c0;clear M hR F;go_upto_region 5 with(fail);go_upto_region 6 with(fail);obtain⟨N,t⟩:=jx (wr.alloc (.cells #[x.kind,x.name,.slice As x.str.length cs,x.nk,x.nn,x.neg,.slice Am x.mag.length cm,.slice Ak L ck] 58));rw[t];have b1:jY wr N:=jb t;have p7:N.cell? ⟨wr.heap.size,7,none⟩=some (.slice Ak L ck):=jc t;have c2:=zA (l.out.below' b1);clear t b1 b3 b4 b5 b6 b7 b8 b9 a3;go_wp2_with fail
    go_loopw [25] (fun i wq=>∃q:Nat,q≤L∧i=.int .i64 (q:Int)∧Hid (UpS W wq (.slice (some ⟨G,0,none⟩) n n) n (upK k (zIJ ts k) (x.kids.take q)))) (fun i _=>L - (intOf i).toNat)
    case atStart=>exact⟨0,yAE _,rfl,c2⟩
    case round=>
     obtain⟨q,hq,rfl,j⟩:=hrel
     by_cases c3:q < L
     · have u:q < x.kids.length:=by rw[HL.out];exact c3
       obtain⟨mk,H,d1,I⟩:=HE.out.fwd.kid HX u;obtain⟨bk,ok,rfl,_,a4⟩:=(HK.out.below (j.out.below.mono y)).spotR (by rw[HL.out];omega);have c4:=zFa a4 u;rw[H]at c4;rw[r.out]at I;have m:(upK k (zIJ ts k) (x.kids.take q)).length=n:=by rw[zO9,zLp,r.out]
       have c5:=j.out.cell (k:=mk) (yAB (by rw[m];exact I));obtain⟨z,hz⟩:∃z,(upK k (zIJ ts k) (x.kids.take q))[mk]'(by rw[m];exact I)=z:=⟨_,rfl⟩;rw[hz]at c5;have d2:=j.out.own.frozenAt mk;have c6:=zA (show upK k (zIJ ts k) (x.kids.take (q+1))=(upK k (zIJ ts k) (x.kids.take q)).set mk (k:Int)from zSx u H);clear a4 u H m hz;go_wp2_with fail
       go_roundw
       case rel=>exact⟨q+1,by omega,by go_num,by rw[c6.out];exact j.out.store a0⟩
       case measure=>simp[intOf];omega
     · obtain rfl:q=L:=by omega
       go_wp2_with fail
       go_roundw
       case rel=>exact⟨k+1,by omega,by go_num,by
        have:=j.out;rw[yB (by rw[HL.out];exact yAC _)]at this;rw[c1.out];exact this⟩
       case measure=>simp[intOf];omega
  · obtain rfl:k=n:=by omega
    have f:=(l.out.below.cell (p:=X) E).trans b0.out.2;go_wp2_with fail;go_ret;refine⟨_,rfl,?_,Q.out.trans (l.out.below.mono Q.out.size)⟩;have:=Reads.of_own l.out.own;unfold upN;rw[r.out];exact this
theorem zIQ {b:ByteArray} (h:b.data.toList=[]):b=⟨#[]⟩:=by
 cases b with
 | mk d=>congr 1;exact Array.toList_eq_nil_iff.1 h
theorem zNM {b:ByteArray} (h:b.data.toList≠[]):b.toList≠[]∧(b.toList==[])=false∧b.toList.isEmpty=false:=by
 have h1:b.toList≠[]:=by rw[ByteArray.toList_eq];exact h
 exact⟨h1,yA.2 h1,by rw[List.isEmpty_eq_false_iff];exact h1⟩
theorem zEz {o:Obj} (h:Below (w.alloc o).heap.size (w.alloc o) w'):jY w w':=(ja).trans (h.mono js)
def NmP (q:Bool) (w:World) (e:Ending) (w':World):Prop:=e=.returned q∧jY w w'
theorem zWU (k:Int) (h:k=7∨k=18∨k=19∨k=20∨k=33) (b:ByteArray) (vs d vk:Value) (nk nn:Int) (f:Bool) (w:World) (g:b.size≤8192) (c:zBn b.data.toList=q):Calls prog 47 #[.agg #[k,.string b,vs,nk,nn,f,d,vk]] w (NmP q w):=by
 have j:=zA c;clear c;rcases h with rfl | rfl | rfl | rfl | rfl
 all_goals
  go_enter func47,ntmps47;go_wp2_with (go_at_call 90;refine(zI9 b _ g j.out).mono ?_;rintro e w' ⟨rfl,rfl⟩);go_ret;exact⟨rfl,by go_grown⟩
theorem zWV (k:Int) (h:k=12∨k=13∨k=17∨k=41) (b:ByteArray) (vs e vk:Value) (nk nn:Int) (f:Bool) (w:World) (g:b.size≤8192) (c:b.data.toList=[]) (d:q=true):Calls prog 47 #[.agg #[k,.string b,vs,nk,nn,f,e,vk]] w (NmP q w):=by
 obtain rfl:=zIQ c;subst d;clear c;rcases h with rfl | rfl | rfl | rfl
 all_goals
  go_enter func47,ntmps47;go_wp2_with fail;go_ret;exact⟨rfl,by go_grown⟩
theorem zWW (k:Int) (h:k=12∨k=13∨k=17∨k=41) (b:ByteArray) (vs f vk:Value) (nk nn:Int) (g:Bool) (w:World) (j:b.size≤8192) (c:b.data.toList≠[]) (d:zBn b.data.toList=q):Calls prog 47 #[.agg #[k,.string b,vs,nk,nn,g,f,vk]] w (NmP q w):=by
 have l:=zA d;obtain⟨f1,m,f3⟩:=zNM c;clear d c f1;rcases h with rfl | rfl | rfl | rfl
 all_goals
  go_enter func47,ntmps47;go_wp2_with (go_at_call 90;refine(zI9 b _ j l.out).mono ?_;rintro e w' ⟨rfl,rfl⟩);go_ret;exact⟨rfl,by go_grown⟩
theorem zSy (b:ByteArray) (vs d vk:Value) (nk nn:Int) (f:Bool) (w:World) (g:b.size≤8192) (c:zGL b.data.toList=q):Calls prog 47 #[.agg #[(52:Int),.string b,vs,nk,nn,f,d,vk]] w (NmP q w):=by
 have j:=zA c;clear c;go_enter func47,ntmps47;go_wp2_with (go_at_call 91;refine(zGc b _ g j.out).mono ?_;rintro e w' ⟨rfl,rfl⟩);go_ret;exact⟨rfl,by go_grown⟩
theorem zWX (k:Int) (h:k=43∨k=44∨k=45∨k=46∨k=47∨k=49) (b:ByteArray) (vs j vk:Value) (nk nn:Int) (l:Bool) (w:World) (_b:b.size≤8192) (e:decide (b.data.toList∈zOh k)=q):Calls prog 47 #[.agg #[k,.string b,vs,nk,nn,l,j,vk]] w (NmP q w):=by
 have m:=zA e;clear e;have o:=fun(w:World) (f:Addr) (n c:Nat)=>run_neq_slice_nil_any (P:=prog) w 36 9 (some f) n c 0 0 underlying36;rcases h with rfl | rfl | rfl | rfl | rfl | rfl
 all_goals
  go_enter func47,ntmps47;go_wp2_with (first | (go_at_call 92;refine(zPJ _ jo _).mono ?_;rintro e1 w1 ⟨f,c1,rfl,g,d⟩;have r:=d.cell (p:=⟨w.heap.size,1,none⟩) js) | (go_at_call 83;refine(zFs b (n:=(zOh _).length) rfl g jd m.out).mono ?_;rintro e2 w2 ⟨rfl,rfl⟩));go_ret;exact⟨rfl,zEz d⟩
theorem zNN (k:Int) (h:∀j∈([7,12,13,17,18,19,20,33,41,43,44,45,46,47,49,52]:List Int),k≠j) (b:ByteArray) (vs e vk:Value) (nk nn:Int) (f:Bool) (w:World) (_b:b.size≤8192) (c:b.data.toList=[]) (d:q=true):Calls prog 47 #[.agg #[k,.string b,vs,nk,nn,f,e,vk]] w (NmP q w):=by
 obtain rfl:=zIQ c;subst d;clear c;have e7:(k==7)=false:=yA.2 (h 7 jd);have m:(k==12)=false:=yA.2 (h 12 jd);have o:(k==13)=false:=yA.2 (h 13 jd);have p:(k==17)=false:=yA.2 (h 17 jd);have r:(k==18)=false:=yA.2 (h 18 jd);have s:(k==19)=false:=yA.2 (h 19 jd);have t:(k==20)=false:=yA.2 (h 20 jd);have u:(k==33)=false:=yA.2 (h 33 jd);have v:(k==41)=false:=yA.2 (h 41 jd);have y:(k==43)=false:=yA.2 (h 43 jd);have z:(k==44)=false:=yA.2 (h 44 jd);have A:(k==45)=false:=yA.2 (h 45 jd);have B:(k==46)=false:=yA.2 (h 46 jd);have C:(k==47)=false:=yA.2 (h 47 jd);have D:(k==49)=false:=yA.2 (h 49 jd);have E:(k==52)=false:=yA.2 (h 52 jd);have g:=zA (fun w=>zLv k (fun j l=>h j (by simp only[yAW,yBV,or_false]at l⊢;omega)) w);have F:=fun(w:World)=>run_neq_slice_nil_any (P:=prog) w 36 9 none 0 0 0 0 underlying36;clear h;go_enter func47,ntmps47;go_wp2_with (go_at_call 92;refine(g.out _).mono ?_;rintro e1 w1 ⟨rfl,rfl⟩);go_ret;exact⟨rfl,by go_grown⟩
theorem zNO (k:Int) (h:∀j∈([7,12,13,17,18,19,20,33,41,43,44,45,46,47,49,52]:List Int),k≠j) (b:ByteArray) (vs e vk:Value) (nk nn:Int) (f:Bool) (w:World) (_b:b.size≤8192) (c:b.data.toList≠[]) (d:q=false):Calls prog 47 #[.agg #[k,.string b,vs,nk,nn,f,e,vk]] w (NmP q w):=by
 obtain⟨f1,G,f3⟩:=zNM c;subst d;clear c f1;have e7:(k==7)=false:=yA.2 (h 7 jd);have m:(k==12)=false:=yA.2 (h 12 jd);have o:(k==13)=false:=yA.2 (h 13 jd);have p:(k==17)=false:=yA.2 (h 17 jd);have r:(k==18)=false:=yA.2 (h 18 jd);have s:(k==19)=false:=yA.2 (h 19 jd);have t:(k==20)=false:=yA.2 (h 20 jd);have u:(k==33)=false:=yA.2 (h 33 jd);have v:(k==41)=false:=yA.2 (h 41 jd);have y:(k==43)=false:=yA.2 (h 43 jd);have z:(k==44)=false:=yA.2 (h 44 jd);have A:(k==45)=false:=yA.2 (h 45 jd);have B:(k==46)=false:=yA.2 (h 46 jd);have C:(k==47)=false:=yA.2 (h 47 jd);have D:(k==49)=false:=yA.2 (h 49 jd);have E:(k==52)=false:=yA.2 (h 52 jd);have g:=zA (fun w=>zLv k (fun j l=>h j (by simp only[yAW,yBV,or_false]at l⊢;omega)) w);have F:=fun(w:World)=>run_neq_slice_nil_any (P:=prog) w 36 9 none 0 0 0 0 underlying36;clear h;go_enter func47,ntmps47;go_wp2_with (go_at_call 92;refine(g.out _).mono ?_;rintro e1 w1 ⟨rfl,rfl⟩);go_ret;exact⟨rfl,by go_grown⟩
theorem zPa (k:Int) (b:ByteArray) (vs d vk:Value) (nk nn:Int) (f:Bool) (w:World) (l:b.size≤8192) (g:zC4 k b.data.toList=q):Calls prog 47 #[.agg #[k,.string b,vs,nk,nn,f,d,vk]] w (NmP q w):=by
 by_cases p:k=7∨k=18∨k=19∨k=20∨k=33
 · exact zWU k p b vs d vk nk nn f w l (by rw[←g];rcases p with rfl | rfl | rfl | rfl | rfl<;>rfl)
 by_cases m:k=12∨k=13∨k=17∨k=41
 · by_cases c:b.data.toList=[]
   · exact zWV k m b vs d vk nk nn f w l c (by rw[←g,c];rcases m with rfl | rfl | rfl | rfl<;>rfl)
   · exact zWW k m b vs d vk nk nn f w l c (by rw[←g];have e:=yAI c;rcases m with rfl | rfl | rfl | rfl<;>(show _=(decide (b.data.toList=[]) || zBn b.data.toList);rw[e];rfl))
 by_cases o:k=43∨k=44∨k=45∨k=46∨k=47∨k=49
 · exact zWX k o b vs d vk nk nn f w l (by rw[←g];rcases o with rfl | rfl | rfl | rfl | rfl | rfl<;>rfl)
 by_cases s:k=52
 · subst s;exact zSy b vs d vk nk nn f w l g
 have r:∀j∈([7,12,13,17,18,19,20,33,41,43,44,45,46,47,49,52]:List Int),k≠j:=fun j t=>by simp only[yAW,yBV,or_false]at t;omega
 have u:zC4 k b.data.toList=decide (b.data.toList=[]):=by
  have o:zOh k=[]:=by unfold zOh;rw[jn,jn,jn,jn,jn]
  unfold zC4;rw[jn,jn,jn,o,if_neg js]
 rw[u]at g
 by_cases c:b.data.toList=[]
 · exact zNN k r b vs d vk nk nn f w l c (by rw[←g,yBE c])
 · exact zNO k r b vs d vk nk nn f w l c (by rw[←g,yAI c])
def BmP (q:Bool) (w:World) (e:Ending) (w':World):Prop:=e=.returned q∧jY w w'
theorem zBN (h:n≤4096):¬(4096:Int) < (n:Int)∧decide ((4096:Int) < (n:Int))=false:=⟨by omega,yAI jo⟩
theorem zKf (h:0 < n):(0:Int) < (n:Int)∧decide ((0:Int) < (n:Int))=true∧decide (0 < n)=true:=⟨by omega,yBE jo,yBE h⟩
theorem zSz {x:Int} (h:x≠0):(x==0)=false∧(x !=0)=true:=⟨yA.2 h,yBM.2 h⟩
def zBO (k:Int) (nb:ByteArray) (As Am:jQ) (cs cm:Nat) (vk:Value) (ls:Nat) (nk nn:Int) (ng:Bool) (lm:Nat) (w:World) (q:Bool):Prop:=Calls prog 25 #[.agg #[k,.string nb,.slice As ls cs,nk,nn,ng,.slice Am lm cm,vk]] w (BmP q w)
theorem zS0 (b:Bool) (A:jQ) (c:Nat) (w:World):Calls prog 46 #[.agg #[b,.slice A 0 c]] w (BmP (!b) w):=by
 cases b
 all_goals
  go_enter func46,ntmps46;go_wp2_with fail;go_ret;exact⟨rfl,by go_grown⟩
theorem zPb (b:Bool) (A:jQ) (n c:Nat) (w:World) (h:8 < n):Calls prog 46 #[.agg #[b,.slice A n c]] w (BmP false w):=by
 have e1:¬(n:Int)≤8:=by omega
 have e2:decide ((n:Int)≤8)=false:=yAI e1;go_enter func46,ntmps46;go_wp2_with fail;go_ret;exact⟨rfl,by go_grown⟩
theorem zPc (f:Bool) (b o n c B x:Nat) (w:World) (h1:n+1≤8) (hb:b < B) (hB:B≤w.heap.size) (g:w.cell? ⟨b,o+n,none⟩=some (.int .u32 (x:Int))) (p:x < 4294967296) (j:(!(x==0))=q):Calls prog 46 #[.agg #[f,.slice (some ⟨b,o,none⟩) (n+1) c]] w (BmP q w):=by
 have e1:(n:Int)+1≤8:=by omega
 have e2:decide ((n:Int)+1≤8)=true:=yBE e1;have e3:((n:Int)+1==0)=false:=yA.2 jo;have e4:decide ((0:Int) < (n:Int)+1)=true:=yBE jo;have d:=World.cell?_alloc_lt w (.cells #[f,.slice (some ⟨b,o,none⟩) (n+1) c] 55) ⟨b,o+n,none⟩ (by show b < _;omega);rw[g]at d;have k:=zA j;clear j g
 by_cases e:x=0
 · subst e;have m:(w.alloc (.cells #[f,.slice (some ⟨b,o,none⟩) (n+1) c] 55)).cell? ⟨b,o+n,none⟩=some (.int .u32 0):=d;clear d;go_enter func46,ntmps46;go_wp2_with fail;go_ret;exact⟨zF (by rw[←k.out];rfl),by go_grown⟩
 · have e5:((x:Int) !=0)=true:=yBM.2 jo;have e6:((x:Int)==0)=false:=yA.2 jo;have l:=zA e;clear e;go_enter func46,ntmps46;go_wp2_with fail;go_ret;exact⟨zF (by rw[←k.out];have:=l.out;simp;omega),by go_grown⟩
theorem zIR {xs:List Nat} (e:Bool) (g:xs.length=n) (j:Reads w B 1 A n (zSM xs)) (hB:B≤w.heap.size) (k:∀y∈xs,y < 4294967296) (d:zBL e xs=q):
 Calls prog 46 #[.agg #[e,.slice A n c]] w (BmP q w):=by
 unfold zBL at d;rw[g]at d
 by_cases l:8 < n
 · rw[yAI jo,Bool.false_and]at d;subst d;exact zPb e A n c w l
 · rw[yBE jo,yC]at d
   by_cases p:n=0
   · subst p;have r:xs=[]:=yCT.1 g;subst r;subst d;exact zS0 e A c w
   · obtain⟨m,rfl⟩:∃m,n=m+1:=⟨n - 1,by omega⟩;obtain⟨b,o,rfl,hb,s⟩:=j.spotR jo;have f:m < xs.length:=by omega
     have hg:xs.getLast? =some xs[m]:=by rw[List.getLast?_eq_getElem?,show xs.length - 1=m by omega,yAB f]
     rw[hg]at d;exact zPc e b o m c B xs[m] w jo hb hB (s m _ (by simp[zSM,yAB f])) (k _ (yAZ f)) d
theorem zKg (k1:Int) (b:ByteArray) (As Am:jQ) (cs cm:Nat) (vk:Value) (d:Nat) (nk:Int) (nn:Int) (e:Bool) (f:Nat) (w:World) (hs:4096 < b.size):zBO (k1) b As Am cs cm vk d (nk) (nn) e f w false:=by
 unfold zBO;have c:(4096:Int) < (b.size:Int):=by omega
 have g:decide ((4096:Int) < (b.size:Int))=true:=yBE c;go_enter func25,ntmps25;go_wp2_with fail;go_ret;exact⟨rfl,by go_grown⟩
theorem zPd (b:ByteArray) (As Am:jQ) (cs cm:Nat) (vk:Value) (c:Nat) (nk:Int) (nn:Int) (d:Bool) (e:Nat) (w:World) (hs:b.size≤4096) (f:nk≠0):zBO (32) b As Am cs cm vk c (nk) (nn) d e w false:=by
 unfold zBO;obtain⟨g,j⟩:=zBN hs;obtain⟨k,l⟩:=zSz f;go_enter func25,ntmps25;go_wp2_with fail;go_ret;exact⟨rfl,by go_grown⟩
theorem zPe (b:ByteArray) (As Am:jQ) (cs cm:Nat) (vk:Value) (c:Nat) (nn:Int) (d:Bool) (e:Nat) (w:World) (hs:b.size≤4096) (f:nn≠0):zBO (32) b As Am cs cm vk c (0) (nn) d e w false:=by
 unfold zBO;obtain⟨g,j⟩:=zBN hs;obtain⟨k,l⟩:=zSz f;go_enter func25,ntmps25;go_wp2_with fail;go_ret;exact⟨rfl,by go_grown⟩
theorem zS1 (b:ByteArray) (As Am:jQ) (cs cm:Nat) (vk:Value) (c:Nat) (d:Nat) (w:World) (hs:b.size≤4096):zBO (32) b As Am cs cm vk c (0) (0) true d w false:=by
 unfold zBO;obtain⟨e,f⟩:=zBN hs;go_enter func25,ntmps25;go_wp2_with fail;go_ret;exact⟨rfl,by go_grown⟩
theorem zS2 (b:ByteArray) (As Am:jQ) (cs cm:Nat) (vk:Value) (d:Nat) (c:Nat) (w:World) (hs:b.size≤4096) (e:0 < c):zBO (32) b As Am cs cm vk d (0) (0) false c w false:=by
 unfold zBO;obtain⟨f,g⟩:=zBN hs;obtain⟨l1,l2,j⟩:=zKf e;go_enter func25,ntmps25;go_wp2_with fail;go_ret;exact⟨rfl,by go_grown⟩
theorem zPf (c:ByteArray) (As Am:jQ) (cs cm:Nat) (vk:Value) (d:Nat) (w:World) (hs:c.size≤4096) (b:c.data.toList≠[]):zBO (32) c As Am cs cm vk d (0) (0) false 0 w false:=by
 unfold zBO;obtain⟨e,f⟩:=zBN hs;obtain⟨f1,g,f3⟩:=zNM b;clear b f1;go_enter func25,ntmps25;go_wp2_with fail;go_ret;exact⟨rfl,by go_grown⟩
theorem zS3 (As Am:jQ) (cs cm:Nat) (vk:Value) (b:Nat) (w:World) (c:b≤4096):zBO (32) ⟨#[]⟩ As Am cs cm vk b (0) (0) false 0 w true:=by
 unfold zBO;have l1:(b:Int)≤4096:=by omega
 have l2:decide ((b:Int)≤4096)=true:=yBE l1;go_enter func25,ntmps25;go_wp2_with fail;go_ret;exact⟨rfl,by go_grown⟩
theorem zWY (As Am:jQ) (cs cm:Nat) (vk:Value) (b:Nat) (w:World) (c:4096 < b):zBO (32) ⟨#[]⟩ As Am cs cm vk b (0) (0) false 0 w false:=by
 unfold zBO;have l1:¬(b:Int)≤4096:=by omega
 have l2:decide ((b:Int)≤4096)=false:=yAI l1;go_enter func25,ntmps25;go_wp2_with fail;go_ret;exact⟨rfl,by go_grown⟩
theorem zPg (b:ByteArray) (As Am:jQ) (cs cm:Nat) (vk:Value) (c:Nat) (nk:Int) (nn:Int) (d:Bool) (e:Nat) (w:World) (hs:b.size≤4096) (f:nk≠0):zBO (40) b As Am cs cm vk c (nk) (nn) d e w false:=by
 unfold zBO;obtain⟨g,j⟩:=zBN hs;obtain⟨k,l⟩:=zSz f;go_enter func25,ntmps25;go_wp2_with fail;go_ret;exact⟨rfl,by go_grown⟩
theorem zPh (b:ByteArray) (As Am:jQ) (cs cm:Nat) (vk:Value) (c:Nat) (nn:Int) (d:Bool) (e:Nat) (w:World) (hs:b.size≤4096) (f:nn≠0):zBO (40) b As Am cs cm vk c (0) (nn) d e w false:=by
 unfold zBO;obtain⟨g,j⟩:=zBN hs;obtain⟨k,l⟩:=zSz f;go_enter func25,ntmps25;go_wp2_with fail;go_ret;exact⟨rfl,by go_grown⟩
theorem zS4 (b:ByteArray) (As Am:jQ) (cs cm:Nat) (vk:Value) (c:Nat) (d:Nat) (w:World) (hs:b.size≤4096):zBO (40) b As Am cs cm vk c (0) (0) true d w false:=by
 unfold zBO;obtain⟨e,f⟩:=zBN hs;go_enter func25,ntmps25;go_wp2_with fail;go_ret;exact⟨rfl,by go_grown⟩
theorem zS5 (b:ByteArray) (As Am:jQ) (cs cm:Nat) (vk:Value) (d:Nat) (c:Nat) (w:World) (hs:b.size≤4096) (e:0 < c):zBO (40) b As Am cs cm vk d (0) (0) false c w false:=by
 unfold zBO;obtain⟨f,g⟩:=zBN hs;obtain⟨l1,l2,j⟩:=zKf e;go_enter func25,ntmps25;go_wp2_with fail;go_ret;exact⟨rfl,by go_grown⟩
theorem zPi (c:ByteArray) (As Am:jQ) (cs cm:Nat) (vk:Value) (d:Nat) (w:World) (hs:c.size≤4096) (b:c.data.toList≠[]):zBO (40) c As Am cs cm vk d (0) (0) false 0 w false:=by
 unfold zBO;obtain⟨e,f⟩:=zBN hs;obtain⟨f1,g,f3⟩:=zNM b;clear b f1;go_enter func25,ntmps25;go_wp2_with fail;go_ret;exact⟨rfl,by go_grown⟩
theorem zS6 (As Am:jQ) (cs cm:Nat) (vk:Value) (b:Nat) (w:World) (c:b≤4096):zBO (40) ⟨#[]⟩ As Am cs cm vk b (0) (0) false 0 w true:=by
 unfold zBO;have l1:(b:Int)≤4096:=by omega
 have l2:decide ((b:Int)≤4096)=true:=yBE l1;go_enter func25,ntmps25;go_wp2_with fail;go_ret;exact⟨rfl,by go_grown⟩
theorem zWZ (As Am:jQ) (cs cm:Nat) (vk:Value) (b:Nat) (w:World) (c:4096 < b):zBO (40) ⟨#[]⟩ As Am cs cm vk b (0) (0) false 0 w false:=by
 unfold zBO;have l1:¬(b:Int)≤4096:=by omega
 have l2:decide ((b:Int)≤4096)=false:=yAI l1;go_enter func25,ntmps25;go_wp2_with fail;go_ret;exact⟨rfl,by go_grown⟩
theorem zS7 (b:ByteArray) (As Am:jQ) (cs cm:Nat) (vk:Value) (c:Nat) (nk:Int) (nn:Int) (d:Bool) (e:Nat) (w:World) (hs:b.size≤4096) (f:0 < c):zBO (30) b As Am cs cm vk c (nk) (nn) d e w false:=by
 unfold zBO;obtain⟨g,j⟩:=zBN hs;obtain⟨l1,l2,k⟩:=zKf f;go_enter func25,ntmps25;go_wp2_with fail;go_ret;exact⟨rfl,by go_grown⟩
theorem zS8 (b:ByteArray) (As Am:jQ) (cs cm:Nat) (vk:Value) (nk:Int) (nn:Int) (c:Nat) (w:World) (hs:b.size≤4096):zBO (30) b As Am cs cm vk 0 (nk) (nn) true c w false:=by
 unfold zBO;obtain⟨d,e⟩:=zBN hs;go_enter func25,ntmps25;go_wp2_with fail;go_ret;exact⟨rfl,by go_grown⟩
theorem zS9 (b:ByteArray) (As Am:jQ) (cs cm:Nat) (vk:Value) (nk:Int) (nn:Int) (c:Nat) (w:World) (hs:b.size≤4096) (d:0 < c):zBO (30) b As Am cs cm vk 0 (nk) (nn) false c w false:=by
 unfold zBO;obtain⟨e,f⟩:=zBN hs;obtain⟨l1,l2,g⟩:=zKf d;go_enter func25,ntmps25;go_wp2_with fail;go_ret;exact⟨rfl,by go_grown⟩
theorem zPj (c:ByteArray) (As Am:jQ) (cs cm:Nat) (vk:Value) (nk:Int) (nn:Int) (w:World) (hs:c.size≤4096) (b:c.data.toList≠[]):zBO (30) c As Am cs cm vk 0 (nk) (nn) false 0 w false:=by
 unfold zBO;obtain⟨d,e⟩:=zBN hs;obtain⟨f1,f,f3⟩:=zNM b;clear b f1;go_enter func25,ntmps25;go_wp2_with fail;go_ret;exact⟨rfl,by go_grown⟩
theorem zPk (As Am:jQ) (cs cm:Nat) (vk:Value) (nk:Int) (nn:Int) (w:World) (b:nk≠0):zBO (30) ⟨#[]⟩ As Am cs cm vk 0 (nk) (nn) false 0 w false:=by
 unfold zBO;obtain⟨c,d⟩:=zSz b;go_enter func25,ntmps25;go_wp2_with fail;go_ret;exact⟨rfl,by go_grown⟩
theorem zTA (As Am:jQ) (cs cm:Nat) (vk:Value) (nn:Int) (w:World) (c:zDg 0 nn=false):zBO (30) ⟨#[]⟩ As Am cs cm vk 0 (0) (nn) false 0 w false:=by
 unfold zBO;have d:=zA (fun w=>by have:=zID 0 nn w;rwa[c]at this);clear c;go_enter func25,ntmps25;go_wp2_with (go_at_call 45;refine(d.out _).mono ?_;rintro e1 w1 ⟨rfl,b⟩;have e:=b.cell (p:=⟨w.heap.size,4,none⟩) js);go_ret;exact⟨rfl,zEz b⟩
theorem zTB (As Am:jQ) (cs cm:Nat) (vk:Value) (nn:Int) (w:World) (c:zDg 0 nn=true) (d:0≤nn):zBO (30) ⟨#[]⟩ As Am cs cm vk 0 (0) (nn) false 0 w true:=by
 unfold zBO;have e:=zA (fun w=>by have:=zID 0 nn w;rwa[c]at this);clear c;have l2:decide ((0:Int)≤nn)=true:=yBE d;go_enter func25,ntmps25;go_wp2_with (go_at_call 45;refine(e.out _).mono ?_;rintro e1 w1 ⟨rfl,b⟩;have f:=b.cell (p:=⟨w.heap.size,4,none⟩) js);go_ret;exact⟨rfl,zEz b⟩
theorem zWa (As Am:jQ) (cs cm:Nat) (vk:Value) (nn:Int) (w:World) (c:zDg 0 nn=true) (d:¬0≤nn):zBO (30) ⟨#[]⟩ As Am cs cm vk 0 (0) (nn) false 0 w false:=by
 unfold zBO;have e:=zA (fun w=>by have:=zID 0 nn w;rwa[c]at this);clear c;have l2:decide ((0:Int)≤nn)=false:=yAI d;go_enter func25,ntmps25;go_wp2_with (go_at_call 45;refine(e.out _).mono ?_;rintro e1 w1 ⟨rfl,b⟩;have f:=b.cell (p:=⟨w.heap.size,4,none⟩) js);go_ret;exact⟨rfl,zEz b⟩
theorem zTC (b:ByteArray) (As Am:jQ) (cs cm:Nat) (vk:Value) (c:Nat) (nk:Int) (nn:Int) (d:Bool) (e:Nat) (w:World) (hs:b.size≤4096) (f:0 < c):zBO (31) b As Am cs cm vk c (nk) (nn) d e w false:=by
 unfold zBO;obtain⟨g,j⟩:=zBN hs;obtain⟨l1,l2,k⟩:=zKf f;go_enter func25,ntmps25;go_wp2_with fail;go_ret;exact⟨rfl,by go_grown⟩
theorem zPl (b:ByteArray) (As Am:jQ) (cs cm:Nat) (vk:Value) (nk:Int) (nn:Int) (c:Bool) (d:Nat) (w:World) (hs:b.size≤4096) (e:nk≠0):zBO (31) b As Am cs cm vk 0 (nk) (nn) c d w false:=by
 unfold zBO;obtain⟨f,g⟩:=zBN hs;obtain⟨j,k⟩:=zSz e;go_enter func25,ntmps25;go_wp2_with fail;go_ret;exact⟨rfl,by go_grown⟩
theorem zPm (b:ByteArray) (As Am:jQ) (cs cm:Nat) (vk:Value) (nn:Int) (c:Bool) (d:Nat) (w:World) (hs:b.size≤4096) (e:nn≠0):zBO (31) b As Am cs cm vk 0 (0) (nn) c d w false:=by
 unfold zBO;obtain⟨f,g⟩:=zBN hs;obtain⟨j,k⟩:=zSz e;go_enter func25,ntmps25;go_wp2_with fail;go_ret;exact⟨rfl,by go_grown⟩
theorem zPn (c:ByteArray) (As Am:jQ) (cs cm:Nat) (vk:Value) (d:Bool) (e:Nat) (w:World) (hs:c.size≤4096) (b:c.data.toList≠[]):zBO (31) c As Am cs cm vk 0 (0) (0) d e w false:=by
 unfold zBO;obtain⟨f,g⟩:=zBN hs;obtain⟨f1,j,f3⟩:=zNM b;clear b f1;go_enter func25,ntmps25;go_wp2_with fail;go_ret;exact⟨rfl,by go_grown⟩
theorem zGg (As Am:jQ) (cs cm:Nat) (vk:Value) (c:Nat) (w:World) (d:∀w1,jY w w1→Calls prog 46 #[.agg #[false,.slice Am c cm]] w1 (BmP true w1)):zBO (31) ⟨#[]⟩ As Am cs cm vk 0 (0) (0) false c w true:=by
 unfold zBO;have e:=zA d;clear d;go_enter func25,ntmps25;go_wp2_with (go_at_call 46;refine(e.out _ (ja)).mono ?_;rintro e1 w1 ⟨rfl,b⟩;have f:=b.cell (p:=⟨w.heap.size,5,none⟩) js);go_ret;exact⟨rfl,zEz b⟩
theorem zHN (As Am:jQ) (cs cm:Nat) (vk:Value) (c:Nat) (w:World) (d:∀w1,jY w w1→Calls prog 46 #[.agg #[true,.slice Am c cm]] w1 (BmP true w1)):zBO (31) ⟨#[]⟩ As Am cs cm vk 0 (0) (0) true c w false:=by
 unfold zBO;have e:=zA d;clear d;go_enter func25,ntmps25;go_wp2_with (go_at_call 46;refine(e.out _ (ja)).mono ?_;rintro e1 w1 ⟨rfl,b⟩;have f:=b.cell (p:=⟨w.heap.size,5,none⟩) js);go_ret;exact⟨rfl,zEz b⟩
theorem zF0 (As Am:jQ) (cs cm:Nat) (vk:Value) (c:Nat) (w:World) (d:∀w1,jY w w1→Calls prog 46 #[.agg #[false,.slice Am c cm]] w1 (BmP false w1)):zBO (31) ⟨#[]⟩ As Am cs cm vk 0 (0) (0) false c w false:=by
 unfold zBO;have e:=zA d;clear d;go_enter func25,ntmps25;go_wp2_with (go_at_call 46;refine(e.out _ (ja)).mono ?_;rintro e1 w1 ⟨rfl,b⟩;have f:=b.cell (p:=⟨w.heap.size,5,none⟩) js);go_ret;exact⟨rfl,zEz b⟩
theorem zGh (As Am:jQ) (cs cm:Nat) (vk:Value) (c:Nat) (w:World) (d:∀w1,jY w w1→Calls prog 46 #[.agg #[true,.slice Am c cm]] w1 (BmP false w1)):zBO (31) ⟨#[]⟩ As Am cs cm vk 0 (0) (0) true c w false:=by
 unfold zBO;have e:=zA d;clear d;go_enter func25,ntmps25;go_wp2_with (go_at_call 46;refine(e.out _ (ja)).mono ?_;rintro e1 w1 ⟨rfl,b⟩;have f:=b.cell (p:=⟨w.heap.size,5,none⟩) js);go_ret;exact⟨rfl,zEz b⟩
theorem zWb (k:Int) (b:ByteArray) (As Am:jQ) (cs cm:Nat) (vk:Value) (c:Nat) (nk:Int) (nn:Int) (d:Bool) (e:Nat) (w:World) (h:∀j∈([32,40,30,31]:List Int),k≠j) (hs:b.size≤4096) (f:0 < c):zBO (k) b As Am cs cm vk c (nk) (nn) d e w false:=by
 unfold zBO;have g:(k==32)=false:=yA.2 (h 32 jd);have l:(k==40)=false:=yA.2 (h 40 jd);have m:(k==30)=false:=yA.2 (h 30 jd);have o:(k==31)=false:=yA.2 (h 31 jd);have p:(k !=32)=true:=yBM.2 (h 32 jd);have q:(k !=40)=true:=yBM.2 (h 40 jd);have r:(k !=30)=true:=yBM.2 (h 30 jd);have s:(k !=31)=true:=yBM.2 (h 31 jd);clear h;obtain⟨t,u⟩:=zBN hs;obtain⟨l1,l2,v⟩:=zKf f;go_enter func25,ntmps25;go_wp2_with fail;go_ret;exact⟨rfl,by go_grown⟩
theorem zTD (k:Int) (b:ByteArray) (As Am:jQ) (cs cm:Nat) (vk:Value) (nk:Int) (nn:Int) (c:Bool) (d:Nat) (w:World) (h:∀j∈([32,40,30,31]:List Int),k≠j) (hs:b.size≤4096) (e:nk≠0):zBO (k) b As Am cs cm vk 0 (nk) (nn) c d w false:=by
 unfold zBO;have f:(k==32)=false:=yA.2 (h 32 jd);have g:(k==40)=false:=yA.2 (h 40 jd);have l:(k==30)=false:=yA.2 (h 30 jd);have m:(k==31)=false:=yA.2 (h 31 jd);have o:(k !=32)=true:=yBM.2 (h 32 jd);have p:(k !=40)=true:=yBM.2 (h 40 jd);have q:(k !=30)=true:=yBM.2 (h 30 jd);have r:(k !=31)=true:=yBM.2 (h 31 jd);clear h;obtain⟨s,t⟩:=zBN hs;obtain⟨u,v⟩:=zSz e;go_enter func25,ntmps25;go_wp2_with fail;go_ret;exact⟨rfl,by go_grown⟩
theorem zTE (k:Int) (b:ByteArray) (As Am:jQ) (cs cm:Nat) (vk:Value) (nn:Int) (c:Bool) (d:Nat) (w:World) (h:∀j∈([32,40,30,31]:List Int),k≠j) (hs:b.size≤4096) (e:nn≠0):zBO (k) b As Am cs cm vk 0 (0) (nn) c d w false:=by
 unfold zBO;have f:(k==32)=false:=yA.2 (h 32 jd);have g:(k==40)=false:=yA.2 (h 40 jd);have l:(k==30)=false:=yA.2 (h 30 jd);have m:(k==31)=false:=yA.2 (h 31 jd);have o:(k !=32)=true:=yBM.2 (h 32 jd);have p:(k !=40)=true:=yBM.2 (h 40 jd);have q:(k !=30)=true:=yBM.2 (h 30 jd);have r:(k !=31)=true:=yBM.2 (h 31 jd);clear h;obtain⟨s,t⟩:=zBN hs;obtain⟨u,v⟩:=zSz e;go_enter func25,ntmps25;go_wp2_with fail;go_ret;exact⟨rfl,by go_grown⟩
theorem zWc (k:Int) (b:ByteArray) (As Am:jQ) (cs cm:Nat) (vk:Value) (c:Nat) (w:World) (h:∀j∈([32,40,30,31]:List Int),k≠j) (hs:b.size≤4096):zBO (k) b As Am cs cm vk 0 (0) (0) true c w false:=by
 unfold zBO;have d:(k==32)=false:=yA.2 (h 32 jd);have e:(k==40)=false:=yA.2 (h 40 jd);have f:(k==30)=false:=yA.2 (h 30 jd);have g:(k==31)=false:=yA.2 (h 31 jd);have l:(k !=32)=true:=yBM.2 (h 32 jd);have m:(k !=40)=true:=yBM.2 (h 40 jd);have o:(k !=30)=true:=yBM.2 (h 30 jd);have p:(k !=31)=true:=yBM.2 (h 31 jd);clear h;obtain⟨q,r⟩:=zBN hs;go_enter func25,ntmps25;go_wp2_with fail;go_ret;exact⟨rfl,by go_grown⟩
theorem zWd (k:Int) (b:ByteArray) (As Am:jQ) (cs cm:Nat) (vk:Value) (c:Nat) (w:World) (h:∀j∈([32,40,30,31]:List Int),k≠j) (hs:b.size≤4096) (d:0 < c):zBO (k) b As Am cs cm vk 0 (0) (0) false c w false:=by
 unfold zBO;have e:(k==32)=false:=yA.2 (h 32 jd);have f:(k==40)=false:=yA.2 (h 40 jd);have g:(k==30)=false:=yA.2 (h 30 jd);have l:(k==31)=false:=yA.2 (h 31 jd);have m:(k !=32)=true:=yBM.2 (h 32 jd);have o:(k !=40)=true:=yBM.2 (h 40 jd);have p:(k !=30)=true:=yBM.2 (h 30 jd);have q:(k !=31)=true:=yBM.2 (h 31 jd);clear h;obtain⟨r,s⟩:=zBN hs;obtain⟨l1,l2,t⟩:=zKf d;go_enter func25,ntmps25;go_wp2_with fail;go_ret;exact⟨rfl,by go_grown⟩
theorem zTF (k:Int) (b:ByteArray) (As Am:jQ) (cs cm:Nat) (vk:Value) (w:World) (h:∀j∈([32,40,30,31]:List Int),k≠j) (hs:b.size≤4096) (c:zC4 k b.data.toList=q):zBO (k) b As Am cs cm vk 0 (0) (0) false 0 w q:=by
 unfold zBO;have f:(k==32)=false:=yA.2 (h 32 jd);have g:(k==40)=false:=yA.2 (h 40 jd);have l:(k==30)=false:=yA.2 (h 30 jd);have m:(k==31)=false:=yA.2 (h 31 jd);have o:(k !=32)=true:=yBM.2 (h 32 jd);have p:(k !=40)=true:=yBM.2 (h 40 jd);have r:(k !=30)=true:=yBM.2 (h 30 jd);have s:(k !=31)=true:=yBM.2 (h 31 jd);clear h;obtain⟨t,u⟩:=zBN hs;have e:=zA (fun w=>zPa k b (.slice As 0 cs) (.slice Am 0 cm) vk 0 0 false w jo c);clear c;go_enter func25,ntmps25;go_wp2_with (go_at_call 47;refine(e.out _).mono ?_;rintro e1 w1 ⟨rfl,d⟩);go_ret;exact⟨rfl,zEz d⟩
theorem BmP.of {p:Bool} {e:Ending} (h:p=q) (b:BmP p w e w'):BmP q w e w':=h▸b
theorem zNP (H:NdR w B x s) (hB:B≤w.heap.size) (I:zL x=q):
 Calls prog 25 #[.agg #[x.kind,x.name,.slice s.As x.str.length s.cs,x.nk,x.nn,x.neg,.slice s.Am x.mag.length s.cm,.slice s.Ak x.kids.length s.ck]] w (BmP q w):=by
 have p:=H.mag;have r:=H.limb;obtain⟨kind,name,str,nk,nn,neg,mag,kids⟩:=x;obtain⟨As,Am,Ak,cs,cm,ck⟩:=s;simp only at p r⊢;clear H;obtain⟨c,F⟩:∃c:ByteArray,⟨name.toArray⟩=c:=⟨_,rfl⟩;have m:c.data.toList=name:=by rw[←F]
 have L:c.size=name.length:=by rw[←m];simp
 rw[F];subst I;have k:name=[]→c=⟨#[]⟩:=fun e=>zIQ (by rw[m];exact e);have A:∀l:jH,l≠[]→0 < l.length:=fun l h=>yCL.2 h;have t:∀l:List Nat,l≠[]→0 < l.length:=fun l h=>yCL.2 h
 by_cases h1:4096 < name.length
 · exact(zKg kind c As Am cs cm _ _ nk nn neg _ w jo).mono fun e w' h=>h.of (by simp[zL,h1])
 have hs:c.size≤4096:=by omega
 by_cases C:kind=32
 · subst C
   by_cases hk:nk=0
   · subst hk
     by_cases f:nn=0
     · subst f;cases neg with
       | true=>exact(zS1 c As Am cs cm _ _ _ w hs).mono fun e w' h=>h.of (by simp[zL])
       | false=>
        by_cases g:mag=[]
        · subst g
          by_cases b:name=[]
          · obtain rfl:=k b
            by_cases o:str.length≤4096
            · exact(zS3 As Am cs cm _ _ w o).mono fun e w' h=>h.of (by simp[zL,b,o])
            · exact(zWY As Am cs cm _ _ w jo).mono fun e w' h=>h.of (by simp[zL,b,o])
          · exact(zPf c As Am cs cm _ _ w hs (by rw[m];exact b)).mono fun e w' h=>h.of (by simp[zL,b])
        · exact(zS2 c As Am cs cm _ _ _ w hs (t _ g)).mono fun e w' h=>h.of (by simp[zL,g])
     · exact(zPe c As Am cs cm _ _ nn neg _ w hs f).mono fun e w' h=>h.of (by simp[zL,f])
   · exact(zPd c As Am cs cm _ _ nk nn neg _ w hs hk).mono fun e w' h=>h.of (by simp[zL,hk])
 by_cases D:kind=40
 · subst D
   by_cases hk:nk=0
   · subst hk
     by_cases f:nn=0
     · subst f;cases neg with
       | true=>exact(zS4 c As Am cs cm _ _ _ w hs).mono fun e w' h=>h.of (by simp[zL])
       | false=>
        by_cases g:mag=[]
        · subst g
          by_cases b:name=[]
          · obtain rfl:=k b
            by_cases o:str.length≤4096
            · exact(zS6 As Am cs cm _ _ w o).mono fun e w' h=>h.of (by simp[zL,b,o])
            · exact(zWZ As Am cs cm _ _ w jo).mono fun e w' h=>h.of (by simp[zL,b,o])
          · exact(zPi c As Am cs cm _ _ w hs (by rw[m];exact b)).mono fun e w' h=>h.of (by simp[zL,b])
        · exact(zS5 c As Am cs cm _ _ _ w hs (t _ g)).mono fun e w' h=>h.of (by simp[zL,g])
     · exact(zPh c As Am cs cm _ _ nn neg _ w hs f).mono fun e w' h=>h.of (by simp[zL,f])
   · exact(zPg c As Am cs cm _ _ nk nn neg _ w hs hk).mono fun e w' h=>h.of (by simp[zL,hk])
 by_cases u:kind=30
 · subst u
   by_cases d:str=[]
   · subst d;cases neg with
     | true=>exact(zS8 c As Am cs cm _ nk nn _ w hs).mono fun e w' h=>h.of (by simp[zL])
     | false=>
      by_cases g:mag=[]
      · subst g
        by_cases b:name=[]
        · obtain rfl:=k b
          by_cases hk:nk=0
          · subst hk;cases hmay:zDg 0 nn with
            | false=>exact(zTA As Am cs cm _ nn w hmay).mono fun e w' h=>h.of (by simp[zL,hmay])
            | true=>
             by_cases E:0≤nn
             · exact(zTB As Am cs cm _ nn w hmay E).mono fun e w' h=>h.of (by simp[zL,hmay,b,E])
             · exact(zWa As Am cs cm _ nn w hmay E).mono fun e w' h=>h.of (by simp[zL,E])
          · exact(zPk As Am cs cm _ nk nn w hk).mono fun e w' h=>h.of (by simp[zL,hk])
        · exact(zPj c As Am cs cm _ nk nn w hs (by rw[m];exact b)).mono fun e w' h=>h.of (by simp[zL,b])
      · exact(zS9 c As Am cs cm _ nk nn _ w hs (t _ g)).mono fun e w' h=>h.of (by simp[zL,g])
   · exact(zS7 c As Am cs cm _ _ nk nn neg _ w hs (A _ d)).mono fun e w' h=>h.of (by simp[zL,d])
 by_cases v:kind=31
 · subst v
   by_cases d:str=[]
   · subst d
     by_cases hk:nk=0
     · subst hk
       by_cases f:nn=0
       · subst f
         by_cases b:name=[]
         · obtain rfl:=k b;have y:∀q,zBL neg mag=q→∀w1,jY w w1→Calls prog 46 #[.agg #[neg,.slice Am mag.length cm]] w1 (BmP q w1):=fun q I w1 G=>zIR neg rfl ((p.below (G.mono hB))) (yAD hB G.size) r I;cases neg with
           | false=>
            cases hmay:zBL false mag with
            | true=>exact(zGg As Am cs cm _ _ w (y _ hmay)).mono fun e w' h=>h.of (by simp[zL,hmay,b])
            | false=>exact(zF0 As Am cs cm _ _ w (y _ hmay)).mono fun e w' h=>h.of (by simp[zL,hmay])
           | true=>
            cases hmay:zBL true mag with
            | true=>exact(zHN As Am cs cm _ _ w (y _ hmay)).mono fun e w' h=>h.of (by simp[zL])
            | false=>exact(zGh As Am cs cm _ _ w (y _ hmay)).mono fun e w' h=>h.of (by simp[zL])
         · exact(zPn c As Am cs cm _ neg _ w hs (by rw[m];exact b)).mono fun e w' h=>h.of (by simp[zL,b])
       · exact(zPm c As Am cs cm _ nn neg _ w hs f).mono fun e w' h=>h.of (by simp[zL,f])
     · exact(zPl c As Am cs cm _ nk nn neg _ w hs hk).mono fun e w' h=>h.of (by simp[zL,hk])
   · exact(zTC c As Am cs cm _ _ nk nn neg _ w hs (A _ d)).mono fun e w' h=>h.of (by simp[zL,d])
 · have z:∀j∈([32,40,30,31]:List Int),kind≠j:=fun j J=>by simp only[yAW,yBV,or_false]at J;omega
   by_cases d:str=[]
   · subst d
     by_cases hk:nk=0
     · subst hk
       by_cases f:nn=0
       · subst f;cases neg with
         | true=>exact(zWc kind c As Am cs cm _ _ w z hs).mono fun e w' h=>h.of (by simp[zL,v])
         | false=>
          by_cases g:mag=[]
          · subst g;exact(zTF kind c As Am cs cm _ w z hs rfl).mono fun e w' h=>h.of (by simp[zL,v,C,D,u,h1,m])
          · exact(zWd kind c As Am cs cm _ _ w z hs (t _ g)).mono fun e w' h=>h.of (by simp[zL,g,v])
       · exact(zTE kind c As Am cs cm _ nn neg _ w z hs f).mono fun e w' h=>h.of (by simp[zL,f,u])
     · exact(zTD kind c As Am cs cm _ nk nn neg _ w z hs hk).mono fun e w' h=>h.of (by simp[zL,hk,u])
   · exact(zWb kind c As Am cs cm _ _ nk nn neg _ w z hs (A _ d)).mono fun e w' h=>h.of (by simp[zL,d,C,D])
theorem zCU (h:Below W.drew.heap.size W.drew w):jY W w:=⟨h.os,h.tape,h.output,h.size,h.block⟩
theorem zJH {l:List Nat} (h:l.all (fun s=>decide (s≤n))=true):∀s∈l,s≤n:=fun s hs=>by simpa using yBH.1 h s hs
theorem zTG (k:Int) (n:Nat):(∀s∈(zu k n).1,s≤13)∧(zu k n).2≤13:=by
 have f:∀{p:Prop} [Decidable p] {a b:List Nat×Nat},((∀s∈a.1,s≤13)∧a.2≤13)→((∀s∈b.1,s≤13)∧b.2≤13)→((∀s∈(if p then a else b).1,s≤13)∧(if p then a else b).2≤13):=fun h1 c=>by split<;>assumption
 have g:∀(l:List Nat) (r:Nat),l.all (fun s=>decide (s≤13))=true→r≤13→((∀s∈((l,r):List Nat×Nat).1,s≤13)∧((l,r):List Nat×Nat).2≤13):=fun l r h1 c=>⟨zJH h1,c⟩;have t:∀(l:List Nat) (m:Nat),l.all (fun s=>decide (s≤13))=true→((∀s∈((l.take m,0):List Nat×Nat).1,s≤13)∧((l.take m,0):List Nat×Nat).2≤13):=fun l m h=>⟨fun s hs=>zJH h s (List.mem_of_mem_take hs),by show 0≤13;omega⟩;have p:∀m last,last≤13→((∀s∈((zBA m last,0):List Nat×Nat).1,s≤13)∧((zBA m last,0):List Nat×Nat).2≤13):=fun m last h=>⟨fun s hs=>by
  unfold zBA at hs;rcases yBQ.1 hs with h1 | h1
  · have:=List.eq_of_mem_replicate h1;omega
  · have:=yBT.1 h1;omega,by show 0≤13;omega⟩
 unfold zu
 repeat' refine f ?_ ?_
 all_goals first | exact g _ _ jd jd | exact t _ _ jd | exact p _ _ jd
theorem zGi (ts:List Nd) (b:List Nat) (r j:Nat) (y:Int) (ks:List Int):zBo ts (b.drop j) r (y::ks)=(zAd (b.getD j r) (atN ts y).kind&&zBo ts (b.drop (j+1)) r ks):=by
 by_cases h:j < b.length
 · rw[yAH h,yAG,yAB h];rfl
 · rw[yCA jo,yCA jo,yAG,yBC jo];rfl
theorem zHk (h:zC3 x.kind=false):zCz ts x=false:=by unfold zCz;rw[h];simp
theorem zPo (h:¬(zu x.kind x.kids.length).1.length≤x.kids.length):zCz ts x=false:=by unfold zCz;rw[yAI h];simp
theorem zGj (h:zBo ts (zu x.kind x.kids.length).1 (zu x.kind x.kids.length).2 x.kids=false):zCz ts x=false:=by unfold zCz;rw[h];simp
theorem zGk (h1:zC3 x.kind=true) (b:(zu x.kind x.kids.length).1.length≤x.kids.length) (c:zBo ts (zu x.kind x.kids.length).1 (zu x.kind x.kids.length).2 x.kids=true):
 zCz ts x=(if x.kind=16 then((atN ts (x.kids.getD 1 0)).kind==17 || (atN ts (x.kids.getD 2 0)).kind==4)else if x.kind=8∧x.kids.length=3 then !(zDf ts (x.kids.getD 1 0))else true):=by
 unfold zCz;rw[h1,yBE b,c];rfl
theorem zTH (hN:NdsR w B A n ts) (hB:B≤w.heap.size) (hf:Fwd ts) (b8:∀x∈ts,x.kids.length≤1000000) (hx:ts[m]? =some x) (hq:zCz ts x=q):
 Calls prog 26 #[.agg #[.slice A n c],m] w (BmP q w):=by
 have g0:m < n:=by have:=(yAT.1 hx).1;rwa[hN.1]at this
 obtain⟨b,o,x',s,rfl,l4,e0,hC,hR⟩:=hN.get g0;obtain rfl:x=x':=yBI (hx.symm.trans e0);obtain⟨W,hW⟩:=jx (w.alloc (.cells #[.slice (some ⟨b,o,none⟩) n c] 24));have b9:jY w W:=jb hW;have g3:w.heap.size < W.heap.size:=by rw[←hW];simp
 have e4:W.cell? w.heap.size=some (.slice (some ⟨b,o,none⟩) n c):=jc hW;obtain⟨g4,g5,g6,g7,g8,g9,h7,h9⟩:=hC.below b9 jo;have c0:=hf m x hx;rw[hN.1]at c0;have j0:=zA c0;have e6:=b8 x (yCG hx);have HF:=zA hf;have e7:=zA b8;have j1:=zA b9;have HN:=zA hN;have HR:=zA hR;have HQ:=zA hq;have HB:=zA hB;clear hx e0 hC hR b9 c0 hf b8 hN hq;go_enter func26,ntmps26;go_upto_region 2 with(fail);have HW:=zA hW;obtain⟨W1,a1⟩:=jx (W.alloc (.cells #[x.kind,x.name,.slice s.As x.str.length s.cs,x.nk,x.nn,x.neg,.slice s.Am x.mag.length s.cm,.slice s.Ak x.kids.length s.ck] 58));rw[a1];have c3:jY W W1:=jb a1;have j2:W1.heap.size=W.heap.size+1:=by rw[←a1];simp
 have p0:W1.cell? W.heap.size=some (.int .i64 x.kind):=jc a1;have p7:W1.cell? ⟨W.heap.size,7,none⟩=some (.slice s.Ak x.kids.length s.ck):=jc a1;have pb:W1.cell? w.heap.size=some (.slice (some ⟨b,o,none⟩) n c):=(c3.cell (p:=w.heap.size) (show w.heap.size < W.heap.size by omega)).trans e4;have j3:=zA (j1.out.trans (c3.mono jo));clear a1 c3 hW e4 g4 g5 g6 g7 g8 g9 h7 h9;obtain⟨X,hX⟩:=jx W.heap.size;rw[hX]at p0 p7 j2 g3;rw[hX];clear hX;obtain⟨K,hK⟩:=jx x.kind;obtain⟨L,hL⟩:=jx x.kids.length;rw[hK]at p0;rw[hL]at p7 e6;obtain⟨⟨r,rr⟩,b2⟩:=jx (zu K L);have u:=zA b2;have b0:=zTG K L;rw[b2]at b0;have c4:=zA b0;have HC:=zA (show∀w1,Calls prog 48 #[K,L] w1 (zCC w1 (r,rr))from fun w1=>by have:=zPH K L e6 w1;rwa[b2]at this);have D:=zA hK;have t:=zA hL;clear b2 b0 hK hL;go_upto_region 3 with(go_at_call 48;refine(HC.out _).mono ?_;rintro e2 w2 ⟨Al,cl,rfl,j4,e8,a2⟩);have q0:=(a2.cell (p:=X) (show X < W1.heap.size by omega)).trans p0;have q7:=(a2.cell (p:=⟨X,7,none⟩) (show X < W1.heap.size by omega)).trans p7;have qb:=(a2.cell (p:=w.heap.size) (show w.heap.size < W1.heap.size by omega)).trans pb;have k:=zA (j3.out.trans (a2.mono jo));have c5:=zA (HN.out.below ((k.out).mono HB));have e9:X < w2.heap.size:=by have:=a2.size;omega
 have f0:B≤w2.heap.size:=by have:=HB.out;omega
 obtain⟨z,a3⟩:=jx r.length;have f1:0 < z→∃bl ol,Al=some ⟨bl,ol,none⟩∧∀(j s:Nat),r[j]? =some s→w2.cell? ⟨bl,ol+j,none⟩=some (.int .i64 (s:Int)):=by
  intro h0;have hr:Reads w2 w2.heap.size 1 Al r.length (zEv r):=e8;obtain⟨bl,ol,hA,_,hc⟩:=hr.spotR jo;exact⟨bl,ol,hA,fun j s hs=>hc j _ (by simp[zEv,hs])⟩
 have f8:=zA f1;have R:((r,rr):List Nat×Nat).1.length=z:=a3;have S:=zA a3;clear p0 p7 pb a2 e8 f1 j4;have f2:=zA (HR.out.below ((k.out).mono HB));have b3:=zA (show∀j,j < L→∃(y:Int) (p:Nat) (M:Int),x.kids[j]? =some y∧y=(p:Int)∧(m < p∧p < n)∧(atN ts (p:Int)).kind=M∧w2.cell? ⟨b,o+p*8,none⟩=some (.int .i64 M)from fun j hj=>by
  have f3:j < x.kids.length:=by rw[t.out];exact hj
  have hb:=j0.out x.kids[j] (yAZ f3);obtain⟨p,hp⟩:∃p:Nat,x.kids[j]=(p:Int):=⟨x.kids[j].toNat,by omega⟩;rw[hp]at hb;obtain⟨b',o',xp,sp,hA,_,j5,j6,_⟩:=c5.out.get (i:=p) jo;injection hA with hA;injection hA with hA1 hA2;subst hA1 hA2;exact⟨_,p,xp.kind,yAB f3,hp,⟨by omega,by omega⟩,by rw[zLz j5],j6.k0⟩)
 have E:Hid (∀j,j < L→∃(y:Int) (p:Nat) (M:Int),x.kids[j]? =some y∧y=(p:Int)∧(m < p∧p < n)∧((atN ts (p:Int)).kind=M∧w2.cell? ⟨b,o+p*8,none⟩=some (.int .i64 M))):=b3;have b4:L=0→w2.cell? ⟨X,7,none⟩=some (.slice s.Ak 0 s.ck):=fun e=>by rw[q7,e]
 obtain⟨fq,F⟩:=jx (zBo ts r rr x.kids);have N:=zA F;have c6:x.kids.length=L:=t.out;clear F b3
 by_cases a4:zC3 K=true
 · have c7:=zA a4;have CK:=zA (show∀w1,Calls prog 49 #[K] w1 fun e w'=>e=.returned true∧w1=w' from fun w1=>by have:=zI2 K w1;rwa[a4]at this);clear a4
   by_cases G:r.length≤L
   · have d9:¬(L:Int) < (z:Int):=by rw[←S.out];omega
     have k8:decide ((L:Int) < (z:Int))=false:=yAI d9;have k9:¬L < z:=by omega
     rw[R];clear R a3 c6
     go_upto_if 36 with(go_at_call 49;refine(CK.out _).mono ?_;rintro e3 w3 ⟨rfl,rfl⟩)
     by_cases c8:L=0
     · have j7:¬(0:Int) < (L:Int):=by omega
       have l5:decide ((0:Int) < (L:Int))=false:=yAI j7;have l6:¬0 < L:=by omega
       have g:K≠16:=by
        intro e;have h1:=u.out;rw[e]at h1;have h2:([8,11,12],0)=(r,rr):=h1;injection h2 with h3 h4;rw[←h3]at G;have:([8,11,12]:List Nat).length=3:=rfl;omega
       have f4:x.kids=[]:=yCT.1 (by rw[t.out];exact c8);have F:zBo ts r rr x.kids=true:=by rw[f4];cases r<;>rfl
       have d:=zA (show true=q by
        rw[←HQ.out,zGk (by rw[D.out];exact c7.out) (by rw[D.out,t.out,u.out];exact G) (by rw[D.out,t.out,u.out];exact F),if_neg (by rw[D.out];exact g),if_neg (by rw[t.out];omega)])
       have b5:(K==16)=false:=yA.2 g;have l7:((L:Int)==3)=false:=yA.2 jo;have l8:=zA c8;clear g f4 F c8 b4;go_wp2_with fail
       go_loop [40] (fun i=>i=.int .i64 0) (fun _=>0)
       case atStart=>rfl
       case round=>
        subst hrel
        by_cases l:K=8
        · subst l;go_wp2_with fail;go_ret;exact⟨zF d,k⟩
        · have f5:(K==8)=false:=yA.2 l;clear l;go_wp2_with fail;go_ret;exact⟨zF d,k⟩
     · obtain⟨bk,ok,c9,l9,b6⟩:=f2.out.kids.spotK (by rw[t.out];omega);have H:=zA (show∀(j:Nat) (y:Int),x.kids[j]? =some y→w2.cell? ⟨bk,ok+j,none⟩=some (.int .i64 y)from fun j y hy=>by
        obtain⟨hl,rfl⟩:=yAT.1 hy;exact b6 j hl)
       have l0:L≤s.ck:=by have:=f2.out.ck.1;rwa[t.out]at this
       clear b6 b4;rw[c9]
       by_cases f9:0 < z
       · obtain⟨bl,ol,rfl,d0⟩:=f8.out f9;have j8:=zA d0;clear d0;go_wp2_with fail
         go_loop [40] (fun i=>∃j:Nat,j≤L∧i=.int .i64 j∧Hid (zBo ts (r.drop j) rr (x.kids.drop j)=fq)) (fun i=>L - (intOf i).toNat)
         case atStart=>exact⟨0,yAE _,rfl,N⟩
         case round=>
          obtain⟨j,hj,rfl,C⟩:=hrel
          by_cases T:j < L
          · obtain⟨y,p,M,U,V,j9,Y⟩:=E.out j T;have d1:=H.out j y U;have f:=C.out;rw[yAH (show j < x.kids.length by rw[t.out];exact T),(yAT.1 U).2,zGi,V,Y.1]at f;rw[V]at d1;have b6:=Y.2;clear U V Y C
            by_cases d2:j < r.length
            · obtain⟨s0,b7⟩:∃s0,r[j]? =some s0:=⟨_,yAB d2⟩;have m0:=j8.out j s0 b7;have hg:r.getD j rr=s0:=by rw[yAG,b7];rfl
              rw[hg]at f;have a5:=c4.out.1 s0 (yCG b7);have a6:(j:Int) < (z:Int):=by rw[←S.out];omega
              have f6:decide ((j:Int) < (z:Int))=true:=yBE a6;have f7:j < z:=by omega
              obtain⟨O,I⟩:=jx (zAd s0 M);rw[I]at f;have CF:=zA (show∀w1,Calls prog 50 #[s0,M] w1 fun e w'=>e=.returned O∧w1=w' from fun w1=>by have:=zIE s0 M a5 w1;rwa[I]at this);have Q:=zA f;clear b7 hg f I d2;cases O with
              | false=>
               have d:=zA (show false=q by
                rw[←HQ.out];refine(zGj ?_).symm;rw[D.out,t.out,u.out,N.out];have:=Q.out;rw[Bool.false_and]at this;exact this.symm)
               go_wp2_with (go_at_call 50;refine(CF.out _).mono ?_;rintro e3 w3 ⟨rfl,rfl⟩)
               (try rw[Exit.noGoto_ret])
               go_ret;exact⟨zF d,k⟩
              | true=>
               go_wp2_with (go_at_call 50;refine(CF.out _).mono ?_;rintro e3 w3 ⟨rfl,rfl⟩);go_round
               case rel=>exact⟨j+1,by omega,by go_num,by have:=Q.out;rwa[yC]at this⟩
               case measure=>simp[intOf];omega
            · have hg:r.getD j rr=rr:=by rw[yAG,yBC jo];rfl
              rw[hg]at f;have a5:=c4.out.2;have a6:¬(j:Int) < (z:Int):=by rw[←S.out];omega
              have f6:decide ((j:Int) < (z:Int))=false:=yAI a6;have f7:¬j < z:=by omega
              obtain⟨O,I⟩:=jx (zAd rr M);rw[I]at f;have CF:=zA (show∀w1,Calls prog 50 #[rr,M] w1 fun e w'=>e=.returned O∧w1=w' from fun w1=>by have:=zIE rr M a5 w1;rwa[I]at this);have Q:=zA f;clear hg f I d2;cases O with
              | false=>
               have d:=zA (show false=q by
                rw[←HQ.out];refine(zGj ?_).symm;rw[D.out,t.out,u.out,N.out];have:=Q.out;rw[Bool.false_and]at this;exact this.symm)
               go_wp2_with (go_at_call 50;refine(CF.out _).mono ?_;rintro e3 w3 ⟨rfl,rfl⟩)
               (try rw[Exit.noGoto_ret])
               go_ret;exact⟨zF d,k⟩
              | true=>
               go_wp2_with (go_at_call 50;refine(CF.out _).mono ?_;rintro e3 w3 ⟨rfl,rfl⟩);go_round
               case rel=>exact⟨j+1,by omega,by go_num,by have:=Q.out;rwa[yC]at this⟩
               case measure=>simp[intOf];omega
          · obtain rfl:L=j:=by omega
            have a7:=zA (show fq=true by
             rw[←C.out,yCA (show x.kids.length≤L by rw[t.out];omega)];cases r.drop L<;>rfl)
            clear C T;have F:fq=true:=a7.out;have HE:=zA (show q=(if K=16 then((atN ts (x.kids.getD 1 0)).kind==17 || (atN ts (x.kids.getD 2 0)).kind==4)else if K=8∧L=3 then !(zDf ts (x.kids.getD 1 0))else true) by
             rw[←HQ.out,←D.out,←t.out];refine zGk (by rw[D.out];exact c7.out) (by rw[D.out,t.out,u.out];exact G) (by rw[D.out,t.out,u.out,N.out];exact F))
            clear F
            by_cases g:K=16
            · have a8:L=3:=by
               have h1:=u.out;rw[g]at h1;have h2:([8,11,12],0)=(r,rr):=h1;injection h2 with h3 h4;have h5:zBo ts r rr x.kids=true:=N.out.trans a7;rw[←h3,←h4]at h5;have h6:=zKY _ _ h5;rw[t.out]at h6;rw[←h3]at G;have:([8,11,12]:List Nat).length=3:=rfl;omega
              obtain⟨y1,p1,k1,g1,e1,l1,c1⟩:=E.out 1 jo;obtain⟨y2,p2,k2,g2,e2,l2,c2⟩:=E.out 2 jo;have J:=H.out 1 y1 g1;have d3:=H.out 2 y2 g2;rw[e1]at J;rw[e2]at d3;have HV:=zA (show q=(k1==17 || k2==4) by
               rw[HE.out,if_pos g,yAG,g1,yAG,g2,yCI,yCI,e1,e2,c1.1,c2.1])
              have k3:=c1.2;have k4:=c2.2;have d4:(1:Int) < (L:Int):=by omega
              have k5:(2:Int) < (L:Int):=by omega
              clear g1 g2 e1 e2 c1 c2;subst g;subst a8
              by_cases v:k1=17
              · have e5:(k1==17)=true:=by rw[v];rfl
                have d:=zA (show true=q by rw[HV.out,v];rfl);clear v;go_wp2_with fail
                go_quiet (fail)
                go_wp2_with fail;go_ret;exact⟨zF d,zv k _⟩
              · have e5:(k1==17)=false:=yA.2 v;have d:=zA (show(k2==4)=q by rw[HV.out,yA.2 v];rfl);clear v;go_wp2_with fail
                go_quiet (fail)
                go_wp2_with fail;go_ret;exact⟨zF d,zv k _⟩
            by_cases h8:K=8∧L=3
            · obtain⟨l,a9⟩:=h8;obtain⟨y1,p1,k1,g1,e1,l1,c1⟩:=E.out 1 jo;have J:=H.out 1 y1 g1;rw[e1]at J;obtain⟨dq,a0⟩:=jx (zDf ts (p1:Int));have HV:=zA (show(!dq)=q by
               rw[HE.out,if_neg g,if_pos ⟨l,a9⟩,yAG,g1,yCI,e1,a0])
              have d4:(1:Int) < (L:Int):=by omega
              have CD:=zA (fun(wx:World) (hN:NdsR wx B (some ⟨b,o,none⟩) n ts) (hB:B≤wx.heap.size)=>zGf (c:=c) hN hB HF e7 l1.2 a0);have k6:=zA l1;clear g1 e1 c1 a0 l1;subst l;subst a9;have b5:((8:Int)==16)=false:=rfl;have d5:=zA (c5.out.below ((Below.refl B w2).drew));have d6:w.heap.size < w2.heap.size:=by omega
              rw[c9]at q7;have d7:=zA (CD.out w2.drew d5 (show B≤w2.drew.heap.size from f0));go_wp2_with fail;go_region_held3 (fun w'=>w'.cell? w.heap.size=some (.slice (some ⟨b,o,none⟩) n c)∧w'.cell? ⟨X,7,none⟩=some (.slice (some ⟨bk,ok,none⟩) 3 s.ck)∧w'.cell? ⟨bk,ok+1,none⟩=some (.int .i64 (p1:Int)))
               (first | (exact⟨qb,q7,J⟩) | (exact⟨((zCU P).cell (p:=w.heap.size) d6).trans qb,((zCU P).cell (p:=⟨X,7,none⟩) e9).trans q7,((zCU P).cell (p:=⟨bk,ok+1,none⟩) (show bk < w2.heap.size by omega)).trans J⟩) | go_keep)
               (first | (go_at_call 51;go_split_ands;(with_reducible refine d7.out.mono ?_);rintro e3 w3 ⟨rfl,P⟩))
              all_goals go_wp2_with fail
              all_goals go_ret
              all_goals exact⟨zF HV,k.out.trans ((zCU P).mono jo)⟩
            · have b5:(K==16)=false:=yA.2 g;have d:=zA (show true=q by rw[HE.out,if_neg g,if_neg h8])
              by_cases l:K=8
              · subst l;have a8:((L:Int)==3)=false:=yA.2 (fun e=>h8 ⟨rfl,by omega⟩);clear h8 g;go_wp2_with fail;go_ret;exact⟨zF d,k⟩
              · have f5:(K==8)=false:=yA.2 l;clear h8 g l;go_wp2_with fail;go_ret;exact⟨zF d,k⟩
       · have d8:z=0:=by omega
         have l3:=zA d8;clear d8;go_wp2_with fail
         go_loop [40] (fun i=>∃j:Nat,j≤L∧i=.int .i64 j∧Hid (zBo ts (r.drop j) rr (x.kids.drop j)=fq)) (fun i=>L - (intOf i).toNat)
         case atStart=>exact⟨0,yAE _,rfl,N⟩
         case round=>
          obtain⟨j,hj,rfl,C⟩:=hrel
          by_cases T:j < L
          · obtain⟨y,p,M,U,V,j9,Y⟩:=E.out j T;have d1:=H.out j y U;have f:=C.out;rw[yAH (show j < x.kids.length by rw[t.out];exact T),(yAT.1 U).2,zGi,V,Y.1]at f;rw[V]at d1;have b6:=Y.2;clear U V Y C;have a6:¬(j:Int) < (z:Int):=by omega
            have f6:decide ((j:Int) < (z:Int))=false:=yAI a6;have f7:¬j < z:=by omega
            have hg:r.getD j rr=rr:=by rw[yAG,yBC (by rw[S.out];omega)];rfl
            rw[hg]at f;have a5:=c4.out.2;obtain⟨O,I⟩:=jx (zAd rr M);rw[I]at f;have CF:=zA (show∀w1,Calls prog 50 #[rr,M] w1 fun e w'=>e=.returned O∧w1=w' from fun w1=>by have:=zIE rr M a5 w1;rwa[I]at this);have Q:=zA f;clear hg f I;cases O with
            | false=>
             have d:=zA (show false=q by
              rw[←HQ.out];refine(zGj ?_).symm;rw[D.out,t.out,u.out,N.out];have:=Q.out;rw[Bool.false_and]at this;exact this.symm)
             go_wp2_with (go_at_call 50;refine(CF.out _).mono ?_;rintro e3 w3 ⟨rfl,rfl⟩)
             (try rw[Exit.noGoto_ret])
             go_ret;exact⟨zF d,k⟩
            | true=>
             go_wp2_with (go_at_call 50;refine(CF.out _).mono ?_;rintro e3 w3 ⟨rfl,rfl⟩);go_round
             case rel=>exact⟨j+1,by omega,by go_num,by have:=Q.out;rwa[yC]at this⟩
             case measure=>simp[intOf];omega
          · obtain rfl:L=j:=by omega
            have a7:=zA (show fq=true by
             rw[←C.out,yCA (show x.kids.length≤L by rw[t.out];omega)];cases r.drop L<;>rfl)
            clear C T;have F:fq=true:=a7.out;have HE:=zA (show q=(if K=16 then((atN ts (x.kids.getD 1 0)).kind==17 || (atN ts (x.kids.getD 2 0)).kind==4)else if K=8∧L=3 then !(zDf ts (x.kids.getD 1 0))else true) by
             rw[←HQ.out,←D.out,←t.out];refine zGk (by rw[D.out];exact c7.out) (by rw[D.out,t.out,u.out];exact G) (by rw[D.out,t.out,u.out,N.out];exact F))
            clear F
            by_cases g:K=16
            · have a8:L=3:=by
               have h1:=u.out;rw[g]at h1;have h2:([8,11,12],0)=(r,rr):=h1;injection h2 with h3 h4;have h5:zBo ts r rr x.kids=true:=N.out.trans a7;rw[←h3,←h4]at h5;have h6:=zKY _ _ h5;rw[t.out]at h6;rw[←h3]at G;have:([8,11,12]:List Nat).length=3:=rfl;omega
              obtain⟨y1,p1,k1,g1,e1,l1,c1⟩:=E.out 1 jo;obtain⟨y2,p2,k2,g2,e2,l2,c2⟩:=E.out 2 jo;have J:=H.out 1 y1 g1;have d3:=H.out 2 y2 g2;rw[e1]at J;rw[e2]at d3;have HV:=zA (show q=(k1==17 || k2==4) by
               rw[HE.out,if_pos g,yAG,g1,yAG,g2,yCI,yCI,e1,e2,c1.1,c2.1])
              have k3:=c1.2;have k4:=c2.2;have d4:(1:Int) < (L:Int):=by omega
              have k5:(2:Int) < (L:Int):=by omega
              clear g1 g2 e1 e2 c1 c2;subst g;subst a8
              by_cases v:k1=17
              · have e5:(k1==17)=true:=by rw[v];rfl
                have d:=zA (show true=q by rw[HV.out,v];rfl);clear v;go_wp2_with fail
                go_quiet (fail)
                go_wp2_with fail;go_ret;exact⟨zF d,zv k _⟩
              · have e5:(k1==17)=false:=yA.2 v;have d:=zA (show(k2==4)=q by rw[HV.out,yA.2 v];rfl);clear v;go_wp2_with fail
                go_quiet (fail)
                go_wp2_with fail;go_ret;exact⟨zF d,zv k _⟩
            by_cases h8:K=8∧L=3
            · obtain⟨l,a9⟩:=h8;obtain⟨y1,p1,k1,g1,e1,l1,c1⟩:=E.out 1 jo;have J:=H.out 1 y1 g1;rw[e1]at J;obtain⟨dq,a0⟩:=jx (zDf ts (p1:Int));have HV:=zA (show(!dq)=q by
               rw[HE.out,if_neg g,if_pos ⟨l,a9⟩,yAG,g1,yCI,e1,a0])
              have d4:(1:Int) < (L:Int):=by omega
              have CD:=zA (fun(wx:World) (hN:NdsR wx B (some ⟨b,o,none⟩) n ts) (hB:B≤wx.heap.size)=>zGf (c:=c) hN hB HF e7 l1.2 a0);have k6:=zA l1;clear g1 e1 c1 a0 l1;subst l;subst a9;have b5:((8:Int)==16)=false:=rfl;have d5:=zA (c5.out.below ((Below.refl B w2).drew));have d6:w.heap.size < w2.heap.size:=by omega
              rw[c9]at q7;have d7:=zA (CD.out w2.drew d5 (show B≤w2.drew.heap.size from f0));go_wp2_with fail;go_region_held3 (fun w'=>w'.cell? w.heap.size=some (.slice (some ⟨b,o,none⟩) n c)∧w'.cell? ⟨X,7,none⟩=some (.slice (some ⟨bk,ok,none⟩) 3 s.ck)∧w'.cell? ⟨bk,ok+1,none⟩=some (.int .i64 (p1:Int)))
               (first | (exact⟨qb,q7,J⟩) | (exact⟨((zCU P).cell (p:=w.heap.size) d6).trans qb,((zCU P).cell (p:=⟨X,7,none⟩) e9).trans q7,((zCU P).cell (p:=⟨bk,ok+1,none⟩) (show bk < w2.heap.size by omega)).trans J⟩) | go_keep)
               (first | (go_at_call 51;go_split_ands;(with_reducible refine d7.out.mono ?_);rintro e3 w3 ⟨rfl,P⟩))
              all_goals go_wp2_with fail
              all_goals go_ret
              all_goals exact⟨zF HV,k.out.trans ((zCU P).mono jo)⟩
            · have b5:(K==16)=false:=yA.2 g;have d:=zA (show true=q by rw[HE.out,if_neg g,if_neg h8])
              by_cases l:K=8
              · subst l;have a8:((L:Int)==3)=false:=yA.2 (fun e=>h8 ⟨rfl,by omega⟩);clear h8 g;go_wp2_with fail;go_ret;exact⟨zF d,k⟩
              · have f5:(K==8)=false:=yA.2 l;clear h8 g l;go_wp2_with fail;go_ret;exact⟨zF d,k⟩
   · have k7:(L:Int) < (z:Int):=by rw[←S.out];omega
     have m1:decide ((L:Int) < (z:Int))=true:=yBE k7;have m2:L < z:=by omega
     have d:=zA (show false=q by
      rw[←HQ.out,zPo (by rw[D.out,t.out,u.out];exact G)])
     rw[R];clear R a3 c6 G b4;go_wp2_with (go_at_call 49;refine(CK.out _).mono ?_;rintro e3 w3 ⟨rfl,rfl⟩);go_ret;exact⟨zF d,k⟩
 · have b1:zC3 K=false:=by simpa using a4
   have CK:=zA (show∀w1,Calls prog 49 #[K] w1 fun e w'=>e=.returned false∧w1=w' from fun w1=>by have:=zI2 K w1;rwa[b1]at this);have d:=zA (show false=q by
    rw[←HQ.out,zHk (by rw[D.out];exact b1)])
   clear a4 b1 R a3 c6 b4;go_wp2_with (go_at_call 49;refine(CK.out _).mono ?_;rintro e3 w3 ⟨rfl,rfl⟩);go_ret;exact⟨zF d,k⟩
theorem zVo (h:ts[k]? =some x):zAR (ts.take (k+1))=zAR (ts.take k)++x.kids:=by
 obtain⟨hk,rfl⟩:=yAT.1 h;rw[yAK hk,zDM];congr 1;simp[zAR]
theorem zVp (ts:List Nd) (k:Nat):(zAR (ts.take k)).length≤(zAR ts).length:=by
 conv=>rhs;rw[←List.take_append_drop k ts,zDM,yAN]
 omega
def OrdAt (ts:List Nd) (N k:Nat) (st:List Int):Prop:=zCP ts=zBK N k (ts.drop k) (if k=0 then [0]else st)∧(k=0→st=[])
theorem OrdAt.end_ (h:OrdAt ts N N b) (c:ts.length=N) (hN:0 < N):zCP ts=b.isEmpty:=by
 rw[h.1,jn,yCA jo];rfl
theorem OrdAt.none_ (h:OrdAt ts N k []) (hk:0 < k) (b:ts[k]? =some x):zCP ts=false:=by
 obtain⟨c,rfl⟩:=yAT.1 b;rw[h.1,jn,yAH c];rfl
theorem OrdAt.bad {s:Int} (h:OrdAt ts N k (s::b)) (hs:s≠(k:Int)) (c:ts[k]? =some x):zCP ts=false:=by
 have hk:k≠0:=fun e=>by have:=h.2 e;cases this
 obtain⟨d,rfl⟩:=yAT.1 c;rw[h.1,if_neg hk,yAH d,zCp,yA.2 hs];rfl
def OrdIn (ts:List Nd) (N k:Nat) (x:Nd) (st:List Int):Prop:=zCP ts=(zCo N k x.kids&&zBK N (k+1) (ts.drop (k+1)) (x.kids++st))
theorem OrdAt.zero (h:OrdAt ts N 0 b) (c:ts[0]? =some x):b=[]∧OrdIn ts N 0 x []:=by
 obtain⟨d,rfl⟩:=yAT.1 c;refine⟨h.2 rfl,?_⟩;unfold OrdIn;rw[h.1,if_pos rfl,yAH d,zCp];simp
theorem OrdAt.pop {s:Int} (h:OrdAt ts N k (s::b)) (hs:s=(k:Int)) (c:ts[k]? =some x):OrdIn ts N k x b:=by
 have hk:k≠0:=fun e=>by have:=h.2 e;cases this
 obtain⟨d,rfl⟩:=yAT.1 c;unfold OrdIn;rw[h.1,if_neg hk,yAH d,zCp,hs];simp
theorem OrdIn.bad (h:OrdIn ts N k x b) (c:j < x.kids.length) (hb:¬((k:Int) < x.kids[j]∧x.kids[j] < (N:Int))):zCP ts=false:=by
 rw[h];have:zCo N k x.kids=false:=by
  unfold zCo;rw[List.all_eq_false];exact⟨x.kids[j],yAZ c,by simpa using hb⟩
 rw[this];rfl
theorem OrdIn.done (h:OrdIn ts N k x b) (hk:zCo N k x.kids=true):OrdAt ts N (k+1) (x.kids++b):=by
 refine⟨?_,fun e=>by omega⟩;rw[h,hk,jn];rfl
theorem zKh (h:zCo N k (ks.drop (j+1))=true) (b:j < ks.length) (hb:(k:Int) < ks[j]∧ks[j] < (N:Int)):zCo N k (ks.drop j)=true:=by
 rw[yAH b];unfold zCo at h⊢;rw[List.all_cons,h,Bool.and_true];simpa using hb
structure OrS (w wr:World) (v:Value) (st:List Int):Prop where
 own:wr.ownsRow w.heap.size 3 1 v st.length (zBw st.reverse)
 below:jY w wr
end Go.Proofs.YtjlfhidpmdgloaaGreatDoor
