/- Joined for the claim ParseGood: the parser, the lexer and the trees as they are walked, made short by a program of mine. -/
import Derived.Test.YtlnbbaehihgigaaGreatDoorG02
import Derived.Deep.CutBlock
import Derived.Deep.DeepCutAuto
import Derived.Deep.LoopGhost
import Derived.Test.YtlnbbaehihgigaaGreatDoorG01
import Derived.OwnWalk
import Derived.Laws.OwnMore
import Derived.Test.YtlnbbaehihgigaaGreatDoorG06
import Derived.Test.YtlnbbaehihgigaaGreatDoorG04
import Derived.Deep.RegionHeld3
set_option maxHeartbeats 16000000
set_option maxRecDepth 1000000
namespace Go.Proofs.YtlnbbaehihgigaaGreatDoor
open Go.Proofs.Tryz
variable {ts:List Nd} {q:Bool} {A:Option Addr} {x:Nd} {w W wr w':World} {d:List Nat} {n k B N c m v j a:Nat} {b ks:List Int} {xs:List (List UInt8)} {l:List UInt8} {s:Int}
def zAx (ts:List Nd):List Int:=ts.flatMap (·.kids)
theorem zF1 (x:Nd) (r:List Nd):zAx (x::r)=x.kids++zAx r:=rfl
theorem zDZ (a b:List Nd):zAx (a++b)=zAx a++zAx b:=List.flatMap_append ..
mutual
theorem countT (n:Nat) (t:Tr) (i:Nat):(zAx (flatT n t)).count (i:Int)=if n < i∧i < n+t.size then 1 else 0:=by
 cases t with
 | mk x l=>
  rw[zA8,zF1,List.count_append,zi];have:=countL (n+1) l i;show(zz (n+1) l).count (i:Int)+_=_;rw[this];congr 1;rw[eq_iff_iff];omega
theorem countL (n:Nat) (l:List Tr) (i:Nat):(zz n l).count (i:Int)+(zAx (flatL n l)).count (i:Int)=if n≤i∧i < n+sizes l then 1 else 0:=by
 cases l with
 | nil=>
  rw[zBI,zN,jn];rfl
 | cons t r=>
  rw[zAS,zDZ,List.count_append,zH];have h1:=countT n t i;have h2:=countL (n+t.size) r i;have h3:=zBO t;show((n:Int)::zz (n+t.size) r).count (i:Int)+_=_;rw[List.count_cons,h1]
  by_cases e:i=n
  · subst e;have h4:¬(i+t.size≤i∧i < i+t.size+sizes r):=by omega
    rw[if_neg h4]at h2;rw[if_pos js,jn,if_pos jo];omega
  · have h5:((n:Int)==(i:Int))=false:=yA.2 jo;rw[h5,if_neg js]
    by_cases h6:n < i∧i < n+t.size
    · rw[jn]at h2;rw[if_pos h6,if_pos jo];omega
    · by_cases h7:n+t.size≤i∧i < n+t.size+sizes r
      · rw[if_pos h7]at h2;rw[if_neg h6,if_pos jo];omega
      · rw[if_neg h7]at h2;rw[if_neg h6,jn];omega
end
theorem zP3 (v:Nat):∀(l:List Tr) (n k:Nat),(k:Int)∈zz n l→(depsL v l)[k - n]? =some v:=by
 intro l
 induction l with
 | nil=>intro n k h;cases h
 | cons t r b=>
  intro n k h;have c:=zBO t;rw[zDA];rcases List.mem_cons.1 h with h | h
  · obtain rfl:k=n:=by omega
    rw[Nat.sub_self,List.getElem?_append_left (by rw[depsT_len];omega)];cases t;rw[zDS];rfl
  · have d:=zBw h;rw[List.getElem?_append_right (by rw[depsT_len];omega),depsT_len,Nat.sub_sub];exact b (n+t.size) k h
mutual
theorem kidsT (n v:Nat) (t:Tr) (i:Nat) (x:Nd) (h:(flatT n t)[i]? =some x):
 (∀k∈x.kids,((n+i:Nat):Int) < k∧k < ((n+t.size:Nat):Int))∧(∀k,x.kids[0]? =some k→k=((n+i+1:Nat):Int))∧(∀k:Nat,(k:Int)∈x.kids→∃d,(depsT v t)[i]? =some d∧(depsT v t)[k - n]? =some (d+1)):=by
 cases t with
 | mk y l=>
  rw[zA8]at h;rw[zDS,zi];cases i with
  | zero=>
   obtain rfl:{y with kids:=zz (n+1) l}=x:=Option.some.inj h;refine⟨fun k hk=>by have:=zBw hk;omega,fun k hk=>?_,fun k hk=>⟨v,rfl,?_⟩⟩
   · cases l with
     | nil=>cases hk
     | cons t r=>obtain rfl:((n+1:Nat):Int)=k:=Option.some.inj hk;omega
   · have h2:=zBw hk;rw[show k - n=(k - (n+1))+1 by omega,List.getElem?_cons_succ];exact zP3 (v+1) l (n+1) k hk
  | succ i=>
   rw[List.getElem?_cons_succ]at h;obtain⟨h1,h2,h3⟩:=kidsL (n+1) (v+1) l i x h;refine⟨fun k hk=>by have:=h1 k hk;omega,fun k hk=>by have:=h2 k hk;omega,fun k hk=>?_⟩;obtain⟨d,h4,h5⟩:=h3 k hk;have:=(h1 k hk).1;exact⟨d,by rw[List.getElem?_cons_succ];exact h4,by rw[show k - n=(k - (n+1))+1 by omega,List.getElem?_cons_succ];exact h5⟩
theorem kidsL (n v:Nat) (l:List Tr) (i:Nat) (x:Nd) (h:(flatL n l)[i]? =some x):
 (∀k∈x.kids,((n+i:Nat):Int) < k∧k < ((n+sizes l:Nat):Int))∧(∀k,x.kids[0]? =some k→k=((n+i+1:Nat):Int))∧(∀k:Nat,(k:Int)∈x.kids→∃d,(depsL v l)[i]? =some d∧(depsL v l)[k - n]? =some (d+1)):=by
 cases l with
 | nil=>rw[zBI]at h;cases h
 | cons t r=>
  rw[zAS]at h;rw[zDA,zH]
  by_cases hi:i < t.size
  · rw[List.getElem?_append_left (by rw[flatT_len];exact hi)]at h;obtain⟨h1,h2,h3⟩:=kidsT n v t i x h;refine⟨fun k hk=>by have:=h1 k hk;omega,h2,fun k hk=>?_⟩;obtain⟨d,h4,h5⟩:=h3 k hk;have:=h1 k hk;exact⟨d,by rw[List.getElem?_append_left (by rw[depsT_len];omega)];exact h4,by rw[List.getElem?_append_left (by rw[depsT_len];omega)];exact h5⟩
  · rw[List.getElem?_append_right (by rw[flatT_len];omega),flatT_len]at h;obtain⟨h1,h2,h3⟩:=kidsL (n+t.size) v r (i - t.size) x h;refine⟨fun k hk=>by have:=h1 k hk;omega,fun k hk=>by have:=h2 k hk;omega,fun k hk=>?_⟩;obtain⟨d,h4,h5⟩:=h3 k hk;have:=h1 k hk;exact⟨d,by rw[List.getElem?_append_right (by rw[depsT_len];omega),depsT_len];exact h4,by rw[List.getElem?_append_right (by rw[depsT_len];omega),depsT_len,Nat.sub_sub];exact h5⟩
end
structure Ordered (ts:List Nd) (D:List Nat):Prop where
 len:D.length=ts.length
 head:D[0]? =some 1
 lo:∀(n:Nat) (h:n < ts.length),∀k∈ts[n].kids,(n:Int) < k∧k < (ts.length:Int)
 first:∀(n:Nat) (h:n < ts.length) (k:Int),ts[n].kids[0]? =some k→k=(n:Int)+1
 deep:∀(n:Nat) (h:n < ts.length) (k:Nat),(k:Int)∈ts[n].kids→∃d,D[n]? =some d∧D[k]? =some (d+1)
 once:∀k:Nat,1≤k→k < ts.length→(zAx ts).count (k:Int)=1
theorem zJy (t:Tr):Ordered (flatT 0 t) (depsT 1 t):=by
 have b:=flatT_len 0 t;refine⟨by rw[depsT_len,b],by cases t;rw[zDS];rfl,fun n h k hk=>?_,fun n h k hk=>?_,fun n h k hk=>?_,fun k h1 c=>?_⟩
 · have:=(kidsT 0 1 t n _ (yAB h)).1 k hk;rw[b];omega
 · have:=(kidsT 0 1 t n _ (yAB h)).2.1 k hk;omega
 · have:=(kidsT 0 1 t n _ (yAB h)).2.2 k hk;simpa using this
 · rw[countT,if_pos jo]
open Go.RowKit
def Fwd (ts:List Nd):Prop:=∀(n:Nat) (x:Nd),ts[n]? =some x→∀k∈x.kids,(n:Int) < k∧k < (ts.length:Int)
theorem zJz (h:zCR ts=true):Fwd ts:=by
 obtain⟨t,rfl⟩:=zHe h;intro n x b k hk;obtain⟨c,rfl⟩:=List.getElem?_eq_some_iff.1 b;exact(zJy t).lo n c k hk
theorem zMB (h:ts[m]? =some x):atN ts (m:Int)=x:=by
 unfold atN;rw[yAG,Int.toNat_natCast,h];rfl
def DanAt (ts:List Nd) (n m:Nat) (q:Bool):Prop:=∃f,n - m≤f∧zMZ f ts (m:Int)=q
theorem DanAt.step (h:DanAt ts n m q) (l:m < n) (d:ts[m]? =some x):
 (if x.kind=8∧x.kids.length=2 then true=q else if x.kind=8∨x.kind=9∨x.kind=10∨x.kind=18 then(x.kids=[]→false=q)∧(∀k:Nat,x.kids.getLast? =some (k:Int)→m < k→DanAt ts n k q)else false=q):=by
 obtain⟨f,o,b⟩:=h;obtain⟨g,rfl⟩:∃g,f=g+1:=⟨f - 1,by omega⟩;unfold zMZ at b;rw[zMB d]at b;split
 · rename_i h1;rw[if_pos h1]at b;exact b
 · rename_i h1
   rw[if_neg h1]at b;split
   · rename_i c
     rw[if_pos c]at b;refine⟨fun e=>by rw[e]at b;exact b,fun k hk j=>?_⟩;rw[hk]at b;exact⟨g,by omega,b⟩
   · rename_i c;rw[if_neg c]at b;exact b
theorem zG1 (hN:NdsR w B A n ts) (hB:B≤w.heap.size) (X:Fwd ts) (r:∀x∈ts,x.kids.length≤1000000) (O:m < n) (Y:zDq ts (m:Int)=q):
 Calls prog 42 #[.agg #[.slice A n c],m] w fun e w'=>e=.returned q∧Below w.heap.size w w':=by
 obtain⟨W,F⟩:=jx (w.alloc (.cells #[.slice A n c] 24));have G:Below w.heap.size w W:=jb F;have b5:W.heap.size=w.heap.size+1:=by rw[←F];simp
 have a0:=zA ((hN.below (G.mono hB)));have a1:W.cell? w.heap.size=some (.slice A n c):=jc F;have HD:=zA (show DanAt ts n m q from⟨ts.length,by rw[hN.1];omega,Y⟩);have H:=zA G;have HF:=zA X;have a2:=zA r;have a3:=zA hN.1;have HB:=zA hB;clear Y G hN X r;go_enter func42,ntmps42;go_upto_region 1 with(fail);have HW:=zA F;clear F
 go_loopw [1] (fun v wr=>∃k:Nat,k < n∧v=.int .i64 k∧Hid (DanAt ts n k q)∧Hid (Below W.heap.size W wr)) (fun v _=>n - (intOf v).toNat)
 case atStart=>exact⟨m,O,rfl,HD,Below.refl _ _⟩
 case round=>
  obtain⟨k,hk,rfl,hd,D⟩:=hrel;obtain⟨b,o,x,s,rfl,b6,N,hC,hR⟩:=(a0.out.below (D.out.mono jo)).get hk;obtain⟨P,a4,a5,a6,a7,a8,a9,b0⟩:=hC;have b1:wr.cell? w.heap.size=some (.slice (some ⟨b,o,none⟩) n c):=(D.out.cell (p:=w.heap.size) (show w.heap.size < W.heap.size by omega)).trans a1;have d:=hd.out.step hk N;have g:=HF.out k x N;have b2:=a2.out x (List.mem_of_getElem? N);rw[a3.out]at g;have b3:=D.out.size;obtain⟨K,hK⟩:=jx x.kind;rw[hK]at P d;clear N hd hK O;go_upto_region 2 with(fail);obtain⟨C,f⟩:=jx (wr.alloc (.cells #[K,x.name,.slice s.As x.str.length s.cs,x.nk,x.nn,x.neg,.slice s.Am x.mag.length s.cm,.slice s.Ak x.kids.length s.ck] 43));rw[f];have Q:Below W.heap.size W C:=by rw[←f];exact D.out.alloc b3 _
  have b7:C.heap.size=wr.heap.size+1:=by rw[←f];simp
  have p0:C.cell? wr.heap.size=some (.int .i64 K):=jc f;have p7:C.cell? ⟨wr.heap.size,7,none⟩=some (.slice s.Ak x.kids.length s.ck):=jc f;have l:NdR C B x s:=hR.below (by rw[←f];exact(Below.refl _ _).alloc jo _);have t:=zA Q;clear f Q P a4 a5 a6 a7 a8 a9 b0 b1 hR
  by_cases h1:K=8∧x.kids.length=2
  · rw[if_pos h1]at d;have I:=zA d;obtain⟨h8,u⟩:=h1;subst h8;rw[u]at p7;clear d g l u;go_wp2_with fail
    (try rw[Exit.noGoto_ret])
    go_ret;exact⟨zJ I,H.out.trans (t.out.mono jo)⟩
  · rw[if_neg h1]at d
    by_cases u:K=8∨K=9∨K=10∨K=18
    · rw[if_pos u]at d;obtain⟨U,hb⟩:=d;have E:K=8→((x.kids.length:Int)==2)=false:=fun e=>yA.2 (fun e2=>h1 ⟨e,by omega⟩)
      by_cases z:x.kids=[]
      · have I:=zA (U z);rw[z]at p7 E;clear U hb g l h1 z;rcases u with rfl | rfl | rfl | rfl
        all_goals
         clear E;go_wp2_with fail
         (try rw[Exit.noGoto_ret])
         go_ret;exact⟨zJ I,H.out.trans (t.out.mono jo)⟩
      · obtain⟨L,V⟩:∃L,x.kids.length=L+1:=⟨x.kids.length - 1,by have:=List.length_pos_iff.2 z;omega⟩;obtain⟨bk,ok,R,b8,S⟩:=l.kids.spotK jo;have b4:=S L jo;have r:=g x.kids[L] (List.getElem_mem jo);have J:=l.ck;have M:x.kids.getLast? =some x.kids[L]:=by
         rw[List.getLast?_eq_getElem?,show x.kids.length - 1=L by omega,yAB jo]
        obtain⟨y,hy⟩:=jx (x.kids[L]' jo);rw[hy]at b4 r M;obtain⟨j,rfl⟩:∃j:Nat,y=(j:Int):=⟨y.toNat,by omega⟩;have HN:=zA (hb j M jo);rw[R,V]at p7;rw[V]at E J;have b9:L+1≤1000000:=by omega
        have T:j < n:=by omega
        have c0:k < j:=by omega
        clear U hb g l h1 z R S V M hy J r b2;rcases u with rfl | rfl | rfl | rfl
        · have h4:=E rfl;clear E;go_wp2_with fail
          go_roundw
          case rel=>exact⟨j,T,rfl,HN,t⟩
          case measure=>simp[intOf];omega
        all_goals
         clear E;go_wp2_with fail
         go_roundw
         case rel=>exact⟨j,T,rfl,HN,t⟩
         case measure=>simp[intOf];omega
    · rw[if_neg u]at d;have I:=zA d;have e1:(K==8)=false:=yA.2 jo;have e2:(K==9)=false:=yA.2 jo;have e3:(K==10)=false:=yA.2 jo;have e4:(K==18)=false:=yA.2 jo;clear d g l h1 u;go_wp2_with fail
      (try rw[Exit.noGoto_ret])
      go_ret;exact⟨zJ I,H.out.trans (t.out.mono jo)⟩
structure DpS (W wr:World) (v:Value) (n:Nat) (d:List Nat):Prop where
 own:wr.ownsRow W.heap.size 3 1 v n (zFL d)
 below:Below W.heap.size W wr
theorem zP4 (n:Nat):(madeCells (Value.int .i64 0).cells (n*1)).toList=zFL (List.replicate n 0):=by
 rw[Nat.mul_one];show(madeCells #[Value.int .i64 0] n).toList=_;rw[toList_madeCells_one];simp[zFL]
def DeepAt (ts:List Nd) (k:Nat) (d q:List Nat):Prop:=zDr k (ts.drop k) d=q∧d.length=ts.length∧∀y∈d,y≤k+1
theorem DeepAt.start {q:List Nat} (h:zKT ts=q):DeepAt ts 0 (List.replicate ts.length 0) q:=
 ⟨h,List.length_replicate,fun y b=>by have:=List.eq_of_mem_replicate b;omega⟩
theorem DeepAt.done {q:List Nat} (h:DeepAt ts ts.length d q):d=q:=by
 have:=h.1;rwa[List.drop_of_length_le (yAC _)]at this
def DeepIn (ts:List Nd) (k v:Nat) (ks:List Int) (d q:List Nat):Prop:=zDr (k+1) (ts.drop (k+1)) (zEb d (v+1) ks)=q∧d[k]? =some v∧d.length=ts.length∧v≤k+1∧∀y∈d,y≤k+2
theorem zH2 {i b:Nat} (h:∀y∈d,y≤b) (hv:v≤b):∀y∈d.set i v,y≤b:=by
 intro y c;rcases List.mem_or_eq_of_mem_set c with h1 | h1
 · exact h y h1
 · rw[h1];exact hv
theorem DeepAt.go {q:List Nat} (h:DeepAt ts k d q) (e:ts[k]? =some x) (b:d[k]? =some a):DeepIn ts k (max a 1) x.kids (d.set k (max a 1)) q:=by
 obtain⟨c,rfl⟩:=List.getElem?_eq_some_iff.1 e;have hb:=h.2.2 a (List.mem_of_getElem? b);refine⟨?_,List.getElem?_set_self (by rw[h.2.1];exact c),by rw[List.length_set];exact h.2.1,by omega,zH2 (fun y f=>by have:=h.2.2 y f;omega) jo⟩;have:=h.1;rwa[yAH c,zGU,yAG,b]at this
theorem DeepIn.step {q:List Nat} (h:DeepIn ts k v ((m:Int)::ks) d q) (b:k < m):DeepIn ts k v ks (d.set m (v+1)) q:=by
 refine⟨h.1,?_,by rw[List.length_set];exact h.2.2.1,h.2.2.2.1,zH2 h.2.2.2.2 (by have:=h.2.2.2.1;omega)⟩;rw[List.getElem?_set_ne jo];exact h.2.1
theorem DeepIn.done {q:List Nat} (h:DeepIn ts k v [] d q):DeepAt ts (k+1) d q:=⟨h.1,h.2.2.1,h.2.2.2.2⟩
theorem zTE (l:List Nat) (k x:Nat):(zFL l).set k (.int .i64 (x:Int))=zFL (l.set k x):=by
 unfold zFL;rw[List.map_set]
theorem DpS.cell {g:Nat} (h:DpS W wr (.slice (some ⟨g,0,none⟩) n n) n d) (b:d[k]? =some a):wr.cell? ⟨g,k,none⟩=some (.int .i64 (a:Int)):=by
 have e:k < n:=by
  have h1:=(List.getElem?_eq_some_iff.1 b).1;have c:=h.own.1;rw[zMA]at c;omega
 rw[h.own.cellAt k jo];simp[zFL,b]
theorem DpS.store {g:Nat} (h:DpS W wr (.slice (some ⟨g,0,none⟩) n n) n d) (hg:W.heap.size≤g) {z:Int} (b:z=(a:Int)):DpS W (wr.setCell ⟨g,k,none⟩ (.int .i64 z)) (.slice (some ⟨g,0,none⟩) n n) n (d.set k a):=by
 subst b;have h1:=h.own.stored k (.int .i64 (a:Int));rw[zTE]at h1;exact⟨h1.1,h.below.setCell hg _⟩
theorem DpS.below' {v:Value} (h:DpS W wr v n d) (hb:Below wr.heap.size wr w'):DpS W w' v n d:=⟨zDn h.own hb,h.below.trans (hb.mono h.below.size)⟩
theorem zMC (hN:NdsR w B A n ts) (hB:B≤w.heap.size) (h0:0 < n) (hl:n≤4096) (hf:Fwd ts) (Y:∀x∈ts,x.kids.length≤1000000) {q:List Nat} (hq:zKT ts=q):
 Calls prog 19 #[.agg #[.slice A n c]] w fun e w'=>∃A' c',e=.returned (.slice A' n c')∧q.length=n∧n≤c'∧Reads w' w'.heap.size 1 A' n (zFL q)∧Below w.heap.size w w':=by
 obtain⟨W,M⟩:=jx (w.alloc (.cells #[.slice A n c] 24));have N:Below w.heap.size w W:=jb M;have a0:W.heap.size=w.heap.size+1:=by rw[←M];simp
 have c1:=zA ((hN.below (N.mono hB)));have c2:W.cell? w.heap.size=some (.slice A n c):=jc M;have c3:=zA N;have HF:=zA hf;have c4:=zA Y;have t:=zA hN.1;have HQ:=zA hq;have HB:=zA hB;clear hq N hN hf Y;go_enter func19,ntmps19;go_upto_region 1 with(fail);have HW:=zA M;clear M;obtain⟨i0,hi,a1,a2,a3⟩:=info_parts Tryz.info_int;have a4:i0.bytes*n≤281474976710656:=by rw[a3];omega
 have a5:n≤maxLen:=by unfold maxLen;omega
 have e9:w.heap.size < W.heap.size:=by omega
 have f1:=zA a0;obtain⟨G,hG⟩:=jx W.heap.size;clear a0;go_wp2_with (refine wpList_make_full _ rfl _ _ 41 rfl W.heap.size 3 i0 (.int .i64 0) 1 underlying41 hi a1 a2 .i64 .i64 (n:Int) (n:Int) n rfl rfl rfl rfl a4 a5 (yAC _) ?_;intro w1 a6 g;have c5:w1.cell? w.heap.size=some (.slice A n c):=g.cell c2 js);have HG:=zA hG;have a7:=zA (show DpS W w1 (.slice (some ⟨G,0,none⟩) n n) n (List.replicate n 0)from⟨by have:=a6;rw[zP4]at this;rw[←hG];exact this,⟨g.os,g.tape,g.output,g.size,fun i hi=>g.block i hi js⟩⟩);clear a6 g hi a1 a2 a3 a4 a5 hG
 go_loopw [15] (fun i wr=>∃(k:Nat) (d:List Nat),k≤n∧i=.int .i64 k∧Hid (DeepAt ts k d q)∧Hid (DpS W wr (.slice (some ⟨G,0,none⟩) n n) n d)) (fun i _=>n - (intOf i).toNat)
 case atStart=>exact⟨0,_,yAE _,rfl,by have:=DeepAt.start HQ;rwa[t.out]at this,a7⟩
 case round=>
  clear c5 a7;obtain⟨k,d,hk,rfl,l,D⟩:=hrel
  by_cases a8:k < n
  · have c6:=D.out.below.size;obtain⟨b,o,x,s,rfl,f2,S,hC,hR⟩:=(c1.out.below (D.out.below.mono jo)).get a8;obtain⟨c7,c8,c9,d0,d1,d3,d4,d5⟩:=hC;have a9:=zA (show∀y∈x.kids,(k:Int) < y∧y < (n:Int)from by have:=HF.out k x S;rwa[t.out]at this);have d6:=c4.out x (List.mem_of_getElem? S);have b0:k < d.length:=by rw[l.out.2.1,t.out];exact a8
    obtain⟨a,T⟩:∃a,d[k]? =some a:=⟨_,yAB b0⟩;have E:=zA (l.out.go S T);have d7:a≤k+1:=l.out.2.2 a (List.mem_of_getElem? T);have HA:=zA T;clear S b0 T;go_upto_region 5 with(fail);obtain⟨O,F⟩:=jx (wr.alloc (.cells #[x.kind,x.name,.slice s.As x.str.length s.cs,x.nk,x.nn,x.neg,.slice s.Am x.mag.length s.cm,.slice s.Ak x.kids.length s.ck] 43));rw[F];have J:wr.heap.size < O.heap.size:=by rw[←F];simp
    have p7:O.cell? ⟨wr.heap.size,7,none⟩=some (.slice s.Ak x.kids.length s.ck):=jc F;have b1:Below wr.heap.size wr O:=jb F;have u:=zA (D.out.below' b1);have d8:G < wr.heap.size:=by have:=(D.out.own.lt G rfl).2;exact this
    have b2:=zA (hR.back (D.out.below.mono jo));obtain⟨X,hX⟩:=jx wr.heap.size;rw[hX]at p7 J d8;rw[hX];have U:=u.out.cell HA;have b3:=u.out.own.frozenAt k;have f3:G≠X:=by omega
    have P:W.heap.size≤G:=by rw[HG.out];omega
    have d9:=u.out.below.size;clear F b1 c7 c8 c9 d0 d1 d3 d4 d5 hR D hX c6 l
    go_cut [3] (fun v3 Q=>v3=.slice (some ⟨G,0,none⟩) n n∧Hid (DpS W Q (.slice (some ⟨G,0,none⟩) n n) n (d.set k (max a 1)))∧Q.cell? ⟨X,7,none⟩=some (.slice s.Ak x.kids.length s.ck)∧X < Q.heap.size)
    case first=>
     by_cases b4:a≤1
     · have hv:max a 1=1:=by omega
       have HV:=zA hv;have e0:max (a:Int) 1=1:=by omega
       clear hv;rcases(show a=0∨a=1 by omega)with rfl | rfl
       all_goals
        clear e0 b4 d7;go_wp2_with fail;go_meet;exact⟨rfl,u.out.store P (by rw[HV.out];rfl),zB2 (zQ _ _ _ _) p7 (show X≠G by omega),by simpa using J⟩
     · have hv:max a 1=a:=by omega
       have HV:=zA hv;have e1:¬(a:Int)≤1:=by omega
       have e2:(1:Int)≤a:=by omega
       have e4:max (a:Int) 1=(a:Int):=by omega
       clear hv b4;go_wp2_with fail;go_meet;exact⟨rfl,u.out.store P (by rw[HV.out]),zB2 (zQ _ _ _ _) p7 (show X≠G by omega),by simpa using J⟩
    case rest=>
     obtain⟨rfl,H,b5,e3⟩:=hcut;clear u p7 J U b3 d9;obtain⟨v,hv⟩:=jx (max a 1);rw[hv]at E H;have f4:v≤4097:=by omega
     obtain⟨d2,b6⟩:=jx (d.set k v);rw[b6]at E H;clear hv b6 HA
     by_cases I:x.kids=[]
     · have C:=zA (show DeepAt ts (k+1) d2 q from by have:=E.out;rw[I]at this;exact this.done);rw[I]at b5;clear I E d6 a9;go_wp2_with fail
       go_loopw [31] (fun i Q=>i=.int .i64 0∧Q=wc) (fun _ _=>0)
       case atStart=>exact⟨rfl,rfl⟩
       case round=>
        obtain⟨rfl,rfl⟩:=hrel;go_wp2_with fail
        go_roundw
        case rel=>exact⟨k+1,d2,by omega,by go_num,C,H⟩
        case measure=>simp[intOf];omega
     have b7:=List.length_pos_iff.2 I;obtain⟨bk,ok,f5,f6,b8⟩:=b2.out.kids.spotK b7;have f0:=b2.out.ck.1;have e5:=zA b8;clear I b8 b7;go_wp2_with fail
     go_loopw [31] (fun i wr=>∃(j:Nat) (e:List Nat),j≤x.kids.length∧i=.int .i64 j∧Hid (DeepIn ts k v (x.kids.drop j) e q)∧Hid (DpS W wr (.slice (some ⟨G,0,none⟩) n n) n e)) (fun i _=>x.kids.length - (intOf i).toNat)
     case atStart=>exact⟨0,d2,yAE _,rfl,E,H⟩
     case round=>
      clear H b5 e3;obtain⟨j,e,hj,rfl,L,r⟩:=hrel
      by_cases R:j < x.kids.length
      · have e6:=(r.out.below.cell (p:=⟨bk,ok+j,none⟩) (show bk < W.heap.size by omega)).trans (e5.out j R);have b9:=a9.out x.kids[j] (List.getElem_mem R);have f:=L.out;rw[yAH R]at f;obtain⟨y,hy⟩:=jx (x.kids[j]);rw[hy]at e6 b9 f;obtain⟨m,rfl⟩:∃m:Nat,y=(m:Int):=⟨y.toNat,by omega⟩;have e7:k < m:=by omega
        have e8:m < n:=by omega
        have V:=zA (f.step e7);have f7:=r.out.cell f.2.1;obtain⟨z,hz⟩:∃z,e[m]? =some z:=⟨_,yAB (by rw[f.2.2.1,t.out];exact e8)⟩;have f8:=r.out.cell hz;have b3:=r.out.own.frozenAt m;have f9:=r.out.below.size;clear b9 f hy hz L;go_wp2_with fail
        go_roundw
        case rel=>exact⟨j+1,e.set m (v+1),by omega,by go_num,V,r.out.store P jo⟩
        case measure=>simp[intOf];omega
      · obtain rfl:j=x.kids.length:=by omega
        have C:=zA (show DeepAt ts (k+1) e q from by have:=L.out;rw[List.drop_length]at this;exact this.done);clear L;go_wp2_with fail
        go_roundw
        case rel=>exact⟨k+1,e,by omega,by go_num,C,r⟩
        case measure=>simp[intOf];omega
  · obtain rfl:k=n:=by omega
    have C:=zA (show d=q from by have:=l.out;rw[←t.out]at this;exact this.done);have c0:=zA (show q.length=k from by rw[←C.out,l.out.2.1,t.out]);clear l;go_wp2_with fail;go_ret;refine⟨_,_,rfl,c0,yAC _,?_,c3.out.trans (D.out.below.mono jo)⟩;rw[←C.out];exact Reads.of_own D.out.own
theorem zP5 (l:List Nat) (x:Nat):zGS (l++[x])=max (zGS l) x:=by
 rw[zLR];simp[zGS]
theorem zP6 (v:d.length=n) (C:0 < n) (R:n≤100000) (D:Reads w B 1 A n (zFL d)) {q:Nat} (E:zGS d=q):
 Calls prog 18 #[.slice A n c] w fun e w'=>e=.returned q∧w=w':=by
 obtain⟨b,o,rfl,hb,f⟩:=D.spotR C;have l:∀(j:Nat) (x:Nat),d[j]? =some x→w.cell? ⟨b,o+j,none⟩=some (.int .i64 (x:Int)):=fun j x L=>f j _ (by simp[zFL,L]);have F:=zA l;obtain⟨x0,g⟩:∃x0,d[0]? =some x0:=⟨_,yAB jo⟩;have G:w.cell? ⟨b,o,none⟩=some (.int .i64 (x0:Int)):=l 0 x0 g;have M:=zA (show zGS (d.take 1)=x0 by
  cases d with
  | nil=>cases g
  | cons y r=>obtain rfl:=Option.some.inj g;simp[zGS])
 have H:=zA v;have N:=zA E;have h1:(1:Int)≤(n:Int):=by omega
 clear l f g D v E;go_enter func18,ntmps18;go_wp2_with fail
 go_loop [3,4] (fun m i=>∃k z:Nat,1≤k∧k≤n∧i=.int .i64 k∧m=.int .i64 z∧Hid (zGS (d.take k)=z)) (fun _ i=>n - (intOf i).toNat)
 case atStart=>exact⟨1,x0,yAC _,C,rfl,rfl,M⟩
 case round=>
  clear G;obtain⟨k,z,P,hk,rfl,rfl,I⟩:=hrel
  by_cases J:k < n
  · have s:k < d.length:=by rw[H.out];exact J
    obtain⟨y,t⟩:∃y,d[k]? =some y:=⟨_,yAB s⟩;have Q:=F.out k y t;have u:=zA (show zGS (d.take (k+1))=max z y by
     rw[List.take_add_one,t];show zGS (d.take k++[y])=_;rw[zP5,I.out])
    clear s t;rcases Nat.lt_trichotomy z y with p | p | p
    · have e1:(z:Int)≤(y:Int):=by omega
      have e2:¬(y:Int)≤(z:Int):=by omega
      have e3:(z:Int) < (y:Int):=by omega
      have e4:max (z:Int) (y:Int)=(y:Int):=by omega
      go_wp2_with fail;go_round
      case rel=>exact⟨k+1,y,by omega,by omega,by go_num,rfl,u.out.trans jo⟩
      case measure=>simp[intOf];omega
    · subst p;go_wp2_with fail
      all_goals go_round
      case rel=>exact⟨k+1,z,by omega,by omega,by go_num,rfl,u.out.trans jo⟩
      case measure=>simp[intOf];omega
    · have e1:¬(z:Int)≤(y:Int):=by omega
      have e2:(y:Int)≤(z:Int):=by omega
      have e3:(y:Int) < (z:Int):=by omega
      have e4:max (z:Int) (y:Int)=(z:Int):=by omega
      go_wp2_with fail;go_round
      case rel=>exact⟨k+1,z,by omega,by omega,by go_num,rfl,u.out.trans jo⟩
      case measure=>simp[intOf];omega
  · obtain rfl:k=n:=by omega
    have O:=zA (show z=q by rw[←I.out,←N.out,List.take_of_length_le (by rw[H.out];omega)]);go_wp2_with fail;go_ret;exact⟨zGP (by rw[O.out]),rfl⟩
theorem zFN {c:UInt8} (h:zA6 c.toUInt16=q) (w:World):Calls prog 60 #[.int .u16 (c.toNat:Int)] w fun e w'=>e=.returned q∧w=w':=by
 subst h;have:=zBD c.toUInt16 w;rwa [UInt8.toNat_toUInt16]at this
theorem zGM {c:UInt8} (h:zM c.toUInt16=q) (w:World):Calls prog 62 #[.int .u16 (c.toNat:Int)] w fun e w'=>e=.returned q∧w=w':=by
 subst h;have:=zAH c.toUInt16 w;rwa [UInt8.toNat_toUInt16]at this
def zKz (l:List UInt8) (k:Nat):Prop:=∀j (h:j < l.length),j < k→(if j=0 then zA6 l[j].toUInt16 else zA2 l[j].toUInt16)=true
theorem zNO (l:List UInt8):zKz l 0:=fun _ _ h=>absurd h jo
theorem zNP (h:zKz l k) (hk:k < l.length) (b:(if k=0 then zA6 l[k].toUInt16 else zA2 l[k].toUInt16)=true):zKz l (k+1):=by
 intro j c d
 by_cases e:j=k
 · subst e;exact b
 · exact h j c jo
theorem zP7 (h:zKz l l.length) (d:l≠[]):zFv l=true:=by
 cases l with
 | nil=>exact absurd rfl d
 | cons b r=>
  have h1:=h 0 js js;simp only[if_true,List.getElem_cons_zero]at h1;unfold zFv;simp only[h1,Bool.true_and];rw[List.all_eq_true];intro x e;obtain⟨j,c,rfl⟩:=List.getElem_of_mem e;have:=h (j+1) (by simpa using c) (by simpa using c);simpa using this
theorem zTF (hk:k < l.length) (c:(if k=0 then zA6 l[k].toUInt16 else zA2 l[k].toUInt16)=false):zFv l=false:=by
 cases l with
 | nil=>rfl
 | cons b r=>
  unfold zFv
  by_cases d:k=0
  · subst d;simp only[if_true,List.getElem_cons_zero]at c;simp[c]
  · obtain⟨j,rfl⟩:∃j,k=j+1:=⟨k - 1,by omega⟩;simp only[d,if_false,List.getElem_cons_succ]at c;rw[Bool.and_eq_false_iff];right;rw[←Bool.not_eq_true,List.all_eq_true];intro h;have:=h _ (List.getElem_mem (by simpa using hk:j < r.length));rw[c]at this;cases this
theorem zP8 (s:ByteArray) (k:Nat) (_h:k < s.size) (b:k < s.data.toList.length):s.data.toList[k]=s[k]:=rfl
theorem zG2 (s:ByteArray) (w:World) (hs:s.size≤8192) (D:zFv s.data.toList=q):
 Calls prog 75 #[.string s] w fun e w'=>e=.returned q∧w=w':=by
 have z:=zA D;have v:s.data.toList.length=s.size:=by simp
 have o:=zA v;clear D v;go_enter func75,ntmps75;go_wp2_with fail
 go_loop [7] (fun i=>∃k:Nat,k≤s.size∧i=.int .i64 k∧Hid (zKz s.data.toList k)) (fun i=>s.size - (intOf i).toNat)
 case atStart=>exact⟨0,yAE _,rfl,zNO _⟩
 case round=>
  obtain⟨k,hk,rfl,y⟩:=hrel
  by_cases g:k < s.size
  · have hb:=s[k].toNat_lt;obtain⟨c,A⟩:=jx (s[k]);have E:=zA A;have H:(s[k].toNat:Int)=(c.toNat:Int):=by rw[A]
    have j:=zA (show(if k=0 then zA6 c.toUInt16 else zA2 c.toUInt16)=true→zKz s.data.toList (k+1)from fun h=>zNP y (by rw[o.out];exact g) (by rw[zP8 s k g,E.out];exact h));have p:=zA (show(if k=0 then zA6 c.toUInt16 else zA2 c.toUInt16)=false→false=q from fun h=>by rw[←z.out,zTF (l:=s.data.toList) (k:=k) (by rw[o.out];exact g) (by rw[zP8 s k g,E.out];exact h)]);clear A;obtain⟨F,r⟩:=jx (zA6 c.toUInt16);obtain⟨G,t⟩:=jx (zM c.toUInt16);have m:=zA r;have u:=zA t;have B:=zA (show zA2 c.toUInt16=(F || G) by unfold zA2;rw[r,t]);clear r t;cases F with
    | true=>
     have b:=zA (j.out (by split;exact m.out;rw[B.out];rfl));go_wp2_with (first | (go_at_call 60;refine(zFN m.out w).mono ?_;rintro e w' ⟨rfl,rfl⟩) | (go_at_call 62;refine(zGM u.out w).mono ?_;rintro e w' ⟨rfl,rfl⟩));go_round
     case rel=>exact⟨k+1,by omega,by go_num,b⟩
     case measure=>simp[intOf];omega
    | false=>
     by_cases f:k=0
     · have e0:((k:Int)==0)=true:=by rw[f];rfl
       have b:=zA (p.out (by rw[if_pos f];exact m.out));clear f;go_wp2_with (first | (go_at_call 60;refine(zFN m.out w).mono ?_;rintro e w' ⟨rfl,rfl⟩) | (go_at_call 62;refine(zGM u.out w).mono ?_;rintro e w' ⟨rfl,rfl⟩))
       (try rw[Exit.noGoto_ret])
       go_ret;exact⟨zJ b,rfl⟩
     · have e0:((k:Int)==0)=false:=yA.2 jo;cases G with
       | true=>
        have b:=zA (j.out (by rw[if_neg f,B.out];rfl));clear f;go_wp2_with (first | (go_at_call 60;refine(zFN m.out w).mono ?_;rintro e w' ⟨rfl,rfl⟩) | (go_at_call 62;refine(zGM u.out w).mono ?_;rintro e w' ⟨rfl,rfl⟩));go_round
        case rel=>exact⟨k+1,by omega,by go_num,b⟩
        case measure=>simp[intOf];omega
       | false=>
        have b:=zA (p.out (by rw[if_neg f,B.out];rfl));clear f;go_wp2_with (first | (go_at_call 60;refine(zFN m.out w).mono ?_;rintro e w' ⟨rfl,rfl⟩) | (go_at_call 62;refine(zGM u.out w).mono ?_;rintro e w' ⟨rfl,rfl⟩))
        (try rw[Exit.noGoto_ret])
        go_ret;exact⟨zJ b,rfl⟩
  · have C:=zA (show zKz s.data.toList s.data.toList.length by rw[o.out,show s.size=k by omega];exact y.out)
    by_cases d:s.data.toList=[]
    · have e1:s.toList=[]:=by rw[ByteArray.toList_eq];exact d
      have b:=zA (show false=q by rw[←z.out,d];rfl);have e2:(s.toList==[])=true:=by rw[e1];rfl
      have e3:s.toList.isEmpty=true:=by rw[e1];rfl
      clear d e1;go_wp2_with fail;go_ret;exact⟨zJ b,rfl⟩
    · have e1:s.toList≠[]:=by rw[ByteArray.toList_eq];exact d
      have b:=zA (show true=q by rw[←z.out,zP7 C.out d]);have e2:(s.toList==[])=false:=yA.2 e1;have e3:s.toList.isEmpty=false:=by rw[List.isEmpty_eq_false_iff];exact e1
      clear d e1;go_wp2_with fail;go_ret;exact⟨zJ b,rfl⟩
theorem zJ0 (s:ByteArray) (w:World) (hs:s.size≤8192) (b:zBi s.data.toList=q):
 Calls prog 74 #[.string s] w fun e w'=>e=.returned q∧w=w':=by
 cases hr:zFv s.data.toList with
 | false=>
  obtain rfl:q=false:=by rw[←b];unfold zBi;rw[hr];rfl
  have c:=zA hr;clear hr b;go_enter func74,ntmps74;go_wp2_with (go_at_call 75;refine(zG2 s w hs c.out).mono ?_;rintro e w' ⟨rfl,rfl⟩);go_ret;exact⟨rfl,rfl⟩
 | true=>
  obtain⟨n,d⟩:=jx (zCW s.data.toList);have f:=zA (show(n==0)=q by rw[←b,←d];unfold zBi;rw[hr];rfl);have c:=zA hr;have g:=zA (show∀w:World,Calls prog 97 #[.string s] w fun e w'=>e=.returned n∧w=w' from fun w=>by have:=zD7 s w;rwa [d]at this);clear hr b d;go_enter func74,ntmps74;go_wp2_with (first | (go_at_call 75;refine(zG2 s w hs c.out).mono ?_;rintro e w' ⟨rfl,rfl⟩) | (go_at_call 97;refine(g.out w).mono ?_;rintro e w' ⟨rfl,rfl⟩));go_ret;refine⟨zJ ?_,rfl⟩;rw[←f.out,Bool.eq_iff_iff,beq_iff_eq,beq_iff_eq];omega
def zMD (l:List (List UInt8)):List Value:=l.map fun s=>Value.string ⟨s.toArray⟩
theorem zTG (l:List (List UInt8)):(zMD l).length=l.length:=by simp[zMD]
def zaS (s:List UInt8) (xs:List (List UInt8)) (w:World) (e:Ending) (w':World):Prop:=∃r:Int,e=.returned r∧w=w'∧decide (0≤r)=decide (s∈xs)∧ -1≤r∧r≤4096
theorem zP9 (s:ByteArray) (o:xs.length=n) (p:Reads w B 1 A n (zMD xs)) (E:n≤4096):
 Calls prog 115 #[.slice A n c,.string s] w (zaS s.data.toList xs w):=by
 have q:=zA o;have D:=zA p;clear o p;go_enter func115,ntmps115;go_wp2_with fail
 go_loop [8] (fun i=>∃k:Nat,k≤n∧i=.int .i64 k∧Hid (s.data.toList∉xs.take k)) (fun i=>n - (intOf i).toNat)
 case atStart=>exact⟨0,yAE _,rfl,by simp[Hid]⟩
 case round=>
  obtain⟨k,hk,rfl,j⟩:=hrel
  by_cases r:k < n
  · have g:k < xs.length:=by rw[q.out];exact r
    obtain⟨b,off,rfl,_,e⟩:=D.out.spotR jo;have f:=e k (.string ⟨xs[k].toArray⟩) (by simp[zMD,yAB g]);have t:=zA (show xs[k]∈xs from List.getElem_mem g);have u:=zA (show xs.take (k+1)=xs.take k++[xs[k]]from yAL g);obtain⟨x,l⟩:=jx (xs[k]);rw[l]at f t u;clear e l g
    by_cases d:x=s.data.toList
    · have v:(⟨x.toArray⟩:ByteArray)=s:=by rw[d]
      have m:=zA (show decide (s.data.toList∈xs)=true from decide_eq_true (by rw[←d];exact t.out));rw[v]at f;clear d v;go_wp2_with fail
      (try rw[Exit.noGoto_ret])
      go_ret;exact⟨_,rfl,rfl,by rw[m.out];exact decide_eq_true jo,by omega,by omega⟩
    · have e1:((⟨x.toArray⟩:ByteArray).toList==s.toList)=false:=by
       rw[yA,ByteArray.toList_eq,ByteArray.toList_eq];exact d
      have e2:(s.toList==(⟨x.toArray⟩:ByteArray).toList)=false:=by
       rw[yA,ByteArray.toList_eq,ByteArray.toList_eq];exact fun h=>d h.symm
      have z:=zA (show s.data.toList∉xs.take (k+1) by
       rw[u.out,List.mem_append,List.mem_singleton];rintro(h | h)
       · exact j.out h
       · exact d h.symm)
      obtain⟨y,C⟩:∃y:ByteArray,⟨x.toArray⟩=y:=⟨_,rfl⟩;rw[C]at f e1 e2;clear d C;go_wp2_with fail;go_round
      case rel=>exact⟨k+1,by omega,by go_num,z⟩
      case measure=>simp[intOf];omega
  · have m:=zA (show decide (s.data.toList∈xs)=false from yAI (by
     have:=j.out;rwa [List.take_of_length_le (by rw[q.out];omega)]at this))
    go_wp2_with fail;go_ret;exact⟨_,rfl,rfl,by rw[m.out];rfl,by omega,by omega⟩
theorem zF2 (s:ByteArray) (d:xs.length=n) (b:Reads w B 1 A n (zMD xs)) (g:n≤4096) (f:decide (s.data.toList∈xs)=q):
 Calls prog 77 #[.slice A n c,.string s] w fun e w'=>e=.returned q∧w=w':=by
 have H:=zA (fun w (b:Reads w B 1 A n (zMD xs))=>zP9 (c:=c) s d b g);have j:=zA b;have k:=zA f;clear d b f;go_enter func77,ntmps77;go_wp2_with (go_at_call 115;refine(H.out w j.out).mono ?_;rintro e w' ⟨r,rfl,rfl,l,m,o⟩);go_ret;exact⟨zJ (by rw[←k.out,←l]),rfl⟩
def zZ2 (w:World) (l:List (List UInt8)) (e:Ending) (w':World):Prop:=∃ad c,e=.returned (.slice (some ad) l.length c)∧Reads w' w'.heap.size 1 (some ad) l.length (zMD l)∧Below w.heap.size w w'
theorem zG3 (w:World) (l:List (List UInt8)) (T:TypeId) (n m:Nat) (h1:l.length=n):zZ2 w l (.returned (.slice (some ⟨w.heap.size,0,none⟩) n m)) (w.alloc (.cells (zMD l).toArray T)):=by
 subst h1;have h:=zJw w (zMD l) T;rw[zTG]at h;exact⟨_,_,rfl,h.more js,ja⟩
theorem zQA (k:Int) (h:k=43∨k=44∨k=45∨k=46∨k=47∨k=49) (w:World):Calls prog 76 #[k] w (zZ2 w (zI4 k)):=by
 rcases h with rfl | rfl | rfl | rfl | rfl | rfl
 all_goals
  go_enter func76,ntmps76;go_wp2_with fail;go_ret
  first | exact zG3 w zHK _ _ _ rfl | exact zG3 w zDO _ _ _ rfl | exact zG3 w zU8 _ _ _ rfl | exact zG3 w zVU _ _ _ rfl | exact zG3 w zIF _ _ _ rfl
theorem zME (k:Int) (h:∀j∈([43,44,45,46,47,49]:List Int),k≠j) (w:World):Calls prog 76 #[k] w fun e w'=>e=.returned ()∧w=w':=by
 have b:(k==43)=false:=yA.2 (h 43 jd);have c:(k==44)=false:=yA.2 (h 44 jd);have d:(k==45)=false:=yA.2 (h 45 jd);have f:(k==46)=false:=yA.2 (h 46 jd);have g:(k==47)=false:=yA.2 (h 47 jd);have l:(k==49)=false:=yA.2 (h 49 jd);clear h;go_enter func76,ntmps76;go_wp2_with fail;go_ret;exact⟨rfl,rfl⟩
theorem zIf {b:ByteArray} (h:b.data.toList=[]):b=⟨#[]⟩:=by
 cases b with
 | mk d=>congr 1;exact Array.toList_eq_nil_iff.1 h
theorem zNQ {b:ByteArray} (h:b.data.toList≠[]):b.toList≠[]∧(b.toList==[])=false∧b.toList.isEmpty=false:=by
 have h1:b.toList≠[]:=by rw[ByteArray.toList_eq];exact h
 exact⟨h1,yA.2 h1,by rw[List.isEmpty_eq_false_iff];exact h1⟩
theorem zFO {o:Obj} (h:Below (w.alloc o).heap.size (w.alloc o) w'):Below w.heap.size w w':=(ja).trans (h.mono js)
def NmP (q:Bool) (w:World) (e:Ending) (w':World):Prop:=e=.returned q∧Below w.heap.size w w'
theorem zWN (k:Int) (h:k=7∨k=18∨k=19∨k=20∨k=33) (b:ByteArray) (vs d vk:Value) (nk nn:Int) (f:Bool) (w:World) (g:b.size≤8192) (c:zBi b.data.toList=q):Calls prog 38 #[.agg #[k,.string b,vs,nk,nn,f,d,vk]] w (NmP q w):=by
 have j:=zA c;clear c;rcases h with rfl | rfl | rfl | rfl | rfl
 all_goals
  go_enter func38,ntmps38;go_wp2_with (go_at_call 74;refine(zJ0 b _ g j.out).mono ?_;rintro e w' ⟨rfl,rfl⟩);go_ret;exact⟨rfl,by go_grown⟩
theorem zWO (k:Int) (h:k=12∨k=13∨k=17∨k=41) (b:ByteArray) (vs e vk:Value) (nk nn:Int) (f:Bool) (w:World) (g:b.size≤8192) (c:b.data.toList=[]) (d:q=true):Calls prog 38 #[.agg #[k,.string b,vs,nk,nn,f,e,vk]] w (NmP q w):=by
 obtain rfl:=zIf c;subst d;clear c;rcases h with rfl | rfl | rfl | rfl
 all_goals
  go_enter func38,ntmps38;go_wp2_with fail;go_ret;exact⟨rfl,by go_grown⟩
theorem zWP (k:Int) (h:k=12∨k=13∨k=17∨k=41) (b:ByteArray) (vs f vk:Value) (nk nn:Int) (g:Bool) (w:World) (j:b.size≤8192) (c:b.data.toList≠[]) (d:zBi b.data.toList=q):Calls prog 38 #[.agg #[k,.string b,vs,nk,nn,g,f,vk]] w (NmP q w):=by
 have l:=zA d;obtain⟨f1,m,o⟩:=zNQ c;clear d c f1;rcases h with rfl | rfl | rfl | rfl
 all_goals
  go_enter func38,ntmps38;go_wp2_with (go_at_call 74;refine(zJ0 b _ j l.out).mono ?_;rintro e w' ⟨rfl,rfl⟩);go_ret;exact⟨rfl,by go_grown⟩
theorem zTH (b:ByteArray) (vs d vk:Value) (nk nn:Int) (f:Bool) (w:World) (g:b.size≤8192) (c:zFv b.data.toList=q):Calls prog 38 #[.agg #[(52:Int),.string b,vs,nk,nn,f,d,vk]] w (NmP q w):=by
 have j:=zA c;clear c;go_enter func38,ntmps38;go_wp2_with (go_at_call 75;refine(zG2 b _ g j.out).mono ?_;rintro e w' ⟨rfl,rfl⟩);go_ret;exact⟨rfl,by go_grown⟩
theorem zWQ (k:Int) (h:k=43∨k=44∨k=45∨k=46∨k=47∨k=49) (b:ByteArray) (vs j vk:Value) (nk nn:Int) (l:Bool) (w:World) (_b:b.size≤8192) (e:decide (b.data.toList∈zI4 k)=q):Calls prog 38 #[.agg #[k,.string b,vs,nk,nn,l,j,vk]] w (NmP q w):=by
 have m:=zA e;clear e;have o:=fun(w:World) (f:Addr) (n c:Nat)=>run_neq_slice_nil_any (P:=prog) w 107 9 (some f) n c 0 0 underlying107;rcases h with rfl | rfl | rfl | rfl | rfl | rfl
 all_goals
  go_enter func38,ntmps38;go_wp2_with (first | (go_at_call 76;refine(zQA _ jo _).mono ?_;rintro e1 w1 ⟨f,c1,rfl,g,d⟩;have r:=d.cell (p:=⟨w.heap.size,1,none⟩) js) | (go_at_call 77;refine(zF2 b (n:=(zI4 _).length) rfl g jd m.out).mono ?_;rintro e2 w2 ⟨rfl,rfl⟩));go_ret;exact⟨rfl,zFO d⟩
theorem zNR (k:Int) (h:∀j∈([7,12,13,17,18,19,20,33,41,43,44,45,46,47,49,52]:List Int),k≠j) (b:ByteArray) (vs e vk:Value) (nk nn:Int) (f:Bool) (w:World) (_b:b.size≤8192) (c:b.data.toList=[]) (d:q=true):Calls prog 38 #[.agg #[k,.string b,vs,nk,nn,f,e,vk]] w (NmP q w):=by
 obtain rfl:=zIf c;subst d;clear c;have e7:(k==7)=false:=yA.2 (h 7 jd);have m:(k==12)=false:=yA.2 (h 12 jd);have o:(k==13)=false:=yA.2 (h 13 jd);have p:(k==17)=false:=yA.2 (h 17 jd);have r:(k==18)=false:=yA.2 (h 18 jd);have s:(k==19)=false:=yA.2 (h 19 jd);have t:(k==20)=false:=yA.2 (h 20 jd);have u:(k==33)=false:=yA.2 (h 33 jd);have v:(k==41)=false:=yA.2 (h 41 jd);have y:(k==43)=false:=yA.2 (h 43 jd);have z:(k==44)=false:=yA.2 (h 44 jd);have A:(k==45)=false:=yA.2 (h 45 jd);have B:(k==46)=false:=yA.2 (h 46 jd);have C:(k==47)=false:=yA.2 (h 47 jd);have D:(k==49)=false:=yA.2 (h 49 jd);have E:(k==52)=false:=yA.2 (h 52 jd);have g:=zA (fun w=>zME k (fun j l=>h j (by simp only[List.mem_cons,List.mem_nil_iff,or_false]at l⊢;omega)) w);have F:=fun(w:World)=>run_neq_slice_nil_any (P:=prog) w 107 9 none 0 0 0 0 underlying107;clear h;go_enter func38,ntmps38;go_wp2_with (go_at_call 76;refine(g.out _).mono ?_;rintro e1 w1 ⟨rfl,rfl⟩);go_ret;exact⟨rfl,by go_grown⟩
theorem zNS (k:Int) (h:∀j∈([7,12,13,17,18,19,20,33,41,43,44,45,46,47,49,52]:List Int),k≠j) (b:ByteArray) (vs e vk:Value) (nk nn:Int) (f:Bool) (w:World) (_b:b.size≤8192) (c:b.data.toList≠[]) (d:q=false):Calls prog 38 #[.agg #[k,.string b,vs,nk,nn,f,e,vk]] w (NmP q w):=by
 obtain⟨f1,G,H⟩:=zNQ c;subst d;clear c f1;have e7:(k==7)=false:=yA.2 (h 7 jd);have m:(k==12)=false:=yA.2 (h 12 jd);have o:(k==13)=false:=yA.2 (h 13 jd);have p:(k==17)=false:=yA.2 (h 17 jd);have r:(k==18)=false:=yA.2 (h 18 jd);have s:(k==19)=false:=yA.2 (h 19 jd);have t:(k==20)=false:=yA.2 (h 20 jd);have u:(k==33)=false:=yA.2 (h 33 jd);have v:(k==41)=false:=yA.2 (h 41 jd);have y:(k==43)=false:=yA.2 (h 43 jd);have z:(k==44)=false:=yA.2 (h 44 jd);have A:(k==45)=false:=yA.2 (h 45 jd);have B:(k==46)=false:=yA.2 (h 46 jd);have C:(k==47)=false:=yA.2 (h 47 jd);have D:(k==49)=false:=yA.2 (h 49 jd);have E:(k==52)=false:=yA.2 (h 52 jd);have g:=zA (fun w=>zME k (fun j l=>h j (by simp only[List.mem_cons,List.mem_nil_iff,or_false]at l⊢;omega)) w);have F:=fun(w:World)=>run_neq_slice_nil_any (P:=prog) w 107 9 none 0 0 0 0 underlying107;clear h;go_enter func38,ntmps38;go_wp2_with (go_at_call 76;refine(g.out _).mono ?_;rintro e1 w1 ⟨rfl,rfl⟩);go_ret;exact⟨rfl,by go_grown⟩
theorem zQB (k:Int) (b:ByteArray) (vs d vk:Value) (nk nn:Int) (f:Bool) (w:World) (l:b.size≤8192) (g:zAe k b.data.toList=q):Calls prog 38 #[.agg #[k,.string b,vs,nk,nn,f,d,vk]] w (NmP q w):=by
 by_cases p:k=7∨k=18∨k=19∨k=20∨k=33
 · exact zWN k p b vs d vk nk nn f w l (by rw[←g];rcases p with rfl | rfl | rfl | rfl | rfl<;>rfl)
 by_cases m:k=12∨k=13∨k=17∨k=41
 · by_cases c:b.data.toList=[]
   · exact zWO k m b vs d vk nk nn f w l c (by rw[←g,c];rcases m with rfl | rfl | rfl | rfl<;>rfl)
   · exact zWP k m b vs d vk nk nn f w l c (by rw[←g];have e:=yAI c;rcases m with rfl | rfl | rfl | rfl<;>(show _=(decide (b.data.toList=[]) || zBi b.data.toList);rw[e];rfl))
 by_cases o:k=43∨k=44∨k=45∨k=46∨k=47∨k=49
 · exact zWQ k o b vs d vk nk nn f w l (by rw[←g];rcases o with rfl | rfl | rfl | rfl | rfl | rfl<;>rfl)
 by_cases s:k=52
 · subst s;exact zTH b vs d vk nk nn f w l g
 have r:∀j∈([7,12,13,17,18,19,20,33,41,43,44,45,46,47,49,52]:List Int),k≠j:=fun j t=>by simp only[List.mem_cons,List.mem_nil_iff,or_false]at t;omega
 have u:zAe k b.data.toList=decide (b.data.toList=[]):=by
  have o:zI4 k=[]:=by unfold zI4;rw[jn,jn,jn,jn,jn]
  unfold zAe;rw[jn,jn,jn,o,if_neg js]
 rw[u]at g
 by_cases c:b.data.toList=[]
 · exact zNR k r b vs d vk nk nn f w l c (by rw[←g,decide_eq_true c])
 · exact zNS k r b vs d vk nk nn f w l c (by rw[←g,yAI c])
def BmP (q:Bool) (w:World) (e:Ending) (w':World):Prop:=e=.returned q∧Below w.heap.size w w'
theorem zBW (h:n≤4096):¬(4096:Int) < (n:Int)∧decide ((4096:Int) < (n:Int))=false:=⟨by omega,yAI jo⟩
theorem zK0 (h:0 < n):(0:Int) < (n:Int)∧decide ((0:Int) < (n:Int))=true∧decide (0 < n)=true:=⟨by omega,decide_eq_true jo,decide_eq_true h⟩
theorem zTI {x:Int} (h:x≠0):(x==0)=false∧(x !=0)=true:=⟨yA.2 h,bne_iff_ne.2 h⟩
def zBX (k:Int) (nb:ByteArray) (As Am:Option Addr) (cs cm:Nat) (vk:Value) (ls:Nat) (nk nn:Int) (ng:Bool) (lm:Nat) (w:World) (q:Bool):Prop:=Calls prog 26 #[.agg #[k,.string nb,.slice As ls cs,nk,nn,ng,.slice Am lm cm,vk]] w (BmP q w)
theorem zTJ (b:Bool) (A:Option Addr) (c:Nat) (w:World):Calls prog 37 #[.agg #[b,.slice A 0 c]] w (BmP (!b) w):=by
 cases b
 all_goals
  go_enter func37,ntmps37;go_wp2_with fail;go_ret;exact⟨rfl,by go_grown⟩
theorem zQC (b:Bool) (A:Option Addr) (n c:Nat) (w:World) (h:8 < n):Calls prog 37 #[.agg #[b,.slice A n c]] w (BmP false w):=by
 have e1:¬(n:Int)≤8:=by omega
 have e2:decide ((n:Int)≤8)=false:=yAI e1;go_enter func37,ntmps37;go_wp2_with fail;go_ret;exact⟨rfl,by go_grown⟩
theorem zQD (f:Bool) (b o n c B x:Nat) (w:World) (h1:n+1≤8) (hb:b < B) (hB:B≤w.heap.size) (g:w.cell? ⟨b,o+n,none⟩=some (.int .u32 (x:Int))) (p:x < 4294967296) (j:(!(x==0))=q):Calls prog 37 #[.agg #[f,.slice (some ⟨b,o,none⟩) (n+1) c]] w (BmP q w):=by
 have e1:(n:Int)+1≤8:=by omega
 have e2:decide ((n:Int)+1≤8)=true:=decide_eq_true e1;have e3:((n:Int)+1==0)=false:=yA.2 jo;have e4:decide ((0:Int) < (n:Int)+1)=true:=decide_eq_true jo;have d:=World.cell?_alloc_lt w (.cells #[f,.slice (some ⟨b,o,none⟩) (n+1) c] 40) ⟨b,o+n,none⟩ (by show b < _;omega);rw[g]at d;have k:=zA j;clear j g
 by_cases e:x=0
 · subst e;have m:(w.alloc (.cells #[f,.slice (some ⟨b,o,none⟩) (n+1) c] 40)).cell? ⟨b,o+n,none⟩=some (.int .u32 0):=d;clear d;go_enter func37,ntmps37;go_wp2_with fail;go_ret;exact⟨zJ (by rw[←k.out];rfl),by go_grown⟩
 · have e5:((x:Int) !=0)=true:=bne_iff_ne.2 jo;have e6:((x:Int)==0)=false:=yA.2 jo;have l:=zA e;clear e;go_enter func37,ntmps37;go_wp2_with fail;go_ret;exact⟨zJ (by rw[←k.out];have:=l.out;simp;omega),by go_grown⟩
theorem zIg {xs:List Nat} (e:Bool) (g:xs.length=n) (j:Reads w B 1 A n (zRc xs)) (hB:B≤w.heap.size) (k:∀y∈xs,y < 4294967296) (d:zBR e xs=q):
 Calls prog 37 #[.agg #[e,.slice A n c]] w (BmP q w):=by
 unfold zBR at d;rw[g]at d
 by_cases l:8 < n
 · rw[yAI jo,Bool.false_and]at d;subst d;exact zQC e A n c w l
 · rw[decide_eq_true jo,Bool.true_and]at d
   by_cases p:n=0
   · subst p;have r:xs=[]:=List.length_eq_zero_iff.1 g;subst r;subst d;exact zTJ e A c w
   · obtain⟨m,rfl⟩:∃m,n=m+1:=⟨n - 1,by omega⟩;obtain⟨b,o,rfl,hb,s⟩:=j.spotR jo;have f:m < xs.length:=by omega
     have hg:xs.getLast? =some xs[m]:=by rw[List.getLast?_eq_getElem?,show xs.length - 1=m by omega,yAB f]
     rw[hg]at d;exact zQD e b o m c B xs[m] w jo hb hB (s m _ (by simp[zRc,yAB f])) (k _ (List.getElem_mem f)) d
theorem zK1 (k1:Int) (b:ByteArray) (As Am:Option Addr) (cs cm:Nat) (vk:Value) (d:Nat) (nk:Int) (nn:Int) (e:Bool) (f:Nat) (w:World) (hs:4096 < b.size):zBX (k1) b As Am cs cm vk d (nk) (nn) e f w false:=by
 unfold zBX;have c:(4096:Int) < (b.size:Int):=by omega
 have g:decide ((4096:Int) < (b.size:Int))=true:=decide_eq_true c;go_enter func26,ntmps26;go_wp2_with fail;go_ret;exact⟨rfl,by go_grown⟩
theorem zQE (b:ByteArray) (As Am:Option Addr) (cs cm:Nat) (vk:Value) (c:Nat) (nk:Int) (nn:Int) (d:Bool) (e:Nat) (w:World) (hs:b.size≤4096) (f:nk≠0):zBX (32) b As Am cs cm vk c (nk) (nn) d e w false:=by
 unfold zBX;obtain⟨g,j⟩:=zBW hs;obtain⟨k,l⟩:=zTI f;go_enter func26,ntmps26;go_wp2_with fail;go_ret;exact⟨rfl,by go_grown⟩
theorem zQF (b:ByteArray) (As Am:Option Addr) (cs cm:Nat) (vk:Value) (c:Nat) (nn:Int) (d:Bool) (e:Nat) (w:World) (hs:b.size≤4096) (f:nn≠0):zBX (32) b As Am cs cm vk c (0) (nn) d e w false:=by
 unfold zBX;obtain⟨g,j⟩:=zBW hs;obtain⟨k,l⟩:=zTI f;go_enter func26,ntmps26;go_wp2_with fail;go_ret;exact⟨rfl,by go_grown⟩
theorem zTK (b:ByteArray) (As Am:Option Addr) (cs cm:Nat) (vk:Value) (c:Nat) (d:Nat) (w:World) (hs:b.size≤4096):zBX (32) b As Am cs cm vk c (0) (0) true d w false:=by
 unfold zBX;obtain⟨e,f⟩:=zBW hs;go_enter func26,ntmps26;go_wp2_with fail;go_ret;exact⟨rfl,by go_grown⟩
theorem zTL (b:ByteArray) (As Am:Option Addr) (cs cm:Nat) (vk:Value) (d:Nat) (c:Nat) (w:World) (hs:b.size≤4096) (e:0 < c):zBX (32) b As Am cs cm vk d (0) (0) false c w false:=by
 unfold zBX;obtain⟨f,g⟩:=zBW hs;obtain⟨j,k,l⟩:=zK0 e;go_enter func26,ntmps26;go_wp2_with fail;go_ret;exact⟨rfl,by go_grown⟩
theorem zQG (c:ByteArray) (As Am:Option Addr) (cs cm:Nat) (vk:Value) (d:Nat) (w:World) (hs:c.size≤4096) (b:c.data.toList≠[]):zBX (32) c As Am cs cm vk d (0) (0) false 0 w false:=by
 unfold zBX;obtain⟨e,f⟩:=zBW hs;obtain⟨f1,g,j⟩:=zNQ b;clear b f1;go_enter func26,ntmps26;go_wp2_with fail;go_ret;exact⟨rfl,by go_grown⟩
theorem zTM (As Am:Option Addr) (cs cm:Nat) (vk:Value) (b:Nat) (w:World) (d:b≤4096):zBX (32) ⟨#[]⟩ As Am cs cm vk b (0) (0) false 0 w true:=by
 unfold zBX;have c:(b:Int)≤4096:=by omega
 have e:decide ((b:Int)≤4096)=true:=decide_eq_true c;go_enter func26,ntmps26;go_wp2_with fail;go_ret;exact⟨rfl,by go_grown⟩
theorem zWR (As Am:Option Addr) (cs cm:Nat) (vk:Value) (b:Nat) (w:World) (d:4096 < b):zBX (32) ⟨#[]⟩ As Am cs cm vk b (0) (0) false 0 w false:=by
 unfold zBX;have c:¬(b:Int)≤4096:=by omega
 have e:decide ((b:Int)≤4096)=false:=yAI c;go_enter func26,ntmps26;go_wp2_with fail;go_ret;exact⟨rfl,by go_grown⟩
theorem zQH (b:ByteArray) (As Am:Option Addr) (cs cm:Nat) (vk:Value) (c:Nat) (nk:Int) (nn:Int) (d:Bool) (e:Nat) (w:World) (hs:b.size≤4096) (f:nk≠0):zBX (40) b As Am cs cm vk c (nk) (nn) d e w false:=by
 unfold zBX;obtain⟨g,j⟩:=zBW hs;obtain⟨k,l⟩:=zTI f;go_enter func26,ntmps26;go_wp2_with fail;go_ret;exact⟨rfl,by go_grown⟩
theorem zQI (b:ByteArray) (As Am:Option Addr) (cs cm:Nat) (vk:Value) (c:Nat) (nn:Int) (d:Bool) (e:Nat) (w:World) (hs:b.size≤4096) (f:nn≠0):zBX (40) b As Am cs cm vk c (0) (nn) d e w false:=by
 unfold zBX;obtain⟨g,j⟩:=zBW hs;obtain⟨k,l⟩:=zTI f;go_enter func26,ntmps26;go_wp2_with fail;go_ret;exact⟨rfl,by go_grown⟩
theorem zTN (b:ByteArray) (As Am:Option Addr) (cs cm:Nat) (vk:Value) (c:Nat) (d:Nat) (w:World) (hs:b.size≤4096):zBX (40) b As Am cs cm vk c (0) (0) true d w false:=by
 unfold zBX;obtain⟨e,f⟩:=zBW hs;go_enter func26,ntmps26;go_wp2_with fail;go_ret;exact⟨rfl,by go_grown⟩
theorem zTO (b:ByteArray) (As Am:Option Addr) (cs cm:Nat) (vk:Value) (d:Nat) (c:Nat) (w:World) (hs:b.size≤4096) (e:0 < c):zBX (40) b As Am cs cm vk d (0) (0) false c w false:=by
 unfold zBX;obtain⟨f,g⟩:=zBW hs;obtain⟨j,k,l⟩:=zK0 e;go_enter func26,ntmps26;go_wp2_with fail;go_ret;exact⟨rfl,by go_grown⟩
theorem zQJ (c:ByteArray) (As Am:Option Addr) (cs cm:Nat) (vk:Value) (d:Nat) (w:World) (hs:c.size≤4096) (b:c.data.toList≠[]):zBX (40) c As Am cs cm vk d (0) (0) false 0 w false:=by
 unfold zBX;obtain⟨e,f⟩:=zBW hs;obtain⟨f1,g,j⟩:=zNQ b;clear b f1;go_enter func26,ntmps26;go_wp2_with fail;go_ret;exact⟨rfl,by go_grown⟩
theorem zTP (As Am:Option Addr) (cs cm:Nat) (vk:Value) (b:Nat) (w:World) (d:b≤4096):zBX (40) ⟨#[]⟩ As Am cs cm vk b (0) (0) false 0 w true:=by
 unfold zBX;have c:(b:Int)≤4096:=by omega
 have e:decide ((b:Int)≤4096)=true:=decide_eq_true c;go_enter func26,ntmps26;go_wp2_with fail;go_ret;exact⟨rfl,by go_grown⟩
theorem zWS (As Am:Option Addr) (cs cm:Nat) (vk:Value) (b:Nat) (w:World) (d:4096 < b):zBX (40) ⟨#[]⟩ As Am cs cm vk b (0) (0) false 0 w false:=by
 unfold zBX;have c:¬(b:Int)≤4096:=by omega
 have e:decide ((b:Int)≤4096)=false:=yAI c;go_enter func26,ntmps26;go_wp2_with fail;go_ret;exact⟨rfl,by go_grown⟩
theorem zTQ (b:ByteArray) (As Am:Option Addr) (cs cm:Nat) (vk:Value) (c:Nat) (nk:Int) (nn:Int) (d:Bool) (e:Nat) (w:World) (hs:b.size≤4096) (f:0 < c):zBX (30) b As Am cs cm vk c (nk) (nn) d e w false:=by
 unfold zBX;obtain⟨g,j⟩:=zBW hs;obtain⟨k,l,m⟩:=zK0 f;go_enter func26,ntmps26;go_wp2_with fail;go_ret;exact⟨rfl,by go_grown⟩
theorem zTR (b:ByteArray) (As Am:Option Addr) (cs cm:Nat) (vk:Value) (nk:Int) (nn:Int) (c:Nat) (w:World) (hs:b.size≤4096):zBX (30) b As Am cs cm vk 0 (nk) (nn) true c w false:=by
 unfold zBX;obtain⟨d,e⟩:=zBW hs;go_enter func26,ntmps26;go_wp2_with fail;go_ret;exact⟨rfl,by go_grown⟩
theorem zTS (b:ByteArray) (As Am:Option Addr) (cs cm:Nat) (vk:Value) (nk:Int) (nn:Int) (c:Nat) (w:World) (hs:b.size≤4096) (d:0 < c):zBX (30) b As Am cs cm vk 0 (nk) (nn) false c w false:=by
 unfold zBX;obtain⟨e,f⟩:=zBW hs;obtain⟨g,j,k⟩:=zK0 d;go_enter func26,ntmps26;go_wp2_with fail;go_ret;exact⟨rfl,by go_grown⟩
theorem zQK (c:ByteArray) (As Am:Option Addr) (cs cm:Nat) (vk:Value) (nk:Int) (nn:Int) (w:World) (hs:c.size≤4096) (b:c.data.toList≠[]):zBX (30) c As Am cs cm vk 0 (nk) (nn) false 0 w false:=by
 unfold zBX;obtain⟨d,e⟩:=zBW hs;obtain⟨f1,f,g⟩:=zNQ b;clear b f1;go_enter func26,ntmps26;go_wp2_with fail;go_ret;exact⟨rfl,by go_grown⟩
theorem zQL (As Am:Option Addr) (cs cm:Nat) (vk:Value) (nk:Int) (nn:Int) (w:World) (b:nk≠0):zBX (30) ⟨#[]⟩ As Am cs cm vk 0 (nk) (nn) false 0 w false:=by
 unfold zBX;obtain⟨c,d⟩:=zTI b;go_enter func26,ntmps26;go_wp2_with fail;go_ret;exact⟨rfl,by go_grown⟩
theorem zTT (As Am:Option Addr) (cs cm:Nat) (vk:Value) (nn:Int) (w:World) (c:zDd 0 nn=false):zBX (30) ⟨#[]⟩ As Am cs cm vk 0 (0) (nn) false 0 w false:=by
 unfold zBX;have d:=zA (fun w=>by have:=zIG 0 nn w;rwa[c]at this);clear c;go_enter func26,ntmps26;go_wp2_with (go_at_call 36;refine(d.out _).mono ?_;rintro e1 w1 ⟨rfl,b⟩;have e:=b.cell (p:=⟨w.heap.size,4,none⟩) js);go_ret;exact⟨rfl,zFO b⟩
theorem zTU (As Am:Option Addr) (cs cm:Nat) (vk:Value) (nn:Int) (w:World) (c:zDd 0 nn=true) (d:0≤nn):zBX (30) ⟨#[]⟩ As Am cs cm vk 0 (0) (nn) false 0 w true:=by
 unfold zBX;have e:=zA (fun w=>by have:=zIG 0 nn w;rwa[c]at this);clear c;have g:decide ((0:Int)≤nn)=true:=decide_eq_true d;go_enter func26,ntmps26;go_wp2_with (go_at_call 36;refine(e.out _).mono ?_;rintro e1 w1 ⟨rfl,b⟩;have f:=b.cell (p:=⟨w.heap.size,4,none⟩) js);go_ret;exact⟨rfl,zFO b⟩
theorem zWT (As Am:Option Addr) (cs cm:Nat) (vk:Value) (nn:Int) (w:World) (c:zDd 0 nn=true) (d:¬0≤nn):zBX (30) ⟨#[]⟩ As Am cs cm vk 0 (0) (nn) false 0 w false:=by
 unfold zBX;have e:=zA (fun w=>by have:=zIG 0 nn w;rwa[c]at this);clear c;have g:decide ((0:Int)≤nn)=false:=yAI d;go_enter func26,ntmps26;go_wp2_with (go_at_call 36;refine(e.out _).mono ?_;rintro e1 w1 ⟨rfl,b⟩;have f:=b.cell (p:=⟨w.heap.size,4,none⟩) js);go_ret;exact⟨rfl,zFO b⟩
theorem zTV (b:ByteArray) (As Am:Option Addr) (cs cm:Nat) (vk:Value) (c:Nat) (nk:Int) (nn:Int) (d:Bool) (e:Nat) (w:World) (hs:b.size≤4096) (f:0 < c):zBX (31) b As Am cs cm vk c (nk) (nn) d e w false:=by
 unfold zBX;obtain⟨g,j⟩:=zBW hs;obtain⟨k,l,m⟩:=zK0 f;go_enter func26,ntmps26;go_wp2_with fail;go_ret;exact⟨rfl,by go_grown⟩
theorem zQM (b:ByteArray) (As Am:Option Addr) (cs cm:Nat) (vk:Value) (nk:Int) (nn:Int) (c:Bool) (d:Nat) (w:World) (hs:b.size≤4096) (e:nk≠0):zBX (31) b As Am cs cm vk 0 (nk) (nn) c d w false:=by
 unfold zBX;obtain⟨f,g⟩:=zBW hs;obtain⟨j,k⟩:=zTI e;go_enter func26,ntmps26;go_wp2_with fail;go_ret;exact⟨rfl,by go_grown⟩
theorem zQN (b:ByteArray) (As Am:Option Addr) (cs cm:Nat) (vk:Value) (nn:Int) (c:Bool) (d:Nat) (w:World) (hs:b.size≤4096) (e:nn≠0):zBX (31) b As Am cs cm vk 0 (0) (nn) c d w false:=by
 unfold zBX;obtain⟨f,g⟩:=zBW hs;obtain⟨j,k⟩:=zTI e;go_enter func26,ntmps26;go_wp2_with fail;go_ret;exact⟨rfl,by go_grown⟩
theorem zQO (c:ByteArray) (As Am:Option Addr) (cs cm:Nat) (vk:Value) (d:Bool) (e:Nat) (w:World) (hs:c.size≤4096) (b:c.data.toList≠[]):zBX (31) c As Am cs cm vk 0 (0) (0) d e w false:=by
 unfold zBX;obtain⟨f,g⟩:=zBW hs;obtain⟨f1,j,k⟩:=zNQ b;clear b f1;go_enter func26,ntmps26;go_wp2_with fail;go_ret;exact⟨rfl,by go_grown⟩
theorem zG4 (As Am:Option Addr) (cs cm:Nat) (vk:Value) (c:Nat) (w:World) (d:∀w1,Below w.heap.size w w1→Calls prog 37 #[.agg #[false,.slice Am c cm]] w1 (BmP true w1)):zBX (31) ⟨#[]⟩ As Am cs cm vk 0 (0) (0) false c w true:=by
 unfold zBX;have e:=zA d;clear d;go_enter func26,ntmps26;go_wp2_with (go_at_call 37;refine(e.out _ (ja)).mono ?_;rintro e1 w1 ⟨rfl,b⟩;have f:=b.cell (p:=⟨w.heap.size,5,none⟩) js);go_ret;exact⟨rfl,zFO b⟩
theorem zHS (As Am:Option Addr) (cs cm:Nat) (vk:Value) (c:Nat) (w:World) (d:∀w1,Below w.heap.size w w1→Calls prog 37 #[.agg #[true,.slice Am c cm]] w1 (BmP true w1)):zBX (31) ⟨#[]⟩ As Am cs cm vk 0 (0) (0) true c w false:=by
 unfold zBX;have e:=zA d;clear d;go_enter func26,ntmps26;go_wp2_with (go_at_call 37;refine(e.out _ (ja)).mono ?_;rintro e1 w1 ⟨rfl,b⟩;have f:=b.cell (p:=⟨w.heap.size,5,none⟩) js);go_ret;exact⟨rfl,zFO b⟩
theorem zF7 (As Am:Option Addr) (cs cm:Nat) (vk:Value) (c:Nat) (w:World) (d:∀w1,Below w.heap.size w w1→Calls prog 37 #[.agg #[false,.slice Am c cm]] w1 (BmP false w1)):zBX (31) ⟨#[]⟩ As Am cs cm vk 0 (0) (0) false c w false:=by
 unfold zBX;have e:=zA d;clear d;go_enter func26,ntmps26;go_wp2_with (go_at_call 37;refine(e.out _ (ja)).mono ?_;rintro e1 w1 ⟨rfl,b⟩;have f:=b.cell (p:=⟨w.heap.size,5,none⟩) js);go_ret;exact⟨rfl,zFO b⟩
theorem zG5 (As Am:Option Addr) (cs cm:Nat) (vk:Value) (c:Nat) (w:World) (d:∀w1,Below w.heap.size w w1→Calls prog 37 #[.agg #[true,.slice Am c cm]] w1 (BmP false w1)):zBX (31) ⟨#[]⟩ As Am cs cm vk 0 (0) (0) true c w false:=by
 unfold zBX;have e:=zA d;clear d;go_enter func26,ntmps26;go_wp2_with (go_at_call 37;refine(e.out _ (ja)).mono ?_;rintro e1 w1 ⟨rfl,b⟩;have f:=b.cell (p:=⟨w.heap.size,5,none⟩) js);go_ret;exact⟨rfl,zFO b⟩
theorem zWU (k:Int) (b:ByteArray) (As Am:Option Addr) (cs cm:Nat) (vk:Value) (c:Nat) (nk:Int) (nn:Int) (d:Bool) (e:Nat) (w:World) (h:∀j∈([32,40,30,31]:List Int),k≠j) (hs:b.size≤4096) (f:0 < c):zBX (k) b As Am cs cm vk c (nk) (nn) d e w false:=by
 unfold zBX;have g:(k==32)=false:=yA.2 (h 32 jd);have l:(k==40)=false:=yA.2 (h 40 jd);have m:(k==30)=false:=yA.2 (h 30 jd);have o:(k==31)=false:=yA.2 (h 31 jd);have p:(k !=32)=true:=bne_iff_ne.2 (h 32 jd);have q:(k !=40)=true:=bne_iff_ne.2 (h 40 jd);have r:(k !=30)=true:=bne_iff_ne.2 (h 30 jd);have s:(k !=31)=true:=bne_iff_ne.2 (h 31 jd);clear h;obtain⟨t,u⟩:=zBW hs;obtain⟨v,y,z⟩:=zK0 f;go_enter func26,ntmps26;go_wp2_with fail;go_ret;exact⟨rfl,by go_grown⟩
theorem zTW (k:Int) (b:ByteArray) (As Am:Option Addr) (cs cm:Nat) (vk:Value) (nk:Int) (nn:Int) (c:Bool) (d:Nat) (w:World) (h:∀j∈([32,40,30,31]:List Int),k≠j) (hs:b.size≤4096) (e:nk≠0):zBX (k) b As Am cs cm vk 0 (nk) (nn) c d w false:=by
 unfold zBX;have f:(k==32)=false:=yA.2 (h 32 jd);have g:(k==40)=false:=yA.2 (h 40 jd);have l:(k==30)=false:=yA.2 (h 30 jd);have m:(k==31)=false:=yA.2 (h 31 jd);have o:(k !=32)=true:=bne_iff_ne.2 (h 32 jd);have p:(k !=40)=true:=bne_iff_ne.2 (h 40 jd);have q:(k !=30)=true:=bne_iff_ne.2 (h 30 jd);have r:(k !=31)=true:=bne_iff_ne.2 (h 31 jd);clear h;obtain⟨s,t⟩:=zBW hs;obtain⟨u,v⟩:=zTI e;go_enter func26,ntmps26;go_wp2_with fail;go_ret;exact⟨rfl,by go_grown⟩
theorem zTX (k:Int) (b:ByteArray) (As Am:Option Addr) (cs cm:Nat) (vk:Value) (nn:Int) (c:Bool) (d:Nat) (w:World) (h:∀j∈([32,40,30,31]:List Int),k≠j) (hs:b.size≤4096) (e:nn≠0):zBX (k) b As Am cs cm vk 0 (0) (nn) c d w false:=by
 unfold zBX;have f:(k==32)=false:=yA.2 (h 32 jd);have g:(k==40)=false:=yA.2 (h 40 jd);have l:(k==30)=false:=yA.2 (h 30 jd);have m:(k==31)=false:=yA.2 (h 31 jd);have o:(k !=32)=true:=bne_iff_ne.2 (h 32 jd);have p:(k !=40)=true:=bne_iff_ne.2 (h 40 jd);have q:(k !=30)=true:=bne_iff_ne.2 (h 30 jd);have r:(k !=31)=true:=bne_iff_ne.2 (h 31 jd);clear h;obtain⟨s,t⟩:=zBW hs;obtain⟨u,v⟩:=zTI e;go_enter func26,ntmps26;go_wp2_with fail;go_ret;exact⟨rfl,by go_grown⟩
theorem zWV (k:Int) (b:ByteArray) (As Am:Option Addr) (cs cm:Nat) (vk:Value) (c:Nat) (w:World) (h:∀j∈([32,40,30,31]:List Int),k≠j) (hs:b.size≤4096):zBX (k) b As Am cs cm vk 0 (0) (0) true c w false:=by
 unfold zBX;have d:(k==32)=false:=yA.2 (h 32 jd);have e:(k==40)=false:=yA.2 (h 40 jd);have f:(k==30)=false:=yA.2 (h 30 jd);have g:(k==31)=false:=yA.2 (h 31 jd);have l:(k !=32)=true:=bne_iff_ne.2 (h 32 jd);have m:(k !=40)=true:=bne_iff_ne.2 (h 40 jd);have o:(k !=30)=true:=bne_iff_ne.2 (h 30 jd);have p:(k !=31)=true:=bne_iff_ne.2 (h 31 jd);clear h;obtain⟨q,r⟩:=zBW hs;go_enter func26,ntmps26;go_wp2_with fail;go_ret;exact⟨rfl,by go_grown⟩
theorem zWW (k:Int) (b:ByteArray) (As Am:Option Addr) (cs cm:Nat) (vk:Value) (c:Nat) (w:World) (h:∀j∈([32,40,30,31]:List Int),k≠j) (hs:b.size≤4096) (d:0 < c):zBX (k) b As Am cs cm vk 0 (0) (0) false c w false:=by
 unfold zBX;have e:(k==32)=false:=yA.2 (h 32 jd);have f:(k==40)=false:=yA.2 (h 40 jd);have g:(k==30)=false:=yA.2 (h 30 jd);have l:(k==31)=false:=yA.2 (h 31 jd);have m:(k !=32)=true:=bne_iff_ne.2 (h 32 jd);have o:(k !=40)=true:=bne_iff_ne.2 (h 40 jd);have p:(k !=30)=true:=bne_iff_ne.2 (h 30 jd);have q:(k !=31)=true:=bne_iff_ne.2 (h 31 jd);clear h;obtain⟨r,s⟩:=zBW hs;obtain⟨t,u,v⟩:=zK0 d;go_enter func26,ntmps26;go_wp2_with fail;go_ret;exact⟨rfl,by go_grown⟩
theorem zTY (k:Int) (b:ByteArray) (As Am:Option Addr) (cs cm:Nat) (vk:Value) (w:World) (h:∀j∈([32,40,30,31]:List Int),k≠j) (hs:b.size≤4096) (c:zAe k b.data.toList=q):zBX (k) b As Am cs cm vk 0 (0) (0) false 0 w q:=by
 unfold zBX;have f:(k==32)=false:=yA.2 (h 32 jd);have g:(k==40)=false:=yA.2 (h 40 jd);have l:(k==30)=false:=yA.2 (h 30 jd);have m:(k==31)=false:=yA.2 (h 31 jd);have o:(k !=32)=true:=bne_iff_ne.2 (h 32 jd);have p:(k !=40)=true:=bne_iff_ne.2 (h 40 jd);have r:(k !=30)=true:=bne_iff_ne.2 (h 30 jd);have s:(k !=31)=true:=bne_iff_ne.2 (h 31 jd);clear h;obtain⟨t,u⟩:=zBW hs;have e:=zA (fun w=>zQB k b (.slice As 0 cs) (.slice Am 0 cm) vk 0 0 false w jo c);clear c;go_enter func26,ntmps26;go_wp2_with (go_at_call 38;refine(e.out _).mono ?_;rintro e1 w1 ⟨rfl,d⟩);go_ret;exact⟨rfl,zFO d⟩
theorem BmP.of {p:Bool} {e:Ending} (h:p=q) (b:BmP p w e w'):BmP q w e w':=h▸b
theorem zNT {s:NdSl} (H:NdR w B x s) (hB:B≤w.heap.size) (I:zK x=q):
 Calls prog 26 #[.agg #[x.kind,x.name,.slice s.As x.str.length s.cs,x.nk,x.nn,x.neg,.slice s.Am x.mag.length s.cm,.slice s.Ak x.kids.length s.ck]] w (BmP q w):=by
 have p:=H.mag;have r:=H.limb;obtain⟨kind,name,str,nk,nn,neg,mag,kids⟩:=x;obtain⟨As,Am,Ak,cs,cm,ck⟩:=s;simp only at p r⊢;clear H;obtain⟨c,F⟩:∃c:ByteArray,⟨name.toArray⟩=c:=⟨_,rfl⟩;have m:c.data.toList=name:=by rw[←F]
 have L:c.size=name.length:=by rw[←m];simp
 rw[F];subst I;have k:name=[]→c=⟨#[]⟩:=fun e=>zIf (by rw[m];exact e);have A:∀l:List UInt16,l≠[]→0 < l.length:=fun l h=>List.length_pos_iff.2 h;have t:∀l:List Nat,l≠[]→0 < l.length:=fun l h=>List.length_pos_iff.2 h
 by_cases h1:4096 < name.length
 · exact(zK1 kind c As Am cs cm _ _ nk nn neg _ w jo).mono fun e w' h=>h.of (by simp[zK,h1])
 have hs:c.size≤4096:=by omega
 by_cases C:kind=32
 · subst C
   by_cases hk:nk=0
   · subst hk
     by_cases f:nn=0
     · subst f;cases neg with
       | true=>exact(zTK c As Am cs cm _ _ _ w hs).mono fun e w' h=>h.of (by simp[zK])
       | false=>
        by_cases g:mag=[]
        · subst g
          by_cases b:name=[]
          · obtain rfl:=k b
            by_cases o:str.length≤4096
            · exact(zTM As Am cs cm _ _ w o).mono fun e w' h=>h.of (by simp[zK,b,o])
            · exact(zWR As Am cs cm _ _ w jo).mono fun e w' h=>h.of (by simp[zK,b,o])
          · exact(zQG c As Am cs cm _ _ w hs (by rw[m];exact b)).mono fun e w' h=>h.of (by simp[zK,b])
        · exact(zTL c As Am cs cm _ _ _ w hs (t _ g)).mono fun e w' h=>h.of (by simp[zK,g])
     · exact(zQF c As Am cs cm _ _ nn neg _ w hs f).mono fun e w' h=>h.of (by simp[zK,f])
   · exact(zQE c As Am cs cm _ _ nk nn neg _ w hs hk).mono fun e w' h=>h.of (by simp[zK,hk])
 by_cases D:kind=40
 · subst D
   by_cases hk:nk=0
   · subst hk
     by_cases f:nn=0
     · subst f;cases neg with
       | true=>exact(zTN c As Am cs cm _ _ _ w hs).mono fun e w' h=>h.of (by simp[zK])
       | false=>
        by_cases g:mag=[]
        · subst g
          by_cases b:name=[]
          · obtain rfl:=k b
            by_cases o:str.length≤4096
            · exact(zTP As Am cs cm _ _ w o).mono fun e w' h=>h.of (by simp[zK,b,o])
            · exact(zWS As Am cs cm _ _ w jo).mono fun e w' h=>h.of (by simp[zK,b,o])
          · exact(zQJ c As Am cs cm _ _ w hs (by rw[m];exact b)).mono fun e w' h=>h.of (by simp[zK,b])
        · exact(zTO c As Am cs cm _ _ _ w hs (t _ g)).mono fun e w' h=>h.of (by simp[zK,g])
     · exact(zQI c As Am cs cm _ _ nn neg _ w hs f).mono fun e w' h=>h.of (by simp[zK,f])
   · exact(zQH c As Am cs cm _ _ nk nn neg _ w hs hk).mono fun e w' h=>h.of (by simp[zK,hk])
 by_cases u:kind=30
 · subst u
   by_cases d:str=[]
   · subst d;cases neg with
     | true=>exact(zTR c As Am cs cm _ nk nn _ w hs).mono fun e w' h=>h.of (by simp[zK])
     | false=>
      by_cases g:mag=[]
      · subst g
        by_cases b:name=[]
        · obtain rfl:=k b
          by_cases hk:nk=0
          · subst hk;cases hmay:zDd 0 nn with
            | false=>exact(zTT As Am cs cm _ nn w hmay).mono fun e w' h=>h.of (by simp[zK,hmay])
            | true=>
             by_cases E:0≤nn
             · exact(zTU As Am cs cm _ nn w hmay E).mono fun e w' h=>h.of (by simp[zK,hmay,b,E])
             · exact(zWT As Am cs cm _ nn w hmay E).mono fun e w' h=>h.of (by simp[zK,E])
          · exact(zQL As Am cs cm _ nk nn w hk).mono fun e w' h=>h.of (by simp[zK,hk])
        · exact(zQK c As Am cs cm _ nk nn w hs (by rw[m];exact b)).mono fun e w' h=>h.of (by simp[zK,b])
      · exact(zTS c As Am cs cm _ nk nn _ w hs (t _ g)).mono fun e w' h=>h.of (by simp[zK,g])
   · exact(zTQ c As Am cs cm _ _ nk nn neg _ w hs (A _ d)).mono fun e w' h=>h.of (by simp[zK,d])
 by_cases v:kind=31
 · subst v
   by_cases d:str=[]
   · subst d
     by_cases hk:nk=0
     · subst hk
       by_cases f:nn=0
       · subst f
         by_cases b:name=[]
         · obtain rfl:=k b;have y:∀q,zBR neg mag=q→∀w1,Below w.heap.size w w1→Calls prog 37 #[.agg #[neg,.slice Am mag.length cm]] w1 (BmP q w1):=fun q I w1 G=>zIg neg rfl ((p.below (G.mono hB))) (yAD hB G.size) r I;cases neg with
           | false=>
            cases hmay:zBR false mag with
            | true=>exact(zG4 As Am cs cm _ _ w (y _ hmay)).mono fun e w' h=>h.of (by simp[zK,hmay,b])
            | false=>exact(zF7 As Am cs cm _ _ w (y _ hmay)).mono fun e w' h=>h.of (by simp[zK,hmay])
           | true=>
            cases hmay:zBR true mag with
            | true=>exact(zHS As Am cs cm _ _ w (y _ hmay)).mono fun e w' h=>h.of (by simp[zK])
            | false=>exact(zG5 As Am cs cm _ _ w (y _ hmay)).mono fun e w' h=>h.of (by simp[zK])
         · exact(zQO c As Am cs cm _ neg _ w hs (by rw[m];exact b)).mono fun e w' h=>h.of (by simp[zK,b])
       · exact(zQN c As Am cs cm _ nn neg _ w hs f).mono fun e w' h=>h.of (by simp[zK,f])
     · exact(zQM c As Am cs cm _ nk nn neg _ w hs hk).mono fun e w' h=>h.of (by simp[zK,hk])
   · exact(zTV c As Am cs cm _ _ nk nn neg _ w hs (A _ d)).mono fun e w' h=>h.of (by simp[zK,d])
 · have z:∀j∈([32,40,30,31]:List Int),kind≠j:=fun j J=>by simp only[List.mem_cons,List.mem_nil_iff,or_false]at J;omega
   by_cases d:str=[]
   · subst d
     by_cases hk:nk=0
     · subst hk
       by_cases f:nn=0
       · subst f;cases neg with
         | true=>exact(zWV kind c As Am cs cm _ _ w z hs).mono fun e w' h=>h.of (by simp[zK,v])
         | false=>
          by_cases g:mag=[]
          · subst g;exact(zTY kind c As Am cs cm _ w z hs rfl).mono fun e w' h=>h.of (by simp[zK,v,C,D,u,h1,m])
          · exact(zWW kind c As Am cs cm _ _ w z hs (t _ g)).mono fun e w' h=>h.of (by simp[zK,g,v])
       · exact(zTX kind c As Am cs cm _ nn neg _ w z hs f).mono fun e w' h=>h.of (by simp[zK,f,u])
     · exact(zTW kind c As Am cs cm _ nk nn neg _ w z hs hk).mono fun e w' h=>h.of (by simp[zK,hk,u])
   · exact(zWU kind c As Am cs cm _ _ nk nn neg _ w z hs (A _ d)).mono fun e w' h=>h.of (by simp[zK,d,C,D])
theorem zCa (h:Below W.drew.heap.size W.drew w):Below W.heap.size W w:=⟨h.os,h.tape,h.output,h.size,h.block⟩
theorem zJ1 {l:List Nat} (h:l.all (fun s=>decide (s≤n))=true):∀s∈l,s≤n:=fun s hs=>by simpa using List.all_eq_true.1 h s hs
theorem zTZ (k:Int) (n:Nat):(∀s∈(zl k n).1,s≤13)∧(zl k n).2≤13:=by
 have f:∀{p:Prop} [Decidable p] {a b:List Nat×Nat},((∀s∈a.1,s≤13)∧a.2≤13)→((∀s∈b.1,s≤13)∧b.2≤13)→((∀s∈(if p then a else b).1,s≤13)∧(if p then a else b).2≤13):=fun h1 c=>by split<;>assumption
 have g:∀(l:List Nat) (r:Nat),l.all (fun s=>decide (s≤13))=true→r≤13→((∀s∈((l,r):List Nat×Nat).1,s≤13)∧((l,r):List Nat×Nat).2≤13):=fun l r h1 c=>⟨zJ1 h1,c⟩;have t:∀(l:List Nat) (m:Nat),l.all (fun s=>decide (s≤13))=true→((∀s∈((l.take m,0):List Nat×Nat).1,s≤13)∧((l.take m,0):List Nat×Nat).2≤13):=fun l m h=>⟨fun s hs=>zJ1 h s (List.mem_of_mem_take hs),by show 0≤13;omega⟩;have p:∀m last,last≤13→((∀s∈((zA5 m last,0):List Nat×Nat).1,s≤13)∧((zA5 m last,0):List Nat×Nat).2≤13):=fun m last h=>⟨fun s hs=>by
  unfold zA5 at hs;rcases List.mem_append.1 hs with h1 | h1
  · have:=List.eq_of_mem_replicate h1;omega
  · have:=List.mem_singleton.1 h1;omega,by show 0≤13;omega⟩
 unfold zl
 repeat' refine f ?_ ?_
 all_goals first | exact g _ _ jd jd | exact t _ _ jd | exact p _ _ jd
theorem zG6 (ts:List Nd) (b:List Nat) (r j:Nat) (y:Int) (ks:List Int):zBv ts (b.drop j) r (y::ks)=(zx (b.getD j r) (atN ts y).kind&&zBv ts (b.drop (j+1)) r ks):=by
 by_cases h:j < b.length
 · rw[yAH h,yAG,yAB h];rfl
 · rw[List.drop_of_length_le jo,List.drop_of_length_le jo,yAG,List.getElem?_eq_none jo];rfl
theorem zH3 (h:zAr x.kind=false):zC4 ts x=false:=by unfold zC4;rw[h];simp
theorem zQP (h:¬(zl x.kind x.kids.length).1.length≤x.kids.length):zC4 ts x=false:=by unfold zC4;rw[yAI h];simp
theorem zG7 (h:zBv ts (zl x.kind x.kids.length).1 (zl x.kind x.kids.length).2 x.kids=false):zC4 ts x=false:=by unfold zC4;rw[h];simp
theorem zG8 (h1:zAr x.kind=true) (b:(zl x.kind x.kids.length).1.length≤x.kids.length) (c:zBv ts (zl x.kind x.kids.length).1 (zl x.kind x.kids.length).2 x.kids=true):
 zC4 ts x=(if x.kind=16 then((atN ts (x.kids.getD 1 0)).kind==17 || (atN ts (x.kids.getD 2 0)).kind==4)else if x.kind=8∧x.kids.length=3 then !(zDq ts (x.kids.getD 1 0))else true):=by
 unfold zC4;rw[h1,decide_eq_true b,c];rfl
theorem zTb (hN:NdsR w B A n ts) (hB:B≤w.heap.size) (hf:Fwd ts) (b8:∀x∈ts,x.kids.length≤1000000) (hx:ts[m]? =some x) (hq:zC4 ts x=q):
 Calls prog 27 #[.agg #[.slice A n c],m] w (BmP q w):=by
 have g0:m < n:=by have:=(List.getElem?_eq_some_iff.1 hx).1;rwa[hN.1]at this
 obtain⟨b,o,x',s,rfl,l4,e0,hC,hR⟩:=hN.get g0;obtain rfl:x=x':=Option.some.inj (hx.symm.trans e0);obtain⟨W,hW⟩:=jx (w.alloc (.cells #[.slice (some ⟨b,o,none⟩) n c] 24));have b9:Below w.heap.size w W:=jb hW;have g3:w.heap.size < W.heap.size:=by rw[←hW];simp
 have e4:W.cell? w.heap.size=some (.slice (some ⟨b,o,none⟩) n c):=jc hW;obtain⟨g4,g5,g6,g7,g8,g9,h7,h9⟩:=hC.below b9 jo;have c0:=hf m x hx;rw[hN.1]at c0;have j0:=zA c0;have e6:=b8 x (List.mem_of_getElem? hx);have HF:=zA hf;have e7:=zA b8;have j1:=zA b9;have HN:=zA hN;have HR:=zA hR;have HQ:=zA hq;have HB:=zA hB;clear hx e0 hC hR b9 c0 hf b8 hN hq;go_enter func27,ntmps27;go_upto_region 2 with(fail);have HW:=zA hW;obtain⟨W1,a1⟩:=jx (W.alloc (.cells #[x.kind,x.name,.slice s.As x.str.length s.cs,x.nk,x.nn,x.neg,.slice s.Am x.mag.length s.cm,.slice s.Ak x.kids.length s.ck] 43));rw[a1];have c3:Below W.heap.size W W1:=jb a1;have j2:W1.heap.size=W.heap.size+1:=by rw[←a1];simp
 have p0:W1.cell? W.heap.size=some (.int .i64 x.kind):=jc a1;have p7:W1.cell? ⟨W.heap.size,7,none⟩=some (.slice s.Ak x.kids.length s.ck):=jc a1;have pb:W1.cell? w.heap.size=some (.slice (some ⟨b,o,none⟩) n c):=(c3.cell (p:=w.heap.size) (show w.heap.size < W.heap.size by omega)).trans e4;have j3:=zA (j1.out.trans (c3.mono jo));clear a1 c3 hW e4 g4 g5 g6 g7 g8 g9 h7 h9;obtain⟨X,hX⟩:=jx W.heap.size;rw[hX]at p0 p7 j2 g3;rw[hX];clear hX;obtain⟨K,hK⟩:=jx x.kind;obtain⟨L,hL⟩:=jx x.kids.length;rw[hK]at p0;rw[hL]at p7 e6;obtain⟨⟨r,rr⟩,b2⟩:=jx (zl K L);have u:=zA b2;have b0:=zTZ K L;rw[b2]at b0;have c4:=zA b0;have HC:=zA (show∀w1,Calls prog 39 #[K,L] w1 (zCI w1 (r,rr))from fun w1=>by have:=zP2 K L e6 w1;rwa[b2]at this);have D:=zA hK;have t:=zA hL;clear b2 b0 hK hL;go_upto_region 3 with(go_at_call 39;refine(HC.out _).mono ?_;rintro e2 w2 ⟨Al,cl,rfl,j4,e8,a2⟩);have q0:=(a2.cell (p:=X) (show X < W1.heap.size by omega)).trans p0;have q7:=(a2.cell (p:=⟨X,7,none⟩) (show X < W1.heap.size by omega)).trans p7;have qb:=(a2.cell (p:=w.heap.size) (show w.heap.size < W1.heap.size by omega)).trans pb;have k:=zA (j3.out.trans (a2.mono jo));have c5:=zA (HN.out.below ((k.out).mono HB));have e9:X < w2.heap.size:=by have:=a2.size;omega
 have f0:B≤w2.heap.size:=by have:=HB.out;omega
 obtain⟨z,a3⟩:=jx r.length;have f1:0 < z→∃bl ol,Al=some ⟨bl,ol,none⟩∧∀(j s:Nat),r[j]? =some s→w2.cell? ⟨bl,ol+j,none⟩=some (.int .i64 (s:Int)):=by
  intro h0;have hr:Reads w2 w2.heap.size 1 Al r.length (zFL r):=e8;obtain⟨bl,ol,hA,_,hc⟩:=hr.spotR jo;exact⟨bl,ol,hA,fun j s hs=>hc j _ (by simp[zFL,hs])⟩
 have f8:=zA f1;have R:((r,rr):List Nat×Nat).1.length=z:=a3;have S:=zA a3;clear p0 p7 pb a2 e8 f1 j4;have f2:=zA (HR.out.below ((k.out).mono HB));have b3:=zA (show∀j,j < L→∃(y:Int) (p:Nat) (M:Int),x.kids[j]? =some y∧y=(p:Int)∧(m < p∧p < n)∧(atN ts (p:Int)).kind=M∧w2.cell? ⟨b,o+p*8,none⟩=some (.int .i64 M)from fun j hj=>by
  have f3:j < x.kids.length:=by rw[t.out];exact hj
  have hb:=j0.out x.kids[j] (List.getElem_mem f3);obtain⟨p,hp⟩:∃p:Nat,x.kids[j]=(p:Int):=⟨x.kids[j].toNat,by omega⟩;rw[hp]at hb;obtain⟨b',o',xp,sp,hA,_,j5,j6,_⟩:=c5.out.get (i:=p) jo;injection hA with hA;injection hA with hA1 hA2;subst hA1 hA2;exact⟨_,p,xp.kind,yAB f3,hp,⟨by omega,by omega⟩,by rw[zMB j5],j6.k0⟩)
 have E:Hid (∀j,j < L→∃(y:Int) (p:Nat) (M:Int),x.kids[j]? =some y∧y=(p:Int)∧(m < p∧p < n)∧((atN ts (p:Int)).kind=M∧w2.cell? ⟨b,o+p*8,none⟩=some (.int .i64 M))):=b3;have b4:L=0→w2.cell? ⟨X,7,none⟩=some (.slice s.Ak 0 s.ck):=fun e=>by rw[q7,e]
 obtain⟨fq,F⟩:=jx (zBv ts r rr x.kids);have N:=zA F;have c6:x.kids.length=L:=t.out;clear F b3
 by_cases a4:zAr K=true
 · have c7:=zA a4;have CK:=zA (show∀w1,Calls prog 40 #[K] w1 fun e w'=>e=.returned true∧w1=w' from fun w1=>by have:=zI5 K w1;rwa[a4]at this);clear a4
   by_cases G:r.length≤L
   · have d9:¬(L:Int) < (z:Int):=by rw[←S.out];omega
     have k8:decide ((L:Int) < (z:Int))=false:=yAI d9;have k9:¬L < z:=by omega
     rw[R];clear R a3 c6
     go_upto_if 36 with(go_at_call 40;refine(CK.out _).mono ?_;rintro e3 w3 ⟨rfl,rfl⟩)
     by_cases c8:L=0
     · have j7:¬(0:Int) < (L:Int):=by omega
       have l5:decide ((0:Int) < (L:Int))=false:=yAI j7;have l6:¬0 < L:=by omega
       have g:K≠16:=by
        intro e;have h1:=u.out;rw[e]at h1;have h2:([8,11,12],0)=(r,rr):=h1;injection h2 with h3 h4;rw[←h3]at G;have:([8,11,12]:List Nat).length=3:=rfl;omega
       have f4:x.kids=[]:=List.length_eq_zero_iff.1 (by rw[t.out];exact c8);have F:zBv ts r rr x.kids=true:=by rw[f4];cases r<;>rfl
       have d:=zA (show true=q by
        rw[←HQ.out,zG8 (by rw[D.out];exact c7.out) (by rw[D.out,t.out,u.out];exact G) (by rw[D.out,t.out,u.out];exact F),if_neg (by rw[D.out];exact g),if_neg (by rw[t.out];omega)])
       have b5:(K==16)=false:=yA.2 g;have l7:((L:Int)==3)=false:=yA.2 jo;have l8:=zA c8;clear g f4 F c8 b4;go_wp2_with fail
       go_loop [40] (fun i=>i=.int .i64 0) (fun _=>0)
       case atStart=>rfl
       case round=>
        subst hrel
        by_cases l:K=8
        · subst l;go_wp2_with fail;go_ret;exact⟨zJ d,k⟩
        · have f5:(K==8)=false:=yA.2 l;clear l;go_wp2_with fail;go_ret;exact⟨zJ d,k⟩
     · obtain⟨bk,ok,c9,l9,b6⟩:=f2.out.kids.spotK (by rw[t.out];omega);have H:=zA (show∀(j:Nat) (y:Int),x.kids[j]? =some y→w2.cell? ⟨bk,ok+j,none⟩=some (.int .i64 y)from fun j y hy=>by
        obtain⟨hl,rfl⟩:=List.getElem?_eq_some_iff.1 hy;exact b6 j hl)
       have l0:L≤s.ck:=by have:=f2.out.ck.1;rwa[t.out]at this
       clear b6 b4;rw[c9]
       by_cases f9:0 < z
       · obtain⟨bl,ol,rfl,d0⟩:=f8.out f9;have j8:=zA d0;clear d0;go_wp2_with fail
         go_loop [40] (fun i=>∃j:Nat,j≤L∧i=.int .i64 j∧Hid (zBv ts (r.drop j) rr (x.kids.drop j)=fq)) (fun i=>L - (intOf i).toNat)
         case atStart=>exact⟨0,yAE _,rfl,N⟩
         case round=>
          obtain⟨j,hj,rfl,C⟩:=hrel
          by_cases T:j < L
          · obtain⟨y,p,M,U,V,j9,Y⟩:=E.out j T;have d1:=H.out j y U;have f:=C.out;rw[yAH (show j < x.kids.length by rw[t.out];exact T),(List.getElem?_eq_some_iff.1 U).2,zG6,V,Y.1]at f;rw[V]at d1;have b6:=Y.2;clear U V Y C
            by_cases d2:j < r.length
            · obtain⟨s0,b7⟩:∃s0,r[j]? =some s0:=⟨_,yAB d2⟩;have m0:=j8.out j s0 b7;have hg:r.getD j rr=s0:=by rw[yAG,b7];rfl
              rw[hg]at f;have a5:=c4.out.1 s0 (List.mem_of_getElem? b7);have a6:(j:Int) < (z:Int):=by rw[←S.out];omega
              have f6:decide ((j:Int) < (z:Int))=true:=decide_eq_true a6;have f7:j < z:=by omega
              obtain⟨O,I⟩:=jx (zx s0 M);rw[I]at f;have CF:=zA (show∀w1,Calls prog 41 #[s0,M] w1 fun e w'=>e=.returned O∧w1=w' from fun w1=>by have:=zIH s0 M a5 w1;rwa[I]at this);have Q:=zA f;clear b7 hg f I d2;cases O with
              | false=>
               have d:=zA (show false=q by
                rw[←HQ.out];refine(zG7 ?_).symm;rw[D.out,t.out,u.out,N.out];have:=Q.out;rw[Bool.false_and]at this;exact this.symm)
               go_wp2_with (go_at_call 41;refine(CF.out _).mono ?_;rintro e3 w3 ⟨rfl,rfl⟩)
               (try rw[Exit.noGoto_ret])
               go_ret;exact⟨zJ d,k⟩
              | true=>
               go_wp2_with (go_at_call 41;refine(CF.out _).mono ?_;rintro e3 w3 ⟨rfl,rfl⟩);go_round
               case rel=>exact⟨j+1,by omega,by go_num,by have:=Q.out;rwa[Bool.true_and]at this⟩
               case measure=>simp[intOf];omega
            · have hg:r.getD j rr=rr:=by rw[yAG,List.getElem?_eq_none jo];rfl
              rw[hg]at f;have a5:=c4.out.2;have a6:¬(j:Int) < (z:Int):=by rw[←S.out];omega
              have f6:decide ((j:Int) < (z:Int))=false:=yAI a6;have f7:¬j < z:=by omega
              obtain⟨O,I⟩:=jx (zx rr M);rw[I]at f;have CF:=zA (show∀w1,Calls prog 41 #[rr,M] w1 fun e w'=>e=.returned O∧w1=w' from fun w1=>by have:=zIH rr M a5 w1;rwa[I]at this);have Q:=zA f;clear hg f I d2;cases O with
              | false=>
               have d:=zA (show false=q by
                rw[←HQ.out];refine(zG7 ?_).symm;rw[D.out,t.out,u.out,N.out];have:=Q.out;rw[Bool.false_and]at this;exact this.symm)
               go_wp2_with (go_at_call 41;refine(CF.out _).mono ?_;rintro e3 w3 ⟨rfl,rfl⟩)
               (try rw[Exit.noGoto_ret])
               go_ret;exact⟨zJ d,k⟩
              | true=>
               go_wp2_with (go_at_call 41;refine(CF.out _).mono ?_;rintro e3 w3 ⟨rfl,rfl⟩);go_round
               case rel=>exact⟨j+1,by omega,by go_num,by have:=Q.out;rwa[Bool.true_and]at this⟩
               case measure=>simp[intOf];omega
          · obtain rfl:L=j:=by omega
            have a7:=zA (show fq=true by
             rw[←C.out,List.drop_of_length_le (show x.kids.length≤L by rw[t.out];omega)];cases r.drop L<;>rfl)
            clear C T;have F:fq=true:=a7.out;have HE:=zA (show q=(if K=16 then((atN ts (x.kids.getD 1 0)).kind==17 || (atN ts (x.kids.getD 2 0)).kind==4)else if K=8∧L=3 then !(zDq ts (x.kids.getD 1 0))else true) by
             rw[←HQ.out,←D.out,←t.out];refine zG8 (by rw[D.out];exact c7.out) (by rw[D.out,t.out,u.out];exact G) (by rw[D.out,t.out,u.out,N.out];exact F))
            clear F
            by_cases g:K=16
            · have a8:L=3:=by
               have h1:=u.out;rw[g]at h1;have h2:([8,11,12],0)=(r,rr):=h1;injection h2 with h3 h4;have h5:zBv ts r rr x.kids=true:=N.out.trans a7;rw[←h3,←h4]at h5;have h6:=zKX _ _ h5;rw[t.out]at h6;rw[←h3]at G;have:([8,11,12]:List Nat).length=3:=rfl;omega
              obtain⟨y1,p1,k1,g1,e1,l1,c1⟩:=E.out 1 jo;obtain⟨y2,p2,k2,g2,e2,l2,c2⟩:=E.out 2 jo;have J:=H.out 1 y1 g1;have d3:=H.out 2 y2 g2;rw[e1]at J;rw[e2]at d3;have HV:=zA (show q=(k1==17 || k2==4) by
               rw[HE.out,if_pos g,yAG,g1,yAG,g2,Option.getD_some,Option.getD_some,e1,e2,c1.1,c2.1])
              have k3:=c1.2;have k4:=c2.2;have d4:(1:Int) < (L:Int):=by omega
              have k5:(2:Int) < (L:Int):=by omega
              clear g1 g2 e1 e2 c1 c2;subst g;subst a8
              by_cases v:k1=17
              · have e5:(k1==17)=true:=by rw[v];rfl
                have d:=zA (show true=q by rw[HV.out,v];rfl);clear v;go_wp2_with fail
                go_quiet (fail)
                go_wp2_with fail;go_ret;exact⟨zJ d,zAZ k _⟩
              · have e5:(k1==17)=false:=yA.2 v;have d:=zA (show(k2==4)=q by rw[HV.out,yA.2 v];rfl);clear v;go_wp2_with fail
                go_quiet (fail)
                go_wp2_with fail;go_ret;exact⟨zJ d,zAZ k _⟩
            by_cases h8:K=8∧L=3
            · obtain⟨l,a9⟩:=h8;obtain⟨y1,p1,k1,g1,e1,l1,c1⟩:=E.out 1 jo;have J:=H.out 1 y1 g1;rw[e1]at J;obtain⟨dq,a0⟩:=jx (zDq ts (p1:Int));have HV:=zA (show(!dq)=q by
               rw[HE.out,if_neg g,if_pos ⟨l,a9⟩,yAG,g1,Option.getD_some,e1,a0])
              have d4:(1:Int) < (L:Int):=by omega
              have CD:=zA (fun(wx:World) (hN:NdsR wx B (some ⟨b,o,none⟩) n ts) (hB:B≤wx.heap.size)=>zG1 (c:=c) hN hB HF e7 l1.2 a0);have k6:=zA l1;clear g1 e1 c1 a0 l1;subst l;subst a9;have b5:((8:Int)==16)=false:=rfl;have d5:=zA (c5.out.below ((Below.refl B w2).drew));have d6:w.heap.size < w2.heap.size:=by omega
              rw[c9]at q7;have d7:=zA (CD.out w2.drew d5 (show B≤w2.drew.heap.size from f0));go_wp2_with fail;go_region_held3 (fun w'=>w'.cell? w.heap.size=some (.slice (some ⟨b,o,none⟩) n c)∧w'.cell? ⟨X,7,none⟩=some (.slice (some ⟨bk,ok,none⟩) 3 s.ck)∧w'.cell? ⟨bk,ok+1,none⟩=some (.int .i64 (p1:Int)))
               (first | (exact⟨qb,q7,J⟩) | (exact⟨((zCa P).cell (p:=w.heap.size) d6).trans qb,((zCa P).cell (p:=⟨X,7,none⟩) e9).trans q7,((zCa P).cell (p:=⟨bk,ok+1,none⟩) (show bk < w2.heap.size by omega)).trans J⟩) | go_keep)
               (first | (go_at_call 42;go_split_ands;(with_reducible refine d7.out.mono ?_);rintro e3 w3 ⟨rfl,P⟩))
              all_goals go_wp2_with fail
              all_goals go_ret
              all_goals exact⟨zJ HV,k.out.trans ((zCa P).mono jo)⟩
            · have b5:(K==16)=false:=yA.2 g;have d:=zA (show true=q by rw[HE.out,if_neg g,if_neg h8])
              by_cases l:K=8
              · subst l;have a8:((L:Int)==3)=false:=yA.2 (fun e=>h8 ⟨rfl,by omega⟩);clear h8 g;go_wp2_with fail;go_ret;exact⟨zJ d,k⟩
              · have f5:(K==8)=false:=yA.2 l;clear h8 g l;go_wp2_with fail;go_ret;exact⟨zJ d,k⟩
       · have d8:z=0:=by omega
         have l3:=zA d8;clear d8;go_wp2_with fail
         go_loop [40] (fun i=>∃j:Nat,j≤L∧i=.int .i64 j∧Hid (zBv ts (r.drop j) rr (x.kids.drop j)=fq)) (fun i=>L - (intOf i).toNat)
         case atStart=>exact⟨0,yAE _,rfl,N⟩
         case round=>
          obtain⟨j,hj,rfl,C⟩:=hrel
          by_cases T:j < L
          · obtain⟨y,p,M,U,V,j9,Y⟩:=E.out j T;have d1:=H.out j y U;have f:=C.out;rw[yAH (show j < x.kids.length by rw[t.out];exact T),(List.getElem?_eq_some_iff.1 U).2,zG6,V,Y.1]at f;rw[V]at d1;have b6:=Y.2;clear U V Y C;have a6:¬(j:Int) < (z:Int):=by omega
            have f6:decide ((j:Int) < (z:Int))=false:=yAI a6;have f7:¬j < z:=by omega
            have hg:r.getD j rr=rr:=by rw[yAG,List.getElem?_eq_none (by rw[S.out];omega)];rfl
            rw[hg]at f;have a5:=c4.out.2;obtain⟨O,I⟩:=jx (zx rr M);rw[I]at f;have CF:=zA (show∀w1,Calls prog 41 #[rr,M] w1 fun e w'=>e=.returned O∧w1=w' from fun w1=>by have:=zIH rr M a5 w1;rwa[I]at this);have Q:=zA f;clear hg f I;cases O with
            | false=>
             have d:=zA (show false=q by
              rw[←HQ.out];refine(zG7 ?_).symm;rw[D.out,t.out,u.out,N.out];have:=Q.out;rw[Bool.false_and]at this;exact this.symm)
             go_wp2_with (go_at_call 41;refine(CF.out _).mono ?_;rintro e3 w3 ⟨rfl,rfl⟩)
             (try rw[Exit.noGoto_ret])
             go_ret;exact⟨zJ d,k⟩
            | true=>
             go_wp2_with (go_at_call 41;refine(CF.out _).mono ?_;rintro e3 w3 ⟨rfl,rfl⟩);go_round
             case rel=>exact⟨j+1,by omega,by go_num,by have:=Q.out;rwa[Bool.true_and]at this⟩
             case measure=>simp[intOf];omega
          · obtain rfl:L=j:=by omega
            have a7:=zA (show fq=true by
             rw[←C.out,List.drop_of_length_le (show x.kids.length≤L by rw[t.out];omega)];cases r.drop L<;>rfl)
            clear C T;have F:fq=true:=a7.out;have HE:=zA (show q=(if K=16 then((atN ts (x.kids.getD 1 0)).kind==17 || (atN ts (x.kids.getD 2 0)).kind==4)else if K=8∧L=3 then !(zDq ts (x.kids.getD 1 0))else true) by
             rw[←HQ.out,←D.out,←t.out];refine zG8 (by rw[D.out];exact c7.out) (by rw[D.out,t.out,u.out];exact G) (by rw[D.out,t.out,u.out,N.out];exact F))
            clear F
            by_cases g:K=16
            · have a8:L=3:=by
               have h1:=u.out;rw[g]at h1;have h2:([8,11,12],0)=(r,rr):=h1;injection h2 with h3 h4;have h5:zBv ts r rr x.kids=true:=N.out.trans a7;rw[←h3,←h4]at h5;have h6:=zKX _ _ h5;rw[t.out]at h6;rw[←h3]at G;have:([8,11,12]:List Nat).length=3:=rfl;omega
              obtain⟨y1,p1,k1,g1,e1,l1,c1⟩:=E.out 1 jo;obtain⟨y2,p2,k2,g2,e2,l2,c2⟩:=E.out 2 jo;have J:=H.out 1 y1 g1;have d3:=H.out 2 y2 g2;rw[e1]at J;rw[e2]at d3;have HV:=zA (show q=(k1==17 || k2==4) by
               rw[HE.out,if_pos g,yAG,g1,yAG,g2,Option.getD_some,Option.getD_some,e1,e2,c1.1,c2.1])
              have k3:=c1.2;have k4:=c2.2;have d4:(1:Int) < (L:Int):=by omega
              have k5:(2:Int) < (L:Int):=by omega
              clear g1 g2 e1 e2 c1 c2;subst g;subst a8
              by_cases v:k1=17
              · have e5:(k1==17)=true:=by rw[v];rfl
                have d:=zA (show true=q by rw[HV.out,v];rfl);clear v;go_wp2_with fail
                go_quiet (fail)
                go_wp2_with fail;go_ret;exact⟨zJ d,zAZ k _⟩
              · have e5:(k1==17)=false:=yA.2 v;have d:=zA (show(k2==4)=q by rw[HV.out,yA.2 v];rfl);clear v;go_wp2_with fail
                go_quiet (fail)
                go_wp2_with fail;go_ret;exact⟨zJ d,zAZ k _⟩
            by_cases h8:K=8∧L=3
            · obtain⟨l,a9⟩:=h8;obtain⟨y1,p1,k1,g1,e1,l1,c1⟩:=E.out 1 jo;have J:=H.out 1 y1 g1;rw[e1]at J;obtain⟨dq,a0⟩:=jx (zDq ts (p1:Int));have HV:=zA (show(!dq)=q by
               rw[HE.out,if_neg g,if_pos ⟨l,a9⟩,yAG,g1,Option.getD_some,e1,a0])
              have d4:(1:Int) < (L:Int):=by omega
              have CD:=zA (fun(wx:World) (hN:NdsR wx B (some ⟨b,o,none⟩) n ts) (hB:B≤wx.heap.size)=>zG1 (c:=c) hN hB HF e7 l1.2 a0);have k6:=zA l1;clear g1 e1 c1 a0 l1;subst l;subst a9;have b5:((8:Int)==16)=false:=rfl;have d5:=zA (c5.out.below ((Below.refl B w2).drew));have d6:w.heap.size < w2.heap.size:=by omega
              rw[c9]at q7;have d7:=zA (CD.out w2.drew d5 (show B≤w2.drew.heap.size from f0));go_wp2_with fail;go_region_held3 (fun w'=>w'.cell? w.heap.size=some (.slice (some ⟨b,o,none⟩) n c)∧w'.cell? ⟨X,7,none⟩=some (.slice (some ⟨bk,ok,none⟩) 3 s.ck)∧w'.cell? ⟨bk,ok+1,none⟩=some (.int .i64 (p1:Int)))
               (first | (exact⟨qb,q7,J⟩) | (exact⟨((zCa P).cell (p:=w.heap.size) d6).trans qb,((zCa P).cell (p:=⟨X,7,none⟩) e9).trans q7,((zCa P).cell (p:=⟨bk,ok+1,none⟩) (show bk < w2.heap.size by omega)).trans J⟩) | go_keep)
               (first | (go_at_call 42;go_split_ands;(with_reducible refine d7.out.mono ?_);rintro e3 w3 ⟨rfl,P⟩))
              all_goals go_wp2_with fail
              all_goals go_ret
              all_goals exact⟨zJ HV,k.out.trans ((zCa P).mono jo)⟩
            · have b5:(K==16)=false:=yA.2 g;have d:=zA (show true=q by rw[HE.out,if_neg g,if_neg h8])
              by_cases l:K=8
              · subst l;have a8:((L:Int)==3)=false:=yA.2 (fun e=>h8 ⟨rfl,by omega⟩);clear h8 g;go_wp2_with fail;go_ret;exact⟨zJ d,k⟩
              · have f5:(K==8)=false:=yA.2 l;clear h8 g l;go_wp2_with fail;go_ret;exact⟨zJ d,k⟩
   · have k7:(L:Int) < (z:Int):=by rw[←S.out];omega
     have m1:decide ((L:Int) < (z:Int))=true:=decide_eq_true k7;have m2:L < z:=by omega
     have d:=zA (show false=q by
      rw[←HQ.out,zQP (by rw[D.out,t.out,u.out];exact G)])
     rw[R];clear R a3 c6 G b4;go_wp2_with (go_at_call 40;refine(CK.out _).mono ?_;rintro e3 w3 ⟨rfl,rfl⟩);go_ret;exact⟨zJ d,k⟩
 · have b1:zAr K=false:=by simpa using a4
   have CK:=zA (show∀w1,Calls prog 40 #[K] w1 fun e w'=>e=.returned false∧w1=w' from fun w1=>by have:=zI5 K w1;rwa[b1]at this);have d:=zA (show false=q by
    rw[←HQ.out,zH3 (by rw[D.out];exact b1)])
   clear a4 b1 R a3 c6 b4;go_wp2_with (go_at_call 40;refine(CK.out _).mono ?_;rintro e3 w3 ⟨rfl,rfl⟩);go_ret;exact⟨zJ d,k⟩
theorem zVK (h:ts[k]? =some x):zAx (ts.take (k+1))=zAx (ts.take k)++x.kids:=by
 obtain⟨hk,rfl⟩:=List.getElem?_eq_some_iff.1 h;rw[yAL hk,zDZ];congr 1;simp[zAx]
theorem zVL (ts:List Nd) (k:Nat):(zAx (ts.take k)).length≤(zAx ts).length:=by
 conv=>rhs;rw[←List.take_append_drop k ts,zDZ,List.length_append]
 omega
def OrdAt (ts:List Nd) (N k:Nat) (st:List Int):Prop:=zCR ts=zBU N k (ts.drop k) (if k=0 then [0]else st)∧(k=0→st=[])
theorem OrdAt.end_ (h:OrdAt ts N N b) (c:ts.length=N) (hN:0 < N):zCR ts=b.isEmpty:=by
 rw[h.1,jn,List.drop_of_length_le jo];rfl
theorem OrdAt.none_ (h:OrdAt ts N k []) (hk:0 < k) (b:ts[k]? =some x):zCR ts=false:=by
 obtain⟨c,rfl⟩:=List.getElem?_eq_some_iff.1 b;rw[h.1,jn,yAH c];rfl
theorem OrdAt.bad (h:OrdAt ts N k (s::b)) (hs:s≠(k:Int)) (c:ts[k]? =some x):zCR ts=false:=by
 have hk:k≠0:=fun e=>by have:=h.2 e;cases this
 obtain⟨d,rfl⟩:=List.getElem?_eq_some_iff.1 c;rw[h.1,if_neg hk,yAH d,zCt,yA.2 hs];rfl
def OrdIn (ts:List Nd) (N k:Nat) (x:Nd) (st:List Int):Prop:=zCR ts=(zCs N k x.kids&&zBU N (k+1) (ts.drop (k+1)) (x.kids++st))
theorem OrdAt.zero (h:OrdAt ts N 0 b) (c:ts[0]? =some x):b=[]∧OrdIn ts N 0 x []:=by
 obtain⟨d,rfl⟩:=List.getElem?_eq_some_iff.1 c;refine⟨h.2 rfl,?_⟩;unfold OrdIn;rw[h.1,if_pos rfl,yAH d,zCt];simp
theorem OrdAt.pop (h:OrdAt ts N k (s::b)) (hs:s=(k:Int)) (c:ts[k]? =some x):OrdIn ts N k x b:=by
 have hk:k≠0:=fun e=>by have:=h.2 e;cases this
 obtain⟨d,rfl⟩:=List.getElem?_eq_some_iff.1 c;unfold OrdIn;rw[h.1,if_neg hk,yAH d,zCt,hs];simp
theorem OrdIn.bad (h:OrdIn ts N k x b) (c:j < x.kids.length) (hb:¬((k:Int) < x.kids[j]∧x.kids[j] < (N:Int))):zCR ts=false:=by
 rw[h];have:zCs N k x.kids=false:=by
  unfold zCs;rw[List.all_eq_false];exact⟨x.kids[j],List.getElem_mem c,by simpa using hb⟩
 rw[this];rfl
theorem OrdIn.done (h:OrdIn ts N k x b) (hk:zCs N k x.kids=true):OrdAt ts N (k+1) (x.kids++b):=by
 refine⟨?_,fun e=>by omega⟩;rw[h,hk,jn];rfl
theorem zK2 (h:zCs N k (ks.drop (j+1))=true) (b:j < ks.length) (hb:(k:Int) < ks[j]∧ks[j] < (N:Int)):zCs N k (ks.drop j)=true:=by
 rw[yAH b];unfold zCs at h⊢;rw[List.all_cons,h,Bool.and_true];simpa using hb
structure OrS (w wr:World) (v:Value) (st:List Int):Prop where
 own:wr.ownsRow w.heap.size 3 1 v st.length (zE1 st.reverse)
 below:Below w.heap.size w wr
theorem zQQ (hN:NdsR w B A n ts) (hB:B≤w.heap.size) (hc:n≤c) (hl:n≤4096) (h0:0 < n) (ht:(zAx ts).length≤1000000) (hq:zCR ts=q):
 Calls prog 25 #[.agg #[.slice A n c]] w fun e w'=>e=.returned q∧Below w.heap.size w w':=by
 obtain⟨W,hW⟩:=jx (w.alloc (.cells #[.slice A n c] 24));have a2:Below w.heap.size w W:=jb hW;have h6:W.heap.size=w.heap.size+1:=by rw[←hW];simp
 have e7:=zA ((hN.below (a2.mono hB)));have b8:W.cell? w.heap.size=some (.slice A n c):=jc hW;have HQ:=zA hq;have H:=zA a2;have HT:=zA ht;have b9:=zA hN.1;have a3:=zA (zVL ts);obtain⟨i0,hi,I,J,L⟩:=info_parts Tryz.info_int;have HI:=zA (And.intro hi (And.intro I (And.intro J L)));have HB:=zA hB;clear hq a2 ht hN hi I J L;go_enter func25,ntmps25;go_upto_region 1 with(fail);have HW:=zA hW;clear hW;go_wp2_with fail
 go_loopw [3,10] (fun v i wr=>∃(k:Nat) (d:List Int),k≤n∧i=.int .i64 k∧Hid (OrdAt ts n k d)∧Hid (d.length≤(zAx (ts.take k)).length)∧Hid (OrS W wr v d)) (fun _ i _=>n - (intOf i).toNat)
 case atStart=>exact⟨0,[],yAE _,rfl,⟨by unfold zCR;rw[b9.out,if_pos rfl,List.drop_zero],fun _=>rfl⟩,yAE _,⟨yAJ _ _ _ _,Below.refl _ _⟩⟩
 case round=>
  obtain⟨k,d,hk,rfl,t,d4,M⟩:=hrel
  by_cases e8:k < n
  · have N:=M.out.below;obtain⟨b,o,x,s,rfl,h7,hx,hC,hR⟩:=(e7.out.below (N.mono jo)).get e8;obtain⟨e9,f0,f1,f2,f3,f4,f5,f6⟩:=hC;have f7:=N.size;have c0:=zA N;have c1:wr.cell? w.heap.size=some (.slice (some ⟨b,o,none⟩) n c):=(N.cell (p:=w.heap.size) (show w.heap.size < W.heap.size by omega)).trans b8;have u:=zA hx;have HR:=zA hR;have b6:=d4.out;have a4:x.kids.length≤1000000∧(x.kids++d).length≤(zAx (ts.take (k+1))).length:=by
     have h1:=a3.out (k+1);have h2:=HT.out;rw[zVK u.out,List.length_append]at h1⊢;rw[List.length_append];omega
    have g8:=a4.1;have a5:=zA a4.2;have d5:d.length≤1000000:=by have:=a3.out k;have:=HT.out;omega
    clear N hx hR a4 b6;go_upto_region 5 with(fail);obtain⟨r,C⟩:=jx (wr.alloc (.cells #[x.kind,x.name,.slice s.As x.str.length s.cs,x.nk,x.nn,x.neg,.slice s.Am x.mag.length s.cm,.slice s.Ak x.kids.length s.ck] 43));rw[C];have S:Below wr.heap.size wr r:=jb C;have f8:r.heap.size=wr.heap.size+1:=by rw[←C];simp
    have p7:r.cell? ⟨wr.heap.size,7,none⟩=some (.slice s.Ak x.kids.length s.ck):=jc C;have a6:r.cell? w.heap.size=some (.slice (some ⟨b,o,none⟩) n c):=(S.cell (p:=w.heap.size) (show w.heap.size < wr.heap.size by omega)).trans c1;have f:=zA (show OrS W r u3 d from⟨by rw[←C];exact M.out.own.alloc _,c0.out.trans (S.mono f7)⟩);have a7:u3.ownBlock≠some wr.heap.size:=fun e=>by have:=(M.out.own.lt _ e).2;omega
    have c2:=zA (HR.out.back (c0.out.mono jo));have a8:=zA a7;clear C S a7 e9 f0 f1 f2 f3 f4 f5 f6 c1 HR M
    go_upto_if 16 with(fail)
    go_cut [3] (fun v' wx=>wx=r∧∃l,Hid (OrdIn ts n k x l)∧Hid (OrS W r v' l)∧v'.ownBlock≠some wr.heap.size∧Hid ((x.kids++l).length≤(zAx (ts.take (k+1))).length))
    case first=>
     by_cases U:k=0
     · have e0:decide ((0:Int) < (k:Int))=false:=yAI jo;have e1:decide (0 < k)=false:=yAI jo;have e2:¬0 < k:=by omega
       have O:=zA U;clear U;go_wp2_with fail;go_meet;refine⟨rfl,[],?_,?_,a8,?_⟩
       · have:=t.out;rw[O.out]at this⊢;exact(this.zero (by rw[←O.out];exact u.out)).2
       · have:=t.out;rw[O.out]at this;obtain rfl:=(this.zero (by rw[←O.out];exact u.out)).1;exact f.out
       · have:=a5.out;show(x.kids++[]).length≤_;rw[List.length_append]at this⊢;simp only[List.length_nil];omega
     · have e0:decide ((0:Int) < (k:Int))=true:=decide_eq_true jo;have e1:decide (0 < k)=true:=decide_eq_true jo;have e2:0 < k:=by omega
       have O:=zA U;clear U;cases d with
       | nil=>
        obtain⟨Av,cv,rfl,_,_⟩:=zS f.out.own;have F:=zA (show false=q from by rw[←HQ.out];exact(t.out.none_ e2 u).symm);go_wp2_with fail;go_ret;exact⟨zJ F,H.out.trans (f.out.below.mono jo)⟩
       | cons s0 d=>
        obtain⟨g,cv,hv,h8,j0⟩:=f.out.own.form js;subst hv;have j1:r.cell? ⟨g,d.length,none⟩=some (.int .i64 s0):=by
         rw[f.out.own.cellAt _ js];simp[zE1]
        have j2:d.length≤cv:=by
         obtain⟨_,_,e,h,_⟩:=zS f.out.own;injection e with _ _ e;subst e;simp at h;omega
        have P:(s0::d).length=d.length+1:=rfl;rw[P];have g9:d.length≤1000000:=by simp at d5;omega
        clear P
        by_cases Q:s0=(k:Int)
        · subst Q;go_wp2_with fail;go_meet;refine⟨rfl,d,t.out.pop rfl u,⟨?_,f.out.below⟩,a8,?_⟩
          · have:=zVV f.out.own (j:=d.length) js;have e:(zE1 ((↑k:Int)::d).reverse).take d.length=zE1 d.reverse:=by simp[zE1]
            rwa[e]at this
          · have h9:(x.kids++((k:Int)::d)).length≤(zAx (ts.take (k+1))).length:=a5.out;rw[List.length_append,List.length_cons]at h9;show(x.kids++d).length≤_;rw[List.length_append];omega
        · have e3:(s0==(k:Int))=false:=yA.2 Q;have e4:(s0 !=(k:Int))=true:=bne_iff_ne.2 Q;have F:=zA (show false=q from by rw[←HQ.out];exact(t.out.bad Q u).symm);clear Q;go_wp2_with fail;go_ret;exact⟨zJ F,H.out.trans (f.out.below.mono jo)⟩
    case rest=>
     obtain⟨rfl,l,c3,M,a9,G⟩:=hcut;have b0:(x.kids++l).length≤1000000:=by have:=G.out;have:=a3.out (k+1);have:=HT.out;omega
     have d6:=zA b0;obtain⟨X,hX⟩:=jx wr.heap.size;rw[hX]at a9 p7 f8;rw[hX];have HX:=zA hX;have d7:=zA a9;have f9:=zA p7;have j3:=zA a6;have h3:W.heap.size≤X:=by omega
     have c4:=zA c3;have b7:=zA G;clear hX b0 a9 a5 a8 c3 G;go_wp2_with fail;clear p7 a6
     go_loopw [3,6] (fun v i wr=>∃(j:Nat) (z:Int),j≤x.kids.length∧i=.int .i64 z∧z=(j:Int) - 1∧Hid (OrS W wr v (x.kids.drop j++l))∧Hid (v.ownBlock≠some X)∧Hid (zCs n k (x.kids.drop j)=true)∧wr.cell? ⟨X,7,none⟩=some (.slice s.Ak x.kids.length s.ck)∧X < wr.heap.size) (fun _ i _=>(intOf i+1).toNat)
     case atStart=>exact⟨x.kids.length,_,yAC _,rfl,rfl,by rw[List.drop_length];exact M.out,d7,by rw[List.drop_length];rfl,f9,by omega⟩
     case round=>
      obtain⟨j,z,hj,rfl,hz,D,c5,V,c6,c7⟩:=hrel;have R:=D.out.below;have h4:wr.cell? w.heap.size=some (.slice (some ⟨b,o,none⟩) n c):=(R.cell (p:=w.heap.size) (show w.heap.size < W.heap.size by omega)).trans b8;have b1:=zA R
      by_cases Y:j=0
      · obtain rfl:z= -1:=by omega
        have g0:=zA (show zCs n k x.kids=true by have:=V.out;rwa[Y]at this);have g1:=zA (show OrS W wr u3 (x.kids++l) by have:=D.out;rwa[Y]at this);clear Y R D V hz;go_wp2_with fail
        go_roundw
        case rel=>exact⟨k+1,x.kids++l,by omega,by go_num,c4.out.done g0,b7,g1⟩
        case measure=>simp[intOf];omega
      · obtain⟨m,rfl⟩:∃m,j=m+1:=⟨j - 1,by omega⟩;obtain rfl:z=(m:Int):=by omega
        obtain⟨bk,ok,b2,j4,c8⟩:=(c2.out.below (R.mono jo)).kids.spotK jo;have b3:=c8 m jo;have h5:=c2.out.ck.1;have b4:=zA (yAH (show m < x.kids.length by omega));have c9:m < x.kids.length:=by omega
        have T:Hid (¬((k:Int) < x.kids[m]∧x.kids[m] < (n:Int))→zCR ts=false):=fun hb=>c4.out.bad c9 hb;have d0:Hid ((k:Int) < x.kids[m]∧x.kids[m] < (n:Int)→zCs n k (x.kids.drop m)=true):=fun hb=>zK2 V c9 hb;rw[b2]at c6;have g2:=zA b2;clear b2;obtain⟨y,hy⟩:=jx (x.kids[m]);rw[hy]at b3 b4 T d0;clear c8 hy V R Y hz
        by_cases g3:y≤(k:Int)
        · have F:=zA (show false=q from by rw[←HQ.out];exact(T.out jo).symm);go_wp2_with fail
          go_quiet (fail)
          go_wp2_with fail;go_ret;exact⟨zJ F,H.out.trans ((zAZ b1 _).mono jo)⟩
        · have e5:decide (y≤(k:Int))=false:=yAI g3
          by_cases d1:(n:Int)≤y
          · have F:=zA (show false=q from by rw[←HQ.out];exact(T.out jo).symm);have e6:decide ((n:Int)≤y)=true:=decide_eq_true d1;go_wp2_with fail
            go_quiet (fail)
            go_wp2_with fail;go_ret;exact⟨zJ F,H.out.trans ((zAZ b1 _).mono jo)⟩
          · have e6:decide ((n:Int)≤y)=false:=yAI d1;have d8:=zA (d0.out ⟨by omega,by omega⟩);go_wp2_with fail
            go_quiet (fail)
            obtain⟨w1,E⟩:=jx (wr.drewN nq);rw[E];have b5:w1.cell? ⟨X,7,none⟩=some (.slice (some ⟨bk,ok,none⟩) x.kids.length s.ck):=by rw[←E];exact c6
            have d9:w1.cell? ⟨bk,ok+m,none⟩=some (.int .i64 y):=by rw[←E];exact b3
            have a0:X < w1.heap.size:=by rw[←E];exact c7
            have f:=zA (show OrS W w1 u3 (x.kids.drop (m+1)++l) by rw[←E];exact⟨zMb D.out.own _,zAZ D.out.below _⟩);have g4:=zA a0;have P:(x.kids.drop (m+1)++l).length+1≤1000000:=by
             have:=d6.out;rw[List.length_append]at this⊢;rw[List.length_drop];omega
            have g5:=zA P;obtain⟨hi,I,J,L⟩:=HI.out;clear E b3 D b1 c7 P;go_wp2_with (at_builtin;refine zDR rfl _ _ 41 rfl W.heap.size 3 i0 (.int .i64 0) 1 8 underlying41 hi I J L rfl jd u3 _ _ rfl (by exact f.out.own) f.out.below.size [y] 1 1 rfl rfl rfl (by have:=g5.out;omega) jd ?_;intro v' w' d2 a1);have d3:=zA a1;have g6:=(a1.cell (p:=⟨X,7,none⟩) a0 c5).trans b5;have g7:X < w'.heap.size:=yAA a0 a1.size;have HO:=zA d2;clear a1 d2 b5 d9 a0 hi I J L;go_wp2_with fail
            go_roundw
            case rel=>
             refine⟨m,_,by omega,rfl,rfl,⟨?_,?_⟩,d3.out.apart g4 c5,d8,by rw[g2.out];exact g6,g7⟩
             · have e:zE1 (x.kids.drop (m+1)++l).reverse++[.int .i64 y]=zE1 (x.kids.drop m++l).reverse:=by rw[b4.out];simp[zE1]
               have e2:(x.kids.drop (m+1)++l).length+1=(x.kids.drop m++l).length:=by rw[b4.out];simp
               have:=HO.out;rwa[e,e2]at this
             · exact f.out.below.trans ((d3.out.below (zLO f.out.own) f.out.below.size))
            case measure=>simp[intOf]
  · obtain rfl:k=n:=by omega
    have F:=zA (show d.isEmpty=q from by rw[←HQ.out];exact(t.out.end_ b9 h0).symm);obtain⟨Av,cv,rfl,_,_⟩:=zS M.out.own;go_wp2_with fail;go_ret;refine⟨zJ ?_,H.out.trans (M.out.below.mono jo)⟩;rw[←F.out];cases d<;>simp<;>omega
theorem zWX (h:(zAx ts).length≤1000000):∀x∈ts,x.kids.length≤1000000:=by
 intro x b;obtain⟨k,hk,rfl⟩:=List.getElem_of_mem b;have h1:=zVK (yAB hk);have c:=zVL ts (k+1);rw[h1,List.length_append]at c;omega
theorem zTc (h:ts.length=0):zRh ts=false:=by
 have:=List.length_eq_zero_iff.1 h;subst this;rfl
theorem zQR (h:ts[0]? =some x):zRh ts=(decide (ts.length≤4096)&&x.kind==1&&zCR ts&&zB4 ts 0 ts&&decide (zMa ts≤48)):=by
 cases ts with
 | nil=>cases h
 | cons y r=>obtain rfl:y=x:=Option.some.inj h;rfl
theorem zQS (b:ts[k]? =some x):zB4 ts k (ts.drop k)=(!(decide (0 < k)&&x.kind==1)&&zK x&&zC4 ts x&&zB4 ts (k+1) (ts.drop (k+1))):=by
 obtain⟨c,rfl⟩:=List.getElem?_eq_some_iff.1 b;rw[yAH c];rfl
theorem zQT (hN:NdsR w B A n ts) (hB:B≤w.heap.size) (hc:n≤c) (ht:(zAx ts).length≤1000000) (J:zRh ts=q):
 Calls prog 10 #[.agg #[.slice A n c]] w (BmP q w):=by
 have v:=hN.1
 by_cases h0:n=0
 · subst h0;rw[zTc v]at J;subst J;clear hN v ht;go_enter func10,ntmps10;go_wp2_with fail;go_ret;exact⟨rfl,by go_grown⟩
 by_cases h4:4096 < n
 · have t:=zA (show false=q by
    obtain⟨x,X⟩:∃x,ts[0]? =some x:=⟨_,yAB jo⟩;rw[←J,zQR X,v,yAI jo];rfl)
   have e1:((n:Int)==0)=false:=yA.2 jo;have e2:(4096:Int) < (n:Int):=by omega
   have e3:decide ((4096:Int) < (n:Int))=true:=decide_eq_true e2;clear hN v ht J;go_enter func10,ntmps10;go_wp2_with fail;go_ret;exact⟨zJ t,by go_grown⟩
 have hl:n≤4096:=by omega
 obtain⟨b,o,x0,s0,rfl,c9,Y,a7,b5⟩:=hN.get (i:=0) jo;have M:w.cell? ⟨b,o,none⟩=some (.int .i64 x0.kind):=by have:=a7.k0;rwa[Nat.zero_mul,Nat.add_zero]at this
 have e1:((n:Int)==0)=false:=yA.2 jo;have e2:¬(4096:Int) < (n:Int):=by omega
 have e3:decide ((4096:Int) < (n:Int))=false:=yAI e2;rw[zQR Y,v,decide_eq_true hl,Bool.true_and]at J;obtain⟨W,hW⟩:=jx (w.alloc (.cells #[.slice (some ⟨b,o,none⟩) n c] 24));have N:Below w.heap.size w W:=jb hW;have a8:w.heap.size < W.heap.size:=by rw[←hW];simp
 have a9:W.cell? w.heap.size=some (.slice (some ⟨b,o,none⟩) n c):=jc hW;have g:W.cell? ⟨b,o,none⟩=some (.int .i64 x0.kind):=(N.cell (p:=⟨b,o,none⟩) (show b < w.heap.size by omega)).trans M;have u:=zA N;have HN:=zA hN;have O:=zA (hN.below (N.mono hB));have G:=zA hB;have HT:=zA ht;have b6:=zA v;have d0:=zA Y;have HQ:=zA J;clear Y a7 b5 M N hN hB ht v J;go_enter func10,ntmps10;go_upto_region 1 with(fail);have HW:=zA hW;clear hW;obtain⟨K,hK⟩:=jx x0.kind;rw[hK]at g;have HK:=zA hK;clear hK
 by_cases P:K=1
 · subst P;have b7:((1:Int) !=1)=false:=rfl;obtain⟨oq,a0⟩:=jx (zCR ts);have CO:=zA (zQQ O (by have:=G.out;omega) hc hl jo HT a0);have a1:=zA a0;clear a0;cases oq with
   | false=>
    have t:=zA (show false=q by rw[←HQ.out,a1.out];simp);go_wp2_with (go_at_call 25;refine CO.out.mono ?_;rintro e2 w2 ⟨rfl,H⟩);go_ret;exact⟨zJ t,u.out.trans (H.mono jo)⟩
   | true=>
    have b0:=zA (zJz a1);have b8:=zA (show(zB4 ts 0 ts&&decide (zMa ts≤48))=q by rw[←HQ.out,HK.out,a1.out];rfl);have b1:=zA (zWX HT);go_upto_region 4 with(go_at_call 25;refine CO.out.mono ?_;rintro e2 w2 ⟨rfl,H⟩;have C:=(H.cell (p:=w.heap.size) a8).trans a9);have b9:=zA H;obtain⟨eq,a2⟩:=jx (zB4 ts 0 ts);obtain⟨nd,a3⟩:=jx (zMa ts);have c0:=zA a2;have c1:=zA a3;have Q:=zA (show(eq&&decide (nd≤48))=q by rw[←b8.out,a2,a3]);clear H C g a2 a3
    go_loopw [30] (fun i wr=>∃k:Nat,k≤n∧i=.int .i64 k∧Hid (zB4 ts k (ts.drop k)=eq)∧Hid (Below W.heap.size W wr)) (fun i _=>n - (intOf i).toNat)
    case atStart=>exact⟨0,yAE _,rfl,by rw[List.drop_zero];exact c0.out,b9⟩
    case round=>
     obtain⟨k,hk,rfl,R,j⟩:=hrel;have C:=(j.out.cell (p:=w.heap.size) a8).trans a9;have y:=j.out.size
     by_cases c2:k < n
     · obtain⟨b',o',x,s,hA,_,X,hC,hR⟩:=(O.out.below (j.out.mono (by have:=G.out;omega))).get c2;injection hA with hA;injection hA with hA1 hA2;subst hA1 hA2;obtain⟨c4,d1,d2,d3,d4,d5,d6,d7⟩:=hC;have r:=R.out;rw[zQS X]at r;obtain⟨fv,a4⟩:=jx (zK x);obtain⟨kv,a5⟩:=jx (zC4 ts x);have L:=zA (zNT hR (by have:=G.out;omega) a4);have CK:=zA (fun(w3:World) (d:Below wr.heap.size wr w3)=>zTb (c:=c) ((O.out.below (j.out.mono (by have:=G.out;omega))).below (d.mono (by have:=G.out;omega))) (yAD (show B≤wr.heap.size by have:=G.out;omega) d.size) b0 b1 X a5);rw[a4,a5]at r;obtain⟨I,S⟩:=jx x.kind;rw[S]at c4 r;have d8:=zA S;have F:=zA r;have HX:=zA X;have T:w.heap.size < wr.heap.size:=by omega
       rw[S]at L;clear X hR a4 a5 r S R
       by_cases f:0 < k∧I=1
       · have l:(0:Int) < (k:Int):=by omega
         have D:decide ((0:Int) < (k:Int))=true:=decide_eq_true l;have E:decide (0 < k)=true:=decide_eq_true f.1;have d9:=f.1;have U:(I==1)=true:=by rw[f.2];rfl
         have t:=zA (show false=q by
          rw[←Q.out,←F.out,decide_eq_true f.1,U];rfl)
         clear f;go_wp2_with fail;go_ret;exact⟨zJ t,u.out.trans (j.out.mono jo)⟩
       · have m:(decide (0 < k)&&I==1)=false:=by
          cases h1:decide (0 < k)with
          | false=>rfl
          | true=>exact yA.2 (fun e=>f ⟨of_decide_eq_true h1,e⟩)
         have HG:=zA m;cases fv with
         | false=>
          have t:=zA (show false=q by rw[←Q.out,←F.out];simp)
          by_cases g:0 < k
          · have l:(0:Int) < (k:Int):=by omega
            have D:decide ((0:Int) < (k:Int))=true:=decide_eq_true l;have E:decide (0 < k)=true:=decide_eq_true g;have U:(I==1)=false:=yA.2 (fun e=>f ⟨g,e⟩);clear f m;go_wp2_with (go_at_call 26;refine L.out.mono ?_;rintro e3 w3 ⟨rfl,d⟩);go_ret;exact⟨zJ t,u.out.trans ((j.out.trans (d.mono y)).mono jo)⟩
          · have l:¬(0:Int) < (k:Int):=by omega
            have D:decide ((0:Int) < (k:Int))=false:=yAI l;have E:decide (0 < k)=false:=yAI g;clear f m;go_wp2_with (go_at_call 26;refine L.out.mono ?_;rintro e3 w3 ⟨rfl,d⟩);go_ret;exact⟨zJ t,u.out.trans ((j.out.trans (d.mono y)).mono jo)⟩
         | true=>
          have b2:=zA (show(kv&&zB4 ts (k+1) (ts.drop (k+1)))=eq by rw[←F.out,HG.out];rfl);cases kv with
          | false=>
           have t:=zA (show false=q by rw[←Q.out,←b2.out];rfl)
           by_cases g:0 < k
           · have l:(0:Int) < (k:Int):=by omega
             have D:decide ((0:Int) < (k:Int))=true:=decide_eq_true l;have E:decide (0 < k)=true:=decide_eq_true g;have U:(I==1)=false:=yA.2 (fun e=>f ⟨g,e⟩);clear f m;go_wp2_with (first | (go_at_call 26;refine L.out.mono ?_;rintro e3 w3 ⟨rfl,d⟩;have V:=(d.cell (p:=w.heap.size) T).trans C) | (go_at_call 27;refine(CK.out w3 d).mono ?_;rintro e4 w4 ⟨rfl,z⟩));go_ret;exact⟨zJ t,u.out.trans ((j.out.trans ((d.trans (z.mono d.size)).mono y)).mono jo)⟩
           · have l:¬(0:Int) < (k:Int):=by omega
             have D:decide ((0:Int) < (k:Int))=false:=yAI l;have E:decide (0 < k)=false:=yAI g;clear f m;go_wp2_with (first | (go_at_call 26;refine L.out.mono ?_;rintro e3 w3 ⟨rfl,d⟩;have V:=(d.cell (p:=w.heap.size) T).trans C) | (go_at_call 27;refine(CK.out w3 d).mono ?_;rintro e4 w4 ⟨rfl,z⟩));go_ret;exact⟨zJ t,u.out.trans ((j.out.trans ((d.trans (z.mono d.size)).mono y)).mono jo)⟩
          | true=>
           have b3:=zA (show zB4 ts (k+1) (ts.drop (k+1))=eq from b2.out)
           by_cases g:0 < k
           · have l:(0:Int) < (k:Int):=by omega
             have D:decide ((0:Int) < (k:Int))=true:=decide_eq_true l;have E:decide (0 < k)=true:=decide_eq_true g;have U:(I==1)=false:=yA.2 (fun e=>f ⟨g,e⟩);clear f m;go_wp2_with (first | (go_at_call 26;refine L.out.mono ?_;rintro e3 w3 ⟨rfl,d⟩;have V:=(d.cell (p:=w.heap.size) T).trans C) | (go_at_call 27;refine(CK.out w3 d).mono ?_;rintro e4 w4 ⟨rfl,z⟩))
             go_roundw
             case rel=>exact⟨k+1,by omega,by go_num,b3,j.out.trans ((d.trans (z.mono d.size)).mono y)⟩
             case measure=>simp[intOf];omega
           · have l:¬(0:Int) < (k:Int):=by omega
             have D:decide ((0:Int) < (k:Int))=false:=yAI l;have E:decide (0 < k)=false:=yAI g;clear f m;go_wp2_with (first | (go_at_call 26;refine L.out.mono ?_;rintro e3 w3 ⟨rfl,d⟩;have V:=(d.cell (p:=w.heap.size) T).trans C) | (go_at_call 27;refine(CK.out w3 d).mono ?_;rintro e4 w4 ⟨rfl,z⟩))
             go_roundw
             case rel=>exact⟨k+1,by omega,by go_num,b3,j.out.trans ((d.trans (z.mono d.size)).mono y)⟩
             case measure=>simp[intOf];omega
     · obtain rfl:n=k:=by omega
       have b4:=zA (show true=eq by
        rw[←R.out,List.drop_of_length_le (by rw[b6.out];omega)];rfl)
       obtain⟨dl,a6⟩:=jx (zKT ts);have CD:=zA (zMC (c:=c) (O.out.below (j.out.mono (by have:=G.out;omega))) (by have:=G.out;omega) jo hl b0 b1 a6);have c5:=zA (show zGS dl=nd by rw[←a6];exact c1.out);have c6:=zA (show decide (nd≤48)=q by rw[←Q.out,←b4.out];rfl);clear a6 R;go_wp2_with (first | (go_at_call 19;refine CD.out.mono ?_;rintro e3 w3 ⟨A3,c3,rfl,c7,V,c8,d⟩) | (go_at_call 18;refine(zP6 c7 jo jo c8 c5.out).mono ?_;rintro e4 w4 ⟨rfl,rfl⟩));go_ret;refine⟨zJ ?_,u.out.trans ((j.out.trans (d.mono y)).mono jo)⟩;rw[←c6.out,Bool.eq_iff_iff];simp
       try omega
 · have b7:(K !=1)=true:=bne_iff_ne.2 P;have t:=zA (show false=q by rw[←HQ.out,HK.out,yA.2 P];rfl);clear P;go_wp2_with fail;go_ret;exact⟨zJ t,u⟩
end Go.Proofs.YtlnbbaehihgigaaGreatDoor
