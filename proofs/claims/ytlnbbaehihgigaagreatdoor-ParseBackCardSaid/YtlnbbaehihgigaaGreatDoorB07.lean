/- Joined for the claim ParseBack: the parser, the lexer and the trees as they are walked, made short by a program of mine. -/
import Derived.Test.YtlnbbaehihgigaaGreatDoorB01
import Derived.Test.YtlnbbaehihgigaaGreatDoorB02
import Derived.Deep.CutBlock
import Derived.Deep.DeepCutAuto
import Derived.Deep.LoopGhost
import Derived.OwnWalk
import Derived.Laws.OwnMore
import Derived.Test.YtlnbbaehihgigaaGreatDoorB04
import Derived.Deep.RegionHeld3
set_option maxHeartbeats 16000000
set_option maxRecDepth 1000000
namespace Go.Proofs.YtlnbbaehihgigaaGreatDoor
open Go.Proofs.Tryz
open Go.RowKit
variable {ts:List Nd} {q:Bool} {A:Option Addr} {x:Nd} {d:List Nat} {w W wr w':World} {n k N B c m v j a:Nat} {b ks:List Int} {xs:List (List UInt8)} {l:List UInt8} {s:Int}
def zE7 (l:List Nat):List Value:=l.map fun n:Nat=>Value.int .i64 (n:Int)
theorem zLo (l:List Nat):(zE7 l).length=l.length:=by simp[zE7]
def zCD (w:World) (q:List Nat×Nat) (e:Ending) (w':World):Prop:=
 ∃A c,e=.returned (.tuple #[.slice A q.1.length c,.int .i64 (q.2:Int)])∧q.1.length≤c∧Reads w' w'.heap.size 1 A q.1.length (zE7 q.1)∧Below w.heap.size w w'
theorem zE8 (w:World) (r:Nat) {q:List Nat×Nat} (b:q=([],r)):zCD w q (.returned (.tuple #[.slice none 0 0,.int .i64 (r:Int)])) w:=by
 subst b;exact⟨none,0,rfl,yAC _,Reads.none_,Below.refl _ _⟩
theorem zJa (w:World) (cs:List Value) (T:TypeId):Reads (w.alloc (.cells cs.toArray T)) (w.heap.size+1) 1 (some ⟨w.heap.size,0,none⟩) cs.length cs:=by
 refine⟨by simp,fun _=>⟨_,rfl,by show w.heap.size < _;omega,fun j u b=>?_⟩⟩;rw[Addr.add_lit,World.cell?_alloc_at _ _ _ _ rfl];simpa using b
theorem zAc (w:World) (l:List Nat) (r m:Nat) {T:TypeId} {q:List Nat×Nat} (c:q=(l.take m,r)) (d:m≤l.length):zCD w q (.returned (.tuple #[.slice (some ⟨w.heap.size,0,none⟩) m l.length,.int .i64 (r:Int)])) (w.alloc (.cells (zE7 l).toArray T)):=by
 subst c;have b:(l.take m).length=m:=by rw[List.length_take];omega
 refine⟨some ⟨w.heap.size,0,none⟩,l.length,by show _=Ending.returned (.tuple #[.slice _ (l.take m).length _,_]);rw[b],by show(l.take m).length≤_;omega,?_,ja⟩;have h:=(zJa w (zE7 l) T);rw[zLo]at h;have f:=h.take (k:=m) d;show Reads _ _ 1 _ (l.take m).length (zE7 (l.take m));rw[b];have e:zE7 (l.take m)=(zE7 l).take (m*1):=by rw[Nat.mul_one];simp[zE7]
 rw[e];exact f.more js
def zZN (w:World) (l:List Nat) (e:Ending) (w':World):Prop:=
 ∃A c,e=.returned (.slice A l.length c)∧l.length≤c∧Reads w' w'.heap.size 1 A l.length (zE7 l)∧Below w.heap.size w w'
structure PrS (w wr:World) (v:Value) (l:List Nat):Prop where
 own:wr.ownsRow w.heap.size 3 1 v l.length (zE7 l)
 below:Below w.heap.size w wr
theorem zFc (n last:Nat) (z:n≤1000000) (w:World):Calls prog 78 #[.int .i64 (n:Int),.int .i64 (last:Int)] w (zZN w (zBB n last)):=by
 obtain⟨q,hi,b,d,f⟩:=info_parts Tryz.info_int;have s:=zA (And.intro hi (And.intro b (And.intro d f)));clear hi b d f;go_enter func78,ntmps78;go_wp2_with fail
 go_loopw [5,8] (fun v i wr=>∃k:Nat,k≤n - 1∧i=.int .i64 k∧Hid (PrS w wr v (List.replicate k 6))) (fun _ i _=>n - (intOf i).toNat)
 case atStart=>exact⟨0,yAE _,rfl,⟨yAJ _ _ _ _,Below.refl _ _⟩⟩
 case round=>
  obtain⟨k,hk,rfl,g⟩:=hrel;obtain⟨hi,b,d,f⟩:=s.out
  by_cases r:k < n - 1
  · have e0:(k:Int) < (n:Int) - 1:=by omega
    go_wp2_with (at_builtin;refine zDD rfl _ _ 41 rfl w.heap.size 3 q (.int .i64 0) 1 8 underlying41 hi b d f rfl jd u5 _ _ rfl (by exact g.out.own) g.out.below.size [.int .i64 6] 1 1 rfl rfl rfl (by rw[List.length_replicate];omega) jd ?_;intro v' w' j l);have p:=zA j;have t:=zA l;clear j l hi b d f;go_wp2_with fail
    go_roundw
    case rel=>
     refine⟨k+1,by omega,by go_num,⟨?_,g.out.below.trans (t.out.below (zK0 g.out.own) g.out.below.size)⟩⟩;have:=p.out;rw[show zE7 (List.replicate k 6)++[Value.int .i64 6]=zE7 (List.replicate (k+1) 6) by rw[List.replicate_succ'];simp[zE7]]at this;simpa using this
    case measure=>simp[intOf];omega
  · have e0:¬(k:Int) < (n:Int) - 1:=by omega
    obtain rfl:k=n - 1:=by omega
    obtain⟨K,o⟩:=jx (n - 1);rw[o]at g e0;rw[o];have m:=zA o;clear o hk r;go_wp2_with (at_builtin;refine zDD rfl _ _ 41 rfl w.heap.size 3 q (.int .i64 0) 1 8 underlying41 hi b d f rfl jd u5 _ _ rfl (by exact g.out.own) g.out.below.size [.int .i64 (last:Int)] 1 1 rfl rfl rfl (by rw[List.length_replicate];have:=m.out;omega) jd ?_;intro v' w' j l);have e:zE7 (List.replicate K 6)++[Value.int .i64 (last:Int)]=zE7 (zBB n last):=by unfold zBB;rw[m.out];simp[zE7]
    have e2:(List.replicate K 6).length+1=(zBB n last).length:=by unfold zBB;rw[m.out];simp
    rw[e,e2]at j;have u:=zA (g.out.below.trans (l.below (zK0 g.out.own) g.out.below.size));obtain⟨A,c,rfl,y,_⟩:=zR j;have p:=zA (Reads.of_own j);clear j l e e2 hi b d f;go_wp2_with fail;go_ret;exact⟨A,c,rfl,y,p.out,u.out⟩
theorem zM2 (k:Int) (h:k∈([1,3,4,5,6,9,10,15,16,17,18,38,39,40,43,44,45,46,47,48,49,50,51,52,53]:List Int)) (n:Nat) (w:World):Calls prog 39 #[.int .i64 k,.int .i64 (n:Int)] w (zCD w (zy k n)):=by
 simp only[List.mem_cons,List.mem_nil_iff,or_false]at h;rcases h with rfl | rfl | rfl | rfl | rfl | rfl | rfl | rfl | rfl | rfl | rfl | rfl | rfl | rfl | rfl | rfl | rfl | rfl | rfl | rfl | rfl | rfl | rfl | rfl | rfl
 all_goals
  go_enter func39,ntmps39;go_wp2_with fail
  go_ret2
  first
  | exact zAc w [3] 0 1 rfl jd
  | exact zAc w [3,2] 0 2 rfl jd
  | exact zAc w [10,9,9,2] 0 4 rfl jd
  | exact zAc w [8,11,12] 0 3 rfl jd
  | exact zAc w [8] 0 1 rfl jd
  | exact zAc w [2] 0 1 rfl jd
  | exact zAc w [4] 0 1 rfl jd
  | exact zAc w [3,3] 0 2 rfl jd
  | exact zAc w [3,3,3] 0 3 rfl jd
  | exact zAc w [4,3] 0 2 rfl jd
  | exact zAc w [5] 5 1 rfl jd
  | exact zAc w [3] 3 1 rfl jd
  | exact zE8 w 1 rfl
  | exact zE8 w 3 rfl
  | exact zE8 w 7 rfl
theorem zM3 (n:Nat) (h:n≤1) (w:World):Calls prog 39 #[.int .i64 7,.int .i64 (n:Int)] w (zCD w (zy 7 n)):=by
 have e:(n:Int)≤1:=by omega
 have m1:min (n:Int) 1=n:=by omega
 go_enter func39,ntmps39;go_wp2_with fail
 go_ret2
 exact zAc w [3] 0 n (q:=zy 7 n) (by show([3].take (min n 1),0)=_;rw[show min n 1=n by omega]) (by show n≤1;omega)
theorem zM4 (n:Nat) (h:2≤n) (w:World):Calls prog 39 #[.int .i64 7,.int .i64 (n:Int)] w (zCD w (zy 7 n)):=by
 have e:¬(n:Int)≤1:=by omega
 have m1:min (n:Int) 1=1:=by omega
 go_enter func39,ntmps39;go_wp2_with fail
 go_ret2
 exact zAc w [3] 0 1 (q:=zy 7 n) (by show([3].take (min n 1),0)=_;rw[show min n 1=1 by omega]) jd
theorem zKY (n:Nat) (h:n≤1) (w:World):Calls prog 39 #[.int .i64 14,.int .i64 (n:Int)] w (zCD w (zy 14 n)):=by
 have e:(n:Int)≤1:=by omega
 have m1:min (n:Int) 1=n:=by omega
 go_enter func39,ntmps39;go_wp2_with fail
 go_ret2
 exact zAc w [3] 0 n (q:=zy 14 n) (by show([3].take (min n 1),0)=_;rw[show min n 1=n by omega]) (by show n≤1;omega)
theorem zKZ (n:Nat) (h:2≤n) (w:World):Calls prog 39 #[.int .i64 14,.int .i64 (n:Int)] w (zCD w (zy 14 n)):=by
 have e:¬(n:Int)≤1:=by omega
 have m1:min (n:Int) 1=1:=by omega
 go_enter func39,ntmps39;go_wp2_with fail
 go_ret2
 exact zAc w [3] 0 1 (q:=zy 14 n) (by show([3].take (min n 1),0)=_;rw[show min n 1=1 by omega]) jd
theorem zKa (n:Nat) (h:n≤1) (w:World):Calls prog 39 #[.int .i64 8,.int .i64 (n:Int)] w (zCD w (zy 8 n)):=by
 have m1:max (n:Int) 2=2:=by omega
 have m2:min (2:Int) 3=2:=by omega
 have e:(n:Int)≤2:=by omega
 have e2:¬2≤(n:Int):=by omega
 go_enter func39,ntmps39;go_wp2_with fail
 go_ret2
 exact zAc w [3,2,2] 0 2 (q:=zy 8 n) (by show([3,2,2].take (min (max n 2) 3),0)=_;rw[show min (max n 2) 3=2 by omega]) jd
theorem zKb (n:Nat) (h:n=2) (w:World):Calls prog 39 #[.int .i64 8,.int .i64 (n:Int)] w (zCD w (zy 8 n)):=by
 have m1:max (n:Int) 2=n:=by omega
 have m2:min (n:Int) 3=n:=by omega
 have e:(n:Int)≤2:=by omega
 have e2:2≤(n:Int):=by omega
 have e3:(n:Int)≤3:=by omega
 have H:=zA h;clear h;go_enter func39,ntmps39;go_wp2_with fail
 go_ret2
 exact zAc w [3,2,2] 0 n (q:=zy 8 n) (by show([3,2,2].take (min (max n 2) 3),0)=_;rw[show min (max n 2) 3=n by have:=H.out;omega]) (by have:=H.out;show n≤3;omega)
theorem zII (n:Nat) (h:n=3) (w:World):Calls prog 39 #[.int .i64 8,.int .i64 (n:Int)] w (zCD w (zy 8 n)):=by
 have m1:max (n:Int) 2=n:=by omega
 have m2:min (n:Int) 3=n:=by omega
 have e:¬(n:Int)≤2:=by omega
 have e2:(n:Int)≤3:=by omega
 have H:=zA h;clear h;go_enter func39,ntmps39;go_wp2_with fail
 go_ret2
 exact zAc w [3,2,2] 0 n (q:=zy 8 n) (by show([3,2,2].take (min (max n 2) 3),0)=_;rw[show min (max n 2) 3=n by omega]) (by show n≤3;omega)
theorem zJb (n:Nat) (h:4≤n) (w:World):Calls prog 39 #[.int .i64 8,.int .i64 (n:Int)] w (zCD w (zy 8 n)):=by
 have m1:max (n:Int) 2=n:=by omega
 have m2:min (n:Int) 3=3:=by omega
 have e:¬(n:Int)≤2:=by omega
 have e2:¬(n:Int)≤3:=by omega
 go_enter func39,ntmps39;go_wp2_with fail
 go_ret2
 exact zAc w [3,2,2] 0 3 (q:=zy 8 n) (by show([3,2,2].take (min (max n 2) 3),0)=_;rw[show min (max n 2) 3=3 by omega]) jd
theorem zSi (n:Nat) (h:n≤1000000) (w:World):Calls prog 39 #[.int .i64 19,.int .i64 (n:Int)] w (zCD w (zy 19 n)):=by
 go_enter func39,ntmps39;go_wp2_with (go_at_call 78;refine(zFc n 8 h w).mono ?_;rintro e w' ⟨A,c,rfl,b,d,hb⟩)
 go_ret2
 exact⟨A,c,rfl,b,d,hb⟩
theorem zSj (n:Nat) (h:n≤1000000) (w:World):Calls prog 39 #[.int .i64 41,.int .i64 (n:Int)] w (zCD w (zy 41 n)):=by
 go_enter func39,ntmps39;go_wp2_with (go_at_call 78;refine(zFc n 8 h w).mono ?_;rintro e w' ⟨A,c,rfl,b,d,hb⟩)
 go_ret2
 exact⟨A,c,rfl,b,d,hb⟩
theorem zSk (n:Nat) (h:n≤1000000) (w:World):Calls prog 39 #[.int .i64 42,.int .i64 (n:Int)] w (zCD w (zy 42 n)):=by
 go_enter func39,ntmps39;go_wp2_with (go_at_call 78;refine(zFc n 13 h w).mono ?_;rintro e w' ⟨A,c,rfl,b,d,hb⟩)
 go_ret2
 exact⟨A,c,rfl,b,d,hb⟩
theorem zM5 (k:Int) (n:Nat) (h:∀j∈([1,3,4,5,6,7,8,9,10,14,15,16,17,18,19,38,39,40,41,42,43,44,45,46,47,48,49,50,51,52,53]:List Int),k≠j) (w:World):Calls prog 39 #[.int .i64 k,.int .i64 (n:Int)] w (zCD w (zy k n)):=by
 have e1:(k==1)=false:=yA.2 (h 1 jd);have e3:(k==3)=false:=yA.2 (h 3 jd);have e4:(k==4)=false:=yA.2 (h 4 jd);have e5:(k==5)=false:=yA.2 (h 5 jd);have e6:(k==6)=false:=yA.2 (h 6 jd);have e7:(k==7)=false:=yA.2 (h 7 jd);have e8:(k==8)=false:=yA.2 (h 8 jd);have L:(k==9)=false:=yA.2 (h 9 jd);have e:(k==10)=false:=yA.2 (h 10 jd);have f:(k==14)=false:=yA.2 (h 14 jd);have l:(k==15)=false:=yA.2 (h 15 jd);have m:(k==16)=false:=yA.2 (h 16 jd);have o:(k==17)=false:=yA.2 (h 17 jd);have q:(k==18)=false:=yA.2 (h 18 jd);have r:(k==19)=false:=yA.2 (h 19 jd);have s:(k==38)=false:=yA.2 (h 38 jd);have t:(k==39)=false:=yA.2 (h 39 jd);have u:(k==40)=false:=yA.2 (h 40 jd);have v:(k==41)=false:=yA.2 (h 41 jd);have y:(k==42)=false:=yA.2 (h 42 jd);have z:(k==43)=false:=yA.2 (h 43 jd);have A:(k==44)=false:=yA.2 (h 44 jd);have B:(k==45)=false:=yA.2 (h 45 jd);have C:(k==46)=false:=yA.2 (h 46 jd);have D:(k==47)=false:=yA.2 (h 47 jd);have E:(k==48)=false:=yA.2 (h 48 jd);have F:(k==49)=false:=yA.2 (h 49 jd);have G:(k==50)=false:=yA.2 (h 50 jd);have H:(k==51)=false:=yA.2 (h 51 jd);have I:(k==52)=false:=yA.2 (h 52 jd);have J:(k==53)=false:=yA.2 (h 53 jd);have d:Hid (zy k n=([],0)):=by
  have c:∀{p:Prop} [Decidable p] {a b:List Nat×Nat},¬p→b=([],0)→(if p then a else b)=([],0):=fun h1 c=>by rw[if_neg h1,c]
  have g:k≠1∧k≠3∧k≠4∧k≠5∧k≠6∧k≠7∧k≠8∧k≠9∧k≠10∧k≠14∧k≠15∧k≠16∧k≠17∧k≠18∧k≠19∧k≠38∧k≠39∧k≠40∧k≠41∧k≠42∧k≠43∧k≠44∧k≠45∧k≠46∧k≠47∧k≠48∧k≠49∧k≠50∧k≠51∧k≠52∧k≠53:=by refine⟨h 1 jd,h 3 jd,h 4 jd,h 5 jd,h 6 jd,h 7 jd,h 8 jd,h 9 jd,h 10 jd,h 14 jd,h 15 jd,h 16 jd,h 17 jd,h 18 jd,h 19 jd,h 38 jd,h 39 jd,h 40 jd,h 41 jd,h 42 jd,h 43 jd,h 44 jd,h 45 jd,h 46 jd,h 47 jd,h 48 jd,h 49 jd,h 50 jd,h 51 jd,h 52 jd,h 53 jd⟩
  clear h;unfold zy
  repeat' refine c jo ?_
  rfl
 clear h;go_enter func39,ntmps39;go_wp2_with fail
 go_ret2
 exact zE8 w 0 d.out
theorem zPm (k:Int) (n:Nat) (b:n≤1000000) (w:World):Calls prog 39 #[.int .i64 k,.int .i64 (n:Int)] w (zCD w (zy k n)):=by
 by_cases c:k∈([1,3,4,5,6,9,10,15,16,17,18,38,39,40,43,44,45,46,47,48,49,50,51,52,53]:List Int)
 · exact zM2 k c n w
 simp only[List.mem_cons,List.mem_nil_iff,or_false,not_or]at c
 by_cases l:k=7
 · subst l
   by_cases h:n≤1
   · exact zM3 n h w
   · exact zM4 n jo w
 by_cases m:k=8
 · subst m
   by_cases o:n≤1
   · exact zKa n o w
   by_cases h:n=2
   · exact zKb n h w
   · by_cases p:n=3
     · exact zII n p w
     · exact zJb n jo w
 by_cases d:k=14
 · subst d
   by_cases h:n≤1
   · exact zKY n h w
   · exact zKZ n jo w
 by_cases e:k=19
 · subst e;exact zSi n b w
 by_cases f:k=41
 · subst f;exact zSj n b w
 by_cases g:k=42
 · subst g;exact zSk n b w
 exact zM5 k n (fun j q=>by simp only[List.mem_cons,List.mem_nil_iff,or_false]at q;omega) w
def zAn (ts:List Nd):List Int:=ts.flatMap (·.kids)
theorem zFl (x:Nd) (r:List Nd):zAn (x::r)=x.kids++zAn r:=rfl
theorem zEb (a b:List Nd):zAn (a++b)=zAn a++zAn b:=List.flatMap_append ..
mutual
theorem countT (n:Nat) (t:Tr) (i:Nat):(zAn (flatT n t)).count (i:Int)=if n < i∧i < n+t.size then 1 else 0:=by
 cases t with
 | mk x l=>
  rw[zA7,zFl,List.count_append,zh];have:=countL (n+1) l i;show(zz (n+1) l).count (i:Int)+_=_;rw[this];congr 1;rw[eq_iff_iff];omega
theorem countL (n:Nat) (l:List Tr) (i:Nat):(zz n l).count (i:Int)+(zAn (flatL n l)).count (i:Int)=if n≤i∧i < n+sizes l then 1 else 0:=by
 cases l with
 | nil=>
  rw[zBC,zL,jn];rfl
 | cons t r=>
  rw[zAb,zEb,List.count_append,zG];have h1:=countT n t i;have h2:=countL (n+t.size) r i;have h3:=zBG t;show((n:Int)::zz (n+t.size) r).count (i:Int)+_=_;rw[List.count_cons,h1]
  by_cases e:i=n
  · subst e;have h4:¬(i+t.size≤i∧i < i+t.size+sizes r):=by omega
    rw[if_neg h4]at h2;rw[if_pos js,jn,if_pos jo];omega
  · have h5:((n:Int)==(i:Int))=false:=yA.2 jo;rw[h5,if_neg js]
    by_cases h6:n < i∧i < n+t.size
    · rw[jn]at h2;rw[if_pos h6,if_pos jo];omega
    · by_cases h7:n+t.size≤i∧i < n+t.size+sizes r
      · rw[if_pos h7]at h2;rw[if_neg h6,if_pos jo];omega
      · rw[if_neg h7]at h2;rw[if_neg h6,jn];omega
end
theorem zPn (v:Nat):∀(l:List Tr) (n k:Nat),(k:Int)∈zz n l→(depsL v l)[k - n]? =some v:=by
 intro l
 induction l with
 | nil=>intro n k h;cases h
 | cons t r b=>
  intro n k h;have c:=zBG t;rw[zCw];rcases List.mem_cons.1 h with h | h
  · obtain rfl:k=n:=by omega
    rw[Nat.sub_self,List.getElem?_append_left (by rw[depsT_len];omega)];cases t;rw[zDF];rfl
  · have d:=zBp h;rw[List.getElem?_append_right (by rw[depsT_len];omega),depsT_len,Nat.sub_sub];exact b (n+t.size) k h
mutual
theorem kidsT (n v:Nat) (t:Tr) (i:Nat) (x:Nd) (h:(flatT n t)[i]? =some x):
 (∀k∈x.kids,((n+i:Nat):Int) < k∧k < ((n+t.size:Nat):Int))∧(∀k,x.kids[0]? =some k→k=((n+i+1:Nat):Int))∧(∀k:Nat,(k:Int)∈x.kids→∃d,(depsT v t)[i]? =some d∧(depsT v t)[k - n]? =some (d+1)):=by
 cases t with
 | mk y l=>
  rw[zA7]at h;rw[zDF,zh];cases i with
  | zero=>
   obtain rfl:{y with kids:=zz (n+1) l}=x:=Option.some.inj h;refine⟨fun k hk=>by have:=zBp hk;omega,fun k hk=>?_,fun k hk=>⟨v,rfl,?_⟩⟩
   · cases l with
     | nil=>cases hk
     | cons t r=>obtain rfl:((n+1:Nat):Int)=k:=Option.some.inj hk;omega
   · have h2:=zBp hk;rw[show k - n=(k - (n+1))+1 by omega,List.getElem?_cons_succ];exact zPn (v+1) l (n+1) k hk
  | succ i=>
   rw[List.getElem?_cons_succ]at h;obtain⟨h1,h2,h3⟩:=kidsL (n+1) (v+1) l i x h;refine⟨fun k hk=>by have:=h1 k hk;omega,fun k hk=>by have:=h2 k hk;omega,fun k hk=>?_⟩;obtain⟨d,h4,h5⟩:=h3 k hk;have:=(h1 k hk).1;exact⟨d,by rw[List.getElem?_cons_succ];exact h4,by rw[show k - n=(k - (n+1))+1 by omega,List.getElem?_cons_succ];exact h5⟩
theorem kidsL (n v:Nat) (l:List Tr) (i:Nat) (x:Nd) (h:(flatL n l)[i]? =some x):
 (∀k∈x.kids,((n+i:Nat):Int) < k∧k < ((n+sizes l:Nat):Int))∧(∀k,x.kids[0]? =some k→k=((n+i+1:Nat):Int))∧(∀k:Nat,(k:Int)∈x.kids→∃d,(depsL v l)[i]? =some d∧(depsL v l)[k - n]? =some (d+1)):=by
 cases l with
 | nil=>rw[zBC]at h;cases h
 | cons t r=>
  rw[zAb]at h;rw[zCw,zG]
  by_cases hi:i < t.size
  · rw[List.getElem?_append_left (by rw[flatT_len];exact hi)]at h;obtain⟨h1,h2,h3⟩:=kidsT n v t i x h;refine⟨fun k hk=>by have:=h1 k hk;omega,h2,fun k hk=>?_⟩;obtain⟨d,h4,h5⟩:=h3 k hk;have:=h1 k hk;exact⟨d,by rw[List.getElem?_append_left (by rw[depsT_len];omega)];exact h4,by rw[List.getElem?_append_left (by rw[depsT_len];omega)];exact h5⟩
  · rw[List.getElem?_append_right (by rw[flatT_len];omega),flatT_len]at h;obtain⟨h1,h2,h3⟩:=kidsL (n+t.size) v r (i - t.size) x h;refine⟨fun k hk=>by have:=h1 k hk;omega,fun k hk=>by have:=h2 k hk;omega,fun k hk=>?_⟩;obtain⟨d,h4,h5⟩:=h3 k hk;have:=h1 k hk;exact⟨d,by rw[List.getElem?_append_right (by rw[depsT_len];omega),depsT_len];exact h4,by rw[List.getElem?_append_right (by rw[depsT_len];omega),depsT_len,Nat.sub_sub];exact h5⟩
end
structure Ordered (ts:List Nd) (D:List Nat):Prop where
 len:D.length=ts.length
 head:D[0]? =some 1
 lo:∀(n:Nat) (h:n < ts.length),∀k∈ts[n].kids,(n:Int) < k∧k < (ts.length:Int)
 first:∀(n:Nat) (h:n < ts.length) (k:Int),ts[n].kids[0]? =some k→k=(n:Int)+1
 deep:∀(n:Nat) (h:n < ts.length) (k:Nat),(k:Int)∈ts[n].kids→∃d,D[n]? =some d∧D[k]? =some (d+1)
 once:∀k:Nat,1≤k→k < ts.length→(zAn ts).count (k:Int)=1
theorem zJc (t:Tr):Ordered (flatT 0 t) (depsT 1 t):=by
 have b:=flatT_len 0 t;refine⟨by rw[depsT_len,b],by cases t;rw[zDF];rfl,fun n h k hk=>?_,fun n h k hk=>?_,fun n h k hk=>?_,fun k h1 c=>?_⟩
 · have:=(kidsT 0 1 t n _ (yAB h)).1 k hk;rw[b];omega
 · have:=(kidsT 0 1 t n _ (yAB h)).2.1 k hk;omega
 · have:=(kidsT 0 1 t n _ (yAB h)).2.2 k hk;simpa using this
 · rw[countT,if_pos jo]
def Fwd (ts:List Nd):Prop:=∀(n:Nat) (x:Nd),ts[n]? =some x→∀k∈x.kids,(n:Int) < k∧k < (ts.length:Int)
theorem zJd (h:zCL ts=true):Fwd ts:=by
 obtain⟨t,rfl⟩:=zHO h;intro n x b k hk;obtain⟨c,rfl⟩:=List.getElem?_eq_some_iff.1 b;exact(zJc t).lo n c k hk
theorem zLp (h:ts[m]? =some x):atN ts (m:Int)=x:=by
 unfold atN;rw[yAG,Int.toNat_natCast,h];rfl
def DanAt (ts:List Nd) (n m:Nat) (q:Bool):Prop:=∃f,n - m≤f∧zME f ts (m:Int)=q
theorem DanAt.step (h:DanAt ts n m q) (l:m < n) (d:ts[m]? =some x):
 (if x.kind=8∧x.kids.length=2 then true=q else if x.kind=8∨x.kind=9∨x.kind=10∨x.kind=18 then(x.kids=[]→false=q)∧(∀k:Nat,x.kids.getLast? =some (k:Int)→m < k→DanAt ts n k q)else false=q):=by
 obtain⟨f,o,b⟩:=h;obtain⟨g,rfl⟩:∃g,f=g+1:=⟨f - 1,by omega⟩;unfold zME at b;rw[zLp d]at b;split
 · rename_i h1;rw[if_pos h1]at b;exact b
 · rename_i h1
   rw[if_neg h1]at b;split
   · rename_i c
     rw[if_pos c]at b;refine⟨fun e=>by rw[e]at b;exact b,fun k hk j=>?_⟩;rw[hk]at b;exact⟨g,by omega,b⟩
   · rename_i c;rw[if_neg c]at b;exact b
theorem zGj (hN:NdsR w B A n ts) (hB:B≤w.heap.size) (X:Fwd ts) (r:∀x∈ts,x.kids.length≤1000000) (O:m < n) (Y:zDZ ts (m:Int)=q):
 Calls prog 42 #[.agg #[.slice A n c],.int .i64 (m:Int)] w fun e w'=>e=.returned (.bool q)∧Below w.heap.size w w':=by
 obtain⟨W,F⟩:=jx (w.alloc (.cells #[.slice A n c] 24));have G:Below w.heap.size w W:=jb F;have b5:W.heap.size=w.heap.size+1:=by rw[←F];simp
 have a0:=zA ((hN.below (G.mono hB)));have a1:W.cell? ⟨w.heap.size,0,none⟩=some (.slice A n c):=jc F;have HD:=zA (show DanAt ts n m q from⟨ts.length,by rw[hN.1];omega,Y⟩);have H:=zA G;have HF:=zA X;have a2:=zA r;have a3:=zA hN.1;have HB:=zA hB;clear Y G hN X r;go_enter func42,ntmps42;go_upto_region 1 with(fail);have HW:=zA F;clear F
 go_loopw [1] (fun v wr=>∃k:Nat,k < n∧v=.int .i64 k∧Hid (DanAt ts n k q)∧Hid (Below W.heap.size W wr)) (fun v _=>n - (intOf v).toNat)
 case atStart=>exact⟨m,O,rfl,HD.out,Below.refl _ _⟩
 case round=>
  obtain⟨k,hk,rfl,hd,D⟩:=hrel;obtain⟨b,o,x,s,rfl,b6,N,hC,hR⟩:=(a0.out.below (D.out.mono jo)).get hk;obtain⟨P,a4,a5,a6,a7,a8,a9,b0⟩:=hC;have b1:wr.cell? ⟨w.heap.size,0,none⟩=some (.slice (some ⟨b,o,none⟩) n c):=(D.out.cell (p:=⟨w.heap.size,0,none⟩) (show w.heap.size < W.heap.size by omega)).trans a1;have d:=hd.out.step hk N;have g:=HF.out k x N;have b2:=a2.out x (List.mem_of_getElem? N);rw[a3.out]at g;have b3:=D.out.size;obtain⟨K,hK⟩:=jx x.kind;rw[hK]at P d;clear N hd hK O;go_upto_region 2 with(fail);obtain⟨C,f⟩:=jx (wr.alloc (.cells #[.int .i64 K,.string ⟨x.name.toArray⟩,.slice s.As x.str.length s.cs,.int .i64 x.nk,.int .i64 x.nn,.bool x.neg,.slice s.Am x.mag.length s.cm,.slice s.Ak x.kids.length s.ck] 43));rw[f];have Q:Below W.heap.size W C:=by rw[←f];exact D.out.alloc b3 _
  have b7:C.heap.size=wr.heap.size+1:=by rw[←f];simp
  have p0:C.cell? ⟨wr.heap.size,0,none⟩=some (.int .i64 K):=jc f;have p7:C.cell? ⟨wr.heap.size,7,none⟩=some (.slice s.Ak x.kids.length s.ck):=jc f;have l:NdR C B x s:=hR.below (by rw[←f];exact(Below.refl _ _).alloc jo _);have t:=zA Q;clear f Q P a4 a5 a6 a7 a8 a9 b0 b1 hR
  by_cases h1:K=8∧x.kids.length=2
  · rw[if_pos h1]at d;have I:=zA d;obtain⟨h8,u⟩:=h1;subst h8;rw[u]at p7;clear d g l u;go_wp2_with fail
    (try rw[Exit.noGoto_ret])
    go_ret;exact⟨zJ I.out,H.out.trans (t.out.mono jo)⟩
  · rw[if_neg h1]at d
    by_cases u:K=8∨K=9∨K=10∨K=18
    · rw[if_pos u]at d;obtain⟨U,hb⟩:=d;have E:K=8→((x.kids.length:Int)==2)=false:=fun e=>yA.2 (fun e2=>h1 ⟨e,by omega⟩)
      by_cases z:x.kids=[]
      · have I:=zA (U z);rw[z]at p7 E;clear U hb g l h1 z;rcases u with rfl | rfl | rfl | rfl
        all_goals
         clear E;go_wp2_with fail
         (try rw[Exit.noGoto_ret])
         go_ret;exact⟨zJ I.out,H.out.trans (t.out.mono jo)⟩
      · obtain⟨L,V⟩:∃L,x.kids.length=L+1:=⟨x.kids.length - 1,by have:=List.length_pos_iff.2 z;omega⟩;obtain⟨bk,ok,R,b8,S⟩:=l.kids.spotK jo;have b4:=S L jo;have r:=g x.kids[L] (List.getElem_mem jo);have J:=l.ck;have M:x.kids.getLast? =some x.kids[L]:=by
         rw[List.getLast?_eq_getElem?,show x.kids.length - 1=L by omega,yAB jo]
        obtain⟨y,hy⟩:=jx (x.kids[L]' jo);rw[hy]at b4 r M;obtain⟨j,rfl⟩:∃j:Nat,y=(j:Int):=⟨y.toNat,by omega⟩;have HN:=zA (hb j M jo);rw[R,V]at p7;rw[V]at E J;have b9:L+1≤1000000:=by omega
        have T:j < n:=by omega
        have c0:k < j:=by omega
        clear U hb g l h1 z R S V M hy J r b2;rcases u with rfl | rfl | rfl | rfl
        · have h4:=E rfl;clear E;go_wp2_with fail
          go_roundw
          case rel=>exact⟨j,T,rfl,HN.out,t.out⟩
          case measure=>simp[intOf];omega
        all_goals
         clear E;go_wp2_with fail
         go_roundw
         case rel=>exact⟨j,T,rfl,HN.out,t.out⟩
         case measure=>simp[intOf];omega
    · rw[if_neg u]at d;have I:=zA d;have e1:(K==8)=false:=yA.2 jo;have e2:(K==9)=false:=yA.2 jo;have e3:(K==10)=false:=yA.2 jo;have e4:(K==18)=false:=yA.2 jo;clear d g l h1 u;go_wp2_with fail
      (try rw[Exit.noGoto_ret])
      go_ret;exact⟨zJ I.out,H.out.trans (t.out.mono jo)⟩
structure DpS (W wr:World) (v:Value) (n:Nat) (d:List Nat):Prop where
 own:wr.ownsRow W.heap.size 3 1 v n (zE7 d)
 below:Below W.heap.size W wr
theorem zPo (n:Nat):(madeCells (Value.int .i64 0).cells (n*1)).toList=zE7 (List.replicate n 0):=by
 rw[Nat.mul_one];show(madeCells #[Value.int .i64 0] n).toList=_;rw[toList_madeCells_one];simp[zE7]
def DeepAt (ts:List Nd) (k:Nat) (d q:List Nat):Prop:=zDb k (ts.drop k) d=q∧d.length=ts.length∧∀y∈d,y≤k+1
theorem DeepAt.start {q:List Nat} (h:zJ6 ts=q):DeepAt ts 0 (List.replicate ts.length 0) q:=
 ⟨h,List.length_replicate,fun y b=>by have:=List.eq_of_mem_replicate b;omega⟩
theorem DeepAt.done {q:List Nat} (h:DeepAt ts ts.length d q):d=q:=by
 have:=h.1;rwa[List.drop_of_length_le (yAC _)]at this
def DeepIn (ts:List Nd) (k v:Nat) (ks:List Int) (d q:List Nat):Prop:=zDb (k+1) (ts.drop (k+1)) (zEI d (v+1) ks)=q∧d[k]? =some v∧d.length=ts.length∧v≤k+1∧∀y∈d,y≤k+2
theorem zHk {i b:Nat} (h:∀y∈d,y≤b) (hv:v≤b):∀y∈d.set i v,y≤b:=by
 intro y c;rcases List.mem_or_eq_of_mem_set c with h1 | h1
 · exact h y h1
 · rw[h1];exact hv
theorem DeepAt.go {q:List Nat} (h:DeepAt ts k d q) (e:ts[k]? =some x) (b:d[k]? =some a):DeepIn ts k (max a 1) x.kids (d.set k (max a 1)) q:=by
 obtain⟨c,rfl⟩:=List.getElem?_eq_some_iff.1 e;have hb:=h.2.2 a (List.mem_of_getElem? b);refine⟨?_,List.getElem?_set_self (by rw[h.2.1];exact c),by rw[List.length_set];exact h.2.1,by omega,zHk (fun y f=>by have:=h.2.2 y f;omega) jo⟩;have:=h.1;rwa[yAH c,zGD,yAG,b]at this
theorem DeepIn.step {q:List Nat} (h:DeepIn ts k v ((m:Int)::ks) d q) (b:k < m):DeepIn ts k v ks (d.set m (v+1)) q:=by
 refine⟨h.1,?_,by rw[List.length_set];exact h.2.2.1,h.2.2.2.1,zHk h.2.2.2.2 (by have:=h.2.2.2.1;omega)⟩;rw[List.getElem?_set_ne jo];exact h.2.1
theorem DeepIn.done {q:List Nat} (h:DeepIn ts k v [] d q):DeepAt ts (k+1) d q:=⟨h.1,h.2.2.1,h.2.2.2.2⟩
theorem zSl (l:List Nat) (k x:Nat):(zE7 l).set k (.int .i64 (x:Int))=zE7 (l.set k x):=by
 unfold zE7;rw[List.map_set]
theorem DpS.cell {g:Nat} (h:DpS W wr (.slice (some ⟨g,0,none⟩) n n) n d) (b:d[k]? =some a):wr.cell? ⟨g,k,none⟩=some (.int .i64 (a:Int)):=by
 have e:k < n:=by
  have h1:=(List.getElem?_eq_some_iff.1 b).1;have c:=h.own.1;rw[zLo]at c;omega
 rw[h.own.cellAt k jo];simp[zE7,b]
theorem DpS.store {g:Nat} (h:DpS W wr (.slice (some ⟨g,0,none⟩) n n) n d) (hg:W.heap.size≤g) {z:Int} (b:z=(a:Int)):DpS W (wr.setCell ⟨g,k,none⟩ (.int .i64 z)) (.slice (some ⟨g,0,none⟩) n n) n (d.set k a):=by
 subst b;have h1:=h.own.stored k (.int .i64 (a:Int));rw[zSl]at h1;exact⟨h1.1,h.below.setCell hg _⟩
theorem DpS.below' {v:Value} (h:DpS W wr v n d) (hb:Below wr.heap.size wr w'):DpS W w' v n d:=⟨zDX h.own hb,h.below.trans (hb.mono h.below.size)⟩
theorem zLq (hN:NdsR w B A n ts) (hB:B≤w.heap.size) (h0:0 < n) (hl:n≤4096) (hf:Fwd ts) (Y:∀x∈ts,x.kids.length≤1000000) {q:List Nat} (hq:zJ6 ts=q):
 Calls prog 19 #[.agg #[.slice A n c]] w fun e w'=>∃A' c',e=.returned (.slice A' n c')∧q.length=n∧n≤c'∧Reads w' w'.heap.size 1 A' n (zE7 q)∧Below w.heap.size w w':=by
 obtain⟨W,M⟩:=jx (w.alloc (.cells #[.slice A n c] 24));have N:Below w.heap.size w W:=jb M;have a0:W.heap.size=w.heap.size+1:=by rw[←M];simp
 have c1:=zA ((hN.below (N.mono hB)));have c2:W.cell? ⟨w.heap.size,0,none⟩=some (.slice A n c):=jc M;have c3:=zA N;have HF:=zA hf;have c4:=zA Y;have t:=zA hN.1;have HQ:=zA hq;have HB:=zA hB;clear hq N hN hf Y;go_enter func19,ntmps19;go_upto_region 1 with(fail);have HW:=zA M;clear M;obtain⟨i0,hi,a1,a2,a3⟩:=info_parts Tryz.info_int;have a4:i0.bytes*n≤281474976710656:=by rw[a3];omega
 have a5:n≤maxLen:=by unfold maxLen;omega
 have e9:w.heap.size < W.heap.size:=by omega
 have f1:=zA a0;obtain⟨G,hG⟩:=jx W.heap.size;clear a0;go_wp2_with (refine wpList_make_full _ rfl _ _ 41 rfl W.heap.size 3 i0 (.int .i64 0) 1 underlying41 hi a1 a2 .i64 .i64 (n:Int) (n:Int) n rfl rfl rfl rfl a4 a5 (yAC _) ?_;intro w1 a6 g;have c5:w1.cell? ⟨w.heap.size,0,none⟩=some (.slice A n c):=g.cell c2 js);have HG:=zA hG;have a7:=zA (show DpS W w1 (.slice (some ⟨G,0,none⟩) n n) n (List.replicate n 0)from⟨by have:=a6;rw[zPo]at this;rw[←hG];exact this,⟨g.os,g.tape,g.output,g.size,fun i hi=>g.block i hi js⟩⟩);clear a6 g hi a1 a2 a3 a4 a5 hG
 go_loopw [15] (fun i wr=>∃(k:Nat) (d:List Nat),k≤n∧i=.int .i64 k∧Hid (DeepAt ts k d q)∧Hid (DpS W wr (.slice (some ⟨G,0,none⟩) n n) n d)) (fun i _=>n - (intOf i).toNat)
 case atStart=>exact⟨0,_,yAE _,rfl,by have:=DeepAt.start HQ.out;rwa[t.out]at this,a7.out⟩
 case round=>
  clear c5 a7;obtain⟨k,d,hk,rfl,l,D⟩:=hrel
  by_cases a8:k < n
  · have c6:=D.out.below.size;obtain⟨b,o,x,s,rfl,f2,S,hC,hR⟩:=(c1.out.below (D.out.below.mono jo)).get a8;obtain⟨c7,c8,c9,d0,d1,d3,d4,d5⟩:=hC;have a9:=zA (show∀y∈x.kids,(k:Int) < y∧y < (n:Int)from by have:=HF.out k x S;rwa[t.out]at this);have d6:=c4.out x (List.mem_of_getElem? S);have b0:k < d.length:=by rw[l.out.2.1,t.out];exact a8
    obtain⟨a,T⟩:∃a,d[k]? =some a:=⟨_,yAB b0⟩;have E:=zA (l.out.go S T);have d7:a≤k+1:=l.out.2.2 a (List.mem_of_getElem? T);have HA:=zA T;clear S b0 T;go_upto_region 5 with(fail);obtain⟨O,F⟩:=jx (wr.alloc (.cells #[.int .i64 x.kind,.string ⟨x.name.toArray⟩,.slice s.As x.str.length s.cs,.int .i64 x.nk,.int .i64 x.nn,.bool x.neg,.slice s.Am x.mag.length s.cm,.slice s.Ak x.kids.length s.ck] 43));rw[F];have J:wr.heap.size < O.heap.size:=by rw[←F];simp
    have p7:O.cell? ⟨wr.heap.size,7,none⟩=some (.slice s.Ak x.kids.length s.ck):=jc F;have b1:Below wr.heap.size wr O:=jb F;have u:=zA (D.out.below' b1);have d8:G < wr.heap.size:=by have:=(D.out.own.lt G rfl).2;exact this
    have b2:=zA (hR.back (D.out.below.mono jo));obtain⟨X,hX⟩:=jx wr.heap.size;rw[hX]at p7 J d8;rw[hX];have U:=u.out.cell HA.out;have b3:=u.out.own.frozenAt k;have f3:G≠X:=by omega
    have P:W.heap.size≤G:=by rw[HG.out];omega
    have d9:=u.out.below.size;clear F b1 c7 c8 c9 d0 d1 d3 d4 d5 hR D hX c6 l
    go_cut [3] (fun v3 Q=>v3=.slice (some ⟨G,0,none⟩) n n∧Hid (DpS W Q (.slice (some ⟨G,0,none⟩) n n) n (d.set k (max a 1)))∧Q.cell? ⟨X,7,none⟩=some (.slice s.Ak x.kids.length s.ck)∧X < Q.heap.size)
    case first=>
     by_cases b4:a≤1
     · have hv:max a 1=1:=by omega
       have HV:=zA hv;have e0:max (a:Int) 1=1:=by omega
       clear hv;rcases(show a=0∨a=1 by omega)with rfl | rfl
       all_goals
        clear e0 b4 d7;go_wp2_with fail;go_meet;exact⟨rfl,u.out.store P (by rw[HV.out];rfl),zBw (zQ _ _ _ _) p7 (show X≠G by omega),by simpa using J⟩
     · have hv:max a 1=a:=by omega
       have HV:=zA hv;have e1:¬(a:Int)≤1:=by omega
       have e2:(1:Int)≤a:=by omega
       have e4:max (a:Int) 1=(a:Int):=by omega
       clear hv b4;go_wp2_with fail;go_meet;exact⟨rfl,u.out.store P (by rw[HV.out]),zBw (zQ _ _ _ _) p7 (show X≠G by omega),by simpa using J⟩
    case rest=>
     obtain⟨rfl,H,b5,e3⟩:=hcut;clear u p7 J U b3 d9;obtain⟨v,hv⟩:=jx (max a 1);rw[hv]at E H;have f4:v≤4097:=by omega
     obtain⟨d2,b6⟩:=jx (d.set k v);rw[b6]at E H;clear hv b6 HA
     by_cases I:x.kids=[]
     · have C:=zA (show DeepAt ts (k+1) d2 q from by have:=E.out;rw[I]at this;exact this.done);rw[I]at b5;clear I E d6 a9;go_wp2_with fail
       go_loopw [31] (fun i Q=>i=.int .i64 0∧Q=wc) (fun _ _=>0)
       case atStart=>exact⟨rfl,rfl⟩
       case round=>
        obtain⟨rfl,rfl⟩:=hrel;go_wp2_with fail
        go_roundw
        case rel=>exact⟨k+1,d2,by omega,by go_num,C.out,H.out⟩
        case measure=>simp[intOf];omega
     have b7:=List.length_pos_iff.2 I;obtain⟨bk,ok,f5,f6,b8⟩:=b2.out.kids.spotK b7;have f0:=b2.out.ck.1;have e5:=zA b8;clear I b8 b7;go_wp2_with fail
     go_loopw [31] (fun i wr=>∃(j:Nat) (e:List Nat),j≤x.kids.length∧i=.int .i64 j∧Hid (DeepIn ts k v (x.kids.drop j) e q)∧Hid (DpS W wr (.slice (some ⟨G,0,none⟩) n n) n e)) (fun i _=>x.kids.length - (intOf i).toNat)
     case atStart=>exact⟨0,d2,yAE _,rfl,E.out,H.out⟩
     case round=>
      clear H b5 e3;obtain⟨j,e,hj,rfl,L,r⟩:=hrel
      by_cases R:j < x.kids.length
      · have e6:=(r.out.below.cell (p:=⟨bk,ok+j,none⟩) (show bk < W.heap.size by omega)).trans (e5.out j R);have b9:=a9.out x.kids[j] (List.getElem_mem R);have f:=L.out;rw[yAH R]at f;obtain⟨y,hy⟩:=jx (x.kids[j]);rw[hy]at e6 b9 f;obtain⟨m,rfl⟩:∃m:Nat,y=(m:Int):=⟨y.toNat,by omega⟩;have e7:k < m:=by omega
        have e8:m < n:=by omega
        have V:=zA (f.step e7);have f7:=r.out.cell f.2.1;obtain⟨z,hz⟩:∃z,e[m]? =some z:=⟨_,yAB (by rw[f.2.2.1,t.out];exact e8)⟩;have f8:=r.out.cell hz;have b3:=r.out.own.frozenAt m;have f9:=r.out.below.size;clear b9 f hy hz L;go_wp2_with fail
        go_roundw
        case rel=>exact⟨j+1,e.set m (v+1),by omega,by go_num,V.out,r.out.store P jo⟩
        case measure=>simp[intOf];omega
      · obtain rfl:j=x.kids.length:=by omega
        have C:=zA (show DeepAt ts (k+1) e q from by have:=L.out;rw[List.drop_length]at this;exact this.done);clear L;go_wp2_with fail
        go_roundw
        case rel=>exact⟨k+1,e,by omega,by go_num,C.out,r.out⟩
        case measure=>simp[intOf];omega
  · obtain rfl:k=n:=by omega
    have C:=zA (show d=q from by have:=l.out;rw[←t.out]at this;exact this.done);have c0:=zA (show q.length=k from by rw[←C.out,l.out.2.1,t.out]);clear l;go_wp2_with fail;go_ret;refine⟨_,_,rfl,c0.out,yAC _,?_,c3.out.trans (D.out.below.mono jo)⟩;rw[←C.out];exact Reads.of_own D.out.own
theorem zPp (l:List Nat) (x:Nat):zGB (l++[x])=max (zGB l) x:=by
 rw[zK5];simp[zGB]
theorem zPq (v:d.length=n) (C:0 < n) (R:n≤100000) (D:Reads w B 1 A n (zE7 d)) {q:Nat} (E:zGB d=q):
 Calls prog 18 #[.slice A n c] w fun e w'=>e=.returned (.int .i64 (q:Int))∧w=w':=by
 obtain⟨b,o,rfl,hb,f⟩:=D.spotR C;have l:∀(j:Nat) (x:Nat),d[j]? =some x→w.cell? ⟨b,o+j,none⟩=some (.int .i64 (x:Int)):=fun j x L=>f j _ (by simp[zE7,L]);have F:=zA l;obtain⟨x0,g⟩:∃x0,d[0]? =some x0:=⟨_,yAB jo⟩;have G:w.cell? ⟨b,o,none⟩=some (.int .i64 (x0:Int)):=l 0 x0 g;have M:=zA (show zGB (d.take 1)=x0 by
  cases d with
  | nil=>cases g
  | cons y r=>obtain rfl:=Option.some.inj g;simp[zGB])
 have H:=zA v;have N:=zA E;have h1:(1:Int)≤(n:Int):=by omega
 clear l f g D v E;go_enter func18,ntmps18;go_wp2_with fail
 go_loop [3,4] (fun m i=>∃k z:Nat,1≤k∧k≤n∧i=.int .i64 k∧m=.int .i64 z∧Hid (zGB (d.take k)=z)) (fun _ i=>n - (intOf i).toNat)
 case atStart=>exact⟨1,x0,yAC _,C,rfl,rfl,M.out⟩
 case round=>
  clear G;obtain⟨k,z,P,hk,rfl,rfl,I⟩:=hrel
  by_cases J:k < n
  · have s:k < d.length:=by rw[H.out];exact J
    obtain⟨y,t⟩:∃y,d[k]? =some y:=⟨_,yAB s⟩;have Q:=F.out k y t;have u:=zA (show zGB (d.take (k+1))=max z y by
     rw[List.take_add_one,t];show zGB (d.take k++[y])=_;rw[zPp,I.out])
    clear s t;rcases Nat.lt_trichotomy z y with p | p | p
    · have e1:(z:Int)≤(y:Int):=by omega
      have e2:¬(y:Int)≤(z:Int):=by omega
      have e3:(z:Int) < (y:Int):=by omega
      have e4:max (z:Int) (y:Int)=(y:Int):=by omega
      go_wp2_with fail;go_round
      case rel=>exact⟨k+1,y,by omega,by omega,by go_num,rfl,u.out.trans jo⟩
      case measure=>simp[intOf];omega
    · subst p;go_wp2_with fail
      all_goals go_round
      case rel=>exact⟨k+1,z,by omega,by omega,by go_num,rfl,u.out.trans jo⟩
      case measure=>simp[intOf];omega
    · have e1:¬(z:Int)≤(y:Int):=by omega
      have e2:(y:Int)≤(z:Int):=by omega
      have e3:(y:Int) < (z:Int):=by omega
      have e4:max (z:Int) (y:Int)=(z:Int):=by omega
      go_wp2_with fail;go_round
      case rel=>exact⟨k+1,z,by omega,by omega,by go_num,rfl,u.out.trans jo⟩
      case measure=>simp[intOf];omega
  · obtain rfl:k=n:=by omega
    have O:=zA (show z=q by rw[←I.out,←N.out,List.take_of_length_le (by rw[H.out];omega)]);go_wp2_with fail;go_ret;exact⟨zF7 (by rw[O.out]),rfl⟩
theorem zE9 {c:UInt8} (h:zAz c.toUInt16=q) (w:World):Calls prog 60 #[.int .u16 (c.toNat:Int)] w fun e w'=>e=.returned (.bool q)∧w=w':=by
 subst h;have:=zA5 c.toUInt16 w;rwa [UInt8.toNat_toUInt16]at this
theorem zF5 {c:UInt8} (h:zK c.toUInt16=q) (w:World):Calls prog 62 #[.int .u16 (c.toNat:Int)] w fun e w'=>e=.returned (.bool q)∧w=w':=by
 subst h;have:=zAH c.toUInt16 w;rwa [UInt8.toNat_toUInt16]at this
def zKc (l:List UInt8) (k:Nat):Prop:=∀j (h:j < l.length),j < k→(if j=0 then zAz l[j].toUInt16 else zAx l[j].toUInt16)=true
theorem zM6 (l:List UInt8):zKc l 0:=fun _ _ h=>absurd h jo
theorem zM7 (h:zKc l k) (hk:k < l.length) (b:(if k=0 then zAz l[k].toUInt16 else zAx l[k].toUInt16)=true):zKc l (k+1):=by
 intro j c d
 by_cases e:j=k
 · subst e;exact b
 · exact h j c jo
theorem zPr (h:zKc l l.length) (d:l≠[]):zF9 l=true:=by
 cases l with
 | nil=>exact absurd rfl d
 | cons b r=>
  have h1:=h 0 js js;simp only[if_true,List.getElem_cons_zero]at h1;unfold zF9;simp only[h1,Bool.true_and];rw[List.all_eq_true];intro x e;obtain⟨j,c,rfl⟩:=List.getElem_of_mem e;have:=h (j+1) (by simpa using c) (by simpa using c);simpa using this
theorem zSm (hk:k < l.length) (c:(if k=0 then zAz l[k].toUInt16 else zAx l[k].toUInt16)=false):zF9 l=false:=by
 cases l with
 | nil=>rfl
 | cons b r=>
  unfold zF9
  by_cases d:k=0
  · subst d;simp only[if_true,List.getElem_cons_zero]at c;simp[c]
  · obtain⟨j,rfl⟩:∃j,k=j+1:=⟨k - 1,by omega⟩;simp only[d,if_false,List.getElem_cons_succ]at c;rw[Bool.and_eq_false_iff];right;rw[←Bool.not_eq_true,List.all_eq_true];intro h;have:=h _ (List.getElem_mem (by simpa using hk:j < r.length));rw[c]at this;cases this
theorem zPs (s:ByteArray) (k:Nat) (_h:k < s.size) (b:k < s.data.toList.length):s.data.toList[k]=s[k]:=rfl
theorem zGk (s:ByteArray) (w:World) (hs:s.size≤8192) (D:zF9 s.data.toList=q):
 Calls prog 75 #[.string s] w fun e w'=>e=.returned (.bool q)∧w=w':=by
 have z:=zA D;have v:s.data.toList.length=s.size:=by simp
 have o:=zA v;clear D v;go_enter func75,ntmps75;go_wp2_with fail
 go_loop [7] (fun i=>∃k:Nat,k≤s.size∧i=.int .i64 k∧Hid (zKc s.data.toList k)) (fun i=>s.size - (intOf i).toNat)
 case atStart=>exact⟨0,yAE _,rfl,zM6 _⟩
 case round=>
  obtain⟨k,hk,rfl,y⟩:=hrel
  by_cases g:k < s.size
  · have hb:=s[k].toNat_lt;obtain⟨c,A⟩:=jx (s[k]);have E:=zA A;have H:(s[k].toNat:Int)=(c.toNat:Int):=by rw[A]
    have j:=zA (show(if k=0 then zAz c.toUInt16 else zAx c.toUInt16)=true→zKc s.data.toList (k+1)from fun h=>zM7 y.out (by rw[o.out];exact g) (by rw[zPs s k g,E.out];exact h));have p:=zA (show(if k=0 then zAz c.toUInt16 else zAx c.toUInt16)=false→false=q from fun h=>by rw[←z.out,zSm (l:=s.data.toList) (k:=k) (by rw[o.out];exact g) (by rw[zPs s k g,E.out];exact h)]);clear A;obtain⟨F,r⟩:=jx (zAz c.toUInt16);obtain⟨G,t⟩:=jx (zK c.toUInt16);have m:=zA r;have u:=zA t;have B:=zA (show zAx c.toUInt16=(F || G) by unfold zAx;rw[r,t]);clear r t;cases F with
    | true=>
     have b:=zA (j.out (by split;exact m.out;rw[B.out];rfl));go_wp2_with (first | (go_at_call 60;refine(zE9 m.out w).mono ?_;rintro e w' ⟨rfl,rfl⟩) | (go_at_call 62;refine(zF5 u.out w).mono ?_;rintro e w' ⟨rfl,rfl⟩));go_round
     case rel=>exact⟨k+1,by omega,by go_num,b.out⟩
     case measure=>simp[intOf];omega
    | false=>
     by_cases f:k=0
     · have e0:((k:Int)==0)=true:=by rw[f];rfl
       have b:=zA (p.out (by rw[if_pos f];exact m.out));clear f;go_wp2_with (first | (go_at_call 60;refine(zE9 m.out w).mono ?_;rintro e w' ⟨rfl,rfl⟩) | (go_at_call 62;refine(zF5 u.out w).mono ?_;rintro e w' ⟨rfl,rfl⟩))
       (try rw[Exit.noGoto_ret])
       go_ret;exact⟨zJ b.out,rfl⟩
     · have e0:((k:Int)==0)=false:=yA.2 jo;cases G with
       | true=>
        have b:=zA (j.out (by rw[if_neg f,B.out];rfl));clear f;go_wp2_with (first | (go_at_call 60;refine(zE9 m.out w).mono ?_;rintro e w' ⟨rfl,rfl⟩) | (go_at_call 62;refine(zF5 u.out w).mono ?_;rintro e w' ⟨rfl,rfl⟩));go_round
        case rel=>exact⟨k+1,by omega,by go_num,b.out⟩
        case measure=>simp[intOf];omega
       | false=>
        have b:=zA (p.out (by rw[if_neg f,B.out];rfl));clear f;go_wp2_with (first | (go_at_call 60;refine(zE9 m.out w).mono ?_;rintro e w' ⟨rfl,rfl⟩) | (go_at_call 62;refine(zF5 u.out w).mono ?_;rintro e w' ⟨rfl,rfl⟩))
        (try rw[Exit.noGoto_ret])
        go_ret;exact⟨zJ b.out,rfl⟩
  · have C:=zA (show zKc s.data.toList s.data.toList.length by rw[o.out,show s.size=k by omega];exact y.out)
    by_cases d:s.data.toList=[]
    · have e1:s.toList=[]:=by rw[ByteArray.toList_eq];exact d
      have b:=zA (show false=q by rw[←z.out,d];rfl);have e2:(s.toList==[])=true:=by rw[e1];rfl
      have e3:s.toList.isEmpty=true:=by rw[e1];rfl
      clear d e1;go_wp2_with fail;go_ret;exact⟨zJ b.out,rfl⟩
    · have e1:s.toList≠[]:=by rw[ByteArray.toList_eq];exact d
      have b:=zA (show true=q by rw[←z.out,zPr C.out d]);have e2:(s.toList==[])=false:=yA.2 e1;have e3:s.toList.isEmpty=false:=by rw[List.isEmpty_eq_false_iff];exact e1
      clear d e1;go_wp2_with fail;go_ret;exact⟨zJ b.out,rfl⟩
theorem zJe (s:ByteArray) (w:World) (hs:s.size≤8192) (b:zBn s.data.toList=q):
 Calls prog 74 #[.string s] w fun e w'=>e=.returned (.bool q)∧w=w':=by
 cases hr:zF9 s.data.toList with
 | false=>
  obtain rfl:q=false:=by rw[←b];unfold zBn;rw[hr];rfl
  have c:=zA hr;clear hr b;go_enter func74,ntmps74;go_wp2_with (go_at_call 75;refine(zGk s w hs c.out).mono ?_;rintro e w' ⟨rfl,rfl⟩);go_ret;exact⟨rfl,rfl⟩
 | true=>
  obtain⟨n,d⟩:=jx (zCN s.data.toList);have f:=zA (show(n==0)=q by rw[←b,←d];unfold zBn;rw[hr];rfl);have c:=zA hr;have g:=zA (show∀w:World,Calls prog 97 #[.string s] w fun e w'=>e=.returned (.int .i64 (n:Int))∧w=w' from fun w=>by have:=zDn s w;rwa [d]at this);clear hr b d;go_enter func74,ntmps74;go_wp2_with (first | (go_at_call 75;refine(zGk s w hs c.out).mono ?_;rintro e w' ⟨rfl,rfl⟩) | (go_at_call 97;refine(g.out w).mono ?_;rintro e w' ⟨rfl,rfl⟩));go_ret;refine⟨zJ ?_,rfl⟩;rw[←f.out,Bool.eq_iff_iff,beq_iff_eq,beq_iff_eq];omega
def zLr (l:List (List UInt8)):List Value:=l.map fun s=>Value.string ⟨s.toArray⟩
theorem zSn (l:List (List UInt8)):(zLr l).length=l.length:=by simp[zLr]
def zZO (s:List UInt8) (xs:List (List UInt8)) (w:World) (e:Ending) (w':World):Prop:=∃r:Int,e=.returned (.int .i64 r)∧w=w'∧decide (0≤r)=decide (s∈xs)∧ -1≤r∧r≤4096
theorem zPt (s:ByteArray) (o:xs.length=n) (p:Reads w B 1 A n (zLr xs)) (E:n≤4096):
 Calls prog 115 #[.slice A n c,.string s] w (zZO s.data.toList xs w):=by
 have q:=zA o;have D:=zA p;clear o p;go_enter func115,ntmps115;go_wp2_with fail
 go_loop [8] (fun i=>∃k:Nat,k≤n∧i=.int .i64 k∧Hid (s.data.toList∉xs.take k)) (fun i=>n - (intOf i).toNat)
 case atStart=>exact⟨0,yAE _,rfl,by simp[Hid]⟩
 case round=>
  obtain⟨k,hk,rfl,j⟩:=hrel
  by_cases r:k < n
  · have g:k < xs.length:=by rw[q.out];exact r
    obtain⟨b,off,rfl,_,e⟩:=D.out.spotR jo;have f:=e k (.string ⟨xs[k].toArray⟩) (by simp[zLr,yAB g]);have t:=zA (show xs[k]∈xs from List.getElem_mem g);have u:=zA (show xs.take (k+1)=xs.take k++[xs[k]]from yAK g);obtain⟨x,l⟩:=jx (xs[k]);rw[l]at f t u;clear e l g
    by_cases d:x=s.data.toList
    · have v:(⟨x.toArray⟩:ByteArray)=s:=by rw[d]
      have m:=zA (show decide (s.data.toList∈xs)=true from decide_eq_true (by rw[←d];exact t.out));rw[v]at f;clear d v;go_wp2_with fail
      (try rw[Exit.noGoto_ret])
      go_ret;exact⟨_,rfl,rfl,by rw[m.out];exact decide_eq_true jo,by omega,by omega⟩
    · have e1:((⟨x.toArray⟩:ByteArray).toList==s.toList)=false:=by
       rw[yA,ByteArray.toList_eq,ByteArray.toList_eq];exact d
      have e2:(s.toList==(⟨x.toArray⟩:ByteArray).toList)=false:=by
       rw[yA,ByteArray.toList_eq,ByteArray.toList_eq];exact fun h=>d h.symm
      have z:=zA (show s.data.toList∉xs.take (k+1) by
       rw[u.out,List.mem_append,List.mem_singleton];rintro(h | h)
       · exact j.out h
       · exact d h.symm)
      obtain⟨y,C⟩:∃y:ByteArray,⟨x.toArray⟩=y:=⟨_,rfl⟩;rw[C]at f e1 e2;clear d C;go_wp2_with fail;go_round
      case rel=>exact⟨k+1,by omega,by go_num,z.out⟩
      case measure=>simp[intOf];omega
  · have m:=zA (show decide (s.data.toList∈xs)=false from yAI (by
     have:=j.out;rwa [List.take_of_length_le (by rw[q.out];omega)]at this))
    go_wp2_with fail;go_ret;exact⟨_,rfl,rfl,by rw[m.out];rfl,by omega,by omega⟩
theorem zFm (s:ByteArray) (d:xs.length=n) (b:Reads w B 1 A n (zLr xs)) (g:n≤4096) (f:decide (s.data.toList∈xs)=q):
 Calls prog 77 #[.slice A n c,.string s] w fun e w'=>e=.returned (.bool q)∧w=w':=by
 have H:=zA (fun w (b:Reads w B 1 A n (zLr xs))=>zPt (c:=c) s d b g);have j:=zA b;have k:=zA f;clear d b f;go_enter func77,ntmps77;go_wp2_with (go_at_call 115;refine(H.out w j.out).mono ?_;rintro e w' ⟨r,rfl,rfl,l,m,o⟩);go_ret;exact⟨zJ (by rw[←k.out,←l]),rfl⟩
def zYx (w:World) (l:List (List UInt8)) (e:Ending) (w':World):Prop:=∃ad c,e=.returned (.slice (some ad) l.length c)∧Reads w' w'.heap.size 1 (some ad) l.length (zLr l)∧Below w.heap.size w w'
theorem zGl (w:World) (l:List (List UInt8)) (T:TypeId) (n m:Nat) (h1:l.length=n):zYx w l (.returned (.slice (some ⟨w.heap.size,0,none⟩) n m)) (w.alloc (.cells (zLr l).toArray T)):=by
 subst h1;have h:=zJa w (zLr l) T;rw[zSn]at h;exact⟨_,_,rfl,h.more js,ja⟩
theorem zPu (k:Int) (h:k=43∨k=44∨k=45∨k=46∨k=47∨k=49) (w:World):Calls prog 76 #[.int .i64 k] w (zYx w (zNp k)):=by
 rcases h with rfl | rfl | rfl | rfl | rfl | rfl
 all_goals
  go_enter func76,ntmps76;go_wp2_with fail;go_ret
  first | exact zGl w zHN _ _ _ rfl | exact zGl w zDT _ _ _ rfl | exact zGl w zWe _ _ _ rfl | exact zGl w zUn _ _ _ rfl | exact zGl w zJ1 _ _ _ rfl
theorem zLs (k:Int) (h:∀j∈([43,44,45,46,47,49]:List Int),k≠j) (w:World):Calls prog 76 #[.int .i64 k] w fun e w'=>e=.returned (.slice none 0 0)∧w=w':=by
 have b:(k==43)=false:=yA.2 (h 43 jd);have c:(k==44)=false:=yA.2 (h 44 jd);have d:(k==45)=false:=yA.2 (h 45 jd);have f:(k==46)=false:=yA.2 (h 46 jd);have g:(k==47)=false:=yA.2 (h 47 jd);have l:(k==49)=false:=yA.2 (h 49 jd);clear h;go_enter func76,ntmps76;go_wp2_with fail;go_ret;exact⟨rfl,rfl⟩
theorem zIJ {b:ByteArray} (h:b.data.toList=[]):b=⟨#[]⟩:=by
 cases b with
 | mk d=>congr 1;exact Array.toList_eq_nil_iff.1 h
theorem zM8 {b:ByteArray} (h:b.data.toList≠[]):b.toList≠[]∧(b.toList==[])=false∧b.toList.isEmpty=false:=by
 have h1:b.toList≠[]:=by rw[ByteArray.toList_eq];exact h
 exact⟨h1,yA.2 h1,by rw[List.isEmpty_eq_false_iff];exact h1⟩
theorem zFA {o:Obj} (h:Below (w.alloc o).heap.size (w.alloc o) w'):Below w.heap.size w w':=(ja).trans (h.mono js)
def NmP (q:Bool) (w:World) (e:Ending) (w':World):Prop:=e=.returned (.bool q)∧Below w.heap.size w w'
theorem zVa (k:Int) (h:k=7∨k=18∨k=19∨k=20∨k=33) (b:ByteArray) (vs d vk:Value) (nk nn:Int) (f:Bool) (w:World) (g:b.size≤8192) (c:zBn b.data.toList=q):Calls prog 38 #[.agg #[.int .i64 k,.string b,vs,.int .i64 nk,.int .i64 nn,.bool f,d,vk]] w (NmP q w):=by
 have j:=zA c;clear c;rcases h with rfl | rfl | rfl | rfl | rfl
 all_goals
  go_enter func38,ntmps38;go_wp2_with (go_at_call 74;refine(zJe b _ g j.out).mono ?_;rintro e w' ⟨rfl,rfl⟩);go_ret;exact⟨rfl,by go_grown⟩
theorem zVb (k:Int) (h:k=12∨k=13∨k=17∨k=41) (b:ByteArray) (vs e vk:Value) (nk nn:Int) (f:Bool) (w:World) (g:b.size≤8192) (c:b.data.toList=[]) (d:q=true):Calls prog 38 #[.agg #[.int .i64 k,.string b,vs,.int .i64 nk,.int .i64 nn,.bool f,e,vk]] w (NmP q w):=by
 obtain rfl:=zIJ c;subst d;clear c;rcases h with rfl | rfl | rfl | rfl
 all_goals
  go_enter func38,ntmps38;go_wp2_with fail;go_ret;exact⟨rfl,by go_grown⟩
theorem zVc (k:Int) (h:k=12∨k=13∨k=17∨k=41) (b:ByteArray) (vs f vk:Value) (nk nn:Int) (g:Bool) (w:World) (j:b.size≤8192) (c:b.data.toList≠[]) (d:zBn b.data.toList=q):Calls prog 38 #[.agg #[.int .i64 k,.string b,vs,.int .i64 nk,.int .i64 nn,.bool g,f,vk]] w (NmP q w):=by
 have l:=zA d;obtain⟨f1,m,f3⟩:=zM8 c;clear d c f1;rcases h with rfl | rfl | rfl | rfl
 all_goals
  go_enter func38,ntmps38;go_wp2_with (go_at_call 74;refine(zJe b _ j l.out).mono ?_;rintro e w' ⟨rfl,rfl⟩);go_ret;exact⟨rfl,by go_grown⟩
theorem zSo (b:ByteArray) (vs d vk:Value) (nk nn:Int) (f:Bool) (w:World) (g:b.size≤8192) (c:zF9 b.data.toList=q):Calls prog 38 #[.agg #[.int .i64 52,.string b,vs,.int .i64 nk,.int .i64 nn,.bool f,d,vk]] w (NmP q w):=by
 have j:=zA c;clear c;go_enter func38,ntmps38;go_wp2_with (go_at_call 75;refine(zGk b _ g j.out).mono ?_;rintro e w' ⟨rfl,rfl⟩);go_ret;exact⟨rfl,by go_grown⟩
theorem zVd (k:Int) (h:k=43∨k=44∨k=45∨k=46∨k=47∨k=49) (b:ByteArray) (vs j vk:Value) (nk nn:Int) (l:Bool) (w:World) (_b:b.size≤8192) (e:decide (b.data.toList∈zNp k)=q):Calls prog 38 #[.agg #[.int .i64 k,.string b,vs,.int .i64 nk,.int .i64 nn,.bool l,j,vk]] w (NmP q w):=by
 have m:=zA e;clear e;have o:=fun(w:World) (f:Addr) (n c:Nat)=>run_neq_slice_nil_any (P:=prog) w 107 9 (some f) n c 0 0 underlying107;rcases h with rfl | rfl | rfl | rfl | rfl | rfl
 all_goals
  go_enter func38,ntmps38;go_wp2_with (first | (go_at_call 76;refine(zPu _ jo _).mono ?_;rintro e1 w1 ⟨f,c1,rfl,g,d⟩;have r:=d.cell (p:=⟨w.heap.size,1,none⟩) js) | (go_at_call 77;refine(zFm b (n:=(zNp _).length) rfl g jd m.out).mono ?_;rintro e2 w2 ⟨rfl,rfl⟩));go_ret;exact⟨rfl,zFA d⟩
theorem zM9 (k:Int) (h:∀j∈([7,12,13,17,18,19,20,33,41,43,44,45,46,47,49,52]:List Int),k≠j) (b:ByteArray) (vs e vk:Value) (nk nn:Int) (f:Bool) (w:World) (_b:b.size≤8192) (c:b.data.toList=[]) (d:q=true):Calls prog 38 #[.agg #[.int .i64 k,.string b,vs,.int .i64 nk,.int .i64 nn,.bool f,e,vk]] w (NmP q w):=by
 obtain rfl:=zIJ c;subst d;clear c;have e7:(k==7)=false:=yA.2 (h 7 jd);have m:(k==12)=false:=yA.2 (h 12 jd);have o:(k==13)=false:=yA.2 (h 13 jd);have p:(k==17)=false:=yA.2 (h 17 jd);have r:(k==18)=false:=yA.2 (h 18 jd);have s:(k==19)=false:=yA.2 (h 19 jd);have t:(k==20)=false:=yA.2 (h 20 jd);have u:(k==33)=false:=yA.2 (h 33 jd);have v:(k==41)=false:=yA.2 (h 41 jd);have y:(k==43)=false:=yA.2 (h 43 jd);have z:(k==44)=false:=yA.2 (h 44 jd);have A:(k==45)=false:=yA.2 (h 45 jd);have B:(k==46)=false:=yA.2 (h 46 jd);have C:(k==47)=false:=yA.2 (h 47 jd);have D:(k==49)=false:=yA.2 (h 49 jd);have E:(k==52)=false:=yA.2 (h 52 jd);have g:=zA (fun w=>zLs k (fun j l=>h j (by simp only[List.mem_cons,List.mem_nil_iff,or_false]at l⊢;omega)) w);have F:=fun(w:World)=>run_neq_slice_nil_any (P:=prog) w 107 9 none 0 0 0 0 underlying107;clear h;go_enter func38,ntmps38;go_wp2_with (go_at_call 76;refine(g.out _).mono ?_;rintro e1 w1 ⟨rfl,rfl⟩);go_ret;exact⟨rfl,by go_grown⟩
theorem zNA (k:Int) (h:∀j∈([7,12,13,17,18,19,20,33,41,43,44,45,46,47,49,52]:List Int),k≠j) (b:ByteArray) (vs e vk:Value) (nk nn:Int) (f:Bool) (w:World) (_b:b.size≤8192) (c:b.data.toList≠[]) (d:q=false):Calls prog 38 #[.agg #[.int .i64 k,.string b,vs,.int .i64 nk,.int .i64 nn,.bool f,e,vk]] w (NmP q w):=by
 obtain⟨f1,G,f3⟩:=zM8 c;subst d;clear c f1;have e7:(k==7)=false:=yA.2 (h 7 jd);have m:(k==12)=false:=yA.2 (h 12 jd);have o:(k==13)=false:=yA.2 (h 13 jd);have p:(k==17)=false:=yA.2 (h 17 jd);have r:(k==18)=false:=yA.2 (h 18 jd);have s:(k==19)=false:=yA.2 (h 19 jd);have t:(k==20)=false:=yA.2 (h 20 jd);have u:(k==33)=false:=yA.2 (h 33 jd);have v:(k==41)=false:=yA.2 (h 41 jd);have y:(k==43)=false:=yA.2 (h 43 jd);have z:(k==44)=false:=yA.2 (h 44 jd);have A:(k==45)=false:=yA.2 (h 45 jd);have B:(k==46)=false:=yA.2 (h 46 jd);have C:(k==47)=false:=yA.2 (h 47 jd);have D:(k==49)=false:=yA.2 (h 49 jd);have E:(k==52)=false:=yA.2 (h 52 jd);have g:=zA (fun w=>zLs k (fun j l=>h j (by simp only[List.mem_cons,List.mem_nil_iff,or_false]at l⊢;omega)) w);have F:=fun(w:World)=>run_neq_slice_nil_any (P:=prog) w 107 9 none 0 0 0 0 underlying107;clear h;go_enter func38,ntmps38;go_wp2_with (go_at_call 76;refine(g.out _).mono ?_;rintro e1 w1 ⟨rfl,rfl⟩);go_ret;exact⟨rfl,by go_grown⟩
theorem zPv (k:Int) (b:ByteArray) (vs d vk:Value) (nk nn:Int) (f:Bool) (w:World) (l:b.size≤8192) (g:zCv k b.data.toList=q):Calls prog 38 #[.agg #[.int .i64 k,.string b,vs,.int .i64 nk,.int .i64 nn,.bool f,d,vk]] w (NmP q w):=by
 by_cases p:k=7∨k=18∨k=19∨k=20∨k=33
 · exact zVa k p b vs d vk nk nn f w l (by rw[←g];rcases p with rfl | rfl | rfl | rfl | rfl<;>rfl)
 by_cases m:k=12∨k=13∨k=17∨k=41
 · by_cases c:b.data.toList=[]
   · exact zVb k m b vs d vk nk nn f w l c (by rw[←g,c];rcases m with rfl | rfl | rfl | rfl<;>rfl)
   · exact zVc k m b vs d vk nk nn f w l c (by rw[←g];have e:=yAI c;rcases m with rfl | rfl | rfl | rfl<;>(show _=(decide (b.data.toList=[]) || zBn b.data.toList);rw[e];rfl))
 by_cases o:k=43∨k=44∨k=45∨k=46∨k=47∨k=49
 · exact zVd k o b vs d vk nk nn f w l (by rw[←g];rcases o with rfl | rfl | rfl | rfl | rfl | rfl<;>rfl)
 by_cases s:k=52
 · subst s;exact zSo b vs d vk nk nn f w l g
 have r:∀j∈([7,12,13,17,18,19,20,33,41,43,44,45,46,47,49,52]:List Int),k≠j:=fun j t=>by simp only[List.mem_cons,List.mem_nil_iff,or_false]at t;omega
 have u:zCv k b.data.toList=decide (b.data.toList=[]):=by
  have o:zNp k=[]:=by unfold zNp;rw[jn,jn,jn,jn,jn]
  unfold zCv;rw[jn,jn,jn,o,if_neg js]
 rw[u]at g
 by_cases c:b.data.toList=[]
 · exact zM9 k r b vs d vk nk nn f w l c (by rw[←g,decide_eq_true c])
 · exact zNA k r b vs d vk nk nn f w l c (by rw[←g,yAI c])
def BmP (q:Bool) (w:World) (e:Ending) (w':World):Prop:=e=.returned (.bool q)∧Below w.heap.size w w'
theorem zBO (h:n≤4096):¬(4096:Int) < (n:Int)∧decide ((4096:Int) < (n:Int))=false:=⟨by omega,yAI jo⟩
theorem zKd (h:0 < n):(0:Int) < (n:Int)∧decide ((0:Int) < (n:Int))=true∧decide (0 < n)=true:=⟨by omega,decide_eq_true jo,decide_eq_true h⟩
theorem zSp {x:Int} (h:x≠0):(x==0)=false∧(x !=0)=true:=⟨yA.2 h,bne_iff_ne.2 h⟩
def zBP (k:Int) (nb:ByteArray) (As Am:Option Addr) (cs cm:Nat) (vk:Value) (ls:Nat) (nk nn:Int) (ng:Bool) (lm:Nat) (w:World) (q:Bool):Prop:=Calls prog 26 #[.agg #[.int .i64 k,.string nb,.slice As ls cs,.int .i64 nk,.int .i64 nn,.bool ng,.slice Am lm cm,vk]] w (BmP q w)
theorem zSq (b:Bool) (A:Option Addr) (c:Nat) (w:World):Calls prog 37 #[.agg #[.bool b,.slice A 0 c]] w (BmP (!b) w):=by
 cases b
 all_goals
  go_enter func37,ntmps37;go_wp2_with fail;go_ret;exact⟨rfl,by go_grown⟩
theorem zPw (b:Bool) (A:Option Addr) (n c:Nat) (w:World) (h:8 < n):Calls prog 37 #[.agg #[.bool b,.slice A n c]] w (BmP false w):=by
 have e1:¬(n:Int)≤8:=by omega
 have e2:decide ((n:Int)≤8)=false:=yAI e1;go_enter func37,ntmps37;go_wp2_with fail;go_ret;exact⟨rfl,by go_grown⟩
theorem zPx (f:Bool) (b o n c B x:Nat) (w:World) (h1:n+1≤8) (hb:b < B) (hB:B≤w.heap.size) (g:w.cell? ⟨b,o+n,none⟩=some (.int .u32 (x:Int))) (p:x < 4294967296) (j:(!(x==0))=q):Calls prog 37 #[.agg #[.bool f,.slice (some ⟨b,o,none⟩) (n+1) c]] w (BmP q w):=by
 have e1:(n:Int)+1≤8:=by omega
 have e2:decide ((n:Int)+1≤8)=true:=decide_eq_true e1;have e3:((n:Int)+1==0)=false:=yA.2 jo;have e4:decide ((0:Int) < (n:Int)+1)=true:=decide_eq_true jo;have d:=World.cell?_alloc_lt w (.cells #[.bool f,.slice (some ⟨b,o,none⟩) (n+1) c] 40) ⟨b,o+n,none⟩ (by show b < _;omega);rw[g]at d;have k:=zA j;clear j g
 by_cases e:x=0
 · subst e;have m:(w.alloc (.cells #[.bool f,.slice (some ⟨b,o,none⟩) (n+1) c] 40)).cell? ⟨b,o+n,none⟩=some (.int .u32 0):=d;clear d;go_enter func37,ntmps37;go_wp2_with fail;go_ret;exact⟨zJ (by rw[←k.out];rfl),by go_grown⟩
 · have e5:((x:Int) !=0)=true:=bne_iff_ne.2 jo;have e6:((x:Int)==0)=false:=yA.2 jo;have l:=zA e;clear e;go_enter func37,ntmps37;go_wp2_with fail;go_ret;exact⟨zJ (by rw[←k.out];have:=l.out;simp;omega),by go_grown⟩
theorem zIK {xs:List Nat} (e:Bool) (g:xs.length=n) (j:Reads w B 1 A n (zMG xs)) (hB:B≤w.heap.size) (k:∀y∈xs,y < 4294967296) (d:zBN e xs=q):
 Calls prog 37 #[.agg #[.bool e,.slice A n c]] w (BmP q w):=by
 unfold zBN at d;rw[g]at d
 by_cases l:8 < n
 · rw[yAI jo,Bool.false_and]at d;subst d;exact zPw e A n c w l
 · rw[decide_eq_true jo,Bool.true_and]at d
   by_cases p:n=0
   · subst p;have r:xs=[]:=List.length_eq_zero_iff.1 g;subst r;subst d;exact zSq e A c w
   · obtain⟨m,rfl⟩:∃m,n=m+1:=⟨n - 1,by omega⟩;obtain⟨b,o,rfl,hb,s⟩:=j.spotR jo;have f:m < xs.length:=by omega
     have hg:xs.getLast? =some xs[m]:=by rw[List.getLast?_eq_getElem?,show xs.length - 1=m by omega,yAB f]
     rw[hg]at d;exact zPx e b o m c B xs[m] w jo hb hB (s m _ (by simp[zMG,yAB f])) (k _ (List.getElem_mem f)) d
theorem zKe (k1:Int) (b:ByteArray) (As Am:Option Addr) (cs cm:Nat) (vk:Value) (d:Nat) (nk:Int) (nn:Int) (e:Bool) (f:Nat) (w:World) (hs:4096 < b.size):zBP (k1) b As Am cs cm vk d (nk) (nn) e f w false:=by
 unfold zBP;have c:(4096:Int) < (b.size:Int):=by omega
 have g:decide ((4096:Int) < (b.size:Int))=true:=decide_eq_true c;go_enter func26,ntmps26;go_wp2_with fail;go_ret;exact⟨rfl,by go_grown⟩
theorem zPy (b:ByteArray) (As Am:Option Addr) (cs cm:Nat) (vk:Value) (c:Nat) (nk:Int) (nn:Int) (d:Bool) (e:Nat) (w:World) (hs:b.size≤4096) (f:nk≠0):zBP (32) b As Am cs cm vk c (nk) (nn) d e w false:=by
 unfold zBP;obtain⟨g,j⟩:=zBO hs;obtain⟨k,l⟩:=zSp f;go_enter func26,ntmps26;go_wp2_with fail;go_ret;exact⟨rfl,by go_grown⟩
theorem zPz (b:ByteArray) (As Am:Option Addr) (cs cm:Nat) (vk:Value) (c:Nat) (nn:Int) (d:Bool) (e:Nat) (w:World) (hs:b.size≤4096) (f:nn≠0):zBP (32) b As Am cs cm vk c (0) (nn) d e w false:=by
 unfold zBP;obtain⟨g,j⟩:=zBO hs;obtain⟨k,l⟩:=zSp f;go_enter func26,ntmps26;go_wp2_with fail;go_ret;exact⟨rfl,by go_grown⟩
theorem zSr (b:ByteArray) (As Am:Option Addr) (cs cm:Nat) (vk:Value) (c:Nat) (d:Nat) (w:World) (hs:b.size≤4096):zBP (32) b As Am cs cm vk c (0) (0) true d w false:=by
 unfold zBP;obtain⟨e,f⟩:=zBO hs;go_enter func26,ntmps26;go_wp2_with fail;go_ret;exact⟨rfl,by go_grown⟩
theorem zSs (b:ByteArray) (As Am:Option Addr) (cs cm:Nat) (vk:Value) (d:Nat) (c:Nat) (w:World) (hs:b.size≤4096) (e:0 < c):zBP (32) b As Am cs cm vk d (0) (0) false c w false:=by
 unfold zBP;obtain⟨f,g⟩:=zBO hs;obtain⟨j,k,l⟩:=zKd e;go_enter func26,ntmps26;go_wp2_with fail;go_ret;exact⟨rfl,by go_grown⟩
theorem zP0 (c:ByteArray) (As Am:Option Addr) (cs cm:Nat) (vk:Value) (d:Nat) (w:World) (hs:c.size≤4096) (b:c.data.toList≠[]):zBP (32) c As Am cs cm vk d (0) (0) false 0 w false:=by
 unfold zBP;obtain⟨e,f⟩:=zBO hs;obtain⟨f1,g,f3⟩:=zM8 b;clear b f1;go_enter func26,ntmps26;go_wp2_with fail;go_ret;exact⟨rfl,by go_grown⟩
theorem zSt (As Am:Option Addr) (cs cm:Nat) (vk:Value) (b:Nat) (w:World) (d:b≤4096):zBP (32) ⟨#[]⟩ As Am cs cm vk b (0) (0) false 0 w true:=by
 unfold zBP;have c:(b:Int)≤4096:=by omega
 have e:decide ((b:Int)≤4096)=true:=decide_eq_true c;go_enter func26,ntmps26;go_wp2_with fail;go_ret;exact⟨rfl,by go_grown⟩
theorem zVe (As Am:Option Addr) (cs cm:Nat) (vk:Value) (b:Nat) (w:World) (d:4096 < b):zBP (32) ⟨#[]⟩ As Am cs cm vk b (0) (0) false 0 w false:=by
 unfold zBP;have c:¬(b:Int)≤4096:=by omega
 have e:decide ((b:Int)≤4096)=false:=yAI c;go_enter func26,ntmps26;go_wp2_with fail;go_ret;exact⟨rfl,by go_grown⟩
theorem zP1 (b:ByteArray) (As Am:Option Addr) (cs cm:Nat) (vk:Value) (c:Nat) (nk:Int) (nn:Int) (d:Bool) (e:Nat) (w:World) (hs:b.size≤4096) (f:nk≠0):zBP (40) b As Am cs cm vk c (nk) (nn) d e w false:=by
 unfold zBP;obtain⟨g,j⟩:=zBO hs;obtain⟨k,l⟩:=zSp f;go_enter func26,ntmps26;go_wp2_with fail;go_ret;exact⟨rfl,by go_grown⟩
theorem zP2 (b:ByteArray) (As Am:Option Addr) (cs cm:Nat) (vk:Value) (c:Nat) (nn:Int) (d:Bool) (e:Nat) (w:World) (hs:b.size≤4096) (f:nn≠0):zBP (40) b As Am cs cm vk c (0) (nn) d e w false:=by
 unfold zBP;obtain⟨g,j⟩:=zBO hs;obtain⟨k,l⟩:=zSp f;go_enter func26,ntmps26;go_wp2_with fail;go_ret;exact⟨rfl,by go_grown⟩
theorem zSu (b:ByteArray) (As Am:Option Addr) (cs cm:Nat) (vk:Value) (c:Nat) (d:Nat) (w:World) (hs:b.size≤4096):zBP (40) b As Am cs cm vk c (0) (0) true d w false:=by
 unfold zBP;obtain⟨e,f⟩:=zBO hs;go_enter func26,ntmps26;go_wp2_with fail;go_ret;exact⟨rfl,by go_grown⟩
theorem zSv (b:ByteArray) (As Am:Option Addr) (cs cm:Nat) (vk:Value) (d:Nat) (c:Nat) (w:World) (hs:b.size≤4096) (e:0 < c):zBP (40) b As Am cs cm vk d (0) (0) false c w false:=by
 unfold zBP;obtain⟨f,g⟩:=zBO hs;obtain⟨j,k,l⟩:=zKd e;go_enter func26,ntmps26;go_wp2_with fail;go_ret;exact⟨rfl,by go_grown⟩
theorem zP3 (c:ByteArray) (As Am:Option Addr) (cs cm:Nat) (vk:Value) (d:Nat) (w:World) (hs:c.size≤4096) (b:c.data.toList≠[]):zBP (40) c As Am cs cm vk d (0) (0) false 0 w false:=by
 unfold zBP;obtain⟨e,f⟩:=zBO hs;obtain⟨f1,g,f3⟩:=zM8 b;clear b f1;go_enter func26,ntmps26;go_wp2_with fail;go_ret;exact⟨rfl,by go_grown⟩
theorem zSw (As Am:Option Addr) (cs cm:Nat) (vk:Value) (b:Nat) (w:World) (d:b≤4096):zBP (40) ⟨#[]⟩ As Am cs cm vk b (0) (0) false 0 w true:=by
 unfold zBP;have c:(b:Int)≤4096:=by omega
 have e:decide ((b:Int)≤4096)=true:=decide_eq_true c;go_enter func26,ntmps26;go_wp2_with fail;go_ret;exact⟨rfl,by go_grown⟩
theorem zVf (As Am:Option Addr) (cs cm:Nat) (vk:Value) (b:Nat) (w:World) (d:4096 < b):zBP (40) ⟨#[]⟩ As Am cs cm vk b (0) (0) false 0 w false:=by
 unfold zBP;have c:¬(b:Int)≤4096:=by omega
 have e:decide ((b:Int)≤4096)=false:=yAI c;go_enter func26,ntmps26;go_wp2_with fail;go_ret;exact⟨rfl,by go_grown⟩
theorem zSx (b:ByteArray) (As Am:Option Addr) (cs cm:Nat) (vk:Value) (c:Nat) (nk:Int) (nn:Int) (d:Bool) (e:Nat) (w:World) (hs:b.size≤4096) (f:0 < c):zBP (30) b As Am cs cm vk c (nk) (nn) d e w false:=by
 unfold zBP;obtain⟨g,j⟩:=zBO hs;obtain⟨k,l,m⟩:=zKd f;go_enter func26,ntmps26;go_wp2_with fail;go_ret;exact⟨rfl,by go_grown⟩
theorem zSy (b:ByteArray) (As Am:Option Addr) (cs cm:Nat) (vk:Value) (nk:Int) (nn:Int) (c:Nat) (w:World) (hs:b.size≤4096):zBP (30) b As Am cs cm vk 0 (nk) (nn) true c w false:=by
 unfold zBP;obtain⟨d,e⟩:=zBO hs;go_enter func26,ntmps26;go_wp2_with fail;go_ret;exact⟨rfl,by go_grown⟩
theorem zSz (b:ByteArray) (As Am:Option Addr) (cs cm:Nat) (vk:Value) (nk:Int) (nn:Int) (c:Nat) (w:World) (hs:b.size≤4096) (d:0 < c):zBP (30) b As Am cs cm vk 0 (nk) (nn) false c w false:=by
 unfold zBP;obtain⟨e,f⟩:=zBO hs;obtain⟨g,j,k⟩:=zKd d;go_enter func26,ntmps26;go_wp2_with fail;go_ret;exact⟨rfl,by go_grown⟩
theorem zP4 (c:ByteArray) (As Am:Option Addr) (cs cm:Nat) (vk:Value) (nk:Int) (nn:Int) (w:World) (hs:c.size≤4096) (b:c.data.toList≠[]):zBP (30) c As Am cs cm vk 0 (nk) (nn) false 0 w false:=by
 unfold zBP;obtain⟨d,e⟩:=zBO hs;obtain⟨f1,f,f3⟩:=zM8 b;clear b f1;go_enter func26,ntmps26;go_wp2_with fail;go_ret;exact⟨rfl,by go_grown⟩
theorem zP5 (As Am:Option Addr) (cs cm:Nat) (vk:Value) (nk:Int) (nn:Int) (w:World) (b:nk≠0):zBP (30) ⟨#[]⟩ As Am cs cm vk 0 (nk) (nn) false 0 w false:=by
 unfold zBP;obtain⟨c,d⟩:=zSp b;go_enter func26,ntmps26;go_wp2_with fail;go_ret;exact⟨rfl,by go_grown⟩
theorem zS0 (As Am:Option Addr) (cs cm:Nat) (vk:Value) (nn:Int) (w:World) (c:zDa 0 nn=false):zBP (30) ⟨#[]⟩ As Am cs cm vk 0 (0) (nn) false 0 w false:=by
 unfold zBP;have d:=zA (fun w=>by have:=zHx 0 nn w;rwa[c]at this);clear c;go_enter func26,ntmps26;go_wp2_with (go_at_call 36;refine(d.out _).mono ?_;rintro e1 w1 ⟨rfl,b⟩;have e:=b.cell (p:=⟨w.heap.size,4,none⟩) js);go_ret;exact⟨rfl,zFA b⟩
theorem zS1 (As Am:Option Addr) (cs cm:Nat) (vk:Value) (nn:Int) (w:World) (c:zDa 0 nn=true) (d:0≤nn):zBP (30) ⟨#[]⟩ As Am cs cm vk 0 (0) (nn) false 0 w true:=by
 unfold zBP;have e:=zA (fun w=>by have:=zHx 0 nn w;rwa[c]at this);clear c;have g:decide ((0:Int)≤nn)=true:=decide_eq_true d;go_enter func26,ntmps26;go_wp2_with (go_at_call 36;refine(e.out _).mono ?_;rintro e1 w1 ⟨rfl,b⟩;have f:=b.cell (p:=⟨w.heap.size,4,none⟩) js);go_ret;exact⟨rfl,zFA b⟩
theorem zVg (As Am:Option Addr) (cs cm:Nat) (vk:Value) (nn:Int) (w:World) (c:zDa 0 nn=true) (d:¬0≤nn):zBP (30) ⟨#[]⟩ As Am cs cm vk 0 (0) (nn) false 0 w false:=by
 unfold zBP;have e:=zA (fun w=>by have:=zHx 0 nn w;rwa[c]at this);clear c;have g:decide ((0:Int)≤nn)=false:=yAI d;go_enter func26,ntmps26;go_wp2_with (go_at_call 36;refine(e.out _).mono ?_;rintro e1 w1 ⟨rfl,b⟩;have f:=b.cell (p:=⟨w.heap.size,4,none⟩) js);go_ret;exact⟨rfl,zFA b⟩
theorem zS2 (b:ByteArray) (As Am:Option Addr) (cs cm:Nat) (vk:Value) (c:Nat) (nk:Int) (nn:Int) (d:Bool) (e:Nat) (w:World) (hs:b.size≤4096) (f:0 < c):zBP (31) b As Am cs cm vk c (nk) (nn) d e w false:=by
 unfold zBP;obtain⟨g,j⟩:=zBO hs;obtain⟨k,l,m⟩:=zKd f;go_enter func26,ntmps26;go_wp2_with fail;go_ret;exact⟨rfl,by go_grown⟩
theorem zP6 (b:ByteArray) (As Am:Option Addr) (cs cm:Nat) (vk:Value) (nk:Int) (nn:Int) (c:Bool) (d:Nat) (w:World) (hs:b.size≤4096) (e:nk≠0):zBP (31) b As Am cs cm vk 0 (nk) (nn) c d w false:=by
 unfold zBP;obtain⟨f,g⟩:=zBO hs;obtain⟨j,k⟩:=zSp e;go_enter func26,ntmps26;go_wp2_with fail;go_ret;exact⟨rfl,by go_grown⟩
theorem zP7 (b:ByteArray) (As Am:Option Addr) (cs cm:Nat) (vk:Value) (nn:Int) (c:Bool) (d:Nat) (w:World) (hs:b.size≤4096) (e:nn≠0):zBP (31) b As Am cs cm vk 0 (0) (nn) c d w false:=by
 unfold zBP;obtain⟨f,g⟩:=zBO hs;obtain⟨j,k⟩:=zSp e;go_enter func26,ntmps26;go_wp2_with fail;go_ret;exact⟨rfl,by go_grown⟩
theorem zP8 (c:ByteArray) (As Am:Option Addr) (cs cm:Nat) (vk:Value) (d:Bool) (e:Nat) (w:World) (hs:c.size≤4096) (b:c.data.toList≠[]):zBP (31) c As Am cs cm vk 0 (0) (0) d e w false:=by
 unfold zBP;obtain⟨f,g⟩:=zBO hs;obtain⟨f1,j,f3⟩:=zM8 b;clear b f1;go_enter func26,ntmps26;go_wp2_with fail;go_ret;exact⟨rfl,by go_grown⟩
theorem zGm (As Am:Option Addr) (cs cm:Nat) (vk:Value) (c:Nat) (w:World) (d:∀w1,Below w.heap.size w w1→Calls prog 37 #[.agg #[.bool false,.slice Am c cm]] w1 (BmP true w1)):zBP (31) ⟨#[]⟩ As Am cs cm vk 0 (0) (0) false c w true:=by
 unfold zBP;have e:=zA d;clear d;go_enter func26,ntmps26;go_wp2_with (go_at_call 37;refine(e.out _ (ja)).mono ?_;rintro e1 w1 ⟨rfl,b⟩;have f:=b.cell (p:=⟨w.heap.size,5,none⟩) js);go_ret;exact⟨rfl,zFA b⟩
theorem zG9 (As Am:Option Addr) (cs cm:Nat) (vk:Value) (c:Nat) (w:World) (d:∀w1,Below w.heap.size w w1→Calls prog 37 #[.agg #[.bool true,.slice Am c cm]] w1 (BmP true w1)):zBP (31) ⟨#[]⟩ As Am cs cm vk 0 (0) (0) true c w false:=by
 unfold zBP;have e:=zA d;clear d;go_enter func26,ntmps26;go_wp2_with (go_at_call 37;refine(e.out _ (ja)).mono ?_;rintro e1 w1 ⟨rfl,b⟩;have f:=b.cell (p:=⟨w.heap.size,5,none⟩) js);go_ret;exact⟨rfl,zFA b⟩
theorem zFr (As Am:Option Addr) (cs cm:Nat) (vk:Value) (c:Nat) (w:World) (d:∀w1,Below w.heap.size w w1→Calls prog 37 #[.agg #[.bool false,.slice Am c cm]] w1 (BmP false w1)):zBP (31) ⟨#[]⟩ As Am cs cm vk 0 (0) (0) false c w false:=by
 unfold zBP;have e:=zA d;clear d;go_enter func26,ntmps26;go_wp2_with (go_at_call 37;refine(e.out _ (ja)).mono ?_;rintro e1 w1 ⟨rfl,b⟩;have f:=b.cell (p:=⟨w.heap.size,5,none⟩) js);go_ret;exact⟨rfl,zFA b⟩
theorem zGn (As Am:Option Addr) (cs cm:Nat) (vk:Value) (c:Nat) (w:World) (d:∀w1,Below w.heap.size w w1→Calls prog 37 #[.agg #[.bool true,.slice Am c cm]] w1 (BmP false w1)):zBP (31) ⟨#[]⟩ As Am cs cm vk 0 (0) (0) true c w false:=by
 unfold zBP;have e:=zA d;clear d;go_enter func26,ntmps26;go_wp2_with (go_at_call 37;refine(e.out _ (ja)).mono ?_;rintro e1 w1 ⟨rfl,b⟩;have f:=b.cell (p:=⟨w.heap.size,5,none⟩) js);go_ret;exact⟨rfl,zFA b⟩
theorem zVh (k:Int) (b:ByteArray) (As Am:Option Addr) (cs cm:Nat) (vk:Value) (c:Nat) (nk:Int) (nn:Int) (d:Bool) (e:Nat) (w:World) (h:∀j∈([32,40,30,31]:List Int),k≠j) (hs:b.size≤4096) (f:0 < c):zBP (k) b As Am cs cm vk c (nk) (nn) d e w false:=by
 unfold zBP;have g:(k==32)=false:=yA.2 (h 32 jd);have l:(k==40)=false:=yA.2 (h 40 jd);have m:(k==30)=false:=yA.2 (h 30 jd);have o:(k==31)=false:=yA.2 (h 31 jd);have p:(k !=32)=true:=bne_iff_ne.2 (h 32 jd);have q:(k !=40)=true:=bne_iff_ne.2 (h 40 jd);have r:(k !=30)=true:=bne_iff_ne.2 (h 30 jd);have s:(k !=31)=true:=bne_iff_ne.2 (h 31 jd);clear h;obtain⟨t,u⟩:=zBO hs;obtain⟨v,y,z⟩:=zKd f;go_enter func26,ntmps26;go_wp2_with fail;go_ret;exact⟨rfl,by go_grown⟩
theorem zS3 (k:Int) (b:ByteArray) (As Am:Option Addr) (cs cm:Nat) (vk:Value) (nk:Int) (nn:Int) (c:Bool) (d:Nat) (w:World) (h:∀j∈([32,40,30,31]:List Int),k≠j) (hs:b.size≤4096) (e:nk≠0):zBP (k) b As Am cs cm vk 0 (nk) (nn) c d w false:=by
 unfold zBP;have f:(k==32)=false:=yA.2 (h 32 jd);have g:(k==40)=false:=yA.2 (h 40 jd);have l:(k==30)=false:=yA.2 (h 30 jd);have m:(k==31)=false:=yA.2 (h 31 jd);have o:(k !=32)=true:=bne_iff_ne.2 (h 32 jd);have p:(k !=40)=true:=bne_iff_ne.2 (h 40 jd);have q:(k !=30)=true:=bne_iff_ne.2 (h 30 jd);have r:(k !=31)=true:=bne_iff_ne.2 (h 31 jd);clear h;obtain⟨s,t⟩:=zBO hs;obtain⟨u,v⟩:=zSp e;go_enter func26,ntmps26;go_wp2_with fail;go_ret;exact⟨rfl,by go_grown⟩
theorem zS4 (k:Int) (b:ByteArray) (As Am:Option Addr) (cs cm:Nat) (vk:Value) (nn:Int) (c:Bool) (d:Nat) (w:World) (h:∀j∈([32,40,30,31]:List Int),k≠j) (hs:b.size≤4096) (e:nn≠0):zBP (k) b As Am cs cm vk 0 (0) (nn) c d w false:=by
 unfold zBP;have f:(k==32)=false:=yA.2 (h 32 jd);have g:(k==40)=false:=yA.2 (h 40 jd);have l:(k==30)=false:=yA.2 (h 30 jd);have m:(k==31)=false:=yA.2 (h 31 jd);have o:(k !=32)=true:=bne_iff_ne.2 (h 32 jd);have p:(k !=40)=true:=bne_iff_ne.2 (h 40 jd);have q:(k !=30)=true:=bne_iff_ne.2 (h 30 jd);have r:(k !=31)=true:=bne_iff_ne.2 (h 31 jd);clear h;obtain⟨s,t⟩:=zBO hs;obtain⟨u,v⟩:=zSp e;go_enter func26,ntmps26;go_wp2_with fail;go_ret;exact⟨rfl,by go_grown⟩
theorem zVi (k:Int) (b:ByteArray) (As Am:Option Addr) (cs cm:Nat) (vk:Value) (c:Nat) (w:World) (h:∀j∈([32,40,30,31]:List Int),k≠j) (hs:b.size≤4096):zBP (k) b As Am cs cm vk 0 (0) (0) true c w false:=by
 unfold zBP;have d:(k==32)=false:=yA.2 (h 32 jd);have e:(k==40)=false:=yA.2 (h 40 jd);have f:(k==30)=false:=yA.2 (h 30 jd);have g:(k==31)=false:=yA.2 (h 31 jd);have l:(k !=32)=true:=bne_iff_ne.2 (h 32 jd);have m:(k !=40)=true:=bne_iff_ne.2 (h 40 jd);have o:(k !=30)=true:=bne_iff_ne.2 (h 30 jd);have p:(k !=31)=true:=bne_iff_ne.2 (h 31 jd);clear h;obtain⟨q,r⟩:=zBO hs;go_enter func26,ntmps26;go_wp2_with fail;go_ret;exact⟨rfl,by go_grown⟩
theorem zVj (k:Int) (b:ByteArray) (As Am:Option Addr) (cs cm:Nat) (vk:Value) (c:Nat) (w:World) (h:∀j∈([32,40,30,31]:List Int),k≠j) (hs:b.size≤4096) (d:0 < c):zBP (k) b As Am cs cm vk 0 (0) (0) false c w false:=by
 unfold zBP;have e:(k==32)=false:=yA.2 (h 32 jd);have f:(k==40)=false:=yA.2 (h 40 jd);have g:(k==30)=false:=yA.2 (h 30 jd);have l:(k==31)=false:=yA.2 (h 31 jd);have m:(k !=32)=true:=bne_iff_ne.2 (h 32 jd);have o:(k !=40)=true:=bne_iff_ne.2 (h 40 jd);have p:(k !=30)=true:=bne_iff_ne.2 (h 30 jd);have q:(k !=31)=true:=bne_iff_ne.2 (h 31 jd);clear h;obtain⟨r,s⟩:=zBO hs;obtain⟨t,u,v⟩:=zKd d;go_enter func26,ntmps26;go_wp2_with fail;go_ret;exact⟨rfl,by go_grown⟩
theorem zS5 (k:Int) (b:ByteArray) (As Am:Option Addr) (cs cm:Nat) (vk:Value) (w:World) (h:∀j∈([32,40,30,31]:List Int),k≠j) (hs:b.size≤4096) (c:zCv k b.data.toList=q):zBP (k) b As Am cs cm vk 0 (0) (0) false 0 w q:=by
 unfold zBP;have f:(k==32)=false:=yA.2 (h 32 jd);have g:(k==40)=false:=yA.2 (h 40 jd);have l:(k==30)=false:=yA.2 (h 30 jd);have m:(k==31)=false:=yA.2 (h 31 jd);have o:(k !=32)=true:=bne_iff_ne.2 (h 32 jd);have p:(k !=40)=true:=bne_iff_ne.2 (h 40 jd);have r:(k !=30)=true:=bne_iff_ne.2 (h 30 jd);have s:(k !=31)=true:=bne_iff_ne.2 (h 31 jd);clear h;obtain⟨t,u⟩:=zBO hs;have e:=zA (fun w=>zPv k b (.slice As 0 cs) (.slice Am 0 cm) vk 0 0 false w jo c);clear c;go_enter func26,ntmps26;go_wp2_with (go_at_call 38;refine(e.out _).mono ?_;rintro e1 w1 ⟨rfl,d⟩);go_ret;exact⟨rfl,zFA d⟩
theorem BmP.of {p:Bool} {e:Ending} (h:p=q) (b:BmP p w e w'):BmP q w e w':=h▸b
theorem zNB {s:NdSl} (H:NdR w B x s) (hB:B≤w.heap.size) (I:zN x=q):
 Calls prog 26 #[.agg #[.int .i64 x.kind,.string ⟨x.name.toArray⟩,.slice s.As x.str.length s.cs,.int .i64 x.nk,.int .i64 x.nn,.bool x.neg,.slice s.Am x.mag.length s.cm,.slice s.Ak x.kids.length s.ck]] w (BmP q w):=by
 have p:=H.mag;have r:=H.limb;obtain⟨kind,name,str,nk,nn,neg,mag,kids⟩:=x;obtain⟨As,Am,Ak,cs,cm,ck⟩:=s;simp only at p r⊢;clear H;obtain⟨c,F⟩:∃c:ByteArray,⟨name.toArray⟩=c:=⟨_,rfl⟩;have m:c.data.toList=name:=by rw[←F]
 have L:c.size=name.length:=by rw[←m];simp
 rw[F];subst I;have k:name=[]→c=⟨#[]⟩:=fun e=>zIJ (by rw[m];exact e);have A:∀l:List UInt16,l≠[]→0 < l.length:=fun l h=>List.length_pos_iff.2 h;have t:∀l:List Nat,l≠[]→0 < l.length:=fun l h=>List.length_pos_iff.2 h
 by_cases h1:4096 < name.length
 · exact(zKe kind c As Am cs cm _ _ nk nn neg _ w jo).mono fun e w' h=>h.of (by simp[zN,h1])
 have hs:c.size≤4096:=by omega
 by_cases C:kind=32
 · subst C
   by_cases hk:nk=0
   · subst hk
     by_cases f:nn=0
     · subst f;cases neg with
       | true=>exact(zSr c As Am cs cm _ _ _ w hs).mono fun e w' h=>h.of (by simp[zN])
       | false=>
        by_cases g:mag=[]
        · subst g
          by_cases b:name=[]
          · obtain rfl:=k b
            by_cases o:str.length≤4096
            · exact(zSt As Am cs cm _ _ w o).mono fun e w' h=>h.of (by simp[zN,b,o])
            · exact(zVe As Am cs cm _ _ w jo).mono fun e w' h=>h.of (by simp[zN,b,o])
          · exact(zP0 c As Am cs cm _ _ w hs (by rw[m];exact b)).mono fun e w' h=>h.of (by simp[zN,b])
        · exact(zSs c As Am cs cm _ _ _ w hs (t _ g)).mono fun e w' h=>h.of (by simp[zN,g])
     · exact(zPz c As Am cs cm _ _ nn neg _ w hs f).mono fun e w' h=>h.of (by simp[zN,f])
   · exact(zPy c As Am cs cm _ _ nk nn neg _ w hs hk).mono fun e w' h=>h.of (by simp[zN,hk])
 by_cases D:kind=40
 · subst D
   by_cases hk:nk=0
   · subst hk
     by_cases f:nn=0
     · subst f;cases neg with
       | true=>exact(zSu c As Am cs cm _ _ _ w hs).mono fun e w' h=>h.of (by simp[zN])
       | false=>
        by_cases g:mag=[]
        · subst g
          by_cases b:name=[]
          · obtain rfl:=k b
            by_cases o:str.length≤4096
            · exact(zSw As Am cs cm _ _ w o).mono fun e w' h=>h.of (by simp[zN,b,o])
            · exact(zVf As Am cs cm _ _ w jo).mono fun e w' h=>h.of (by simp[zN,b,o])
          · exact(zP3 c As Am cs cm _ _ w hs (by rw[m];exact b)).mono fun e w' h=>h.of (by simp[zN,b])
        · exact(zSv c As Am cs cm _ _ _ w hs (t _ g)).mono fun e w' h=>h.of (by simp[zN,g])
     · exact(zP2 c As Am cs cm _ _ nn neg _ w hs f).mono fun e w' h=>h.of (by simp[zN,f])
   · exact(zP1 c As Am cs cm _ _ nk nn neg _ w hs hk).mono fun e w' h=>h.of (by simp[zN,hk])
 by_cases u:kind=30
 · subst u
   by_cases d:str=[]
   · subst d;cases neg with
     | true=>exact(zSy c As Am cs cm _ nk nn _ w hs).mono fun e w' h=>h.of (by simp[zN])
     | false=>
      by_cases g:mag=[]
      · subst g
        by_cases b:name=[]
        · obtain rfl:=k b
          by_cases hk:nk=0
          · subst hk;cases hmay:zDa 0 nn with
            | false=>exact(zS0 As Am cs cm _ nn w hmay).mono fun e w' h=>h.of (by simp[zN,hmay])
            | true=>
             by_cases E:0≤nn
             · exact(zS1 As Am cs cm _ nn w hmay E).mono fun e w' h=>h.of (by simp[zN,hmay,b,E])
             · exact(zVg As Am cs cm _ nn w hmay E).mono fun e w' h=>h.of (by simp[zN,E])
          · exact(zP5 As Am cs cm _ nk nn w hk).mono fun e w' h=>h.of (by simp[zN,hk])
        · exact(zP4 c As Am cs cm _ nk nn w hs (by rw[m];exact b)).mono fun e w' h=>h.of (by simp[zN,b])
      · exact(zSz c As Am cs cm _ nk nn _ w hs (t _ g)).mono fun e w' h=>h.of (by simp[zN,g])
   · exact(zSx c As Am cs cm _ _ nk nn neg _ w hs (A _ d)).mono fun e w' h=>h.of (by simp[zN,d])
 by_cases v:kind=31
 · subst v
   by_cases d:str=[]
   · subst d
     by_cases hk:nk=0
     · subst hk
       by_cases f:nn=0
       · subst f
         by_cases b:name=[]
         · obtain rfl:=k b;have y:∀q,zBN neg mag=q→∀w1,Below w.heap.size w w1→Calls prog 37 #[.agg #[.bool neg,.slice Am mag.length cm]] w1 (BmP q w1):=fun q I w1 G=>zIK neg rfl ((p.below (G.mono hB))) (yAD hB G.size) r I;cases neg with
           | false=>
            cases hmay:zBN false mag with
            | true=>exact(zGm As Am cs cm _ _ w (y _ hmay)).mono fun e w' h=>h.of (by simp[zN,hmay,b])
            | false=>exact(zFr As Am cs cm _ _ w (y _ hmay)).mono fun e w' h=>h.of (by simp[zN,hmay])
           | true=>
            cases hmay:zBN true mag with
            | true=>exact(zG9 As Am cs cm _ _ w (y _ hmay)).mono fun e w' h=>h.of (by simp[zN])
            | false=>exact(zGn As Am cs cm _ _ w (y _ hmay)).mono fun e w' h=>h.of (by simp[zN])
         · exact(zP8 c As Am cs cm _ neg _ w hs (by rw[m];exact b)).mono fun e w' h=>h.of (by simp[zN,b])
       · exact(zP7 c As Am cs cm _ nn neg _ w hs f).mono fun e w' h=>h.of (by simp[zN,f])
     · exact(zP6 c As Am cs cm _ nk nn neg _ w hs hk).mono fun e w' h=>h.of (by simp[zN,hk])
   · exact(zS2 c As Am cs cm _ _ nk nn neg _ w hs (A _ d)).mono fun e w' h=>h.of (by simp[zN,d])
 · have z:∀j∈([32,40,30,31]:List Int),kind≠j:=fun j J=>by simp only[List.mem_cons,List.mem_nil_iff,or_false]at J;omega
   by_cases d:str=[]
   · subst d
     by_cases hk:nk=0
     · subst hk
       by_cases f:nn=0
       · subst f;cases neg with
         | true=>exact(zVi kind c As Am cs cm _ _ w z hs).mono fun e w' h=>h.of (by simp[zN,v])
         | false=>
          by_cases g:mag=[]
          · subst g;exact(zS5 kind c As Am cs cm _ w z hs rfl).mono fun e w' h=>h.of (by simp[zN,v,C,D,u,h1,m])
          · exact(zVj kind c As Am cs cm _ _ w z hs (t _ g)).mono fun e w' h=>h.of (by simp[zN,g,v])
       · exact(zS4 kind c As Am cs cm _ nn neg _ w z hs f).mono fun e w' h=>h.of (by simp[zN,f,u])
     · exact(zS3 kind c As Am cs cm _ nk nn neg _ w z hs hk).mono fun e w' h=>h.of (by simp[zN,hk,u])
   · exact(zVh kind c As Am cs cm _ _ nk nn neg _ w z hs (A _ d)).mono fun e w' h=>h.of (by simp[zN,d,C,D])
theorem zCS (h:Below W.drew.heap.size W.drew w):Below W.heap.size W w:=⟨h.os,h.tape,h.output,h.size,h.block⟩
theorem zJf {l:List Nat} (h:l.all (fun s=>decide (s≤n))=true):∀s∈l,s≤n:=fun s hs=>by simpa using List.all_eq_true.1 h s hs
theorem zS6 (k:Int) (n:Nat):(∀s∈(zy k n).1,s≤13)∧(zy k n).2≤13:=by
 have f:∀{p:Prop} [Decidable p] {a b:List Nat×Nat},((∀s∈a.1,s≤13)∧a.2≤13)→((∀s∈b.1,s≤13)∧b.2≤13)→((∀s∈(if p then a else b).1,s≤13)∧(if p then a else b).2≤13):=fun h1 c=>by split<;>assumption
 have g:∀(l:List Nat) (r:Nat),l.all (fun s=>decide (s≤13))=true→r≤13→((∀s∈((l,r):List Nat×Nat).1,s≤13)∧((l,r):List Nat×Nat).2≤13):=fun l r h1 c=>⟨zJf h1,c⟩;have t:∀(l:List Nat) (m:Nat),l.all (fun s=>decide (s≤13))=true→((∀s∈((l.take m,0):List Nat×Nat).1,s≤13)∧((l.take m,0):List Nat×Nat).2≤13):=fun l m h=>⟨fun s hs=>zJf h s (List.mem_of_mem_take hs),by show 0≤13;omega⟩;have p:∀m last,last≤13→((∀s∈((zBB m last,0):List Nat×Nat).1,s≤13)∧((zBB m last,0):List Nat×Nat).2≤13):=fun m last h=>⟨fun s hs=>by
  unfold zBB at hs;rcases List.mem_append.1 hs with h1 | h1
  · have:=List.eq_of_mem_replicate h1;omega
  · have:=List.mem_singleton.1 h1;omega,by show 0≤13;omega⟩
 unfold zy
 repeat' refine f ?_ ?_
 all_goals first | exact g _ _ jd jd | exact t _ _ jd | exact p _ _ jd
theorem zGo (ts:List Nd) (b:List Nat) (r j:Nat) (y:Int) (ks:List Int):zBo ts (b.drop j) r (y::ks)=(zAj (b.getD j r) (atN ts y).kind&&zBo ts (b.drop (j+1)) r ks):=by
 by_cases h:j < b.length
 · rw[yAH h,yAG,yAB h];rfl
 · rw[List.drop_of_length_le jo,List.drop_of_length_le jo,yAG,List.getElem?_eq_none jo];rfl
theorem zHl (h:zCu x.kind=false):zCs ts x=false:=by unfold zCs;rw[h];simp
theorem zP9 (h:¬(zy x.kind x.kids.length).1.length≤x.kids.length):zCs ts x=false:=by unfold zCs;rw[yAI h];simp
theorem zGp (h:zBo ts (zy x.kind x.kids.length).1 (zy x.kind x.kids.length).2 x.kids=false):zCs ts x=false:=by unfold zCs;rw[h];simp
theorem zGq (h1:zCu x.kind=true) (b:(zy x.kind x.kids.length).1.length≤x.kids.length) (c:zBo ts (zy x.kind x.kids.length).1 (zy x.kind x.kids.length).2 x.kids=true):
 zCs ts x=(if x.kind=16 then((atN ts (x.kids.getD 1 0)).kind==17 || (atN ts (x.kids.getD 2 0)).kind==4)else if x.kind=8∧x.kids.length=3 then !(zDZ ts (x.kids.getD 1 0))else true):=by
 unfold zCs;rw[h1,decide_eq_true b,c];rfl
theorem zS7 (hN:NdsR w B A n ts) (hB:B≤w.heap.size) (hf:Fwd ts) (b8:∀x∈ts,x.kids.length≤1000000) (hx:ts[m]? =some x) (hq:zCs ts x=q):
 Calls prog 27 #[.agg #[.slice A n c],.int .i64 (m:Int)] w (BmP q w):=by
 have g0:m < n:=by have:=(List.getElem?_eq_some_iff.1 hx).1;rwa[hN.1]at this
 obtain⟨b,o,x',s,rfl,l4,e0,hC,hR⟩:=hN.get g0;obtain rfl:x=x':=Option.some.inj (hx.symm.trans e0);obtain⟨W,hW⟩:=jx (w.alloc (.cells #[.slice (some ⟨b,o,none⟩) n c] 24));have b9:Below w.heap.size w W:=jb hW;have g3:w.heap.size < W.heap.size:=by rw[←hW];simp
 have e4:W.cell? ⟨w.heap.size,0,none⟩=some (.slice (some ⟨b,o,none⟩) n c):=jc hW;obtain⟨g4,g5,g6,g7,g8,g9,h7,h9⟩:=hC.below b9 jo;have c0:=hf m x hx;rw[hN.1]at c0;have j0:=zA c0;have e6:=b8 x (List.mem_of_getElem? hx);have HF:=zA hf;have e7:=zA b8;have j1:=zA b9;have HN:=zA hN;have HR:=zA hR;have HQ:=zA hq;have HB:=zA hB;clear hx e0 hC hR b9 c0 hf b8 hN hq;go_enter func27,ntmps27;go_upto_region 2 with(fail);have HW:=zA hW;obtain⟨W1,a1⟩:=jx (W.alloc (.cells #[.int .i64 x.kind,.string ⟨x.name.toArray⟩,.slice s.As x.str.length s.cs,.int .i64 x.nk,.int .i64 x.nn,.bool x.neg,.slice s.Am x.mag.length s.cm,.slice s.Ak x.kids.length s.ck] 43));rw[a1];have c3:Below W.heap.size W W1:=jb a1;have j2:W1.heap.size=W.heap.size+1:=by rw[←a1];simp
 have p0:W1.cell? ⟨W.heap.size,0,none⟩=some (.int .i64 x.kind):=jc a1;have p7:W1.cell? ⟨W.heap.size,7,none⟩=some (.slice s.Ak x.kids.length s.ck):=jc a1;have pb:W1.cell? ⟨w.heap.size,0,none⟩=some (.slice (some ⟨b,o,none⟩) n c):=(c3.cell (p:=⟨w.heap.size,0,none⟩) (show w.heap.size < W.heap.size by omega)).trans e4;have j3:=zA (j1.out.trans (c3.mono jo));clear a1 c3 hW e4 g4 g5 g6 g7 g8 g9 h7 h9;obtain⟨X,hX⟩:=jx W.heap.size;rw[hX]at p0 p7 j2 g3;rw[hX];clear hX;obtain⟨K,hK⟩:=jx x.kind;obtain⟨L,hL⟩:=jx x.kids.length;rw[hK]at p0;rw[hL]at p7 e6;obtain⟨⟨r,rr⟩,b2⟩:=jx (zy K L);have u:=zA b2;have b0:=zS6 K L;rw[b2]at b0;have c4:=zA b0;have HC:=zA (show∀w1,Calls prog 39 #[.int .i64 K,.int .i64 (L:Int)] w1 (zCD w1 (r,rr))from fun w1=>by have:=zPm K L e6 w1;rwa[b2]at this);have D:=zA hK;have t:=zA hL;clear b2 b0 hK hL;go_upto_region 3 with(go_at_call 39;refine(HC.out _).mono ?_;rintro e2 w2 ⟨Al,cl,rfl,j4,e8,a2⟩);have q0:=(a2.cell (p:=⟨X,0,none⟩) (show X < W1.heap.size by omega)).trans p0;have q7:=(a2.cell (p:=⟨X,7,none⟩) (show X < W1.heap.size by omega)).trans p7;have qb:=(a2.cell (p:=⟨w.heap.size,0,none⟩) (show w.heap.size < W1.heap.size by omega)).trans pb;have k:=zA (j3.out.trans (a2.mono jo));have c5:=zA (HN.out.below ((k.out).mono HB.out));have e9:X < w2.heap.size:=by have:=a2.size;omega
 have f0:B≤w2.heap.size:=by have:=HB.out;omega
 obtain⟨z,a3⟩:=jx r.length;have f1:0 < z→∃bl ol,Al=some ⟨bl,ol,none⟩∧∀(j s:Nat),r[j]? =some s→w2.cell? ⟨bl,ol+j,none⟩=some (.int .i64 (s:Int)):=by
  intro h0;have hr:Reads w2 w2.heap.size 1 Al r.length (zE7 r):=e8;obtain⟨bl,ol,hA,_,hc⟩:=hr.spotR jo;exact⟨bl,ol,hA,fun j s hs=>hc j _ (by simp[zE7,hs])⟩
 have f8:=zA f1;have R:((r,rr):List Nat×Nat).1.length=z:=a3;have S:=zA a3;clear p0 p7 pb a2 e8 f1 j4;have f2:=zA (HR.out.below ((k.out).mono HB.out));have b3:=zA (show∀j,j < L→∃(y:Int) (p:Nat) (M:Int),x.kids[j]? =some y∧y=(p:Int)∧(m < p∧p < n)∧(atN ts (p:Int)).kind=M∧w2.cell? ⟨b,o+p*8,none⟩=some (.int .i64 M)from fun j hj=>by
  have f3:j < x.kids.length:=by rw[t.out];exact hj
  have hb:=j0.out x.kids[j] (List.getElem_mem f3);obtain⟨p,hp⟩:∃p:Nat,x.kids[j]=(p:Int):=⟨x.kids[j].toNat,by omega⟩;rw[hp]at hb;obtain⟨b',o',xp,sp,hA,_,j5,j6,_⟩:=c5.out.get (i:=p) jo;injection hA with hA;injection hA with hA1 hA2;subst hA1 hA2;exact⟨_,p,xp.kind,yAB f3,hp,⟨by omega,by omega⟩,by rw[zLp j5],j6.k0⟩)
 have E:Hid (∀j,j < L→∃(y:Int) (p:Nat) (M:Int),x.kids[j]? =some y∧y=(p:Int)∧(m < p∧p < n)∧((atN ts (p:Int)).kind=M∧w2.cell? ⟨b,o+p*8,none⟩=some (.int .i64 M))):=b3;have b4:L=0→w2.cell? ⟨X,7,none⟩=some (.slice s.Ak 0 s.ck):=fun e=>by rw[q7,e]
 obtain⟨fq,F⟩:=jx (zBo ts r rr x.kids);have N:=zA F;have c6:x.kids.length=L:=t.out;clear F b3
 by_cases a4:zCu K=true
 · have c7:=zA a4;have CK:=zA (show∀w1,Calls prog 40 #[.int .i64 K] w1 fun e w'=>e=.returned (.bool true)∧w1=w' from fun w1=>by have:=zIj K w1;rwa[a4]at this);clear a4
   by_cases G:r.length≤L
   · have d9:¬(L:Int) < (z:Int):=by rw[←S.out];omega
     have k8:decide ((L:Int) < (z:Int))=false:=yAI d9;have k9:¬L < z:=by omega
     rw[R];clear R a3 c6
     go_upto_if 36 with(go_at_call 40;refine(CK.out _).mono ?_;rintro e3 w3 ⟨rfl,rfl⟩)
     by_cases c8:L=0
     · have j7:¬(0:Int) < (L:Int):=by omega
       have l5:decide ((0:Int) < (L:Int))=false:=yAI j7;have l6:¬0 < L:=by omega
       have g:K≠16:=by
        intro e;have h1:=u.out;rw[e]at h1;have h2:([8,11,12],0)=(r,rr):=h1;injection h2 with h3 h4;rw[←h3]at G;have:([8,11,12]:List Nat).length=3:=rfl;omega
       have f4:x.kids=[]:=List.length_eq_zero_iff.1 (by rw[t.out];exact c8);have F:zBo ts r rr x.kids=true:=by rw[f4];cases r<;>rfl
       have d:=zA (show true=q by
        rw[←HQ.out,zGq (by rw[D.out];exact c7.out) (by rw[D.out,t.out,u.out];exact G) (by rw[D.out,t.out,u.out];exact F),if_neg (by rw[D.out];exact g),if_neg (by rw[t.out];omega)])
       have b5:(K==16)=false:=yA.2 g;have l7:((L:Int)==3)=false:=yA.2 jo;have l8:=zA c8;clear g f4 F c8 b4;go_wp2_with fail
       go_loop [40] (fun i=>i=.int .i64 0) (fun _=>0)
       case atStart=>rfl
       case round=>
        subst hrel
        by_cases l:K=8
        · subst l;go_wp2_with fail;go_ret;exact⟨zJ d.out,k.out⟩
        · have f5:(K==8)=false:=yA.2 l;clear l;go_wp2_with fail;go_ret;exact⟨zJ d.out,k.out⟩
     · obtain⟨bk,ok,c9,l9,b6⟩:=f2.out.kids.spotK (by rw[t.out];omega);have H:=zA (show∀(j:Nat) (y:Int),x.kids[j]? =some y→w2.cell? ⟨bk,ok+j,none⟩=some (.int .i64 y)from fun j y hy=>by
        obtain⟨hl,rfl⟩:=List.getElem?_eq_some_iff.1 hy;exact b6 j hl)
       have l0:L≤s.ck:=by have:=f2.out.ck.1;rwa[t.out]at this
       clear b6 b4;rw[c9]
       by_cases f9:0 < z
       · obtain⟨bl,ol,rfl,d0⟩:=f8.out f9;have j8:=zA d0;clear d0;go_wp2_with fail
         go_loop [40] (fun i=>∃j:Nat,j≤L∧i=.int .i64 j∧Hid (zBo ts (r.drop j) rr (x.kids.drop j)=fq)) (fun i=>L - (intOf i).toNat)
         case atStart=>exact⟨0,yAE _,rfl,N.out⟩
         case round=>
          obtain⟨j,hj,rfl,C⟩:=hrel
          by_cases T:j < L
          · obtain⟨y,p,M,U,V,j9,Y⟩:=E.out j T;have d1:=H.out j y U;have f:=C.out;rw[yAH (show j < x.kids.length by rw[t.out];exact T),(List.getElem?_eq_some_iff.1 U).2,zGo,V,Y.1]at f;rw[V]at d1;have b6:=Y.2;clear U V Y C
            by_cases d2:j < r.length
            · obtain⟨s0,b7⟩:∃s0,r[j]? =some s0:=⟨_,yAB d2⟩;have m0:=j8.out j s0 b7;have hg:r.getD j rr=s0:=by rw[yAG,b7];rfl
              rw[hg]at f;have a5:=c4.out.1 s0 (List.mem_of_getElem? b7);have a6:(j:Int) < (z:Int):=by rw[←S.out];omega
              have f6:decide ((j:Int) < (z:Int))=true:=decide_eq_true a6;have f7:j < z:=by omega
              obtain⟨O,I⟩:=jx (zAj s0 M);rw[I]at f;have CF:=zA (show∀w1,Calls prog 41 #[.int .i64 (s0:Int),.int .i64 M] w1 fun e w'=>e=.returned (.bool O)∧w1=w' from fun w1=>by have:=zHy s0 M a5 w1;rwa[I]at this);have Q:=zA f;clear b7 hg f I d2;cases O with
              | false=>
               have d:=zA (show false=q by
                rw[←HQ.out];refine(zGp ?_).symm;rw[D.out,t.out,u.out,N.out];have:=Q.out;rw[Bool.false_and]at this;exact this.symm)
               go_wp2_with (go_at_call 41;refine(CF.out _).mono ?_;rintro e3 w3 ⟨rfl,rfl⟩)
               (try rw[Exit.noGoto_ret])
               go_ret;exact⟨zJ d.out,k.out⟩
              | true=>
               go_wp2_with (go_at_call 41;refine(CF.out _).mono ?_;rintro e3 w3 ⟨rfl,rfl⟩);go_round
               case rel=>exact⟨j+1,by omega,by go_num,by have:=Q.out;rwa[Bool.true_and]at this⟩
               case measure=>simp[intOf];omega
            · have hg:r.getD j rr=rr:=by rw[yAG,List.getElem?_eq_none jo];rfl
              rw[hg]at f;have a5:=c4.out.2;have a6:¬(j:Int) < (z:Int):=by rw[←S.out];omega
              have f6:decide ((j:Int) < (z:Int))=false:=yAI a6;have f7:¬j < z:=by omega
              obtain⟨O,I⟩:=jx (zAj rr M);rw[I]at f;have CF:=zA (show∀w1,Calls prog 41 #[.int .i64 (rr:Int),.int .i64 M] w1 fun e w'=>e=.returned (.bool O)∧w1=w' from fun w1=>by have:=zHy rr M a5 w1;rwa[I]at this);have Q:=zA f;clear hg f I d2;cases O with
              | false=>
               have d:=zA (show false=q by
                rw[←HQ.out];refine(zGp ?_).symm;rw[D.out,t.out,u.out,N.out];have:=Q.out;rw[Bool.false_and]at this;exact this.symm)
               go_wp2_with (go_at_call 41;refine(CF.out _).mono ?_;rintro e3 w3 ⟨rfl,rfl⟩)
               (try rw[Exit.noGoto_ret])
               go_ret;exact⟨zJ d.out,k.out⟩
              | true=>
               go_wp2_with (go_at_call 41;refine(CF.out _).mono ?_;rintro e3 w3 ⟨rfl,rfl⟩);go_round
               case rel=>exact⟨j+1,by omega,by go_num,by have:=Q.out;rwa[Bool.true_and]at this⟩
               case measure=>simp[intOf];omega
          · obtain rfl:L=j:=by omega
            have a7:=zA (show fq=true by
             rw[←C.out,List.drop_of_length_le (show x.kids.length≤L by rw[t.out];omega)];cases r.drop L<;>rfl)
            clear C T;have F:fq=true:=a7.out;have HE:=zA (show q=(if K=16 then((atN ts (x.kids.getD 1 0)).kind==17 || (atN ts (x.kids.getD 2 0)).kind==4)else if K=8∧L=3 then !(zDZ ts (x.kids.getD 1 0))else true) by
             rw[←HQ.out,←D.out,←t.out];refine zGq (by rw[D.out];exact c7.out) (by rw[D.out,t.out,u.out];exact G) (by rw[D.out,t.out,u.out,N.out];exact F))
            clear F
            by_cases g:K=16
            · have a8:L=3:=by
               have h1:=u.out;rw[g]at h1;have h2:([8,11,12],0)=(r,rr):=h1;injection h2 with h3 h4;have h5:zBo ts r rr x.kids=true:=N.out.trans a7.out;rw[←h3,←h4]at h5;have h6:=zKB _ _ h5;rw[t.out]at h6;rw[←h3]at G;have:([8,11,12]:List Nat).length=3:=rfl;omega
              obtain⟨y1,p1,k1,g1,e1,l1,c1⟩:=E.out 1 jo;obtain⟨y2,p2,k2,g2,e2,l2,c2⟩:=E.out 2 jo;have J:=H.out 1 y1 g1;have d3:=H.out 2 y2 g2;rw[e1]at J;rw[e2]at d3;have HV:=zA (show q=(k1==17 || k2==4) by
               rw[HE.out,if_pos g,yAG,g1,yAG,g2,Option.getD_some,Option.getD_some,e1,e2,c1.1,c2.1])
              have k3:=c1.2;have k4:=c2.2;have d4:(1:Int) < (L:Int):=by omega
              have k5:(2:Int) < (L:Int):=by omega
              clear g1 g2 e1 e2 c1 c2;subst g;subst a8
              by_cases v:k1=17
              · have e5:(k1==17)=true:=by rw[v];rfl
                have d:=zA (show true=q by rw[HV.out,v];rfl);clear v;go_wp2_with fail
                go_quiet (fail)
                go_wp2_with fail;go_ret;exact⟨zJ d.out,zAZ k.out _⟩
              · have e5:(k1==17)=false:=yA.2 v;have d:=zA (show(k2==4)=q by rw[HV.out,yA.2 v];rfl);clear v;go_wp2_with fail
                go_quiet (fail)
                go_wp2_with fail;go_ret;exact⟨zJ d.out,zAZ k.out _⟩
            by_cases h8:K=8∧L=3
            · obtain⟨l,a9⟩:=h8;obtain⟨y1,p1,k1,g1,e1,l1,c1⟩:=E.out 1 jo;have J:=H.out 1 y1 g1;rw[e1]at J;obtain⟨dq,a0⟩:=jx (zDZ ts (p1:Int));have HV:=zA (show(!dq)=q by
               rw[HE.out,if_neg g,if_pos ⟨l,a9⟩,yAG,g1,Option.getD_some,e1,a0])
              have d4:(1:Int) < (L:Int):=by omega
              have CD:=zA (fun(wx:World) (hN:NdsR wx B (some ⟨b,o,none⟩) n ts) (hB:B≤wx.heap.size)=>zGj (c:=c) hN hB HF.out e7.out l1.2 a0);have k6:=zA l1;clear g1 e1 c1 a0 l1;subst l;subst a9;have b5:((8:Int)==16)=false:=rfl;have d5:=zA (c5.out.below ((Below.refl B w2).drew));have d6:w.heap.size < w2.heap.size:=by omega
              rw[c9]at q7;have d7:=zA (CD.out w2.drew d5.out (show B≤w2.drew.heap.size from f0));go_wp2_with fail;go_region_held3 (fun w'=>w'.cell? ⟨w.heap.size,0,none⟩=some (.slice (some ⟨b,o,none⟩) n c)∧w'.cell? ⟨X,7,none⟩=some (.slice (some ⟨bk,ok,none⟩) 3 s.ck)∧w'.cell? ⟨bk,ok+1,none⟩=some (.int .i64 (p1:Int)))
               (first | (exact⟨qb,q7,J⟩) | (exact⟨((zCS P).cell (p:=⟨w.heap.size,0,none⟩) d6).trans qb,((zCS P).cell (p:=⟨X,7,none⟩) e9).trans q7,((zCS P).cell (p:=⟨bk,ok+1,none⟩) (show bk < w2.heap.size by omega)).trans J⟩) | go_keep)
               (first | (go_at_call 42;go_split_ands;(with_reducible refine d7.out.mono ?_);rintro e3 w3 ⟨rfl,P⟩))
              all_goals go_wp2_with fail
              all_goals go_ret
              all_goals exact⟨zJ HV.out,k.out.trans ((zCS P).mono jo)⟩
            · have b5:(K==16)=false:=yA.2 g;have d:=zA (show true=q by rw[HE.out,if_neg g,if_neg h8])
              by_cases l:K=8
              · subst l;have a8:((L:Int)==3)=false:=yA.2 (fun e=>h8 ⟨rfl,by omega⟩);clear h8 g;go_wp2_with fail;go_ret;exact⟨zJ d.out,k.out⟩
              · have f5:(K==8)=false:=yA.2 l;clear h8 g l;go_wp2_with fail;go_ret;exact⟨zJ d.out,k.out⟩
       · have d8:z=0:=by omega
         have l3:=zA d8;clear d8;go_wp2_with fail
         go_loop [40] (fun i=>∃j:Nat,j≤L∧i=.int .i64 j∧Hid (zBo ts (r.drop j) rr (x.kids.drop j)=fq)) (fun i=>L - (intOf i).toNat)
         case atStart=>exact⟨0,yAE _,rfl,N.out⟩
         case round=>
          obtain⟨j,hj,rfl,C⟩:=hrel
          by_cases T:j < L
          · obtain⟨y,p,M,U,V,j9,Y⟩:=E.out j T;have d1:=H.out j y U;have f:=C.out;rw[yAH (show j < x.kids.length by rw[t.out];exact T),(List.getElem?_eq_some_iff.1 U).2,zGo,V,Y.1]at f;rw[V]at d1;have b6:=Y.2;clear U V Y C;have a6:¬(j:Int) < (z:Int):=by omega
            have f6:decide ((j:Int) < (z:Int))=false:=yAI a6;have f7:¬j < z:=by omega
            have hg:r.getD j rr=rr:=by rw[yAG,List.getElem?_eq_none (by rw[S.out];omega)];rfl
            rw[hg]at f;have a5:=c4.out.2;obtain⟨O,I⟩:=jx (zAj rr M);rw[I]at f;have CF:=zA (show∀w1,Calls prog 41 #[.int .i64 (rr:Int),.int .i64 M] w1 fun e w'=>e=.returned (.bool O)∧w1=w' from fun w1=>by have:=zHy rr M a5 w1;rwa[I]at this);have Q:=zA f;clear hg f I;cases O with
            | false=>
             have d:=zA (show false=q by
              rw[←HQ.out];refine(zGp ?_).symm;rw[D.out,t.out,u.out,N.out];have:=Q.out;rw[Bool.false_and]at this;exact this.symm)
             go_wp2_with (go_at_call 41;refine(CF.out _).mono ?_;rintro e3 w3 ⟨rfl,rfl⟩)
             (try rw[Exit.noGoto_ret])
             go_ret;exact⟨zJ d.out,k.out⟩
            | true=>
             go_wp2_with (go_at_call 41;refine(CF.out _).mono ?_;rintro e3 w3 ⟨rfl,rfl⟩);go_round
             case rel=>exact⟨j+1,by omega,by go_num,by have:=Q.out;rwa[Bool.true_and]at this⟩
             case measure=>simp[intOf];omega
          · obtain rfl:L=j:=by omega
            have a7:=zA (show fq=true by
             rw[←C.out,List.drop_of_length_le (show x.kids.length≤L by rw[t.out];omega)];cases r.drop L<;>rfl)
            clear C T;have F:fq=true:=a7.out;have HE:=zA (show q=(if K=16 then((atN ts (x.kids.getD 1 0)).kind==17 || (atN ts (x.kids.getD 2 0)).kind==4)else if K=8∧L=3 then !(zDZ ts (x.kids.getD 1 0))else true) by
             rw[←HQ.out,←D.out,←t.out];refine zGq (by rw[D.out];exact c7.out) (by rw[D.out,t.out,u.out];exact G) (by rw[D.out,t.out,u.out,N.out];exact F))
            clear F
            by_cases g:K=16
            · have a8:L=3:=by
               have h1:=u.out;rw[g]at h1;have h2:([8,11,12],0)=(r,rr):=h1;injection h2 with h3 h4;have h5:zBo ts r rr x.kids=true:=N.out.trans a7.out;rw[←h3,←h4]at h5;have h6:=zKB _ _ h5;rw[t.out]at h6;rw[←h3]at G;have:([8,11,12]:List Nat).length=3:=rfl;omega
              obtain⟨y1,p1,k1,g1,e1,l1,c1⟩:=E.out 1 jo;obtain⟨y2,p2,k2,g2,e2,l2,c2⟩:=E.out 2 jo;have J:=H.out 1 y1 g1;have d3:=H.out 2 y2 g2;rw[e1]at J;rw[e2]at d3;have HV:=zA (show q=(k1==17 || k2==4) by
               rw[HE.out,if_pos g,yAG,g1,yAG,g2,Option.getD_some,Option.getD_some,e1,e2,c1.1,c2.1])
              have k3:=c1.2;have k4:=c2.2;have d4:(1:Int) < (L:Int):=by omega
              have k5:(2:Int) < (L:Int):=by omega
              clear g1 g2 e1 e2 c1 c2;subst g;subst a8
              by_cases v:k1=17
              · have e5:(k1==17)=true:=by rw[v];rfl
                have d:=zA (show true=q by rw[HV.out,v];rfl);clear v;go_wp2_with fail
                go_quiet (fail)
                go_wp2_with fail;go_ret;exact⟨zJ d.out,zAZ k.out _⟩
              · have e5:(k1==17)=false:=yA.2 v;have d:=zA (show(k2==4)=q by rw[HV.out,yA.2 v];rfl);clear v;go_wp2_with fail
                go_quiet (fail)
                go_wp2_with fail;go_ret;exact⟨zJ d.out,zAZ k.out _⟩
            by_cases h8:K=8∧L=3
            · obtain⟨l,a9⟩:=h8;obtain⟨y1,p1,k1,g1,e1,l1,c1⟩:=E.out 1 jo;have J:=H.out 1 y1 g1;rw[e1]at J;obtain⟨dq,a0⟩:=jx (zDZ ts (p1:Int));have HV:=zA (show(!dq)=q by
               rw[HE.out,if_neg g,if_pos ⟨l,a9⟩,yAG,g1,Option.getD_some,e1,a0])
              have d4:(1:Int) < (L:Int):=by omega
              have CD:=zA (fun(wx:World) (hN:NdsR wx B (some ⟨b,o,none⟩) n ts) (hB:B≤wx.heap.size)=>zGj (c:=c) hN hB HF.out e7.out l1.2 a0);have k6:=zA l1;clear g1 e1 c1 a0 l1;subst l;subst a9;have b5:((8:Int)==16)=false:=rfl;have d5:=zA (c5.out.below ((Below.refl B w2).drew));have d6:w.heap.size < w2.heap.size:=by omega
              rw[c9]at q7;have d7:=zA (CD.out w2.drew d5.out (show B≤w2.drew.heap.size from f0));go_wp2_with fail;go_region_held3 (fun w'=>w'.cell? ⟨w.heap.size,0,none⟩=some (.slice (some ⟨b,o,none⟩) n c)∧w'.cell? ⟨X,7,none⟩=some (.slice (some ⟨bk,ok,none⟩) 3 s.ck)∧w'.cell? ⟨bk,ok+1,none⟩=some (.int .i64 (p1:Int)))
               (first | (exact⟨qb,q7,J⟩) | (exact⟨((zCS P).cell (p:=⟨w.heap.size,0,none⟩) d6).trans qb,((zCS P).cell (p:=⟨X,7,none⟩) e9).trans q7,((zCS P).cell (p:=⟨bk,ok+1,none⟩) (show bk < w2.heap.size by omega)).trans J⟩) | go_keep)
               (first | (go_at_call 42;go_split_ands;(with_reducible refine d7.out.mono ?_);rintro e3 w3 ⟨rfl,P⟩))
              all_goals go_wp2_with fail
              all_goals go_ret
              all_goals exact⟨zJ HV.out,k.out.trans ((zCS P).mono jo)⟩
            · have b5:(K==16)=false:=yA.2 g;have d:=zA (show true=q by rw[HE.out,if_neg g,if_neg h8])
              by_cases l:K=8
              · subst l;have a8:((L:Int)==3)=false:=yA.2 (fun e=>h8 ⟨rfl,by omega⟩);clear h8 g;go_wp2_with fail;go_ret;exact⟨zJ d.out,k.out⟩
              · have f5:(K==8)=false:=yA.2 l;clear h8 g l;go_wp2_with fail;go_ret;exact⟨zJ d.out,k.out⟩
   · have k7:(L:Int) < (z:Int):=by rw[←S.out];omega
     have m1:decide ((L:Int) < (z:Int))=true:=decide_eq_true k7;have m2:L < z:=by omega
     have d:=zA (show false=q by
      rw[←HQ.out,zP9 (by rw[D.out,t.out,u.out];exact G)])
     rw[R];clear R a3 c6 G b4;go_wp2_with (go_at_call 40;refine(CK.out _).mono ?_;rintro e3 w3 ⟨rfl,rfl⟩);go_ret;exact⟨zJ d.out,k.out⟩
 · have b1:zCu K=false:=by simpa using a4
   have CK:=zA (show∀w1,Calls prog 40 #[.int .i64 K] w1 fun e w'=>e=.returned (.bool false)∧w1=w' from fun w1=>by have:=zIj K w1;rwa[b1]at this);have d:=zA (show false=q by
    rw[←HQ.out,zHl (by rw[D.out];exact b1)])
   clear a4 b1 R a3 c6 b4;go_wp2_with (go_at_call 40;refine(CK.out _).mono ?_;rintro e3 w3 ⟨rfl,rfl⟩);go_ret;exact⟨zJ d.out,k.out⟩
theorem zUe (h:ts[k]? =some x):zAn (ts.take (k+1))=zAn (ts.take k)++x.kids:=by
 obtain⟨hk,rfl⟩:=List.getElem?_eq_some_iff.1 h;rw[yAK hk,zEb];congr 1;simp[zAn]
theorem zUf (ts:List Nd) (k:Nat):(zAn (ts.take k)).length≤(zAn ts).length:=by
 conv=>rhs;rw[←List.take_append_drop k ts,zEb,List.length_append]
 omega
def OrdAt (ts:List Nd) (N k:Nat) (st:List Int):Prop:=zCL ts=zBM N k (ts.drop k) (if k=0 then [0]else st)∧(k=0→st=[])
theorem OrdAt.end_ (h:OrdAt ts N N b) (c:ts.length=N) (hN:0 < N):zCL ts=b.isEmpty:=by
 rw[h.1,jn,List.drop_of_length_le jo];rfl
theorem OrdAt.none_ (h:OrdAt ts N k []) (hk:0 < k) (b:ts[k]? =some x):zCL ts=false:=by
 obtain⟨c,rfl⟩:=List.getElem?_eq_some_iff.1 b;rw[h.1,jn,yAH c];rfl
theorem OrdAt.bad (h:OrdAt ts N k (s::b)) (hs:s≠(k:Int)) (c:ts[k]? =some x):zCL ts=false:=by
 have hk:k≠0:=fun e=>by have:=h.2 e;cases this
 obtain⟨d,rfl⟩:=List.getElem?_eq_some_iff.1 c;rw[h.1,if_neg hk,yAH d,zCj,yA.2 hs];rfl
def OrdIn (ts:List Nd) (N k:Nat) (x:Nd) (st:List Int):Prop:=zCL ts=(zCi N k x.kids&&zBM N (k+1) (ts.drop (k+1)) (x.kids++st))
theorem OrdAt.zero (h:OrdAt ts N 0 b) (c:ts[0]? =some x):b=[]∧OrdIn ts N 0 x []:=by
 obtain⟨d,rfl⟩:=List.getElem?_eq_some_iff.1 c;refine⟨h.2 rfl,?_⟩;unfold OrdIn;rw[h.1,if_pos rfl,yAH d,zCj];simp
theorem OrdAt.pop (h:OrdAt ts N k (s::b)) (hs:s=(k:Int)) (c:ts[k]? =some x):OrdIn ts N k x b:=by
 have hk:k≠0:=fun e=>by have:=h.2 e;cases this
 obtain⟨d,rfl⟩:=List.getElem?_eq_some_iff.1 c;unfold OrdIn;rw[h.1,if_neg hk,yAH d,zCj,hs];simp
theorem OrdIn.bad (h:OrdIn ts N k x b) (c:j < x.kids.length) (hb:¬((k:Int) < x.kids[j]∧x.kids[j] < (N:Int))):zCL ts=false:=by
 rw[h];have:zCi N k x.kids=false:=by
  unfold zCi;rw[List.all_eq_false];exact⟨x.kids[j],List.getElem_mem c,by simpa using hb⟩
 rw[this];rfl
theorem OrdIn.done (h:OrdIn ts N k x b) (hk:zCi N k x.kids=true):OrdAt ts N (k+1) (x.kids++b):=by
 refine⟨?_,fun e=>by omega⟩;rw[h,hk,jn];rfl
theorem zKf (h:zCi N k (ks.drop (j+1))=true) (b:j < ks.length) (hb:(k:Int) < ks[j]∧ks[j] < (N:Int)):zCi N k (ks.drop j)=true:=by
 rw[yAH b];unfold zCi at h⊢;rw[List.all_cons,h,Bool.and_true];simpa using hb
structure OrS (w wr:World) (v:Value) (st:List Int):Prop where
 own:wr.ownsRow w.heap.size 3 1 v st.length (zEk st.reverse)
 below:Below w.heap.size w wr
end Go.Proofs.YtlnbbaehihgigaaGreatDoor
