/- Joined for the claim EarlyRoot: the parser, the lexer and the trees as they are walked, made short by a program of mine. -/
import Derived.Test.YtlohaclgbfhijaaGreatDoorE01
import Derived.Deep.CutBlock
import Derived.Deep.DeepCutAuto
import Derived.Deep.LoopGhost
import Derived.Test.YtlohaclgbfhijaaGreatDoorE02
import Derived.Deep.RegionHeld3
import Derived.Deep.RegionLaw
set_option maxHeartbeats 16000000
set_option maxRecDepth 1000000
namespace Go.Proofs.YtlohaclgbfhijaaGreatDoor
open Go.Proofs.Tryz
def zAI (ts:List Nd):List Int:=ts.flatMap (·.kids)
theorem zCJ (x:Nd) (r:List Nd):zAI (x::r)=x.kids++zAI r:=rfl
theorem zB3 (a b:List Nd):zAI (a++b)=zAI a++zAI b:=List.flatMap_append ..
mutual
theorem countT (n:Nat) (t:Tr) (i:Nat):(zAI (flatT n t)).count (i:Int)=if n < i∧i < n+t.size then 1 else 0:=by
 cases t with
 | mk x l=>
  rw[zA2,zCJ,List.count_append,zb];have:=countL (n+1) l i;show(zAM (n+1) l).count (i:Int)+_=_;rw[this];congr 1;rw[eq_iff_iff];omega
theorem countL (n:Nat) (l:List Tr) (i:Nat):(zAM n l).count (i:Int)+(zAI (flatL n l)).count (i:Int)=if n≤i∧i < n+sizes l then 1 else 0:=by
 cases l with
 | nil=>
  rw[zAb,zJ,if_neg (by omega)];rfl
 | cons t r=>
  rw[zAU,zB3,List.count_append,zI];have h1:=countT n t i;have h2:=countL (n+t.size) r i;have h3:=zBi t;show((n:Int)::zAM (n+t.size) r).count (i:Int)+_=_;rw[List.count_cons,h1]
  by_cases e:i=n
  · subst e;have h4:¬(i+t.size≤i∧i < i+t.size+sizes r):=by omega
    rw[if_neg h4]at h2;rw[if_pos (by simp),if_neg (by omega),if_pos (by omega)];omega
  · have h5:((n:Int)==(i:Int))=false:=yA.2 (by omega);rw[h5,if_neg (by simp)]
    by_cases h6:n < i∧i < n+t.size
    · rw[if_neg (by omega)]at h2;rw[if_pos h6,if_pos (by omega)];omega
    · by_cases h7:n+t.size≤i∧i < n+t.size+sizes r
      · rw[if_pos h7]at h2;rw[if_neg h6,if_pos (by omega)];omega
      · rw[if_neg h7]at h2;rw[if_neg h6,if_neg (by omega)];omega
end
theorem zKQ (v:Nat):∀(l:List Tr) (n k:Nat),(k:Int)∈zAM n l→(depsL v l)[k - n]? =some v:=by
 intro l
 induction l with
 | nil=>intro n k h;cases h
 | cons t r ih=>
  intro n k h;have hp:=zBi t;rw[zBu];rcases List.mem_cons.1 h with h | h
  · obtain rfl:k=n:=by omega
    rw[Nat.sub_self,List.getElem?_append_left (by rw[depsT_len];omega)];cases t;rw[zB2];rfl
  · have h2:=zBA h;rw[List.getElem?_append_right (by rw[depsT_len];omega),depsT_len,Nat.sub_sub];exact ih (n+t.size) k h
mutual
theorem kidsT (n v:Nat) (t:Tr) (i:Nat) (x:Nd) (h:(flatT n t)[i]? =some x):
 (∀k∈x.kids,((n+i:Nat):Int) < k∧k < ((n+t.size:Nat):Int))∧(∀k,x.kids[0]? =some k→k=((n+i+1:Nat):Int))∧(∀k:Nat,(k:Int)∈x.kids→∃d,(depsT v t)[i]? =some d∧(depsT v t)[k - n]? =some (d+1)):=by
 cases t with
 | mk y l=>
  rw[zA2]at h;rw[zB2,zb];cases i with
  | zero=>
   obtain rfl:{y with kids:=zAM (n+1) l}=x:=Option.some.inj h;refine⟨fun k hk=>by have:=zBA hk;omega,fun k hk=>?_,fun k hk=>⟨v,rfl,?_⟩⟩
   · cases l with
     | nil=>cases hk
     | cons t r=>obtain rfl:((n+1:Nat):Int)=k:=Option.some.inj hk;omega
   · have h2:=zBA hk;rw[show k - n=(k - (n+1))+1 by omega,List.getElem?_cons_succ];exact zKQ (v+1) l (n+1) k hk
  | succ i=>
   rw[List.getElem?_cons_succ]at h;obtain⟨h1,h2,h3⟩:=kidsL (n+1) (v+1) l i x h;refine⟨fun k hk=>by have:=h1 k hk;omega,fun k hk=>by have:=h2 k hk;omega,fun k hk=>?_⟩;obtain⟨d,h4,h5⟩:=h3 k hk;have:=(h1 k hk).1;exact⟨d,by rw[List.getElem?_cons_succ];exact h4,by rw[show k - n=(k - (n+1))+1 by omega,List.getElem?_cons_succ];exact h5⟩
theorem kidsL (n v:Nat) (l:List Tr) (i:Nat) (x:Nd) (h:(flatL n l)[i]? =some x):
 (∀k∈x.kids,((n+i:Nat):Int) < k∧k < ((n+sizes l:Nat):Int))∧(∀k,x.kids[0]? =some k→k=((n+i+1:Nat):Int))∧(∀k:Nat,(k:Int)∈x.kids→∃d,(depsL v l)[i]? =some d∧(depsL v l)[k - n]? =some (d+1)):=by
 cases l with
 | nil=>rw[zAb]at h;cases h
 | cons t r=>
  rw[zAU]at h;rw[zBu,zI]
  by_cases hi:i < t.size
  · rw[List.getElem?_append_left (by rw[flatT_len];exact hi)]at h;obtain⟨h1,h2,h3⟩:=kidsT n v t i x h;refine⟨fun k hk=>by have:=h1 k hk;omega,h2,fun k hk=>?_⟩;obtain⟨d,h4,h5⟩:=h3 k hk;have:=h1 k hk;exact⟨d,by rw[List.getElem?_append_left (by rw[depsT_len];omega)];exact h4,by rw[List.getElem?_append_left (by rw[depsT_len];omega)];exact h5⟩
  · rw[List.getElem?_append_right (by rw[flatT_len];omega),flatT_len]at h;obtain⟨h1,h2,h3⟩:=kidsL (n+t.size) v r (i - t.size) x h;refine⟨fun k hk=>by have:=h1 k hk;omega,fun k hk=>by have:=h2 k hk;omega,fun k hk=>?_⟩;obtain⟨d,h4,h5⟩:=h3 k hk;have:=h1 k hk;exact⟨d,by rw[List.getElem?_append_right (by rw[depsT_len];omega),depsT_len];exact h4,by rw[List.getElem?_append_right (by rw[depsT_len];omega),depsT_len,Nat.sub_sub];exact h5⟩
end
structure Ordered (ts:List Nd) (D:List Nat):Prop where
 len:D.length=ts.length
 head:D[0]? =some 1
 lo:∀(n:Nat) (h:n < ts.length),∀k∈ts[n].kids,(n:Int) < k∧k < (ts.length:Int)
 first:∀(n:Nat) (h:n < ts.length) (k:Int),ts[n].kids[0]? =some k→k=(n:Int)+1
 deep:∀(n:Nat) (h:n < ts.length) (k:Nat),(k:Int)∈ts[n].kids→∃d,D[n]? =some d∧D[k]? =some (d+1)
 once:∀k:Nat,1≤k→k < ts.length→(zAI ts).count (k:Int)=1
theorem zGB (t:Tr):Ordered (flatT 0 t) (depsT 1 t):=by
 have hl:=flatT_len 0 t;refine⟨by rw[depsT_len,hl],by cases t;rw[zB2];rfl,fun n h k hk=>?_,fun n h k hk=>?_,fun n h k hk=>?_,fun k h1 h2=>?_⟩
 · have:=(kidsT 0 1 t n _ (yAB h)).1 k hk;rw[hl];omega
 · have:=(kidsT 0 1 t n _ (yAB h)).2.1 k hk;omega
 · have:=(kidsT 0 1 t n _ (yAB h)).2.2 k hk;simpa using this
 · rw[countT,if_pos (by omega)]
open Go.RowKit
def Fwd (ts:List Nd):Prop:=∀(n:Nat) (x:Nd),ts[n]? =some x→∀k∈x.kids,(n:Int) < k∧k < (ts.length:Int)
theorem zEG {ts:List Nd} (h:zBU ts=true):Fwd ts:=by
 obtain⟨t,rfl⟩:=zE5 h;intro n x hx k hk;obtain⟨hl,rfl⟩:=List.getElem?_eq_some_iff.1 hx;exact(zGB t).lo n hl k hk
theorem zH6 {ts:List Nd} {m:Nat} {x:Nd} (h:ts[m]? =some x):atN ts (m:Int)=x:=by
 unfold atN;rw[yAG,Int.toNat_natCast,h];rfl
def DanAt (ts:List Nd) (n m:Nat) (q:Bool):Prop:=∃f,n - m≤f∧zMa f ts (m:Int)=q
theorem DanAt.step {ts:List Nd} {n m:Nat} {q:Bool} {x:Nd} (h:DanAt ts n m q) (hm:m < n) (hx:ts[m]? =some x):
 (if x.kind=8∧x.kids.length=2 then true=q else if x.kind=8∨x.kind=9∨x.kind=10∨x.kind=18 then(x.kids=[]→false=q)∧(∀k:Nat,x.kids.getLast? =some (k:Int)→m < k→DanAt ts n k q)else false=q):=by
 obtain⟨f,hf,hd⟩:=h;obtain⟨g,rfl⟩:∃g,f=g+1:=⟨f - 1,by omega⟩;unfold zMa at hd;rw[zH6 hx]at hd;split
 · rename_i h1;rw[if_pos h1]at hd;exact hd
 · rename_i h1
   rw[if_neg h1]at hd;split
   · rename_i h2
     rw[if_pos h2]at hd;refine⟨fun e=>by rw[e]at hd;exact hd,fun k hk hmk=>?_⟩;rw[hk]at hd;exact⟨g,by omega,hd⟩
   · rename_i h2;rw[if_neg h2]at hd;exact hd
theorem zEH {A:Option Addr} {c B n m:Nat} {ts:List Nd} {w:World} (hN:NdsR w B A n ts) (hB:B≤w.heap.size) (hf:Fwd ts) (hkl:∀x∈ts,x.kids.length≤1000000) (hmn:m < n) {q:Bool} (hq:zCm ts (m:Int)=q):
 Calls prog 86 #[.agg #[.slice A n c],.int .i64 (m:Int)] w fun e w'=>e=.returned (.bool q)∧Below w.heap.size w w':=by
 obtain⟨W,hW⟩:∃W,w.alloc (.cells #[.slice A n c] 27)=W:=⟨_,rfl⟩;have hbW:Below w.heap.size w W:=by rw[←hW];exact(Below.refl _ _).alloc (yAC _) _
 have hsW:W.heap.size=w.heap.size+1:=by rw[←hW];simp
 have hNW:=zA ((hN.below (hbW.mono hB)));have hcW:W.cell? ⟨w.heap.size,0,none⟩=some (.slice A n c):=by rw[←hW,World.cell?_alloc_at _ _ _ _ rfl];rfl
 have HD:=zA (show DanAt ts n m q from⟨ts.length,by rw[hN.1];omega,hq⟩);have HBW:=zA hbW;have HF:=zA hf;have HKL:=zA hkl;have HLN:=zA hN.1;have HB:=zA hB;clear hq hbW hN hf hkl;go_enter func86,ntmps86;go_upto_region 1 with(fail);have HW:=zA hW;clear hW
 go_loopw [1] (fun v wr=>∃k:Nat,k < n∧v=.int .i64 k∧Hid (DanAt ts n k q)∧Hid (Below W.heap.size W wr)) (fun v _=>n - (intOf v).toNat)
 case atStart=>exact⟨m,hmn,rfl,HD.out,Below.refl _ _⟩
 case round=>
  obtain⟨k,hk,rfl,hd,hbr⟩:=hrel;obtain⟨b,o,x,s,rfl,hbB,hx,hC,hR⟩:=(hNW.out.below (hbr.out.mono (by omega))).get hk;obtain⟨kc0,kc1,kc2,kc3,kc4,kc5,kc6,kc7⟩:=hC;have hbx:wr.cell? ⟨w.heap.size,0,none⟩=some (.slice (some ⟨b,o,none⟩) n c):=(hbr.out.cell (p:=⟨w.heap.size,0,none⟩) (show w.heap.size < W.heap.size by omega)).trans hcW;have hst:=hd.out.step hk hx;have hfw:=HF.out k x hx;have hxl:=HKL.out x (List.mem_of_getElem? hx);rw[HLN.out]at hfw;have hsz:=hbr.out.size;obtain⟨K,hK⟩:∃K,x.kind=K:=⟨_,rfl⟩;rw[hK]at kc0 hst;clear hx hd hK hmn;go_upto_region 2 with(fail);obtain⟨W1,hW1⟩:∃W1,wr.alloc (.cells #[.int .i64 K,.string ⟨x.name.toArray⟩,.slice s.As x.str.length s.cs,.int .i64 x.nk,.int .i64 x.nn,.bool x.neg,.slice s.Am x.mag.length s.cm,.slice s.Ak x.kids.length s.ck] 48)=W1:=⟨_,rfl⟩;rw[hW1];have hb1:Below W.heap.size W W1:=by rw[←hW1];exact hbr.out.alloc hsz _
  have hs1:W1.heap.size=wr.heap.size+1:=by rw[←hW1];simp
  have p0:W1.cell? ⟨wr.heap.size,0,none⟩=some (.int .i64 K):=by rw[←hW1,World.cell?_alloc_at _ _ _ _ rfl];rfl
  have p7:W1.cell? ⟨wr.heap.size,7,none⟩=some (.slice s.Ak x.kids.length s.ck):=by rw[←hW1,World.cell?_alloc_at _ _ _ _ rfl];rfl
  have hR1:NdR W1 B x s:=hR.below (by rw[←hW1];exact(Below.refl _ _).alloc (by omega) _);have HB1:=zA hb1;clear hW1 hb1 kc0 kc1 kc2 kc3 kc4 kc5 kc6 kc7 hbx hR
  by_cases h1:K=8∧x.kids.length=2
  · rw[if_pos h1]at hst;have HQ:=zA hst;obtain⟨h8,h2⟩:=h1;subst h8;rw[h2]at p7;clear hst hfw hR1 h2;go_wp2_with fail
    (try rw[Exit.noGoto_ret])
    go_ret;exact⟨zD HQ.out,HBW.out.trans (HB1.out.mono (by omega))⟩
  · rw[if_neg h1]at hst
    by_cases h2:K=8∨K=9∨K=10∨K=18
    · rw[if_pos h2]at hst;obtain⟨ha,hb⟩:=hst;have h3:K=8→((x.kids.length:Int)==2)=false:=fun e=>yA.2 (fun e2=>h1 ⟨e,by omega⟩)
      by_cases hke:x.kids=[]
      · have HQ:=zA (ha hke);rw[hke]at p7 h3;clear ha hb hfw hR1 h1 hke;rcases h2 with rfl | rfl | rfl | rfl
        all_goals
         clear h3;go_wp2_with fail
         (try rw[Exit.noGoto_ret])
         go_ret;exact⟨zD HQ.out,HBW.out.trans (HB1.out.mono (by omega))⟩
      · obtain⟨L,hL⟩:∃L,x.kids.length=L+1:=⟨x.kids.length - 1,by have:=List.length_pos_iff.2 hke;omega⟩;obtain⟨bk,ok,hak,hbk,hck⟩:=hR1.kids.spotK (by omega);have hcl:=hck L (by omega);have hkl:=hfw x.kids[L] (List.getElem_mem (by omega));have hmax:=hR1.ck;have hgl:x.kids.getLast? =some x.kids[L]:=by
         rw[List.getLast?_eq_getElem?,show x.kids.length - 1=L by omega,yAB (by omega)]
        obtain⟨y,hy⟩:∃y,x.kids[L]'(by omega)=y:=⟨_,rfl⟩;rw[hy]at hcl hkl hgl;obtain⟨j,rfl⟩:∃j:Nat,y=(j:Int):=⟨y.toNat,by omega⟩;have HN:=zA (hb j hgl (by omega));rw[hak,hL]at p7;rw[hL]at h3 hmax;have hLm:L+1≤1000000:=by omega
        have hjn:j < n:=by omega
        have hkj:k < j:=by omega
        clear ha hb hfw hR1 h1 hke hak hck hL hgl hy hmax hkl hxl;rcases h2 with rfl | rfl | rfl | rfl
        · have h4:=h3 rfl;clear h3;go_wp2_with fail
          go_roundw
          case rel=>exact⟨j,hjn,rfl,HN.out,HB1.out⟩
          case measure=>simp[intOf];omega
        all_goals
         clear h3;go_wp2_with fail
         go_roundw
         case rel=>exact⟨j,hjn,rfl,HN.out,HB1.out⟩
         case measure=>simp[intOf];omega
    · rw[if_neg h2]at hst;have HQ:=zA hst;have e1:(K==8)=false:=yA.2 (by omega);have e2:(K==9)=false:=yA.2 (by omega);have e3:(K==10)=false:=yA.2 (by omega);have e4:(K==18)=false:=yA.2 (by omega);clear hst hfw hR1 h1 h2;go_wp2_with fail
      (try rw[Exit.noGoto_ret])
      go_ret;exact⟨zD HQ.out,HBW.out.trans (HB1.out.mono (by omega))⟩
theorem Tryz.info_strE:(prog.info? 9).map (fun i=>(i.zero,i.size,i.bytes))=some (some (.string ⟨#[]⟩),1,16):=by kernel_rfl
section
variable {P:Program} {w0 w:World} {ops:Array Oper} {rest:List Oper} {o:Oper} {a:Act} {Q:Exit→Act→World→Prop}
theorem zKR (hgd:o.guard=none) (s x:Operand) (t:TypeId)
 (ho:o.op=.call {callee:=.builtin .append,args:=#[s,x],argTypes:=#[t,t]})
 (e:TypeId) (i:TypeInfo) (z:Value) (bytes:Nat) (ht:P.underlying t=some (.slice e)) (hi:P.info? e=some i) (hz:i.zero=some z)
 (hsize:i.size=1) (hby:i.bytes=bytes) (hzs:z.cells.size=1)
 (v:Value) (xs:List Value) (hs:a.eval s=v) (hm:Made w0 w e v xs)
 (B:Nat) (A:Option Addr) (m c:Nat) (news:List Value) (hx:a.eval x=.slice A m c) (hr:Reads w B 1 A m news) (h1:∀u∈news,u.oneCell'=true)
 (hsz:xs.length+m≤1099511627776) (hb2:bytes≤16)
 (h:∀v' w',Made w0 w' e v' (xs++news)→wpList P ops Q rest (a.put o.dst v') w'):wpList P ops Q (o::rest) a w:=by
 have hl:news.length=m:=by have:=hr.1;omega
 subst hl;have hby2:(xs.length+news.length)*bytes≤140737488355328:=by
  calc (xs.length+news.length)*bytes≤1099511627776*16:=Nat.mul_le_mul hsz hb2
   _≤140737488355328:=by omega
 obtain⟨v',w',hrun,h2,h3,_⟩:=zEo (P:=P) w w0.heap.size t o.type e i z 1 bytes ht hi hz hsize hby hzs (by omega) v xs.length xs hm.own B A news.length c news hr h1 (by unfold maxLen;omega) hby2 hm.below.size;refine wpList_plain hgd fun K hK=>?_;unfold Oper.wp execOp;simp only[ho,resolve,invoke,builtin,Sem.run_bind,Sem.run_pure,Result.andThen_ok,List.map_toArray,List.map_cons,List.map_nil,hs,hx,hrun];refine hK _ _ (h v' w' ⟨by rw[List.length_append];exact h2,hm.below.grown h3 hm.below.size (fun k hk=>(hm.own.lt k hk).1)⟩)
theorem zFY (hgd:o.guard=none) (s x:Operand) (t:TypeId)
 (ho:o.op=.call {callee:=.builtin .append,args:=#[s,x],argTypes:=#[t,t]})
 (e:TypeId) (i:TypeInfo) (z:Value) (bytes:Nat) (ht:P.underlying t=some (.slice e)) (hi:P.info? e=some i) (hz:i.zero=some z)
 (hsize:i.size=1) (hby:i.bytes=bytes) (hzs:z.cells.size=1)
 (v:Value) (xs:List Value) (hs:a.eval s=v) (hm:Made w0 w e v xs) (u:Value) (hx:a.eval x=.slice (some ⟨w.heap.size,0,none⟩) 1 1) (h1:u.oneCell'=true)
 (hsz:xs.length+1≤1099511627776) (hb2:bytes≤16)
 (h:∀v' w',Made w0 w' e v' (xs++[u])→wpList P ops Q rest (a.put o.dst v') w'):wpList P ops Q (o::rest) a (w.alloc (.cells #[u] e)):=
 zKR hgd s x t ho e i z bytes ht hi hz hsize hby hzs v xs hs (hm.alloc _) _ _ 1 1 [u] hx (Reads.of_own (Made.lit w e [u] (by simp[maxLen])).own) (by simpa using h1) hsz hb2 h
end
def MadeS (w w':World) (v:Value) (l:List (List UInt8)):Prop:=Made w w' 9 v (zBQ l)
theorem MadeS.form {w w':World} {v:Value} {l:List (List UInt8)} (h:MadeS w w' v l):∃A c,v=.slice A l.length c∧l.length≤c∧c≤maxLen∧Reads w' w'.heap.size 1 A l.length (zBQ l):=by
 have h1:=h.own;rw[zC6]at h1;obtain⟨A,c,rfl,h2,h3⟩:=zR h1;exact⟨A,c,rfl,h2,h3,.of_own h1⟩
theorem zFZ (a b:List (List UInt8)):zBQ (a++b)=zBQ a++zBQ b:=by simp[zBQ]
theorem zMp (l:List (List UInt8)):∀u∈zBQ l,u.oneCell'=true:=by
 intro u hu;obtain⟨s,_,rfl⟩:=List.mem_map.1 hu;rfl
theorem zH7 (k:Int) (w:World):Calls prog 87 #[.int .i64 k] w fun e w'=>e=.returned (.bool (zMg k))∧w=w':=by
 go_enter func87,ntmps87;go_wp2_with fail
 all_goals
  go_ret;exact⟨zD (by first | rfl | simp_all [zMg]),rfl⟩
theorem zC7 (k:Int) (w:World):Calls prog 89 #[.int .i64 k] w fun e w'=>e=.returned (.bool (zJ5 k))∧w=w':=by
 go_enter func89,ntmps89;go_wp2_with fail
 all_goals
  go_ret;exact⟨zD (by first | rfl | simp_all [zJ5]),rfl⟩
theorem zH8 (k:Int) (w:World):Calls prog 115 #[.int .i64 k] w fun e w'=>e=.returned (.bool (zQm k))∧w=w':=by
 go_enter func115,ntmps115;go_wp2_with fail
 all_goals
  go_ret;exact⟨zD (by first | rfl | simp_all [zQm]),rfl⟩
structure EOk (ts:List Nd):Prop where
 fwd:Fwd ts
 len:ts.length≤4096
 many:∀x∈ts,x.kids.length≤4096
 first:∀x∈ts,x.kind=10∨x.kind=18→x.kids≠[]
theorem Made.back {w W w':World} {e:TypeId} {v:Value} {xs:List Value} (h:Made W w' e v xs) (hb:Below w.heap.size w W):Made w w' e v xs:=⟨zAG h.own hb.size,hb.trans (h.below.mono hb.size)⟩
theorem Fwd.kid {ts:List Nd} (h:Fwd ts) {j:Nat} {x:Nd} (hx:ts[j]? =some x) {q:Nat} (hq:q < x.kids.length):∃m:Nat,x.kids[q]=(m:Int)∧j < m∧m < ts.length:=by
 have:=h j x hx x.kids[q] (List.getElem_mem hq);exact⟨x.kids[q].toNat,by omega,by omega,by omega⟩
theorem zAv {ts:List Nd} {j:Nat} {x:Nd} (hx:ts[j]? =some x):atN ts (j:Int)=x:=by
 unfold atN;rw[yAG,Int.toNat_natCast,hx];rfl
theorem zDT {w:World} {b o:Nat} {x:Nd} (hc:∀i v,(zBC x.kids)[i]? =some v→w.cell? ⟨b,o+i,none⟩=some v) {q:Nat} (hq:q < x.kids.length):w.cell? ⟨b,o+q,none⟩=some (.int .i64 x.kids[q]):=
 hc q _ (by simp[zBC,yAB hq])
theorem zKS {A:Option Addr} {c B n j:Nat} {ts:List Nd} {w:World} (hN:NdsR w B A n ts) (hB:B≤w.heap.size) (hE:EOk ts) (hj:j < n):
 Calls prog 88 #[.agg #[.slice A n c],.int .i64 (j:Int)] w fun e w'=>∃v,e=.returned v∧MadeS w w' v (zEB ts (j:Int)):=by
 obtain⟨W,hW⟩:∃W,w.alloc (.cells #[.slice A n c] 27)=W:=⟨_,rfl⟩;have bW:Below w.heap.size w W:=by rw[←hW];exact(Below.refl _ _).alloc (yAC _) _
 have sW:W.heap.size=w.heap.size+1:=by rw[←hW];simp
 obtain⟨X,hX⟩:∃X,w.heap.size=X:=⟨_,rfl⟩;have a0:W.cell? ⟨X,0,none⟩=some (.slice A n c):=by rw[←hW,←hX,World.cell?_alloc_at _ _ _ _ rfl];rfl
 have hXW:X < W.heap.size:=by omega
 have HA0:=zA a0;have HNW:=zA (hN.below (bW.mono hB));have hBW:B≤W.heap.size:=by omega
 have HBW:=zA bW;have HE:=zA hE;obtain⟨b,o,x,⟨As,Am,Ak,cs,cm,ck⟩,rfl,hbB,hx,hC,hR⟩:=HNW.out.get hj;have k7:=hC.k7;obtain⟨i0,hi0,hz0,hz1,hz2⟩:=info_parts Tryz.info_strE;have HXJ:=zA hx;have hL:x.kids.length≤4096:=hE.many x (List.mem_of_getElem? hx);have HK:=zA (show Reads W B 1 Ak x.kids.length (zBC x.kids)from hR.kids);have HNL:=zA HNW.out.1;obtain⟨L,hLl⟩:∃L,x.kids.length=L:=⟨_,rfl⟩;have HL:=zA hLl;rw[hLl]at k7 hL;clear hN hE hB hx hC hR hLl bW;go_enter func88,ntmps88;go_upto_region 1 with(fail);clear hW hX;have M0:=zA (Made.nil W 9);go_wp2_with fail
 go_loopw [5,15] (fun v i wr=>∃q:Nat,q≤L∧i=.int .i64 (q:Int)∧Hid (Made W wr 9 v (zBQ ((x.kids.take q).map (nmN ts))))) (fun _ i _=>L - (intOf i).toNat)
 case atStart=>exact⟨0,yAE _,rfl,M0.out⟩
 case round=>
  obtain⟨q,hq,rfl,hm⟩:=hrel
  by_cases hlt:q < L
  · have hqk:q < x.kids.length:=by rw[HL.out];exact hlt
    obtain⟨mk,hmk,hjm,hml⟩:=HE.out.fwd.kid HXJ.out hqk;obtain⟨bk,ok,rfl,_,hck⟩:=(HK.out.below (hm.out.below.mono hBW)).spotR (by rw[HL.out];omega);have hkv:=zDT hck hqk;rw[hmk]at hkv;rw[HNL.out]at hml;obtain⟨b',o',y,r,hbo,hbB',hy,hC',_⟩:=(HNW.out.below (hm.out.below.mono hBW)).get hml;simp only[Option.some.injEq,Addr.mk.injEq,and_true]at hbo;obtain⟨rfl,rfl⟩:=hbo;have k1:=hC'.k1;have a1:=(hm.out.below.cell (p:=⟨X,0,none⟩) hXW).trans HA0.out;have k7':=(hm.out.below.cell (p:=⟨b,o+j*8+7,none⟩) (show b < W.heap.size by omega)).trans k7;have hE2:zBQ ((x.kids.take q).map (nmN ts))++[Value.string ⟨y.name.toArray⟩]=zBQ ((x.kids.take (q+1)).map (nmN ts)):=by
     rw[yAK hqk,List.map_append,zFZ,hmk];simp[zBQ,nmN,zAv hy]
    have HE2:=zA hE2;have hln:(zBQ ((x.kids.take q).map (nmN ts))).length≤4096:=by rw[zC6,List.length_map,List.length_take];omega
    clear hck hqk hmk hjm hy hC' hE2 hbB';go_wp2_with (at_builtin;refine zFY rfl _ _ 58 rfl 9 i0 _ 16 underlying58 hi0 hz0 hz1 hz2 rfl u5 _ rfl hm.out _ rfl rfl (by omega) (by omega) ?_;intro v7 w7 hm7;have H7:=zA (hm7.cells HE2.out);clear hm7)
    go_roundw
    case rel=>exact⟨q+1,by omega,by go_num,H7.out⟩
    case measure=>simp[intOf];omega
  · obtain rfl:q=L:=by omega
    go_wp2_with fail;go_ret;refine⟨_,rfl,?_⟩;have:=hm.out.back HBW.out;rw[List.take_of_length_le (by rw[HL.out];exact yAC _)]at this;unfold MadeS zEB;rw[zAv HXJ.out];exact this
def X8 (w:World) (N:Nat) (x:Nd) (s:NdSl):Prop:=NdC w N 0 x s
theorem X8.below {w w':World} {N D:Nat} {x:Nd} {s:NdSl} (h:X8 w N x s) (hb:Below D w w') (hd:N < D):X8 w' N x s:=NdC.below h hb hd
theorem X8.new (w:World) (x:Nd) (s:NdSl):X8 (w.alloc (.cells #[.int .i64 x.kind,.string ⟨x.name.toArray⟩,.slice s.As x.str.length s.cs,.int .i64 x.nk,.int .i64 x.nn,.bool x.neg,.slice s.Am x.mag.length s.cm,.slice s.Ak x.kids.length s.ck] 48)) w.heap.size x s:=by
 refine⟨?_,?_,?_,?_,?_,?_,?_,?_⟩
 all_goals
  rw[World.cell?_alloc_at _ _ _ _ rfl];rfl
theorem X8.c {w:World} {N:Nat} {x:Nd} {s:NdSl} (h:X8 w N x s):w.cell? ⟨N,0,none⟩=some (.int .i64 x.kind)∧w.cell? ⟨N,1,none⟩=some (.string ⟨x.name.toArray⟩)∧w.cell? ⟨N,2,none⟩=some (.slice s.As x.str.length s.cs)∧w.cell? ⟨N,3,none⟩=some (.int .i64 x.nk)∧w.cell? ⟨N,4,none⟩=some (.int .i64 x.nn)∧w.cell? ⟨N,5,none⟩=some (.bool x.neg)∧w.cell? ⟨N,6,none⟩=some (.slice s.Am x.mag.length s.cm)∧w.cell? ⟨N,7,none⟩=some (.slice s.Ak x.kids.length s.ck):=⟨h.k0,h.k1,h.k2,h.k3,h.k4,h.k5,h.k6,h.k7⟩
theorem zDt {α β:Type} (f:α→List β) (h:∀a,(f a).length≤4096):∀l:List α,(l.flatMap f).length≤l.length*4096:=by
 intro l
 induction l with
 | nil=>simp
 | cons a r ih=>
  rw[List.flatMap_cons,List.length_append,List.length_cons];have:=h a;omega
theorem EOk.at_ {ts:List Nd} (h:EOk ts) (k:Int):(atN ts k).kids.length≤4096:=by
 unfold atN;rw[yAG];cases hk:ts[k.toNat]? with
 | none=>simp[zBg]
 | some x=>exact h.many x (List.mem_of_getElem? hk)
theorem EOk.blk {ts:List Nd} (h:EOk ts) (k:Int):(zGz ts k).length≤4096:=by
 unfold zGz zEB;split
 · rw[List.length_map];exact h.at_ k
 · split<;>simp
theorem EOk.par {ts:List Nd} (_h:EOk ts) (k:Int):(zG0 ts k).length≤4096:=by
 unfold zG0;split<;>simp
theorem zGC {α β:Type} (f:α→List β) {l:List α} {q:Nat} (hq:q < l.length):(l.take (q+1)).flatMap f=(l.take q).flatMap f++f l[q]:=by
 rw[yAK hq,List.flatMap_append];simp
theorem zFA {A:Option Addr} {c B n j:Nat} {ts:List Nd} {w:World} (hN:NdsR w B A n ts) (hB:B≤w.heap.size) (hE:EOk ts) (hj:j < n):
 Calls prog 56 #[.agg #[.slice A n c],.int .i64 (j:Int)] w fun e w'=>∃v,e=.returned v∧MadeS w w' v (zAj ts (j:Int)):=by
 obtain⟨b,o,x,⟨As,Am,Ak,cs,cm,ck⟩,rfl,hbB,hx,hC0,hR0⟩:=hN.get hj;obtain⟨V,hV⟩:∃V,w.alloc (.cells #[.slice (some ⟨b,o,none⟩) n c] 27)=V:=⟨_,rfl⟩;obtain⟨W,hW⟩:∃W,V.alloc (.cells #[.int .i64 x.kind,.string ⟨x.name.toArray⟩,.slice As x.str.length cs,.int .i64 x.nk,.int .i64 x.nn,.bool x.neg,.slice Am x.mag.length cm,.slice Ak x.kids.length ck] 48)=W:=⟨_,rfl⟩;have bV:Below w.heap.size w V:=by rw[←hV];exact(Below.refl _ _).alloc (yAC _) _
 have bW:Below V.heap.size V W:=by rw[←hW];exact(Below.refl _ _).alloc (yAC _) _
 have sV:V.heap.size=w.heap.size+1:=by rw[←hV];simp
 have sW:W.heap.size=V.heap.size+1:=by rw[←hW];simp
 obtain⟨X,hX⟩:∃X,w.heap.size=X:=⟨_,rfl⟩;obtain⟨Y,hY⟩:∃Y,V.heap.size=Y:=⟨_,rfl⟩;have a0:V.cell? ⟨X,0,none⟩=some (.slice (some ⟨b,o,none⟩) n c):=by rw[←hV,←hX,World.cell?_alloc_at _ _ _ _ rfl];rfl
 have hXW:X < W.heap.size:=by omega
 have hYW:Y < W.heap.size:=by omega
 have HA0:=zA ((bW.cell (p:=⟨X,0,none⟩) (show X < V.heap.size by omega)).trans a0);have HX8:=zA (show X8 W Y x ⟨As,Am,Ak,cs,cm,ck⟩ by rw[←hW,←hY];exact X8.new V x ⟨As,Am,Ak,cs,cm,ck⟩);have bw:Below w.heap.size w W:=bV.trans (bW.mono bV.size);have HNW:=zA (hN.below (bw.mono hB));have hBW:B≤W.heap.size:=by omega
 have HBW:=zA bw;have HE:=zA hE;have HXJ:=zA hx;have hL:x.kids.length≤4096:=hE.many x (List.mem_of_getElem? hx);have HK:=zA (show Reads W B 1 Ak x.kids.length (zBC x.kids)from hR0.kids.below (bw.mono hB));have HNL:=zA hN.1;have hnn:zAj ts (j:Int)=if x.kind=1∨x.kind=4 then x.kids.flatMap (zGz ts)
  else if x.kind=10∧zMg (knK ts (zKC x))=true then zEB ts (zKC x)
  else if x.kind=17∧x.name≠[]then [x.name]
  else if zJ5 x.kind=true then x.kids.flatMap (zG0 ts)else []:=by
  unfold zAj knK nmN;rw[zAv hx]
 have HNN:=zA hnn;have HM:=zA (fun v w' (h:MadeS W w' v (zAj ts (j:Int)))=>(show MadeS w w' v (zAj ts (j:Int))from Made.back h bw));have C0:=(hC0.below (bV.mono hB) hbB);obtain⟨kc0,kc1,kc2,kc3,kc4,kc5,kc6,kc7⟩:=C0;obtain⟨i0,hi0,hz0,hz1,hz2⟩:=info_parts Tryz.info_strE;have CD:=zA (fun(wr:World) (hb:Below W.heap.size W wr) (m:Nat) (hm:m < n)=>zKS (c:=c) (w:=wr) (HNW.out.below (hb.mono hBW)) (yAD hBW hb.size) hE hm);have M0:=zA (Made.nil W 9);clear hN hB hE hx hC0 hR0 bV bW bw hnn sW sV;go_enter func56,ntmps56;go_upto_region 1 with(fail);clear hV hX;go_upto_region 2 with(fail);clear hW hY a0 kc0 kc1 kc2 kc3 kc4 kc5 kc6 kc7;obtain⟨K,hK⟩:∃K,x.kind=K:=⟨_,rfl⟩;have HKX:=zA hK;obtain⟨L,hLl⟩:∃L,x.kids.length=L:=⟨_,rfl⟩;have HL:=zA hLl;obtain⟨p0,p1,p2,p3,p4,p5,p6,p7⟩:=HX8.out.c;simp only at p7;have P0:=zA p0;have P1:=zA p1;have P7:=zA p7;rw[hK]at p0 P0 HNN;rw[hLl]at p7 P7 hL;clear hK hLl p2 p3 p4 p5 p6
 by_cases h14:K=1∨K=4
 · have HR:=zA (show zAj ts (j:Int)=x.kids.flatMap (zGz ts) by rw[HNN.out,if_pos h14]);clear HNN;rcases h14 with rfl | rfl
   all_goals
    have a0:=HA0.out;go_wp2_with fail
    go_loopw [6,29] (fun v i wr=>∃q:Nat,q≤L∧i=.int .i64 (q:Int)∧Hid (Made W wr 9 v (zBQ ((x.kids.take q).flatMap (zGz ts))))) (fun _ i _=>L - (intOf i).toNat)
    case atStart=>exact⟨0,yAE _,rfl,M0.out⟩
    case round=>
     obtain⟨q,hq,rfl,hm⟩:=hrel;have hbr:=hm.out.below;have HBR:=zA hbr
     by_cases hlt:q < L
     · have hqk:q < x.kids.length:=by rw[HL.out];exact hlt
       obtain⟨mk,hmk,hjm,hml⟩:=HE.out.fwd.kid HXJ.out hqk;obtain⟨bk,ok,rfl,_,hck⟩:=(HK.out.below (hbr.mono hBW)).spotR (by rw[HL.out];omega);have hkv:=zDT hck hqk;rw[hmk]at hkv;rw[HNL.out]at hml;obtain⟨b',o',y,r,hbo,hbB',hy,hC',_⟩:=(HNW.out.below (hbr.mono hBW)).get hml;simp only[Option.some.injEq,Addr.mk.injEq,and_true]at hbo;obtain⟨rfl,rfl⟩:=hbo;obtain⟨kc0,kc1,kc2,kc3,kc4,kc5,kc6,kc7⟩:=hC';have a1:=(hbr.cell (p:=⟨X,0,none⟩) hXW).trans HA0.out;have hstep:=zGC (zGz ts) hqk;rw[hmk]at hstep;have HSTEP:=zA hstep;have hlen:(zBQ ((x.kids.take q).flatMap (zGz ts))).length≤16777216:=by
        rw[zC6];have h1:=zDt (zGz ts) HE.out.blk (x.kids.take q);have h2:(x.kids.take q).length≤4096:=by rw[List.length_take];omega
        have h3:(x.kids.take q).length*4096≤4096*4096:=Nat.mul_le_mul_right _ h2;omega
       obtain⟨PRE,hPRE⟩:∃P,zBQ ((x.kids.take q).flatMap (zGz ts))=P:=⟨_,rfl⟩;have hblk:zGz ts (mk:Int)=if zMg y.kind=true then zEB ts (mk:Int)else if y.kind=19 then [y.name]else []:=by
        unfold zGz knK nmN;rw[zAv hy]
       have HFIN:=zA (fun(l:List (List UInt8)) (hl:zGz ts (mk:Int)=l)=>(show PRE++zBQ l=zBQ ((x.kids.take (q+1)).flatMap (zGz ts)) by rw[hstep,hl,zFZ,hPRE]));have HBLK:=zA hblk;have HML:=zA hml;rw[hPRE]at hm hlen;clear hstep hblk hPRE hy hck hqk hmk hjm hbB' hbr;go_upto_region 7 with(fail);obtain⟨W1,hW1⟩:∃W1,wr.alloc (.cells #[.int .i64 y.kind,.string ⟨y.name.toArray⟩,.slice r.As y.str.length r.cs,.int .i64 y.nk,.int .i64 y.nn,.bool y.neg,.slice r.Am y.mag.length r.cm,.slice r.Ak y.kids.length r.ck] 48)=W1:=⟨_,rfl⟩;have b1:Below wr.heap.size wr W1:=by rw[←hW1];exact(Below.refl _ _).alloc (yAC _) _
       obtain⟨Z,hZ⟩:∃Z,wr.heap.size=Z:=⟨_,rfl⟩;have HZ8:=zA (show X8 W1 Z y r by rw[←hW1,←hZ];exact X8.new wr y r);have HM1:=zA (show Made W W1 9 u6 PRE by rw[←hW1];exact hm.out.alloc _);have a2:=(b1.cell (p:=⟨X,0,none⟩) (show X < wr.heap.size by have:=HBR.out.size;omega)).trans a1;go_upto_region 8 with(fail);clear hW1 hZ kc0 kc1 kc2 kc3 kc4 kc5 kc6 kc7 a1 b1 hkv;obtain⟨z0,z1,_,_,_,_,_,_⟩:=HZ8.out.c;obtain⟨Ky,hKy⟩:∃Ky,y.kind=Ky:=⟨_,rfl⟩;have HKY:=zA hKy;rw[hKy]at z0;obtain⟨bq,hbq⟩:∃bq,zMg Ky=bq:=⟨_,rfl⟩;have CE:=zA (fun(wx:World)=>(show Calls prog 87 #[.int .i64 Ky] wx fun e w'=>e=.returned (.bool bq)∧wx=w' by rw[←hbq];exact zH7 Ky wx));have HBQ:=zA hbq;clear hKy hbq;go_wp2_with fail;refine(CE.out _).mono ?_;rintro e2 w2 ⟨rfl,rfl⟩;cases bq with
       | true=>
        have CK:=zA (CD.out W1 HM1.out.below mk HML.out);have HT:=zA (HFIN.out _ (by rw[HBLK.out,HKY.out,if_pos HBQ.out]));have hdl:(zEB ts (mk:Int)).length≤4096:=by unfold zEB;rw[List.length_map];exact HE.out.at_ _
        clear CE HFIN;go_wp2_with fail;refine CK.out.mono ?_;rintro e3 w3 ⟨v3,rfl,hm3⟩;obtain⟨A3,c3,rfl,h31,h32,hr3⟩:=MadeS.form hm3;have HM3:=zA (HM1.out.call hm3.below);have HR3:=zA hr3;clear hm3 hr3;go_wp2_with (at_builtin;refine zKR rfl _ _ 58 rfl 9 i0 _ 16 underlying58 hi0 hz0 hz1 hz2 rfl u6 _ rfl HM3.out _ _ _ _ _ rfl HR3.out (zMp _) (by omega) (by omega) ?_;intro v7 w7 hm7;have H7:=zA (hm7.cells HT.out);clear hm7)
        go_roundw
        case rel=>exact⟨q+1,by omega,by go_num,H7.out⟩
        case measure=>simp[intOf];omega
       | false=>
        by_cases h19:Ky=19
        · have HT:=zA (HFIN.out [y.name] (by rw[HBLK.out,HKY.out,if_neg (by rw[HBQ.out];decide),if_pos h19]));subst h19;clear CE HFIN;go_wp2_with (at_builtin;refine zFY rfl _ _ 58 rfl 9 i0 _ 16 underlying58 hi0 hz0 hz1 hz2 rfl u6 _ rfl HM1.out _ rfl rfl (by omega) (by omega) ?_;intro v7 w7 hm7;have H7:=zA (hm7.cells HT.out);clear hm7)
          go_roundw
          case rel=>exact⟨q+1,by omega,by go_num,H7.out⟩
          case measure=>simp[intOf];omega
        · have HT:=zA (HFIN.out [] (by rw[HBLK.out,HKY.out,if_neg (by rw[HBQ.out];decide),if_neg h19]));have e19:(Ky==19)=false:=yA.2 h19;clear CE HFIN h19;have H7:=zA (show Made W W1 9 u6 (zBQ ((x.kids.take (q+1)).flatMap (zGz ts)))from HM1.out.cells (by have:=HT.out;rw[show zBQ []=[]from rfl,List.append_nil]at this;exact this));go_wp2_with fail
          go_roundw
          case rel=>exact⟨q+1,by omega,by go_num,H7.out⟩
          case measure=>simp[intOf];omega
     · obtain rfl:q=L:=by omega
       go_wp2_with fail;go_ret;refine⟨_,rfl,HM.out _ _ ?_⟩;have:=hm.out;rw[List.take_of_length_le (by rw[HL.out];exact yAC _)]at this;unfold MadeS;rw[HR.out];exact this
 have e1:(K==1)=false:=yA.2 (fun h=>h14 (.inl h));have e4:(K==4)=false:=yA.2 (fun h=>h14 (.inr h));have a0:=HA0.out;have HNI:=zA (HNN.out.trans (if_neg h14));clear h14 HNN
 by_cases h10:K=10
 · subst h10;have hne:x.kids≠[]:=HE.out.first x (List.mem_of_getElem? HXJ.out) (.inl HKX.out);have h0L:0 < x.kids.length:=List.length_pos_iff.2 hne;have h0L':0 < L:=by rw[←HL.out];exact h0L
   obtain⟨mk,hmk,hjm,hml⟩:=HE.out.fwd.kid HXJ.out h0L;obtain⟨bk,ok,rfl,_,hck⟩:=HK.out.spotR h0L;have hkv:=zDT hck h0L;rw[hmk,Nat.add_zero]at hkv;have hk0:zKC x=(mk:Int):=by
    unfold zKC;rw[List.headD_eq_head?_getD,List.head?_eq_getElem?,yAB h0L,hmk];rfl
   rw[HNL.out]at hml;obtain⟨b',o',y,r,hbo,hbB',hy,hC',_⟩:=HNW.out.get hml;simp only[Option.some.injEq,Addr.mk.injEq,and_true]at hbo;obtain⟨rfl,rfl⟩:=hbo;have ky0:=hC'.k0;obtain⟨Ky,hKy⟩:∃Ky,y.kind=Ky:=⟨_,rfl⟩;rw[hKy]at ky0;obtain⟨bq,hbq⟩:∃bq,zMg Ky=bq:=⟨_,rfl⟩;have CE:=zA (fun(wx:World)=>(show Calls prog 87 #[.int .i64 Ky] wx fun e w'=>e=.returned (.bool bq)∧wx=w' by rw[←hbq];exact zH7 Ky wx));have hdk:zMg (knK ts (zKC x))=bq:=by rw[hk0];unfold knK;rw[zAv hy,hKy,hbq]
   have HDK:=zA hdk;have HK0:=zA hk0;have HML:=zA hml;clear hne h0L hmk hjm hck hk0 hy hC' hKy hbq hdk hbB';go_upto_region 13 with(fail)
   go_quiet (first | (go_at_call 87;refine Calls.quiet_of_same ((CE.out _).mono fun _ _ h=>⟨h.1,h.2.symm⟩)))
   obtain⟨W5,hW5⟩:∃W5,W.drewN nq=W5:=⟨_,rfl⟩;rw[hW5];have b5:Below W.heap.size W W5:=by rw[←hW5];exact zk (Below.refl _ _) _
   have p05:W5.cell? ⟨Y,0,none⟩=some (.int .i64 10):=by rw[←hW5];exact p0
   have p15:W5.cell? ⟨Y,1,none⟩=some (.string ⟨x.name.toArray⟩):=by rw[←hW5];exact p1
   have p75:W5.cell? ⟨Y,7,none⟩=some (.slice (some ⟨bk,ok,none⟩) L ck):=by rw[←hW5];exact p7
   have a05:W5.cell? ⟨X,0,none⟩=some (.slice (some ⟨b,o,none⟩) n c):=by rw[←hW5];exact a0
   have B5:=zA b5;have hkv5:W5.cell? ⟨bk,ok,none⟩=some (.int .i64 (mk:Int)):=by rw[←hW5];exact hkv
   clear hW5 b5 p0 p1 p7 a0 hkv ky0 CE;cases bq with
   | true=>
    have CK:=zA (CD.out W5.drew (B5.out.drew) mk HML.out);have HR:=zA (show zAj ts (j:Int)=zEB ts (mk:Int) by rw[HNI.out,if_pos ⟨rfl,HDK.out⟩,HK0.out]);go_upto_region 14 with(fail);go_region_law (go_simp;go_at_call 88;(with_reducible refine CK.out.mono ?_);rintro e3 w3 ⟨v3,rfl,hm3⟩)
    all_goals
     go_wp2_with fail;go_ret;refine⟨_,rfl,HM.out _ _ ?_⟩;rw[HR.out];exact Made.back hm3 B5.out.drew
   | false=>
    have CF:=zA (fun(wx:World)=>(show Calls prog 89 #[.int .i64 10] wx fun e w'=>e=.returned (.bool false)∧wx=w' from zC7 10 wx));have HR:=zA (show zAj ts (j:Int)=[] by rw[HNI.out,if_neg (fun h=>by rw[HDK.out]at h;exact absurd h.2 (by decide)),if_neg (fun h=>absurd h.1 (by decide)),if_neg (by decide)]);go_wp2_with fail;refine(CF.out _).mono ?_;rintro e3 w3 ⟨rfl,rfl⟩;go_wp2_with fail;go_ret;refine⟨_,rfl,HM.out _ _ ?_⟩;rw[HR.out];exact Made.of_below B5.out _
 have e10:(K==10)=false:=yA.2 h10;go_upto_region 13 with(fail)
 go_quiet (fail)
 obtain⟨W5,hW5⟩:∃W5,W.drewN nq=W5:=⟨_,rfl⟩;rw[hW5];have b5:Below W.heap.size W W5:=by rw[←hW5];exact zk (Below.refl _ _) _
 have p05:W5.cell? ⟨Y,0,none⟩=some (.int .i64 K):=by rw[←hW5];exact p0
 have p15:W5.cell? ⟨Y,1,none⟩=some (.string ⟨x.name.toArray⟩):=by rw[←hW5];exact p1
 have p75:W5.cell? ⟨Y,7,none⟩=some (.slice Ak L ck):=by rw[←hW5];exact p7
 have a05:W5.cell? ⟨X,0,none⟩=some (.slice (some ⟨b,o,none⟩) n c):=by rw[←hW5];exact a0
 have B5:=zA b5;clear hW5 b5 p0 p1 p7 a0;have HNJ:=zA (HNI.out.trans (if_neg (fun h=>h10 h.1)));clear h10 HNI
 by_cases h17:K=17
 · subst h17;obtain⟨sv,hsv⟩:∃sv:ByteArray,(⟨x.name.toArray⟩:ByteArray)=sv:=⟨_,rfl⟩;have hsn:sv.toList=x.name:=by rw[←hsv,ByteArray.toList_eq]
   rw[hsv]at p15
   by_cases hs:sv.toList=[]
   · have es:(sv.toList !=[])=false:=by rw[hs];rfl
     have es2:(sv.toList==[])=true:=by rw[hs];rfl
     have HR:=zA (show zAj ts (j:Int)=[] by rw[HNJ.out,if_neg (fun h=>h.2 (by rw[←hsn,hs])),if_neg (by decide)]);have CF:=zA (fun(wx:World)=>(show Calls prog 89 #[.int .i64 17] wx fun e w'=>e=.returned (.bool false)∧wx=w' from zC7 17 wx));clear hs hsn hsv;go_wp2_with fail;refine(CF.out _).mono ?_;rintro e3 w3 ⟨rfl,rfl⟩;go_wp2_with fail;go_ret;refine⟨_,rfl,HM.out _ _ ?_⟩;rw[HR.out];exact Made.of_below B5.out _
   · have es:(sv.toList !=[])=true:=by rw[bne_iff_ne];exact hs
     have es2:(sv.toList==[])=false:=by rw[yA];exact hs
     have HR:=zA (show zBQ (zAj ts (j:Int))=[Value.string sv] by
      rw[HNJ.out,if_pos ⟨rfl,fun h=>hs (by rw[hsn,h])⟩,←hsv];rfl)
     have ML:=zA (Made.lit W5 9 [.string sv] (by simp[maxLen]));clear hs hsn hsv;go_wp2_with fail;go_ret;refine⟨_,rfl,HM.out _ _ ?_⟩;unfold MadeS;rw[HR.out];exact Made.back ML.out B5.out
 have e17:(K==17)=false:=yA.2 h17;have HNK:=zA (HNJ.out.trans (if_neg (fun h=>h17 h.1)));obtain⟨bf,hbf⟩:∃bf,zJ5 K=bf:=⟨_,rfl⟩;have CF:=zA (fun(wx:World)=>(show Calls prog 89 #[.int .i64 K] wx fun e w'=>e=.returned (.bool bf)∧wx=w' by rw[←hbf];exact zC7 K wx));have HBF:=zA hbf;clear h17 HNJ hbf;go_wp2_with fail;refine(CF.out _).mono ?_;rintro e3 w3 ⟨rfl,rfl⟩;cases bf with
 | false=>
  have HR:=zA (show zAj ts (j:Int)=[] by rw[HNK.out,if_neg (by rw[HBF.out];decide)]);go_wp2_with fail;go_ret;refine⟨_,rfl,HM.out _ _ ?_⟩;rw[HR.out];exact Made.of_below B5.out _
 | true=>
  have HR:=zA (show zAj ts (j:Int)=x.kids.flatMap (zG0 ts) by rw[HNK.out,if_pos HBF.out]);have M5:=zA (show Made W W5 9 (.slice none 0 0) (zBQ [])from Made.of_below B5.out _);go_wp2_with fail
  go_loopw [6,98] (fun v i wr=>∃q:Nat,q≤L∧i=.int .i64 (q:Int)∧Hid (Made W wr 9 v (zBQ ((x.kids.take q).flatMap (zG0 ts))))) (fun _ i _=>L - (intOf i).toNat)
  case atStart=>exact⟨0,yAE _,rfl,M5.out⟩
  case round=>
   obtain⟨q,hq,rfl,hm⟩:=hrel;have hbr:=hm.out.below
   by_cases hlt:q < L
   · have hqk:q < x.kids.length:=by rw[HL.out];exact hlt
     obtain⟨mk,hmk,hjm,hml⟩:=HE.out.fwd.kid HXJ.out hqk;obtain⟨bk,ok,rfl,_,hck⟩:=(HK.out.below (hbr.mono hBW)).spotR (by rw[HL.out];omega);have hkv:=zDT hck hqk;rw[hmk]at hkv;rw[HNL.out]at hml;obtain⟨b',o',y,r,hbo,hbB',hy,hC',_⟩:=(HNW.out.below (hbr.mono hBW)).get hml;simp only[Option.some.injEq,Addr.mk.injEq,and_true]at hbo;obtain⟨rfl,rfl⟩:=hbo;have ky0:=hC'.k0;have ky1:=hC'.k1;have a1:=(hbr.cell (p:=⟨X,0,none⟩) hXW).trans HA0.out;have hstep:=zGC (zG0 ts) hqk;rw[hmk]at hstep;have hlen:(zBQ ((x.kids.take q).flatMap (zG0 ts))).length≤16777216:=by
      rw[zC6];have h1:=zDt (zG0 ts) HE.out.par (x.kids.take q);have h2:(x.kids.take q).length≤4096:=by rw[List.length_take];omega
      have h3:(x.kids.take q).length*4096≤4096*4096:=Nat.mul_le_mul_right _ h2;omega
     obtain⟨PRE,hPRE⟩:∃P,zBQ ((x.kids.take q).flatMap (zG0 ts))=P:=⟨_,rfl⟩;have HFIN:=zA (fun(l:List (List UInt8)) (hl:zG0 ts (mk:Int)=l)=>(show PRE++zBQ l=zBQ ((x.kids.take (q+1)).flatMap (zG0 ts)) by rw[hstep,hl,zFZ,hPRE]));have hblk:zG0 ts (mk:Int)=if y.kind=20 then [y.name]else []:=by
      unfold zG0 knK nmN;rw[zAv hy]
     obtain⟨Ky,hKy⟩:∃Ky,y.kind=Ky:=⟨_,rfl⟩;rw[hKy]at hblk ky0;have HBLK:=zA hblk;rw[hPRE]at hm hlen;clear hstep hblk hPRE hy hck hqk hmk hjm hbB' hbr hC' hKy
     by_cases h20:Ky=20
     · have HT:=zA (HFIN.out [y.name] (by rw[HBLK.out,if_pos h20]));subst h20;clear HFIN;go_wp2_with (at_builtin;refine zFY rfl _ _ 58 rfl 9 i0 _ 16 underlying58 hi0 hz0 hz1 hz2 rfl u6 _ rfl hm.out _ rfl rfl (by omega) (by omega) ?_;intro v7 w7 hm7;have H7:=zA (hm7.cells HT.out);clear hm7)
       go_roundw
       case rel=>exact⟨q+1,by omega,by go_num,H7.out⟩
       case measure=>simp[intOf];omega
     · have HT:=zA (HFIN.out [] (by rw[HBLK.out,if_neg h20]));have e20:(Ky==20)=false:=yA.2 h20;clear HFIN h20;have H7:=zA (show Made W wr 9 u6 (zBQ ((x.kids.take (q+1)).flatMap (zG0 ts)))from hm.out.cells (by have:=HT.out;rw[show zBQ []=[]from rfl,List.append_nil]at this;exact this));go_wp2_with fail
       go_roundw
       case rel=>exact⟨q+1,by omega,by go_num,H7.out⟩
       case measure=>simp[intOf];omega
   · obtain rfl:q=L:=by omega
     go_wp2_with fail;go_ret;refine⟨_,rfl,HM.out _ _ ?_⟩;have:=hm.out;rw[List.take_of_length_le (by rw[HL.out];exact yAC _)]at this;unfold MadeS;rw[HR.out];exact this
theorem zKT {ts:List Nd} (hE:EOk ts) {j:Nat} {x:Nd} (hx:ts[j]? =some x) (hk:x.kind=10∨x.kind=18):∃m:Nat,zKC x=(m:Int)∧j < m∧m < ts.length∧∃h:0 < x.kids.length,x.kids[0]=(m:Int):=by
 have h0:0 < x.kids.length:=List.length_pos_iff.2 (hE.first x (List.mem_of_getElem? hx) hk);obtain⟨m,h1,h2,h3⟩:=hE.fwd.kid hx h0;refine⟨m,?_,h2,h3,h0,h1⟩;unfold zKC;rw[List.headD_eq_head?_getD,List.head?_eq_getElem?,yAB h0,h1];rfl
theorem zGD {ts:List Nd} (hE:EOk ts):∀(f g p:Nat),p < ts.length→ts.length - p≤f→ts.length - p≤g→zMh ts f (p:Int)=zMh ts g (p:Int):=by
 intro f
 induction f with
 | zero=>intro g p h h2;omega
 | succ f ih=>
  intro g p hp hf hg;obtain⟨g,rfl⟩:∃k,g=k+1:=⟨g - 1,by omega⟩;rw[zMh,zMh]
  by_cases h:knK ts (p:Int)=18
  · rw[if_pos h,if_pos h];have hx:=yAB hp;unfold knK at h;rw[zAv hx]at h⊢;obtain⟨m,hm,h1,h2,_⟩:=zKT hE hx (.inr h);rw[hm,ih g m h2 (by omega) (by omega)]
  · rw[if_neg h,if_neg h]
theorem zPO {A:Option Addr} {c B n j:Nat} {ts:List Nd} {w:World} (hN:NdsR w B A n ts) (hB:B≤w.heap.size) (hE:EOk ts) (hj:j < n):
 Calls prog 116 #[.agg #[.slice A n c],.int .i64 (j:Int)] w fun e w'=>e=.returned (.int .i64 (laN ts (j:Int)))∧Below w.heap.size w w':=by
 obtain⟨W,hW⟩:∃W,w.alloc (.cells #[.slice A n c] 27)=W:=⟨_,rfl⟩;have bW:Below w.heap.size w W:=by rw[←hW];exact(Below.refl _ _).alloc (yAC _) _
 have sW:W.heap.size=w.heap.size+1:=by rw[←hW];simp
 obtain⟨X,hX⟩:∃X,w.heap.size=X:=⟨_,rfl⟩;have a0:W.cell? ⟨X,0,none⟩=some (.slice A n c):=by rw[←hW,←hX,World.cell?_alloc_at _ _ _ _ rfl];rfl
 have HNW:=zA (hN.below (bW.mono hB));have HNL:=zA hN.1;have HBW:=zA bW;have HE:=zA hE;have H0:=zA (show laN ts (j:Int)=zMh ts (n - j) (j:Int) by
  unfold laN;rw[hN.1];exact zGD hE _ _ j (by rw[hN.1];exact hj) (by rw[hN.1];omega) (by rw[hN.1];exact yAC _))
 clear hN hE hB bW sW;go_enter func116,ntmps116;go_upto_region 1 with(fail);clear hW hX
 go_loop [1] (fun i=>∃p:Nat,p < n∧i=.int .i64 (p:Int)∧Hid (laN ts (j:Int)=zMh ts (n - p) (p:Int))) (fun i=>n - (intOf i).toNat)
 case atStart=>exact⟨j,hj,rfl,H0.out⟩
 case round=>
  obtain⟨p,hp,rfl,hla⟩:=hrel;obtain⟨b',o',y,⟨As,Am,Ak,cs,cm,ck⟩,rfl,hbB',hy,hC',hR'⟩:=HNW.out.get hp;have ky0:=hC'.k0;have ky7:=hC'.k7;have HY:=zA hy;have HK:=zA (show Reads W B 1 Ak y.kids.length (zBC y.kids)from hR'.kids);obtain⟨Ky,hKy⟩:∃Ky,y.kind=Ky:=⟨_,rfl⟩;have hkn:knK ts (p:Int)=Ky:=by unfold knK;rw[zAv hy,hKy]
  obtain⟨f,hf⟩:∃f,n - p=f+1:=⟨n - p - 1,by omega⟩;have hla2:=hla.out;rw[hf,zMh,hkn]at hla2;have HKY:=zA hKy;rw[hKy]at ky0;clear hC' hR' hy hKy hkn hla
  by_cases h18:Ky=18
  · obtain⟨m,hm,hpm,hml,h0,hm0⟩:=zKT HE.out HY.out (.inr (HKY.out.trans h18));rw[if_pos h18,zAv HY.out,hm,zGD HE.out f (n - m) m hml (by rw[HNL.out];omega) (by rw[HNL.out];exact yAC _)]at hla2;rw[HNL.out]at hml;obtain⟨bk,ok,rfl,_,hck⟩:=HK.out.spotR h0;have hkv:=zDT hck h0;rw[hm0,Nat.add_zero]at hkv;have h0':(0:Int) < (y.kids.length:Int):=by omega
    have HL:=zA hla2;subst h18;clear hla2 hm hck hm0 h0;go_wp2_with fail;go_round
    case rel=>exact⟨m,hml,by go_num,HL.out⟩
    case measure=>simp[intOf];omega
  · have e18:(Ky==18)=false:=yA.2 h18;rw[if_neg h18]at hla2;have HL:=zA hla2;clear hla2 h18;go_wp2_with fail;go_ret;exact⟨zDP (by rw[HL.out]),HBW.out⟩
theorem zH9 {w:World} {b o:Nat} {l:List Int} (hc:∀i v,(zBC l)[i]? =some v→w.cell? ⟨b,o+i,none⟩=some v) {q:Nat} (hq:q < l.length):w.cell? ⟨b,o+q,none⟩=some (.int .i64 l[q]):=
 hc q _ (by simp[zBC,yAB hq])
theorem zPP {A Al:Option Addr} {c cl B D n L:Nat} {ts:List Nd} {x:Nd} {s:NdSl} {l:List Int} {w:World} (hN:NdsR w B A n ts) (hB:B≤w.heap.size) (hE:EOk ts) (hl:l.length=L) (hL:L≤4096) (hR:Reads w D 1 Al L (zBC l)) (hD:D≤w.heap.size) (hin:∀k∈l,∃m:Nat,k=(m:Int)∧m < n):
 Calls prog 79 #[.agg #[.slice A n c],.agg #[.int .i64 x.kind,.string ⟨x.name.toArray⟩,.slice s.As x.str.length s.cs,.int .i64 x.nk,.int .i64 x.nn,.bool x.neg,.slice s.Am x.mag.length s.cm,.slice s.Ak x.kids.length s.ck],.slice Al L cl] w fun e w'=>e=.returned (.bool (juN ts x l))∧Below w.heap.size w w':=by
 obtain⟨V,hV⟩:∃V,w.alloc (.cells #[.slice A n c] 27)=V:=⟨_,rfl⟩;obtain⟨W,hW⟩:∃W,V.alloc (.cells #[.int .i64 x.kind,.string ⟨x.name.toArray⟩,.slice s.As x.str.length s.cs,.int .i64 x.nk,.int .i64 x.nn,.bool x.neg,.slice s.Am x.mag.length s.cm,.slice s.Ak x.kids.length s.ck] 48)=W:=⟨_,rfl⟩;have bV:Below w.heap.size w V:=by rw[←hV];exact(Below.refl _ _).alloc (yAC _) _
 have bW:Below V.heap.size V W:=by rw[←hW];exact(Below.refl _ _).alloc (yAC _) _
 have sV:V.heap.size=w.heap.size+1:=by rw[←hV];simp
 have sW:W.heap.size=V.heap.size+1:=by rw[←hW];simp
 obtain⟨X,hX⟩:∃X,w.heap.size=X:=⟨_,rfl⟩;have a0:V.cell? ⟨X,0,none⟩=some (.slice A n c):=by rw[←hV,←hX,World.cell?_alloc_at _ _ _ _ rfl];rfl
 have hXW:X < W.heap.size:=by omega
 have hYW:X+1 < W.heap.size:=by omega
 have HA0:=zA ((bW.cell (p:=⟨X,0,none⟩) (show X < V.heap.size by omega)).trans a0);have HX8:=zA (show X8 W (X+1) x s by rw[←hW,←hX,←sV];exact X8.new V x s);have hWW:(w.alloc (.cells #[.slice A n c] 27)).alloc (.cells #[.int .i64 x.kind,.string ⟨x.name.toArray⟩,.slice s.As x.str.length s.cs,.int .i64 x.nk,.int .i64 x.nn,.bool x.neg,.slice s.Am x.mag.length s.cm,.slice s.Ak x.kids.length s.ck] 48)=W:=by rw[hV,hW]
 have bw:Below w.heap.size w W:=bV.trans (bW.mono bV.size);have HNW:=zA (hN.below (bw.mono hB));have hBW:B≤W.heap.size:=by omega
 have hDW:D≤W.heap.size:=by omega
 have HRW:=zA (hR.below (bw.mono hD));have HBW:=zA bw;have HE:=zA hE;have HL:=zA hl;have HIN:=zA hin;have HBE:=zA (Below.refl W.heap.size W);clear hN hB hE hl hR hD hin bV bW bw a0 hV hW sV sW;go_enter func79,ntmps79;go_upto_region 1 with(fail);clear hWW hX;go_wp2_with fail
 go_loopw [12] (fun i wr=>∃q:Nat,q≤L∧i=.int .i64 (q:Int)∧Hid (juN ts x l=juN ts x (l.drop q))∧Hid (Below W.heap.size W wr)) (fun i _=>L - (intOf i).toNat)
 case atStart=>exact⟨0,yAE _,rfl,rfl,HBE.out⟩
 case round=>
  obtain⟨q,hq,rfl,hju,hbr⟩:=hrel
  by_cases hlt:q < L
  · have hql:q < l.length:=by rw[HL.out];exact hlt
    obtain⟨mk,hmk,hml⟩:=HIN.out l[q] (List.getElem_mem hql);obtain⟨bk,ok,rfl,_,hck⟩:=(HRW.out.below (hbr.out.mono hDW)).spotR (by omega);have hkv:=zH9 hck hql;rw[hmk]at hkv;obtain⟨b',o',y,r,rfl,hbB',hy,hC',_⟩:=(HNW.out.below (hbr.out.mono hBW)).get hml;obtain⟨kc0,kc1,kc2,kc3,kc4,kc5,kc6,kc7⟩:=hC';have a1:=(hbr.out.cell (p:=⟨X,0,none⟩) hXW).trans HA0.out;have hj2:=hju.out;rw[yAH hql,hmk,juN]at hj2;unfold knK nmN at hj2;rw[zAv hy]at hj2;have HJ:=zA hj2;have CL:=zA (fun(wx:World) (hb:Below W.heap.size W wx)=>zPO (c:=c) (HNW.out.below (hb.mono hBW)) (yAD hBW hb.size) HE.out hml);clear hj2 hju hql hmk hck hy hbB';go_upto_region 4 with(fail);go_upto_region 5 with(fail);obtain⟨W1,hW1⟩:∃W1,wr.alloc (.cells #[.int .i64 y.kind,.string ⟨y.name.toArray⟩,.slice r.As y.str.length r.cs,.int .i64 y.nk,.int .i64 y.nn,.bool y.neg,.slice r.Am y.mag.length r.cm,.slice r.Ak y.kids.length r.ck] 48)=W1:=⟨_,rfl⟩;rw[hW1];have b1:Below wr.heap.size wr W1:=by rw[←hW1];exact(Below.refl _ _).alloc (yAC _) _
    have HZ8:=zA (show X8 W1 wr.heap.size y r by rw[←hW1];exact X8.new wr y r);have HB1:=zA (hbr.out.trans (b1.mono hbr.out.size));have hXr:X+1 < wr.heap.size:=yAA hYW hbr.out.size;have a2:=(b1.cell (p:=⟨X,0,none⟩) (show X < wr.heap.size by omega)).trans a1;have HP:=zA (HX8.out.below HB1.out hYW);obtain⟨Z,hZ⟩:∃Z,wr.heap.size=Z:=⟨_,rfl⟩;rw[hZ]at HZ8⊢;clear hW1 b1 hZ kc0 kc1 kc2 kc3 kc4 kc5 kc6 kc7 a1 hbr hkv hXr;obtain⟨z0,z1,_,_,_,_,_,_⟩:=HZ8.out.c;obtain⟨p0,p1,_,_,_,_,_,_⟩:=HP.out.c;obtain⟨Ky,hKy⟩:∃Ky,y.kind=Ky:=⟨_,rfl⟩;obtain⟨K,hK⟩:∃K,x.kind=K:=⟨_,rfl⟩;obtain⟨sx,hsx⟩:∃sv:ByteArray,(⟨x.name.toArray⟩:ByteArray)=sv:=⟨_,rfl⟩;obtain⟨sy,hsy⟩:∃sv:ByteArray,(⟨y.name.toArray⟩:ByteArray)=sv:=⟨_,rfl⟩;have hxn:sx.toList=x.name:=by rw[←hsx,ByteArray.toList_eq]
    have hyn:sy.toList=y.name:=by rw[←hsy,ByteArray.toList_eq]
    rw[hKy]at z0 HJ;rw[hK]at p0 HJ;rw[hsx]at p1;rw[hsy]at z1;have HXN:=zA hxn;have HYN:=zA hyn;have HKX:=zA hK;clear hKy hK hsx hsy hxn hyn
    by_cases hs:sx.toList=[]
    · have es:(sx.toList==[])=true:=by rw[hs];rfl
      have es2:(sx.toList !=[])=false:=by rw[hs];rfl
      have hxe:x.name=[]:=by rw[←HXN.out,hs]
      obtain⟨bq,hbq⟩:∃bq,zQm Ky=bq:=⟨_,rfl⟩;have CE:=zA (fun(wx:World)=>(show Calls prog 115 #[.int .i64 Ky] wx fun e w'=>e=.returned (.bool bq)∧wx=w' by rw[←hbq];exact zH8 Ky wx));have HBQ:=zA hbq;have HXE:=zA hxe;clear hs hbq hxe;go_wp2_with fail;refine(CE.out _).mono ?_;rintro e3 w3 ⟨rfl,rfl⟩;cases bq with
      | true=>
       have HF:=zA (show juN ts x l=true by rw[HJ.out,if_pos ⟨HXE.out,HBQ.out⟩]);go_wp2_with fail;go_ret;exact⟨zD HF.out.symm,HBW.out.trans (HB1.out.mono HBW.out.size)⟩
      | false=>
       have HF:=zA (show juN ts x l=juN ts x (l.drop (q+1)) by rw[HJ.out,if_neg (fun h=>by rw[HBQ.out]at h;exact absurd h.2 (by decide)),if_neg (fun h=>h.1 HXE.out)]);go_wp2_with fail
       go_roundw
       case rel=>exact⟨q+1,by omega,by go_num,HF.out,HB1.out⟩
       case measure=>simp[intOf];omega
    have es:(sx.toList==[])=false:=by rw[yA];exact hs
    have es2:(sx.toList !=[])=true:=by rw[bne_iff_ne];exact hs
    have hxe:x.name≠[]:=fun h=>hs (by rw[HXN.out,h]);have HXE:=zA hxe;clear hs hxe
    by_cases h18:Ky=18
    · by_cases hn:sy.toList=sx.toList
      · have en:(sy.toList==sx.toList)=true:=by rw[hn,beq_self_eq_true]
        have hF:juN ts x l=(K==12 || zQm (laN ts (mk:Int))):=by rw[HJ.out,if_neg (fun h=>HXE.out h.1),if_pos ⟨HXE.out,h18,by rw[←HXN.out,←HYN.out,hn]⟩]
        have HF:=zA hF;subst h18;clear hn hF
        by_cases h12:K=12
        · subst h12;go_wp2_with fail;go_ret;exact⟨zD (by rw[HF.out];rfl),HBW.out.trans (HB1.out.mono HBW.out.size)⟩
        · have e12:(K==12)=false:=yA.2 h12;obtain⟨la,hla⟩:∃z,laN ts (mk:Int)=z:=⟨_,rfl⟩;have CK:=zA (show Calls prog 116 #[.agg #[.slice (some ⟨b',o',none⟩) n c],.int .i64 (mk:Int)] W1 fun e w'=>e=.returned (.int .i64 la)∧Below W1.heap.size W1 w' by rw[←hla];exact CL.out W1 HB1.out);have HLA:=zA hla;have CE:=zA (fun(wx:World)=>zH8 la wx);clear h12 hla;go_wp2_with fail;refine CK.out.mono ?_;rintro e4 w4 ⟨rfl,hb4⟩;have HB4:=zA (HB1.out.trans (hb4.mono HB1.out.size));clear hb4;go_wp2_with fail;refine(CE.out _).mono ?_;rintro e5 w5 ⟨rfl,rfl⟩;go_wp2_with fail;go_ret;exact⟨zD (by rw[HF.out,HLA.out,e12];simp),HBW.out.trans (HB4.out.mono HBW.out.size)⟩
      · have en:(sy.toList==sx.toList)=false:=by rw[yA];exact hn
        have HF:=zA (show juN ts x l=juN ts x (l.drop (q+1)) by rw[HJ.out,if_neg (fun h=>HXE.out h.1),if_neg (fun h=>hn (by rw[HXN.out,HYN.out,h.2.2]))]);subst h18;clear hn;go_wp2_with fail
        go_roundw
        case rel=>exact⟨q+1,by omega,by go_num,HF.out,HB1.out⟩
        case measure=>simp[intOf];omega
    · have e18:(Ky==18)=false:=yA.2 h18;have HF:=zA (show juN ts x l=juN ts x (l.drop (q+1)) by rw[HJ.out,if_neg (fun h=>HXE.out h.1),if_neg (fun h=>h18 h.2.1)]);clear h18;go_wp2_with fail
      go_roundw
      case rel=>exact⟨q+1,by omega,by go_num,HF.out,HB1.out⟩
      case measure=>simp[intOf];omega
  · obtain rfl:q=L:=by omega
    have HF:=zA (show juN ts x l=false by
     have:=hju.out;rw[List.drop_of_length_le (by rw[HL.out];exact yAC _)]at this;exact this)
    go_wp2_with fail;go_ret;exact⟨zD HF.out.symm,HBW.out.trans (hbr.out.mono HBW.out.size)⟩
end Go.Proofs.YtlohaclgbfhijaaGreatDoor
