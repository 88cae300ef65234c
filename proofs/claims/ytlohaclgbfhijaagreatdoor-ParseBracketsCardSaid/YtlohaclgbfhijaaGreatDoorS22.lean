/- Joined for the claim ParseBlocks: the parser, the lexer and the trees as they are walked, made short by a program of mine. -/
import Derived.Test.YtlohaclgbfhijaaGreatDoorS20
import Derived.Test.YtlohaclgbfhijaaGreatDoorS03
import Derived.Deep.CutBlock
import Derived.Deep.DeepCutAuto
import Derived.Deep.LoopGhost
import Derived.Test.YtlohaclgbfhijaaGreatDoorS01
import Derived.OwnWalk
import Derived.Laws.OwnMore
import Derived.Test.YtlohaclgbfhijaaGreatDoorS12
import Derived.Test.YtlohaclgbfhijaaGreatDoorS21
import Derived.Test.YtlohaclgbfhijaaGreatDoorS09
import Derived.Test.YtlohaclgbfhijaaGreatDoorS08
set_option maxHeartbeats 16000000
set_option maxRecDepth 1000000
namespace Go.Proofs.YtlohaclgbfhijaaGreatDoor
open Go.Proofs.Tryz
structure NQ (x:Nd):Prop where
 kb: -9223372036854775808≤x.kind∧x.kind≤9223372036854775807
 nkb: -9223372036854775808≤x.nk∧x.nk≤9223372036854775807
 nnb: -9223372036854775808≤x.nn∧x.nn≤9223372036854775807
 nm:x.name.length≤4096
 limb:∀y∈x.mag,y < 4294967296
inductive NB:Tr→Prop
 | mk {x:Nd} {l:List Tr}:NQ x→(∀t∈l,NB t)→NB (.mk x l)
theorem NB.subs {t:Tr} (h:NB t):∀a∈t.subs,NB a:=by cases h with | mk _ h2=>exact h2
theorem NB.nd {t:Tr} (h:NB t):NQ t.nd:=by cases h with | mk h1 _=>exact h1
def Kb (k:Int):Prop:= -9223372036854775808≤k∧k≤9223372036854775807
theorem nbK {k:Int} {l:List Tr} (hk:Kb k) (h:∀t∈l,NB t):NB (trK k l):=.mk ⟨hk,by simp[zBS],by simp[zBS],by simp[zBS],by simp[zBS]⟩ h
theorem nbN {k:Int} {n:List UInt8} {l:List Tr} (hk:Kb k) (hn:n.length≤4096) (h:∀t∈l,NB t):NB (trN k n l):=.mk ⟨hk,by simp[zBS],by simp[zBS],hn,by simp[zBS]⟩ h
theorem zNw {a:Tr} {r:List Tr} (h:NB a) (k:∀t∈r,NB t):∀t∈a::r,NB t:=fun t ht=>(List.mem_cons.1 ht).elim (fun e=>e▸h) (k t)
def PhN:Ph→Prop
 | .program acc=>∀t∈acc,NB t
 | .blockL acc=>∀t∈acc,NB t
 | .declL k acc=>Kb k∧∀t∈acc,NB t
 | .func k n=>Kb k∧n.length≤4096
 | .paramL acc=>∀t∈acc,NB t
 | .jump k=>Kb k
 | .body l=>∀t∈l,NB t
 | .nullL x=>NB x
 | .orL x=>NB x
 | .both x=>NB x
 | .levelL _ x=>NB x
 | .callsL x=>NB x
 | .headL x=>NB x
 | .listL _ acc=>∀t∈acc,NB t
 | .objL acc=>∀t∈acc,NB t
 | _=>True
def TLm (L:List Tok):Prop:=∀i,∀y∈(zH L i).mag,y < 4294967296
section
variable {L:List Tok} {R:Ph→Ps→Tr×Ps}
theorem zDp (hT:TL L) (s:Ps):(zW L s).1.length≤4096:=by
 unfold zW;split
 · exact(hT _).len
 · exact yAF _
theorem zi {c:Prop} [Decidable c] {a b:Tr×Ps} (h1:NB a.1) (h2:NB b.1):NB (if c then a else b).1:=by split<;>assumption
theorem zTO (hT:TL L) (hM:TLm L) (hR:∀q s,PhN q→NB (R q s).1) (p:Ph) (s:Ps) (hp:PhN p):NB (zF L R p s).1:=by
 have tx:∀i,(zH L i).text.length≤4096:=fun i=>(hT i).len;have h0:∀q s,PhN q→NB (R q s).1:=hR;cases p with
 | program acc=>
  unfold zF;dsimp only;refine zi ?_ ?_
  · exact nbK (by unfold Kb;decide) hp
  · exact hR _ _ (zAW hp (hR _ _ (by exact trivial)))
 | block=>exact hR _ _ zB2
 | blockL acc=>
  unfold zF;dsimp only;refine zi ?_ ?_
  · exact nbK (by unfold Kb;decide) hp
  · refine zi ?_ ?_
    · exact nbK (by unfold Kb;decide) hp
    · exact hR _ _ (zAW hp (hR _ _ (by exact trivial)))
 | item=>
  unfold zF;dsimp only;refine zi ?_ ?_
  · exact hR _ _ (by exact trivial)
  · refine zi ?_ ?_
    · exact hR _ _ ⟨by unfold Kb;decide,zDp hT _⟩
    · exact hR _ _ (by exact trivial)
 | declares=>
  unfold zF;dsimp only;refine zi ?_ ?_
  · exact hR _ _ ⟨by unfold Kb;decide,zB2⟩
  · exact hR _ _ ⟨by unfold Kb;decide,zB2⟩
 | declL k acc=>
  unfold zF;dsimp only;generalize hD:(if onP L [61] (zW L s).2=true then(trN 7 (zW L s).1 [(R .assign (zB (zW L s).2)).1],(R .assign (zB (zW L s).2)).2)else(trN 7 (zW L s).1 [],(zW L s).2):Tr×Ps)=d;have hd:NB d.1:=by
   rw[←hD];refine zi ?_ ?_
   · exact nbN (by unfold Kb;decide) (zDp hT _) (zEu (hR _ _ (by exact trivial)))
   · exact nbN (by unfold Kb;decide) (zDp hT _) zB2
  clear hD;refine zi ?_ ?_
  · exact nbK hp.1 (zAW hp.2 hd)
  · refine zi ?_ ?_
    · exact hR _ _ ⟨hp.1,zAW hp.2 hd⟩
    · exact nbK hp.1 (zAW hp.2 hd)
 | func k n=>
  unfold zF;dsimp only;exact nbN hp.1 hp.2 (zAW (hR _ _ (by exact trivial)).subs (hR _ _ (by exact trivial)))
 | params=>
  unfold zF;dsimp only;refine zi ?_ ?_
  · exact nbK (by unfold Kb;decide) zB2
  · exact hR _ _ zB2
 | paramL acc=>
  unfold zF;dsimp only;have ha:∀t∈acc++[trN 20 (zW L s).1 []],NB t:=zAW hp (nbN (by unfold Kb;decide) (zDp hT _) zB2);refine zi ?_ ?_
  · exact nbK (by unfold Kb;decide) ha
  · refine zi ?_ ?_
    · exact nbK (by unfold Kb;decide) ha
    · exact hR _ _ ha
 | statement=>
  unfold zF;dsimp only;refine zi ?_ ?_
  · exact nbN (by unfold Kb;decide) (tx _) (zEu (hR _ _ (by exact trivial)))
  · refine zi ?_ ?_
    · exact hR _ _ (by exact trivial)
    · refine zi ?_ ?_
      · exact nbK (by unfold Kb;decide) zB2
      · refine zi ?_ ?_
        · exact hR _ _ (by exact trivial)
        · exact hR _ _ (by exact trivial)
 | simple=>
  unfold zF;dsimp only;exact nbK (by unfold Kb;decide) (zEu (hR _ _ (by exact trivial)))
 | word w=>
  unfold zF;dsimp only;refine zi ?_ ?_
  · refine zi ?_ ?_
    · exact nbK (by unfold Kb;decide) (zRo (hR _ _ (by exact trivial)) (hR _ _ (by exact trivial)) (hR _ _ (by exact trivial)))
    · exact nbK (by unfold Kb;decide) (zIH (hR _ _ (by exact trivial)) (hR _ _ (by exact trivial)))
  · refine zi ?_ ?_
    · exact nbK (by unfold Kb;decide) (zIH (hR _ _ (by exact trivial)) (hR _ _ (by exact trivial)))
    · refine zi ?_ ?_
      · exact hR _ _ (by exact trivial)
      · refine zi ?_ ?_
        · exact hR _ _ (by show Kb _;unfold Kb;decide)
        · refine zi ?_ ?_
          · exact hR _ _ (by show Kb _;unfold Kb;decide)
          · refine zi ?_ ?_
            · refine zi ?_ ?_
              · exact nbK (by unfold Kb;decide) zB2
              · exact nbK (by unfold Kb;decide) (zEu (hR _ _ (by exact trivial)))
            · refine zi ?_ ?_
              · exact nbK (by unfold Kb;decide) (zEu (hR _ _ (by exact trivial)))
              · refine zi ?_ ?_
                · exact hR _ _ (by exact trivial)
                · refine zi ?_ ?_
                  · exact nbK (by unfold Kb;decide) zB2
                  · exact hR _ _ (by exact trivial)
 | within=>exact hR _ _ (by exact trivial)
 | clause w=>
  unfold zF;dsimp only;refine zi ?_ ?_
  · exact nbK (by unfold Kb;decide) zB2
  · exact hR _ _ (by exact trivial)
 | loop=>
  unfold zF;dsimp only;refine nbK (by unfold Kb;decide) (zU0 ?_ (hR _ _ (by exact trivial)) (hR _ _ (by exact trivial)) (hR _ _ (by exact trivial)));refine zi ?_ ?_
  · exact hR _ _ (by exact trivial)
  · exact hR _ _ (by exact trivial)
 | jump k=>
  unfold zF;dsimp only;refine zi ?_ ?_
  · exact nbN hp (zDp hT _) zB2
  · exact nbK hp zB2
 | tries=>
  unfold zF;dsimp only;have hcx:∀s1:Ps,NB (if onP L [99,97,116,99,104] s1=true then
   ((trN 17 (if onP L [40] (zB s1)=true then((zW L (zB (zB s1))).1,zM L [41] (zW L (zB (zB s1))).2)else([],zB s1)).1 [(R .block (if onP L [40] (zB s1)=true then((zW L (zB (zB s1))).1,zM L [41] (zW L (zB (zB s1))).2)else([],zB s1)).2).1],(R .block (if onP L [40] (zB s1)=true then((zW L (zB (zB s1))).1,zM L [41] (zW L (zB (zB s1))).2)else([],zB s1)).2).2))
   else(trK 11 [],s1)).1:=by
   intro s1;refine zi ?_ ?_
   · refine nbN (by unfold Kb;decide) ?_ (zEu (hR _ _ (by exact trivial)));split
     · exact zDp hT _
     · exact yAF _
   · exact nbK (by unfold Kb;decide) zB2
  refine zi ?_ ?_
  · exact nbK (by unfold Kb;decide) (zRo (hR _ _ (by exact trivial)) (hcx _) (hR _ _ (by exact trivial)))
  · exact nbK (by unfold Kb;decide) (zRo (hR _ _ (by exact trivial)) (hcx _) (nbK (by unfold Kb;decide) zB2))
 | assign=>
  unfold zF;dsimp only;refine zi ?_ ?_
  · exact hR _ _ (zEu (nbN (by unfold Kb;decide) (tx _) zB2))
  · refine zi ?_ ?_
    · exact hR _ _ (hR _ _ (by exact trivial)).subs
    · refine zi ?_ ?_
      · exact hR _ _ (by exact trivial)
      · refine zi ?_ ?_
        · exact hR _ _ (by exact trivial)
        · exact nbN (by unfold Kb;decide) (tx _) (zIH (hR _ _ (by exact trivial)) (hR _ _ (by exact trivial)))
 | body l=>
  unfold zF;dsimp only;refine nbK (by unfold Kb;decide) (zAW hp ?_);refine zi ?_ ?_
  · exact hR _ _ (by exact trivial)
  · exact hR _ _ (by exact trivial)
 | cond=>
  unfold zF;dsimp only;refine zi ?_ ?_
  · exact nbK (by unfold Kb;decide) (zRo (hR _ _ (by exact trivial)) (hR _ _ (by exact trivial)) (hR _ _ (by exact trivial)))
  · exact hR _ _ (by exact trivial)
 | either=>
  unfold zF;dsimp only;refine zi ?_ ?_
  · exact hR _ _ (hR _ _ (by exact trivial))
  · exact hR _ _ (hR _ _ (hR _ _ (by exact trivial)))
 | nullL x=>
  unfold zF;dsimp only;refine zi ?_ ?_
  · exact hR _ _ (nbN (by unfold Kb;decide) (by decide) (zIH hp (hR _ _ (by exact trivial))))
  · exact hp
 | orL x=>
  unfold zF;dsimp only;refine zi ?_ ?_
  · exact hR _ _ (nbN (by unfold Kb;decide) (by decide) (zIH hp (hR _ _ (hR _ _ (by exact trivial)))))
  · exact hp
 | both x=>
  unfold zF;dsimp only;refine zi ?_ ?_
  · exact hR _ _ (nbN (by unfold Kb;decide) (by decide) (zIH hp (hR _ _ (by exact trivial))))
  · exact hp
 | level n=>
  unfold zF;dsimp only;refine zi ?_ ?_
  · exact hR _ _ (by exact trivial)
  · exact hR _ _ (hR _ _ (by exact trivial))
 | levelL n x=>
  unfold zF;dsimp only;refine zi ?_ ?_
  · exact hR _ _ (nbN (by unfold Kb;decide) (tx _) (zIH hp (hR _ _ (by exact trivial))))
  · exact hp
 | unary=>
  unfold zF;dsimp only;refine zi ?_ ?_
  · exact nbN (by unfold Kb;decide) (tx _) (zEu (hR _ _ (by exact trivial)))
  · refine zi ?_ ?_
    · exact nbN (by unfold Kb;decide) (tx _) (zEu (hR _ _ (by exact trivial)))
    · refine zi ?_ ?_
      · refine zi ?_ ?_
        · exact hR _ _ (by exact trivial)
        · exact nbN (by unfold Kb;decide) (tx _) (zEu (hR _ _ (by exact trivial)))
      · exact hR _ _ (by exact trivial)
 | calls=>exact hR _ _ (hR _ _ (by exact trivial))
 | callsL x=>
  unfold zF;dsimp only;refine zi ?_ ?_
  · exact hR _ _ (nbK (by unfold Kb;decide) (zNw hp (hR _ _ (by exact trivial)).subs))
  · refine zi ?_ ?_
    · refine zi ?_ ?_
      · exact hp
      · exact hR _ _ (nbN (by unfold Kb;decide) (tx _) (zEu hp))
    · refine zi ?_ ?_
      · exact hR _ _ (nbK (by unfold Kb;decide) (zIH hp (hR _ _ (by exact trivial))))
      · exact hp
 | head=>
  unfold zF;dsimp only;refine zi ?_ ?_
  · refine zi ?_ ?_
    · exact nbK (by unfold Kb;decide) (zNw (hR _ _ (hR _ _ (by exact trivial))) (hR _ _ (by exact trivial)).subs)
    · exact nbK (by unfold Kb;decide) (zEu (hR _ _ (hR _ _ (by exact trivial))))
  · exact hR _ _ (by exact trivial)
 | headL x=>
  unfold zF;dsimp only;refine zi ?_ ?_
  · refine zi ?_ ?_
    · exact hp
    · exact hR _ _ (nbN (by unfold Kb;decide) (tx _) (zEu hp))
  · refine zi ?_ ?_
    · exact hR _ _ (nbK (by unfold Kb;decide) (zIH hp (hR _ _ (by exact trivial))))
    · exact hp
 | args=>exact hR _ _ (by exact trivial)
 | list w=>
  unfold zF;dsimp only;refine zi ?_ ?_
  · exact nbK (by unfold Kb;decide) zB2
  · exact hR _ _ zB2
 | listL w acc=>
  unfold zF;dsimp only;have ha:∀t∈acc++[(R .assign s).1],NB t:=zAW hp (hR _ _ (by exact trivial));refine zi ?_ ?_
  · exact nbK (by unfold Kb;decide) ha
  · refine zi ?_ ?_
    · exact nbK (by unfold Kb;decide) ha
    · exact hR _ _ ha
 | primary=>
  unfold zF;dsimp only;refine zi ?_ ?_
  · exact nbK (by unfold Kb;decide) zB2
  by_cases h2:(zH L s.k).kind=2
  · rw[if_pos h2];have:=(hT s.k).num h2;exact .mk ⟨by simp,by simp only;omega,by simp only;omega,by simp[zBS],by simp[zBS]⟩ zB2
  rw[if_neg h2];refine zi ?_ ?_
  · exact .mk ⟨by simp,by simp[zBS],by simp[zBS],by simp[zBS],hM _⟩ zB2
  refine zi ?_ ?_
  · exact .mk ⟨by simp,by simp[zBS],by simp[zBS],by simp[zBS],by simp[zBS]⟩ zB2
  refine zi ?_ ?_
  · exact nbN (by unfold Kb;decide) (tx _) zB2
  refine zi ?_ ?_
  · exact nbK (by unfold Kb;decide) zB2
  refine zi ?_ ?_
  · exact nbK (by unfold Kb;decide) zB2
  refine zi ?_ ?_
  · exact nbK (by unfold Kb;decide) zB2
  refine zi ?_ ?_
  · exact nbK (by unfold Kb;decide) zB2
  refine zi ?_ ?_
  · exact nbK (by unfold Kb;decide) (hR _ _ (by exact trivial)).subs
  refine zi ?_ ?_
  · exact hR _ _ (by exact trivial)
  refine zi ?_ ?_
  · refine zi ?_ ?_
    · exact hR _ _ ⟨by unfold Kb;decide,zDp hT _⟩
    · exact hR _ _ ⟨by unfold Kb;decide,by decide⟩
  refine zi ?_ ?_
  · exact hR _ _ (by exact trivial)
  · exact nbK (by unfold Kb;decide) zB2
 | object=>
  unfold zF;dsimp only;refine zi ?_ ?_
  · exact nbK (by unfold Kb;decide) zB2
  · exact hR _ _ zB2
 | objL acc=>
  unfold zF;dsimp only;have ha:∀t∈acc++[(R .prop s).1],NB t:=zAW hp (hR _ _ (by exact trivial));refine zi ?_ ?_
  · exact nbK (by unfold Kb;decide) ha
  · refine zi ?_ ?_
    · exact nbK (by unfold Kb;decide) ha
    · exact hR _ _ ha
 | prop=>
  unfold zF;dsimp only;split
  · exact nbK (by unfold Kb;decide) zB2
  · split
    · exact .mk ⟨by simp,by simp[zBS],by simp[zBS],by simp[zBS],by simp[zBS]⟩ (zEu (nbN (by unfold Kb;decide) (tx _) zB2))
    · exact .mk ⟨by simp,by simp[zBS],by simp[zBS],by simp[zBS],by simp[zBS]⟩ (zEu (hR _ _ (by exact trivial)))
end
theorem zT9 {L:List Tok} (hT:TL L) (hM:TLm L):∀(f:Nat) (p:Ph) (s:Ps),PhN p→NB (zCL L f p s).1:=by
 intro f
 induction f with
 | zero=>intro p s _;exact nbK (by unfold Kb;decide) zB2
 | succ f ih=>intro p s hp;exact zTO hT hM ih p s hp
theorem zUA {L:List Tok} (hT:TL L) (hM:TLm L) (p:Ph) (s:Ps) (hp:PhN p):NB (zG L p s).1:=zT9 hT hM _ p s hp
def zAl (ts:List Nd):List Int:=ts.flatMap (·.kids)
theorem zEj (x:Nd) (r:List Nd):zAl (x::r)=x.kids++zAl r:=rfl
theorem zCr (a b:List Nd):zAl (a++b)=zAl a++zAl b:=List.flatMap_append ..
mutual
theorem countT (n:Nat) (t:Tr) (i:Nat):(zAl (flatT n t)).count (i:Int)=if n < i∧i < n+t.size then 1 else 0:=by
 cases t with
 | mk x l=>
  rw[zAZ,zEj,List.count_append,zd];have:=countL (n+1) l i;show(zv (n+1) l).count (i:Int)+_=_;rw[this];congr 1;rw[eq_iff_iff];omega
theorem countL (n:Nat) (l:List Tr) (i:Nat):(zv n l).count (i:Int)+(zAl (flatL n l)).count (i:Int)=if n≤i∧i < n+sizes l then 1 else 0:=by
 cases l with
 | nil=>
  rw[zAX,zO,if_neg (by omega)];rfl
 | cons t r=>
  rw[zAI,zCr,List.count_append,zL];have h1:=countT n t i;have h2:=countL (n+t.size) r i;have h3:=zBm t;show((n:Int)::zv (n+t.size) r).count (i:Int)+_=_;rw[List.count_cons,h1]
  by_cases e:i=n
  · subst e;have h4:¬(i+t.size≤i∧i < i+t.size+sizes r):=by omega
    rw[if_neg h4]at h2;rw[if_pos (by simp),if_neg (by omega),if_pos (by omega)];omega
  · have h5:((n:Int)==(i:Int))=false:=yA.2 (by omega);rw[h5,if_neg (by simp)]
    by_cases h6:n < i∧i < n+t.size
    · rw[if_neg (by omega)]at h2;rw[if_pos h6,if_pos (by omega)];omega
    · by_cases h7:n+t.size≤i∧i < n+t.size+sizes r
      · rw[if_pos h7]at h2;rw[if_neg h6,if_pos (by omega)];omega
      · rw[if_neg h7]at h2;rw[if_neg h6,if_neg (by omega)];omega
end
theorem zNx (v:Nat):∀(l:List Tr) (n k:Nat),(k:Int)∈zv n l→(depsL v l)[k - n]? =some v:=by
 intro l
 induction l with
 | nil=>intro n k h;cases h
 | cons t r ih=>
  intro n k h;have hp:=zBm t;rw[zCY];rcases List.mem_cons.1 h with h | h
  · obtain rfl:k=n:=by omega
    rw[Nat.sub_self,List.getElem?_append_left (by rw[depsT_len];omega)];cases t;rw[zCl];rfl
  · have h2:=zBa h;rw[List.getElem?_append_right (by rw[depsT_len];omega),depsT_len,Nat.sub_sub];exact ih (n+t.size) k h
mutual
theorem kidsT (n v:Nat) (t:Tr) (i:Nat) (x:Nd) (h:(flatT n t)[i]? =some x):
 (∀k∈x.kids,((n+i:Nat):Int) < k∧k < ((n+t.size:Nat):Int))∧(∀k,x.kids[0]? =some k→k=((n+i+1:Nat):Int))∧(∀k:Nat,(k:Int)∈x.kids→∃d,(depsT v t)[i]? =some d∧(depsT v t)[k - n]? =some (d+1)):=by
 cases t with
 | mk y l=>
  rw[zAZ]at h;rw[zCl,zd];cases i with
  | zero=>
   obtain rfl:{y with kids:=zv (n+1) l}=x:=Option.some.inj h;refine⟨fun k hk=>by have:=zBa hk;omega,fun k hk=>?_,fun k hk=>⟨v,rfl,?_⟩⟩
   · cases l with
     | nil=>cases hk
     | cons t r=>obtain rfl:((n+1:Nat):Int)=k:=Option.some.inj hk;omega
   · have h2:=zBa hk;rw[show k - n=(k - (n+1))+1 by omega,List.getElem?_cons_succ];exact zNx (v+1) l (n+1) k hk
  | succ i=>
   rw[List.getElem?_cons_succ]at h;obtain⟨h1,h2,h3⟩:=kidsL (n+1) (v+1) l i x h;refine⟨fun k hk=>by have:=h1 k hk;omega,fun k hk=>by have:=h2 k hk;omega,fun k hk=>?_⟩;obtain⟨d,h4,h5⟩:=h3 k hk;have:=(h1 k hk).1;exact⟨d,by rw[List.getElem?_cons_succ];exact h4,by rw[show k - n=(k - (n+1))+1 by omega,List.getElem?_cons_succ];exact h5⟩
theorem kidsL (n v:Nat) (l:List Tr) (i:Nat) (x:Nd) (h:(flatL n l)[i]? =some x):
 (∀k∈x.kids,((n+i:Nat):Int) < k∧k < ((n+sizes l:Nat):Int))∧(∀k,x.kids[0]? =some k→k=((n+i+1:Nat):Int))∧(∀k:Nat,(k:Int)∈x.kids→∃d,(depsL v l)[i]? =some d∧(depsL v l)[k - n]? =some (d+1)):=by
 cases l with
 | nil=>rw[zAX]at h;cases h
 | cons t r=>
  rw[zAI]at h;rw[zCY,zL]
  by_cases hi:i < t.size
  · rw[List.getElem?_append_left (by rw[flatT_len];exact hi)]at h;obtain⟨h1,h2,h3⟩:=kidsT n v t i x h;refine⟨fun k hk=>by have:=h1 k hk;omega,h2,fun k hk=>?_⟩;obtain⟨d,h4,h5⟩:=h3 k hk;have:=h1 k hk;exact⟨d,by rw[List.getElem?_append_left (by rw[depsT_len];omega)];exact h4,by rw[List.getElem?_append_left (by rw[depsT_len];omega)];exact h5⟩
  · rw[List.getElem?_append_right (by rw[flatT_len];omega),flatT_len]at h;obtain⟨h1,h2,h3⟩:=kidsL (n+t.size) v r (i - t.size) x h;refine⟨fun k hk=>by have:=h1 k hk;omega,fun k hk=>by have:=h2 k hk;omega,fun k hk=>?_⟩;obtain⟨d,h4,h5⟩:=h3 k hk;have:=h1 k hk;exact⟨d,by rw[List.getElem?_append_right (by rw[depsT_len];omega),depsT_len];exact h4,by rw[List.getElem?_append_right (by rw[depsT_len];omega),depsT_len,Nat.sub_sub];exact h5⟩
end
structure Ordered (ts:List Nd) (D:List Nat):Prop where
 len:D.length=ts.length
 head:D[0]? =some 1
 lo:∀(n:Nat) (h:n < ts.length),∀k∈ts[n].kids,(n:Int) < k∧k < (ts.length:Int)
 first:∀(n:Nat) (h:n < ts.length) (k:Int),ts[n].kids[0]? =some k→k=(n:Int)+1
 deep:∀(n:Nat) (h:n < ts.length) (k:Nat),(k:Int)∈ts[n].kids→∃d,D[n]? =some d∧D[k]? =some (d+1)
 once:∀k:Nat,1≤k→k < ts.length→(zAl ts).count (k:Int)=1
theorem zHs (t:Tr):Ordered (flatT 0 t) (depsT 1 t):=by
 have hl:=flatT_len 0 t;refine⟨by rw[depsT_len,hl],by cases t;rw[zCl];rfl,fun n h k hk=>?_,fun n h k hk=>?_,fun n h k hk=>?_,fun k h1 h2=>?_⟩
 · have:=(kidsT 0 1 t n _ (yAC h)).1 k hk;rw[hl];omega
 · have:=(kidsT 0 1 t n _ (yAC h)).2.1 k hk;omega
 · have:=(kidsT 0 1 t n _ (yAC h)).2.2 k hk;simpa using this
 · rw[countT,if_pos (by omega)]
open Go.RowKit
def Fwd (ts:List Nd):Prop:=∀(n:Nat) (x:Nd),ts[n]? =some x→∀k∈x.kids,(n:Int) < k∧k < (ts.length:Int)
theorem zHt {ts:List Nd} (h:zB0 ts=true):Fwd ts:=by
 obtain⟨t,rfl⟩:=zF1 h;intro n x hx k hk;obtain⟨hl,rfl⟩:=List.getElem?_eq_some_iff.1 hx;exact(zHs t).lo n hl k hk
theorem zJl {ts:List Nd} {m:Nat} {x:Nd} (h:ts[m]? =some x):atN ts (m:Int)=x:=by
 unfold atN;rw[yAH,Int.toNat_natCast,h];rfl
def DanAt (ts:List Nd) (n m:Nat) (q:Bool):Prop:=∃f,n - m≤f∧zJ0 f ts (m:Int)=q
theorem DanAt.step {ts:List Nd} {n m:Nat} {q:Bool} {x:Nd} (h:DanAt ts n m q) (hm:m < n) (hx:ts[m]? =some x):
 (if x.kind=8∧x.kids.length=2 then true=q else if x.kind=8∨x.kind=9∨x.kind=10∨x.kind=18 then(x.kids=[]→false=q)∧(∀k:Nat,x.kids.getLast? =some (k:Int)→m < k→DanAt ts n k q)else false=q):=by
 obtain⟨f,hf,hd⟩:=h;obtain⟨g,rfl⟩:∃g,f=g+1:=⟨f - 1,by omega⟩;unfold zJ0 at hd;rw[zJl hx]at hd;split
 · rename_i h1;rw[if_pos h1]at hd;exact hd
 · rename_i h1
   rw[if_neg h1]at hd;split
   · rename_i h2
     rw[if_pos h2]at hd;refine⟨fun e=>by rw[e]at hd;exact hd,fun k hk hmk=>?_⟩;rw[hk]at hd;exact⟨g,by omega,hd⟩
   · rename_i h2;rw[if_neg h2]at hd;exact hd
theorem zFZ {A:Option Addr} {c B n m:Nat} {ts:List Nd} {w:World} (hN:NdsR w B A n ts) (hB:B≤w.heap.size) (hf:Fwd ts) (hkl:∀x∈ts,x.kids.length≤1000000) (hmn:m < n) {q:Bool} (hq:zC2 ts (m:Int)=q):
 Calls prog 86 #[.agg #[.slice A n c],.int .i64 (m:Int)] w fun e w'=>e=.returned (.bool q)∧Below w.heap.size w w':=by
 obtain⟨W,hW⟩:∃W,w.alloc (.cells #[.slice A n c] 27)=W:=⟨_,rfl⟩;have hbW:Below w.heap.size w W:=by rw[←hW];exact(Below.refl _ _).alloc (yAD _) _
 have hsW:W.heap.size=w.heap.size+1:=by rw[←hW];simp
 have hNW:=zD ((hN.below (hbW.mono hB)));have hcW:W.cell? ⟨w.heap.size,0,none⟩=some (.slice A n c):=by rw[←hW,World.cell?_alloc_at _ _ _ _ rfl];rfl
 have HD:=zD (show DanAt ts n m q from⟨ts.length,by rw[hN.1];omega,hq⟩);have HBW:=zD hbW;have HF:=zD hf;have HKL:=zD hkl;have HLN:=zD hN.1;have HB:=zD hB;clear hq hbW hN hf hkl;go_enter func86,ntmps86;go_upto_region 1 with(fail);have HW:=zD hW;clear hW
 go_loopw [1] (fun v wr=>∃k:Nat,k < n∧v=.int .i64 k∧Hid (DanAt ts n k q)∧Hid (Below W.heap.size W wr)) (fun v _=>n - (intOf v).toNat)
 case atStart=>exact⟨m,hmn,rfl,HD.out,Below.refl _ _⟩
 case round=>
  obtain⟨k,hk,rfl,hd,hbr⟩:=hrel;obtain⟨b,o,x,s,rfl,hbB,hx,hC,hR⟩:=(hNW.out.below (hbr.out.mono (by omega))).get hk;obtain⟨kc0,kc1,kc2,kc3,kc4,kc5,kc6,kc7⟩:=hC;have hbx:wr.cell? ⟨w.heap.size,0,none⟩=some (.slice (some ⟨b,o,none⟩) n c):=(hbr.out.cell (p:=⟨w.heap.size,0,none⟩) (show w.heap.size < W.heap.size by omega)).trans hcW;have hst:=hd.out.step hk hx;have hfw:=HF.out k x hx;have hxl:=HKL.out x (List.mem_of_getElem? hx);rw[HLN.out]at hfw;have hsz:=hbr.out.size;obtain⟨K,hK⟩:∃K,x.kind=K:=⟨_,rfl⟩;rw[hK]at kc0 hst;clear hx hd hK hmn;go_upto_region 2 with(fail);obtain⟨W1,hW1⟩:∃W1,wr.alloc (.cells #[.int .i64 K,.string ⟨x.name.toArray⟩,.slice s.As x.str.length s.cs,.int .i64 x.nk,.int .i64 x.nn,.bool x.neg,.slice s.Am x.mag.length s.cm,.slice s.Ak x.kids.length s.ck] 48)=W1:=⟨_,rfl⟩;rw[hW1];have hb1:Below W.heap.size W W1:=by rw[←hW1];exact hbr.out.alloc hsz _
  have hs1:W1.heap.size=wr.heap.size+1:=by rw[←hW1];simp
  have p0:W1.cell? ⟨wr.heap.size,0,none⟩=some (.int .i64 K):=by rw[←hW1,World.cell?_alloc_at _ _ _ _ rfl];rfl
  have p7:W1.cell? ⟨wr.heap.size,7,none⟩=some (.slice s.Ak x.kids.length s.ck):=by rw[←hW1,World.cell?_alloc_at _ _ _ _ rfl];rfl
  have hR1:NdR W1 B x s:=hR.below (by rw[←hW1];exact(Below.refl _ _).alloc (by omega) _);have HB1:=zD hb1;clear hW1 hb1 kc0 kc1 kc2 kc3 kc4 kc5 kc6 kc7 hbx hR
  by_cases h1:K=8∧x.kids.length=2
  · rw[if_pos h1]at hst;have HQ:=zD hst;obtain⟨h8,h2⟩:=h1;subst h8;rw[h2]at p7;clear hst hfw hR1 h2;go_wp2_with fail
    (try rw[Exit.noGoto_ret])
    go_ret;exact⟨zJ HQ.out,HBW.out.trans (HB1.out.mono (by omega))⟩
  · rw[if_neg h1]at hst
    by_cases h2:K=8∨K=9∨K=10∨K=18
    · rw[if_pos h2]at hst;obtain⟨ha,hb⟩:=hst;have h3:K=8→((x.kids.length:Int)==2)=false:=fun e=>yA.2 (fun e2=>h1 ⟨e,by omega⟩)
      by_cases hke:x.kids=[]
      · have HQ:=zD (ha hke);rw[hke]at p7 h3;clear ha hb hfw hR1 h1 hke;rcases h2 with rfl | rfl | rfl | rfl
        all_goals
         clear h3;go_wp2_with fail
         (try rw[Exit.noGoto_ret])
         go_ret;exact⟨zJ HQ.out,HBW.out.trans (HB1.out.mono (by omega))⟩
      · obtain⟨L,hL⟩:∃L,x.kids.length=L+1:=⟨x.kids.length - 1,by have:=List.length_pos_iff.2 hke;omega⟩;obtain⟨bk,ok,hak,hbk,hck⟩:=hR1.kids.spotK (by omega);have hcl:=hck L (by omega);have hkl:=hfw x.kids[L] (List.getElem_mem (by omega));have hmax:=hR1.ck;have hgl:x.kids.getLast? =some x.kids[L]:=by
         rw[List.getLast?_eq_getElem?,show x.kids.length - 1=L by omega,yAC (by omega)]
        obtain⟨y,hy⟩:∃y,x.kids[L]'(by omega)=y:=⟨_,rfl⟩;rw[hy]at hcl hkl hgl;obtain⟨j,rfl⟩:∃j:Nat,y=(j:Int):=⟨y.toNat,by omega⟩;have HN:=zD (hb j hgl (by omega));rw[hak,hL]at p7;rw[hL]at h3 hmax;have hLm:L+1≤1000000:=by omega
        have hjn:j < n:=by omega
        have hkj:k < j:=by omega
        clear ha hb hfw hR1 h1 hke hak hck hL hgl hy hmax hkl hxl;rcases h2 with rfl | rfl | rfl | rfl
        · have h4:=h3 rfl;clear h3;go_wp2_with fail
          go_roundw
          case rel=>exact⟨j,hjn,rfl,HN.out,HB1.out⟩
          case measure=>simp[intOf];omega
        all_goals
         clear h3;go_wp2_with fail
         go_roundw
         case rel=>exact⟨j,hjn,rfl,HN.out,HB1.out⟩
         case measure=>simp[intOf];omega
    · rw[if_neg h2]at hst;have HQ:=zD hst;have e1:(K==8)=false:=yA.2 (by omega);have e2:(K==9)=false:=yA.2 (by omega);have e3:(K==10)=false:=yA.2 (by omega);have e4:(K==18)=false:=yA.2 (by omega);clear hst hfw hR1 h1 h2;go_wp2_with fail
      (try rw[Exit.noGoto_ret])
      go_ret;exact⟨zJ HQ.out,HBW.out.trans (HB1.out.mono (by omega))⟩
structure DpS (W wr:World) (v:Value) (n:Nat) (d:List Nat):Prop where
 own:wr.ownsRow W.heap.size 3 1 v n (zEB d)
 below:Below W.heap.size W wr
theorem zNy (n:Nat):(madeCells (Value.int .i64 0).cells (n*1)).toList=zEB (List.replicate n 0):=by
 rw[Nat.mul_one];show(madeCells #[Value.int .i64 0] n).toList=_;rw[toList_madeCells_one];simp[zEB]
def DeepAt (ts:List Nd) (k:Nat) (d q:List Nat):Prop:=zC4 k (ts.drop k) d=q∧d.length=ts.length∧∀y∈d,y≤k+1
theorem DeepAt.start {ts:List Nd} {q:List Nat} (h:zGx ts=q):DeepAt ts 0 (List.replicate ts.length 0) q:=
 ⟨h,List.length_replicate,fun y hy=>by have:=List.eq_of_mem_replicate hy;omega⟩
theorem DeepAt.done {ts:List Nd} {d q:List Nat} (h:DeepAt ts ts.length d q):d=q:=by
 have:=h.1;rw[List.drop_of_length_le (yAD _)]at this;exact this
def DeepIn (ts:List Nd) (k v:Nat) (ks:List Int) (d q:List Nat):Prop:=zC4 (k+1) (ts.drop (k+1)) (zDc d (v+1) ks)=q∧d[k]? =some v∧d.length=ts.length∧v≤k+1∧∀y∈d,y≤k+2
theorem zGF {d:List Nat} {i v b:Nat} (h:∀y∈d,y≤b) (hv:v≤b):∀y∈d.set i v,y≤b:=by
 intro y hy;rcases List.mem_or_eq_of_mem_set hy with h1 | h1
 · exact h y h1
 · rw[h1];exact hv
theorem DeepAt.go {ts:List Nd} {k a:Nat} {x:Nd} {d q:List Nat} (h:DeepAt ts k d q) (hx:ts[k]? =some x) (ha:d[k]? =some a):DeepIn ts k (max a 1) x.kids (d.set k (max a 1)) q:=by
 obtain⟨hl,rfl⟩:=List.getElem?_eq_some_iff.1 hx;have hb:=h.2.2 a (List.mem_of_getElem? ha);refine⟨?_,List.getElem?_set_self (by rw[h.2.1];exact hl),by rw[List.length_set];exact h.2.1,by omega,zGF (fun y hy=>by have:=h.2.2 y hy;omega) (by omega)⟩;have:=h.1;rw[yAI hl,zE6,yAH,ha]at this;exact this
theorem DeepIn.step {ts:List Nd} {k v m:Nat} {ks:List Int} {d q:List Nat} (h:DeepIn ts k v ((m:Int)::ks) d q) (hm:k < m):DeepIn ts k v ks (d.set m (v+1)) q:=by
 refine⟨h.1,?_,by rw[List.length_set];exact h.2.2.1,h.2.2.2.1,zGF h.2.2.2.2 (by have:=h.2.2.2.1;omega)⟩;rw[List.getElem?_set_ne (by omega)];exact h.2.1
theorem DeepIn.done {ts:List Nd} {k v:Nat} {d q:List Nat} (h:DeepIn ts k v [] d q):DeepAt ts (k+1) d q:=⟨h.1,h.2.2.1,h.2.2.2.2⟩
theorem zQr (l:List Nat) (k x:Nat):(zEB l).set k (.int .i64 (x:Int))=zEB (l.set k x):=by
 unfold zEB;rw[List.map_set]
theorem DpS.cell {W wr:World} {g n k a:Nat} {d:List Nat} (h:DpS W wr (.slice (some ⟨g,0,none⟩) n n) n d) (ha:d[k]? =some a):wr.cell? ⟨g,k,none⟩=some (.int .i64 (a:Int)):=by
 have hl:k < n:=by
  have h1:=(List.getElem?_eq_some_iff.1 ha).1;have h2:=h.own.1;rw[zJX]at h2;omega
 rw[h.own.cellAt k (by omega)];simp[zEB,ha]
theorem DpS.store {W wr:World} {g n k a:Nat} {d:List Nat} (h:DpS W wr (.slice (some ⟨g,0,none⟩) n n) n d) (hg:W.heap.size≤g) {z:Int} (hz:z=(a:Int)):DpS W (wr.setCell ⟨g,k,none⟩ (.int .i64 z)) (.slice (some ⟨g,0,none⟩) n n) n (d.set k a):=by
 subst hz;have h1:=h.own.stored k (.int .i64 (a:Int));rw[zQr]at h1;exact⟨h1.1,h.below.setCell hg _⟩
theorem DpS.below' {W wr w':World} {v:Value} {n:Nat} {d:List Nat} (h:DpS W wr v n d) (hb:Below wr.heap.size wr w'):DpS W w' v n d:=⟨zDr h.own hb,h.below.trans (hb.mono h.below.size)⟩
theorem zGs {A:Option Addr} {c B n:Nat} {ts:List Nd} {w:World} (hN:NdsR w B A n ts) (hB:B≤w.heap.size) (h0:0 < n) (hl:n≤4096) (hf:Fwd ts) (hkl:∀x∈ts,x.kids.length≤1000000) {q:List Nat} (hq:zGx ts=q):
 Calls prog 37 #[.agg #[.slice A n c]] w fun e w'=>∃A' c',e=.returned (.slice A' n c')∧q.length=n∧n≤c'∧Reads w' w'.heap.size 1 A' n (zEB q)∧Below w.heap.size w w':=by
 obtain⟨W,hW⟩:∃W,w.alloc (.cells #[.slice A n c] 27)=W:=⟨_,rfl⟩;have hbW:Below w.heap.size w W:=by rw[←hW];exact(Below.refl _ _).alloc (yAD _) _
 have hsW:W.heap.size=w.heap.size+1:=by rw[←hW];simp
 have hNW:=zD ((hN.below (hbW.mono hB)));have hcW:W.cell? ⟨w.heap.size,0,none⟩=some (.slice A n c):=by rw[←hW,World.cell?_alloc_at _ _ _ _ rfl];rfl
 have HBW:=zD hbW;have HF:=zD hf;have HKL:=zD hkl;have HLN:=zD hN.1;have HQ:=zD hq;have HB:=zD hB;clear hq hbW hN hf hkl;go_enter func37,ntmps37;go_upto_region 1 with(fail);have HW:=zD hW;clear hW;obtain⟨i0,hi,hz0,hz1,hz2⟩:=info_parts Tryz.info_int;have hb8:i0.bytes*n≤281474976710656:=by rw[hz2];omega
 have hnm:n≤maxLen:=by unfold maxLen;omega
 have hltW:w.heap.size < W.heap.size:=by omega
 have HSW:=zD hsW;obtain⟨G,hG⟩:∃G,W.heap.size=G:=⟨_,rfl⟩;clear hsW;go_wp2_with (refine wpList_make_full _ rfl _ _ 32 rfl W.heap.size 3 i0 (.int .i64 0) 1 underlying32 hi hz0 hz1 .i64 .i64 (n:Int) (n:Int) n rfl rfl rfl rfl hb8 hnm (yAD _) ?_;intro w1 ho1 hg1;have hcx:w1.cell? ⟨w.heap.size,0,none⟩=some (.slice A n c):=hg1.cell hcW (by simp));have HG:=zD hG;have hS1:=zD (show DpS W w1 (.slice (some ⟨G,0,none⟩) n n) n (List.replicate n 0)from⟨by have:=ho1;rw[zNy]at this;rw[←hG];exact this,⟨hg1.os,hg1.tape,hg1.output,hg1.size,fun i hi=>hg1.block i hi (by simp)⟩⟩);clear ho1 hg1 hi hz0 hz1 hz2 hb8 hnm hG
 go_loopw [15] (fun i wr=>∃(k:Nat) (d:List Nat),k≤n∧i=.int .i64 k∧Hid (DeepAt ts k d q)∧Hid (DpS W wr (.slice (some ⟨G,0,none⟩) n n) n d)) (fun i _=>n - (intOf i).toNat)
 case atStart=>exact⟨0,_,yAF _,rfl,by have:=DeepAt.start HQ.out;rw[HLN.out]at this;exact this,hS1.out⟩
 case round=>
  clear hcx hS1;obtain⟨k,d,hk,rfl,hda,hS⟩:=hrel
  by_cases hlt:k < n
  · have hsz:=hS.out.below.size;obtain⟨b,o,x,s,rfl,hbB,hx,hC,hR⟩:=(hNW.out.below (hS.out.below.mono (by omega))).get hlt;obtain⟨kc0,kc1,kc2,kc3,kc4,kc5,kc6,kc7⟩:=hC;have hfw:=zD (show∀y∈x.kids,(k:Int) < y∧y < (n:Int)from by have:=HF.out k x hx;rw[HLN.out]at this;exact this);have hxl:=HKL.out x (List.mem_of_getElem? hx);have hdl:k < d.length:=by rw[hda.out.2.1,HLN.out];exact hlt
    obtain⟨a,ha⟩:∃a,d[k]? =some a:=⟨_,yAC hdl⟩;have hgo:=zD (hda.out.go hx ha);have hab:a≤k+1:=hda.out.2.2 a (List.mem_of_getElem? ha);have HA:=zD ha;clear hx hdl ha;go_upto_region 5 with(fail);obtain⟨W1,hW1⟩:∃W1,wr.alloc (.cells #[.int .i64 x.kind,.string ⟨x.name.toArray⟩,.slice s.As x.str.length s.cs,.int .i64 x.nk,.int .i64 x.nn,.bool x.neg,.slice s.Am x.mag.length s.cm,.slice s.Ak x.kids.length s.ck] 48)=W1:=⟨_,rfl⟩;rw[hW1];have hs1:wr.heap.size < W1.heap.size:=by rw[←hW1];simp
    have p7:W1.cell? ⟨wr.heap.size,7,none⟩=some (.slice s.Ak x.kids.length s.ck):=by rw[←hW1,World.cell?_alloc_at _ _ _ _ rfl];rfl
    have hbb:Below wr.heap.size wr W1:=by rw[←hW1];exact(Below.refl _ _).alloc (yAD _) _
    have HS1:=zD (hS.out.below' hbb);have hGl:G < wr.heap.size:=by have:=(hS.out.own.lt G rfl).2;exact this
    have HRW:=zD (hR.back (hS.out.below.mono (by omega)));obtain⟨X,hX⟩:∃X,wr.heap.size=X:=⟨_,rfl⟩;rw[hX]at p7 hs1 hGl;rw[hX];have hcell:=HS1.out.cell HA.out;have hfr:=HS1.out.own.frozenAt k;have hGX:G≠X:=by omega
    have hGW:W.heap.size≤G:=by rw[HG.out];omega
    have hWW:=HS1.out.below.size;clear hW1 hbb kc0 kc1 kc2 kc3 kc4 kc5 kc6 kc7 hR hS hX hsz hda
    go_cut [3] (fun v3 wx=>v3=.slice (some ⟨G,0,none⟩) n n∧Hid (DpS W wx (.slice (some ⟨G,0,none⟩) n n) n (d.set k (max a 1)))∧wx.cell? ⟨X,7,none⟩=some (.slice s.Ak x.kids.length s.ck)∧X < wx.heap.size)
    case first=>
     by_cases ha0:a≤1
     · have hv:max a 1=1:=by omega
       have HV:=zD hv;have hmx:max (a:Int) 1=1:=by omega
       clear hv;rcases(show a=0∨a=1 by omega)with rfl | rfl
       all_goals
        clear hmx ha0 hab;go_wp2_with fail;go_meet;exact⟨rfl,HS1.out.store hGW (by rw[HV.out];rfl),zBd (zR _ _ _ _) p7 (show X≠G by omega),by simpa using hs1⟩
     · have hv:max a 1=a:=by omega
       have HV:=zD hv;have e1:¬(a:Int)≤1:=by omega
       have e2:(1:Int)≤a:=by omega
       have e4:max (a:Int) 1=(a:Int):=by omega
       clear hv ha0;go_wp2_with fail;go_meet;exact⟨rfl,HS1.out.store hGW (by rw[HV.out]),zBd (zR _ _ _ _) p7 (show X≠G by omega),by simpa using hs1⟩
    case rest=>
     obtain⟨rfl,hS2,hp7,hX2⟩:=hcut;clear HS1 p7 hs1 hcell hfr hWW;obtain⟨v,hv⟩:∃v,max a 1=v:=⟨_,rfl⟩;rw[hv]at hgo hS2;have hvb:v≤4097:=by omega
     obtain⟨d2,hd2⟩:∃d2,d.set k v=d2:=⟨_,rfl⟩;rw[hd2]at hgo hS2;clear hv hd2 HA
     by_cases hke:x.kids=[]
     · have hdn:=zD (show DeepAt ts (k+1) d2 q from by have:=hgo.out;rw[hke]at this;exact this.done);rw[hke]at hp7;clear hke hgo hxl hfw;go_wp2_with fail
       go_loopw [31] (fun i wx=>i=.int .i64 0∧wx=wc) (fun _ _=>0)
       case atStart=>exact⟨rfl,rfl⟩
       case round=>
        obtain⟨rfl,rfl⟩:=hrel;go_wp2_with fail
        go_roundw
        case rel=>exact⟨k+1,d2,by omega,by go_num,hdn.out,hS2.out⟩
        case measure=>simp[intOf];omega
     have hkp:=List.length_pos_iff.2 hke;obtain⟨bk,ok,hak,hbk,hck⟩:=HRW.out.kids.spotK hkp;have hckb:=HRW.out.ck.1;have HCK:=zD hck;clear hke hck hkp;go_wp2_with fail
     go_loopw [31] (fun i wr=>∃(j:Nat) (e:List Nat),j≤x.kids.length∧i=.int .i64 j∧Hid (DeepIn ts k v (x.kids.drop j) e q)∧Hid (DpS W wr (.slice (some ⟨G,0,none⟩) n n) n e)) (fun i _=>x.kids.length - (intOf i).toNat)
     case atStart=>exact⟨0,d2,yAF _,rfl,hgo.out,hS2.out⟩
     case round=>
      clear hS2 hp7 hX2;obtain⟨j,e,hj,rfl,hin,hSe⟩:=hrel
      by_cases hjl:j < x.kids.length
      · have hcj:=(hSe.out.below.cell (p:=⟨bk,ok+j,none⟩) (show bk < W.heap.size by omega)).trans (HCK.out j hjl);have hyb:=hfw.out x.kids[j] (List.getElem_mem hjl);have hin2:=hin.out;rw[yAI hjl]at hin2;obtain⟨y,hy⟩:∃y,x.kids[j]=y:=⟨_,rfl⟩;rw[hy]at hcj hyb hin2;obtain⟨m,rfl⟩:∃m:Nat,y=(m:Int):=⟨y.toNat,by omega⟩;have hkm:k < m:=by omega
        have hmn:m < n:=by omega
        have hstep:=zD (hin2.step hkm);have hcv:=hSe.out.cell hin2.2.1;obtain⟨z,hz⟩:∃z,e[m]? =some z:=⟨_,yAC (by rw[hin2.2.2.1,HLN.out];exact hmn)⟩;have hcz:=hSe.out.cell hz;have hfr:=hSe.out.own.frozenAt m;have hSZ:=hSe.out.below.size;clear hyb hin2 hy hz hin;go_wp2_with fail
        go_roundw
        case rel=>exact⟨j+1,e.set m (v+1),by omega,by go_num,hstep.out,hSe.out.store hGW (by omega)⟩
        case measure=>simp[intOf];omega
      · obtain rfl:j=x.kids.length:=by omega
        have hdn:=zD (show DeepAt ts (k+1) e q from by have:=hin.out;rw[List.drop_length]at this;exact this.done);clear hin;go_wp2_with fail
        go_roundw
        case rel=>exact⟨k+1,e,by omega,by go_num,hdn.out,hSe.out⟩
        case measure=>simp[intOf];omega
  · obtain rfl:k=n:=by omega
    have hdn:=zD (show d=q from by have:=hda.out;rw[←HLN.out]at this;exact this.done);have hlen:=zD (show q.length=k from by rw[←hdn.out,hda.out.2.1,HLN.out]);clear hda;go_wp2_with fail;go_ret;refine⟨_,_,rfl,hlen.out,yAD _,?_,HBW.out.trans (hS.out.below.mono (by omega))⟩;rw[←hdn.out];exact Reads.of_own hS.out.own
theorem zNz (l:List Nat) (x:Nat):zEn (l++[x])=max (zEn l) x:=by
 rw[zJA];simp[zEn]
theorem zIr {A:Option Addr} {c B n:Nat} {d:List Nat} {w:World} (hn:d.length=n) (h0:0 < n) (hl:n≤100000) (hr:Reads w B 1 A n (zEB d)) {q:Nat} (hq:zEn d=q):
 Calls prog 36 #[.slice A n c] w fun e w'=>e=.returned (.int .i64 (q:Int))∧w=w':=by
 obtain⟨b,o,rfl,hb,hcell⟩:=hr.spotR h0;have hcl:∀(j:Nat) (x:Nat),d[j]? =some x→w.cell? ⟨b,o+j,none⟩=some (.int .i64 (x:Int)):=fun j x hx=>hcell j _ (by simp[zEB,hx]);have HCL:=zD hcl;obtain⟨x0,hx0⟩:∃x0,d[0]? =some x0:=⟨_,yAC (by omega)⟩;have hc0:w.cell? ⟨b,o,none⟩=some (.int .i64 (x0:Int)):=hcl 0 x0 hx0;have H1:=zD (show zEn (d.take 1)=x0 by
  cases d with
  | nil=>cases hx0
  | cons y r=>obtain rfl:=Option.some.inj hx0;simp[zEn])
 have HN:=zD hn;have HQ:=zD hq;have h1:(1:Int)≤(n:Int):=by omega
 clear hcl hcell hx0 hr hn hq;go_enter func36,ntmps36;go_wp2_with fail
 go_loop [3,4] (fun m i=>∃k z:Nat,1≤k∧k≤n∧i=.int .i64 k∧m=.int .i64 z∧Hid (zEn (d.take k)=z)) (fun _ i=>n - (intOf i).toNat)
 case atStart=>exact⟨1,x0,yAD _,h0,rfl,rfl,H1.out⟩
 case round=>
  clear hc0;obtain⟨k,z,hk1,hk,rfl,rfl,hz⟩:=hrel
  by_cases hlt:k < n
  · have hkd:k < d.length:=by rw[HN.out];exact hlt
    obtain⟨y,hy⟩:∃y,d[k]? =some y:=⟨_,yAC hkd⟩;have hcy:=HCL.out k y hy;have HS:=zD (show zEn (d.take (k+1))=max z y by
     rw[List.take_add_one,hy];show zEn (d.take k++[y])=_;rw[zNz,hz.out])
    clear hkd hy;rcases Nat.lt_trichotomy z y with hzy | hzy | hzy
    · have e1:(z:Int)≤(y:Int):=by omega
      have e2:¬(y:Int)≤(z:Int):=by omega
      have e3:(z:Int) < (y:Int):=by omega
      have e4:max (z:Int) (y:Int)=(y:Int):=by omega
      go_wp2_with fail;go_round
      case rel=>exact⟨k+1,y,by omega,by omega,by go_num,rfl,HS.out.trans (by omega)⟩
      case measure=>simp[intOf];omega
    · subst hzy;go_wp2_with fail
      all_goals go_round
      case rel=>exact⟨k+1,z,by omega,by omega,by go_num,rfl,HS.out.trans (by omega)⟩
      case measure=>simp[intOf];omega
    · have e1:¬(z:Int)≤(y:Int):=by omega
      have e2:(y:Int)≤(z:Int):=by omega
      have e3:(y:Int) < (z:Int):=by omega
      have e4:max (z:Int) (y:Int)=(z:Int):=by omega
      go_wp2_with fail;go_round
      case rel=>exact⟨k+1,z,by omega,by omega,by go_num,rfl,HS.out.trans (by omega)⟩
      case measure=>simp[intOf];omega
  · obtain rfl:k=n:=by omega
    have HF:=zD (show z=q by rw[←hz.out,←HQ.out,List.take_of_length_le (by rw[HN.out];omega)]);go_wp2_with fail;go_ret;exact⟨zE1 (by rw[HF.out]),rfl⟩
theorem zUu {x:Nd} {l:List Int} (h:NQ x):NQ {x with kids:=l}:=⟨h.kb,h.nkb,h.nnb,h.nm,h.limb⟩
mutual
theorem nq_flatT {t:Tr} (h:NB t) (n:Nat):∀x∈flatT n t,NQ x:=by
 cases t with
 | mk y l=>
  rw[zAZ];intro x hx;rcases List.mem_cons.1 hx with rfl | hx
  · exact zUu h.nd
  · exact nq_flatL h.subs (n+1) x hx
theorem nq_flatL {l:List Tr} (h:∀t∈l,NB t) (n:Nat):∀x∈flatL n l,NQ x:=by
 cases l with
 | nil=>rw[zAX];intro x hx;cases hx
 | cons t r=>
  rw[zAI];intro x hx;rcases List.mem_append.1 hx with hx | hx
  · exact nq_flatT (h t (List.mem_cons_self ..)) n x hx
  · exact nq_flatL (fun t ht=>h t (List.mem_cons_of_mem _ ht)) (n+t.size) x hx
end
theorem NdsC.get {w:World} {G:Nat→Prop}:∀{ts:List Nd} {cs:List Value},NdsC w G ts cs→∀{i:Nat} (hi:i < ts.length),∃vs vm vk,w.ownsRow 0 24 1 vs ts[i].str.length (zAM ts[i].str)∧w.ownsRow 0 87 1 vm ts[i].mag.length (zCJ ts[i].mag)∧w.ownsRow 0 3 1 vk ts[i].kids.length (zDY ts[i].kids)∧∀j (hj:j < 8),cs[i*8+j]? =some ((ndC ts[i] vs vm vk)[j]'hj):=by
 intro ts
 induction ts with
 | nil=>intro cs h i hi;simp at hi
 | cons x r ih=>
  intro cs h i hi;obtain⟨vs,vm,vk,rest,rfl,h2,h3,h4,_,h6⟩:=h;cases i with
  | zero=>
   refine⟨vs,vm,vk,h2,h3,h4,fun j hj=>?_⟩;rw[Nat.zero_mul,Nat.zero_add,List.getElem?_append_left hj];exact yAC hj
  | succ i=>
   obtain⟨us,um,uk,k2,k3,k4,k5⟩:=ih h6 (i:=i) (by simpa using hi);refine⟨us,um,uk,k2,k3,k4,fun j hj=>?_⟩;rw[List.getElem?_append_right (by show 8≤_;omega),show(i+1)*8+j - (ndC x vs vm vk).length=i*8+j by show _ - 8=_;omega];exact k5 j hj
theorem Laid.reads {w:World} {G:Nat→Prop} {A:Option Addr} {n c:Nat} {ts:List Nd} (h:Laid w G (.slice A n c) ts) (hq:∀x∈ts,NQ x) (hf:Fwd ts) (hl:ts.length≤1000000):NdsR w w.heap.size A n ts∧n≤c∧c≤maxLen:=by
 obtain⟨ks,h1,h2⟩:=h;obtain⟨A',c',e,hc1,hc2⟩:=zZ h1;injection e with e1 e2 e3;subst e2 e3;refine⟨⟨rfl,fun h0=>?_⟩,hc1,hc2⟩;rcases h1.2 with⟨_,h5⟩ | ⟨g,cap,cur,e,_,hg,_⟩
 · omega
 · injection e with e _ _;subst e;have hlt:g < w.heap.size:=(h1.lt g rfl).2;refine⟨g,0,rfl,hlt,fun i hi=>?_⟩;obtain⟨vs,vm,vk,k1,k2,k3,k4⟩:=NdsC.get h2 hi;obtain⟨As,cs,rfl,a1,a2⟩:=zZ k1;obtain⟨Am,cm,rfl,b1,b2⟩:=zZ k2;obtain⟨Ak,ck,rfl,d1,d2⟩:=zZ k3;have hcell:∀j (hj:j < 8),w.cell? ⟨g,i*8+j,none⟩=some ((ndC ts[i] (.slice As ts[i].str.length cs) (.slice Am ts[i].mag.length cm) (.slice Ak ts[i].kids.length ck))[j]'hj):=by
    intro j hj;rw[h1.cellAt (i*8+j) (by omega)];exact k4 j hj
   have hn:=hq _ (List.getElem_mem hi);refine⟨⟨As,Am,Ak,cs,cm,ck⟩,?_,?_⟩
   · rw[Nat.zero_add];exact⟨hcell 0 (by decide),hcell 1 (by decide),hcell 2 (by decide),hcell 3 (by decide),hcell 4 (by decide),hcell 5 (by decide),hcell 6 (by decide),hcell 7 (by decide)⟩
   · refine⟨.of_own k1,.of_own k2,.of_own k3,⟨a1,a2⟩,⟨b1,b2⟩,⟨d1,d2⟩,hn.limb,fun y hy=>?_,hn.kb,hn.nkb,hn.nnb,by have:=hn.nm;omega⟩;have:=hf i ts[i] (yAC hi) y hy;omega
mutual
theorem kids_flatT (t:Tr) (n:Nat):∀x∈flatT n t,x.kids.length≤t.size:=by
 cases t with
 | mk y l=>
  rw[zAZ,zd];intro x hx;rcases List.mem_cons.1 hx with rfl | hx
  · show(zv (n+1) l).length≤_;rw[zBg];have:=zJk l;omega
  · have:=kids_flatL l (n+1) x hx;omega
theorem kids_flatL (l:List Tr) (n:Nat):∀x∈flatL n l,x.kids.length≤sizes l:=by
 cases l with
 | nil=>rw[zAX];intro x hx;cases hx
 | cons t r=>
  rw[zAI,zL];intro x hx;rcases List.mem_append.1 hx with hx | hx
  · have:=kids_flatT t n x hx;omega
  · have:=kids_flatL r (n+t.size) x hx;omega
end
theorem Laid.chg {w w':World} {S G:Nat→Prop} {v:Value} {ts:List Nd} (h:Laid w G v ts) (hc:Chg w w' S) (hS:Sty w S G) (hv:∀b,v.ownBlock=some b→¬S b):Laid w' G v ts:=by
 obtain⟨ks,h1,h2⟩:=h;exact⟨ks,zAz h1 hc hv,NdsC.chg hc hS _ _ h2⟩
theorem Laid.new {w w':World} {G:Nat→Prop} {v:Value} {ts:List Nd} (h:Laid w G v ts) (hg:w.grownBy w' none):Laid w' G v ts:=
 h.chg (.of hg) (fun b hb _=>by cases hb) (fun b _ h=>by cases h)
theorem Laid.var {w:World} {G:Nat→Prop} {v u:Value} {ts:List Nd} {X:Nat} {cs:List Value} (h:Laid w G v ts) (hX:Bx w X 27 cs):Laid (w.setCell ⟨X,0,none⟩ u) G v ts:=by
 refine h.chg (.of (zR w X 0 u)) (fun b hb _=>?_) (fun b h1 h2=>?_)
 · injection hb with hb;subst hb;exact⟨_,_,hX,.inl rfl⟩
 · injection h2 with h2;subst h2;obtain⟨ks,h3,_⟩:=h;exact zEi h3 hX (by decide) h1
theorem zEy (t:Tr):Fwd (flatT 0 t):=zHt (zF2 t)
section
variable {L L1 L2:List Tok} {a d m:Nat} {lo:Bool} {s:Ps}
theorem zUB (hL:Lst L) {p:Ph} {s:Ps} (hp:Pre L p s) {F:Nat} (hF:zf L p s < F):zCL L F p s=zG L p s:=(zGX hL F _ p s hp hF (yAG _)).2
theorem zUv (S:Sim L1 L2 a d m lo) {p:Ph} {s:Ps} (h0:∀acc,p≠.program acc) (hp:Pre L1 p s) (hp2:Pre L2 p (shP d s)) (ha:a≤s.k) (hb:zJg p=true→a < s.k) (hok:Ok m (zG L1 p s).2):zUa L2 d m lo (zG L1 p s) (zG L2 p (shP d s)) p:=by
 obtain⟨F,hF⟩:∃F,F=zf L1 p s+zf L2 p (shP d s)+1:=⟨_,rfl⟩;have e1:=zUB S.l1 hp (F:=F) (by omega);have e2:=zUB S.l2 hp2 (F:=F) (by omega);have:=(zS7 S F).clm p s h0 hp ha hb (by rw[e1];exact hok);rwa [e1,e2]at this
theorem zUC (S:Sim L1 L2 a d m lo) (hs:s.k≤m) (ha:a≤s.k) (hok:Ok m (zG L1 .item s).2):Loo L2 d m lo (zG L1 .item s) (zG L2 .item (shP d s)):=
 zUv S (fun _ h=>by cases h) ⟨yAE hs S.le1,trivial⟩ ⟨by have:=S.le2;show s.k+d≤_;omega,trivial⟩ ha (fun h=>by cases h) hok
theorem zCS (hL:Lst L) (h:s.k≤L.length - 1):Eat L s (zG L .item s).2:=zS hL (p:=.item) ⟨h,trivial⟩
inductive Path (L:List Tok):Ps→List Tr→Ps→Prop
 | nil (s:Ps):Path L s [] s
 | cons {s e:Ps} {items:List Tr} (h:(zH L s.k).kind≠0) (p:Path L (zG L .item s).2 items e):Path L s ((zG L .item s).1::items) e
theorem Path.adv (hL:Lst L) {s e:Ps} {items:List Tr} (h:Path L s items e) (hs:s.k≤L.length - 1):Adv L s e:=by
 induction h with
 | nil=>exact Adv.refl hs
 | cons h _ ih=>exact(zCS hL hs).adv.trans (ih (zCS hL hs).adv.hi)
theorem Path.prog (hL:Lst L) {s e:Ps} {items:List Tr} (h:Path L s items e) (hs:s.k≤L.length - 1) (he:(zH L e.k).kind=0):∀acc,zG L (.program acc) s=(trK 1 (acc++items),e):=by
 induction h with
 | nil s=>
  intro acc;rw[zt hL ⟨hs,trivial⟩];unfold zF;dsimp only;rw[if_pos he,List.append_nil]
 | cons h _ ih=>
  intro acc;rw[zt hL ⟨hs,trivial⟩];unfold zF;dsimp only;rw[if_neg h,ih (zCS hL hs).adv.hi he,List.append_assoc];rfl
theorem zN0 (hL:Lst L):∀(n:Nat) (acc:List Tr) (s:Ps),L.length - s.k < n→s.k≤L.length - 1→(zG L (.program acc) s).2.bad=0→∃items e,Path L s items e∧e.k=L.length - 1∧e.bad=0∧zG L (.program acc) s=(trK 1 (acc++items),e):=by
 intro n
 induction n with
 | zero=>intro acc s h;omega
 | succ n ih=>
  intro acc s hn hs hb;rw[zt hL ⟨hs,trivial⟩]at hb⊢;unfold zF at hb⊢;dsimp only at hb⊢
  by_cases c:(zH L s.k).kind=0
  · rw[if_pos c]at hb⊢;refine⟨[],s,.nil s,?_,hb,by rw[List.append_nil]⟩;rcases Nat.lt_or_ge s.k (L.length - 1)with h1 | h1
    · exact absurd c (hL.mid _ h1)
    · omega
  · rw[if_neg c]at hb⊢;have x:=zCS hL hs;have hlt:=hL.lt hs c;have:=x.more hlt;obtain⟨items,e,h1,h2,h3,h4⟩:=ih _ (zG L .item s).2 (by omega) x.adv.hi hb;exact⟨_::items,e,.cons c h1,h2,h3,by rw[h4,List.append_assoc];rfl⟩
theorem zQs (S:Sim L1 L2 a d m lo) (hlo:lo=true) {s e:Ps} {items:List Tr} (h:Path L1 s items e) (ha:a≤s.k) (hok:Ok m e) (hs:s.k≤L1.length - 1):
 Path L2 (shP d s) items (shP d e)∨(e.k=m∧isT (zH L2 (m+d)) [59]=true∧Path L2 (shP d s) items (zB (shP d e))):=by
 induction h with
 | nil s=>exact .inl (.nil _)
 | @cons s e items h p ih=>
  have x:=zCS S.l1 hs;have ok1:=hok.back (p.adv S.l1 x.adv.hi);have hlt:=S.l1.lt hs h;have hm:=S.le1;have hk:s.k < m:=yAA (x.more hlt) ok1.le;have hk2:(zH L2 (shP d s).k).kind≠0:=by rw[S.kind ha hk];exact h
  have hl:=zUC S (Nat.le_of_lt hk) ha ok1;have ih2:=ih (yAE ha x.adv.le) hok x.adv.hi;rcases Nat.lt_or_ge (zG L1 .item s).2.k m with h3 | h3
  · have he:=hl.1 h3;have e1:(zG L2 .item (shP d s)).1=(zG L1 .item s).1:=by rw[he]
    have e2:(zG L2 .item (shP d s)).2=shP d (zG L1 .item s).2:=by rw[he]
    rcases ih2 with g | ⟨g1,g2,g3⟩
    · left;rw[←e1];exact .cons hk2 (by rw[e2];exact g)
    · right;refine⟨g1,g2,?_⟩;rw[←e1];exact .cons hk2 (by rw[e2];exact g3)
  · have hem:(zG L1 .item s).2.k=m:=by have:=ok1.le;omega
    have hnil:items=[]∧e=(zG L1 .item s).2:=by
     cases p with
     | nil=>exact⟨rfl,rfl⟩
     | cons h4 p4=>
      have x4:=zCS S.l1 x.adv.hi;have:=x4.more (S.l1.lt x.adv.hi h4);have:=(p4.adv S.l1 x4.adv.hi).le;have:=hok.le;omega
    obtain⟨rfl,rfl⟩:=hnil;rcases hl.2 hem hlo with he | ⟨hc,he⟩
    · have e1:(zG L2 .item (shP d s)).1=(zG L1 .item s).1:=by rw[he]
      have e2:(zG L2 .item (shP d s)).2=shP d (zG L1 .item s).2:=by rw[he]
      left;rw[←e1];exact .cons hk2 (by rw[e2];exact .nil _)
    · have e1:(zG L2 .item (shP d s)).1=(zG L1 .item s).1:=by rw[he]
      have e2:(zG L2 .item (shP d s)).2=zB (shP d (zG L1 .item s).2):=by rw[he]
      right;refine⟨hem,hc,?_⟩;rw[←e1];exact .cons hk2 (by rw[e2];exact .nil _)
end
def zTP:List (List UInt8):=[[101,108,115,101],[125]]
structure Dead (w:List UInt8):Prop where
 n0:w≠[116,114,117,101]
 n1:w≠[102,97,108,115,101]
 n2:w≠[110,117,108,108]
 n3:w≠[116,104,105,115]
 n4:w≠[91]
 n5:w≠[123]
 n6:w≠[102,117,110,99,116,105,111,110]
 n7:w≠[40]
 n8:w≠[110,101,119]
 n9:w≠[108,101,116]
 n10:w≠[99,111,110,115,116]
 n11:w≠[59]
 n12:w≠[105,102]
 n13:w≠[119,104,105,108,101]
 n14:w≠[102,111,114]
 n15:w≠[98,114,101,97,107]
 n16:w≠[99,111,110,116,105,110,117,101]
 n17:w≠[114,101,116,117,114,110]
 n18:w≠[116,104,114,111,119]
 n19:w≠[116,114,121]
 u:¬w∈zH7
 p:¬w∈zDv
theorem zTQ {w:List UInt8} (h:w∈zTP):Dead w:=by
 have h':w=[101,108,115,101]∨w=[125]:=by simpa [zTP]using h
 rcases h' with rfl | rfl
 all_goals exact⟨by decide,by decide,by decide,by decide,by decide,by decide,by decide,by decide,by decide,by decide,by decide,by decide,by decide,by decide,by decide,by decide,by decide,by decide,by decide,by decide,by decide,by decide⟩
theorem zCh {t:Tok} {w:List UInt8} (h:isT t w=true):t.text=w∧(t.kind=5∨t.kind=6):=by
 unfold isT at h;rw[Bool.and_eq_true,decide_eq_true_eq,Bool.or_eq_true,beq_iff_eq,beq_iff_eq]at h;exact h
theorem zCE {t:Tok} {w v:List UInt8} (h:isT t w=true) (hne:w≠v):isT t v=false:=by
 unfold isT;rw[(zCh h).1,yAJ hne];rfl
section
variable {L:List Tok} {s:Ps} {w:List UInt8}
theorem zHu (hL:Lst L) (hs:s.k≤L.length - 1) (h:isT (zH L s.k) w=true) (D:Dead w):(zG L .primary s).2.bad≠0:=by
 obtain⟨ht,hk⟩:=zCh h;rw[zt hL ⟨hs,trivial⟩];unfold zF;dsimp only;rw[ht,if_neg (by omega),if_neg (by omega),if_neg (by omega),if_neg (by omega),if_neg (by omega),if_neg D.n0,if_neg D.n1,if_neg D.n2,if_neg D.n3,if_neg D.n4,if_neg D.n5,if_neg D.n6,if_neg D.n7];show(if _ then _ else _:Ps).bad≠0;split
 · exact zAt (by decide)
 · exact ze
theorem zLM (hL:Lst L) (hs:s.k≤L.length - 1) (h:isT (zH L s.k) w=true) (D:Dead w):(zG L .unary s).2.bad≠0:=by
 obtain⟨ht,hk⟩:=zCh h;have h1:(zG L .head s).2.bad≠0:=by
  rw[zt hL ⟨hs,trivial⟩];unfold zF;dsimp only;rw[if_neg (by unfold onP;rw[zCE h D.n8];decide)];exact zHu hL hs h D
 have h2:(zG L .calls s).2.bad≠0:=by
  rw[zt hL ⟨hs,trivial⟩];unfold zF;dsimp only;have x:=(zS hL (p:=.head) (s:=s) ⟨hs,trivial⟩).adv;exact(zS hL (p:=.callsL (zG L .head s).1) (s:=(zG L .head s).2) ⟨x.hi,trivial⟩).adv.bad h1
 rw[zt hL ⟨hs,trivial⟩];unfold zF;dsimp only;rw[ht,if_neg (fun h3=>D.u h3.2),if_neg (fun h3=>D.p h3.2)];split
 · split
   · exact ze
   · exact h2
 · exact h2
theorem zLN (hL:Lst L) (hs:s.k≤L.length - 1) (h:isT (zH L s.k) w=true) (D:Dead w):∀k n,n+k=8→(zG L (.level n) s).2.bad≠0:=by
 intro k
 induction k with
 | zero=>
  intro n hn;rw[zt hL ⟨hs,(by show n≤8;omega)⟩];unfold zF;dsimp only;rw[if_pos (by omega)];exact zLM hL hs h D
 | succ k ih=>
  intro n hn;rw[zt hL ⟨hs,(by show n≤8;omega)⟩];unfold zF;dsimp only;rw[if_neg (by omega)];have x:=(zS hL (p:=.level (n+1)) (s:=s) ⟨hs,(by show n+1≤8;omega)⟩).adv;exact(zS hL (p:=.levelL n (zG L (.level (n+1)) s).1) (s:=(zG L (.level (n+1)) s).2) ⟨x.hi,(by show n < 8;omega)⟩).adv.bad (ih (n+1) (by omega))
theorem zIs (hL:Lst L) (hs:s.k≤L.length - 1) (h:isT (zH L s.k) w=true) (D:Dead w):(zG L .assign s).2.bad≠0:=by
 obtain⟨ht,hk⟩:=zCh h;have h0:=zLN hL hs h D 8 0 rfl;have p0:=(zS hL (p:=.level 0) (s:=s) ⟨hs,yAF _⟩).adv;have h1:(zG L .either s).2.bad≠0:=by
  rw[zt hL ⟨hs,trivial⟩];unfold zF;dsimp only;split
  · have p:=(zS hL (p:=.nullL (zG L (.level 0) s).1) (s:=(zG L (.level 0) s).2) ⟨p0.hi,trivial⟩).adv;show(if _ then _ else _:Ps).bad≠0;split
    · exact ze
    · exact p.bad h0
  · have p:=(zS hL (p:=.both (zG L (.level 0) s).1) (s:=(zG L (.level 0) s).2) ⟨p0.hi,trivial⟩).adv;have q:=(zS hL (p:=.orL (zG L (.both (zG L (.level 0) s).1) (zG L (.level 0) s).2).1) (s:=(zG L (.both (zG L (.level 0) s).1) (zG L (.level 0) s).2).2) ⟨p.hi,trivial⟩).adv;show(if _ then _ else _:Ps).bad≠0;split
    · exact ze
    · exact q.bad (p.bad h0)
 have p1:=(zS hL (p:=.either) (s:=s) ⟨hs,trivial⟩).adv;have h2:(zG L .cond s).2.bad≠0:=by
  rw[zt hL ⟨hs,trivial⟩];unfold zF;dsimp only;split
  · rename_i c
    have hl:=hL.on p1.hi c;have q1:=(zS hL (p:=.assign) (s:=zB (zG L .either s).2) ⟨hl,trivial⟩).adv;have y:=zN (w:=[58]) hL q1.hi;exact(zS hL (p:=.assign) (s:=zM L [58] (zG L .assign (zB (zG L .either s).2)).2) ⟨y.adv.hi,trivial⟩).adv.bad (y.adv.bad (q1.bad h1))
  · exact h1
 have p2:=(zS hL (p:=.cond) (s:=s) ⟨hs,trivial⟩).adv;rw[zt hL ⟨hs,trivial⟩];unfold zF;dsimp only;rw[if_neg (by omega),if_neg (by
  intro h3;unfold zAR at h3;rw[Bool.and_eq_true]at h3;have h4:=h3.1;unfold onP at h4;rw[zCE h D.n7]at h4;cases h4)]
 split
 · exact h2
 · split
   · exact zAt (by decide)
   · rename_i c3 c4
     have hl:(zG L .cond s).2.k < L.length - 1:=hL.lt p2.hi (fun h0=>c3 (.inl (by rw[h0];decide)));exact(zS hL (p:=.assign) (s:=zB (zG L .cond s).2) ⟨hl,trivial⟩).adv.bad h2
theorem zN1 (hL:Lst L) (hs:s.k≤L.length - 1) (h:isT (zH L s.k) w=true) (D:Dead w):(zG L .item s).2.bad≠0:=by
 obtain⟨ht,hk⟩:=zCh h;have hlt:=hL.lt hs (zDz h);have h0:=zIs hL hs h D;have hsi:(zG L .simple s).2.bad≠0:=by
  rw[zt hL ⟨hs,trivial⟩];unfold zF;dsimp only;have p:=(zS hL (p:=.assign) (s:=s) ⟨hs,trivial⟩).adv;exact(zAV hL p.hi).bad h0
 have hst:(zG L .statement s).2.bad≠0:=by
  rw[zt hL ⟨hs,trivial⟩];unfold zF;dsimp only;rw[if_neg (by omega)];split
  · rw[ht,zt hL ⟨hs,hlt⟩];unfold zF;dsimp only;rw[if_neg D.n12,if_neg D.n13,if_neg D.n14,if_neg D.n15,if_neg D.n16,if_neg D.n17,if_neg D.n18,if_neg D.n19,if_neg (by
     rintro(h3 | h3 | h3)
     · exact D.n6 h3
     · exact D.n9 h3
     · exact D.n10 h3)]
    exact hsi
  · rw[if_neg (by unfold onP;rw[zCE h D.n11];decide),if_neg (by unfold onP;rw[zCE h D.n5];decide)];exact hsi
 rw[zt hL ⟨hs,trivial⟩];unfold zF;dsimp only;rw[if_neg (by unfold onP;rw[zCE h D.n9,zCE h D.n10];decide),if_neg (by unfold onP;rw[zCE h D.n6];decide)];exact hst
theorem zLO (hL:Lst L) {e:Ps} {items:List Tr} (p:Path L s items e) (hs:s.k≤L.length - 1) (hb:e.bad=0) (hne:s.k≠e.k) (hw:w∈zTP):isT (zH L s.k) w=false:=by
 cases h:isT (zH L s.k) w with
 | false=>rfl
 | true=>
  cases p with
  | nil=>exact absurd rfl hne
  | cons h1 p1=>
   have x:=zCS hL hs;exact absurd hb ((p1.adv hL x.adv.hi).bad (zN1 hL hs h (zTQ hw)))
end
theorem zLP {t:Tok} (h:isT t [125]=true) (hk:t.kind=5):Stop t:=by
 obtain⟨ht,_⟩:=zCh h;refine⟨by omega,?_,fun w hw=>zCE h (by revert w;decide),fun _=>?_,fun _ hp=>?_⟩
 · unfold zA9;rw[if_pos (.inl hk),ht];decide
 · rw[ht];decide
 · rw[ht]at hp;exact absurd hp (by decide)
def s0:Ps:=⟨0,0,0⟩
section
variable {L L1 L3:List Tok} {s:Ps}
theorem zLQ (hL:Lst L) {e:Ps} {items:List Tr} (p:Path L s items e) (hs:s.k≤L.length - 1) (hb:e.bad=0) (he:onP L [125] e=true):∀acc,zG L (.blockL acc) s=(trK 4 (acc++items),zB e):=by
 induction p with
 | nil s=>
  intro acc;rw[zt hL ⟨hs,trivial⟩];unfold zF;dsimp only;rw[if_neg (fun h=>h hb),if_pos he,List.append_nil]
 | @cons s e items h p ih=>
  intro acc;have x:=zCS hL hs;have hlt:=hL.lt hs h;have hd:=zLO (w:=[125]) hL (.cons h p) hs hb (by
   have:=x.more hlt;have:=(p.adv hL x.adv.hi).le;omega) (by decide)
  have hb0:¬s.bad≠0:=fun h0=>(x.adv.trans (p.adv hL x.adv.hi)).bad h0 hb;rw[zt hL ⟨hs,trivial⟩];unfold zF;dsimp only;rw[if_neg hb0,if_neg (by unfold onP;rw[hd];decide),ih x.adv.hi hb he,List.append_assoc];rfl
theorem zLR (hL:Lst L) (hs:s.k≤L.length - 1) (h:isT (zH L s.k) [123]=true) (hk:(zH L s.k).kind=5):zG L .item s=zG L (.blockL []) (zB s):=by
 have h0:zG L .block s=zG L (.blockL []) (zB s):=by
  rw[zt hL ⟨hs,trivial⟩];unfold zF;dsimp only;unfold zM;rw[if_pos (show onP L [123] s=true from h)]
 have h1:zG L .statement s=zG L .block s:=by
  rw[zt hL ⟨hs,trivial⟩];unfold zF;dsimp only;rw[if_neg (by omega),if_neg (by omega),if_neg (by unfold onP;rw[zCE h (by decide)];decide),if_pos (show onP L [123] s=true from h)]
 rw[zt hL ⟨hs,trivial⟩];unfold zF;dsimp only;rw[if_neg (by unfold onP;rw[zCE h (by decide),zCE h (by decide)];decide),if_neg (by unfold onP;rw[zCE h (by decide)];decide),h1,h0]
theorem zN2 (h1:Lst L1) (h3:Lst L3) (hlen:L3.length=L1.length+2) (h0:isT (zH L3 0) [123]=true) (hk0:(zH L3 0).kind=5)
 (hU:∀i,i < L1.length - 1→zS5 (zH L1 i) (zH L3 (i+1))∧(0 < i→(zH L1 i).nl=(zH L3 (i+1)).nl))
 (hc:isT (zH L3 L1.length) [125]=true) (hkc:(zH L3 L1.length).kind=5)
 (r1:(zG L1 (.program []) s0).2.bad=0):∃IA,(zG L1 (.program []) s0).1=trK 1 IA∧(zG L3 (.program []) s0).1=trK 1 [trK 4 IA]∧(zG L3 (.program []) s0).2.bad=0:=by
 have hp1:=h1.pos;obtain⟨IA,e1,p1,k1,b1,g1⟩:=zN0 h1 (L1.length+1) [] s0 (by show L1.length - 0 < _;omega) (yAF _) r1;have em:L1.length - 1+1=L1.length:=by omega
 have S:Sim L1 L3 0 1 (L1.length - 1) true:=⟨h1,h3,yAD _,by omega,fun i _ hi=>(hU i hi).1,fun i hi0 hi=>(hU i hi).2 hi0,by rw[em];exact zLP hc hkc,(fun h=>by
  rw[em,zCE hc (by decide)]at h;cases h),fun _=>.inr ⟨by rw[em];exact zCE hc (by decide),.inr (.inr (by rw[em];exact hc))⟩⟩
 have f1:e1.far=0:=(p1.adv h1 (yAF _)).far b1;rcases zQs S rfl p1 (yAF _) ⟨b1,by omega⟩ (yAF _)with h | ⟨_,h,_⟩
 · have hon:onP L3 [125] (shP 1 e1)=true:=by
    unfold onP;show isT (zH L3 (e1.k+1)) _=true;rw[k1,em];exact hc
   have hb:=zLQ h3 h (by show 0+1≤_;omega) b1 hon [];have hi:=zLR h3 (s:=s0) (yAF _) h0 hk0;have hst:zB s0=shP 1 s0:=rfl;rw[hst,hb]at hi;have hend:(zH L3 (zB (shP 1 e1)).k).kind=0:=by
    show(zH L3 (e1.k+1+1)).kind=0;rw[k1,show L1.length - 1+1+1=L3.length - 1 by omega];exact h3.last
   have hp:Path L3 s0 ([trK 4 ([]++IA)]) (zB (shP 1 e1)):=by
    have:=Path.cons (L:=L3) (s:=s0) (items:=[]) (e:=zB (shP 1 e1)) (by show(zH L3 0).kind≠0;omega) (by rw[hi];exact .nil _);rw[hi]at this;exact this
   have h9:=hp.prog h3 (yAF _) hend [];refine⟨IA,by rw[g1];rfl,by rw[h9];rfl,?_⟩;rw[h9];exact b1
 · rw[em,zCE hc (by decide)]at h;cases h
end
theorem zDf {a:UInt8} {s:List UInt8} {x:UInt16} {r:List UInt16} (h:x≠a.toUInt16):zg (a::s) (x::r)=false:=by
 unfold zg;rw[List.map_cons,List.isPrefixOf];rw[show(a.toUInt16==x)=false from yA.2 (fun e=>h e.symm),Bool.false_and]
theorem zJm:za []=(0,false,0):=rfl
theorem zHv:∀b∈zEK++zDO,zGt b=true:=by decide+kernel
theorem zQt {b:List UInt8} (h:0 < zCG b):zGt b=true:=by
 unfold zCG at h
 by_cases h1:b∈zEK
 · exact zHv b (List.mem_append_left _ h1)
 · rw[if_neg h1]at h
   by_cases h2:b∈zDO
   · exact zHv b (List.mem_append_right _ h2)
   · rw[if_neg h2]at h;omega
theorem zN3:∀b∈zBv,zCk (zAo b)=([{zm with kind:=5,text:=b},setAt zm b.length false],0,0)∧zCx b=false∧zCG b=0:=by decide+kernel
theorem zQu {b:List UInt8} (h:zBY b=1):zCk (zAo b)=([{zm with kind:=5,text:=b},setAt zm b.length false],0,0)∧zCx b=false∧zCG b=0:=by
 refine zN3 b ?_;unfold zBY at h
 by_cases h1:b∈zBv
 · exact h1
 · rw[if_neg h1]at h;split at h<;>cases h
end Go.Proofs.YtlohaclgbfhijaaGreatDoor
