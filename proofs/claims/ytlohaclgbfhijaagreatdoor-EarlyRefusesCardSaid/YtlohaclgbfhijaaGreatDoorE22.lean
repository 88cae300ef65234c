/- Joined for the claim EarlyRoot: the parser, the lexer and the trees as they are walked, made short by a program of mine. -/
import Derived.Deep.RegionLaw
import Derived.Test.YtlohaclgbfhijaaGreatDoorE21
import Derived.Test.YtlohaclgbfhijaaGreatDoorE12
import Derived.Test.YtlohaclgbfhijaaGreatDoorE15
import Derived.Test.YtlohaclgbfhijaaGreatDoorE16
import Derived.Test.YtlohaclgbfhijaaGreatDoorE17
import Derived.Test.YtlohaclgbfhijaaGreatDoorE18
import Derived.Test.YtlohaclgbfhijaaGreatDoorE19
import Derived.Test.YtlohaclgbfhijaaGreatDoorE20
import Derived.Test.YtlohaclgbfhijaaGreatDoorE02
import Derived.Deep.AppendLies
import Derived.Deep.LoopGhost
import Derived.Deep.CutBlock
import Derived.Deep.DeepCutAuto
import Derived.Test.YtlohaclgbfhijaaGreatDoorE14
import Derived.Test.YtlohaclgbfhijaaGreatDoorE04
import Derived.Test.YtlohaclgbfhijaaGreatDoorE13
import Derived.Test.YtlohaclgbfhijaaGreatDoorE01
set_option maxHeartbeats 16000000
set_option maxRecDepth 1000000
namespace Go.Proofs.YtlohaclgbfhijaaGreatDoor
open Go.Proofs.Tryz
open Go.RowKit
theorem zJq {n:Int} (h0:0≤n) (h1:n≤9007199254740991):(zG6 n.toNat).length≤10000:=by
 have:=zHY (k:=15) (n:=n.toNat) (by omega);omega
theorem zHn {C:Pc} {s:Ps} {w:World} (hp:Pre C.L (.prop) s) (K:KP C (zZ C.L (.prop) s)) (h:Pa C s w) (hk:(zL C.L s.k).kind=2) (hT:Tab C.w0) (htg:TG (zL C.L s.k)):zc C s w (.prop):=by
 refine zAg hp h fun HL hlen hsk r W X HR hW hX F0=>?_;have HK:=zA K;clear K h hp;go_enter func223,ntmps223;go_upto_region 1 with(fail);clear hW hX;have HK1:=zA hk;have HTG:=zA htg;clear htg;clear hk;have HTB:=zA hT;clear hT;have hlt:=zA (HL.out.lt hsk (by rw[HK1.out];decide));obtain⟨⟨kd,tx,st,nk,nn,mg,ps,nl⟩,HT⟩:=zP C.L (s).k;go_wp2_with fail;refine F0.kT (zf F0.P HT.out) fun w1 As Am c1 c2 F1=>?_;have F2:=F1.bt 1 44 rfl;have hkd:kd=2:=by have:=HK1.out;rw[HT.out]at this;exact this
 have e4:((kd:Int)==4)=false:=by rw[hkd];decide
 have e2:((kd:Int)==2)=true:=by rw[hkd];decide
 have e1:((kd:Int)==1)=false:=by rw[hkd];decide
 have e6:((kd:Int)==6)=false:=by rw[hkd];decide
 clear hkd;go_wp2_with fail;refine F2.made0 _ fun w3 F3=>?_;have F4:=F3.bt 3 72 rfl;go_upto_region 3 with(fail);refine zCs F4 fun w5 F5=>?_;obtain⟨_,_,_,_,_,_,_,_,_⟩:=F5.c 2;obtain⟨_,_,_,_,_,_,_,_,_⟩:=F5.c 4;obtain⟨_,_,_,_,_,_,_,_,_⟩:=F5.f 4;have hn1:=HTG.out.num HK1.out;rw[HT.out]at hn1;have hnk:nk=0:=hn1.1;have hn2:0≤nn:=hn1.2.1;have hn3:nn≤9007199254740991:=hn1.2.2;clear hn1;have CT:Calls prog 130 #[.agg #[.int .i64 nk,.int .i64 nn]] w5 fun e w'=>e=.returned (.string ⟨(zG6 nn.toNat).toArray⟩)∧(w5).grownBy w' none:=by
  rw[hnk];exact(zMA nn _ hn2 hn3 (HTB.out.below HTB.out.lt F5.P.keep)).mono fun _ _ h=>⟨h.1,zi none h.2⟩
 obtain⟨sd,hsd⟩:∃sd,zG6 nn.toNat=sd:=⟨_,rfl⟩;have hsl1:=zJq hn2 hn3;rw[hsd]at CT hsl1;have HSL:=zA hsl1;have HSD:=zA hsd;have HCT:=zA CT;clear CT hnk hn2 hn3 hsl1 hsd;go_wp2_with fail;refine F5.kQ HCT.out fun w6 F6=>?_;clear HCT;go_wp2_with fail;refine F6.kU (zD1 (sd) _ HSL.out) fun w7 Aa ca F7=>?_;obtain⟨_,_,_,_,_,_,_,_,_⟩:=F7.c 4;obtain⟨_,_,_,_,_,_,_,_,_⟩:=F7.f 4;have F8:=F7.set 4 2 (.slice Aa (sd).length ca);obtain⟨xk,fk,bk⟩:=F8.k1;go_upto_region 13 with(fail);refine zCs F8 fun w9 F9=>?_;clear xk fk bk;obtain⟨xk10,fk10,bk10⟩:=F9.k1;have F10:=F9.step hlt.out;obtain⟨_,_,_,_,_,_,_,_,_⟩:=F10.c 2;have hnd:=zA (zU (w:=[58]) HL.out (s:=zB s) hlt.out).adv;have hkk:s.k < (zN C.L [58] (zB s)).k:=by have:=hnd.out.le;have:(zB s).k=s.k+1:=rfl;omega
 go_wp2_with fail;refine F10.kN (zr F10.P [58]) fun w11 F11=>?_;go_wp2_with fail;refine F11.kX (HK.out.more (q:=.assign) ⟨F11.P.hi,trivial⟩ F11.P hkk) fun rq12 HRQ12 w12 d12_0 d12_1 d12_2 d12_3 d12_4 d12_5 d12_6 d12_7 d12_8 F12=>?_;obtain⟨_,_,_,_,_,_,_,_,_⟩:=F12.sto 6;obtain⟨_,_,_,_,_,_,_,_,_⟩:=F12.c 4;obtain⟨_,_,_,_,_,_,_,_,_⟩:=F12.f 4;obtain⟨_,_,_,_,_,_,_,_,_⟩:=(F12.al (.cells #[d12_0,d12_1,d12_2,d12_3,d12_4,d12_5,d12_6,d12_7,d12_8] 72)).c 4;obtain⟨_,_,_,_,_,_,_,_,_⟩:=(F12.al (.cells #[d12_0,d12_1,d12_2,d12_3,d12_4,d12_5,d12_6,d12_7,d12_8] 72)).f 4;have F13:=F12.lit1 6 rfl;have F14:=F13.set 4 8 (.slice (some ⟨w12.heap.size,0,none⟩) 1 1);go_upto_region 19 with(fail);refine zCs F14 fun w15 F15=>?_;have F16:=F15.propT 7 5 (zAt (sd)) (zCc _).symm;obtain⟨_,_,_,_,_,_,_,_,_⟩:=F16.c 4;obtain⟨_,_,_,_,_,_,_,_,_⟩:=F16.c 0;obtain⟨_,_,_,_,_,_,_,_,_⟩:=F16.f 0;go_wp2_with fail;refine zM (F16.put 0 8) fun V17 F17=>?_;have q:=F17.c 0;exact F17.ret 8 rfl (by simp[results,results223,go_sem,q]) rfl (HR.out.symm.trans (by
  unfold zE;dsimp only;rw[show zAx (zL C.L s.k)=some (zAt (sd))from by unfold zAx;rw[HK1.out];simp[HT.out,HSD.out]];dsimp only;rw[if_neg (fun h=>by have:=HK1.out;rw[h.1]at this;cases this),HRQ12.out])) (fun _ h=>h)
theorem zOT {C:Pc} {s:Ps} {w:World} (hp:Pre C.L .prop s) (K:KP C (zZ C.L .prop s)) (h:Pa C s w) (hT:Tab C.w0) (hTL:TL C.L):zc C s w .prop:=by
 by_cases k4:(zL C.L s.k).kind=4
 · exact zHm hp K h k4
 by_cases k2:(zL C.L s.k).kind=2
 · exact zHn hp K h k2 hT (hTL s.k)
 by_cases k1:(zL C.L s.k).kind=1
 · cases hon:onP C.L [58] (zB s)with
   | true=>exact zJp hp K h k1 (hTL s.k) hon
   | false=>exact zJo hp K h k1 (hTL s.k) hon
 by_cases k6:(zL C.L s.k).kind=6
 · exact zL9 hp K h k6 (hTL s.k)
 exact zL8 hp K h ⟨k4,k2,k1,k6⟩
theorem zQ3 {C:Pc} (hT:Tab C.w0) (hTL:TL C.L):∀N,KP C N:=by
 intro N
 induction N with
 | zero=>exact fun q s w _ hlt _=>absurd hlt (Nat.not_lt_zero _)
 | succ N ih=>
  intro q s w hp hlt h;have K:KP C (zZ C.L q s):=fun q' s' w' hp' hl' h'=>ih q' s' w' hp' (by omega) h';cases q with
  | program acc=>
   cases acc with
   | nil=>exact zHd hp K h
   | cons a r=>exact trivial
  | block=>exact zLu hp K h
  | blockL acc=>exact trivial
  | item=>exact zN9 hp K h
  | declares=>exact zGu hp K h
  | declL k acc=>exact trivial
  | func k n=>exact zN7 hp K h
  | params=>exact zN6 hp K h
  | paramL acc=>exact trivial
  | statement=>exact zEu hp K h
  | simple=>exact zJa hp K h
  | word v=>exact zOE hp K h
  | within=>exact zJZ hp K h
  | clause v=>exact zJb hp K h
  | loop=>exact zOL hp K h
  | jump k=>exact zOA hp K h
  | tries=>exact zQS hp K h
  | assign=>exact zJk hp K h
  | body l=>exact zN8 hp K h
  | cond=>exact zNz hp K h
  | either=>exact zJc hp K h
  | nullL x=>exact trivial
  | orL x=>exact trivial
  | both x=>exact zNy hp K h
  | level n=>exact zLs hp K h
  | levelL n x=>exact trivial
  | unary=>exact zLp hp K h
  | calls=>exact zL4 hp K h
  | callsL x=>exact trivial
  | head=>exact zOJ hp K h
  | headL x=>exact trivial
  | args=>exact zN5 hp K h
  | list v=>exact zN4 hp K h
  | listL v acc=>exact trivial
  | primary=>exact zHh hp K h
  | object=>exact zJd hp K h
  | objL acc=>exact trivial
  | prop=>exact zOT hp K h hT hTL
theorem zHo {C:Pc} {s:Ps} {w:World} (hT:Tab C.w0) (hTL:TL C.L) (hp:Pre C.L (.program []) s) (h:Pa C s w):Calls prog 34 #[.pointer (some ⟨C.g,0,none⟩)] w (zCP C (zF C.L (.program []) s) w):=
 zQ3 hT hTL (zZ C.L (.program []) s+1) (.program []) s w hp (yAF _) h
theorem Tryz.info_anode:(prog.info? 48).map (fun i=>(i.zero,i.size,i.bytes))=some (some (.agg #[.int .i64 0,.string ⟨#[]⟩,.slice none 0 0,.int .i64 0,.int .i64 0,.bool false,.slice none 0 0,.slice none 0 0]),8,120):=by kernel_rfl
structure Chg (w w':World) (S:Nat→Prop):Prop where
 os:w'.os=w.os
 tape:w'.tape=w.tape
 output:w'.output=w.output
 size:w.heap.size≤w'.heap.size
 block:∀i,i < w.heap.size→¬S i→w'.heap[i]? =w.heap[i]?
section
variable {a b c w w':World} {S S' G G' F:Nat→Prop} {r:Option Nat}
theorem Chg.of (h:w.grownBy w' r):Chg w w' (fun i=>r=some i):=⟨h.os,h.tape,h.output,h.size,fun i hi hn=>h.block i hi (fun e=>hn e.symm)⟩
theorem Chg.trans (h:Chg a b S) (k:Chg b c S') (hs:∀i,i < a.heap.size→S' i→S i):Chg a c S:=
 ⟨k.os.trans h.os,k.tape.trans h.tape,k.output.trans h.output,yAD h.size k.size,fun i hi hn=>(k.block i (yAA hi h.size) (fun h2=>hn (hs i hi h2))).trans (h.block i hi hn)⟩
theorem Chg.more (h:Chg a b S) (hs:∀i,i < a.heap.size→S i→S' i):Chg a b S':=⟨h.os,h.tape,h.output,h.size,fun i hi hn=>h.block i hi (fun h2=>hn (hs i hi h2))⟩
theorem zAd {base n s:Nat} {e:TypeId} {v:Value} {xs:List Value} (h:w.ownsRow base e s v n xs) (hc:Chg w w' S) (hn:∀b,v.ownBlock=some b→¬S b):w'.ownsRow base e s v n xs:=by
 refine⟨h.1,?_⟩;rcases h.2 with h2 | ⟨g,cap,cur,rfl,hb,hg,h3⟩
 · exact .inl h2
 · refine .inr ⟨g,cap,cur,rfl,hb,?_,h3⟩;have hl:g < w.heap.size:=by
    rcases Nat.lt_or_ge g w.heap.size with h1 | h1
    · exact h1
    · rw[Array.getElem?_eq_none h1]at hg;cases hg
   rw[hc.block g hl (hn g rfl)];exact hg
def Sty (w:World) (S G:Nat→Prop):Prop:=∀b,S b→b < w.heap.size→∃cur T,w.heap[b]? =some (.cells cur T (0,0))∧(T=27∨T=48∨(T=3∧¬G b))
theorem zBs {base n s:Nat} {e:TypeId} {v:Value} {xs:List Value} (h:w.ownsRow base e s v n xs) (hS:Sty w S G) (he:e≠27∧e≠48∧e≠3):∀b,v.ownBlock=some b→¬S b:=by
 intro b hb hs;obtain⟨cur,h1⟩:=zA0 h hb;obtain⟨cur2,T,h2,h3⟩:=hS b hs (h.lt b hb).2;rw[h1]at h2;injection h2 with h2;injection h2 with _ h4 _;subst h4;rcases h3 with h3 | h3 | h3
 · exact he.1 h3
 · exact he.2.1 h3
 · exact he.2.2 h3.1
theorem zFt {base n s:Nat} {v:Value} {xs:List Value} (h:w.ownsRow base 3 s v n xs) (hS:Sty w S G) (hG:∀b,v.ownBlock=some b→G b):∀b,v.ownBlock=some b→¬S b:=by
 intro b hb hs;obtain⟨cur,h1⟩:=zA0 h hb;obtain⟨cur2,T,h2,h3⟩:=hS b hs (h.lt b hb).2;rw[h1]at h2;injection h2 with h2;injection h2 with _ h4 _;subst h4;rcases h3 with h3 | h3 | h3
 · exact absurd h3 (by decide)
 · exact absurd h3 (by decide)
 · exact h3.2 (hG b hb)
mutual
theorem TrC.chg {w w':World} {S G F:Nat→Prop} (hc:Chg w w' S) (hS:Sty w S G) (t:Tr) (cs:List Value) (h:TrC w F t cs):TrC w' F t cs:=by
 cases t with
 | mk x l=>
  rw[zDC]at h⊢;obtain⟨vs,vm,vo,ks,h1,h2,h3,h4,h5,h6,h7⟩:=h;exact⟨vs,vm,vo,ks,h1,h2,zAd h3 hc (zBs h3 hS (by decide)),zAd h4 hc (zBs h4 hS (by decide)),zAd h5 hc (zBs h5 hS (by decide)),h6,TrsC.chg hc hS l ks h7⟩
theorem TrsC.chg {w w':World} {S G F:Nat→Prop} (hc:Chg w w' S) (hS:Sty w S G) (l:List Tr) (cs:List Value) (h:TrsC w F l cs):TrsC w' F l cs:=by
 cases l with
 | nil=>rw[zBn]at h⊢;exact h
 | cons t q=>
  rw[zBB]at h⊢;obtain⟨c0,rest,h1,h2,h3⟩:=h;exact⟨c0,rest,h1,TrC.chg hc hS t c0 h2,TrsC.chg hc hS q rest h3⟩
end
def ndC (x:Nd) (vs vm vk:Value):List Value:=[.int .i64 x.kind,.string ⟨x.name.toArray⟩,vs,.int .i64 x.nk,.int .i64 x.nn,.bool x.neg,vm,vk]
def NdsC (w:World) (G:Nat→Prop):List Nd→List Value→Prop
 | [],cs=>cs=[]
 | x::r,cs=>∃vs vm vk rest,cs=ndC x vs vm vk++rest∧w.ownsRow 0 24 1 vs x.str.length (zAD x.str)∧w.ownsRow 0 87 1 vm x.mag.length (zBm x.mag)∧w.ownsRow 0 3 1 vk x.kids.length (zBC x.kids)∧(∀b,vk.ownBlock=some b→G b)∧NdsC w G r rest
def Laid (w:World) (G:Nat→Prop) (v:Value) (ts:List Nd):Prop:=∃ks,w.ownsRow 0 48 8 v ts.length ks∧NdsC w G ts ks
theorem NdsC.chg (hc:Chg w w' S) (hS:Sty w S G):∀(ts:List Nd) (cs:List Value),NdsC w G ts cs→NdsC w' G ts cs:=by
 intro ts
 induction ts with
 | nil=>intro cs h;exact h
 | cons x r ih=>
  intro cs h;obtain⟨vs,vm,vk,rest,h1,h2,h3,h4,h5,h6⟩:=h;exact⟨vs,vm,vk,rest,h1,zAd h2 hc (zBs h2 hS (by decide)),zAd h3 hc (zBs h3 hS (by decide)),zAd h4 hc (zFt h4 hS h5),h5,ih rest h6⟩
theorem NdsC.sub (hs:∀b,G b→b < w.heap.size→G' b):∀(ts:List Nd) (cs:List Value),NdsC w G ts cs→NdsC w G' ts cs:=by
 intro ts
 induction ts with
 | nil=>intro cs h;exact h
 | cons x r ih=>
  intro cs h;obtain⟨vs,vm,vk,rest,h1,h2,h3,h4,h5,h6⟩:=h;exact⟨vs,vm,vk,rest,h1,h2,h3,h4,fun b hb=>hs b (h5 b hb) (h4.lt b hb).2,ih rest h6⟩
theorem NdsC.snoc {x:Nd} {vs vm vk:Value} (h2:w.ownsRow 0 24 1 vs x.str.length (zAD x.str)) (h3:w.ownsRow 0 87 1 vm x.mag.length (zBm x.mag)) (h4:w.ownsRow 0 3 1 vk x.kids.length (zBC x.kids)) (h5:∀b,vk.ownBlock=some b→G b):∀{ts:List Nd} {cs:List Value},NdsC w G ts cs→NdsC w G (ts++[x]) (cs++ndC x vs vm vk):=by
 intro ts
 induction ts with
 | nil=>intro cs h;rw[show cs=[]from h];exact⟨vs,vm,vk,[],by rw[List.append_nil];rfl,h2,h3,h4,h5,rfl⟩
 | cons y r ih=>
  intro cs h;obtain⟨us,um,uk,rest,rfl,k2,k3,k4,k5,k6⟩:=h;exact⟨us,um,uk,rest++ndC x vs vm vk,by rw[List.append_assoc],k2,k3,k4,k5,ih k6⟩
theorem NdsC.kids {vk:Value} {K:List Int} (h4:w.ownsRow 0 3 1 vk K.length (zBC K)) (h5:∀b,vk.ownBlock=some b→G b):∀{ts:List Nd} {cs:List Value} {i:Nat} {x:Nd},NdsC w G ts cs→ts[i]? =some x→NdsC w G (ts.set i {x with kids:=K}) (cs.set (i*8+7) vk):=by
 intro ts
 induction ts with
 | nil=>intro cs i x h hx;cases hx
 | cons y r ih=>
  intro cs i x h hx;obtain⟨us,um,uk,rest,rfl,k2,k3,k4,k5,k6⟩:=h;cases i with
  | zero=>
   simp only[List.getElem?_cons_zero,Option.some.injEq]at hx;subst hx;exact⟨us,um,vk,rest,by rw[List.set_append_left _ _ (by show 0*8+7 < 8;omega)];rfl,k2,k3,h4,h5,k6⟩
  | succ i=>
   refine⟨us,um,uk,rest.set (i*8+7) vk,?_,k2,k3,k4,k5,ih k6 (by simpa using hx)⟩;rw[List.set_append_right _ _ (by show 8≤_;omega)];congr 2;show(i+1)*8+7 - 8=_;omega
end
theorem zJr (n:Nat) (l:List Tr) (t:Tr):flatL n (l++[t])=flatL n l++flatT (n+sizes l) t:=by
 induction l generalizing n with
 | nil=>rw[List.nil_append,zAU,zAb,zAb,List.append_nil,List.nil_append,zJ,Nat.add_zero]
 | cons a r ih=>rw[List.cons_append,zAU,zAU,ih,List.append_assoc,zI,Nat.add_assoc]
theorem zHp (n:Nat) (l:List Tr) (t:Tr):zAM n (l++[t])=zAM n l++[((n+sizes l:Nat):Int)]:=by
 induction l generalizing n with
 | nil=>rw[zJ];rfl
 | cons a r ih=>rw[List.cons_append,zAM,zAM,ih,zI,Nat.add_assoc];rfl
theorem zJs (l:List Tr) (t:Tr):sizes (l++[t])=sizes l+t.size:=by
 induction l with
 | nil=>rw[List.nil_append,zI,zJ];omega
 | cons a r ih=>rw[List.cons_append,zI,zI,ih];omega
theorem zFu (l:List Tr):∀i,sizes (l.take i)≤sizes l:=by
 induction l with
 | nil=>intro i;simp
 | cons a r ih=>
  intro i;cases i with
  | zero=>simp[zJ]
  | succ i=>rw[List.take_succ_cons,zI,zI];have:=ih i;omega
theorem zMB {l:List Tr} {i:Nat} (hi:i < l.length):sizes (l.take i)+l[i].size≤sizes l:=by
 have h:=zFu l (i+1);rw[yAK hi,zJs]at h;exact h
theorem zIc (l:List Tr):l.length≤sizes l:=by
 induction l with
 | nil=>simp
 | cons a r ih=>rw[zI,List.length_cons];have:=zBi a;omega
theorem zOU {l:List Tr} {t:Tr} (h:t∈l):t.size≤sizes l:=by
 induction l with
 | nil=>cases h
 | cons a r ih=>
  rw[zI];rcases List.mem_cons.1 h with rfl | h
  · omega
  · have:=ih h;omega
theorem zDl {w:World} {base n s R:Nat} {e T:TypeId} {v:Value} {xs cs:List Value} (h:w.ownsRow base e s v n xs) (hb:Bx w R T cs) (he:e≠T):v.ownBlock≠some R:=by
 intro h2;obtain⟨cur,h1⟩:=zA0 h h2;unfold Bx at hb;rw[h1]at hb;injection hb with hb;injection hb with _ h3 _;exact he h3
theorem zQV {w:World} {base base' n n' s s':Nat} {e T:TypeId} {v v':Value} {xs cs:List Value} (h:w.ownsRow base e s v n xs) (hb:w.ownsRow base' T s' v' n' cs) (he:e≠T):∀b,v.ownBlock=some b→v'.ownBlock≠some b:=by
 intro b h2 h3;obtain⟨cur,h1⟩:=zA0 h h2;obtain⟨cur',h4⟩:=zA0 hb h3;rw[h1]at h4;injection h4 with h4;injection h4 with _ h5 _;exact he h5
theorem TrsC.get {w:World} {F:Nat→Prop}:∀{l:List Tr} {ks:List Value},TrsC w F l ks→∀{i:Nat} (hi:i < l.length),∃e0 e1 e2 e3 e4 e5 e6 e7 e8,TrC w F l[i] [e0,e1,e2,e3,e4,e5,e6,e7,e8]∧∀j (hj:j < 9),ks[i*9+j]? =some ([e0,e1,e2,e3,e4,e5,e6,e7,e8][j]'hj):=by
 intro l
 induction l with
 | nil=>intro ks h i hi;simp at hi
 | cons t r ih=>
  intro ks h i hi;rw[zBB]at h;obtain⟨c0,rest,rfl,h1,h2⟩:=h;have hl:=h1.len;cases i with
  | zero=>
   match c0,hl with
   | [e0,e1,e2,e3,e4,e5,e6,e7,e8],_=>
    refine⟨e0,e1,e2,e3,e4,e5,e6,e7,e8,h1,fun j hj=>?_⟩;rw[Nat.zero_mul,Nat.zero_add,List.getElem?_append_left (by simpa using hj)];exact yAB _
  | succ i=>
   obtain⟨e0,e1,e2,e3,e4,e5,e6,e7,e8,h3,h4⟩:=ih h2 (i:=i) (by simpa using hi);refine⟨e0,e1,e2,e3,e4,e5,e6,e7,e8,h3,fun j hj=>?_⟩;rw[List.getElem?_append_right (by omega),hl,show(i+1)*9+j - 9=i*9+j by omega];exact h4 j hj
def zQ4 (w:World) (Tb:Nat) (v:Value) (G:Nat→Prop) (ts:List Nd) (tr:Tr) (e:Ending) (w':World):Prop:=
 e=.returned (.int .i64 (ts.length:Int))∧∃v',Bx w' Tb 27 [v']∧Laid w' (fun b=>G b∨w.heap.size≤b) v' (ts++flatT ts.length tr)∧Chg w w' (fun i=>i=Tb∨v.ownBlock=some i)∧(v'.ownBlock=v.ownBlock∨∃b,v'.ownBlock=some b∧w.heap.size≤b)
structure LayS (w:World) (Tb:Nat) (v:Value) (G F:Nat→Prop) (ts1:List Nd) (l:List Tr) (ks:List Value) (vo:Value) (i:Nat) (v6 vN:Value) (wr:World):Prop where
 box:Bx wr Tb 27 [vN]
 laid:Laid wr (fun b=>(G b∨w.heap.size≤b)∧v6.ownBlock≠some b∧b < wr.heap.size) vN (ts1++flatL ts1.length (l.take i))
 chg:Chg w wr (fun i=>i=Tb∨v.ownBlock=some i)
 at_:vN.ownBlock=v.ownBlock∨∃b,vN.ownBlock=some b∧w.heap.size≤b
 row:wr.ownsRow 0 3 1 v6 i (zBC (zAM ts1.length (l.take i)))
 new6:∀b,v6.ownBlock=some b→w.heap.size≤b
 kids:wr.ownsRow 0 72 9 vo l.length ks
 subs:TrsC wr F l ks
section
variable {w wr w2 w3:World} {e:Ending} {Tb i:Nat} {v v6 vN vo v2 v6':Value} {G F:Nat→Prop} {ts1:List Nd} {l:List Tr} {ks:List Value}
theorem LayS.lenT (_h:LayS w Tb v G F ts1 l ks vo i v6 vN wr):(ts1++flatL ts1.length (l.take i)).length=ts1.length+sizes (l.take i):=by rw[List.length_append,flatL_len]
theorem LayS.sty (h:LayS w Tb v G F ts1 l ks vo i v6 vN wr) (G2:Nat→Prop):Sty wr (fun i=>i=Tb∨vN.ownBlock=some i) G2:=by
 intro b hb _;rcases hb with rfl | hb
 · exact⟨_,_,h.box,.inl rfl⟩
 · obtain⟨kl,h1,_⟩:=h.laid;obtain⟨cur,h2⟩:=zA0 h1 hb;exact⟨cur,_,h2,.inr (.inl rfl)⟩
theorem LayS.new (h:LayS w Tb v G F ts1 l ks vo i v6 vN wr) (hg:wr.grownBy w2 none):LayS w Tb v G F ts1 l ks vo i v6 vN w2:=by
 have hc:Chg wr w2 (fun i=>none=some i):=.of hg;have hS:∀G2,Sty wr (fun i=>(none:Option Nat)=some i) G2:=fun G2 b hb _=>by cases hb
 have hn:∀(o:Option Nat) b,o=some b→¬(none:Option Nat)=some b:=fun o b _ h=>by cases h
 obtain⟨kl,h1,h2⟩:=h.laid;have hsz:=hg.size;exact⟨h.box.grown hg (by simp),⟨kl,zAd h1 hc (hn _),.sub (fun b hb _=>⟨hb.1,hb.2.1,by omega⟩) _ _ (NdsC.chg hc (hS _) _ _ h2)⟩,h.chg.trans hc (fun _ _ h=>by cases h),h.at_,zAd h.row hc (hn _),h.new6,zAd h.kids hc (hn _),TrsC.chg hc (hS (fun _=>True)) _ _ h.subs⟩
theorem LayS.row2 {G2:Nat→Prop} {ts2:List Nd} {t:Tr} (h:LayS w Tb v G F ts1 l ks vo i v6 vN wr) (hq:zQ4 wr Tb vN G2 ts2 t e w2):w2.ownsRow 0 3 1 v6 i (zBC (zAM ts1.length (l.take i))):=by
 obtain⟨_,_,_,_,hc,_⟩:=hq;exact zAd h.row hc (zFt (G:=fun _=>True) h.row (h.sty _) (fun _ _=>trivial))
theorem LayS.done {x:Nd} {ts:List Nd} {gN nN cN i:Nat} {v6:Value} (h:LayS w Tb v G F (ts++[x]) l ks vo i v6 (.slice (some ⟨gN,0,none⟩) nN cN) wr) (hi:i=l.length):zQ4 w Tb v G ts (.mk x l) (.returned (.int .i64 (ts.length:Int))) (wr.setCell ⟨gN,ts.length*8+7,none⟩ v6):=by
 obtain⟨kl,h1,h2⟩:=h.laid;have hlen:(ts++[x]++flatL (ts++[x]).length (l.take i)).length=nN:=by
  obtain⟨A',c',e,_⟩:=zR h1;injection e with e1 e2 e3;exact e2.symm
 rw[hlen]at h1;have hst:=h1.stored (ts.length*8+7) v6;have hgN:(Value.slice (some ⟨gN,0,none⟩) nN cN).ownBlock=some gN:=rfl;have hC:Chg wr (wr.setCell ⟨gN,ts.length*8+7,none⟩ v6) (fun j=>some gN=some j):=.of hst.2;have hS:∀G2:Nat→Prop,Sty wr (fun j=>some gN=some j) G2:=by
  intro G2 b hb _;injection hb with hb;subst hb;obtain⟨cur,h5⟩:=zA0 h1 hgN;exact⟨cur,_,h5,.inr (.inl rfl)⟩
 have htk:l.take i=l:=List.take_of_length_le (by omega);have hrow:=zAd h.row hC (zFt (G:=fun _=>True) h.row (hS _) (fun _ _=>trivial));have hne:gN≠Tb:=fun e5=>zDl h1 h.box (by decide) (by rw[hgN,e5]);refine⟨rfl,.slice (some ⟨gN,0,none⟩) nN cN,h.box.gg hst.2 hne,⟨kl.set (ts.length*8+7) v6,?_,?_⟩,h.chg.trans hC ?_,h.at_⟩
 · have e:(ts++flatT ts.length (.mk x l)).length=nN:=by
    rw[←hlen,htk,zA2];simp
   rw[e];exact hst.1
 · have e:ts++flatT ts.length (.mk x l)=(ts++[x]++flatL (ts++[x]).length (l.take i)).set ts.length {x with kids:=zAM (ts.length+1) l}:=by
    rw[zA2,htk,List.append_assoc,List.set_append_right _ _ (yAC _)];simp
   rw[e];have h3:=NdsC.chg hC (hS _) _ _ h2;have h4:=NdsC.sub (G':=fun b=>G b∨w.heap.size≤b) (fun b hb _=>hb.1) _ _ h3;have hK:(wr.setCell ⟨gN,ts.length*8+7,none⟩ v6).ownsRow 0 3 1 v6 (zAM (ts.length+1) l).length (zBC (zAM (ts.length+1) l)):=by
    rw[zDN,←hi];rw[htk]at hrow;simpa using hrow
   refine NdsC.kids hK (fun b hb=>.inr (h.new6 b hb)) h4 ?_;rw[List.append_assoc,List.getElem?_append_right (yAC _)];simp
 · intro j hj h5;injection h5 with h5;subst h5;rcases h.at_ with h6 | ⟨b,h6,h7⟩
   · exact .inr (h6▸hgN)
   · rw[hgN]at h6;injection h6 with h6;omega
theorem LayS.step (h:LayS w Tb v G F ts1 l ks vo i v6 vN wr) (hi:i < l.length) (hq:zQ4 wr Tb vN (fun b=>(G b∨w.heap.size≤b)∧v6.ownBlock≠some b∧b < wr.heap.size) (ts1++flatL ts1.length (l.take i)) l[i] e w2)
 (hrow:w3.ownsRow 0 3 1 v6' (i+1) (zBC (zAM ts1.length (l.take i))++[.int .i64 ((ts1.length+sizes (l.take i):Nat):Int)])) (hg:w2.grownBy w3 v6.ownBlock) (hat:v6'.ownBlock=v6.ownBlock∨∃b,v6'.ownBlock=some b∧w2.heap.size≤b):
 ∃vN',LayS w Tb v G F ts1 l ks vo (i+1) v6' vN' w3:=by
 obtain⟨_,vN',hb,hL,hc,hat2⟩:=hq;have hww:w.heap.size≤wr.heap.size:=h.chg.size;have h12:=hc.size;have h23:=hg.size;have hC3:Chg w2 w3 (fun i=>v6.ownBlock=some i):=.of hg;have h6lt:∀b,v6.ownBlock=some b→b < wr.heap.size:=fun b hb=>(h.row.lt b hb).2;have hrow2:w2.ownsRow 0 3 1 v6 i (zBC (zAM ts1.length (l.take i))):=zAd h.row hc (zFt (G:=fun _=>True) h.row (h.sty _) (fun _ _=>trivial));have hS3:∀G2:Nat→Prop,(∀b,v6.ownBlock=some b→¬G2 b)→Sty w2 (fun i=>v6.ownBlock=some i) G2:=by
  intro G2 hG2 b hb _;obtain⟨cur,h2⟩:=zA0 hrow2 hb;exact⟨cur,_,h2,.inr (.inr ⟨rfl,hG2 b hb⟩)⟩
 have hnG:∀b,v6.ownBlock=some b→¬(((G b∨w.heap.size≤b)∧v6.ownBlock≠some b∧b < wr.heap.size)∨wr.heap.size≤b):=by
  intro b hb h5;have:=h6lt b hb;rcases h5 with h5 | h5
  · exact h5.2.1 hb
  · omega
 obtain⟨kl,k1,k2⟩:=hL;have hvN':vN'.ownBlock≠some Tb:=zDl k1 hb (by decide);have hoff:∀b,vN'.ownBlock=some b→¬v6.ownBlock=some b:=fun b hb h5=>zQV k1 hrow2 (by decide) b hb h5;have e1:l.take (i+1)=l.take i++[l[i]]:=yAK hi;have hlen:(ts1++flatL ts1.length (l.take i)).length=ts1.length+sizes (l.take i):=h.lenT;refine⟨vN',?_,?_,?_,?_,?_,?_,?_,?_⟩
 · exact hb.grown hg (fun e2=>zDl hrow2 hb (by decide) e2)
 · rw[e1,zJr,←List.append_assoc];rw[hlen]at k1 k2;refine⟨kl,zAd k1 hC3 hoff,?_⟩;have k3:=NdsC.chg hC3 (hS3 _ hnG) _ _ k2;have k4:=NdsC.sub (G':=fun b=>b < w2.heap.size∧(((G b∨w.heap.size≤b)∧v6.ownBlock≠some b∧b < wr.heap.size)∨wr.heap.size≤b)) (fun b hb hl=>⟨hl,hb⟩) _ _ k2;have k5:=NdsC.chg hC3 (hS3 _ (fun b hb h5=>hnG b hb h5.2)) _ _ k4;refine NdsC.sub (fun b hb _=>⟨?_,?_,by omega⟩) _ _ k5
   · rcases hb.2 with h5 | h5
     · exact h5.1
     · exact .inr (by omega)
   · intro e2;rcases hat with e3 | ⟨g,e3,hg3⟩
     · rw[e3]at e2;exact hnG b e2 hb.2
     · rw[e3]at e2;injection e2 with e2;omega
 · refine(h.chg.trans hc ?_).trans hC3 ?_
   · intro j hj h5;rcases h5 with h5 | h5
     · exact .inl h5
     · rcases h.at_ with h6 | ⟨b,h6,h7⟩
       · exact .inr (h6▸h5)
       · rw[h6]at h5;injection h5 with h5;omega
   · intro j hj h5;have:=h.new6 j h5;omega
 · rcases hat2 with h5 | ⟨b,h5,h6⟩
   · rw[h5];exact h.at_
   · exact .inr ⟨b,h5,by omega⟩
 · rw[e1,zHp];have:zBC (zAM ts1.length (l.take i)++[((ts1.length+sizes (l.take i):Nat):Int)])=zBC (zAM ts1.length (l.take i))++[.int .i64 ((ts1.length+sizes (l.take i):Nat):Int)]:=by simp[zBC]
   rw[this];exact hrow
 · intro b h5;rcases hat with e3 | ⟨g,e3,hg3⟩
   · rw[e3]at h5;exact h.new6 b h5
   · rw[e3]at h5;injection h5 with h5;omega
 · have k3:=zAd h.kids hc (zBs h.kids (h.sty (fun _=>True)) (by decide));exact zAd k3 hC3 (zBs k3 (hS3 (fun b=>¬v6.ownBlock=some b) (fun b hb h5=>h5 hb)) (by decide))
 · have k3:=TrsC.chg hc (h.sty (fun _=>True)) _ _ h.subs;exact TrsC.chg hC3 (hS3 (fun b=>¬v6.ownBlock=some b) (fun b hb h5=>h5 hb)) _ _ k3
end
def zRW (tr:Tr):Prop:=∀(w:World) (Tb:Nat) (v:Value) (G F:Nat→Prop) (ts:List Nd) (d0 d1 d2 d3 d4 d5 d6 d7 d8:Value),TrC w F tr [d0,d1,d2,d3,d4,d5,d6,d7,d8]→Bx w Tb 27 [v]→Laid w G v ts→ts.length+tr.size≤1000000→
 Calls prog 61 #[.pointer (some ⟨Tb,0,none⟩),.agg #[d0,d1,d2,d3,d4,d5,d6,d7,d8]] w (zQ4 w Tb v G ts tr)
theorem zOV (x:Nd) (l:List Tr) (ih:∀t∈l,zRW t):zRW (.mk x l):=by
 intro w Tb v G F ts d0 d1 d2 d3 d4 d5 d6 d7 d8 ht hT hL hN;rw[zDC]at ht;obtain⟨vs,vm,vo,ks,hcs,hkid,hstr,hmag,hrow,hF,hsub⟩:=ht;obtain⟨As,cs,rfl,_,_⟩:=zR hstr;obtain⟨Am,cm,rfl,_,_⟩:=zR hmag;obtain⟨Ao,co,rfl,hco,_⟩:=zR hrow;simp only[zPy,List.cons.injEq,and_true]at hcs;obtain⟨rfl,rfl,rfl,rfl,rfl,rfl,rfl,rfl,rfl⟩:=hcs;obtain⟨kl,hown,hnds⟩:=hL;obtain⟨A,c,rfl,hc,_⟩:=zR hown;rw[zb]at hN;obtain⟨n,hn⟩:∃n,ts.length=n:=⟨_,rfl⟩;obtain⟨m,hm⟩:∃m,l.length=m:=⟨_,rfl⟩;rw[hn]at hown hc hN hT;rw[hm]at hrow hco;rw[hn,hm];obtain⟨W,hW⟩:∃W,w.alloc (.cells #[.int .i64 x.kind,.string ⟨x.name.toArray⟩,.slice As x.str.length cs,.int .i64 x.nk,.int .i64 x.nn,.bool x.neg,.slice Am x.mag.length cm,.slice none 0 0,.slice Ao m co] 72)=W:=⟨_,rfl⟩;have hg0:w.grownBy W none:=by rw[←hW];exact zG _ _ _
 obtain⟨X,hX⟩:∃X,w.heap.size=X:=⟨_,rfl⟩;have HX:=zA (show Bx W X 72 [.int .i64 x.kind,.string ⟨x.name.toArray⟩,.slice As x.str.length cs,.int .i64 x.nk,.int .i64 x.nn,.bool x.neg,.slice Am x.mag.length cm,.slice none 0 0,.slice Ao m co] by rw[←hW,←hX];exact Bx.new w _ _);have hTX:Tb < X:=by rw[←hX];exact hT.lt
 have HT:=zA (hT.grown hg0 (by simp));have hXW:W.heap.size=X+1:=by rw[←hW,←hX];simp
 have HOWN:=zA (hown.kept hg0 (by cases (Value.slice A n c).ownBlock<;>simp));have HNDS:=zA (NdsC.chg (G:=G) (.of hg0) (fun b hb _=>by cases hb) ts kl hnds);have HROW:=zA (hrow.kept hg0 (by cases (Value.slice Ao m co).ownBlock<;>simp));have HSUB:=zA (TrsC.chg (G:=G) (.of hg0) (fun b hb _=>by cases hb) l ks hsub);have HSTR:=zA (hstr.kept hg0 (by cases (Value.slice As x.str.length cs).ownBlock<;>simp));have HMAG:=zA (hmag.kept hg0 (by cases (Value.slice Am x.mag.length cm).ownBlock<;>simp));have HG0:=zA (Chg.of hg0);have HIH:=zA ih;have HKID:=zA hkid;have HRw:=zA hX;have HNl:=zA hn;have HMl:=zA hm;have HXW:=zA hXW;have HN:=zA hN;have hXl:X < W.heap.size:=by omega
 have hn6:n≤1000000:=by omega
 obtain⟨i0,hi,hz0,hz1,hz2⟩:=info_parts Tryz.info_anode;have zT:W.cell? ⟨Tb,0,none⟩=some (.slice A n c):=HT.out.cell 0;have fT:W.frozen? ⟨Tb,0,none⟩=false:=HT.out.frozen 0;obtain⟨zx_0,zx_1,zx_2,zx_3,zx_4,zx_5,zx_6,zx_7,zx_8⟩:=HX.out.nine;clear hT hN hstr hmag hrow hF hsub hown hnds hg0 hm ih hkid hXW;go_enter func61,ntmps61;go_upto_region 2 with(fail);clear hW hX;have HNE:=zA (zDl HOWN.out HT.out (by decide));have HTA:=zA ((HT.out.alloc (.cells #[.int .i64 x.kind,.string ⟨x.name.toArray⟩,.slice As x.str.length cs,.int .i64 x.nk,.int .i64 x.nn,.bool x.neg,.slice Am x.mag.length cm,.slice none 0 0] 48)).drew);have zTa:(W.alloc (.cells #[.int .i64 x.kind,.string ⟨x.name.toArray⟩,.slice As x.str.length cs,.int .i64 x.nk,.int .i64 x.nn,.bool x.neg,.slice Am x.mag.length cm,.slice none 0 0] 48)).cell? ⟨Tb,0,none⟩=some (.slice A n c):=(HT.out.alloc _).cell 0
 go_cut [14] (fun _ wx=>∃(A1:Option Addr) (n1 c1:Nat),Hid (n1=n+1)∧Hid (Bx wx X 72 [.int .i64 x.kind,.string ⟨x.name.toArray⟩,.slice As x.str.length cs,.int .i64 x.nk,.int .i64 x.nn,.bool x.neg,.slice Am x.mag.length cm,.slice none 0 0,.slice Ao m co])∧Hid (LayS w Tb (.slice A n c) G F (ts++[x]) l ks (.slice Ao m co) 0 (.slice none 0 0) (.slice A1 n1 c1) wx))
 case first=>
  go_region_law (refine step_append_lies _ rfl _ _ 25 rfl 0 48 i0 _ 8 120 underlying25 hi hz0 hz1 hz2 rfl (by decide) (.slice A n c) n kl rfl (HOWN.out.alloc _) ⟨W.heap.size,0,none⟩ 1 1 [.int .i64 x.kind,.string ⟨x.name.toArray⟩,.slice As x.str.length cs,.int .i64 x.nk,.int .i64 x.nn,.bool x.neg,.slice Am x.mag.length cm,.slice none 0 0] rfl rfl (World.news_of_block (Bx.new W _ _)) (by intro u hu;simp only[List.mem_cons,List.not_mem_nil,or_false]at hu;rcases hu with rfl | rfl | rfl | rfl | rfl | rfl | rfl | rfl<;>rfl) (by decide) (by unfold maxLen;omega) (by omega) (yAE _) _ rfl ?_;intro g1 c1 w1 ho1 hg1 hw1 hl1;have HO1:=zA ho1;have HG1:=zA hg1;have HW1:=zA hw1;have HT1:=zA (HTA.out.grown hg1 HNE.out);clear ho1 hg1 hw1;have zT:w1.cell? ⟨Tb,0,none⟩=some (.slice A n c):=HT1.out.cell 0;have fT:w1.frozen? ⟨Tb,0,none⟩=false:=HT1.out.frozen 0)
  all_goals
   have hne1:=zDl HO1.out HT1.out (by decide);have hgs:=zK w1 Tb 0 (.slice (some ⟨g1,0,none⟩) (n+1) c1);have HCW:=zA (show Chg W (w1.setCell ⟨Tb,0,none⟩ (.slice (some ⟨g1,0,none⟩) (n+1) c1)) (fun i=>i=Tb∨(Value.slice A n c).ownBlock=some i)from
    (((Chg.of (zG W (.cells #[.int .i64 x.kind,.string ⟨x.name.toArray⟩,.slice As x.str.length cs,.int .i64 x.nk,.int .i64 x.nn,.bool x.neg,.slice Am x.mag.length cm,.slice none 0 0] 48) none)).more (S':=fun i=>i=Tb∨(Value.slice A n c).ownBlock=some i) (fun _ _ h=>by cases h)).trans (Chg.of (show(W.alloc (.cells #[.int .i64 x.kind,.string ⟨x.name.toArray⟩,.slice As x.str.length cs,.int .i64 x.nk,.int .i64 x.nn,.bool x.neg,.slice Am x.mag.length cm,.slice none 0 0] 48)).grownBy w1 (Value.slice A n c).ownBlock from zC (zAk _ _) HG1.out)) (fun _ _ h=>.inr h)).trans (Chg.of hgs) (fun i _ h=>.inl (by injection h with h;exact h.symm)))
   have hSW:∀G2:Nat→Prop,Sty W (fun i=>i=Tb∨(Value.slice A n c).ownBlock=some i) G2:=by
    intro G2 b hb _;rcases hb with rfl | hb
    · exact⟨_,_,HT.out,.inl rfl⟩
    · obtain⟨cur,h2⟩:=zA0 HOWN.out hb;exact⟨cur,_,h2,.inr (.inl rfl)⟩
   have HXe:=zA ((Bx.grown (HX.out.alloc (.cells #[.int .i64 x.kind,.string ⟨x.name.toArray⟩,.slice As x.str.length cs,.int .i64 x.nk,.int .i64 x.nn,.bool x.neg,.slice Am x.mag.length cm,.slice none 0 0] 48)).drew HG1.out (zDl HOWN.out HX.out (by decide))).gg hgs (by omega));have HS1:=zA (show LayS w Tb (.slice A n c) G F (ts++[x]) l ks (.slice Ao m co) 0 (.slice none 0 0) (.slice (some ⟨g1,0,none⟩) (n+1) c1) (w1.setCell ⟨Tb,0,none⟩ (.slice (some ⟨g1,0,none⟩) (n+1) c1))from by
    refine⟨HT1.out.set 0 _,?_,(HG0.out.more (fun _ _ h=>by cases h)).trans HCW.out (fun _ _ h=>h),?_,?_,(fun b h=>by cases h),?_,TrsC.chg HCW.out (hSW (fun _=>True)) _ _ HSUB.out⟩
    · refine⟨kl++ndC x (.slice As x.str.length cs) (.slice Am x.mag.length cm) (.slice none 0 0),?_,?_⟩
      · have:=HO1.out.kept hgs (.inr hne1);rw[List.take_zero,zAb,List.append_nil,List.length_append,HNl.out];exact this
      · rw[List.take_zero,zAb,List.append_nil];have h1:=NdsC.chg HCW.out (hSW G) _ _ HNDS.out;have h2:=NdsC.snoc (x:=x) (zAd HSTR.out HCW.out (zBs HSTR.out (hSW (fun _=>True)) (by decide))) (zAd HMAG.out HCW.out (zBs HMAG.out (hSW (fun _=>True)) (by decide))) (show World.ownsRow _ 0 3 1 (.slice none 0 0) x.kids.length (zBC x.kids) by rw[HKID.out];exact yAJ _ _ _ _) (fun b h=>by cases h) h1;exact NdsC.sub (fun b hb hl=>⟨.inl hb,by simp[Value.ownBlock],hl⟩) _ _ h2
    · rcases HW1.out with e | e
      · exact .inl e.symm
      · refine .inr ⟨g1,rfl,?_⟩;have hz:(W.alloc (.cells #[.int .i64 x.kind,.string ⟨x.name.toArray⟩,.slice As x.str.length cs,.int .i64 x.nk,.int .i64 x.nn,.bool x.neg,.slice Am x.mag.length cm,.slice none 0 0] 48)).drew.heap.size=W.heap.size+1:=by show(W.alloc _).heap.size=_;simp
        rw[HRw.out];omega
    · rw[List.take_zero];exact yAJ _ _ _ _
    · rw[HMl.out];exact zAd HROW.out HCW.out (zBs HROW.out (hSW (fun _=>True)) (by decide)))
   clear hgs hne1 hSW;go_wp2_with fail;go_meet;exact⟨_,n+1,c1,zA rfl,HXe,HS1⟩
 case rest=>
  clear HT HX HOWN HNDS HROW HSUB HSTR HMAG HG0 HTA HNE zTa zT fT zx_0 zx_1 zx_2 zx_3 zx_4 zx_5 zx_6 zx_7 zx_8;obtain⟨A1,n1,c1,HN1,HXr,HS1⟩:=hcut;obtain⟨wq,rfl⟩:∃x,x=wc:=⟨_,rfl⟩;obtain⟨zx_0,zx_1,zx_2,zx_3,zx_4,zx_5,zx_6,zx_7,zx_8⟩:=HXr.out.nine;go_upto_region 3 with(fail);have HLm:=zA HMl.out;have hmN:m≤1000000:=by
   have h1:=HN.out;have h2:l.length≤sizes l:=zIc l;have h3:=HMl.out;omega
  have hm0:¬((m:Int) < 0):=by omega
  clear hi hz0 hz1 hz2 hXl HXW;go_wp2_with fail
  go_loopg [6,28] (m) (fun gk v6 v28 wr=>∃(i:Nat) (A6:Option Addr) (c6:Nat) (AN:Option Addr) (nN cN:Nat),i+gk=m∧v28=.int .i64 (i:Int)∧v6=.slice A6 i c6∧Hid (LayS w Tb (.slice A n c) G F (ts++[x]) l ks (.slice Ao m co) i (.slice A6 i c6) (.slice AN nN cN) wr))
  case atStart=>exact⟨0,none,0,A1,n1,c1,by omega,rfl,rfl,HS1⟩
  case round=>
   clear HS1 HXr zx_0 zx_1 zx_2 zx_3 zx_4 zx_5 zx_6 zx_7 zx_8;obtain⟨i,A6,c6,AN,nN,cN,hik,rfl,rfl,HS⟩:=hrel
   by_cases him:i < m
   · have hil:=zA (show i < l.length by rw[HMl.out];exact him);obtain⟨e0,e1,e2,e3,e4,e5,e6,e7,e8,htr,hce⟩:=TrsC.get HS.out.subs hil.out;have HTR:=zA htr;have hkr:=HS.out.kids;obtain⟨bo,hbo⟩:∃bo,Ao=some ⟨bo,0,none⟩:=by
      rcases hkr.2 with⟨h1,h2⟩ | ⟨g,cap,cur,h1,_⟩
      · have:=HMl.out;omega
      · injection h1 with h1;exact⟨g,h1⟩
     subst hbo;have hcl:∀j (hj:j < 9),wr.cell? ⟨bo,i*9+j,none⟩=some ([e0,e1,e2,e3,e4,e5,e6,e7,e8][j]'hj):=by
      intro j hj;have h1:=hkr.cells (g:=bo) rfl (i*9+j) _ (hce j hj);have h2:(⟨bo,0,none⟩:Addr).add (i*9+j)=⟨bo,i*9+j,none⟩:=by unfold Addr.add;split<;>simp_all
      rw[h2]at h1;exact h1
     have c0:wr.cell? ⟨bo,i*9,none⟩=some e0:=hcl 0 (by decide);have c1':wr.cell? ⟨bo,i*9+1,none⟩=some e1:=hcl 1 (by decide);have c2':wr.cell? ⟨bo,i*9+2,none⟩=some e2:=hcl 2 (by decide);have c3':wr.cell? ⟨bo,i*9+3,none⟩=some e3:=hcl 3 (by decide);have c4':wr.cell? ⟨bo,i*9+4,none⟩=some e4:=hcl 4 (by decide);have c5':wr.cell? ⟨bo,i*9+5,none⟩=some e5:=hcl 5 (by decide);have c6':wr.cell? ⟨bo,i*9+6,none⟩=some e6:=hcl 6 (by decide);have c7':wr.cell? ⟨bo,i*9+7,none⟩=some e7:=hcl 7 (by decide);have c8':wr.cell? ⟨bo,i*9+8,none⟩=some e8:=hcl 8 (by decide);obtain⟨so_0,so_1,so_2,so_3,so_4,so_5,so_6,so_7,so_8⟩:=HTR.out.sto;clear hcl hce hkr htr;have him2:=zA him;have hgk:=zA hik;obtain⟨wk,hwk⟩:∃x,wr.alloc (.cells #[e0,e1,e2,e3,e4,e5,e6,e7,e8] 72)=x:=⟨_,rfl⟩;have hgk1:wr.grownBy wk none:=by rw[←hwk];exact zG _ _ _
     have HSk:=zA (HS.out.new hgk1);have HBk:=zA (show Bx wk wr.heap.size 72 [e0,e1,e2,e3,e4,e5,e6,e7,e8] by rw[←hwk];exact Bx.new wr _ _);have HTk:=zA (TrC.keep hgk1 (.none_ _ _) _ _ HTR.out);clear hgk1;go_upto_region 7 with(fail);clear hwk c0 c1' c2' c3' c4' c5' c6' c7' c8';obtain⟨zk_0,zk_1,zk_2,zk_3,zk_4,zk_5,zk_6,zk_7,zk_8⟩:=HBk.out.nine;have HCL:=zA (HIH.out l[i] (List.getElem_mem hil.out) wk Tb (.slice AN nN cN) _ F _ e0 e1 e2 e3 e4 e5 e6 e7 e8 HTk.out HSk.out.box HSk.out.laid (by
      have h1:=HSk.out.lenT;have h2:=zMB hil.out;have h3:=HN.out;have h4:=HNl.out;rw[h1,List.length_append,h4];show n+1+_+_≤_;omega))
     obtain⟨p,hp⟩:∃p,(ts++[x]++flatL (ts++[x]).length (l.take i)).length=p:=⟨_,rfl⟩;have HPP:=zA hp;have hpe:=zA (show(ts++[x]).length+sizes (l.take i)=p by rw[←hp];exact HSk.out.lenT.symm);have HC2:=zA (HCL.out.mono fun e w' hq=>(⟨by rw[←hp];exact hq.1,hq⟩:e=.returned (.int .i64 (p:Int))∧zQ4 wk Tb (.slice AN nN cN) _ (ts++[x]++flatL (ts++[x]).length (l.take i)) l[i] e w'));clear HCL hp;obtain⟨i1,hi1,hy0,hy1,hy2⟩:=info_parts Tryz.info_int;go_wp2_with fail;refine HC2.out.mono ?_;rintro ev2 w2 ⟨rfl,hq⟩;have HQ:=zA hq;have HR2:=zA (HSk.out.row2 hq);clear hq HC2 zk_0 zk_1 zk_2 zk_3 zk_4 zk_5 zk_6 zk_7 zk_8 so_0 so_1 so_2 so_3 so_4 so_5 so_6 so_7 so_8;go_wp2_with (at_builtin;refine wpList_append_lies _ rfl _ _ 32 rfl 0 3 i1 _ 1 8 underlying32 hi1 hy0 hy1 hy2 rfl (by decide) (.slice A6 i c6) i _ rfl (HR2.out.alloc _) ⟨w2.heap.size,0,none⟩ 1 1 [.int .i64 (p:Int)] rfl rfl (cell_one_new _ _ _) (by intro u hu;rw[List.mem_singleton.1 hu];rfl) (by decide) (by unfold maxLen;omega) (by omega) (yAE _) _ rfl ?_;intro g3 c3 w3 ho3 hg3 hw3 hl3;have HO3:=zA ho3;have HG3:=zA hg3;have HW3:=zA hw3;clear ho3 hg3 hw3 hl3);have hst:=HSk.out.step (v6':=.slice (some ⟨g3,0,none⟩) (i+1) c3) hil.out HQ.out (by rw[hpe.out];exact HO3.out) (zC (zG w2 (.cells #[.int .i64 (p:Int)] 3) _) HG3.out) (by
      rcases HW3.out with h5 | h5
      · exact .inl h5.symm
      · exact .inr ⟨g3,rfl,by rw[h5];simp⟩)
     obtain⟨vN',hst⟩:=hst;obtain⟨kl2,hk2,_⟩:=hst.laid;obtain⟨AN2,cN2,rfl,_,_⟩:=zR hk2;have HS2:=zA hst;clear hst hk2 hi1 hy0 hy1 hy2;go_wp2_with fail
     go_roundg (gk - 1)
     case measure=>omega
     case rel=>exact⟨i+1,_,_,AN2,_,cN2,by omega,by simp,rfl,HS2⟩
   · obtain rfl:i=m:=by omega
     have HS2:=zA HS.out;obtain⟨kl2,hk2,_⟩:=HS.out.laid;have hlN:(ts++[x]++flatL (ts++[x]).length (l.take i)).length=nN:=by
      obtain⟨A',c',e,_⟩:=zR hk2;injection e with e1 e2 e3;exact e2.symm
     have hnN:n < nN:=by
      have h1:=HS.out.lenT;have h4:=HNl.out;rw[hlN,List.length_append,h4]at h1;have:([x]:List Nd).length=1:=rfl;omega
     rw[hlN]at hk2;obtain⟨gN,hgN⟩:∃gN,AN=some ⟨gN,0,none⟩:=by
      rcases hk2.2 with⟨h1,h2⟩ | ⟨g,cap,cur,h1,_⟩
      · omega
      · injection h1 with h1;exact⟨g,h1⟩
     subst hgN;have hcc:(wr.cell? ⟨gN,n*8+7,none⟩).isSome=true:=by
      rw[hk2.cellAt (n*8+7) (by omega)];rw[yAB (by rw[hk2.1];omega)];rfl
     obtain⟨uu,hcc⟩:=Option.isSome_iff_exists.1 hcc;have hfz:wr.frozen? ⟨gN,n*8+7,none⟩=false:=hk2.frozenAt _;have zT:wr.cell? ⟨Tb,0,none⟩=some (.slice (some ⟨gN,0,none⟩) nN cN):=HS.out.box.cell 0;have hnI:(n:Int) < (nN:Int):=by omega
     have hn0:¬(n:Int) < 0:=by omega
     have HHi:=zA (show i=l.length from HMl.out.symm);clear hk2 HS;go_wp2_with fail;go_ret;have hd:=HS2.out.done HHi.out;rw[HNl.out]at hd;exact hd
theorem zRk:∀(N:Nat) (tr:Tr),tr.size≤N→zRW tr:=by
 intro N
 induction N with
 | zero=>intro tr h;have:=zBi tr;omega
 | succ N ih=>
  intro tr h;cases tr with
  | mk x l=>
   refine zOV x l fun t ht=>ih t ?_;rw[zb]at h;have:=zOU ht;omega
theorem zQW (tr:Tr):zRW tr:=zRk tr.size tr (yAC _)
def zRl (w:World) (tr:Tr) (e:Ending) (w':World):Prop:=
 ∃A n c,e=.returned (.agg #[.slice A n c])∧Laid w' (w.heap.size≤·) (.slice A n c) (flatT 0 tr)∧w.grownBy w' none
theorem zOW {w:World} {F:Nat→Prop} {tr:Tr} {d0 d1 d2 d3 d4 d5 d6 d7 d8:Value} (ht:TrC w F tr [d0,d1,d2,d3,d4,d5,d6,d7,d8]) (hs:tr.size≤1000000):
 Calls prog 35 #[.agg #[d0,d1,d2,d3,d4,d5,d6,d7,d8]] w (zRl w tr):=by
 obtain⟨W0,hW0⟩:∃W0,w.alloc (.cells #[d0,d1,d2,d3,d4,d5,d6,d7,d8] 72)=W0:=⟨_,rfl⟩;obtain⟨W1,hW1⟩:∃W1,W0.alloc (.cells #[.slice none 0 0] 27)=W1:=⟨_,rfl⟩;obtain⟨W,hW⟩:∃W,W1.alloc (.cells #[.slice none 0 0] 27)=W:=⟨_,rfl⟩;have g0:w.grownBy W0 none:=by rw[←hW0];exact zG _ _ _
 have g1:W0.grownBy W1 none:=by rw[←hW1];exact zG _ _ _
 have g2:W1.grownBy W none:=by rw[←hW];exact zG _ _ _
 obtain⟨R,hR⟩:∃R,w.heap.size=R:=⟨_,rfl⟩;have z0:W0.heap.size=R+1:=by rw[←hW0,←hR];simp
 have z1:W1.heap.size=R+1+1:=by rw[←hW1];simp[z0]
 have HB:=zA (show Bx W R 72 [d0,d1,d2,d3,d4,d5,d6,d7,d8]from by
  have h1:Bx W0 R 72 [d0,d1,d2,d3,d4,d5,d6,d7,d8]:=by rw[←hW0,←hR];exact Bx.new w _ _
  exact(h1.grown g1 (by simp)).grown g2 (by simp))
 have HX:=zA (show Bx W (R+1) 27 [.slice none 0 0]from by
  have h1:Bx W1 (R+1) 27 [.slice none 0 0]:=by rw[←hW1,←z0];exact Bx.new W0 _ _
  exact h1.grown g2 (by simp))
 have HT:=zA (show Bx W (R+1+1) 27 [.slice none 0 0]from by rw[←hW,←z1];exact Bx.new W1 _ _);have HG:=zA (zC (zC g0 g1) g2);have HTR:=zA (TrC.keep (zC (zC g0 g1) g2) (.none_ _ _) _ _ ht);have HRw:=zA hR;have HC:=zA (zQW tr W (R+1+1) (.slice none 0 0) (fun _=>False) F [] d0 d1 d2 d3 d4 d5 d6 d7 d8 HTR.out HT.out ⟨[],yAJ _ _ _ _,rfl⟩ (by simpa using hs));obtain⟨so_0,so_1,so_2,so_3,so_4,so_5,so_6,so_7,so_8⟩:=ht.sto;clear ht g0 g1 g2;go_enter func35,ntmps35;go_upto_region 2 with(fail);clear hW hW0 hW1 z0 z1 hR;obtain⟨zx_0,zx_1,zx_2,zx_3,zx_4,zx_5,zx_6,zx_7,zx_8⟩:=HB.out.nine;go_wp2_with fail;refine HC.out.mono ?_;rintro ev w2 ⟨rfl,v',hb,hl,hc,hat⟩;have HL:=zA hl;obtain⟨kl,hk,_⟩:=hl;obtain⟨A,c,rfl,_,_⟩:=zR hk;have hX2:Bx w2 (R+1) 27 [.slice none 0 0]:=by
  have h1:=HX.out;unfold Bx at h1⊢;rw[hc.block (R+1) HX.out.lt (by
   rintro(h | h)
   · omega
   · cases h)]
  exact h1
 have hne:(Value.slice A ([]++flatT ([]:List Nd).length tr).length c).ownBlock≠some (R+1):=zDl hk hX2 (by decide);obtain⟨n,hn⟩:∃n,([]++flatT ([]:List Nd).length tr).length=n:=⟨_,rfl⟩;rw[hn]at hne hb HL hat
 have HN:=zA hn;have HK:=zA hk;have zT:w2.cell? ⟨R+1+1,0,none⟩=some (.slice A n c):=hb.cell 0;have zX:w2.cell? ⟨R+1,0,none⟩=some (.slice none 0 0):=hX2.cell 0;have fX:w2.frozen? ⟨R+1,0,none⟩=false:=hX2.frozen 0;have HX2:=zA hX2;have HCC:=zA hc;have HNE:=zA hne;clear hk hn hb hX2 hat hc hne HC;go_wp2_with fail;have hq0:(w2.setCell ⟨R+1,0,none⟩ (.slice A n c)).cell? ⟨R+1,0,none⟩=some (.slice A n c):=(HX2.out.set 0 _).cell 0;refine bodyPost_ret (v:=.agg #[.slice A n c]) (by simp[results,results35,go_sem,hq0]) rfl ?_;have hgs:=zK w2 (R+1) 0 (.slice A n c);have hCs:Chg w2 (w2.setCell ⟨R+1,0,none⟩ (.slice A n c)) (fun i=>some (R+1)=some i):=.of hgs;have hSt:Sty w2 (fun i=>some (R+1)=some i) (W.heap.size≤·):=by
  intro b hb _;injection hb with hb;subst hb;exact⟨_,_,HX2.out,.inl rfl⟩
 refine⟨A,n,c,rfl,?_,?_⟩
 · obtain⟨k2,h1,h2⟩:=HL.out;refine⟨k2,zAd h1 hCs (fun b h5 h6=>?_),NdsC.sub (fun b hb _=>?_) _ _ (NdsC.chg hCs hSt _ _ (NdsC.sub (G':=(W.heap.size≤·)) (fun b hb _=>hb.resolve_left id) _ _ h2))⟩
   · injection h6 with h6;subst h6;exact HNE.out h5
   · exact yAD HG.out.size hb
 · have hz:=HG.out.size;refine⟨hgs.os.trans (HCC.out.os.trans HG.out.os),hgs.tape.trans (HCC.out.tape.trans HG.out.tape),hgs.output.trans (HCC.out.output.trans HG.out.output),yAD hz (yAD HCC.out.size hgs.size),fun i hi _=>?_⟩;have hiR:i < R:=by rw[←HRw.out];exact hi
   rw[hgs.block i (by have:=HCC.out.size;omega) (by simp;omega),HCC.out.block i (by omega) (by
    rintro(h | h)
    · omega
    · cases h)]
   exact HG.out.block i hi (by simp)
structure NQ (x:Nd):Prop where
 kb: -9223372036854775808≤x.kind∧x.kind≤9223372036854775807
 nkb: -9223372036854775808≤x.nk∧x.nk≤9223372036854775807
 nnb: -9223372036854775808≤x.nn∧x.nn≤9223372036854775807
 nm:x.name.length≤4096
 limb:∀y∈x.mag,y < 4294967296
inductive NB:Tr→Prop
 | mk {x:Nd} {l:List Tr}:NQ x→(∀t∈l,NB t)→NB (.mk x l)
theorem NB.subs {t:Tr} (h:NB t):∀a∈t.subs,NB a:=by cases h with | mk _ h2=>exact h2
theorem NB.nd {t:Tr} (h:NB t):NQ t.nd:=by cases h with | mk h1 _=>exact h1
def Kb (k:Int):Prop:= -9223372036854775808≤k∧k≤9223372036854775807
theorem nbK {k:Int} {l:List Tr} (hk:Kb k) (h:∀t∈l,NB t):NB (trK k l):=.mk ⟨hk,by simp[zBg],by simp[zBg],by simp[zBg],by simp[zBg]⟩ h
theorem nbN {k:Int} {n:List UInt8} {l:List Tr} (hk:Kb k) (hn:n.length≤4096) (h:∀t∈l,NB t):NB (trN k n l):=.mk ⟨hk,by simp[zBg],by simp[zBg],hn,by simp[zBg]⟩ h
theorem zMC {a:Tr} {r:List Tr} (h:NB a) (k:∀t∈r,NB t):∀t∈a::r,NB t:=fun t ht=>(List.mem_cons.1 ht).elim (fun e=>e▸h) (k t)
def PhN:Ph→Prop
 | .program acc=>∀t∈acc,NB t
 | .blockL acc=>∀t∈acc,NB t
 | .declL k acc=>Kb k∧∀t∈acc,NB t
 | .func k n=>Kb k∧n.length≤4096
 | .paramL acc=>∀t∈acc,NB t
 | .jump k=>Kb k
 | .body l=>∀t∈l,NB t
 | .nullL x=>NB x
 | .orL x=>NB x
 | .both x=>NB x
 | .levelL _ x=>NB x
 | .callsL x=>NB x
 | .headL x=>NB x
 | .listL _ acc=>∀t∈acc,NB t
 | .objL acc=>∀t∈acc,NB t
 | _=>True
def TLm (L:List Tok):Prop:=∀i,∀y∈(zL L i).mag,y < 4294967296
section
variable {L:List Tok} {R:Ph→Ps→Tr×Ps}
theorem zCt (hT:TL L) (s:Ps):(zd L s).1.length≤4096:=by
 unfold zd;split
 · exact(hT _).len
 · exact yAE _
theorem za {c:Prop} [Decidable c] {a b:Tr×Ps} (h1:NB a.1) (h2:NB b.1):NB (if c then a else b).1:=by split<;>assumption
theorem zQX (hT:TL L) (hM:TLm L) (hR:∀q s,PhN q→NB (R q s).1) (p:Ph) (s:Ps) (hp:PhN p):NB (zE L R p s).1:=by
 have tx:∀i,(zL L i).text.length≤4096:=fun i=>(hT i).len;have h0:∀q s,PhN q→NB (R q s).1:=hR;cases p with
 | program acc=>
  unfold zE;dsimp only;refine za ?_ ?_
  · exact nbK (by unfold Kb;decide) hp
  · exact hR _ _ (zBI hp (hR _ _ (by exact trivial)))
 | block=>exact hR _ _ zCY
 | blockL acc=>
  unfold zE;dsimp only;refine za ?_ ?_
  · exact nbK (by unfold Kb;decide) hp
  · refine za ?_ ?_
    · exact nbK (by unfold Kb;decide) hp
    · exact hR _ _ (zBI hp (hR _ _ (by exact trivial)))
 | item=>
  unfold zE;dsimp only;refine za ?_ ?_
  · exact hR _ _ (by exact trivial)
  · refine za ?_ ?_
    · exact hR _ _ ⟨by unfold Kb;decide,zCt hT _⟩
    · exact hR _ _ (by exact trivial)
 | declares=>
  unfold zE;dsimp only;refine za ?_ ?_
  · exact hR _ _ ⟨by unfold Kb;decide,zCY⟩
  · exact hR _ _ ⟨by unfold Kb;decide,zCY⟩
 | declL k acc=>
  unfold zE;dsimp only;generalize hD:(if onP L [61] (zd L s).2=true then(trN 7 (zd L s).1 [(R .assign (zB (zd L s).2)).1],(R .assign (zB (zd L s).2)).2)else(trN 7 (zd L s).1 [],(zd L s).2):Tr×Ps)=d;have hd:NB d.1:=by
   rw[←hD];refine za ?_ ?_
   · exact nbN (by unfold Kb;decide) (zCt hT _) (zGN (hR _ _ (by exact trivial)))
   · exact nbN (by unfold Kb;decide) (zCt hT _) zCY
  clear hD;refine za ?_ ?_
  · exact nbK hp.1 (zBI hp.2 hd)
  · refine za ?_ ?_
    · exact hR _ _ ⟨hp.1,zBI hp.2 hd⟩
    · exact nbK hp.1 (zBI hp.2 hd)
 | func k n=>
  unfold zE;dsimp only;exact nbN hp.1 hp.2 (zBI (hR _ _ (by exact trivial)).subs (hR _ _ (by exact trivial)))
 | params=>
  unfold zE;dsimp only;refine za ?_ ?_
  · exact nbK (by unfold Kb;decide) zCY
  · exact hR _ _ zCY
 | paramL acc=>
  unfold zE;dsimp only;have ha:∀t∈acc++[trN 20 (zd L s).1 []],NB t:=zBI hp (nbN (by unfold Kb;decide) (zCt hT _) zCY);refine za ?_ ?_
  · exact nbK (by unfold Kb;decide) ha
  · refine za ?_ ?_
    · exact nbK (by unfold Kb;decide) ha
    · exact hR _ _ ha
 | statement=>
  unfold zE;dsimp only;refine za ?_ ?_
  · exact nbN (by unfold Kb;decide) (tx _) (zGN (hR _ _ (by exact trivial)))
  · refine za ?_ ?_
    · exact hR _ _ (by exact trivial)
    · refine za ?_ ?_
      · exact nbK (by unfold Kb;decide) zCY
      · refine za ?_ ?_
        · exact hR _ _ (by exact trivial)
        · exact hR _ _ (by exact trivial)
 | simple=>
  unfold zE;dsimp only;exact nbK (by unfold Kb;decide) (zGN (hR _ _ (by exact trivial)))
 | word w=>
  unfold zE;dsimp only;refine za ?_ ?_
  · refine za ?_ ?_
    · exact nbK (by unfold Kb;decide) (zQu (hR _ _ (by exact trivial)) (hR _ _ (by exact trivial)) (hR _ _ (by exact trivial)))
    · exact nbK (by unfold Kb;decide) (zMW (hR _ _ (by exact trivial)) (hR _ _ (by exact trivial)))
  · refine za ?_ ?_
    · exact nbK (by unfold Kb;decide) (zMW (hR _ _ (by exact trivial)) (hR _ _ (by exact trivial)))
    · refine za ?_ ?_
      · exact hR _ _ (by exact trivial)
      · refine za ?_ ?_
        · exact hR _ _ (by show Kb _;unfold Kb;decide)
        · refine za ?_ ?_
          · exact hR _ _ (by show Kb _;unfold Kb;decide)
          · refine za ?_ ?_
            · refine za ?_ ?_
              · exact nbK (by unfold Kb;decide) zCY
              · exact nbK (by unfold Kb;decide) (zGN (hR _ _ (by exact trivial)))
            · refine za ?_ ?_
              · exact nbK (by unfold Kb;decide) (zGN (hR _ _ (by exact trivial)))
              · refine za ?_ ?_
                · exact hR _ _ (by exact trivial)
                · refine za ?_ ?_
                  · exact nbK (by unfold Kb;decide) zCY
                  · exact hR _ _ (by exact trivial)
 | within=>exact hR _ _ (by exact trivial)
 | clause w=>
  unfold zE;dsimp only;refine za ?_ ?_
  · exact nbK (by unfold Kb;decide) zCY
  · exact hR _ _ (by exact trivial)
 | loop=>
  unfold zE;dsimp only;refine nbK (by unfold Kb;decide) (zR1 ?_ (hR _ _ (by exact trivial)) (hR _ _ (by exact trivial)) (hR _ _ (by exact trivial)));refine za ?_ ?_
  · exact hR _ _ (by exact trivial)
  · exact hR _ _ (by exact trivial)
 | jump k=>
  unfold zE;dsimp only;refine za ?_ ?_
  · exact nbN hp (zCt hT _) zCY
  · exact nbK hp zCY
 | tries=>
  unfold zE;dsimp only;have hcx:∀s1:Ps,NB (if onP L [99,97,116,99,104] s1=true then
   ((trN 17 (if onP L [40] (zB s1)=true then((zd L (zB (zB s1))).1,zN L [41] (zd L (zB (zB s1))).2)else([],zB s1)).1 [(R .block (if onP L [40] (zB s1)=true then((zd L (zB (zB s1))).1,zN L [41] (zd L (zB (zB s1))).2)else([],zB s1)).2).1],(R .block (if onP L [40] (zB s1)=true then((zd L (zB (zB s1))).1,zN L [41] (zd L (zB (zB s1))).2)else([],zB s1)).2).2))
   else(trK 11 [],s1)).1:=by
   intro s1;refine za ?_ ?_
   · refine nbN (by unfold Kb;decide) ?_ (zGN (hR _ _ (by exact trivial)));split
     · exact zCt hT _
     · exact yAE _
   · exact nbK (by unfold Kb;decide) zCY
  refine za ?_ ?_
  · exact nbK (by unfold Kb;decide) (zQu (hR _ _ (by exact trivial)) (hcx _) (hR _ _ (by exact trivial)))
  · exact nbK (by unfold Kb;decide) (zQu (hR _ _ (by exact trivial)) (hcx _) (nbK (by unfold Kb;decide) zCY))
 | assign=>
  unfold zE;dsimp only;refine za ?_ ?_
  · exact hR _ _ (zGN (nbN (by unfold Kb;decide) (tx _) zCY))
  · refine za ?_ ?_
    · exact hR _ _ (hR _ _ (by exact trivial)).subs
    · refine za ?_ ?_
      · exact hR _ _ (by exact trivial)
      · refine za ?_ ?_
        · exact hR _ _ (by exact trivial)
        · exact nbN (by unfold Kb;decide) (tx _) (zMW (hR _ _ (by exact trivial)) (hR _ _ (by exact trivial)))
 | body l=>
  unfold zE;dsimp only;refine nbK (by unfold Kb;decide) (zBI hp ?_);refine za ?_ ?_
  · exact hR _ _ (by exact trivial)
  · exact hR _ _ (by exact trivial)
 | cond=>
  unfold zE;dsimp only;refine za ?_ ?_
  · exact nbK (by unfold Kb;decide) (zQu (hR _ _ (by exact trivial)) (hR _ _ (by exact trivial)) (hR _ _ (by exact trivial)))
  · exact hR _ _ (by exact trivial)
 | either=>
  unfold zE;dsimp only;refine za ?_ ?_
  · exact hR _ _ (hR _ _ (by exact trivial))
  · exact hR _ _ (hR _ _ (hR _ _ (by exact trivial)))
 | nullL x=>
  unfold zE;dsimp only;refine za ?_ ?_
  · exact hR _ _ (nbN (by unfold Kb;decide) (by decide) (zMW hp (hR _ _ (by exact trivial))))
  · exact hp
 | orL x=>
  unfold zE;dsimp only;refine za ?_ ?_
  · exact hR _ _ (nbN (by unfold Kb;decide) (by decide) (zMW hp (hR _ _ (hR _ _ (by exact trivial)))))
  · exact hp
 | both x=>
  unfold zE;dsimp only;refine za ?_ ?_
  · exact hR _ _ (nbN (by unfold Kb;decide) (by decide) (zMW hp (hR _ _ (by exact trivial))))
  · exact hp
 | level n=>
  unfold zE;dsimp only;refine za ?_ ?_
  · exact hR _ _ (by exact trivial)
  · exact hR _ _ (hR _ _ (by exact trivial))
 | levelL n x=>
  unfold zE;dsimp only;refine za ?_ ?_
  · exact hR _ _ (nbN (by unfold Kb;decide) (tx _) (zMW hp (hR _ _ (by exact trivial))))
  · exact hp
 | unary=>
  unfold zE;dsimp only;refine za ?_ ?_
  · exact nbN (by unfold Kb;decide) (tx _) (zGN (hR _ _ (by exact trivial)))
  · refine za ?_ ?_
    · exact nbN (by unfold Kb;decide) (tx _) (zGN (hR _ _ (by exact trivial)))
    · refine za ?_ ?_
      · refine za ?_ ?_
        · exact hR _ _ (by exact trivial)
        · exact nbN (by unfold Kb;decide) (tx _) (zGN (hR _ _ (by exact trivial)))
      · exact hR _ _ (by exact trivial)
 | calls=>exact hR _ _ (hR _ _ (by exact trivial))
 | callsL x=>
  unfold zE;dsimp only;refine za ?_ ?_
  · exact hR _ _ (nbK (by unfold Kb;decide) (zMC hp (hR _ _ (by exact trivial)).subs))
  · refine za ?_ ?_
    · refine za ?_ ?_
      · exact hp
      · exact hR _ _ (nbN (by unfold Kb;decide) (tx _) (zGN hp))
    · refine za ?_ ?_
      · exact hR _ _ (nbK (by unfold Kb;decide) (zMW hp (hR _ _ (by exact trivial))))
      · exact hp
 | head=>
  unfold zE;dsimp only;refine za ?_ ?_
  · refine za ?_ ?_
    · exact nbK (by unfold Kb;decide) (zMC (hR _ _ (hR _ _ (by exact trivial))) (hR _ _ (by exact trivial)).subs)
    · exact nbK (by unfold Kb;decide) (zGN (hR _ _ (hR _ _ (by exact trivial))))
  · exact hR _ _ (by exact trivial)
 | headL x=>
  unfold zE;dsimp only;refine za ?_ ?_
  · refine za ?_ ?_
    · exact hp
    · exact hR _ _ (nbN (by unfold Kb;decide) (tx _) (zGN hp))
  · refine za ?_ ?_
    · exact hR _ _ (nbK (by unfold Kb;decide) (zMW hp (hR _ _ (by exact trivial))))
    · exact hp
 | args=>exact hR _ _ (by exact trivial)
 | list w=>
  unfold zE;dsimp only;refine za ?_ ?_
  · exact nbK (by unfold Kb;decide) zCY
  · exact hR _ _ zCY
 | listL w acc=>
  unfold zE;dsimp only;have ha:∀t∈acc++[(R .assign s).1],NB t:=zBI hp (hR _ _ (by exact trivial));refine za ?_ ?_
  · exact nbK (by unfold Kb;decide) ha
  · refine za ?_ ?_
    · exact nbK (by unfold Kb;decide) ha
    · exact hR _ _ ha
 | primary=>
  unfold zE;dsimp only;refine za ?_ ?_
  · exact nbK (by unfold Kb;decide) zCY
  by_cases h2:(zL L s.k).kind=2
  · rw[if_pos h2];have:=(hT s.k).num h2;exact .mk ⟨by simp,by simp only;omega,by simp only;omega,by simp[zBg],by simp[zBg]⟩ zCY
  rw[if_neg h2];refine za ?_ ?_
  · exact .mk ⟨by simp,by simp[zBg],by simp[zBg],by simp[zBg],hM _⟩ zCY
  refine za ?_ ?_
  · exact .mk ⟨by simp,by simp[zBg],by simp[zBg],by simp[zBg],by simp[zBg]⟩ zCY
  refine za ?_ ?_
  · exact nbN (by unfold Kb;decide) (tx _) zCY
  refine za ?_ ?_
  · exact nbK (by unfold Kb;decide) zCY
  refine za ?_ ?_
  · exact nbK (by unfold Kb;decide) zCY
  refine za ?_ ?_
  · exact nbK (by unfold Kb;decide) zCY
  refine za ?_ ?_
  · exact nbK (by unfold Kb;decide) zCY
  refine za ?_ ?_
  · exact nbK (by unfold Kb;decide) (hR _ _ (by exact trivial)).subs
  refine za ?_ ?_
  · exact hR _ _ (by exact trivial)
  refine za ?_ ?_
  · refine za ?_ ?_
    · exact hR _ _ ⟨by unfold Kb;decide,zCt hT _⟩
    · exact hR _ _ ⟨by unfold Kb;decide,by decide⟩
  refine za ?_ ?_
  · exact hR _ _ (by exact trivial)
  · exact nbK (by unfold Kb;decide) zCY
 | object=>
  unfold zE;dsimp only;refine za ?_ ?_
  · exact nbK (by unfold Kb;decide) zCY
  · exact hR _ _ zCY
 | objL acc=>
  unfold zE;dsimp only;have ha:∀t∈acc++[(R .prop s).1],NB t:=zBI hp (hR _ _ (by exact trivial));refine za ?_ ?_
  · exact nbK (by unfold Kb;decide) ha
  · refine za ?_ ?_
    · exact nbK (by unfold Kb;decide) ha
    · exact hR _ _ ha
 | prop=>
  unfold zE;dsimp only;split
  · exact nbK (by unfold Kb;decide) zCY
  · split
    · exact .mk ⟨by simp,by simp[zBg],by simp[zBg],by simp[zBg],by simp[zBg]⟩ (zGN (nbN (by unfold Kb;decide) (tx _) zCY))
    · exact .mk ⟨by simp,by simp[zBg],by simp[zBg],by simp[zBg],by simp[zBg]⟩ (zGN (hR _ _ (by exact trivial)))
end
theorem zQ5 {L:List Tok} (hT:TL L) (hM:TLm L):∀(f:Nat) (p:Ph) (s:Ps),PhN p→NB (zEl L f p s).1:=by
 intro f
 induction f with
 | zero=>intro p s _;exact nbK (by unfold Kb;decide) zCY
 | succ f ih=>intro p s hp;exact zQX hT hM ih p s hp
theorem zQ6 {L:List Tok} (hT:TL L) (hM:TLm L) (p:Ph) (s:Ps) (hp:PhN p):NB (zF L p s).1:=zQ5 hT hM _ p s hp
theorem zRm {x:Nd} {l:List Int} (h:NQ x):NQ {x with kids:=l}:=⟨h.kb,h.nkb,h.nnb,h.nm,h.limb⟩
mutual
theorem nq_flatT {t:Tr} (h:NB t) (n:Nat):∀x∈flatT n t,NQ x:=by
 cases t with
 | mk y l=>
  rw[zA2];intro x hx;rcases List.mem_cons.1 hx with rfl | hx
  · exact zRm h.nd
  · exact nq_flatL h.subs (n+1) x hx
theorem nq_flatL {l:List Tr} (h:∀t∈l,NB t) (n:Nat):∀x∈flatL n l,NQ x:=by
 cases l with
 | nil=>rw[zAb];intro x hx;cases hx
 | cons t r=>
  rw[zAU];intro x hx;rcases List.mem_append.1 hx with hx | hx
  · exact nq_flatT (h t (List.mem_cons_self ..)) n x hx
  · exact nq_flatL (fun t ht=>h t (List.mem_cons_of_mem _ ht)) (n+t.size) x hx
end
theorem NdsC.get {w:World} {G:Nat→Prop}:∀{ts:List Nd} {cs:List Value},NdsC w G ts cs→∀{i:Nat} (hi:i < ts.length),∃vs vm vk,w.ownsRow 0 24 1 vs ts[i].str.length (zAD ts[i].str)∧w.ownsRow 0 87 1 vm ts[i].mag.length (zBm ts[i].mag)∧w.ownsRow 0 3 1 vk ts[i].kids.length (zBC ts[i].kids)∧∀j (hj:j < 8),cs[i*8+j]? =some ((ndC ts[i] vs vm vk)[j]'hj):=by
 intro ts
 induction ts with
 | nil=>intro cs h i hi;simp at hi
 | cons x r ih=>
  intro cs h i hi;obtain⟨vs,vm,vk,rest,rfl,h2,h3,h4,_,h6⟩:=h;cases i with
  | zero=>
   refine⟨vs,vm,vk,h2,h3,h4,fun j hj=>?_⟩;rw[Nat.zero_mul,Nat.zero_add,List.getElem?_append_left hj];exact yAB hj
  | succ i=>
   obtain⟨us,um,uk,k2,k3,k4,k5⟩:=ih h6 (i:=i) (by simpa using hi);refine⟨us,um,uk,k2,k3,k4,fun j hj=>?_⟩;rw[List.getElem?_append_right (by show 8≤_;omega),show(i+1)*8+j - (ndC x vs vm vk).length=i*8+j by show _ - 8=_;omega];exact k5 j hj
theorem Laid.reads {w:World} {G:Nat→Prop} {A:Option Addr} {n c:Nat} {ts:List Nd} (h:Laid w G (.slice A n c) ts) (hq:∀x∈ts,NQ x) (hf:Fwd ts) (hl:ts.length≤1000000):NdsR w w.heap.size A n ts∧n≤c∧c≤maxLen:=by
 obtain⟨ks,h1,h2⟩:=h;obtain⟨A',c',e,hc1,hc2⟩:=zR h1;injection e with e1 e2 e3;subst e2 e3;refine⟨⟨rfl,fun h0=>?_⟩,hc1,hc2⟩;rcases h1.2 with⟨_,h5⟩ | ⟨g,cap,cur,e,_,hg,_⟩
 · omega
 · injection e with e _ _;subst e;have hlt:g < w.heap.size:=(h1.lt g rfl).2;refine⟨g,0,rfl,hlt,fun i hi=>?_⟩;obtain⟨vs,vm,vk,k1,k2,k3,k4⟩:=NdsC.get h2 hi;obtain⟨As,cs,rfl,a1,a2⟩:=zR k1;obtain⟨Am,cm,rfl,b1,b2⟩:=zR k2;obtain⟨Ak,ck,rfl,d1,d2⟩:=zR k3;have hcell:∀j (hj:j < 8),w.cell? ⟨g,i*8+j,none⟩=some ((ndC ts[i] (.slice As ts[i].str.length cs) (.slice Am ts[i].mag.length cm) (.slice Ak ts[i].kids.length ck))[j]'hj):=by
    intro j hj;rw[h1.cellAt (i*8+j) (by omega)];exact k4 j hj
   have hn:=hq _ (List.getElem_mem hi);refine⟨⟨As,Am,Ak,cs,cm,ck⟩,?_,?_⟩
   · rw[Nat.zero_add];exact⟨hcell 0 (by decide),hcell 1 (by decide),hcell 2 (by decide),hcell 3 (by decide),hcell 4 (by decide),hcell 5 (by decide),hcell 6 (by decide),hcell 7 (by decide)⟩
   · refine⟨.of_own k1,.of_own k2,.of_own k3,⟨a1,a2⟩,⟨b1,b2⟩,⟨d1,d2⟩,hn.limb,fun y hy=>?_,hn.kb,hn.nkb,hn.nnb,by have:=hn.nm;omega⟩;have:=hf i ts[i] (yAB hi) y hy;omega
mutual
theorem kids_flatT (t:Tr) (n:Nat):∀x∈flatT n t,x.kids.length≤t.size:=by
 cases t with
 | mk y l=>
  rw[zA2,zb];intro x hx;rcases List.mem_cons.1 hx with rfl | hx
  · show(zAM (n+1) l).length≤_;rw[zDN];have:=zIc l;omega
  · have:=kids_flatL l (n+1) x hx;omega
theorem kids_flatL (l:List Tr) (n:Nat):∀x∈flatL n l,x.kids.length≤sizes l:=by
 cases l with
 | nil=>rw[zAb];intro x hx;cases hx
 | cons t r=>
  rw[zAU,zI];intro x hx;rcases List.mem_append.1 hx with hx | hx
  · have:=kids_flatT t n x hx;omega
  · have:=kids_flatL r (n+t.size) x hx;omega
end
theorem Laid.chg {w w':World} {S G:Nat→Prop} {v:Value} {ts:List Nd} (h:Laid w G v ts) (hc:Chg w w' S) (hS:Sty w S G) (hv:∀b,v.ownBlock=some b→¬S b):Laid w' G v ts:=by
 obtain⟨ks,h1,h2⟩:=h;exact⟨ks,zAd h1 hc hv,NdsC.chg hc hS _ _ h2⟩
theorem Laid.new {w w':World} {G:Nat→Prop} {v:Value} {ts:List Nd} (h:Laid w G v ts) (hg:w.grownBy w' none):Laid w' G v ts:=
 h.chg (.of hg) (fun b hb _=>by cases hb) (fun b _ h=>by cases h)
theorem Laid.var {w:World} {G:Nat→Prop} {v u:Value} {ts:List Nd} {X:Nat} {cs:List Value} (h:Laid w G v ts) (hX:Bx w X 27 cs):Laid (w.setCell ⟨X,0,none⟩ u) G v ts:=by
 refine h.chg (.of (zK w X 0 u)) (fun b hb _=>?_) (fun b h1 h2=>?_)
 · injection hb with hb;subst hb;exact⟨_,_,hX,.inl rfl⟩
 · injection h2 with h2;subst h2;obtain⟨ks,h3,_⟩:=h;exact zDl h3 hX (by decide) h1
theorem zFv (t:Tr):Fwd (flatT 0 t):=zEG (zE6 t)
def s0:Ps:=⟨0,0,0⟩
end Go.Proofs.YtlohaclgbfhijaaGreatDoor
