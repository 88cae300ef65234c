/- Joined for the claim ParseBack: the parser, the lexer and the trees as they are walked, made short by a program of mine. -/
import Derived.Deep.CutBlock
import Derived.Deep.DeepCutAuto
import Derived.Test.YtlnbbaehihgigaaGreatDoorB09
import Derived.Test.YtlnbbaehihgigaaGreatDoorB07
import Derived.Test.YtlnbbaehihgigaaGreatDoorB02
import Derived.Test.YtlnbbaehihgigaaGreatDoorB08
import Derived.Test.YtlnbbaehihgigaaGreatDoorB06
import Derived.Deep.AppendLies
import Derived.Test.YtlnbbaehihgigaaGreatDoorB01
import Derived.Test.YtlnbbaehihgigaaGreatDoorB04
import Derived.Deep.RegionHeld3
import Derived.Deep.RegionLaw
import Derived.Deep.LoopGhost
set_option maxHeartbeats 16000000
set_option maxRecDepth 1000000
namespace Go.Proofs.YtlnbbaehihgigaaGreatDoor
open Go.Proofs.Tryz
open Go.RowKit
variable {l:List Tr} {us b:List UInt16} {v d0 d1 d2 d3 d4 d5 d6 d7 d8:Value} {c d:List Nat} {W a:World} {As Am A:Option Addr} {nl:Bool} {ps m k n base kd X B:Nat} {x:Nd} {nk nn z:Int} {tx:List UInt8} {t:Tr} {ts:List Nd} {xs ks:List Value} {e:TypeId}
theorem zTO (h:zN x=true) (c:x.kind=30):x.nk=0∧0≤x.nn∧x.nn≤9007199254740991:=by
 unfold zN at h;rw[c]at h;split at h
 · cases h
 · split at h
   · cases h
   · split at h
     · cases h
     · split at h
       · cases h
       · rw[jn,if_pos rfl]at h;simp only[Bool.and_eq_true,beq_iff_eq,decide_eq_true_eq]at h;obtain⟨⟨⟨_,h1⟩,b⟩,d⟩:=h;refine⟨h1,d,?_⟩;unfold zDa at b;rw[if_pos h1,Bool.and_eq_true]at b;exact of_decide_eq_true b.2
theorem zTP (h:zN x=true) (d:x.kind=31):x.neg=false∧zBN false x.mag=true:=by
 unfold zN at h;rw[d]at h;split at h
 · cases h
 · split at h
   · cases h
   · split at h
     · cases h
     · split at h
       · cases h
       · rw[jn,jn,if_pos rfl]at h;simp only[Bool.and_eq_true,Bool.not_eq_true',decide_eq_true_eq]at h;obtain⟨⟨_,b⟩,c⟩:=h;rw[c]at b;exact⟨c,b⟩
theorem zYM {C:Cx} {s:NdSl} {w:World} (h:Nx C m k x l s w) (b:x.kind=30) (d:Pe C us v w) (c:MayPut us (zg x (prs l))):
 Calls prog 29 #[.pointer (some ⟨C.g,0,none⟩),ndA x l s] w (PutQ C us v w (zg x (prs l))):=by
 obtain⟨f1,f,f3⟩:=zTO h.fields b;have e:zg x (prs l)=[zBR x.nn.toNat]:=by unfold zg;rw[b];rfl
 rw[e]at c⊢;unfold ndA;rw[b,f1];exact zXt _ _ _ _ _ f f3 d c
theorem zYN {C:Cx} {s:NdSl} {w:World} (h:Nx C m k x l s w) (c:x.kind=31) (d:Reads w C.B 1 s.Am x.mag.length (zMG x.mag)) (b:∀y∈x.mag,y < 4294967296) (j:Pe C us v w) (f:MayPut us (zg x (prs l))):
 Calls prog 29 #[.pointer (some ⟨C.g,0,none⟩),ndA x l s] w (PutQ C us v w (zg x (prs l))):=by
 obtain⟨f1,o⟩:=zTP h.fields c;have e:zg x (prs l)=[zBR (zEQ x.mag)++[110]]:=by unfold zg;rw[c];rfl
 rw[e]at f⊢;unfold ndA;rw[c,f1];exact zXu _ _ _ _ rfl d b o (zCl h.fields b).big j f
theorem zYO {C:Cx} {s:NdSl} {w:World} (h:Nx C m k x l s w) (b:x.kind=32) (c:Reads w C.B 1 s.As x.str.length (zAI x.str)) (d:∀y∈x.mag,y < 4294967296) (j:Pe C us v w) (f:MayPut us (zg x (prs l))):
 Calls prog 29 #[.pointer (some ⟨C.g,0,none⟩),ndA x l s] w (PutQ C us v w (zg x (prs l))):=by
 have e:zg x (prs l)=[zFg x.str]:=by unfold zg;rw[b];rfl
 rw[e]at f⊢;unfold ndA;rw[b];exact zXv _ _ _ _ _ rfl (by have:=(zCl h.fields d).str;omega) c j f
theorem zYP {C:Cx} {s:NdSl} {w:World} (h:Nx C m k x l s w) (b:x.kind=33) (d:Pe C us v w) (c:MayPut us (zg x (prs l))):
 Calls prog 29 #[.pointer (some ⟨C.g,0,none⟩),ndA x l s] w (PutQ C us v w (zg x (prs l))):=by
 obtain rfl:=zGt (h.cnt.none_ jo);have e:zg x (prs [])=[x.name]:=by unfold zg;rw[b,zY];rfl
 rw[e]at c⊢;unfold ndA;rw[b];exact zXs x.name _ _ _ _ _ h.hN d c
theorem zYQ {C:Cx} {s:NdSl} {w:World} (h:Nx C m k x l s w) (b:x.kind=34) (d:Pe C us v w) (c:MayPut us (zg x (prs l))):
 Calls prog 29 #[.pointer (some ⟨C.g,0,none⟩),ndA x l s] w (PutQ C us v w (zg x (prs l))):=by
 obtain rfl:=zGt (h.cnt.none_ jo);have e:zg x (prs [])=[[116,114,117,101]]:=by unfold zg;rw[b,zY];rfl
 rw[e]at c⊢;unfold ndA;rw[b];exact zXX (K:=34) jd x.name _ _ _ _ _ h.hN d c
theorem zYR {C:Cx} {s:NdSl} {w:World} (h:Nx C m k x l s w) (b:x.kind=35) (d:Pe C us v w) (c:MayPut us (zg x (prs l))):
 Calls prog 29 #[.pointer (some ⟨C.g,0,none⟩),ndA x l s] w (PutQ C us v w (zg x (prs l))):=by
 obtain rfl:=zGt (h.cnt.none_ jo);have e:zg x (prs [])=[[102,97,108,115,101]]:=by unfold zg;rw[b,zY];rfl
 rw[e]at c⊢;unfold ndA;rw[b];exact zXX (K:=35) jd x.name _ _ _ _ _ h.hN d c
theorem zYS {C:Cx} {s:NdSl} {w:World} (h:Nx C m k x l s w) (b:x.kind=36) (d:Pe C us v w) (c:MayPut us (zg x (prs l))):
 Calls prog 29 #[.pointer (some ⟨C.g,0,none⟩),ndA x l s] w (PutQ C us v w (zg x (prs l))):=by
 obtain rfl:=zGt (h.cnt.none_ jo);have e:zg x (prs [])=[[110,117,108,108]]:=by unfold zg;rw[b,zY];rfl
 rw[e]at c⊢;unfold ndA;rw[b];exact zXX (K:=36) jd x.name _ _ _ _ _ h.hN d c
theorem zYT {C:Cx} {s:NdSl} {w:World} (h:Nx C m k x l s w) (b:x.kind=37) (d:Pe C us v w) (c:MayPut us (zg x (prs l))):
 Calls prog 29 #[.pointer (some ⟨C.g,0,none⟩),ndA x l s] w (PutQ C us v w (zg x (prs l))):=by
 obtain rfl:=zGt (h.cnt.none_ jo);have e:zg x (prs [])=[[116,104,105,115]]:=by unfold zg;rw[b,zY];rfl
 rw[e]at c⊢;unfold ndA;rw[b];exact zXX (K:=37) jd x.name _ _ _ _ _ h.hN d c
theorem zYU {C:Cx} {s:NdSl} {w:World} (h:Nx C m k x l s w) (b:x.kind=38) (d:Pe C us v w) (c:MayPut us (zg x (prs l))):
 Calls prog 29 #[.pointer (some ⟨C.g,0,none⟩),ndA x l s] w (PutQ C us v w (zg x (prs l))):=by
 have e:zg x (prs l)=[[91]]++(zAW zb (prs l)++[[93]]):=by unfold zg;rw[b];rfl
 rw[e]at c⊢;unfold ndA;rw[b];exact zXo _ _ _ _ _ _ h.hN h.hs rfl h.h6 h.hk d c
theorem zYV {C:Cx} {s:NdSl} {w:World} (h:Nx C m k x l s w) (b:x.kind=39) (d:Pe C us v w) (c:MayPut us (zg x (prs l))):
 Calls prog 29 #[.pointer (some ⟨C.g,0,none⟩),ndA x l s] w (PutQ C us v w (zg x (prs l))):=by
 have e:zg x (prs l)=[[123]]++(zAW (·.2) (prs l)++[[125]]):=by unfold zg;rw[b];rfl
 rw[e]at c⊢;unfold ndA;rw[b];exact zXp _ _ _ _ _ _ h.hN h.hs rfl h.h6 h.hk d c
theorem zYW {C:Cx} {s:NdSl} {w:World} (h:Nx C m k x l s w) (b:x.kind=40) (c:Reads w C.B 1 s.As x.str.length (zAI x.str)) (d:∀y∈x.mag,y < 4294967296) (j:Pe C us v w) (f:MayPut us (zg x (prs l))):
 Calls prog 29 #[.pointer (some ⟨C.g,0,none⟩),ndA x l s] w (PutQ C us v w (zg x (prs l))):=by
 obtain⟨a0,rfl⟩:=zGu (h.cnt.one jo);have e:zg x (prs [a0])=[zFg x.str,[58]]++zb (a0.nd.kind,prT a0):=by unfold zg;rw[b,zH,zY];rfl
 rw[e]at f⊢;unfold ndA;rw[b];exact zXw _ _ _ _ _ h.hN (h.hs a0 js) h.hk rfl (by have:=(zCl h.fields d).str;omega) c j f
theorem zYX {C:Cx} {s:NdSl} {w:World} (h:Nx C m k x l s w) (d:x.kind=41) (f:Pe C us v w) (j:MayPut us (zg x (prs l))):
 Calls prog 29 #[.pointer (some ⟨C.g,0,none⟩),ndA x l s] w (PutQ C us v w (zg x (prs l))):=by
 obtain⟨r,a,rfl⟩:=zVt (h.cnt.some_ jo);have e:zg x (prs (r++[a]))=[[102,117,110,99,116,105,111,110]]++(zAo x.name++(zu (prs r)++prT a)):=by
  have e1:zg x (prs (r++[a]))=zFL x (prs (r++[a])):=by unfold zg;rw[d];rfl
  rw[e1];unfold zFL;rw[(zCp r a).1,(zCp r a).2];rfl
 have b:(r++[a]).length=r.length+1:=by simp
 have h6:=h.h6;have c:=h.ck;rw[b]at h6 c;rw[e]at j⊢;unfold ndA;rw[d,b];exact zTC _ _ _ _ _ _ _ fun W hb=>zJg 41 x.name _ _ _ _ _ h.hN (fun t o=>h.hs t (by simp[o])) (h.hs a js) rfl h6 c (h.below (hb.mono (Nat.le_of_lt f.blt))).hk (f.below hb) j
theorem zYY {C:Cx} {s:NdSl} {w:World} (h:Nx C m k x l s w) (d:x.kind=42) (f:Pe C us v w) (j:MayPut us (zg x (prs l))):
 Calls prog 29 #[.pointer (some ⟨C.g,0,none⟩),ndA x l s] w (PutQ C us v w (zg x (prs l))):=by
 obtain⟨r,a,rfl⟩:=zVt (h.cnt.some_ jo);have b:(r++[a]).length=r.length+1:=by simp
 have h6:=h.h6;have c:=h.ck;rw[b]at h6 c
 by_cases o:a.nd.kind=4
 · have e:zg x (prs (r++[a]))=zu (prs r)++([[61,62]]++prT a):=by
    have e1:zg x (prs (r++[a]))=zEm (prs (r++[a])):=by unfold zg;rw[d];rfl
    rw[e1];unfold zEm;rw[(zCp r a).1,(zCp r a).2];rw[if_pos o];rfl
   rw[e]at j⊢;unfold ndA;rw[d,b];exact zLv _ _ _ _ _ _ _ fun W hb=>zJh 42 x.name _ _ _ _ _ h.hN (fun t p=>h.hs t (by simp[p])) (h.hs a js) rfl h6 c (h.below (hb.mono (Nat.le_of_lt f.blt))).hk (f.below hb) o j
 · have e:zg x (prs (r++[a]))=zu (prs r)++([[61,62]]++inP (prT a)):=by
    have e1:zg x (prs (r++[a]))=zEm (prs (r++[a])):=by unfold zg;rw[d];rfl
    rw[e1];unfold zEm;rw[(zCp r a).1,(zCp r a).2];rw[if_neg o];rfl
   rw[e]at j⊢;unfold ndA;rw[d,b];exact zLv _ _ _ _ _ _ _ fun W hb=>zQG 42 x.name _ _ _ _ _ h.hN (fun t p=>h.hs t (by simp[p])) (h.hs a js) rfl h6 c (h.below (hb.mono (Nat.le_of_lt f.blt))).hk (f.below hb) rfl o j
theorem zYZ {C:Cx} {s:NdSl} {w:World} (h:Nx C m k x l s w) (b:x.kind=43) (c:Pe C us v w) (d:MayPut us (zg x (prs l))):
 Calls prog 29 #[.pointer (some ⟨C.g,0,none⟩),ndA x l s] w (PutQ C us v w (zg x (prs l))):=by
 obtain⟨a0,rfl⟩:=zGu (h.cnt.one jo);have e:zg x (prs [a0])=[x.name]++(zb (a0.nd.kind,prT a0)):=by unfold zg;rw[b,zH,zY];rfl
 rw[e]at d⊢;unfold ndA;rw[b];exact zGs (K:=43) jd _ _ _ _ _ _ _ fun W hb=>zYF x.name _ _ _ _ _ h.hN (h.hs a0 js) (h.below (hb.mono (Nat.le_of_lt c.blt))).hk (c.below hb) d
theorem zYa {C:Cx} {s:NdSl} {w:World} (h:Nx C m k x l s w) (b:x.kind=44) (c:Pe C us v w) (d:MayPut us (zg x (prs l))):
 Calls prog 29 #[.pointer (some ⟨C.g,0,none⟩),ndA x l s] w (PutQ C us v w (zg x (prs l))):=by
 obtain⟨a0,rfl⟩:=zGu (h.cnt.one jo);have e:zg x (prs [a0])=[x.name]++(prT a0):=by unfold zg;rw[b,zH,zY];rfl
 rw[e]at d⊢;unfold ndA;rw[b];exact zGs (K:=44) jd _ _ _ _ _ _ _ fun W hb=>zYG x.name _ _ _ _ _ h.hN (h.hs a0 js) (h.below (hb.mono (Nat.le_of_lt c.blt))).hk (c.below hb) d
theorem zYb {C:Cx} {s:NdSl} {w:World} (h:Nx C m k x l s w) (b:x.kind=45) (c:Pe C us v w) (d:MayPut us (zg x (prs l))):
 Calls prog 29 #[.pointer (some ⟨C.g,0,none⟩),ndA x l s] w (PutQ C us v w (zg x (prs l))):=by
 obtain⟨a0,rfl⟩:=zGu (h.cnt.one jo);have e:zg x (prs [a0])=(prT a0)++([x.name]):=by unfold zg;rw[b,zH,zY];rfl
 rw[e]at d⊢;unfold ndA;rw[b];exact zGs (K:=45) jd _ _ _ _ _ _ _ fun W hb=>zYH x.name _ _ _ _ _ h.hN (h.hs a0 js) (h.below (hb.mono (Nat.le_of_lt c.blt))).hk (c.below hb) d
theorem zYc {C:Cx} {s:NdSl} {w:World} (h:Nx C m k x l s w) (b:x.kind=46) (c:Pe C us v w) (d:MayPut us (zg x (prs l))):
 Calls prog 29 #[.pointer (some ⟨C.g,0,none⟩),ndA x l s] w (PutQ C us v w (zg x (prs l))):=by
 obtain⟨a0,a1,rfl⟩:=zNL (h.cnt.two jo);have e:zg x (prs [a0,a1])=(zb (a0.nd.kind,prT a0))++([x.name]++(zb (a1.nd.kind,prT a1))):=by unfold zg;rw[b,zH,zH,zY];rfl
 rw[e]at d⊢;unfold ndA;rw[b];exact zGs (K:=46) jd _ _ _ _ _ _ _ fun W hb=>zUh (K:=46) jd x.name _ _ _ _ _ h.hN (h.hs a0 js) (h.hs a1 js) (h.below (hb.mono (Nat.le_of_lt c.blt))).hk (c.below hb) d
theorem zYd {C:Cx} {s:NdSl} {w:World} (h:Nx C m k x l s w) (b:x.kind=47) (c:Pe C us v w) (d:MayPut us (zg x (prs l))):
 Calls prog 29 #[.pointer (some ⟨C.g,0,none⟩),ndA x l s] w (PutQ C us v w (zg x (prs l))):=by
 obtain⟨a0,a1,rfl⟩:=zNL (h.cnt.two jo);have e:zg x (prs [a0,a1])=(zb (a0.nd.kind,prT a0))++([x.name]++(zb (a1.nd.kind,prT a1))):=by unfold zg;rw[b,zH,zH,zY];rfl
 rw[e]at d⊢;unfold ndA;rw[b];exact zGs (K:=47) jd _ _ _ _ _ _ _ fun W hb=>zUh (K:=47) jd x.name _ _ _ _ _ h.hN (h.hs a0 js) (h.hs a1 js) (h.below (hb.mono (Nat.le_of_lt c.blt))).hk (c.below hb) d
theorem zYe {C:Cx} {s:NdSl} {w:World} (h:Nx C m k x l s w) (b:x.kind=48) (c:Pe C us v w) (d:MayPut us (zg x (prs l))):
 Calls prog 29 #[.pointer (some ⟨C.g,0,none⟩),ndA x l s] w (PutQ C us v w (zg x (prs l))):=by
 obtain⟨a0,a1,a2,rfl⟩:=zVs (h.cnt.three jo);have e:zg x (prs [a0,a1,a2])=(zb (a0.nd.kind,prT a0))++([[63]]++((zb (a1.nd.kind,prT a1))++([[58]]++(zb (a2.nd.kind,prT a2))))):=by unfold zg;rw[b,zH,zH,zH,zY];rfl
 rw[e]at d⊢;unfold ndA;rw[b];exact zGs (K:=48) jd _ _ _ _ _ _ _ fun W hb=>zYI x.name _ _ _ _ _ h.hN (h.hs a0 js) (h.hs a1 js) (h.hs a2 js) (h.below (hb.mono (Nat.le_of_lt c.blt))).hk (c.below hb) d
theorem zYf {C:Cx} {s:NdSl} {w:World} (h:Nx C m k x l s w) (b:x.kind=49) (c:Pe C us v w) (d:MayPut us (zg x (prs l))):
 Calls prog 29 #[.pointer (some ⟨C.g,0,none⟩),ndA x l s] w (PutQ C us v w (zg x (prs l))):=by
 obtain⟨a0,a1,rfl⟩:=zNL (h.cnt.two jo);have e:zg x (prs [a0,a1])=(prT a0)++([x.name]++(zb (a1.nd.kind,prT a1))):=by unfold zg;rw[b,zH,zH,zY];rfl
 rw[e]at d⊢;unfold ndA;rw[b];exact zGs (K:=49) jd _ _ _ _ _ _ _ fun W hb=>zYJ x.name _ _ _ _ _ h.hN (h.hs a0 js) (h.hs a1 js) (h.below (hb.mono (Nat.le_of_lt c.blt))).hk (c.below hb) d
theorem zYg {C:Cx} {s:NdSl} {w:World} (h:Nx C m k x l s w) (c:x.kind=50) (d:Pe C us v w) (f:MayPut us (zg x (prs l))):
 Calls prog 29 #[.pointer (some ⟨C.g,0,none⟩),ndA x l s] w (PutQ C us v w (zg x (prs l))):=by
 have h1:=h.cnt.some_ jo;obtain⟨a0,r,rfl⟩:∃a r,l=a::r:=by
  cases l with
  | nil=>simp at h1
  | cons a r=>exact⟨a,r,rfl⟩
 have e:zg x (prs (a0::r))=zER (prs (a0::r)):=by unfold zg;rw[c];rfl
 have h6:=h.h6;have b:=h.ck;rw[List.length_cons]at h6 b;rw[e]at f⊢;unfold ndA;rw[c,List.length_cons];exact zGs (K:=50) jd _ _ _ _ _ _ _ fun W hb=>zXq _ _ _ _ _ _ h.hN (fun t j=>h.hs t (by simp[j])) (h.hs a0 js) rfl h6 b (h.below (hb.mono (Nat.le_of_lt d.blt))).hk (d.below hb) f
theorem zYh {C:Cx} {s:NdSl} {w:World} (h:Nx C m k x l s w) (c:x.kind=51) (d:Pe C us v w) (f:MayPut us (zg x (prs l))):
 Calls prog 29 #[.pointer (some ⟨C.g,0,none⟩),ndA x l s] w (PutQ C us v w (zg x (prs l))):=by
 have h1:=h.cnt.some_ jo;obtain⟨a0,r,rfl⟩:∃a r,l=a::r:=by
  cases l with
  | nil=>simp at h1
  | cons a r=>exact⟨a,r,rfl⟩
 have e:zg x (prs (a0::r))=[[110,101,119]]++zER (prs (a0::r)):=by unfold zg;rw[c];rfl
 have h6:=h.h6;have b:=h.ck;rw[List.length_cons]at h6 b;rw[e]at f⊢;unfold ndA;rw[c,List.length_cons];exact zGs (K:=51) jd _ _ _ _ _ _ _ fun W hb=>zXr _ _ _ _ _ _ h.hN (fun t j=>h.hs t (by simp[j])) (h.hs a0 js) rfl h6 b (h.below (hb.mono (Nat.le_of_lt d.blt))).hk (d.below hb) f
theorem zYi {C:Cx} {s:NdSl} {w:World} (h:Nx C m k x l s w) (b:x.kind=52) (c:Pe C us v w) (d:MayPut us (zg x (prs l))):
 Calls prog 29 #[.pointer (some ⟨C.g,0,none⟩),ndA x l s] w (PutQ C us v w (zg x (prs l))):=by
 obtain⟨a0,rfl⟩:=zGu (h.cnt.one jo);have e:zg x (prs [a0])=(zb (a0.nd.kind,prT a0))++([[46],x.name]):=by unfold zg;rw[b,zH,zY];rfl
 rw[e]at d⊢;unfold ndA;rw[b];exact zGs (K:=52) jd _ _ _ _ _ _ _ fun W hb=>zYK x.name _ _ _ _ _ h.hN (h.hs a0 js) (h.below (hb.mono (Nat.le_of_lt c.blt))).hk (c.below hb) d
theorem zYj {C:Cx} {s:NdSl} {w:World} (h:Nx C m k x l s w) (b:x.kind=53) (c:Pe C us v w) (d:MayPut us (zg x (prs l))):
 Calls prog 29 #[.pointer (some ⟨C.g,0,none⟩),ndA x l s] w (PutQ C us v w (zg x (prs l))):=by
 obtain⟨a0,a1,rfl⟩:=zNL (h.cnt.two jo);have e:zg x (prs [a0,a1])=(zb (a0.nd.kind,prT a0))++([[91]]++((zb (a1.nd.kind,prT a1))++([[93]]))):=by unfold zg;rw[b,zH,zH,zY];rfl
 rw[e]at d⊢;unfold ndA;rw[b];exact zGs (K:=53) jd _ _ _ _ _ _ _ fun W hb=>zYL x.name _ _ _ _ _ h.hN (h.hs a0 js) (h.hs a1 js) (h.below (hb.mono (Nat.le_of_lt c.blt))).hk (c.below hb) d
theorem zHA {C:Cx} {s:NdSl} {w:World} (h:Nx C m k x l s w) (p:30≤x.kind) (q:x.kind≤53) (f:Reads w C.B 1 s.As x.str.length (zAI x.str)) (j:Reads w C.B 1 s.Am x.mag.length (zMG x.mag)) (e:∀y∈x.mag,y < 4294967296) (b:Pe C us v w) (d:MayPut us (zg x (prs l))):
 Calls prog 29 #[.pointer (some ⟨C.g,0,none⟩),ndA x l s] w (PutQ C us v w (zg x (prs l))):=by
 have o:x.kind=30∨x.kind=31∨x.kind=32∨x.kind=33∨x.kind=34∨x.kind=35∨x.kind=36∨x.kind=37∨x.kind=38∨x.kind=39∨x.kind=40∨x.kind=41∨x.kind=42∨x.kind=43∨x.kind=44∨x.kind=45∨x.kind=46∨x.kind=47∨x.kind=48∨x.kind=49∨x.kind=50∨x.kind=51∨x.kind=52∨x.kind=53:=by omega
 rcases o with c | c | c | c | c | c | c | c | c | c | c | c | c | c | c | c | c | c | c | c | c | c | c | c
 · exact zYM h c b d
 · exact zYN h c j e b d
 · exact zYO h c f e b d
 · exact zYP h c b d
 · exact zYQ h c b d
 · exact zYR h c b d
 · exact zYS h c b d
 · exact zYT h c b d
 · exact zYU h c b d
 · exact zYV h c b d
 · exact zYW h c f e b d
 · exact zYX h c b d
 · exact zYY h c b d
 · exact zYZ h c b d
 · exact zYa h c b d
 · exact zYb h c b d
 · exact zYc h c b d
 · exact zYd h c b d
 · exact zYe h c b d
 · exact zYf h c b d
 · exact zYg h c b d
 · exact zYh h c b d
 · exact zYi h c b d
 · exact zYj h c b d
theorem zQU (h:t∈l):t.size≤sizes l:=by
 induction l with
 | nil=>cases h
 | cons a r b=>
  rw[zG];rcases List.mem_cons.1 h with rfl | h
  · omega
  · have:=b h;omega
theorem zQV (l:List Tr):l.length≤sizes l:=by
 induction l with
 | nil=>simp
 | cons a r b=>rw[zG,List.length_cons];have:=zBG a;omega
theorem zJj {k:Int} (h:zCu k=true):(1≤k∧k≤20)∨(30≤k∧k≤53):=by
 unfold zCu at h;simp only[Bool.or_eq_true,Bool.and_eq_true,decide_eq_true_eq]at h;exact h
theorem zJk (h:zCs ts x=true):zCu x.kind=true:=by
 cases h2:zCu x.kind with
 | true=>rfl
 | false=>rw[zHl h2]at h;cases h
theorem zNM {C:Cx} (hN:zAi C m) (he:zBy C.ts 0 C.ts=true) (a2:m≤1000000):zAi C (m+1):=by
 intro t k us v w H h e q;obtain⟨x,l⟩:=t;obtain⟨b,o,s,hA,a3,a6,hC,r⟩:=e.node h;have I:=zLu h r;have d:((Tr.mk x l).laid k).kids.length=l.length:=zBg (k+1) l;have c:=zKA C.ts 0 he k _ h.get;have u:zN x=true:=c.1;have A:(1≤x.kind∧x.kind≤20)∨(30≤x.kind∧x.kind≤53):=zJj (show zCu x.kind=true from zJk (ts:=C.ts) (x:=(Tr.mk x l).laid k) c.2.1);rw[zh]at H;have z:=At.cnt he h;have D:=r.ck.1;rw[d]at D;have J:Reads w C.B 1 s.As x.str.length (zAI x.str):=r.str;have L:Reads w C.B 1 s.Am x.mag.length (zMG x.mag):=r.mag;have M:∀y∈x.mag,y < 4294967296:=r.limb;have E:Nx C m k x l s w:=⟨hN,h,fun t ht=>by have:=zQU ht;omega,z,u,by have:=zQV l;omega,a2,I,D,by omega⟩;obtain⟨N,O,P,Q,R,S,T,F⟩:=hC;rw[d]at F;have j0:w.cell? ⟨b,o+k*8,none⟩=some (.int .i64 x.kind):=N;have j1:w.cell? ⟨b,o+k*8+1,none⟩=some (.string ⟨x.name.toArray⟩):=O;have j2:w.cell? ⟨b,o+k*8+2,none⟩=some (.slice s.As x.str.length s.cs):=P;have j3:w.cell? ⟨b,o+k*8+3,none⟩=some (.int .i64 x.nk):=Q;have j4:w.cell? ⟨b,o+k*8+4,none⟩=some (.int .i64 x.nn):=R;have j5:w.cell? ⟨b,o+k*8+5,none⟩=some (.bool x.neg):=S;have j6:w.cell? ⟨b,o+k*8+6,none⟩=some (.slice s.Am x.mag.length s.cm):=T;have j7:w.cell? ⟨b,o+k*8+7,none⟩=some (.slice s.Ak l.length s.ck):=F;have a0:=e.pn.c0;rw[hA]at a0;have a4:=e.pn.lt;have G:=e.blt;have a7:b < w.heap.size:=by omega
 obtain⟨g,hg⟩:∃g,C.g=g:=⟨_,rfl⟩;obtain⟨n,hn⟩:∃n,C.n=n:=⟨_,rfl⟩;rw[hg,hn]at a0;rw[hg]at a4;rw[hn]at a3;have a5:(k:Int) < (n:Int):=by omega
 obtain⟨K,f⟩:=jx x.kind;have e0:prT (.mk x l)=zAk x (prs l):=zAS x l;rw[e0]at q⊢
 by_cases a1:K < 30
 · have e1:zAk x (prs l)=zi x (prs l):=by unfold zAk;rw[if_pos (by rw[f];exact a1)]
   rw[e1]at q⊢;have U:=zA (fun(W:World) (hb:Below w.heap.size w W)=>zIP (E.below (hb.mono (Nat.le_of_lt G))) jo (e.below hb) q);have V:=zA (show∀(W:World),Below w.heap.size w W→Calls prog 28 #[.pointer (some ⟨g,0,none⟩),.int .i64 (k:Int),.agg #[.int .i64 K,.string ⟨x.name.toArray⟩,.slice s.As x.str.length s.cs,.int .i64 x.nk,.int .i64 x.nn,.bool x.neg,.slice s.Am x.mag.length s.cm,.slice s.Ak l.length s.ck]] W (PutQ C us v W (zi x (prs l)))from by rw[←f,←hg];exact U.out);rw[f]at j0;rw[hg];clear U q E J L M I c u A z r hA e hN h he H d N O P Q R S T F e0 e1 f hg hn D;go_enter func14,ntmps14;go_wp2_with fail;refine(V.out _ (ja)).mono ?_;rintro e1 w1 ⟨rfl,v1,j,p⟩;have X:=zA j;have Y:=zA p;clear j p;go_wp2_with fail;exact jr (PutQ.back (ja) ⟨rfl,v1,X.out,Y.out⟩)
 · have e1:zAk x (prs l)=zg x (prs l):=by unfold zAk;rw[if_neg (by rw[f];exact a1)]
   rw[e1]at q⊢;have U:=zA (fun(W:World) (hb:Below w.heap.size w W)=>zHA (E.below (hb.mono (Nat.le_of_lt G))) jo jo (J.below (hb.mono (Nat.le_of_lt G))) (L.below (hb.mono (Nat.le_of_lt G))) M (e.below hb) q);have V:=zA (show∀(W:World),Below w.heap.size w W→Calls prog 29 #[.pointer (some ⟨g,0,none⟩),.agg #[.int .i64 K,.string ⟨x.name.toArray⟩,.slice s.As x.str.length s.cs,.int .i64 x.nk,.int .i64 x.nn,.bool x.neg,.slice s.Am x.mag.length s.cm,.slice s.Ak l.length s.ck]] W (PutQ C us v W (zg x (prs l)))from by rw[←f,←hg];exact U.out);rw[f]at j0;rw[hg];clear U q E J L M I c u A z r hA e hN h he H d N O P Q R S T F e0 e1 f hg hn D;go_enter func14,ntmps14;go_wp2_with fail;refine(V.out _ (ja)).mono ?_;rintro e1 w1 ⟨rfl,v1,j,p⟩;have X:=zA j;have Y:=zA p;clear j p;go_wp2_with fail;exact jr (PutQ.back (ja) ⟨rfl,v1,X.out,Y.out⟩)
theorem zQW {C:Cx} (b:zBy C.ts 0 C.ts=true):∀m,m≤1000000→zAi C m:=by
 intro m
 induction m with
 | zero=>intro _ t k us v w d;have:=zBG t;omega
 | succ m c=>intro e;exact zNM (c jo) b jo
def zLy (u:List UInt16) (w:World) (e:Ending) (w':World):Prop:=
 Below w.heap.size w w'∧(4096 < u.length∧e=.returned (.tuple #[.slice none 0 0,.int .i64 3])∨u.length≤4096∧∃v,e=.returned (.tuple #[v,.int .i64 0])∧Made w w' 65 v (zAI u))
theorem zTQ {c:Nat} {w:World} (hN:NdsR w B A n ts) (hB:B≤w.heap.size) (j:n≤c) (d:(zAn ts).length≤1000000) (f:zRE ts=false):
 Calls prog 7 #[.agg #[.slice A n c]] w fun e w'=>e=.returned (.tuple #[.slice none 0 0,.int .i64 2])∧Below w.heap.size w w':=by
 have k:=zA (fun(W:World) (hb:Below w.heap.size w W)=>zQD (c:=c) (hN.below (hb.mono hB)) (yAD hB hb.size) j d f);clear hN d f;go_enter func7,ntmps7;go_wp2_with fail;refine(k.out _ (ja)).mono ?_;rintro e1 w1 ⟨rfl,b⟩;have g:=zA (((Below.refl w.heap.size w).alloc (yAC _) _).trans (b.mono js));clear b;go_wp2_with fail
 go_ret2
 exact⟨rfl,g.out⟩
theorem zQX {c:Nat} {w:World} (hN:NdsR w B A n ts) (hB:B≤w.heap.size) (Y:n≤c) (M:(zAn ts).length≤1000000) (N:Tab w) (v:0 < B) (I:May ts t) (O:MayPut [] (prT t)):
 Calls prog 7 #[.agg #[.slice A n c]] w (zLy (zDd t) w):=by
 obtain⟨W,q⟩:=jx (w.alloc (.cells #[.slice A n c] 24));have e:Below w.heap.size w W:=jb q;have y:w.heap.size < W.heap.size:=by rw[←q];simp
 have x0:W.cell? ⟨w.heap.size,0,none⟩=some (.slice A n c):=jc q;have CM:=zA (zQD (c:=c) (hN.below (e.mono hB)) (yAD hB e.size) Y M (zWj I));have HN:=zA hN;have z:=zA e;have HT:=zA N;have r:=zA I;have P:=zA O;obtain⟨X,Q⟩:=jx w.heap.size;go_enter func7,ntmps7;go_upto_region 1 with(fail);clear hN M e N I O q;rw[Q]at x0 y;clear Q;go_wp2_with fail;refine CM.out.mono ?_;rintro e1 w1 ⟨rfl,k⟩;have y0:=(k.cell (p:=⟨X,0,none⟩) y).trans x0;have f:=zA (z.out.trans (k.mono z.out.size));clear k;go_upto_region 4 with(fail);obtain⟨w2,b⟩:=jx (w1.alloc (.cells #[.slice A n c,.slice none 0 0] 48));have D:Below w1.heap.size w1 w2:=jb b;have g:=zA (f.out.trans (D.mono f.out.size));have R:Pe ⟨B,w1.heap.size+1,w1.heap.size,n,c,A,ts⟩ [] (.slice none 0 0) w2:=by
  refine⟨⟨?_,?_,?_,yAJ _ _ _ _,yAF _⟩,HN.out.below (g.out.mono hB),?_,?_,HT.out.below v (g.out.mono hB),v⟩
  · rw[←b];exact World.cell?_alloc_at _ _ _ _ rfl
  · rw[←b];exact World.cell?_alloc_at _ _ _ _ rfl
  · rw[←b];exact World.frozen?_alloc_new _ _ _ _
  · rw[←b];simp
  · exact yAD hB f.out.size
 have S:=zA (zQW (C:=⟨B,w1.heap.size+1,w1.heap.size,n,c,A,ts⟩) r.out.each 4096 jo t 0 [] _ w2 (by have:=r.out.len;rwa[r.out.flat,flatT_len]at this) r.out.at_ R P.out);have T:w1.heap.size < w2.heap.size:=by rw[←b];simp
 rw[b];have l:=zA f.out.size;obtain⟨G,J⟩:=jx w1.heap.size;clear b D R y0 x0;rw[J]at S T l;rw[J];clear J;go_wp2_with fail;refine S.out.mono ?_;rintro e3 w3 ⟨rfl,v3,m,E⟩;have z1:w3.cell? ⟨G,1,none⟩=some v3:=m.pn.c1;have d:=m.pn.own;obtain⟨U,c3,rfl,_,_⟩:=zR d;obtain⟨u,s⟩:=jx (zCk [] (prT t));have F:zDd t=u:=s;have H:=zA F;have j:w3.ownsRow (G+1) 65 1 (.slice U u.length c3) u.length (zAI u):=by rw[←s];exact d
 rw[s]at z1;have HO:=zA j;have o:=zA (g.out.trans (E.below (B:=w.heap.size) (fun i hi=>by simp[Value.ownBlock]at hi) l.out g.out.size));clear m E d j s F
 by_cases L:4096 < u.length
 · have h1:(4096:Int) < (u.length:Int):=by omega
   go_wp2_with fail
   go_ret2
   show zLy (zDd t) w _ _;rw[H.out];exact⟨o.out,.inl ⟨L,rfl⟩⟩
 · have h1:¬(4096:Int) < (u.length:Int):=by omega
   go_wp2_with fail
   go_ret2
   show zLy (zDd t) w _ _;rw[H.out];have V:w3.ownsRow w.heap.size 65 1 (.slice U u.length c3) (zAI u).length (zAI u):=by
    rw[zDA];exact zLw HO.out (yAD l.out (Nat.le_succ G))
   exact⟨o.out,.inr ⟨by omega,_,rfl,⟨V,o.out⟩⟩⟩
theorem zTR (h:May ts t) (b:∀x∈ts,∀y∈x.mag,y < 4294967296):MayPut [] (prT t):=by
 refine⟨fun s hs e=>(zIG (zWz (zOy _ t (yAC _) (zLE h).good (h.short b) s hs)) []).2.2.2 (by rw[e];rfl),?_⟩;have:=h.few b;simp;omega
theorem zVu (h:May ts t) (b:∀x∈ts,∀y∈x.mag,y < 4294967296) (c:(zDd t).length≤4096):zBT (zDd t)=(ts,0,0):=by
 rw[zSh (zLE h) (h.short b) c,←h.flat]
def zVv (x:Nd) (vs vm vo:Value):List Value:=[.int .i64 x.kind,.string ⟨x.name.toArray⟩,vs,.int .i64 x.nk,.int .i64 x.nn,.bool x.neg,vm,.slice none 0 0,vo]
mutual
def TrC (w:World) (F:Nat→Prop):Tr→List Value→Prop
 | .mk x l,cs=>∃vs vm vo ks,cs=zVv x vs vm vo∧x.kids=[]∧w.ownsRow 0 65 1 vs x.str.length (zAI x.str)∧w.ownsRow 0 67 1 vm x.mag.length (zBi x.mag)∧w.ownsRow 0 58 9 vo l.length ks∧(∀b,vo.ownBlock=some b→F b)∧TrsC w F l ks
def TrsC (w:World) (F:Nat→Prop):List Tr→List Value→Prop
 | [],cs=>cs=[]
 | t::r,cs=>∃c0 rest,cs=c0++rest∧TrC w F t c0∧TrsC w F r rest
end
theorem zFB {w:World} {F:Nat→Prop} {cs:List Value}:TrC w F (.mk x l) cs↔∃vs c vo ks,cs=zVv x vs c vo∧x.kids=[]∧w.ownsRow 0 65 1 vs x.str.length (zAI x.str)∧w.ownsRow 0 67 1 c x.mag.length (zBi x.mag)∧w.ownsRow 0 58 9 vo l.length ks∧(∀b,vo.ownBlock=some b→F b)∧TrsC w F l ks:=by rw[TrC]
theorem zCq {w:World} {F:Nat→Prop} {cs:List Value}:TrsC w F [] cs↔cs=[]:=by rw[TrsC]
theorem zBt {w:World} {F:Nat→Prop} {r:List Tr} {cs:List Value}:TrsC w F (t::r) cs↔∃c0 rest,cs=c0++rest∧TrC w F t c0∧TrsC w F r rest:=by rw[TrsC]
def Bx (w:World) (R:Nat) (T:TypeId) (cs:List Value):Prop:=w.heap[R]? =some (.cells cs.toArray T (0,0))
def Fz (w:World) (P:Nat→Prop) (r:Option Nat):Prop:=∀b,r=some b→¬P b∧∃cur T,w.heap[b]? =some (.cells cur T (0,0))∧T≠65∧T≠67
section
variable {w w':World} {P Q F G:Nat→Prop} {r:Option Nat} {R:Nat} {T:TypeId} {cs:List Value}
theorem Bx.lt (h:Bx w R T cs):R < w.heap.size:=by
 rcases Nat.lt_or_ge R w.heap.size with h1 | h1
 · exact h1
 · unfold Bx at h;rw[Array.getElem?_eq_none h1]at h;cases h
theorem Bx.cell (h:Bx w R T cs) (j:Nat):w.cell? ⟨R,j,none⟩=cs[j]? :=by
 unfold World.cell?;have b:w.heap[(⟨R,j,none⟩:Addr).block]? =_:=h;rw[b];simp
theorem Bx.frozen (h:Bx w R T cs) (j:Nat):w.frozen? ⟨R,j,none⟩=false:=by
 unfold World.frozen?;have b:w.heap[(⟨R,j,none⟩:Addr).block]? =_:=h;rw[b];simp
theorem Bx.new (w:World) (cs:List Value) (T:TypeId):Bx (w.alloc (.cells cs.toArray T)) w.heap.size T cs:=by
 unfold Bx World.alloc;simp
theorem Bx.grown (h:Bx w R T cs) (hg:w.grownBy w' r) (b:r≠some R):Bx w' R T cs:=(hg.block R h.lt (fun e=>b e.symm)).trans h
theorem Bx.alloc (h:Bx w R T cs) (o:Obj):Bx (w.alloc o) R T cs:=h.grown (zF w o none) js
theorem Bx.set (h:Bx w R T cs) (j:Nat) (v:Value):Bx (w.setCell ⟨R,j,none⟩ v) R T (cs.set j v):=by
 unfold Bx at h⊢;unfold World.setCell;show(w.heap.modify R _)[R]? =_;rw[Array.getElem?_modify,if_pos rfl,h];simp
theorem Fz.none_ (w:World) (P:Nat→Prop):Fz w P none:=fun b h=>by cases h
theorem Fz.box (h:Bx w R T cs) (h1:T≠65) (c:T≠67) (d:¬P R):Fz w P (some R):=fun b e=>by
 injection e with e;subst e;exact⟨d,_,_,h,h1,c⟩
theorem Fz.own (h:w.ownsRow base 58 9 v n xs) (d:∀b,v.ownBlock=some b→¬P b):Fz w P v.ownBlock:=fun b e=>by
 refine⟨d b e,?_⟩;rcases h.2 with⟨rfl,_⟩ | ⟨g,cap,c,rfl,_,hg,_⟩
 · cases e
 · simp only[Value.ownBlock,Option.some.injEq]at e;subst e;exact⟨c,_,hg,by decide,by decide⟩
theorem zBb {s:Nat} (h:w.ownsRow base e s v n xs) {b:Nat} (hb:v.ownBlock=some b):∃c,w.heap[b]? =some (.cells c e (0,0)):=by
 rcases h.2 with⟨rfl,_⟩ | ⟨g,cap,c,rfl,_,hg,_⟩
 · cases hb
 · simp only[Value.ownBlock,Option.some.injEq]at hb;subst hb;exact⟨c,hg⟩
theorem zCE (h:w.ownsRow base e 1 v n xs) (c:e=65∨e=67) (hg:w.grownBy w' r) (f:Fz w P r):w'.ownsRow base e 1 v n xs:=by
 refine h.kept hg ?_;cases hb:v.ownBlock with
 | none=>exact .inl rfl
 | some b=>
  right;intro e2;obtain⟨_,l,T,h1,g,j⟩:=f b e2.symm;obtain⟨k,d⟩:=zBb h hb;rw[h1]at d;injection d with d;injection d with _ h5 _;subst h5;rcases c with c | c
  · exact g c
  · exact j c
theorem zLz {s:Nat} (h:w.ownsRow base e s v n xs) (c:∀b,v.ownBlock=some b→P b) (hg:w.grownBy w' r) (d:Fz w P r):w'.ownsRow base e s v n xs:=by
 refine h.kept hg ?_;cases hb:v.ownBlock with
 | none=>exact .inl rfl
 | some b=>exact .inr (fun e2=>(d b e2.symm).1 (c b hb))
mutual
theorem TrC.keep {w w':World} {P:Nat→Prop} {r:Option Nat} (hg:w.grownBy w' r) (hz:Fz w P r) (t:Tr) (cs:List Value) (h:TrC w P t cs):TrC w' P t cs:=by
 cases t with
 | mk x l=>
  rw[zFB]at h⊢;obtain⟨vs,vm,vo,ks,h1,h2,h3,h4,h5,h6,h7⟩:=h;exact⟨vs,vm,vo,ks,h1,h2,zCE h3 (.inl rfl) hg hz,zCE h4 (.inr rfl) hg hz,zLz h5 h6 hg hz,h6,TrsC.keep hg hz l ks h7⟩
theorem TrsC.keep {w w':World} {P:Nat→Prop} {r:Option Nat} (hg:w.grownBy w' r) (hz:Fz w P r) (l:List Tr) (cs:List Value) (h:TrsC w P l cs):TrsC w' P l cs:=by
 cases l with
 | nil=>rw[zCq]at h⊢;exact h
 | cons t q=>
  rw[zBt]at h⊢;obtain⟨c0,rest,h1,h2,h3⟩:=h;exact⟨c0,rest,h1,TrC.keep hg hz t c0 h2,TrsC.keep hg hz q rest h3⟩
end
mutual
theorem TrC.sub {w:World} {P Q:Nat→Prop} (hs:∀b,P b→b < w.heap.size→Q b) (t:Tr) (cs:List Value) (h:TrC w P t cs):TrC w Q t cs:=by
 cases t with
 | mk x l=>
  rw[zFB]at h⊢;obtain⟨vs,vm,vo,ks,h1,h2,h3,h4,h5,h6,h7⟩:=h;exact⟨vs,vm,vo,ks,h1,h2,h3,h4,h5,fun b hb=>hs b (h6 b hb) (h5.lt b hb).2,TrsC.sub hs l ks h7⟩
theorem TrsC.sub {w:World} {P Q:Nat→Prop} (hs:∀b,P b→b < w.heap.size→Q b) (l:List Tr) (cs:List Value) (h:TrsC w P l cs):TrsC w Q l cs:=by
 cases l with
 | nil=>rw[zCq]at h⊢;exact h
 | cons t q=>
  rw[zBt]at h⊢;obtain⟨c0,rest,h1,h2,h3⟩:=h;exact⟨c0,rest,h1,TrC.sub hs t c0 h2,TrsC.sub hs q rest h3⟩
end
theorem TrC.len (h:TrC w F t cs):cs.length=9:=by
 cases t with
 | mk x l=>
  rw[zFB]at h;obtain⟨vs,b,vo,ks,rfl,_⟩:=h;rfl
theorem TrC.one (h:TrC w F t cs):(cs.all fun u=>u.oneCell')=true:=by
 cases t with
 | mk x l=>
  rw[zFB]at h;obtain⟨vs,e,vo,ks,rfl,_,b,c,d,_⟩:=h;obtain⟨_,_,rfl,_⟩:=zR b;obtain⟨_,_,rfl,_⟩:=zR c;obtain⟨_,_,rfl,_⟩:=zR d;rfl
end
section
variable {w w':World} {P Q F G:Nat→Prop} {r:Option Nat}
theorem TrsC.len:∀{l:List Tr} {cs:List Value},TrsC w F l cs→cs.length=l.length*9:=by
 intro l
 induction l with
 | nil=>intro cs h;rw[zCq]at h;rw[h];rfl
 | cons t r b=>
  intro cs h;rw[zBt]at h;obtain⟨c0,rest,rfl,h1,c⟩:=h;rw[List.length_append,h1.len,b c,List.length_cons];omega
theorem TrsC.one:∀{l:List Tr} {cs:List Value},TrsC w F l cs→(cs.all fun u=>u.oneCell')=true:=by
 intro l
 induction l with
 | nil=>intro cs h;rw[zCq]at h;rw[h];rfl
 | cons t r b=>
  intro cs h;rw[zBt]at h;obtain⟨c0,rest,rfl,h1,c⟩:=h;rw[List.all_append,h1.one,b c];rfl
theorem TrsC.app:∀{l r:List Tr} {cs ds:List Value},TrsC w F l cs→TrsC w F r ds→TrsC w F (l++r) (cs++ds):=by
 intro l
 induction l with
 | nil=>intro r cs ds h b;rw[zCq]at h;subst h;exact b
 | cons t l c=>
  intro r cs ds h b;rw[zBt]at h;obtain⟨c0,rest,rfl,d,e⟩:=h;rw[List.cons_append,zBt];exact⟨c0,rest++ds,by rw[List.append_assoc],d,c e b⟩
theorem TrsC.cons {c cs:List Value} (h:TrC w F t c) (b:TrsC w F l cs):TrsC w F (t::l) (c++cs):=by
 rw[zBt];exact⟨c,cs,rfl,h,b⟩
theorem TrsC.nil (w:World) (F:Nat→Prop):TrsC w F [] []:=by rw[zCq]
theorem TrsC.single {c:List Value} (h:TrC w F t c):TrsC w F [t] c:=by
 have:=TrsC.cons h (.nil w F);rwa [List.append_nil]at this
theorem TrsC.snoc {cs c:List Value} (h:TrsC w F l cs) (b:TrC w F t c):TrsC w F (l++[t]) (cs++c):=h.app (.single b)
structure RowK (w:World) (P:Nat→Prop) (v:Value) (l:List Tr) (ks:List Value) (F:Nat→Prop):Prop where
 own:w.ownsRow 0 58 9 v l.length ks
 blk:∀b,v.ownBlock=some b→P b
 subs:TrsC w F l ks
 off:∀b,v.ownBlock=some b→¬F b
 low:∀b,F b→P b∧b < w.heap.size
def RowP (w:World) (P:Nat→Prop) (v:Value) (l:List Tr):Prop:=∃ks F,RowK w P v l ks F
theorem RowP.nil (w:World) (P:Nat→Prop):RowP w P (.slice none 0 0) []:=⟨[],fun _=>False,yAJ _ _ _ _,(fun _ h=>by cases h),.nil _ _,(fun _ h=>by cases h),fun _ h=>h.elim⟩
theorem Fz.less (h:Fz w P r) (hs:∀b,F b→P b):Fz w F r:=fun b e=>⟨fun hb=>(h b e).1 (hs b hb),(h b e).2⟩
theorem RowK.keep (h:RowK w P v l ks F) (hg:w.grownBy w' r) (c:Fz w P r):RowK w' P v l ks F:=
 ⟨zLz h.own h.blk hg c,h.blk,.keep hg (c.less fun b hb=>(h.low b hb).1) l ks h.subs,h.off,fun b hb=>⟨(h.low b hb).1,yAA (h.low b hb).2 hg.size⟩⟩
theorem RowP.keep (h:RowP w P v l) (hg:w.grownBy w' r) (b:Fz w P r):RowP w' P v l:=by
 obtain⟨ks,F,h⟩:=h;exact⟨ks,F,h.keep hg b⟩
theorem RowP.new (h:RowP w P v l) (hg:w.grownBy w' none):RowP w' P v l:=h.keep hg (.none_ w P)
theorem RowP.sub (h:RowP w P v l) (hs:∀b,P b→b < w.heap.size→Q b):RowP w Q v l:=by
 obtain⟨ks,F,h⟩:=h;exact⟨ks,F,h.own,fun b hb=>hs b (h.blk b hb) (h.own.lt b hb).2,h.subs,h.off,fun b hb=>⟨hs b (h.low b hb).1 (h.low b hb).2,(h.low b hb).2⟩⟩
theorem RowP.shape (h:RowP w P v l):∃A c,v=.slice A l.length c∧l.length≤c∧c≤maxLen:=by
 obtain⟨ks,F,h⟩:=h;exact zR h.own
theorem RowP.tree {vs c:Value} (h:RowP w P v l) (hk:x.kids=[]) (h1:w.ownsRow 0 65 1 vs x.str.length (zAI x.str)) (d:w.ownsRow 0 67 1 c x.mag.length (zBi x.mag)):TrC w P (.mk x l) (zVv x vs c v):=by
 obtain⟨ks,F,h⟩:=h;rw[zFB];exact⟨vs,c,v,ks,rfl,hk,h1,d,h.own,h.blk,.sub (fun b hb _=>(h.low b hb).1) l ks h.subs⟩
def zYk (k:Int) (n:List UInt8) (v:Value):List Value:=[.int .i64 k,.string ⟨n.toArray⟩,.slice none 0 0,.int .i64 0,.int .i64 0,.bool false,.slice none 0 0,.slice none 0 0,v]
theorem RowP.treeN {k:Int} {n:List UInt8} (h:RowP w P v l):TrC w P (trN k n l) (zYk k n v):=h.tree (x:={zB9 with kind:=k,name:=n}) rfl (yAJ _ _ _ _) (yAJ _ _ _ _)
theorem RowP.treeK {k:Int} (h:RowP w P v l):TrC w P (trK k l) (zYk k [] v):=h.tree (x:={zB9 with kind:=k}) rfl (yAJ _ _ _ _) (yAJ _ _ _ _)
theorem RowK.snoc {w1:World} {v':Value} {c:List Value} (h:RowK w1 P v l ks F) (k:TrC w1 Q t c) (m:∀b,Q b→b < w1.heap.size→P b) (f:∀b,v.ownBlock=some b→¬Q b) (o:P w1.heap.size)
 (p:w'.ownsRow 0 58 9 v' (l.length+1) (ks++c)) (hg:w1.grownBy w' v.ownBlock) (g:v'.ownBlock=v.ownBlock∨v'.ownBlock=some w1.heap.size):RowP w' P v' (l++[t]):=by
 have j:=hg.size;refine⟨ks++c,fun b=>F b∨(Q b∧b < w1.heap.size),by rw[List.length_append];exact p,?_,?_,?_,?_⟩
 · intro b hb;rcases g with e | e
   · rw[e]at hb;exact h.blk b hb
   · rw[e]at hb;injection hb with hb;subst hb;exact o
 · refine .snoc (.sub (fun b hb _=>.inl hb) l ks (.keep hg (.own h.own h.off) l ks h.subs)) ?_;have h1:TrC w1 (fun b=>Q b∧b < w1.heap.size) t c:=.sub (fun b hb q=>⟨hb,q⟩) t c k;exact .sub (fun b hb _=>.inr hb) t c (.keep hg (.own h.own fun b hb d=>f b hb d.1) t c h1)
 · intro b hb d;rcases g with e | e
   · rw[e]at hb;rcases d with d | d
     · exact h.off b hb d
     · exact f b hb d.1
   · rw[e]at hb;injection hb with hb;subst hb;rcases d with d | d
     · have:=(h.low _ d).2;omega
     · omega
 · intro b hb;rcases hb with hb | hb
   · exact⟨(h.low b hb).1,yAA (h.low b hb).2 j⟩
   · exact⟨m b hb.1 hb.2,by omega⟩
theorem RowP.lit {cs:List Value} (f:n=l.length) (h:TrsC w P l cs) (g:P w.heap.size) (c:l.length≤maxLen):RowP (w.alloc (.cells cs.toArray 58)) P (.slice (some ⟨w.heap.size,0,none⟩) n n) l:=by
 subst f;have hb:=Bx.new w cs 58;have j:TrsC w (fun b=>P b∧b < w.heap.size) l cs:=.sub (fun b hb c=>⟨hb,c⟩) l cs h;have k:=TrsC.keep (zF w (.cells cs.toArray 58) none) (.none_ w _) l cs j;refine⟨cs,_,⟨h.len,.inr ⟨w.heap.size,l.length,cs.toArray,rfl,yAE _,hb,yAC _,c,?_,?_⟩⟩,?_,k,?_,?_⟩
 · simp[h.len]
 · rw[←h.len];simp
 · intro b e;simp only[Value.ownBlock,Option.some.injEq]at e;subst e;exact g
 · intro b e d;simp only[Value.ownBlock,Option.some.injEq]at e;subst e;omega
 · intro b d;exact⟨d.1,by simp;omega⟩
end
def LexPost (q:List Tok×Nat×Nat) (w:World) (ev:Ending) (w':World):Prop:=
 ∃v,ev=.returned (.tuple #[v,.int .i64 (q.2.1:Int),.int .i64 (q.2.2:Int)])∧TokL w' w.heap.size q.1 v∧Below w.heap.size w w'
theorem LexPost.mk {q:List Tok×Nat×Nat} {w w':World} {ts:List Tok} {a e:Nat} (b:q=(ts,a,e)) (h:TokL w' w.heap.size ts v) (hb:Below w.heap.size w w'):LexPost q w (.returned (.tuple #[v,.int .i64 (a:Int),.int .i64 (e:Int)])) w':=by
 subst b;exact⟨v,rfl,h,hb⟩
theorem zKi {c:Nat} {u:List UInt16} {w:World} (hB:B≤w.heap.size) (hn:u.length=n) (ha:Reads w B 1 A n (zAI u)) (hc:n≤c) (_b:c≤maxLen):
 Calls prog 15 #[.slice A n c] w (LexPost (zDx u) w):=by
 subst hn
 by_cases l:4096 < u.length
 · have HQ:=zA (show zDx u=([],0,3) by unfold zDx;rw[if_pos l]);have b6:(4096:Int) < (u.length:Int):=by omega
   go_enter func15,ntmps15;go_wp2_with fail
   go_ret3
   exact LexPost.mk HQ.out (TokL.nil _ _) (Below.refl _ _)
 · obtain⟨i0,W,X,Y,a0⟩:=info_parts Tryz.info_tok;have hl:u.length≤4096:=by omega
   have HF:=zA (zB2 l);have HA:=zA ha;have b7:=zA (show LxS w (w.alloc (.cells #[.slice A u.length c,.int .i64 0] 76)) A u.length c 0 (.slice none 0 0) []from
    ⟨⟨by go_simp,by go_simp,by go_simp⟩,ja,TokL.nil _ _⟩)
   clear ha l;go_enter func15,ntmps15;go_wp2_with fail
   go_loopg [6] (u.length+1) (fun r v wr=>∃(p:Nat) (d:List Tok),p+r=u.length+1∧Hid (LxS w wr A u.length c p v d)∧Hid (AtLex u p d))
   case atStart=>exact⟨0,[],by omega,b7.out,AtLex.start u⟩
   case round=>
    obtain⟨p,d,c8,H,j⟩:=hrel;have b8:=j.out.2.1;have c7:=j.out.1;obtain⟨⟨m,nl,e⟩,I⟩:=jx (zAQ (u.drop p));have J:=zIB (u.drop p);rw[I,List.length_drop]at J;simp only at J;have s:=zA I;clear I;have D:=zA (HA.out.below (H.out.below.mono hB));go_wp2_with fail;refine(zPY H.out.rd rfl D.out hB b8 hl s.out).mono ?_;rintro e1 w1 ⟨rfl,a1,a2⟩;have a3:=zA a1;have a4:=zA (zEZ H.out.below a2);clear a1 a2
    by_cases U:e=0
    · subst U;have b:=zA (H.out.mov (a3.out rfl));clear H a3 D a4;have b9:=b.out.rd.c1;rw[if_pos rfl];obtain⟨k,hk⟩:=jx (p+m);rw[hk]at b b9;have z:=zA hk;have c9:k≤u.length:=by omega
      have d0:p≤k:=by omega
      obtain⟨cs,ho,a5⟩:=b.out.toks;obtain⟨Av,cv,hv,_,_⟩:=zR ho;subst hv;have HO:=zA ho;have a6:=zA a5;have o:w.heap.size+1≤w1.heap.size:=b.out.rd.lt;clear ho a5
      by_cases g:k=u.length
      · have e1:((k:Int)==(u.length:Int))=true:=by rw[g];simp
        have V:=zA (j.out.last s.out (by rw[z.out];exact g));have b4:=zA g;clear g hk;go_wp2_with (at_builtin;refine zGh rfl _ _ 50 rfl 80 i0 _ 9 112 underlying50 W X Y a0 rfl jd (w.heap.size+1) o (.slice Av d.length cv) cs d.length rfl HO.out (zFb (setAt zr k nl) (.slice none 0 0) (.slice none 0 0)) 1 1 w1.heap.size rfl rfl rfl rfl jo jo ?_;intro v' w' L y)
        go_ret3
        have c0:=TokL.snoc HO.out a6.out (yAJ _ _ _ _) (yAJ _ _ _ _) L y;have M:=b.out.app y c0;rw[b4.out]at M;exact LexPost.mk (HF.out.trans V.out) (M.toks.base jo) M.below
      · have e1:((k:Int)==(u.length:Int))=false:=yA.2 jo;have C:k < u.length:=by omega
        clear g hk;obtain⟨⟨e2,t,tk⟩,a7⟩:=jx (zAY (k==0) (u.drop k));have N:=zA a7;clear a7;have D:=zA (HA.out.below (b.out.below.mono hB));go_wp2_with fail;refine(zMt (m:=tk) (e:=e2) (t:=t) b.out.rd rfl D.out hB C hl hc N.out).mono ?_;rintro e3 w3 ⟨v,rfl,O,E,a8⟩;have P:=zA O;have F:=zA E;have a9:=zA a8;clear O E a8
        by_cases G:e2=0
        · subst G;obtain⟨⟨vs,vm,hv,Q,R⟩,b0⟩:=F.out rfl;subst hv;obtain⟨As,c1,rfl,_,_⟩:=zR Q;obtain⟨Am,cm,rfl,_,_⟩:=zR R;have f:=zA (j.out.more s.out (by rw[z.out];exact C) (by rw[z.out];exact N.out));rw[z.out]at f;have S:=zA (b.out.mov b0);obtain⟨c2,b1,T⟩:=S.out.toks;have b2:=zA b1;have b5:=zA T;have c3:=zA (zAf Q o);have c4:=zA (zAf R o);have c5:w.heap.size+1≤w3.heap.size:=S.out.rd.lt;clear Q R b1 T b0 F P HO a6;go_wp2_with (at_builtin;refine zGh rfl _ _ 50 rfl 80 i0 _ 9 112 underlying50 W X Y a0 rfl jd (w.heap.size+1) (by simp;omega) (.slice Av d.length cv) c2 d.length rfl (b2.out.alloc _) (zFb (setAt t k nl) (.slice As t.str.length c1) (.slice Am t.mag.length cm)) 1 1 (w3.heap.size+1) js rfl rfl rfl jo jo ?_;intro v' w' L y);have d1:=f.out.2
          go_roundg (u.length+1 - (k+tk))
          case measure=>omega
          case rel=>
           refine⟨k+tk,d++[setAt t k nl],?_,(S.out.new (zF w3 _ none)).app y (TokL.snoc (b2.out.alloc _) (b5.out.map fun _ _ _ _ _ h=>h.alloc _) (c3.out.alloc _) (c4.out.alloc _) L y),f.out.1⟩;have:=f.out.1.2.1;omega
        · obtain rfl:=P.out G;have d2:((e2:Int) !=0)=true:=by rw[bne_iff_ne];omega
          have b3:=zA (j.out.bad s.out (by rw[z.out];exact C) (by rw[z.out];exact N.out) G);clear G;unfold noV;go_wp2_with fail
          go_ret3
          rw[z.out]at b3;exact LexPost.mk (HF.out.trans b3.out) (TokL.nil _ _) ((zEZ b.out.below a9.out).alloc (yAD b.out.below.size a9.out.size) _)
    · have c6:=zA (j.out.pass s.out U);have e1:((e:Int) !=0)=true:=by rw[bne_iff_ne];omega
      rw[if_neg U];clear U;go_wp2_with fail
      go_ret3
      exact LexPost.mk (HF.out.trans c6.out) (TokL.nil _ _) a4.out
theorem TokC.get {w:World}:∀{ts:List Tok} {cs:List Value} (_:TokC w base ts cs) (i:Nat) (hi:i < ts.length),∃vs b,(∀j,j < 9→cs[i*9+j]? =(zFb ts[i] vs b)[j]?)∧w.ownsRow base 65 1 vs ts[i].str.length (zAI ts[i].str)∧w.ownsRow base 67 1 b ts[i].mag.length (zBi ts[i].mag):=by
 intro ts
 induction ts with
 | nil=>intro cs h i hi;simp at hi
 | cons t r f=>
  intro cs h i hi;obtain⟨vs,b,rest,rfl,h1,g,k⟩:=h;cases i with
  | zero=>
   refine⟨vs,b,fun j c=>?_,h1,g⟩;rw[Nat.zero_mul,Nat.zero_add,List.getElem?_append_left (by simp[zFb];omega)];rfl
  | succ i=>
   obtain⟨d,e,g1,g2,l⟩:=f k i (by simpa using hi);refine⟨d,e,fun j c=>?_,g2,l⟩;rw[List.getElem?_append_right (by simp[zFb];omega),show(i+1)*9+j - (zFb t vs b).length=i*9+j by simp[zFb];omega];exact g1 j c
structure TokAt (w:World) (base g i:Nat) (t:Tok) (As Am:Option Addr) (cs cm:Nat):Prop where
 k0:w.cell? ⟨g,i*9,none⟩=some (.int .i64 (t.kind:Int))
 k1:w.cell? ⟨g,i*9+1,none⟩=some (.string ⟨t.text.toArray⟩)
 k2:w.cell? ⟨g,i*9+2,none⟩=some (.slice As t.str.length cs)
 k3:w.cell? ⟨g,i*9+3,none⟩=some (.int .i64 t.nk)
 k4:w.cell? ⟨g,i*9+4,none⟩=some (.int .i64 t.nn)
 k5:w.cell? ⟨g,i*9+5,none⟩=some (.bool false)
 k6:w.cell? ⟨g,i*9+6,none⟩=some (.slice Am t.mag.length cm)
 k7:w.cell? ⟨g,i*9+7,none⟩=some (.int .i64 (t.pos:Int))
 k8:w.cell? ⟨g,i*9+8,none⟩=some (.bool t.nl)
 str:w.ownsRow base 65 1 (.slice As t.str.length cs) t.str.length (zAI t.str)
 mag:w.ownsRow base 67 1 (.slice Am t.mag.length cm) t.mag.length (zBi t.mag)
theorem TokL.at_ {w:World} {c:Nat} {ts:List Tok} (h:TokL w base ts (.slice A n c)) (p:0 < ts.length):∃g,A=some ⟨g,0,none⟩∧base≤g∧g < w.heap.size∧∀i (hi:i < ts.length),∃As Am c1 c2,TokAt w base g i ts[i] As Am c1 c2:=by
 obtain⟨cs,e,f⟩:=h;obtain⟨g,cap,hv,k,l⟩:=e.form p;injection hv with hA hn d;subst hA hn d;refine⟨g,rfl,k,l,fun i hi=>?_⟩;obtain⟨vs,q,d,h1,m⟩:=f.get i hi;obtain⟨As,c1,rfl,_,_⟩:=zR h1;obtain⟨Am,c2,rfl,_,_⟩:=zR m;have b:∀j (o:j < 9),w.cell? ⟨g,i*9+j,none⟩=(zFb ts[i] (.slice As ts[i].str.length c1) (.slice Am ts[i].mag.length c2))[j]? :=by
  intro j o;rw[e.cellAt (i*9+j) jo,d j o]
 exact⟨As,Am,c1,c2,⟨b 0 jo,b 1 jo,b 2 jo,b 3 jo,b 4 jo,b 5 jo,b 6 jo,b 7 jo,b 8 jo,h1,m⟩⟩
structure Pc where
 g:Nat
 L:List Tok
 A:Option Addr
 N:Nat
 c:Nat
 w0:World
def zUi (L:List Tok) (s:Ps):Nat:=if s.bad=0 then 0 else(zI L s.far).pos
structure Pcx (C:Pc):Prop where
 lst:Lst C.L
 n:C.L.length=C.N
 n4:C.N≤4097
 tok:TokL C.w0 0 C.L (.slice C.A C.N C.c)
 lo:C.w0.heap.size≤C.g
def psV (C:Pc) (s:Ps):List Value:=[.slice C.A C.N C.c,.int .i64 (s.k:Int),.int .i64 (s.bad:Int),.int .i64 (zUi C.L s:Int)]
structure Pa (C:Pc) (s:Ps) (w:World):Prop where
 cx:Pcx C
 keep:Below C.w0.heap.size C.w0 w
 box:Bx w C.g 55 (psV C s)
 hi:s.k≤C.L.length - 1
section
variable {C:Pc} {s:Ps} {w w':World} {r:Option Nat}
theorem Pa.lt (h:Pa C s w):C.g < w.heap.size:=h.box.lt
theorem Pa.grown (h:Pa C s w) (hg:w.grownBy w' r) (c:∀b,r=some b→C.g < b):Pa C s w':=
 ⟨h.cx,h.keep.grown hg h.keep.size (fun b hb=>by have:=c b hb;have:=h.cx.lo;omega),h.box.grown hg (fun e=>by have:=c _ e;omega),h.hi⟩
theorem Pa.new (h:Pa C s w) (hg:w.grownBy w' none):Pa C s w':=h.grown hg (fun b hb=>by cases hb)
theorem Pa.alloc (h:Pa C s w) (o:Obj):Pa C s (w.alloc o):=h.new (zF w o none)
theorem Pa.drew (h:Pa C s w):Pa C s w.drew:=h.new (zBL w none)
theorem Pa.c0 (h:Pa C s w):w.cell? ⟨C.g,0,none⟩=some (.slice C.A C.N C.c):=h.box.cell 0
theorem Pa.c1 (h:Pa C s w):w.cell? ⟨C.g,1,none⟩=some (.int .i64 (s.k:Int)):=h.box.cell 1
theorem Pa.c2 (h:Pa C s w):w.cell? ⟨C.g,2,none⟩=some (.int .i64 (s.bad:Int)):=h.box.cell 2
theorem Pa.c3 (h:Pa C s w):w.cell? ⟨C.g,3,none⟩=some (.int .i64 (zUi C.L s:Int)):=h.box.cell 3
theorem Pa.f (h:Pa C s w) (j:Nat):w.frozen? ⟨C.g,j,none⟩=false:=h.box.frozen j
theorem Pa.kN (h:Pa C s w):s.k < C.N:=by
 have:=h.hi;have:=h.cx.lst.pos;have:=h.cx.n;omega
theorem Pa.to (h:Pa C s w) {k':Nat} (c:z=(k':Int)) (hk:k'≤C.L.length - 1):Pa C {s with k:=k'} (w.setCell ⟨C.g,1,none⟩ (.int .i64 z)):=by
 subst c;exact⟨h.cx,h.keep.grown (zQ w C.g 1 _) h.keep.size (fun b hb=>by injection hb with hb;have:=h.cx.lo;omega),h.box.set 1 _,hk⟩
theorem Pa.at_ (h:Pa C s w) (i:Nat) (hi:i < C.N):∃c As Am c1 c2,C.A=some ⟨c,0,none⟩∧c < C.w0.heap.size∧TokAt w 0 c i (zI C.L i) As Am c1 c2:=by
 have g:=h.cx.n;obtain⟨c,h1,_,d,f⟩:=h.cx.tok.at_ jo;obtain⟨As,Am,c1,c2,t⟩:=f i jo;have e:C.L[i]' jo=zI C.L i:=by
  unfold zI;rw[yAG,yAB jo];rfl
 rw[e]at t;have b:∀(j:Nat) (v:Value),C.w0.cell? ⟨c,j,none⟩=some v→w.cell? ⟨c,j,none⟩=some v:=fun j v hv=>(h.keep.cell (p:=⟨c,j,none⟩) d).trans hv;exact⟨c,As,Am,c1,c2,h1,d,b _ _ t.k0,b _ _ t.k1,b _ _ t.k2,b _ _ t.k3,b _ _ t.k4,b _ _ t.k5,b _ _ t.k6,b _ _ t.k7,b _ _ t.k8,zDX t.str h.keep,zDX t.mag h.keep⟩
def zW5 (t:Tok) (As Am:Option Addr) (c1 c2:Nat):Value:=.agg #[.int .i64 (t.kind:Int),.string ⟨t.text.toArray⟩,.slice As t.str.length c1,.int .i64 t.nk,.int .i64 t.nn,.bool false,.slice Am t.mag.length c2,.int .i64 (t.pos:Int),.bool t.nl]
def zVw (t:Tok) (As Am:Option Addr) (c1 c2:Nat):List Value:=[.int .i64 (t.kind:Int),.string ⟨t.text.toArray⟩,.slice As t.str.length c1,.int .i64 t.nk,.int .i64 t.nn,.bool false,.slice Am t.mag.length c2,.int .i64 (t.pos:Int),.bool t.nl]
def zZf (C:Pc) (s:Ps) (t:Tok) (w:World) (e:Ending) (w':World):Prop:=
 ∃As Am c1 c2,e=.returned (.agg #[.int .i64 (t.kind:Int),.string ⟨t.text.toArray⟩,.slice As t.str.length c1,.int .i64 t.nk,.int .i64 t.nn,.bool false,.slice Am t.mag.length c2,.int .i64 (t.pos:Int),.bool t.nl])∧
  w'.ownsRow 0 65 1 (.slice As t.str.length c1) t.str.length (zAI t.str)∧w'.ownsRow 0 67 1 (.slice Am t.mag.length c2) t.mag.length (zBi t.mag)∧Pa C s w'∧w.grownBy w' none
def zNN (C:Pc) (s:Ps) (b:Bool) (w:World) (e:Ending) (w':World):Prop:=e=.returned (.bool b)∧Pa C s w'∧w.grownBy w' none
def zXY (C:Pc) (s:Ps) (b:Bool) (w:World) (e:Ending) (w':World):Prop:=e=.returned (.bool b)∧Pa C s w'∧w.grownBy w' (some C.g)
def zW6 (C:Pc) (s:Ps) (w:World) (e:Ending) (w':World):Prop:=e=.returned (.tuple #[])∧Pa C s w'∧w.grownBy w' (some C.g)
def zXZ (C:Pc) (r:List UInt8×Ps) (w:World) (e:Ending) (w':World):Prop:=e=.returned (.string ⟨r.1.toArray⟩)∧Pa C r.2 w'∧w.grownBy w' (some C.g)
def zDU (C:Pc) (r:Tr×Ps) (w:World) (e:Ending) (w':World):Prop:=
 ∃d0 d1 d2 d3 d4 d5 d6 d7 d8,e=.returned (.agg #[d0,d1,d2,d3,d4,d5,d6,d7,d8])∧TrC w' (w.heap.size≤·) r.1 [d0,d1,d2,d3,d4,d5,d6,d7,d8]∧Pa C r.2 w'∧w.grownBy w' (some C.g)
def LstQ (C:Pc) (r:Tr×Ps) (w:World) (e:Ending) (w':World):Prop:=
 ∃A n c,e=.returned (.slice A n c)∧r.1.subs.length=n∧n≤c∧c≤maxLen∧RowP w' (w.heap.size≤·) (.slice A n c) r.1.subs∧Pa C r.2 w'∧w.grownBy w' (some C.g)
theorem zAd (h:w.grownBy w' none) (r:Option Nat):w.grownBy w' r:=⟨h.os,h.tape,h.output,h.size,fun i hi _=>h.block i hi js⟩
theorem zCF {R:Nat} (h:a.grownBy w r) (c:a.heap.size≤R) (hg:w.grownBy w' (some R)):a.grownBy w' r:=
 ⟨hg.os.trans h.os,hg.tape.trans h.tape,hg.output.trans h.output,yAD h.size hg.size,fun i hi b=>(hg.block i (yAA hi h.size) (fun e=>by injection e with e;omega)).trans (h.block i hi b)⟩
theorem zJl (h:a.grownBy w r) (hv:∀b,v.ownBlock=some b→a.heap.size≤b) (hg:w.grownBy w' v.ownBlock):a.grownBy w' r:=
 ⟨hg.os.trans h.os,hg.tape.trans h.tape,hg.output.trans h.output,yAD h.size hg.size,fun i hi c=>(hg.block i (yAA hi h.size) (fun e=>by have:=hv i e.symm;omega)).trans (h.block i hi c)⟩
end
theorem Tryz.info_pnode:(prog.info? 58).map (fun i=>(i.zero,i.size,i.bytes))=some (some (.agg #[.int .i64 0,.string ⟨#[]⟩,.slice none 0 0,.int .i64 0,.int .i64 0,.bool false,.slice none 0 0,.slice none 0 0,.slice none 0 0]),9,144):=by kernel_rfl
theorem Bx.set9 {w:World} {R:Nat} {T:TypeId} {cs:List Value} {v0 v1 v2 v3 v4 v5 v6 v7 v8:Value} (h:Bx w R T cs) (c:cs.length=9):Bx (((((((((w.setCell ⟨R,0,none⟩ v0).setCell ⟨R,1,none⟩ v1).setCell ⟨R,2,none⟩ v2).setCell ⟨R,3,none⟩ v3).setCell ⟨R,4,none⟩ v4).setCell ⟨R,5,none⟩ v5).setCell ⟨R,6,none⟩ v6).setCell ⟨R,7,none⟩ v7).setCell ⟨R,8,none⟩ v8) R T [v0,v1,v2,v3,v4,v5,v6,v7,v8]:=by
 have b:=((((((((h.set 0 v0).set 1 v1).set 2 v2).set 3 v3).set 4 v4).set 5 v5).set 6 v6).set 7 v7).set 8 v8;have e:((((((((cs.set 0 v0).set 1 v1).set 2 v2).set 3 v3).set 4 v4).set 5 v5).set 6 v6).set 7 v7).set 8 v8=[v0,v1,v2,v3,v4,v5,v6,v7,v8]:=by
  match cs,c with
  | [_,_,_,_,_,_,_,_,_],_=>rfl
 rw[e]at b;exact b
theorem Bx.drew {w:World} {R:Nat} {T:TypeId} {cs:List Value} (h:Bx w R T cs):Bx w.drew R T cs:=h
theorem zL0 {P:Program} {f:Func} {Q:Ending→World→Prop} {a:Act} {F:World→Prop} (h:F W) (k:∀V,F V→bodyPost P f Q .ret a V):bodyPost P f Q .ret a W:=k W h
theorem Bx.nine {w:World} {R:Nat} {T:TypeId} {v0 v1 v2 v3 v4 v5 v6 v7 v8:Value} (h:Bx w R T [v0,v1,v2,v3,v4,v5,v6,v7,v8]):
 w.cell? ⟨R,0,none⟩=some v0∧w.cell? ⟨R,1,none⟩=some v1∧w.cell? ⟨R,2,none⟩=some v2∧w.cell? ⟨R,3,none⟩=some v3∧w.cell? ⟨R,4,none⟩=some v4∧w.cell? ⟨R,5,none⟩=some v5∧w.cell? ⟨R,6,none⟩=some v6∧w.cell? ⟨R,7,none⟩=some v7∧w.cell? ⟨R,8,none⟩=some v8:=
 ⟨h.cell 0,h.cell 1,h.cell 2,h.cell 3,h.cell 4,h.cell 5,h.cell 6,h.cell 7,h.cell 8⟩
theorem Bx.nineF {w:World} {R:Nat} {T:TypeId} {cs:List Value} (h:Bx w R T cs):
 w.frozen? ⟨R,0,none⟩=false∧w.frozen? ⟨R,1,none⟩=false∧w.frozen? ⟨R,2,none⟩=false∧w.frozen? ⟨R,3,none⟩=false∧w.frozen? ⟨R,4,none⟩=false∧w.frozen? ⟨R,5,none⟩=false∧w.frozen? ⟨R,6,none⟩=false∧w.frozen? ⟨R,7,none⟩=false∧w.frozen? ⟨R,8,none⟩=false:=
 ⟨h.frozen 0,h.frozen 1,h.frozen 2,h.frozen 3,h.frozen 4,h.frozen 5,h.frozen 6,h.frozen 7,h.frozen 8⟩
theorem zGv {C:Pc} {s:Ps} {w:World} (h:Pa C s w):
 Calls prog 33 #[.pointer (some ⟨C.g,0,none⟩)] w (zZf C s (zI C.L s.k) w):=by
 have o:=h.kN;obtain⟨W,j⟩:=jx (w.alloc (.cells zBQ.toArray 80));have d:w.grownBy W none:=by rw[←j];exact zF w _ none
 have c:Bx W w.heap.size 80 zBQ:=by rw[←j];exact Bx.new w zBQ 80
 have l:=zA (h.new d);have u:=zA h;obtain⟨gT,As,Am,c1,c2,y,a0,t⟩:=l.out.at_ s.k o;have q:=zA t;have x0:=l.out.c0;have x1:=l.out.c1;rw[y]at x0;obtain⟨m,p⟩:=jx (zI C.L s.k);rw[p]at t q⊢;obtain⟨D,E,G,H,I,J,M,O,P,_,_⟩:=t;obtain⟨k,hk⟩:∃k,s.k=k:=⟨_,rfl⟩;rw[hk]at x1 D E G H I J M O P o;have Q:C.N≤4097:=h.cx.n4;have z:=zA d;have f:=zA c;obtain⟨R,S,T,U,Y,z5,z6,z7,z8⟩:=c.nine;obtain⟨f0,f1,f2,f3,f4,f5,f6,f7,f8⟩:=c.nineF;obtain⟨X,r⟩:=jx w.heap.size;have A:=zA r;unfold zBQ at j;clear p y h d c;go_enter func33,ntmps33;go_upto_region 1 with(fail);clear j;rw[r]at R S T U Y z5 z6 z7 z8 f0 f1 f2 f3 f4 f5 f6 f7 f8 f;clear r;go_region
 all_goals go_wp2_with fail
 all_goals
  refine zL0 (F:=fun V=>Bx V X 80 (zVw m As Am c1 c2)∧W.grownBy V (some X)) ⟨(f.out.set9 rfl).drew,zC zBj (zBL _ _)⟩ ?_;rintro V ⟨hb,hg⟩;obtain⟨q0,q1,q2,q3,q4,q5,q6,q7,q8⟩:=hb.nine;refine bodyPost_ret (v:=zW5 m As Am c1 c2) (by simp[results,results33,go_sem,q0,q1,q2,q3,q4,q5,q6,q7,q8,zW5]) rfl ?_;have B:Fz W (fun _=>False) (some X):=.box f.out jd jd js;have a1:C.g < X:=by rw[←A.out];exact u.out.lt
  refine⟨As,Am,c1,c2,rfl,zCE q.out.str (.inl rfl) hg B,zCE q.out.mag (.inr rfl) hg B,l.out.grown hg (fun b e=>by injection e with e;omega),?_⟩;exact zCF z.out (by rw[←A.out];exact yAC _) hg
theorem zKj (n k:Nat):((n:Int)==(k:Int))=(n==k):=by
 rw[Bool.eq_iff_iff,beq_iff_eq,beq_iff_eq];omega
def zXa (C:Pc) (s:Ps) (kd:Nat) (tx:List UInt8) (st:List UInt16) (nk nn:Int) (mg:List Nat) (ps:Nat) (nl:Bool) (w:World) (e:Ending) (w':World):Prop:=
 ∃As Am c1 c2,e=.returned (.agg #[.int .i64 (kd:Int),.string ⟨tx.toArray⟩,.slice As st.length c1,.int .i64 nk,.int .i64 nn,.bool false,.slice Am mg.length c2,.int .i64 (ps:Int),.bool nl])∧
  w'.ownsRow 0 65 1 (.slice As st.length c1) st.length (zAI st)∧w'.ownsRow 0 67 1 (.slice Am mg.length c2) mg.length (zBi mg)∧Pa C s w'∧w.grownBy w' none
theorem zv {C:Pc} {s:Ps} {w:World} (h:Pa C s w) (d:zI C.L s.k=⟨kd,tx,b,nk,nn,c,ps,nl⟩):
 Calls prog 33 #[.pointer (some ⟨C.g,0,none⟩)] w (zXa C s kd tx b nk nn c ps nl w):=by
 have h1:=zGv h;rw[d]at h1;exact h1
theorem zXb (c0 c1 c2 c3 c4 c5 c6 c7 c8:Value) (w:World):(Instr.field 80 (.agg #[c0,c1,c2,c3,c4,c5,c6,c7,c8]) 0).run prog w=.ok c0 w:=by
 unfold Instr.field
 go_simp
 simp[asAgg]
theorem zZg (c0 c1 c2 c3 c4 c5 c6 c7 c8:Value) (w:World):(Instr.field 80 (.agg #[c0,c1,c2,c3,c4,c5,c6,c7,c8]) 1).run prog w=.ok c1 w:=by
 unfold Instr.field
 go_simp
 simp[asAgg]
theorem zZh (c0 c1 c2 c3 c4 c5 c6 c7 c8:Value) (w:World):(Instr.field 80 (.agg #[c0,c1,c2,c3,c4,c5,c6,c7,c8]) 5).run prog w=.ok c7 w:=by
 unfold Instr.field
 go_simp
 simp[asAgg]
theorem zNO (c0 c1 c2 c3 c4 c5 c6 c7 c8:Value) (w:World):(Instr.field 80 (.agg #[c0,c1,c2,c3,c4,c5,c6,c7,c8]) 6).run prog w=.ok c8 w:=by
 unfold Instr.field
 go_simp
 simp[asAgg]
theorem zUj {t:Tok} {c1 c2:Nat} (w:List UInt8) {b:Bool} (hb:isT t w=b):
 Calls prog 67 #[.agg #[.int .i64 (t.kind:Int),.string ⟨t.text.toArray⟩,.slice As t.str.length c1,.int .i64 t.nk,.int .i64 t.nn,.bool false,.slice Am t.mag.length c2,.int .i64 (t.pos:Int),.bool t.nl],.string ⟨w.toArray⟩] W fun e w'=>e=.returned (.bool b)∧W.grownBy w' none:=by
 go_enter func67,ntmps67;go_wp2_with fail
 all_goals go_ret
 all_goals refine⟨?_,zF _ _ _⟩
 all_goals refine zJ ?_
 all_goals rw[←hb]
 all_goals unfold isT
 · have c:t.kind=5:=by omega
   simp[*]
 · rename_i h1 d
   have e5:((t.kind:Int)==5)=(t.kind==5):=zKj t.kind 5;have e6:((t.kind:Int)==6)=(t.kind==6):=zKj t.kind 6;rw[h1,e5,e6];simp
 · simp[*]
theorem zDM {c:List UInt16} {c1 c2:Nat} (w:List UInt8) {b:Bool} (hb:isT ⟨kd,tx,c,nk,nn,d,ps,nl⟩ w=b):
 Calls prog 67 #[.agg #[.int .i64 (kd:Int),.string ⟨tx.toArray⟩,.slice As c.length c1,.int .i64 nk,.int .i64 nn,.bool false,.slice Am d.length c2,.int .i64 (ps:Int),.bool nl],.string ⟨w.toArray⟩] W fun e w'=>e=.returned (.bool b)∧W.grownBy w' none:=zUj (t:=⟨kd,tx,c,nk,nn,d,ps,nl⟩) w hb
theorem zBd {C:Pc} {s:Ps} {w:World} (h:Pa C s w) {b:Bool} (hb:(s.bad==0)=b):
 Calls prog 107 #[.pointer (some ⟨C.g,0,none⟩)] w (zNN C s b w):=by
 have d:=h.c2;have c:=zA h;clear h;go_enter func107,ntmps107;go_wp2_with fail;go_ret;refine⟨zJ ?_,c.out,World.grownBy.refl _ _⟩;rw[←hb];exact zKj s.bad 0
theorem zAl {C:Pc} {s:Ps} {w:World} (h:Pa C s w) (v:List UInt8) {b:Bool} (hb:onP C.L v s=b):
 Calls prog 109 #[.pointer (some ⟨C.g,0,none⟩),.string ⟨v.toArray⟩] w (zNN C s b w):=by
 have l:=zA h;have m:=zA hb;clear h hb;go_enter func109,ntmps109;go_wp2_with fail;refine(zGv l.out).mono ?_;rintro e1 w1 ⟨As,Am,c1,c2,rfl,_,_,c,d⟩;have j:=zA c;have k:=zA d;clear c d;go_wp2_with fail;refine(zUj v m.out).mono ?_;rintro e2 w2 ⟨rfl,e⟩;have f:=zA e;clear e;go_wp2_with fail;go_ret;exact⟨rfl,j.out.new f.out,zC k.out f.out⟩
theorem Pa.last {C:Pc} {s:Ps} {w:World} (h:Pa C s w):((C.N:Int) - 1)=((C.L.length - 1:Nat):Int):=by
 have:=h.cx.n;have:=h.cx.lst.pos;omega
theorem Pa.sets {C:Pc} {s s':Ps} {w w':World} (h:Pa C s w) (hg:w.grownBy w' (some C.g)) (hb:Bx w' C.g 55 (psV C s')) (hk:s'.k≤C.L.length - 1):Pa C s' w':=
 ⟨h.cx,h.keep.grown hg h.keep.size (fun b e=>by injection e with e;have:=h.cx.lo;omega),hb,hk⟩
theorem Pa.fail0 {C:Pc} {s:Ps} {w:World} {e:Nat} (h:Pa C s w) (hb:s.bad=0) (b:e≠0) (c:((C.N:Int) - 1)=((C.L.length - 1:Nat):Int)):Pa C (zCx C.L e s) (((w.setCell ⟨C.g,2,none⟩ (.int .i64 (e:Int))).setCell ⟨C.g,3,none⟩ (.int .i64 ((zI C.L s.k).pos:Int))).setCell ⟨C.g,1,none⟩ (.int .i64 ((C.N:Int) - 1))):=by
 refine h.sets (zC (zC (zQ _ _ _ _) (zQ _ _ _ _)) (zQ _ _ _ _)) ?_ (yAC _);have:=((h.box.set 2 (.int .i64 (e:Int))).set 3 (.int .i64 ((zI C.L s.k).pos:Int))).set 1 (.int .i64 ((C.N:Int) - 1));have e1:psV C (zCx C.L e s)=(((psV C s).set 2 (.int .i64 (e:Int))).set 3 (.int .i64 ((zI C.L s.k).pos:Int))).set 1 (.int .i64 ((C.N:Int) - 1)):=by
  unfold psV zCx zUi;simp[hb,b,c]
 rw[e1];exact this
theorem Pa.fail1 {C:Pc} {s:Ps} {w:World} {e:Nat} (h:Pa C s w) (hb:¬s.bad=0) (b:((C.N:Int) - 1)=((C.L.length - 1:Nat):Int)):Pa C (zCx C.L e s) (w.setCell ⟨C.g,1,none⟩ (.int .i64 ((C.N:Int) - 1))):=by
 refine h.sets (zQ _ _ _ _) ?_ (yAC _);have:=h.box.set 1 (.int .i64 ((C.N:Int) - 1));have e1:psV C (zCx C.L e s)=(psV C s).set 1 (.int .i64 ((C.N:Int) - 1)):=by
  unfold psV zCx zUi;simp[hb,b]
 rw[e1];exact this
theorem zCr {C:Pc} {s:Ps} {w:World} (h:Pa C s w) (e:Nat) (m:e≠0):
 Calls prog 135 #[.pointer (some ⟨C.g,0,none⟩),.int .i64 (e:Int)] w (zW6 C (zCx C.L e s) w):=by
 have o:=h.c2;have x0:=h.c0;have x1:=h.c1;have f1:=h.f 1;have p:C.N≤4097:=h.cx.n4;have d:=zA h.last;have j:=zA h
 by_cases hb:s.bad=0
 · have e1:((s.bad:Int)==0)=true:=by rw[hb];rfl
   clear x0 x1 f1 h;have q:=zA hb;clear hb;go_enter func135,ntmps135;go_wp2_with fail;refine(zGv j.out).mono ?_;rintro e1 w1 ⟨As,Am,c1,c2,rfl,_,_,b,c⟩;have k:=zA b;have l:=zA c;have r:=b.c0;have t:=b.c1;have u:=b.c2;have v:=b.c3;have g1:=b.f 1;have g2:=b.f 2;have y:=b.f 3;clear b c o;have z:=zZh;go_wp2_with fail
   go_end0
   exact⟨rfl,k.out.fail0 q.out m d.out,zC (zAd l.out _) (zC (zC (zQ _ _ _ _) (zQ _ _ _ _)) (zQ _ _ _ _))⟩
 · have e1:((s.bad:Int)==0)=false:=by rw[yA];omega
   go_enter func135,ntmps135;go_wp2_with fail
   go_end0
   exact⟨rfl,j.out.fail1 hb d.out,zQ _ _ _ _⟩
theorem Pa.stepI {C:Pc} {s:Ps} {w:World} (h:Pa C s w) (hk:s.k < C.L.length - 1) (b:z=(s.k:Int)+1):Pa C (zB s) (w.setCell ⟨C.g,1,none⟩ (.int .i64 z)):=
 h.to (k':=s.k+1) jo hk
theorem zAN {C:Pc} {s:Ps} {w:World} (h:Pa C s w):
 Calls prog 108 #[.pointer (some ⟨C.g,0,none⟩)] w (zW6 C (ze C.L s) w):=by
 have q:=zA h;clear h;go_enter func108,ntmps108;go_wp2_with fail;refine(zGv q.out).mono ?_;rintro e1 w1 ⟨As,Am,c1,c2,rfl,_,_,o,p⟩;have f:=zA o;have j:=zA p;clear o p
 by_cases hk:(zI C.L s.k).kind=6
 · have e6:(((zI C.L s.k).kind:Int)==6)=true:=by rw[hk];rfl
   by_cases l:zCN (zI C.L s.k).text=2
   · have e2:((zCN (zI C.L s.k).text:Int)==2)=true:=by rw[l];rfl
     have m:=zA (show ze C.L s=zCx C.L 6 s by unfold ze;rw[if_pos ⟨hk,l⟩]);clear hk l;go_wp2_with (go_at_call 97;refine(zDn _ _).mono ?_;rintro e3 w3 ⟨rfl,rfl⟩);refine(zCr (f.out.alloc _) 6 jd).mono ?_;rintro e2 w2 ⟨rfl,b,c⟩;have d:=zA b;have e:=zA c;clear b c;go_wp2_with fail;refine jr ?_;rw[m.out];exact⟨rfl,d.out,zC (zAd j.out _) (zC (zF _ _ _) e.out)⟩
   · have e2:((zCN (zI C.L s.k).text:Int)==2)=false:=by rw[yA];omega
     have m:=zA (show ze C.L s=zCx C.L 5 s by unfold ze;rw[if_neg (fun h=>l h.2)]);clear hk l;go_wp2_with (go_at_call 97;refine(zDn _ _).mono ?_;rintro e3 w3 ⟨rfl,rfl⟩);refine(zCr (f.out.alloc _) 5 jd).mono ?_;rintro e2 w2 ⟨rfl,b,c⟩;have d:=zA b;have e:=zA c;clear b c;go_wp2_with fail
     go_end0
     rw[m.out];exact⟨rfl,d.out,zC (zAd j.out _) (zC (zF _ _ _) e.out)⟩
 · have e6:(((zI C.L s.k).kind:Int)==6)=false:=by rw[yA];omega
   have m:=zA (show ze C.L s=zCx C.L 5 s by unfold ze;rw[if_neg (fun h=>hk h.1)]);clear hk;go_wp2_with fail;refine(zCr (f.out.alloc _) 5 jd).mono ?_;rintro e2 w2 ⟨rfl,b,c⟩;have d:=zA b;have e:=zA c;clear b c;go_wp2_with fail
   go_end0
   rw[m.out];exact⟨rfl,d.out,zC (zAd j.out _) (zC (zF _ _ _) e.out)⟩
def zYl (b:Bool) (s:Ps):Ps:=if b=true then zB s else s
theorem zA1 {C:Pc} {s:Ps} {w:World} (h:Pa C s w) (v:List UInt8) {b:Bool} (hb:onP C.L v s=b):
 Calls prog 70 #[.pointer (some ⟨C.g,0,none⟩),.string ⟨v.toArray⟩] w (zXY C (zYl b s) b w):=by
 have l:=zA h;have k:=zA hb;have m:C.N≤4097:=h.cx.n4;have o:=h.kN;clear h hb;go_enter func70,ntmps70;go_wp2_with fail;refine(zAl l.out v k.out).mono ?_;rintro e1 w1 ⟨rfl,c,e⟩;have d:=zA c;have j:=zA e;have x1:=c.c1;have f1:=c.f 1;clear c e;cases b with
 | false=>
  go_wp2_with fail;go_ret;exact⟨rfl,d.out,zAd j.out _⟩
 | true=>
  go_wp2_with fail;go_ret;exact⟨rfl,d.out.stepI (d.out.cx.lst.on d.out.hi k.out) jo,zC (zAd j.out _) (zQ _ _ _ _)⟩
theorem zAK {C:Pc} {s:Ps} {w:World} (h:Pa C s w) (v:List UInt8):
 Calls prog 104 #[.pointer (some ⟨C.g,0,none⟩),.string ⟨v.toArray⟩] w (zW6 C (zP C.L v s) w):=by
 have m:=zA h;clear h
 by_cases hb:onP C.L v s=true
 · have k:=zA (show zP C.L v s=zB s by unfold zP;rw[if_pos hb]);have l:=zA hb;clear hb;go_enter func104,ntmps104;go_wp2_with fail;refine(zA1 m.out v l.out).mono ?_;rintro e1 w1 ⟨rfl,b,c⟩;have d:=zA b;have e:=zA c;clear b c;go_wp2_with fail
   go_end0
   rw[k.out];exact⟨rfl,d.out,e.out⟩
 · have k:=zA (show zP C.L v s=ze C.L s by unfold zP;rw[if_neg hb]);have l:=zA (show onP C.L v s=false by simpa using hb);clear hb;go_enter func104,ntmps104;go_wp2_with fail;refine(zA1 m.out v l.out).mono ?_;rintro e1 w1 ⟨rfl,b,c⟩;have d:=zA (show Pa C s w1 from b);have e:=zA c;clear b c;go_wp2_with fail;refine(zAN d.out).mono ?_;rintro e2 w2 ⟨rfl,f,j⟩;have o:=zA f;have p:=zA j;clear f j;go_wp2_with fail
   go_end0
   rw[k.out];exact⟨rfl,o.out,zC e.out p.out⟩
theorem zD9 {C:Pc} {s:Ps} {w:World} (h:Pa C s w):
 Calls prog 71 #[.pointer (some ⟨C.g,0,none⟩)] w (zXZ C (zo C.L s) w):=by
 have y:=zA h;have z:C.N≤4097:=h.cx.n4;have B:=h.kN;clear h;go_enter func71,ntmps71;go_wp2_with fail;refine(zGv y.out).mono ?_;rintro e1 w1 ⟨As,Am,c1,c2,rfl,_,_,b,c⟩;have j:=zA (zAd c (some C.g))
 by_cases hk:(zI C.L s.k).kind=1
 · have e6:(((zI C.L s.k).kind:Int) !=1)=false:=by rw[hk];rfl
   have o:=zA (show zo C.L s=((zI C.L s.k).text,zB s) by unfold zo;rw[if_pos hk]);have A:=zA (b.cx.lst.lt b.hi jo);obtain⟨W,p⟩:=jx (w1.alloc (.cells #[.int .i64 ((zI C.L s.k).kind:Int),.string ⟨(zI C.L s.k).text.toArray⟩,.slice As (zI C.L s.k).str.length c1,.int .i64 (zI C.L s.k).nk,.int .i64 (zI C.L s.k).nn,.bool false,.slice Am (zI C.L s.k).mag.length c2,.int .i64 ((zI C.L s.k).pos:Int),.bool (zI C.L s.k).nl] 80));have d:w1.grownBy W none:=by rw[←p];exact zF _ _ _
   have q:=zA (show Bx W w1.heap.size 80 (zVw (zI C.L s.k) As Am c1 c2) by rw[←p];exact Bx.new w1 (zVw (zI C.L s.k) As Am c1 c2) 80);have e:=zA (b.new d);have r:=zA (zAd d (some C.g));have x1:=e.out.c1;have f1:=e.out.f 1;obtain⟨E,F,G,H,I,J,M,O,P⟩:=q.out.nine;have D:=b.lt;clear hk b c d;go_wp2_with fail;go_ret;rw[o.out];exact⟨rfl,e.out.stepI A.out jo,zC j.out (zC r.out (zQ _ _ _ _))⟩
 · have e6:(((zI C.L s.k).kind:Int) !=1)=true:=by rw[bne_iff_ne];omega
   have o:=zA (show zo C.L s=([],ze C.L s) by unfold zo;rw[if_neg hk]);have t:=zA b;clear hk b c;go_wp2_with fail;refine(zAN (t.out.alloc _)).mono ?_;rintro e2 w2 ⟨rfl,l,m⟩;have u:=zA l;have v:=zA m;clear l m;go_wp2_with fail;go_ret;rw[o.out];exact⟨rfl,u.out,zC j.out (zC (zF _ _ _) v.out)⟩
theorem zDr {L:List Tok} {s:Ps} {t:Tok} {v:List UInt8} (h:zI L s.k=t):onP L v s=isT t v:=by unfold onP;rw[h]
theorem zB7 {C:Pc} {s:Ps} {w:World} (h:Pa C s w):
 Calls prog 69 #[.pointer (some ⟨C.g,0,none⟩)] w (zW6 C (zEF C.L s) w):=by
 have HP:=zA h;obtain⟨⟨kd,tx,u,nk,nn,y,ps,nl⟩,c⟩:=jx (zI C.L s.k);have HT:=zA c;obtain⟨I,j⟩:=jx (onP C.L [59] s);obtain⟨J,l⟩:=jx (isT ⟨kd,tx,u,nk,nn,y,ps,nl⟩ [125]);have m:=zA (show zEF C.L s=if I=true then zB s else if(J || kd==0 || nl)=true then s else ze C.L s by unfold zEF;rw[j,zDr c,c,l]);have M:=zA j;have N:=zA l;clear h j l c;go_enter func69,ntmps69;go_upto_region 1 with(fail);refine(zv HP.out HT.out).mono ?_;rintro e1 w1 ⟨As,Am,c1,c2,rfl,O,P,o,A⟩;obtain⟨W,H⟩:=jx (w1.alloc (.cells #[.int .i64 (kd:Int),.string ⟨tx.toArray⟩,.slice As u.length c1,.int .i64 nk,.int .i64 nn,.bool false,.slice Am y.length c2,.int .i64 (ps:Int),.bool nl] 80));have p:w1.grownBy W none:=by rw[←H];exact zF _ _ _
 have q:=zA (show Bx W w1.heap.size 80 [.int .i64 (kd:Int),.string ⟨tx.toArray⟩,.slice As u.length c1,.int .i64 nk,.int .i64 nn,.bool false,.slice Am y.length c2,.int .i64 (ps:Int),.bool nl] by rw[←H];exact Bx.new w1 [.int .i64 (kd:Int),.string ⟨tx.toArray⟩,.slice As u.length c1,.int .i64 nk,.int .i64 nn,.bool false,.slice Am y.length c2,.int .i64 (ps:Int),.bool nl] 80);have Q:=zA (o.new p);have R:=zA (zC A p);obtain⟨X,z⟩:=jx w1.heap.size;have a3:C.g < X:=by rw[←z];exact o.lt
 rw[z]at q;clear O P o A p;go_upto_region 1 with(fail);clear H
 (try rw[z])
 clear z;go_wp2_with fail;refine(zA1 Q.out [59] M.out).mono ?_;rintro e2 w2 ⟨rfl,B,r⟩;have D:=zA B;have E:=zA (zC (zAd R.out (some C.g)) r);have t:=zA (q.out.grown r (by simp;omega));clear B r q;obtain⟨S,T,U,V,Y,z5,z6,z7,z8⟩:=t.out.nine;cases I with
 | true=>
  go_wp2_with fail;refine jr ?_;rw[m.out];exact⟨rfl,D.out,E.out⟩
 | false=>
  go_wp2_with fail;refine(zDM [125] N.out).mono ?_;rintro e3 w3 ⟨rfl,d⟩;have e:=zA (D.out.new d);have f:=zA (zC E.out (zAd d _));have a0:=zA (t.out.grown d js);clear d t S T U V Y z5 z6 z7 z8;obtain⟨S,T,U,V,Y,z5,z6,z7,z8⟩:=a0.out.nine;cases J with
  | true=>
   go_wp2_with fail;refine jr ?_;rw[m.out];exact⟨rfl,e.out,f.out⟩
  | false=>
   by_cases hk:kd=0
   · subst hk;go_wp2_with fail;refine jr ?_;rw[m.out];exact⟨rfl,e.out,f.out⟩
   · have e0:((kd:Int)==0)=false:=by rw[yA];omega
     have E0:=zA (show(kd==0)=false by rw[yA];omega);clear hk;cases nl with
     | true=>
      go_wp2_with fail;refine jr ?_;rw[m.out,E0.out];exact⟨rfl,e.out,f.out⟩
     | false=>
      go_wp2_with fail;refine(zAN e.out).mono ?_;rintro e4 w4 ⟨rfl,F,G⟩;have a1:=zA F;have a2:=zA (zC f.out G);clear F G;go_wp2_with fail
      go_end0
      rw[m.out,E0.out];exact⟨rfl,a1.out,a2.out⟩
theorem zJm {C:Pc} {s:Ps} {w:World} (h:Pa C s w) {b:Bool} (hb:zDe C.L s=b):
 Calls prog 139 #[.pointer (some ⟨C.g,0,none⟩)] w (zNN C s b w):=by
 have HP:=zA h;obtain⟨⟨kd,tx,f,nk,nn,j,ps,nl⟩,c⟩:=jx (zI C.L s.k);have HT:=zA c;obtain⟨D,l⟩:=jx (isT ⟨kd,tx,f,nk,nn,j,ps,nl⟩ [59]);obtain⟨b1,m⟩:=jx (isT ⟨kd,tx,f,nk,nn,j,ps,nl⟩ [125]);have u:=zA (show b=(nl || kd==0 || D || b1) by rw[←hb];unfold zDe;rw[zDr c,zDr c,c,l,m]);have E:=zA l;have F:=zA m;clear h l m c hb;go_enter func139,ntmps139;go_upto_region 2 with(fail);refine(zv HP.out HT.out).mono ?_;rintro e1 w1 ⟨As,Am,c1,c2,rfl,G,H,o,y⟩;obtain⟨W,B⟩:=jx (w1.alloc (.cells #[.int .i64 (kd:Int),.string ⟨tx.toArray⟩,.slice As f.length c1,.int .i64 nk,.int .i64 nn,.bool false,.slice Am j.length c2,.int .i64 (ps:Int),.bool nl] 80));have p:w1.grownBy W none:=by rw[←B];exact zF _ _ _
 have d:=zA (show Bx W w1.heap.size 80 [.int .i64 (kd:Int),.string ⟨tx.toArray⟩,.slice As f.length c1,.int .i64 nk,.int .i64 nn,.bool false,.slice Am j.length c2,.int .i64 (ps:Int),.bool nl] by rw[←B];exact Bx.new w1 [.int .i64 (kd:Int),.string ⟨tx.toArray⟩,.slice As f.length c1,.int .i64 nk,.int .i64 nn,.bool false,.slice Am j.length c2,.int .i64 (ps:Int),.bool nl] 80);have q:=zA (o.new p);have r:=zA (zC y p);obtain⟨X,v⟩:=jx w1.heap.size;have a0:C.g < X:=by rw[←v];exact o.lt
 rw[v]at d;clear G H o y p;go_upto_region 2 with(fail);clear B
 (try rw[v])
 clear v;obtain⟨I,J,M,N,O,P,Q,R,S⟩:=d.out.nine;cases nl with
 | true=>
  go_wp2_with fail;go_ret;exact⟨zJ (by rw[u.out];rfl),q.out,r.out⟩
 | false=>
  by_cases hk:kd=0
  · subst hk;go_wp2_with fail;go_ret;exact⟨zJ (by rw[u.out];rfl),q.out,r.out⟩
  · have e0:((kd:Int)==0)=false:=by rw[yA];omega
    have T:=zA (show(kd==0)=false by rw[yA];omega);clear hk;go_wp2_with fail;refine(zDM [59] E.out).mono ?_;rintro e3 w3 ⟨rfl,e⟩;have z:=zA (q.out.new e);have A:=zA (zC r.out e);have U:=zA (d.out.grown e js);clear e d I J M N O P Q R S;obtain⟨I,J,M,N,O,P,Q,R,S⟩:=U.out.nine;cases D with
    | true=>
     go_wp2_with fail;go_ret;exact⟨zJ (by rw[u.out,T.out];rfl),z.out,A.out⟩
    | false=>
     go_wp2_with fail;refine(zDM [125] F.out).mono ?_;rintro e4 w4 ⟨rfl,t⟩;have V:=zA (z.out.new t);have Y:=zA (zC A.out t);clear t;go_wp2_with fail;go_ret;exact⟨zJ (by rw[u.out,T.out];rfl),V.out,Y.out⟩
theorem zAv {w:World} (k:Int) (A:Option Addr) (n c:Nat):
 Calls prog 32 #[.int .i64 k,.slice A n c] w fun e w'=>e=.returned (.agg #[.int .i64 k,.string ⟨#[]⟩,.slice none 0 0,.int .i64 0,.int .i64 0,.bool false,.slice none 0 0,.slice none 0 0,.slice A n c])∧w.grownBy w' none:=by
 go_enter func32,ntmps32;obtain⟨q0,q1,q2,q3,q4,q5,q6,q7,q8⟩:=(Bx.new w [.int .i64 k,.string ⟨#[]⟩,.slice none 0 0,.int .i64 0,.int .i64 0,.bool false,.slice none 0 0,.slice none 0 0,.slice A n c] 58).nine;go_wp2_with fail;refine bodyPost_ret (v:=.agg #[.int .i64 k,.string ⟨#[]⟩,.slice none 0 0,.int .i64 0,.int .i64 0,.bool false,.slice none 0 0,.slice none 0 0,.slice A n c]) (by simp[results,results32,go_sem,q0,q1,q2,q3,q4,q5,q6,q7,q8]) rfl ?_;exact⟨rfl,zF _ _ _⟩
theorem zC8 {w:World} (k:Int) (b:ByteArray) (A:Option Addr) (n c:Nat):
 Calls prog 105 #[.int .i64 k,.string b,.slice A n c] w fun e w'=>e=.returned (.agg #[.int .i64 k,.string b,.slice none 0 0,.int .i64 0,.int .i64 0,.bool false,.slice none 0 0,.slice none 0 0,.slice A n c])∧w.grownBy w' none:=by
 go_enter func105,ntmps105;obtain⟨q0,q1,q2,q3,q4,q5,q6,q7,q8⟩:=(Bx.new w [.int .i64 k,.string b,.slice none 0 0,.int .i64 0,.int .i64 0,.bool false,.slice none 0 0,.slice none 0 0,.slice A n c] 58).nine;go_wp2_with fail;refine bodyPost_ret (v:=.agg #[.int .i64 k,.string b,.slice none 0 0,.int .i64 0,.int .i64 0,.bool false,.slice none 0 0,.slice none 0 0,.slice A n c]) (by simp[results,results105,go_sem,q0,q1,q2,q3,q4,q5,q6,q7,q8]) rfl ?_;exact⟨rfl,zF _ _ _⟩
theorem zBA {C:Pc} {s:Ps} {w:World} (h:Pa C s w) (j:Nat) (c:Int) (y:c=(j:Int)) (z:j≤10000) {m:List UInt16} {o:List Nat} (r:zI C.L (min (s.k+j) (C.N - 1))=⟨kd,tx,m,nk,nn,o,ps,nl⟩):
 Calls prog 112 #[.pointer (some ⟨C.g,0,none⟩),.int .i64 c] w (zXa C s kd tx m nk nn o ps nl w):=by
 have A:=h.kN;have O:C.N≤4097:=h.cx.n4;obtain⟨i,hi⟩:=jx (min (s.k+j) (C.N - 1));rw[hi]at r;have B:i < C.N:=by omega
 obtain⟨W,p⟩:=jx (w.alloc (.cells zBQ.toArray 80));have f:w.grownBy W none:=by rw[←p];exact zF w _ none
 have d:Bx W w.heap.size 80 zBQ:=by rw[←p];exact Bx.new w zBQ 80
 have D:=zA h;have q:=zA (h.new f);obtain⟨gT,As,Am,c1,c2,E,a0,t⟩:=q.out.at_ i B;have x0:=q.out.c0;have x1:=q.out.c1;rw[E]at x0;rw[r]at t;have G:=zA t;obtain⟨y0,y1,y2,y3,y4,y5,y6,y7,y8,_,_⟩:=t;obtain⟨k,hk⟩:∃k,s.k=k:=⟨_,rfl⟩;rw[hk]at x1 A hi;have M:min ((k:Int)+c) ((C.N:Int) - 1)=(i:Int):=by omega
 have P:(if(C.N:Int) - 1 < (k:Int)+c then(C.N:Int) - 1 else(k:Int)+c)=(i:Int):=by subst y;split<;>omega
 have a1:0≤c:=by omega
 have a2:c≤10000:=by omega
 have H:=zA f;have l:=zA d;obtain⟨Q,R,S,T,U,Y,z6,z7,z8⟩:=d.nine;obtain⟨f0,f1,f2,f3,f4,f5,f6,f7,f8⟩:=d.nineF;obtain⟨X,u⟩:=jx w.heap.size;have I:=zA u;unfold zBQ at p;clear E h f d r hi y hk z;go_enter func112,ntmps112;go_upto_region 1 with(fail);clear p;rw[u]at Q R S T U Y z6 z7 z8 f0 f1 f2 f3 f4 f5 f6 f7 f8 l;clear u;go_region
 all_goals go_wp2_with fail
 all_goals
  refine zL0 (F:=fun V=>Bx V X 80 [.int .i64 (kd:Int),.string ⟨tx.toArray⟩,.slice As m.length c1,.int .i64 nk,.int .i64 nn,.bool false,.slice Am o.length c2,.int .i64 (ps:Int),.bool nl]∧W.grownBy V (some X)) ⟨(l.out.set9 rfl).drew,zC zBj (zBL _ _)⟩ ?_;rintro V ⟨hb,hg⟩;obtain⟨q0,q1,q2,q3,q4,q5,q6,q7,q8⟩:=hb.nine;refine bodyPost_ret (v:=.agg #[.int .i64 (kd:Int),.string ⟨tx.toArray⟩,.slice As m.length c1,.int .i64 nk,.int .i64 nn,.bool false,.slice Am o.length c2,.int .i64 (ps:Int),.bool nl]) (by simp[results,results112,go_sem,q0,q1,q2,q3,q4,q5,q6,q7,q8]) rfl ?_;have J:Fz W (fun _=>False) (some X):=.box l.out jd jd js;have a3:C.g < X:=by rw[←I.out];exact D.out.lt
  refine⟨As,Am,c1,c2,rfl,zCE G.out.str (.inl rfl) hg J,zCE G.out.mag (.inr rfl) hg J,q.out.grown hg (fun b e=>by injection e with e;omega),?_⟩;exact zCF H.out (by rw[←I.out];exact yAC _) hg
def zJn (n:Nat):Int:=if n=9 then -1 else(n:Int)
theorem zVx {c1 c2:Nat}:Calls prog 168 #[.agg #[.int .i64 5,.string ⟨#[124]⟩,.slice As b.length c1,.int .i64 nk,.int .i64 nn,.bool false,.slice Am c.length c2,.int .i64 (ps:Int),.bool nl]] W fun e w'=>e=.returned (.int .i64 0)∧W.grownBy w' none:=by
 go_enter func168,ntmps168;go_wp2_with fail;go_ret;exact⟨rfl,zF _ _ _⟩
theorem zVy {c1 c2:Nat}:Calls prog 168 #[.agg #[.int .i64 5,.string ⟨#[94]⟩,.slice As b.length c1,.int .i64 nk,.int .i64 nn,.bool false,.slice Am c.length c2,.int .i64 (ps:Int),.bool nl]] W fun e w'=>e=.returned (.int .i64 1)∧W.grownBy w' none:=by
 go_enter func168,ntmps168;go_wp2_with fail;go_ret;exact⟨rfl,zF _ _ _⟩
theorem zVz {c1 c2:Nat}:Calls prog 168 #[.agg #[.int .i64 5,.string ⟨#[38]⟩,.slice As b.length c1,.int .i64 nk,.int .i64 nn,.bool false,.slice Am c.length c2,.int .i64 (ps:Int),.bool nl]] W fun e w'=>e=.returned (.int .i64 2)∧W.grownBy w' none:=by
 go_enter func168,ntmps168;go_wp2_with fail;go_ret;exact⟨rfl,zF _ _ _⟩
theorem zV0 {c1 c2:Nat}:Calls prog 168 #[.agg #[.int .i64 5,.string ⟨#[61,61]⟩,.slice As b.length c1,.int .i64 nk,.int .i64 nn,.bool false,.slice Am c.length c2,.int .i64 (ps:Int),.bool nl]] W fun e w'=>e=.returned (.int .i64 3)∧W.grownBy w' none:=by
 go_enter func168,ntmps168;go_wp2_with fail;go_ret;exact⟨rfl,zF _ _ _⟩
theorem zV1 {c1 c2:Nat}:Calls prog 168 #[.agg #[.int .i64 5,.string ⟨#[33,61]⟩,.slice As b.length c1,.int .i64 nk,.int .i64 nn,.bool false,.slice Am c.length c2,.int .i64 (ps:Int),.bool nl]] W fun e w'=>e=.returned (.int .i64 3)∧W.grownBy w' none:=by
 go_enter func168,ntmps168;go_wp2_with fail;go_ret;exact⟨rfl,zF _ _ _⟩
theorem zV2 {c1 c2:Nat}:Calls prog 168 #[.agg #[.int .i64 5,.string ⟨#[61,61,61]⟩,.slice As b.length c1,.int .i64 nk,.int .i64 nn,.bool false,.slice Am c.length c2,.int .i64 (ps:Int),.bool nl]] W fun e w'=>e=.returned (.int .i64 3)∧W.grownBy w' none:=by
 go_enter func168,ntmps168;go_wp2_with fail;go_ret;exact⟨rfl,zF _ _ _⟩
theorem zV3 {c1 c2:Nat}:Calls prog 168 #[.agg #[.int .i64 5,.string ⟨#[33,61,61]⟩,.slice As b.length c1,.int .i64 nk,.int .i64 nn,.bool false,.slice Am c.length c2,.int .i64 (ps:Int),.bool nl]] W fun e w'=>e=.returned (.int .i64 3)∧W.grownBy w' none:=by
 go_enter func168,ntmps168;go_wp2_with fail;go_ret;exact⟨rfl,zF _ _ _⟩
theorem zV4 {c1 c2:Nat}:Calls prog 168 #[.agg #[.int .i64 5,.string ⟨#[60]⟩,.slice As b.length c1,.int .i64 nk,.int .i64 nn,.bool false,.slice Am c.length c2,.int .i64 (ps:Int),.bool nl]] W fun e w'=>e=.returned (.int .i64 4)∧W.grownBy w' none:=by
 go_enter func168,ntmps168;go_wp2_with fail;go_ret;exact⟨rfl,zF _ _ _⟩
theorem zV5 {c1 c2:Nat}:Calls prog 168 #[.agg #[.int .i64 5,.string ⟨#[62]⟩,.slice As b.length c1,.int .i64 nk,.int .i64 nn,.bool false,.slice Am c.length c2,.int .i64 (ps:Int),.bool nl]] W fun e w'=>e=.returned (.int .i64 4)∧W.grownBy w' none:=by
 go_enter func168,ntmps168;go_wp2_with fail;go_ret;exact⟨rfl,zF _ _ _⟩
theorem zV6 {c1 c2:Nat}:Calls prog 168 #[.agg #[.int .i64 5,.string ⟨#[60,61]⟩,.slice As b.length c1,.int .i64 nk,.int .i64 nn,.bool false,.slice Am c.length c2,.int .i64 (ps:Int),.bool nl]] W fun e w'=>e=.returned (.int .i64 4)∧W.grownBy w' none:=by
 go_enter func168,ntmps168;go_wp2_with fail;go_ret;exact⟨rfl,zF _ _ _⟩
theorem zTS {c1 c2:Nat}:Calls prog 168 #[.agg #[.int .i64 5,.string ⟨#[62,61]⟩,.slice As b.length c1,.int .i64 nk,.int .i64 nn,.bool false,.slice Am c.length c2,.int .i64 (ps:Int),.bool nl]] W fun e w'=>e=.returned (.int .i64 4)∧W.grownBy w' none:=by
 go_enter func168,ntmps168;go_wp2_with fail;go_ret;exact⟨rfl,zF _ _ _⟩
theorem zTT {c1 c2:Nat}:Calls prog 168 #[.agg #[.int .i64 5,.string ⟨#[105,110]⟩,.slice As b.length c1,.int .i64 nk,.int .i64 nn,.bool false,.slice Am c.length c2,.int .i64 (ps:Int),.bool nl]] W fun e w'=>e=.returned (.int .i64 4)∧W.grownBy w' none:=by
 go_enter func168,ntmps168;go_wp2_with fail;go_ret;exact⟨rfl,zF _ _ _⟩
theorem zTU {c1 c2:Nat}:Calls prog 168 #[.agg #[.int .i64 5,.string ⟨#[60,60]⟩,.slice As b.length c1,.int .i64 nk,.int .i64 nn,.bool false,.slice Am c.length c2,.int .i64 (ps:Int),.bool nl]] W fun e w'=>e=.returned (.int .i64 5)∧W.grownBy w' none:=by
 go_enter func168,ntmps168;go_wp2_with fail;go_ret;exact⟨rfl,zF _ _ _⟩
theorem zTV {c1 c2:Nat}:Calls prog 168 #[.agg #[.int .i64 5,.string ⟨#[62,62]⟩,.slice As b.length c1,.int .i64 nk,.int .i64 nn,.bool false,.slice Am c.length c2,.int .i64 (ps:Int),.bool nl]] W fun e w'=>e=.returned (.int .i64 5)∧W.grownBy w' none:=by
 go_enter func168,ntmps168;go_wp2_with fail;go_ret;exact⟨rfl,zF _ _ _⟩
theorem zTW {c1 c2:Nat}:Calls prog 168 #[.agg #[.int .i64 5,.string ⟨#[62,62,62]⟩,.slice As b.length c1,.int .i64 nk,.int .i64 nn,.bool false,.slice Am c.length c2,.int .i64 (ps:Int),.bool nl]] W fun e w'=>e=.returned (.int .i64 5)∧W.grownBy w' none:=by
 go_enter func168,ntmps168;go_wp2_with fail;go_ret;exact⟨rfl,zF _ _ _⟩
theorem zTX {c1 c2:Nat}:Calls prog 168 #[.agg #[.int .i64 5,.string ⟨#[43]⟩,.slice As b.length c1,.int .i64 nk,.int .i64 nn,.bool false,.slice Am c.length c2,.int .i64 (ps:Int),.bool nl]] W fun e w'=>e=.returned (.int .i64 6)∧W.grownBy w' none:=by
 go_enter func168,ntmps168;go_wp2_with fail;go_ret;exact⟨rfl,zF _ _ _⟩
theorem zTY {c1 c2:Nat}:Calls prog 168 #[.agg #[.int .i64 5,.string ⟨#[45]⟩,.slice As b.length c1,.int .i64 nk,.int .i64 nn,.bool false,.slice Am c.length c2,.int .i64 (ps:Int),.bool nl]] W fun e w'=>e=.returned (.int .i64 6)∧W.grownBy w' none:=by
 go_enter func168,ntmps168;go_wp2_with fail;go_ret;exact⟨rfl,zF _ _ _⟩
theorem zTZ {c1 c2:Nat}:Calls prog 168 #[.agg #[.int .i64 5,.string ⟨#[42]⟩,.slice As b.length c1,.int .i64 nk,.int .i64 nn,.bool false,.slice Am c.length c2,.int .i64 (ps:Int),.bool nl]] W fun e w'=>e=.returned (.int .i64 7)∧W.grownBy w' none:=by
 go_enter func168,ntmps168;go_wp2_with fail;go_ret;exact⟨rfl,zF _ _ _⟩
theorem zTb {c1 c2:Nat}:Calls prog 168 #[.agg #[.int .i64 5,.string ⟨#[47]⟩,.slice As b.length c1,.int .i64 nk,.int .i64 nn,.bool false,.slice Am c.length c2,.int .i64 (ps:Int),.bool nl]] W fun e w'=>e=.returned (.int .i64 7)∧W.grownBy w' none:=by
 go_enter func168,ntmps168;go_wp2_with fail;go_ret;exact⟨rfl,zF _ _ _⟩
theorem zTc {c1 c2:Nat}:Calls prog 168 #[.agg #[.int .i64 5,.string ⟨#[37]⟩,.slice As b.length c1,.int .i64 nk,.int .i64 nn,.bool false,.slice Am c.length c2,.int .i64 (ps:Int),.bool nl]] W fun e w'=>e=.returned (.int .i64 7)∧W.grownBy w' none:=by
 go_enter func168,ntmps168;go_wp2_with fail;go_ret;exact⟨rfl,zF _ _ _⟩
theorem zNP {c1 c2:Nat} (r:(tx==[124])=false) (s:(tx==[94])=false) (t:(tx==[38])=false) (u:(tx==[61,61])=false) (n4:(tx==[33,61])=false) (v:(tx==[61,61,61])=false) (y:(tx==[33,61,61])=false) (z:(tx==[60])=false) (A:(tx==[62])=false) (B:(tx==[60,61])=false) (d:(tx==[62,61])=false) (f:(tx==[105,110])=false) (g:(tx==[60,60])=false) (j:(tx==[62,62])=false) (k:(tx==[62,62,62])=false) (l:(tx==[43])=false) (m:(tx==[45])=false) (o:(tx==[42])=false) (p:(tx==[47])=false) (q:(tx==[37])=false):Calls prog 168 #[.agg #[.int .i64 5,.string ⟨tx.toArray⟩,.slice As b.length c1,.int .i64 nk,.int .i64 nn,.bool false,.slice Am c.length c2,.int .i64 (ps:Int),.bool nl]] W fun e w'=>e=.returned (.int .i64 (-1))∧W.grownBy w' none:=by
 go_enter func168,ntmps168;go_wp2_with fail;go_ret;exact⟨rfl,zF _ _ _⟩
theorem zQY {c:List UInt16} {c1 c2:Nat} (hk:kd≠5) (hi:isT ⟨kd,tx,c,nk,nn,d,ps,nl⟩ [105,110]=false):Calls prog 168 #[.agg #[.int .i64 (kd:Int),.string ⟨tx.toArray⟩,.slice As c.length c1,.int .i64 nk,.int .i64 nn,.bool false,.slice Am d.length c2,.int .i64 (ps:Int),.bool nl]] W fun e w'=>e=.returned (.int .i64 (-1))∧W.grownBy w' none:=by
 have e5:((kd:Int) !=5)=true:=by rw[bne_iff_ne];omega
 have g:=zA hi;clear hk hi;go_enter func168,ntmps168;go_wp2_with fail;refine(zDM [105,110] g.out).mono ?_;rintro e3 w3 ⟨rfl,b⟩;have f:=zA b;clear b;go_wp2_with fail;go_ret;exact⟨rfl,zC (zF _ _ _) f.out⟩
theorem zTd {c:List UInt16} {c1 c2:Nat}:Calls prog 168 #[.agg #[.int .i64 6,.string ⟨#[105,110]⟩,.slice As c.length c1,.int .i64 nk,.int .i64 nn,.bool false,.slice Am d.length c2,.int .i64 (ps:Int),.bool nl]] W fun e w'=>e=.returned (.int .i64 4)∧W.grownBy w' none:=by
 obtain⟨V,f⟩:=jx (W.alloc (.cells #[.int .i64 6,.string ⟨#[105,110]⟩,.slice As c.length c1,.int .i64 nk,.int .i64 nn,.bool false,.slice Am d.length c2,.int .i64 (ps:Int),.bool nl] 80));have hg:=zA (show W.grownBy V none by rw[←f];exact zF _ _ _);have g:=zA (show Bx V W.heap.size 80 [.int .i64 6,.string ⟨#[105,110]⟩,.slice As c.length c1,.int .i64 nk,.int .i64 nn,.bool false,.slice Am d.length c2,.int .i64 (ps:Int),.bool nl] by rw[←f];exact Bx.new W [.int .i64 6,.string ⟨#[105,110]⟩,.slice As c.length c1,.int .i64 nk,.int .i64 nn,.bool false,.slice Am d.length c2,.int .i64 (ps:Int),.bool nl] 80);obtain⟨k,l,m,o,p,q,r,s,t⟩:=g.out.nine;go_enter func168,ntmps168;go_wp2_with fail;refine(zDM (kd:=6) (tx:=[105,110]) [105,110] rfl).mono ?_;rintro e3 w3 ⟨rfl,b⟩;have j:=zA b;obtain⟨u,v,y,z,A,B,C,D,E⟩:=(g.out.grown b js).nine;clear b;go_wp2_with fail;go_ret;exact⟨rfl,zC hg.out j.out⟩
theorem zL1 {c1 c2:Nat}:Calls prog 168 #[.agg #[.int .i64 (kd:Int),.string ⟨tx.toArray⟩,.slice As b.length c1,.int .i64 nk,.int .i64 nn,.bool false,.slice Am c.length c2,.int .i64 (ps:Int),.bool nl]] W fun e w'=>e=.returned (.int .i64 (zJn (zBK ⟨kd,tx,b,nk,nn,c,ps,nl⟩)))∧W.grownBy w' none:=by
 by_cases hk:kd=5
 · subst hk;have e:zBK ⟨5,tx,b,nk,nn,c,ps,nl⟩=zEn tx:=by unfold zBK;rw[if_pos (.inl rfl)]
   rw[e]
   by_cases r:tx=[124]
   · subst r;exact zVx
   by_cases s:tx=[94]
   · subst s;exact zVy
   by_cases t:tx=[38]
   · subst t;exact zVz
   by_cases u:tx=[61,61]
   · subst u;exact zV0
   by_cases n4:tx=[33,61]
   · subst n4;exact zV1
   by_cases v:tx=[61,61,61]
   · subst v;exact zV2
   by_cases y:tx=[33,61,61]
   · subst y;exact zV3
   by_cases z:tx=[60]
   · subst z;exact zV4
   by_cases A:tx=[62]
   · subst A;exact zV5
   by_cases B:tx=[60,61]
   · subst B;exact zV6
   by_cases d:tx=[62,61]
   · subst d;exact zTS
   by_cases f:tx=[105,110]
   · subst f;exact zTT
   by_cases g:tx=[60,60]
   · subst g;exact zTU
   by_cases j:tx=[62,62]
   · subst j;exact zTV
   by_cases k:tx=[62,62,62]
   · subst k;exact zTW
   by_cases l:tx=[43]
   · subst l;exact zTX
   by_cases m:tx=[45]
   · subst m;exact zTY
   by_cases o:tx=[42]
   · subst o;exact zTZ
   by_cases p:tx=[47]
   · subst p;exact zTb
   by_cases q:tx=[37]
   · subst q;exact zTc
   have e2:zEn tx=9:=by unfold zEn;simp[r,s,t,u,n4,v,y,z,A,B,d,f,g,j,k,l,m,o,p,q]
   rw[e2];exact zNP (yA.2 r) (yA.2 s) (yA.2 t) (yA.2 u) (yA.2 n4) (yA.2 v) (yA.2 y) (yA.2 z) (yA.2 A) (yA.2 B) (yA.2 d) (yA.2 f) (yA.2 g) (yA.2 j) (yA.2 k) (yA.2 l) (yA.2 m) (yA.2 o) (yA.2 p) (yA.2 q)
 · by_cases hi:isT ⟨kd,tx,b,nk,nn,c,ps,nl⟩ [105,110]=true
   · have h6:kd=6∧tx=[105,110]:=by
      unfold isT at hi;simp at hi;exact⟨by omega,hi.1⟩
     obtain⟨rfl,rfl⟩:=h6;exact zTd
   · have C:isT ⟨kd,tx,b,nk,nn,c,ps,nl⟩ [105,110]=false:=by simpa using hi
     have e:zBK ⟨kd,tx,b,nk,nn,c,ps,nl⟩=9:=by
      unfold zBK;rw[if_neg];rintro(h | h)
      · exact hk h
      · exact hi h
     rw[e];exact zQY hk C
def NodR (C:Pc) (Q:Nat→Prop) (r:Tr×Ps) (w:World) (e:Ending) (w':World):Prop:=
 ∃d0 d1 d2 d3 d4 d5 d6 d7 d8,e=.returned (.agg #[d0,d1,d2,d3,d4,d5,d6,d7,d8])∧TrC w' (fun b=>Q b∨w.heap.size≤b) r.1 [d0,d1,d2,d3,d4,d5,d6,d7,d8]∧Pa C r.2 w'∧w.grownBy w' (some C.g)
def zUk (C:Pc) (a:World) (r:Tr×Ps) (e:Ending) (w':World):Prop:=
 ∃d0 d1 d2 d3 d4 d5 d6 d7 d8,e=.returned (.agg #[d0,d1,d2,d3,d4,d5,d6,d7,d8])∧TrC w' (a.heap.size≤·) r.1 [d0,d1,d2,d3,d4,d5,d6,d7,d8]∧Pa C r.2 w'∧a.grownBy w' (some C.g)
def zp (C:Pc) (s:Ps) (w:World):Ph→Prop
 | .program []=>Calls prog 16 #[.pointer (some ⟨C.g,0,none⟩)] w (zDU C (zE C.L (.program []) s) w)
 | .block=>Calls prog 111 #[.pointer (some ⟨C.g,0,none⟩)] w (zDU C (zE C.L .block s) w)
 | .item=>Calls prog 34 #[.pointer (some ⟨C.g,0,none⟩)] w (zDU C (zE C.L .item s) w)
 | .declares=>Calls prog 68 #[.pointer (some ⟨C.g,0,none⟩)] w (zDU C (zE C.L .declares s) w)
 | .func k n=>Calls prog 72 #[.pointer (some ⟨C.g,0,none⟩),.int .i64 k,.string ⟨n.toArray⟩] w (zDU C (zE C.L (.func k n) s) w)
 | .params=>Calls prog 110 #[.pointer (some ⟨C.g,0,none⟩)] w (LstQ C (zE C.L .params s) w)
 | .statement=>Calls prog 73 #[.pointer (some ⟨C.g,0,none⟩)] w (zDU C (zE C.L .statement s) w)
 | .simple=>Calls prog 114 #[.pointer (some ⟨C.g,0,none⟩)] w (zDU C (zE C.L .simple s) w)
 | .word v=>Calls prog 113 #[.pointer (some ⟨C.g,0,none⟩),.string ⟨v.toArray⟩] w (zDU C (zE C.L (.word v) s) w)
 | .within=>Calls prog 136 #[.pointer (some ⟨C.g,0,none⟩)] w (zDU C (zE C.L .within s) w)
 | .clause v=>Calls prog 153 #[.pointer (some ⟨C.g,0,none⟩),.string ⟨v.toArray⟩] w (zDU C (zE C.L (.clause v) s) w)
 | .loop=>Calls prog 137 #[.pointer (some ⟨C.g,0,none⟩)] w (zDU C (zE C.L .loop s) w)
 | .jump k=>Calls prog 138 #[.pointer (some ⟨C.g,0,none⟩),.int .i64 k] w (zDU C (zE C.L (.jump k) s) w)
 | .tries=>Calls prog 140 #[.pointer (some ⟨C.g,0,none⟩)] w (zDU C (zE C.L .tries s) w)
 | .assign=>Calls prog 106 #[.pointer (some ⟨C.g,0,none⟩)] w (zDU C (zE C.L .assign s) w)
 | .body l=>∀(a:World) (A:Option Addr) (n c:Nat),l.length=n→n≤4097→a.grownBy w (some C.g)→C.g < a.heap.size→RowP w (a.heap.size≤·) (.slice A n c) l→Calls prog 131 #[.pointer (some ⟨C.g,0,none⟩),.slice A n c] w (zUk C a (zE C.L (.body l) s))
 | .cond=>Calls prog 133 #[.pointer (some ⟨C.g,0,none⟩)] w (zDU C (zE C.L .cond s) w)
 | .either=>Calls prog 152 #[.pointer (some ⟨C.g,0,none⟩)] w (zDU C (zE C.L .either s) w)
 | .both x=>∀(Q:Nat→Prop) (d0 d1 d2 d3 d4 d5 d6 d7 d8:Value),(∀b,Q b→C.g < b)→TrC w Q x [d0,d1,d2,d3,d4,d5,d6,d7,d8]→Calls prog 161 #[.pointer (some ⟨C.g,0,none⟩),.agg #[d0,d1,d2,d3,d4,d5,d6,d7,d8]] w (NodR C Q (zE C.L (.both x) s) w)
 | .level n=>Calls prog 160 #[.pointer (some ⟨C.g,0,none⟩),.int .i64 (n:Int)] w (zDU C (zE C.L (.level n) s) w)
 | .unary=>Calls prog 167 #[.pointer (some ⟨C.g,0,none⟩)] w (zDU C (zE C.L .unary s) w)
 | .calls=>Calls prog 171 #[.pointer (some ⟨C.g,0,none⟩)] w (zDU C (zE C.L .calls s) w)
 | .head=>Calls prog 172 #[.pointer (some ⟨C.g,0,none⟩)] w (zDU C (zE C.L .head s) w)
 | .args=>Calls prog 173 #[.pointer (some ⟨C.g,0,none⟩)] w (LstQ C (zE C.L .args s) w)
 | .list v=>Calls prog 176 #[.pointer (some ⟨C.g,0,none⟩),.string ⟨v.toArray⟩] w (LstQ C (zE C.L (.list v) s) w)
 | .primary=>Calls prog 175 #[.pointer (some ⟨C.g,0,none⟩)] w (zDU C (zE C.L .primary s) w)
 | .object=>Calls prog 177 #[.pointer (some ⟨C.g,0,none⟩)] w (zDU C (zE C.L .object s) w)
 | .prop=>Calls prog 178 #[.pointer (some ⟨C.g,0,none⟩)] w (zDU C (zE C.L .prop s) w)
 | _=>True
def KP (C:Pc) (N:Nat):Prop:=∀(q:Ph) (s:Ps) (w:World),Pre C.L q s→zj C.L q s < N→Pa C s w→zp C s w q
section
variable {C:Pc} {p q:Ph} {s s1:Ps} {w:World}
theorem KP.rank (K:KP C (zj C.L p s)) (b:Pre C.L q s1) (h:Pa C s1 w) (h1:s.k≤s1.k) (c:zt q s1 < zt p s):zp C s1 w q:=K q s1 w b (zIn h1 c) h
theorem KP.more (K:KP C (zj C.L p s)) (b:Pre C.L q s1) (h:Pa C s1 w) (h1:s.k < s1.k):zp C s1 w q:=K q s1 w b (zIm h1 b.1 h.cx.lst.pos) h
end
theorem TrC.sto {w:World} {F:Nat→Prop} {e0 e1 e2 e3 e4 e5 e6 e7 e8:Value} (h:TrC w F t [e0,e1,e2,e3,e4,e5,e6,e7,e8]):(∀(v:World) (a:Addr),(store a e0).run prog v=stored prog v a e0 .plain)∧(∀(v:World) (a:Addr),(store a e1).run prog v=stored prog v a e1 .plain)∧(∀(v:World) (a:Addr),(store a e2).run prog v=stored prog v a e2 .plain)∧(∀(v:World) (a:Addr),(store a e3).run prog v=stored prog v a e3 .plain)∧(∀(v:World) (a:Addr),(store a e4).run prog v=stored prog v a e4 .plain)∧(∀(v:World) (a:Addr),(store a e5).run prog v=stored prog v a e5 .plain)∧(∀(v:World) (a:Addr),(store a e6).run prog v=stored prog v a e6 .plain)∧(∀(v:World) (a:Addr),(store a e7).run prog v=stored prog v a e7 .plain)∧(∀(v:World) (a:Addr),(store a e8).run prog v=stored prog v a e8 .plain):=by
 have h1:=h.one;simp only[List.all_cons,List.all_nil,Bool.and_eq_true,Bool.and_true]at h1;obtain⟨b,h1,c,d,e,f,h6,g,j⟩:=h1;exact⟨fun v a=>run_store _ _ _ _ _ b,fun v a=>run_store _ _ _ _ _ h1,fun v a=>run_store _ _ _ _ _ c,fun v a=>run_store _ _ _ _ _ d,fun v a=>run_store _ _ _ _ _ e,fun v a=>run_store _ _ _ _ _ f,fun v a=>run_store _ _ _ _ _ h6,fun v a=>run_store _ _ _ _ _ g,fun v a=>run_store _ _ _ _ _ j⟩
theorem Bx.gg {w w':World} {R b:Nat} {T:TypeId} {cs:List Value} (h:Bx w R T cs) (hg:w.grownBy w' (some b)) (c:b≠R):Bx w' R T cs:=h.grown hg (by simpa using c)
def zHq:List Value:=[.int .i64 0,.string ⟨#[]⟩,.slice none 0 0,.int .i64 0,.int .i64 0,.bool false,.slice none 0 0,.slice none 0 0,.slice none 0 0]
structure FinN (C:Pc) (Q:Nat→Prop) (r:Tr×Ps) (w:World) (X:Nat) (d0 d1 d2 d3 d4 d5 d6 d7 d8:Value) (V:World):Prop where
 box:Bx V X 58 [d0,d1,d2,d3,d4,d5,d6,d7,d8]
 tree:TrC V (fun b=>Q b∨w.heap.size≤b) r.1 [d0,d1,d2,d3,d4,d5,d6,d7,d8]
 pa:Pa C r.2 V
 grown:w.grownBy V (some C.g)
theorem zTe {C:Pc} {Q:Nat→Prop} {r:Tr×Ps} {w:World} {cs:List Value} (hB:Bx W X 58 cs) (c:cs.length=9) (d:w.heap.size≤X) (l:C.g < X) (f:TrC W (fun b=>(Q b∨w.heap.size≤b)∧b≠X) r.1 [d0,d1,d2,d3,d4,d5,d6,d7,d8]) (j:Pa C r.2 W) (k:w.grownBy W (some C.g)):
 FinN C Q r w X d0 d1 d2 d3 d4 d5 d6 d7 d8 (((((((((W.setCell ⟨X,0,none⟩ d0).setCell ⟨X,1,none⟩ d1).setCell ⟨X,2,none⟩ d2).setCell ⟨X,3,none⟩ d3).setCell ⟨X,4,none⟩ d4).setCell ⟨X,5,none⟩ d5).setCell ⟨X,6,none⟩ d6).setCell ⟨X,7,none⟩ d7).setCell ⟨X,8,none⟩ d8):=by
 have hg:=zBj (w:=W) (R:=X) (v0:=d0) (v1:=d1) (v2:=d2) (v3:=d3) (v4:=d4) (v5:=d5) (v6:=d6) (v7:=d7) (v8:=d8);refine⟨hB.set9 c,?_,j.grown hg (fun b e=>by injection e with e;omega),zCF k d hg⟩;have h1:=TrC.keep hg (.box hB jd jd (fun h=>h.2 rfl)) _ _ f;exact .sub (fun b hb _=>hb.1) _ _ h1
theorem FinN.ans {C:Pc} {Q:Nat→Prop} {r:Tr×Ps} {w V:World} (h:FinN C Q r w X d0 d1 d2 d3 d4 d5 d6 d7 d8 V):NodR C Q r w (.returned (.agg #[d0,d1,d2,d3,d4,d5,d6,d7,d8])) V:=
 ⟨_,_,_,_,_,_,_,_,_,rfl,h.tree,h.pa,h.grown⟩
theorem zQZ {P:Program} {f:Func} {b:Ending→World→Prop} {a:Act} {C:Pc} {Q:Nat→Prop} {r:Tr×Ps} {w:World} (h:FinN C Q r w X d0 d1 d2 d3 d4 d5 d6 d7 d8 W) (k:∀V,FinN C Q r w X d0 d1 d2 d3 d4 d5 d6 d7 d8 V→bodyPost P f b .ret a V):bodyPost P f b .ret a W:=k W h
structure PutN (T:TypeId) (C:Pc) (s:Ps) (w W:World) (R:Nat) (d0 d1 d2 d3 d4 d5 d6 d7 d8:Value) (V:World):Prop where
 box:Bx V R T [d0,d1,d2,d3,d4,d5,d6,d7,d8]
 pa:Pa C s V
 grown:w.grownBy V (some C.g)
 from_:W.grownBy V (some R)
theorem zTf {T:TypeId} {C:Pc} {s:Ps} {w:World} {R:Nat} {cs:List Value} (hB:Bx W R T cs) (c:cs.length=9) (d:w.heap.size≤R) (k:C.g < R) (f:Pa C s W) (j:w.grownBy W (some C.g)):
 PutN T C s w W R d0 d1 d2 d3 d4 d5 d6 d7 d8 (((((((((W.setCell ⟨R,0,none⟩ d0).setCell ⟨R,1,none⟩ d1).setCell ⟨R,2,none⟩ d2).setCell ⟨R,3,none⟩ d3).setCell ⟨R,4,none⟩ d4).setCell ⟨R,5,none⟩ d5).setCell ⟨R,6,none⟩ d6).setCell ⟨R,7,none⟩ d7).setCell ⟨R,8,none⟩ d8):=by
 have hg:=zBj (w:=W) (R:=R) (v0:=d0) (v1:=d1) (v2:=d2) (v3:=d3) (v4:=d4) (v5:=d5) (v6:=d6) (v7:=d7) (v8:=d8);exact⟨hB.set9 c,f.grown hg (fun b e=>by injection e with e;omega),zCF j d hg,hg⟩
theorem zL2 {w3 b:World} {P:Nat→Prop} {cs:List Value} (c:n=l.length) (h:TrsC w3 P l cs) (e:n≤4097) (d:P w3.heap.size) (hg:(w3.alloc (.cells cs.toArray 58)).grownBy b none):RowP b P (.slice (some ⟨w3.heap.size,0,none⟩) n n) l:=
 (RowP.lit c h d (by unfold maxLen;omega)).new hg
theorem zTg {w3 b:World} {P:Nat→Prop} {x y:Tr} {e0 e1 e2 e3 e4 e5 e6 e7 e8 a0 a1 a2 a3 a4 a5 a6 a7 a8:Value} (k:Int) (n:List UInt8) (h1:TrC w3 P x [e0,e1,e2,e3,e4,e5,e6,e7,e8]) (c:TrC w3 P y [a0,a1,a2,a3,a4,a5,a6,a7,a8]) (d:P w3.heap.size) (hg:(w3.alloc (.cells #[e0,e1,e2,e3,e4,e5,e6,e7,e8,a0,a1,a2,a3,a4,a5,a6,a7,a8] 58)).grownBy b none):TrC b P (trN k n [x,y]) (zYk k n (.slice (some ⟨w3.heap.size,0,none⟩) 2 2)):=
 (zL2 (l:=[x,y]) (cs:=[e0,e1,e2,e3,e4,e5,e6,e7,e8]++[a0,a1,a2,a3,a4,a5,a6,a7,a8]) rfl (TrsC.cons h1 (.single c)) js d hg).treeN
theorem zTh {C:Pc} {x:Tr} {s:Ps} {w:World} (_b:Pre C.L (.both x) s) (K:KP C (zj C.L (.both x) s)) (h:Pa C s w):zp C s w (.both x):=by
 intro Q d0 d1 d2 d3 d4 d5 d6 d7 d8 hQ ht;have U:=zA h.cx.lst;have e9:C.N≤4097:=h.cx.n4;have HQ:=zA hQ;have HK:=zA K;obtain⟨r,hr⟩:=jx (zE C.L (.both x) s);rw[hr];have HR:=zA hr;obtain⟨l,z⟩:=jx (w.alloc (.cells #[d0,d1,d2,d3,d4,d5,d6,d7,d8] 58));obtain⟨W,hW⟩:=jx (l.alloc (.cells #[.int .i64 0,.string ⟨#[]⟩,.slice none 0 0,.int .i64 0,.int .i64 0,.bool false,.slice none 0 0,.slice none 0 0,.slice none 0 0] 58));have A:w.grownBy l none:=by rw[←z];exact zF _ _ _
 have c:l.grownBy W none:=by rw[←hW];exact zF _ _ _
 have G:l.heap.size=w.heap.size+1:=by rw[←z];simp
 have H:Bx l w.heap.size 58 [d0,d1,d2,d3,d4,d5,d6,d7,d8]:=by rw[←z];exact Bx.new w [d0,d1,d2,d3,d4,d5,d6,d7,d8] _
 have I:Bx W (w.heap.size+1) 58 zHq:=by rw[←hW,←G];exact Bx.new l zHq _
 obtain⟨R,B⟩:=jx w.heap.size;rw[B]at H I G;have g1:C.g < R:=by rw[←B];exact h.lt
 have Y:=zA (H.grown c js);have a9:=zA I;have b0:=zA ((h.new A).new c);have b1:=zA (zAd (zC A c) (some C.g));have b2:=zA (TrC.keep (zC A c) (.none_ _ _) _ _ (.sub (Q:=fun b=>Q b∧b < R) (fun b hb hl=>⟨hb,by omega⟩) _ _ ht));have J:=zA B;clear hr h ht hQ K H I A c;go_enter func161,ntmps161;go_upto_region 1 with(fail);clear hW z B G
 go_loopg [6] (C.L.length - s.k) (fun gk _ wr=>∃(j:Tr) (s':Ps) (e0 e1 e2 e3 e4 e5 e6 e7 e8:Value),C.L.length - s'.k≤gk∧s.k≤s'.k∧Hid (zE C.L (.both j) s'=r)∧Hid (Pa C s' wr)∧Hid (Bx wr R 58 [e0,e1,e2,e3,e4,e5,e6,e7,e8])∧Hid (Bx wr (R+1) 58 zHq)∧Hid (TrC wr (fun b=>(Q b∧b < R)∨R+1 < b) j [e0,e1,e2,e3,e4,e5,e6,e7,e8])∧Hid (w.grownBy wr (some C.g)))
 case atStart=>exact⟨x,s,d0,d1,d2,d3,d4,d5,d6,d7,d8,yAC _,yAC _,HR.out,b0.out,Y.out,a9.out,.sub (fun b hb _=>.inl hb) _ _ b2.out,b1.out⟩
 case round=>
  clear HR b0 Y a9 b2 b1;obtain⟨j,s',e0,e1,e2,e3,e4,e5,e6,e7,e8,g2,g3,b3,d,b4,b5,b6,b7⟩:=hrel
  by_cases m:onP C.L [38,38] s'=true
  · have M:=zA m;have O:=zA (U.out.on d.out.hi m);clear m;go_wp2_with fail;refine(zA1 d.out [38,38] M.out).mono ?_;rintro ev w1 ⟨rfl,o,c⟩;have D:=zA (show Pa C (zB s') w1 from o);have E:=zA (b4.out.grown c (by simp;omega));have f:=zA (b5.out.grown c (by simp;omega));have F:=zA (TrC.keep c (.box d.out.box jd jd (by
     rintro(h | h)
     · have:=HQ.out _ h.1;omega
     · omega)) _ _ b6.out)
    have P:=zA (zC b7.out c);clear o c;have CL:=zA (show Calls prog 160 #[.pointer (some ⟨C.g,0,none⟩),.int .i64 0] w1.drew (zDU C (zE C.L (.level 0) (zB s')) w1.drew)from HK.out.more (q:=.level 0) (s1:=zB s') (w:=w1.drew) ⟨O.out,yAE _⟩ D.out.drew (by show s.k < s'.k+1;omega));obtain⟨z0,z1,z2,z3,z4,z5,z6,z7,z8⟩:=E.out.nine;have g4:=f.out.lt;have g5:=zA (show w1.heap.size≤w1.drew.heap.size from yAC _);go_wp2_with fail;go_region_law (first | (go_simp;go_at_call 160;(with_reducible refine CL.out.mono ?_);rintro g6 w3 ⟨a0,a1,a2,a3,a4,a5,a6,a7,a8,rfl,b8,b9,c0⟩;have c6:=zA b8;have c7:=zA b9;have t:=zA c0;clear b8 b9 c0;have c1:=zA (E.out.drew.grown t.out (by simp;omega));have c8:=zA (f.out.drew.grown t.out (by simp;omega));obtain⟨z0,z1,z2,z3,z4,z5,z6,z7,z8⟩:=c1.out.nine) | (go_simp;go_at_call 105;(with_reducible refine(zC8 47 ⟨#[38,38]⟩ (some ⟨w3.heap.size,0,none⟩) 2 2).mono ?_);rintro g7 w4 ⟨rfl,c2⟩;have u:=zA c2;clear c2;have y:=zA ((c1.out.alloc _).grown u.out js);obtain⟨z0,z1,z2,z3,z4,z5,z6,z7,z8⟩:=y.out.nine;obtain⟨f0,f1,f2,f3,f4,f5,f6,f7,f8⟩:=y.out.nineF))
    all_goals
     have f9:w1.heap.size≤w3.heap.size:=t.out.size;have X:=zA (zd U.out (p:=.level 0) (s:=zB s') ⟨O.out,yAE _⟩);have g0:=X.out.adv.le;have c3:=zA (TrC.sub (Q:=fun b=>(Q b∧b < R)∨R+1 < b) (fun b (hb:w1.heap.size≤b) _=>.inr jo) _ _ c6.out);have c4:=zA (TrC.keep t.out (.box D.out.drew.box jd jd (by
      rintro(h | h)
      · have:=HQ.out _ h.1;omega
      · omega)) _ _ (TrC.keep (zBL w1 none) (.none_ _ _) _ _ F.out))
     have HN:=zA (zTg 47 [38,38] c4.out c3.out (.inr jo) u.out);have c9:=zA ((c7.out.alloc _).new u.out);have c5:=zA (zC P.out (zC (zBL _ _) (zC t.out (zAd (zC (zF _ _ _) u.out) _))));have d9:=zA ((c8.out.alloc _).grown u.out js);have S:=zA (show zE C.L (.both j) s'=zE C.L (.both (trN 47 [38,38] [j,(zE C.L (.level 0) (zB s')).1])) (zE C.L (.level 0) (zB s')).2 by
      rw[zS U.out ⟨d.out.hi,trivial⟩];unfold zD;dsimp only;rw[if_pos M.out])
     have g8:=y.out.lt;go_wp2_with fail;have T:=zTf (d0:=.int .i64 47) (d1:=.string ⟨#[38,38]⟩) (d2:=.slice none 0 0) (d3:=.int .i64 0) (d4:=.int .i64 0) (d5:=.bool false) (d6:=.slice none 0 0) (d7:=.slice none 0 0) (d8:=.slice (some ⟨w3.heap.size,0,none⟩) 2 2) y.out rfl (by rw[J.out];exact yAC _) jo c9.out c5.out
     go_roundg (C.L.length - (zE C.L (.level 0) (zB s')).2.k)
     case measure=>
      have:=O.out;have:(zB s').k=s'.k+1:=rfl;omega
     case rel=>
      refine⟨_,_,_,_,_,_,_,_,_,_,_,yAC _,?_,S.out.symm.trans b3.out,T.pa,T.box,d9.out.grown T.from_ js,TrC.keep T.from_ (.box y.out jd jd jo) _ _ HN.out,T.grown⟩;have:(zB s').k=s'.k+1:=rfl;omega
  · have M:=zA (show onP C.L [38,38] s'=false by simpa using m);clear m;go_wp2_with fail;refine(zA1 d.out [38,38] M.out).mono ?_;rintro ev w1 ⟨rfl,o,c⟩;have D:=zA (show Pa C s' w1 from o);have E:=zA (b4.out.grown c (by simp;omega));have f:=zA (b5.out.grown c (by simp;omega));have F:=zA (TrC.keep c (.box d.out.box jd jd (by
     rintro(h | h)
     · have:=HQ.out _ h.1;omega
     · omega)) _ _ b6.out)
    have P:=zA (zC b7.out c);clear o c;obtain⟨z0,z1,z2,z3,z4,z5,z6,z7,z8⟩:=E.out.nine;obtain⟨y0,y1,y2,y3,y4,y5,y6,y7,y8⟩:=f.out.nine;obtain⟨f0,f1,f2,f3,f4,f5,f6,f7,f8⟩:=f.out.nineF;obtain⟨s0,s1,s2,s3,s4,s5,s6,s7,s8⟩:=F.out.sto;have S:=zA (show zE C.L (.both j) s'=(j,s') by
     rw[zS U.out ⟨d.out.hi,trivial⟩];unfold zD;dsimp only;rw[if_neg (by rw[M.out];decide)])
    go_wp2_with fail;refine zQZ (zTe (Q:=Q) (r:=(j,s')) f.out rfl (by rw[J.out];omega) jo (.sub (fun b hb _=>?_) _ _ F.out) D.out P.out) ?_
    · rw[J.out];rcases hb with hb | hb
      · exact⟨.inl hb.1,by omega⟩
      · exact⟨.inr jo,by omega⟩
    intro V hv;obtain⟨q0,q1,q2,q3,q4,q5,q6,q7,q8⟩:=hv.box.nine;refine bodyPost_ret (v:=.agg #[e0,e1,e2,e3,e4,e5,e6,e7,e8]) (by simp[results,results161,go_sem,q0,q1,q2,q3,q4,q5,q6,q7,q8]) rfl ?_;have e:r=(j,s'):=b3.out.symm.trans S.out;rw[e];exact hv.ans
end Go.Proofs.YtlnbbaehihgigaaGreatDoor
