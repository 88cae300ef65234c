/- Joined for the claim EarlyRoot: the parser, the lexer and the trees as they are walked, made short by a program of mine. -/
import Derived.Test.YtlohaclgbfhijaaGreatDoorE07
import Derived.Test.YtlohaclgbfhijaaGreatDoorE08
import Derived.Test.YtlohaclgbfhijaaGreatDoorE02
import Derived.Test.YtlohaclgbfhijaaGreatDoorE01
import Derived.Deep.LoopGhost
import Derived.Deep.RegionLaw
import Derived.Laws.StandIn
import Derived.Lib.Bytealg
set_option maxHeartbeats 16000000
set_option maxRecDepth 1000000
namespace Go.Proofs.YtlohaclgbfhijaaGreatDoor
open Go.Proofs.Tryz
open Go.RowKit
def zLF (m:Nat) (A:Option Addr) (c:Nat):Value:=if m=0 then .slice none 0 0 else .slice A m c
theorem zII {A:Option Addr} {c B n m:Nat} {xs:List Nat} {w:World} (hn:xs.length=n) (ha:Reads w B 1 A n (zBm xs)) (hB:B≤w.heap.size) (hl:n≤4096) (hc:n≤c) (hc2:c≤maxLen) (hm:(zAo xs).length=m):
 Calls prog 184 #[.slice A n c,.bool false] w fun e w'=>e=.returned (.agg #[.bool false,zLF m A c])∧Below w.heap.size w w':=by
 have HA:=zA (ha.alloc hB (.cells #[.bool false,.slice none 0 0] 42));have HM:=zA hm;have HN:=zA hn;clear ha hm hn
 by_cases h0:m=0
 · have HI:=zA (show zLF m A c=.slice none 0 0 from if_pos h0);have e1:((m:Int)==0)=true:=by rw[h0];rfl
   clear h0;go_enter func184,ntmps184;go_wp2_with (go_at_call 168;refine(zDw HN.out HA.out hl hc hc2 HM.out).mono ?_;rintro e w' ⟨rfl,rfl⟩);rw[HI.out];exact bodyPost_ret (v:=.agg #[.bool false,.slice none 0 0]) (by simp[results,results184,go_sem]) rfl ⟨rfl,(Below.refl _ _).alloc (yAC _) _⟩
 · have HI:=zA (show zLF m A c=.slice A m c from if_neg h0);have e1:((m:Int)==0)=false:=yA.2 (by omega);clear h0;go_enter func184,ntmps184;go_wp2_with (go_at_call 168;refine(zDw HN.out HA.out hl hc hc2 HM.out).mono ?_;rintro e w' ⟨rfl,rfl⟩);rw[HI.out];exact bodyPost_ret (v:=.agg #[.bool false,.slice A m c]) (by simp[results,results184,go_sem]) rfl ⟨rfl,(Below.refl _ _).alloc (yAC _) _⟩
theorem zLG {s:ByteArray} {l:List UInt16} (h:s.data.toList=asc l) (hd:∀x∈l,zO x=true):s.size=l.length∧∀i (hi:i < s.size) (hj:i < l.length),s[i].toNat=l[i].toNat∧48≤s[i].toNat∧s[i].toNat≤57:=by
 have h1:s.size=l.length:=by
  have:=congrArg List.length h;simpa [asc]using this
 refine⟨h1,fun i hi hj=>?_⟩;have h2:s.data.toList[i]? =(asc l)[i]? :=by rw[h]
 have h3:s[i]=l[i].toUInt8:=by
  have e1:s.data.toList[i]? =some s[i]:=by
   rw[yAB (by simpa using hi)];rfl
  have e2:(asc l)[i]? =some l[i].toUInt8:=by simp[asc,yAB hj]
  rw[e1,e2]at h2;exact Option.some.inj h2
 have h4:=hd l[i] (List.getElem_mem hj);simp only[zO,Bool.and_eq_true,decide_eq_true_eq]at h4;have h5:l[i].toUInt8.toNat=l[i].toNat % 256:=rfl;rw[h3,h5];omega
theorem zJH {s:ByteArray} {l:List UInt16} (h:s.data.toList=asc l) (hd:∀x∈l,zO x=true) (h0:0 < l.length) (hz:l[0]≠48∨l=[48]) (hl:l.length≤4096) (w:World):
 Calls prog 183 #[.string s] w fun e w'=>e=.returned (.bool true)∧w=w':=by
 obtain⟨hs,hget⟩:=zLG h hd;have HG:=zA (show∀i (hi:i < s.size),48≤s[i].toNat∧s[i].toNat≤57 from fun i hi=>(hget i hi (by omega)).2);have hs1:s.size≤4096:=by omega
 have hs0:0 < s.size:=by omega
 have hem:s.toList≠[]:=by
  rw[ByteArray.toList_eq,h];intro h2;have:=congrArg List.length h2;rw[asc,List.length_map,List.length_nil]at this;omega
 have e1:(s.toList==[])=false:=yA.2 hem;have e2:s.toList.isEmpty=false:=by
  cases hh:s.toList with
  | nil=>exact absurd hh hem
  | cons=>rfl
 have hcase:((s[0].toNat:Int) !=48)=true∨s=⟨#[48]⟩:=by
  rcases hz with hz | hz
  · left;rw[bne_iff_ne];intro h3;have:=(hget 0 hs0 h0).1;exact hz (UInt16.toNat_inj.1 (by show l[0].toNat=48;omega))
  · right;have h4:s=⟨#[48]⟩:=by
     cases s with
     | mk d=>
      simp only at h;rw[hz]at h;have:d=#[48]:=by
       apply Array.toList_inj.1;rw[h];rfl
      rw[this]
    exact h4
 clear hget h hz hem;rcases hcase with h3 | rfl
 · go_enter func183,ntmps183;go_wp2
   go_loop [6] (fun i=>∃k:Nat,k≤s.size∧i=.int .i64 k) (fun i=>s.size - (intOf i).toNat)
   case atStart=>exact⟨0,yAE _,rfl⟩
   case round=>
    obtain⟨k,hk,rfl⟩:=hrel
    by_cases hlt:k < s.size
    · have hb:=HG.out k hlt;go_wp2;go_round
      case rel=>exact⟨k+1,by omega,by go_num⟩
      case measure=>simp[intOf];omega
    · go_wp2;go_ret;exact⟨rfl,rfl⟩
 · clear e1 e2 HG hs hs1 hs0;go_enter func183,ntmps183;go_wp2
   go_loop [6] (fun i=>∃k:Nat,k≤1∧i=.int .i64 k) (fun i=>1 - (intOf i).toNat)
   case atStart=>exact⟨0,yAE _,rfl⟩
   case round=>
    obtain⟨k,hk,rfl⟩:=hrel
    by_cases hlt:k=0
    · subst hlt;go_wp2;go_round
      case rel=>exact⟨1,by omega,rfl⟩
      case measure=>simp[intOf]
    · obtain rfl:k=1:=by omega
      go_wp2;go_ret;exact⟨rfl,rfl⟩
theorem Reads.spotL {w:World} {B n:Nat} {A:Option Addr} {l:List UInt16} (h:Reads w B 1 A n (zAD l)) (h0:0 < l.length):
 ∃b off,A=some ⟨b,off,none⟩∧b < B∧∀j (hj:j < l.length),w.cell? ⟨b,off+j,none⟩=some (.int .u16 (l[j].toNat:Int)):=by
 obtain⟨ad,e,hb,hc⟩:=h.u16_0 h0;have hs:ad.spot=none:=by
  cases hsp:ad.spot with
  | none=>rfl
  | some s=>
   exfalso;simp only[World.cell?,hsp]at hc;split at hc
   · simp at hc
   · cases hc
 obtain⟨b,off,sp⟩:=ad;simp only at hs;subst hs;refine⟨b,off,e,hb,fun j hj=>?_⟩;obtain⟨ad',e',_,h1⟩:=h.u16 hj;rw[e]at e';injection e' with e';subst e';rw[Addr.add_lit]at h1;exact h1
theorem zCK {u:List UInt16} {k j:Nat} {p:UInt16→Bool} (h:k+j < u.length):zAy j p (u.drop k)=p u[k+j]:=by
 unfold zAy;rw[List.getElem?_drop,yAB h];rfl
theorem zB5 {u:List UInt16} {k j:Nat} {p:UInt16→Bool} (h:¬k+j < u.length):zAy j p (u.drop k)=false:=by
 unfold zAy;rw[List.getElem?_drop,List.getElem?_eq_none (by omega)];rfl
theorem zCL {α:Type} {e e':α} {w w':World} (h:e=e'∧w=w'):e=e'∧w'=w:=⟨h.1,h.2.symm⟩
theorem zFH {A:Option Addr} {c g B k j n:Nat} {u:List UInt16} {w:World} (hr:Rd w g A n c k) (hn:u.length=n) (ha:Reads w B 1 A n (zAD u)) (hk:k≤n) (hl:n≤4096) (hj:j≤4096) {q:Bool} (hq:zAy j zAs (u.drop k)=q):
 Calls prog 71 #[.pointer (some ⟨g,0,none⟩),.int .i64 (j:Int),.func (.func 66) #[] #[]] w fun e w'=>e=.returned (.bool q)∧∃m,w'=w.drewN m:=by
 subst hn;have hc0:=hr.c0;have hc1:=hr.c1
 by_cases hin:k+j < u.length
 · have hin2:(k:Int)+(j:Int) < (u.length:Int):=by omega
   have HQ:=zA (show zAs u[k+j]=q by rw[←hq,zCK hin]);obtain⟨b,off,rfl,_,hcell⟩:=ha.spotL (by omega);have hca:=hcell (k+j) hin;obtain⟨x,hx⟩:∃x,u[k+j]=x:=⟨_,rfl⟩;rw[hx]at hca HQ;clear hcell hq hx hr;go_enter func71,ntmps71;go_wp2_with fail
   go_quiet (first | (go_at_call 66;refine Calls.quiet_of_same ((zAW _ _).mono fun _ _ h=>zCL h)))
   go_wp2;go_ret;exact⟨zD HQ.out,_,rfl⟩
 · have hin2:¬(k:Int)+(j:Int) < (u.length:Int):=by omega
   have hin3:decide ((k:Int)+(j:Int) < (u.length:Int))=false:=yAI hin2;have HQ:=zA (show false=q by rw[←hq,zB5 hin]);clear hin hq hr;go_enter func71,ntmps71;go_wp2_with fail
   go_quiet (fail)
   go_wp2;go_ret;exact⟨zD HQ.out,_,rfl⟩
theorem zAO {A:Option Addr} {c g B k j n:Nat} {u:List UInt16} {w:World} (hr:Rd w g A n c k) (hn:u.length=n) (ha:Reads w B 1 A n (zAD u)) (hk:k≤n) (hl:n≤4096) (hj:j≤4096) {q:Bool} (hq:zAy j zO (u.drop k)=q):
 Calls prog 71 #[.pointer (some ⟨g,0,none⟩),.int .i64 (j:Int),.func (.func 68) #[] #[]] w fun e w'=>e=.returned (.bool q)∧∃m,w'=w.drewN m:=by
 subst hn;have hc0:=hr.c0;have hc1:=hr.c1
 by_cases hin:k+j < u.length
 · have hin2:(k:Int)+(j:Int) < (u.length:Int):=by omega
   have HQ:=zA (show zO u[k+j]=q by rw[←hq,zCK hin]);obtain⟨b,off,rfl,_,hcell⟩:=ha.spotL (by omega);have hca:=hcell (k+j) hin;obtain⟨x,hx⟩:∃x,u[k+j]=x:=⟨_,rfl⟩;rw[hx]at hca HQ;clear hcell hq hx hr;go_enter func71,ntmps71;go_wp2_with fail
   go_quiet (first | (go_at_call 68;refine Calls.quiet_of_same ((zo _ _).mono fun _ _ h=>zCL h)))
   go_wp2;go_ret;exact⟨zD HQ.out,_,rfl⟩
 · have hin2:¬(k:Int)+(j:Int) < (u.length:Int):=by omega
   have hin3:decide ((k:Int)+(j:Int) < (u.length:Int))=false:=yAI hin2;have HQ:=zA (show false=q by rw[←hq,zB5 hin]);clear hin hq hr;go_enter func71,ntmps71;go_wp2_with fail
   go_quiet (fail)
   go_wp2;go_ret;exact⟨zD HQ.out,_,rfl⟩
theorem zHO {A:Option Addr} {c g B k j n:Nat} {u:List UInt16} {w:World} (hr:Rd w g A n c k) (hn:u.length=n) (ha:Reads w B 1 A n (zAD u)) (hk:k≤n) (hl:n≤4096) (hj:j≤4096) {q:Bool} (hq:zAy j zAe (u.drop k)=q):
 Calls prog 71 #[.pointer (some ⟨g,0,none⟩),.int .i64 (j:Int),.func (.func 102) #[] #[]] w fun e w'=>e=.returned (.bool q)∧∃m,w'=w.drewN m:=by
 subst hn;have hc0:=hr.c0;have hc1:=hr.c1
 by_cases hin:k+j < u.length
 · have hin2:(k:Int)+(j:Int) < (u.length:Int):=by omega
   have HQ:=zA (show zAe u[k+j]=q by rw[←hq,zCK hin]);obtain⟨b,off,rfl,_,hcell⟩:=ha.spotL (by omega);have hca:=hcell (k+j) hin;obtain⟨x,hx⟩:∃x,u[k+j]=x:=⟨_,rfl⟩;rw[hx]at hca HQ;clear hcell hq hx hr;go_enter func71,ntmps71;go_wp2_with fail
   go_quiet (first | (go_at_call 102;refine Calls.quiet_of_same ((zKI _ _).mono fun _ _ h=>zCL h)))
   go_wp2;go_ret;exact⟨zD HQ.out,_,rfl⟩
 · have hin2:¬(k:Int)+(j:Int) < (u.length:Int):=by omega
   have hin3:decide ((k:Int)+(j:Int) < (u.length:Int))=false:=yAI hin2;have HQ:=zA (show false=q by rw[←hq,zB5 hin]);clear hin hq hr;go_enter func71,ntmps71;go_wp2_with fail
   go_quiet (fail)
   go_wp2;go_ret;exact⟨zD HQ.out,_,rfl⟩
theorem zLH {A:Option Addr} {c g B k j n:Nat} {u:List UInt16} {w:World} (hr:Rd w g A n c k) (hn:u.length=n) (ha:Reads w B 1 A n (zAD u)) (hk:k≤n) (hl:n≤4096) (hj:j≤4096) {q:Bool} (hq:zAy j zCw (u.drop k)=q):
 Calls prog 71 #[.pointer (some ⟨g,0,none⟩),.int .i64 (j:Int),.func (.func 191) #[] #[]] w fun e w'=>e=.returned (.bool q)∧∃m,w'=w.drewN m:=by
 subst hn;have hc0:=hr.c0;have hc1:=hr.c1
 by_cases hin:k+j < u.length
 · have hin2:(k:Int)+(j:Int) < (u.length:Int):=by omega
   have HQ:=zA (show zCw u[k+j]=q by rw[←hq,zCK hin]);obtain⟨b,off,rfl,_,hcell⟩:=ha.spotL (by omega);have hca:=hcell (k+j) hin;obtain⟨x,hx⟩:∃x,u[k+j]=x:=⟨_,rfl⟩;rw[hx]at hca HQ;clear hcell hq hx hr;go_enter func71,ntmps71;go_wp2_with fail
   go_quiet (first | (go_at_call 191;refine Calls.quiet_of_same ((zIs _ _).mono fun _ _ h=>zCL h)))
   go_wp2;go_ret;exact⟨zD HQ.out,_,rfl⟩
 · have hin2:¬(k:Int)+(j:Int) < (u.length:Int):=by omega
   have hin3:decide ((k:Int)+(j:Int) < (u.length:Int))=false:=yAI hin2;have HQ:=zA (show false=q by rw[←hq,zB5 hin]);clear hin hq hr;go_enter func71,ntmps71;go_wp2_with fail
   go_quiet (fail)
   go_wp2;go_ret;exact⟨zD HQ.out,_,rfl⟩
theorem zFI {s:List UInt8} {l:List UInt16}:zq s l=true↔∀i (h:i < s.length),l[i]? =some s[i].toUInt16:=by
 unfold zq;rw[List.isPrefixOf_iff_prefix,List.prefix_iff_getElem?];simp
theorem zGO {s:List UInt8} {l:List UInt16} {i:Nat} (h:i < s.length) (h2:l[i]? ≠some s[i].toUInt16):zq s l=false:=by
 cases hs:zq s l with
 | false=>rfl
 | true=>exact absurd (zFI.1 hs i h) h2
theorem zAP {A:Option Addr} {c g B k n:Nat} {u:List UInt16} (s:ByteArray) {w:World} (hr:Rd w g A n c k) (hn:u.length=n) (ha:Reads w B 1 A n (zAD u)) (hk:k≤n) (hl:n≤4096) (hs:s.size≤4096) {q:Bool} (hq:zq s.data.toList (u.drop k)=q):
 Calls prog 64 #[.pointer (some ⟨g,0,none⟩),.string s] w fun e w'=>e=.returned (.bool q)∧∃m,w'=w.drewN m:=by
 subst hn;have HQ:=zA hq;have HA:=zA ha;have HR:=zA hr;clear hq ha hr;go_enter func64,ntmps64;go_wp2
 go_loopw [8] (fun i wr=>∃j:Nat,j≤s.size∧i=.int .i64 (j:Nat)∧(∃m,wr=w.drewN m)∧Hid (∀i (h:i < s.data.toList.length),i < j→(u.drop k)[i]? =some s.data.toList[i].toUInt16)) (fun i _=>s.size - (intOf i).toNat)
 case atStart=>exact⟨0,yAE _,rfl,⟨0,rfl⟩,fun i _ h=>absurd h (by omega)⟩
 case round=>
  obtain⟨j,hj,rfl,⟨m,hw⟩,hpre⟩:=hrel;have hc0:wr.cell? ⟨g,0,none⟩=some (.slice A u.length c):=by rw[hw];exact(HR.out.drewN m).c0
  have hc1:wr.cell? ⟨g,1,none⟩=some (.int .i64 (k:Int)):=by rw[hw];exact(HR.out.drewN m).c1
  have har:Hid (Reads wr B 1 A u.length (zAD u)):=by rw[hw];exact HA.out.drewN m
  have HW:=zA hw;clear hw
  by_cases hlt:j < s.size
  · have hjl:j < s.data.toList.length:=by simpa using hlt
    by_cases hin:k+j < u.length
    · have hin2:¬(u.length:Int)≤(k:Int)+(j:Int):=by omega
      have hin3:(k:Int)+(j:Int) < (u.length:Int):=by omega
      have hin4:decide ((u.length:Int)≤(k:Int)+(j:Int))=false:=yAI hin2;obtain⟨b,off,rfl,_,hcell⟩:=har.out.spotL (by omega);have hca:=hcell (k+j) hin;have hx:=u[k+j].toNat_lt;have hy:=s[j].toNat_lt;obtain⟨x,hxx⟩:∃x,u[k+j].toNat=x:=⟨_,rfl⟩;rw[hxx]at hca hx
      by_cases he:x=s[j].toNat
      · have e1:((x:Int) !=(s[j].toNat:Int))=false:=by rw[he];simp
        have HN:=zA (show(u.drop k)[j]? =some s.data.toList[j].toUInt16 by
         rw[List.getElem?_drop,yAB hin];congr 1;refine UInt16.toNat_inj.1 ?_;rw[hxx,he];simp;rfl)
        clear hcell he hxx hin;go_wp2_with fail
        go_quiet (fail)
        go_wp2
        go_roundw
        case rel=>
         refine⟨j+1,by omega,by go_num,⟨_,by rw[HW.out];exact World.drewN_drewN _ _ _⟩,?_⟩;intro i h hi
         by_cases e:i=j
         · subst e;exact HN.out
         · exact hpre.out i h (by omega)
        case measure=>simp[intOf];omega
      · have e1:((x:Int) !=(s[j].toNat:Int))=true:=by rw[bne_iff_ne];omega
        have HN:=zA (show false=q by
         rw[←HQ.out,zGO hjl];rw[List.getElem?_drop,yAB hin];intro h;injection h with h;apply he;rw[←hxx,h];simp;rfl)
        clear hcell he hxx hin;go_wp2_with fail
        go_quiet (fail)
        go_wp2;go_ret;exact⟨zD HN.out,_,by rw[HW.out];exact World.drewN_drewN _ _ _⟩
    · have hin2:(u.length:Int)≤(k:Int)+(j:Int):=by omega
      have HN:=zA (show false=q by
       rw[←HQ.out,zGO hjl];rw[List.getElem?_eq_none (by rw[List.length_drop];omega)];exact fun h=>by cases h)
      clear hin;go_wp2_with fail
      go_quiet (fail)
      go_wp2;go_ret;exact⟨zD HN.out,_,by rw[HW.out];exact World.drewN_drewN _ _ _⟩
  · have HN:=zA (show true=q by
     rw[←HQ.out,zFI.2];intro i h;exact hpre.out i h (by have h9:i < s.size:=(by simpa using h);omega))
    go_wp2;go_ret;exact⟨zD HN.out,m,HW.out⟩
theorem Reads.spot {w:World} {B n:Nat} {A:Option Addr} {l:List UInt8} (h:Reads w B 1 A n (u8s l)) (h0:0 < l.length):
 ∃b off,A=some ⟨b,off,none⟩∧∀j,j < l.length→w.cell? ⟨b,off+j,none⟩=some (.int .u8 ((l.getD j 0).toNat:Int)):=by
 have hl:l.length=n:=by have:=h.1;simpa [u8s]using this
 obtain⟨ad,e,hb,hc⟩:=h.2 (by omega);have hs:ad.spot=none:=by
  have h1:=hc 0 (u8v l[0]) (by rw[u8s,List.getElem?_map,yAB h0];rfl);cases hsp:ad.spot with
  | none=>rfl
  | some s=>
   exfalso;simp only[Addr.add,if_true,World.cell?,hsp]at h1;split at h1
   · simp at h1
   · cases h1
 obtain⟨b,off,sp⟩:=ad;simp only at hs;subst hs;refine⟨b,off,e,fun j hj=>?_⟩;have h1:=hc j (u8v l[j]) (by rw[u8s,List.getElem?_map,yAB hj];rfl);rw[Addr.add_lit]at h1;rw[h1];simp[u8v,List.getD,hj]
theorem zEQ {w:World} {B n c:Nat} {A:Option Addr} {l:List UInt8} (h:Reads w B 1 A n (u8s l)):
 (convert 51 9 (.slice A n c)).run prog w=.ok (.string ⟨l.toArray⟩) w:=by
 have hl:l.length=n:=by have:=h.1;simpa [u8s]using this
 rcases Nat.eq_zero_or_pos l.length with h0 | h0
 · have hx:l=[]:=List.eq_nil_of_length_eq_zero h0;subst hx;have hn:n=0:=hl.symm;subst hn;clear hl h;rw[run_convert_bytes_string w _ _ 5 A 0 c underlying51 underlying5 underlying9];cases A with
   | none=>rfl
   | some a=>exact run_bytesToString w a 0 c [] rfl
 · obtain⟨b,off,rfl,hc⟩:=h.spot h0;rw[run_convert_bytes_arg w _ 5 underlying51 underlying5 b off n c (l.map fun x=>(x.toNat:Int)) (by simpa using hl) (fun i hi=>by rw[hc i (by omega)];simp[List.getD,show i < l.length by omega]) _ underlying9];congr 3;simp only[strOfNums,List.map_map];congr 1;have e:((fun n:Int=>UInt8.ofNat n.toNat)∘fun x:UInt8=>(x.toNat:Int))=id:=by
    funext x;simp
   rw[e,List.map_id]
def zBR (u:List UInt16):Bool:=u.all fun x=>decide (x.toNat≤127)
def zER (u:List UInt16):ByteArray:=if zBR u then⟨(u.map (·.toUInt8)).toArray⟩else .empty
theorem zO8 {s t:ByteArray} {a b:Bool} (h:s=t) (h2:a=b):Ending.returned (.tuple #[.string s,.bool a])=.returned (.tuple #[.string t,.bool b]):=by rw[h,h2]
theorem zJI (u:List UInt16) (k:Nat) (h:k < u.length):u8s ((u.take (k+1)).map (·.toUInt8))=u8s ((u.take k).map (·.toUInt8))++[u8v u[k].toUInt8]:=by
 rw[yAK h,List.map_append,u8s,List.map_append];rfl
theorem zJJ {x:UInt16} (h:x.toNat≤127):u8v x.toUInt8=.int .u8 (x.toNat:Int):=by
 unfold u8v;congr 1;simp;omega
theorem zLI {A:Option Addr} {c B:Nat} {xs:List UInt16} {w:World} (hB:B≤w.heap.size) (ha:Reads w B 1 A xs.length (zAD xs)) (hl:xs.length≤70368744177664):
 Calls prog 108 #[.slice A xs.length c] w fun e w'=>e=.returned (.tuple #[.string (zER xs),.bool (zBR xs)])∧Below w.heap.size w w':=by
 obtain⟨i0,hi0,hz0,hz1,hz2⟩:=info_parts Tryz.info_u8;go_enter func108,ntmps108;go_wp2
 go_loopw [4,9] (fun v i wr=>∃k:Nat,k≤xs.length∧i=.int .i64 k∧Hid (zBR (xs.take k)=true)∧Made w wr 5 v (u8s ((xs.take k).map (·.toUInt8)))) (fun _ i _=>xs.length - (intOf i).toNat)
 case atStart=>exact⟨0,yAE _,rfl,rfl,Made.nil _ _⟩
 case round=>
  obtain⟨k,hk,rfl,hok,hm⟩:=hrel
  by_cases hlt:k < xs.length
  · obtain⟨ad,hA,_,hca⟩:=(ha.below (hm.below.mono hB)).u16 hlt;subst hA;have h3:(k:Int) < (xs.length:Int):=by omega
    have hlen:(u8s ((xs.take k).map (·.toUInt8))).length≤k:=by simp[u8s];omega
    have hx:=xs[k].toNat_lt
    by_cases hp:xs[k].toNat≤127
    · have HC:=zA (zJJ hp);have HS:=zA (zJI xs k hlt);have HO:Hid (zBR (xs.take (k+1))=true):=by
       rw[yAK hlt,zBR,List.all_append];have:=hok.out;rw[zBR]at this;rw[this];simp[hp,Hid]
      go_wp2_with (at_builtin;refine zCW rfl _ _ 51 rfl 5 i0 _ 1 underlying51 hi0 hz0 hz1 hz2 rfl _ _ rfl hm _ 1 1 rfl rfl rfl (by omega) (by omega) ?_;intro v' w' hm')
      go_roundw
      case rel=>exact⟨k+1,by omega,by go_num,HO,hm'.cells (by rw[HS.out,HC.out])⟩
      case measure=>simp[intOf];omega
    · have HO:Hid (zBR xs=false):=List.all_eq_false.2 ⟨xs[k],List.getElem_mem _,by simpa using hp⟩;go_wp2
      go_ret2
      exact⟨zO8 (by rw[zER,HO.out];rfl) HO.out.symm,hm.below⟩
  · have hkk:xs.take k=xs:=List.take_of_length_le (by omega);rw[hkk]at hok hm;obtain⟨A',c',rfl,_,_,hr⟩:=hm.u8;rw[List.length_map]at hr⊢;have hs:=zEQ (c:=c') hr;go_wp2
    go_ret2
    exact⟨zO8 (by rw[zER,hok.out];rfl) hok.out.symm,hm.below⟩
section
variable {P:Program} {w0 w:World} {g:Nat} {ops:Array Oper} {o:Oper} {a:Act} {K:Act→World→Prop} {Q:Exit→Act→World→Prop} {E:Prop}
theorem zGP (hgd:o.guard=none) (s x:Operand) (t:TypeId)
 (ho:o.op=.call {callee:=.builtin .append,args:=#[s,x],argTypes:=#[t,t]})
 (e:TypeId) (i:TypeInfo) (z:Value) (bytes:Nat) (ht:P.underlying t=some (.slice e)) (hi:P.info? e=some i) (hz:i.zero=some z)
 (hsize:i.size=1) (hby:i.bytes=bytes) (hzs:z.cells.size=1)
 (v:Value) (xs:List Value) (hs:a.eval s=v) (hm:MadeM w0 w g e v xs)
 (cs:List Value) (m c:Nat) (hx:a.eval x=.slice (some ⟨w.heap.size,0,none⟩) m c) (hl:cs.length=m) (h1:(cs.all fun u=>u.oneCell')=true)
 (hm0:0 < m) (hsz:xs.length+m≤70368744177664) (hb2:bytes≤2)
 (h:∀v' w',MadeM w0 w' g e v' (xs++cs)→w.grownBy w' v.ownBlock→K (a.put o.dst v') w'):
 if Region.wanted o (yielded ops a.tmps)=true then Oper.wp P o a (w.alloc (.cells cs.toArray e)) K Q else E:=by
 subst hl;refine step_append_lies (w.alloc (.cells cs.toArray e)) hgd s x t ho w0.heap.size e i z 1 bytes ht hi hz hsize hby hzs (by omega) v xs.length xs hs (hm.own.alloc _) ⟨w.heap.size,0,none⟩ _ c cs hx (by omega) ?_ (fun u hu=>List.all_eq_true.1 h1 u hu) hm0 (by unfold maxLen;omega) ?_ (yAD hm.grown.size (by simp)) _ rfl ?_
 · intro j u hu;rw[Addr.add_lit,World.cell?_alloc_at _ _ _ _ rfl];simpa using hu
 · calc (xs.length+cs.length)*bytes≤70368744177664*2:=Nat.mul_le_mul hsz hb2
    _≤140737488355328:=by omega
 · intro gg cap w' h1 h2 _ _;have hgr:w.grownBy w' v.ownBlock:=zC (zG w _ _) h2;refine h _ w' ⟨by rw[List.length_append];exact h1,⟨hgr.os.trans hm.grown.os,hgr.tape.trans hm.grown.tape,hgr.output.trans hm.grown.output,yAD hm.grown.size hgr.size,fun k hk hne=>?_⟩⟩ hgr;rw[hgr.block k (yAA hk hm.grown.size) (fun e=>by have:=(hm.own.lt k e.symm).1;omega)];exact hm.grown.block k hk hne
end
def AtRun (q:UInt16→Bool) (u:List UInt16) (k p:Nat) (bs:List UInt8):Prop:=∃i,p=k+i∧bs=asc ((u.drop k).take i)∧(u.drop k).takeWhile q=(u.drop k).take i++(u.drop p).takeWhile q∧bs.length=i
theorem AtRun.start (q:UInt16→Bool) (u:List UInt16) (k:Nat):AtRun q u k k []:=⟨0,rfl,rfl,by simp,rfl⟩
theorem AtRun.step {q:UInt16→Bool} {u:List UInt16} {k p:Nat} {bs:List UInt8} (h:AtRun q u k p bs) (hp:p < u.length) (h1:q u[p]=true):AtRun q u k (p+1) (bs++[u[p].toUInt8]):=by
 obtain⟨i,hi,hb,he,hl⟩:=h;have hik:i < (u.drop k).length:=by rw[List.length_drop];omega
 have hx:(u.drop k)[i]=u[p]:=by rw[List.getElem_drop];congr 1;omega
 have ht:(u.drop k).take (i+1)=(u.drop k).take i++[u[p]]:=by rw[yAK hik,hx]
 refine⟨i+1,by omega,?_,?_,by simp[hl]⟩
 · rw[ht,hb];simp[asc]
 · rw[he,ht,yAH hp,List.takeWhile_cons_of_pos h1,List.append_assoc];rfl
theorem AtRun.stop {q:UInt16→Bool} {u:List UInt16} {k p:Nat} {bs:List UInt8} (h:AtRun q u k p bs) (h1:zAy 0 q (u.drop p)=false):bs=asc ((u.drop k).takeWhile q)∧p=k+((u.drop k).takeWhile q).length:=by
 obtain⟨i,hi,hb,he,hl⟩:=h;have h0:(u.drop p).takeWhile q=[]:=by
  cases hd:u.drop p with
  | nil=>rfl
  | cons x r=>
   rw[hd]at h1;rw[List.takeWhile_cons_of_neg];intro h2;have:zAy 0 q (x::r)=q x:=rfl;rw[this,h2]at h1;cases h1
 rw[h0,List.append_nil]at he;have hl2:=congrArg List.length hb;rw[he];refine⟨hb,?_⟩;simp only[asc,List.length_map]at hl2;omega
theorem zIJ (x:UInt16):u8v x.toUInt8=.int .u8 (IntKind.u8.wrap (x.toNat:Int)):=by
 unfold u8v;rw[IntKind.wrap_u8];congr 1
theorem zLJ {u:List UInt16} {p:Nat} {q:UInt16→Bool} (h:p < u.length):zAy 0 q (u.drop p)=q u[p]:=by
 have:=zCK (u:=u) (k:=p) (j:=0) (p:=q) (by omega);simpa using this
theorem zGQ {u:List UInt16} {p:Nat} {q:UInt16→Bool} (h:¬p < u.length):zAy 0 q (u.drop p)=false:=zB5 (by omega)
theorem zJK {A:Option Addr} {c g B k n:Nat} {u:List UInt16} {w:World} (hr:Rd w g A n c k) (hn:u.length=n) (ha:Reads w B 1 A n (zAD u)) (hB:B≤g) (hk:k≤n) (hl:n≤4096) {l:List UInt16} (hq:(u.drop k).takeWhile zO=l):
 Calls prog 101 #[.pointer (some ⟨g,0,none⟩),.func (.func 68) #[] #[]] w fun e w'=>e=.returned (.string ⟨(asc l).toArray⟩)∧Mv w w' g A n c (k+l.length):=by
 subst hn;obtain⟨i0,hi0,hz0,hz1,hz2⟩:=info_parts Tryz.info_u8;have HQ:=zA hq;have HA:=zA ha;have hg:=hr.lt;have hM0:=zA (Mv.refl hr);clear hq ha hr;go_enter func101,ntmps101;go_wp2
 go_loopg [5] (u.length - k) (fun r v wr=>∃p bs,p+r=u.length∧Hid (Mv w wr g A u.length c p)∧Hid (AtRun zO u k p bs)∧MadeM w wr g 5 v (u8s bs))
 case atStart=>exact⟨k,[],by omega,hM0,AtRun.start _ _ _,MadeM.nil (World.grownBy.refl w _) _⟩
 case round=>
  obtain⟨p,bs,hpr,hM,hat,hm⟩:=hrel;have har:=zA (HA.out.grown hM.out.grown hB (Nat.le_of_lt hg));have hbl:bs.length≤p:=by obtain⟨i,hi,_,_,hl⟩:=hat.out;omega
  by_cases hlt:p < u.length
  · have hlt2:(p:Int) < (u.length:Int):=by omega
    cases hqx:zO u[p]with
    | true=>
     have HI:=zA (show zAy 0 zO (u.drop p)=true by rw[zLJ hlt];exact hqx);have hsp:=zA (hat.out.step hlt hqx);go_wp2_with fail;refine(zAO (j:=0) hM.out.rd rfl har.out (by omega) hl (by omega) HI.out).mono ?_;rintro e1 w1 ⟨rfl,m1,hw1⟩;subst hw1;have hM1:=zA (hM.out.drewN m1);have hc0:=hM.out.rd.c0;have hc1:=hM.out.rd.c1;obtain⟨blk,off,rfl,_,hcell⟩:=har.out.spotL (by omega);have hca:=hcell p hlt;have hx:=u[p].toNat_lt;have hm0:=zA hm;have HC:=zA (show u8s [u[p].toUInt8]=[.int .u8 (IntKind.u8.wrap (u[p].toNat:Int))] by rw[u8s,List.map_cons,zIJ];rfl);obtain⟨x,hxx⟩:∃x,u[p].toNat=x:=⟨_,rfl⟩;rw[hxx]at hca hx;rw[hxx]at HC;clear hcell hxx hm;go_wp2_with fail;go_region_law (first | (refine zGP rfl _ _ 51 rfl 5 i0 _ 1 underlying51 hi0 hz0 hz1 hz2 rfl _ _ rfl (hm0.out.go hg (zp wr (some g) (m1+1))) [.int .u8 (IntKind.u8.wrap (x:Int))] 1 1 rfl rfl rfl (by omega) (by rw[zG5];omega) (by omega) ?_;intro v' w' hm' hgr))
     all_goals have hrd:=zA (Rd.appended (hM.out.rd.drewN (m1+1)) (hm0.out.go hg (zp wr (some g) (m1+1))) hg hgr)
     all_goals have hc2:=hrd.out.c1
     all_goals have hf2:=hrd.out.f1
     all_goals go_wp2
     all_goals go_roundg (gk - 1)
     all_goals first
      | omega
      | exact⟨p+1,_,by omega,⟨hrd.out.setI (by omega),zC hm'.grown (zK w' g 1 _)⟩,hsp,(hm'.go hg (zK w' g 1 _)).cells (by rw[←HC.out];simp[u8s])⟩
    | false=>
     have HI:=zA (show zAy 0 zO (u.drop p)=false by rw[zLJ hlt];exact hqx);have hst:=zA (hat.out.stop HI.out);go_wp2_with fail;refine(zAO (j:=0) hM.out.rd rfl har.out (by omega) hl (by omega) HI.out).mono ?_;rintro e1 w1 ⟨rfl,m1,hw1⟩;subst hw1;obtain⟨A',c',rfl,_,_,hr8⟩:=(hm.go hg (zp wr (some g) m1)).u8;have hstr:=zEQ (c:=c') hr8;go_wp2;go_ret;obtain⟨z1,z2⟩:=hst.out;rw[HQ.out]at z1 z2;exact⟨by rw[z1];rfl,by rw[←z2];exact hM.out.drewN m1⟩
  · have HI:=zA (show zAy 0 zO (u.drop p)=false from zGQ hlt);have hst:=zA (hat.out.stop HI.out);go_wp2_with fail;refine(zAO (j:=0) hM.out.rd rfl har.out (by omega) hl (by omega) HI.out).mono ?_;rintro e1 w1 ⟨rfl,m1,hw1⟩;subst hw1;obtain⟨A',c',rfl,_,_,hr8⟩:=(hm.go hg (zp wr (some g) m1)).u8;have hstr:=zEQ (c:=c') hr8;go_wp2;go_ret;obtain⟨z1,z2⟩:=hst.out;rw[HQ.out]at z1 z2;exact⟨by rw[z1];rfl,by rw[←z2];exact hM.out.drewN m1⟩
theorem zNW {A:Option Addr} {c g B k n:Nat} {u:List UInt16} {w:World} (hr:Rd w g A n c k) (hn:u.length=n) (ha:Reads w B 1 A n (zAD u)) (hB:B≤g) (hk:k≤n) (hl:n≤4096) {l:List UInt16} (hq:(u.drop k).takeWhile zAe=l):
 Calls prog 101 #[.pointer (some ⟨g,0,none⟩),.func (.func 102) #[] #[]] w fun e w'=>e=.returned (.string ⟨(asc l).toArray⟩)∧Mv w w' g A n c (k+l.length):=by
 subst hn;obtain⟨i0,hi0,hz0,hz1,hz2⟩:=info_parts Tryz.info_u8;have HQ:=zA hq;have HA:=zA ha;have hg:=hr.lt;have hM0:=zA (Mv.refl hr);clear hq ha hr;go_enter func101,ntmps101;go_wp2
 go_loopg [5] (u.length - k) (fun r v wr=>∃p bs,p+r=u.length∧Hid (Mv w wr g A u.length c p)∧Hid (AtRun zAe u k p bs)∧MadeM w wr g 5 v (u8s bs))
 case atStart=>exact⟨k,[],by omega,hM0,AtRun.start _ _ _,MadeM.nil (World.grownBy.refl w _) _⟩
 case round=>
  obtain⟨p,bs,hpr,hM,hat,hm⟩:=hrel;have har:=zA (HA.out.grown hM.out.grown hB (Nat.le_of_lt hg));have hbl:bs.length≤p:=by obtain⟨i,hi,_,_,hl⟩:=hat.out;omega
  by_cases hlt:p < u.length
  · have hlt2:(p:Int) < (u.length:Int):=by omega
    cases hqx:zAe u[p]with
    | true=>
     have HI:=zA (show zAy 0 zAe (u.drop p)=true by rw[zLJ hlt];exact hqx);have hsp:=zA (hat.out.step hlt hqx);go_wp2_with fail;refine(zHO (j:=0) hM.out.rd rfl har.out (by omega) hl (by omega) HI.out).mono ?_;rintro e1 w1 ⟨rfl,m1,hw1⟩;subst hw1;have hM1:=zA (hM.out.drewN m1);have hc0:=hM.out.rd.c0;have hc1:=hM.out.rd.c1;obtain⟨blk,off,rfl,_,hcell⟩:=har.out.spotL (by omega);have hca:=hcell p hlt;have hx:=u[p].toNat_lt;have hm0:=zA hm;have HC:=zA (show u8s [u[p].toUInt8]=[.int .u8 (IntKind.u8.wrap (u[p].toNat:Int))] by rw[u8s,List.map_cons,zIJ];rfl);obtain⟨x,hxx⟩:∃x,u[p].toNat=x:=⟨_,rfl⟩;rw[hxx]at hca hx;rw[hxx]at HC;clear hcell hxx hm;go_wp2_with fail;go_region_law (first | (refine zGP rfl _ _ 51 rfl 5 i0 _ 1 underlying51 hi0 hz0 hz1 hz2 rfl _ _ rfl (hm0.out.go hg (zp wr (some g) (m1+1))) [.int .u8 (IntKind.u8.wrap (x:Int))] 1 1 rfl rfl rfl (by omega) (by rw[zG5];omega) (by omega) ?_;intro v' w' hm' hgr))
     all_goals have hrd:=zA (Rd.appended (hM.out.rd.drewN (m1+1)) (hm0.out.go hg (zp wr (some g) (m1+1))) hg hgr)
     all_goals have hc2:=hrd.out.c1
     all_goals have hf2:=hrd.out.f1
     all_goals go_wp2
     all_goals go_roundg (gk - 1)
     all_goals first
      | omega
      | exact⟨p+1,_,by omega,⟨hrd.out.setI (by omega),zC hm'.grown (zK w' g 1 _)⟩,hsp,(hm'.go hg (zK w' g 1 _)).cells (by rw[←HC.out];simp[u8s])⟩
    | false=>
     have HI:=zA (show zAy 0 zAe (u.drop p)=false by rw[zLJ hlt];exact hqx);have hst:=zA (hat.out.stop HI.out);go_wp2_with fail;refine(zHO (j:=0) hM.out.rd rfl har.out (by omega) hl (by omega) HI.out).mono ?_;rintro e1 w1 ⟨rfl,m1,hw1⟩;subst hw1;obtain⟨A',c',rfl,_,_,hr8⟩:=(hm.go hg (zp wr (some g) m1)).u8;have hstr:=zEQ (c:=c') hr8;go_wp2;go_ret;obtain⟨z1,z2⟩:=hst.out;rw[HQ.out]at z1 z2;exact⟨by rw[z1];rfl,by rw[←z2];exact hM.out.drewN m1⟩
  · have HI:=zA (show zAy 0 zAe (u.drop p)=false from zGQ hlt);have hst:=zA (hat.out.stop HI.out);go_wp2_with fail;refine(zHO (j:=0) hM.out.rd rfl har.out (by omega) hl (by omega) HI.out).mono ?_;rintro e1 w1 ⟨rfl,m1,hw1⟩;subst hw1;obtain⟨A',c',rfl,_,_,hr8⟩:=(hm.go hg (zp wr (some g) m1)).u8;have hstr:=zEQ (c:=c') hr8;go_wp2;go_ret;obtain⟨z1,z2⟩:=hst.out;rw[HQ.out]at z1 z2;exact⟨by rw[z1];rfl,by rw[←z2];exact hM.out.drewN m1⟩
def Blk (w:World) (R:Nat) (cs:List Value):Prop:=R < w.heap.size∧∀j (h:j < cs.length),w.cell? ⟨R,j,none⟩=some cs[j]∧w.frozen? ⟨R,j,none⟩=false
def zAp:List Value:=[.int .i64 0,.string ⟨#[]⟩,.slice none 0 0,.int .i64 0,.int .i64 0,.bool false,.slice none 0 0,.int .i64 0,.bool false]
def noV:Value:=.agg #[.int .i64 0,.string ⟨#[]⟩,.slice none 0 0,.int .i64 0,.int .i64 0,.bool false,.slice none 0 0,.int .i64 0,.bool false]
theorem Blk.new (w:World) (cs:List Value) (T:TypeId):Blk (w.alloc (.cells cs.toArray T)) w.heap.size cs:=by
 refine⟨by simp,fun j h=>⟨?_,?_⟩⟩
 · rw[World.cell?_alloc_at _ _ _ _ rfl];simp[yAB h]
 · exact World.frozen?_alloc_at _ _ _ _ rfl
theorem Blk.grown {w w':World} {R g:Nat} {cs:List Value} (h:Blk w R cs) (hg:w.grownBy w' (some g)) (hne:R≠g):Blk w' R cs:=
 ⟨yAA h.1 hg.size,fun j hj=>⟨zAu hg (h.2 j hj).1 hne,(zCG (p:=⟨R,j,none⟩) hg h.1 hne).trans (h.2 j hj).2⟩⟩
theorem Blk.below {w w':World} {R D:Nat} {cs:List Value} (h:Blk w R cs) (hb:Below D w w') (hR:R < D):Blk w' R cs:=
 ⟨yAA h.1 hb.size,fun j hj=>⟨(hb.cell (p:=⟨R,j,none⟩) hR).trans (h.2 j hj).1,(hb.frozen (p:=⟨R,j,none⟩) hR).trans (h.2 j hj).2⟩⟩
section
variable {w w0 w':World} {R:Nat} {cs:List Value} {v0 v1 v2 v3 v4 v5 v6 v7 v8:Value}
theorem zS (h:Blk w R cs) (hl:cs.length=9):
 (((((((((w.setCell ⟨R,0,none⟩ v0).setCell ⟨R,1,none⟩ v1).setCell ⟨R,2,none⟩ v2).setCell ⟨R,3,none⟩ v3).setCell ⟨R,4,none⟩ v4).setCell ⟨R,5,none⟩ v5).setCell ⟨R,6,none⟩ v6).setCell ⟨R,7,none⟩ v7).setCell ⟨R,8,none⟩ v8).cell? ⟨R,0,none⟩=some v0∧(((((((((w.setCell ⟨R,0,none⟩ v0).setCell ⟨R,1,none⟩ v1).setCell ⟨R,2,none⟩ v2).setCell ⟨R,3,none⟩ v3).setCell ⟨R,4,none⟩ v4).setCell ⟨R,5,none⟩ v5).setCell ⟨R,6,none⟩ v6).setCell ⟨R,7,none⟩ v7).setCell ⟨R,8,none⟩ v8).cell? ⟨R,1,none⟩=some v1∧(((((((((w.setCell ⟨R,0,none⟩ v0).setCell ⟨R,1,none⟩ v1).setCell ⟨R,2,none⟩ v2).setCell ⟨R,3,none⟩ v3).setCell ⟨R,4,none⟩ v4).setCell ⟨R,5,none⟩ v5).setCell ⟨R,6,none⟩ v6).setCell ⟨R,7,none⟩ v7).setCell ⟨R,8,none⟩ v8).cell? ⟨R,2,none⟩=some v2∧(((((((((w.setCell ⟨R,0,none⟩ v0).setCell ⟨R,1,none⟩ v1).setCell ⟨R,2,none⟩ v2).setCell ⟨R,3,none⟩ v3).setCell ⟨R,4,none⟩ v4).setCell ⟨R,5,none⟩ v5).setCell ⟨R,6,none⟩ v6).setCell ⟨R,7,none⟩ v7).setCell ⟨R,8,none⟩ v8).cell? ⟨R,3,none⟩=some v3∧(((((((((w.setCell ⟨R,0,none⟩ v0).setCell ⟨R,1,none⟩ v1).setCell ⟨R,2,none⟩ v2).setCell ⟨R,3,none⟩ v3).setCell ⟨R,4,none⟩ v4).setCell ⟨R,5,none⟩ v5).setCell ⟨R,6,none⟩ v6).setCell ⟨R,7,none⟩ v7).setCell ⟨R,8,none⟩ v8).cell? ⟨R,4,none⟩=some v4∧(((((((((w.setCell ⟨R,0,none⟩ v0).setCell ⟨R,1,none⟩ v1).setCell ⟨R,2,none⟩ v2).setCell ⟨R,3,none⟩ v3).setCell ⟨R,4,none⟩ v4).setCell ⟨R,5,none⟩ v5).setCell ⟨R,6,none⟩ v6).setCell ⟨R,7,none⟩ v7).setCell ⟨R,8,none⟩ v8).cell? ⟨R,5,none⟩=some v5∧(((((((((w.setCell ⟨R,0,none⟩ v0).setCell ⟨R,1,none⟩ v1).setCell ⟨R,2,none⟩ v2).setCell ⟨R,3,none⟩ v3).setCell ⟨R,4,none⟩ v4).setCell ⟨R,5,none⟩ v5).setCell ⟨R,6,none⟩ v6).setCell ⟨R,7,none⟩ v7).setCell ⟨R,8,none⟩ v8).cell? ⟨R,6,none⟩=some v6∧(((((((((w.setCell ⟨R,0,none⟩ v0).setCell ⟨R,1,none⟩ v1).setCell ⟨R,2,none⟩ v2).setCell ⟨R,3,none⟩ v3).setCell ⟨R,4,none⟩ v4).setCell ⟨R,5,none⟩ v5).setCell ⟨R,6,none⟩ v6).setCell ⟨R,7,none⟩ v7).setCell ⟨R,8,none⟩ v8).cell? ⟨R,7,none⟩=some v7∧(((((((((w.setCell ⟨R,0,none⟩ v0).setCell ⟨R,1,none⟩ v1).setCell ⟨R,2,none⟩ v2).setCell ⟨R,3,none⟩ v3).setCell ⟨R,4,none⟩ v4).setCell ⟨R,5,none⟩ v5).setCell ⟨R,6,none⟩ v6).setCell ⟨R,7,none⟩ v7).setCell ⟨R,8,none⟩ v8).cell? ⟨R,8,none⟩=some v8:=by
 obtain⟨c0,f0⟩:=h.2 0 (by omega);obtain⟨c1,f1⟩:=h.2 1 (by omega);obtain⟨c2,f2⟩:=h.2 2 (by omega);obtain⟨c3,f3⟩:=h.2 3 (by omega);obtain⟨c4,f4⟩:=h.2 4 (by omega);obtain⟨c5,f5⟩:=h.2 5 (by omega);obtain⟨c6,f6⟩:=h.2 6 (by omega);obtain⟨c7,f7⟩:=h.2 7 (by omega);obtain⟨c8,f8⟩:=h.2 8 (by omega);refine⟨?_,?_,?_,?_,?_,?_,?_,?_,?_⟩
 all_goals go_simp
theorem zA6:w.grownBy (((((((((w.setCell ⟨R,0,none⟩ v0).setCell ⟨R,1,none⟩ v1).setCell ⟨R,2,none⟩ v2).setCell ⟨R,3,none⟩ v3).setCell ⟨R,4,none⟩ v4).setCell ⟨R,5,none⟩ v5).setCell ⟨R,6,none⟩ v6).setCell ⟨R,7,none⟩ v7).setCell ⟨R,8,none⟩ v8) (some R):=
 zC (zC (zC (zC (zC (zC (zC (zC (zK w R 0 v0) (zK _ R 1 v1)) (zK _ R 2 v2)) (zK _ R 3 v3)) (zK _ R 4 v4)) (zK _ R 5 v5)) (zK _ R 6 v6)) (zK _ R 7 v7)) (zK _ R 8 v8)
theorem zn {g n c k:Nat} {A:Option Addr} (h:Mv w0 w g A n c k) (hR:w0.heap.size≤R) (hg:g < w0.heap.size):Mv w0 (((((((((w.setCell ⟨R,0,none⟩ v0).setCell ⟨R,1,none⟩ v1).setCell ⟨R,2,none⟩ v2).setCell ⟨R,3,none⟩ v3).setCell ⟨R,4,none⟩ v4).setCell ⟨R,5,none⟩ v5).setCell ⟨R,6,none⟩ v6).setCell ⟨R,7,none⟩ v7).setCell ⟨R,8,none⟩ v8) g A n c k:=by
 have hs:=zA6 (w:=w) (R:=R) (v0:=v0) (v1:=v1) (v2:=v2) (v3:=v3) (v4:=v4) (v5:=v5) (v6:=v6) (v7:=v7) (v8:=v8);refine⟨⟨zAu hs h.rd.c0 (show g≠R by omega),zAu hs h.rd.c1 (show g≠R by omega),(zCG (p:=⟨g,1,none⟩) hs h.rd.lt (show g≠R by omega)).trans h.rd.f1⟩,?_⟩;exact⟨hs.os.trans h.grown.os,hs.tape.trans h.grown.tape,hs.output.trans h.grown.output,yAD h.grown.size hs.size,fun i hi hne=>(hs.block i (yAA hi h.grown.size) (fun e=>by injection e with e;omega)).trans (h.grown.block i hi hne)⟩
theorem zAZ {base e:TypeId} {n:Nat} {v:Value} {xs:List Value} (h:w.ownsRow base e 1 v n xs) (hb:R < base):(((((((((w.setCell ⟨R,0,none⟩ v0).setCell ⟨R,1,none⟩ v1).setCell ⟨R,2,none⟩ v2).setCell ⟨R,3,none⟩ v3).setCell ⟨R,4,none⟩ v4).setCell ⟨R,5,none⟩ v5).setCell ⟨R,6,none⟩ v6).setCell ⟨R,7,none⟩ v7).setCell ⟨R,8,none⟩ v8).ownsRow base e 1 v n xs:=zBK h zA6 hb
end
def zQo (w:World) (base:Nat) (t:Tok) (v:Value):Prop:=
 ∃vs vm,v=.agg #[.int .i64 (t.kind:Int),.string ⟨t.text.toArray⟩,vs,.int .i64 t.nk,.int .i64 t.nn,.bool false,vm,.int .i64 (t.pos:Int),.bool t.nl]∧
  w.ownsRow base 24 1 vs t.str.length (zAD t.str)∧w.ownsRow base 87 1 vm t.mag.length (t.mag.map fun n:Nat=>Value.int .u32 (n:Int))
theorem zES {a b m k:Nat} {t s:Tok} (h:((a,t,m):Ans)=(b,s,k)):a=b∧t=s∧m=k:=by
 simp only[Prod.mk.injEq]at h;exact h
theorem zBS {x e k:Nat} {s:Tok} (h:bad x=(e,s,k)):x=e∧zj=s∧0=k:=zES h
theorem zJL {A:Option Addr} {c g B k n:Nat} {u:List UInt16} {w:World} (hr:Rd w g A n c k) (hn:u.length=n) (ha:Reads w B 1 A n (zAD u)) (hB:B≤g) (hk:k≤n) (hl:n≤4096) {m e:Nat} {t:Tok} (hq:zDm (u.drop k)=(e,t,m)):
 Calls prog 67 #[.pointer (some ⟨g,0,none⟩)] w fun ev w'=>∃v,ev=.returned (.tuple #[v,.int .i64 (e:Int)])∧(e≠0→v=noV)∧(e=0→zQo w' w.heap.size t v∧Mv w w' g A n c (k+m))∧w.grownBy w' (some g):=by
 subst hn;have hg:=hr.lt;obtain⟨l,hll⟩:∃l,(u.drop k).takeWhile zAe=l:=⟨_,rfl⟩;have hle:k+l.length≤u.length:=by
  have h1:=zBL zAe (u.drop k);rw[hll,List.length_drop]at h1;omega
 unfold zDm at hq;rw[hll,List.drop_drop]at hq;obtain⟨b,hb⟩:∃b,zq [92] (u.drop (k+l.length))=b:=⟨_,rfl⟩;rw[hb]at hq;have HL:=zA hll;have HB:=zA hb;have HQ:=zA hq;have HA:=zA ha;have hR:=zA (hr.alloc (.cells zAp.toArray 44));have hAl:=zA (ha.alloc (yAD hB (Nat.le_of_lt hg)) (.cells zAp.toArray 44));have hZ:=zA (Blk.new w zAp 44);have hG0:=zA (zG w (.cells zAp.toArray 44) (some g));clear hll hb hq ha hr;go_enter func67,ntmps67;go_wp2_with fail;refine(zNW hR.out rfl hAl.out hB hk hl HL.out).mono ?_;rintro e1 w1 ⟨rfl,hM1⟩;have hR1:=zA hM1.rd;have hG1:=zA (zC hG0.out hM1.grown);have hA1:=zA (HA.out.grown hG1.out hB (Nat.le_of_lt hg));have hZ1:=zA (hZ.out.grown hM1.grown (by omega));clear hM1;go_wp2_with fail;refine(zAP ⟨#[92]⟩ hR1.out rfl hA1.out hle hl (by decide) HB.out).mono ?_;rintro e2 w2 ⟨rfl,m2,hw2⟩;have hM2:=zA (show Mv w w2 g A u.length c (k+l.length) by rw[hw2];exact⟨hR1.out.drewN m2,zC hG1.out (zp _ _ _)⟩);have hZ2:=zA (show Blk w2 w.heap.size zAp by rw[hw2];exact hZ1.out.grown (zp w1 (some g) m2) (by omega));clear hw2 m2 hR1 hG1 hA1 hZ1 hR hAl hZ hG0;obtain⟨c0,f0⟩:=hZ2.out.2 0 (by decide);obtain⟨c1,f1⟩:=hZ2.out.2 1 (by decide);obtain⟨c2,f2⟩:=hZ2.out.2 2 (by decide);obtain⟨c3,f3⟩:=hZ2.out.2 3 (by decide);obtain⟨c4,f4⟩:=hZ2.out.2 4 (by decide);obtain⟨c5,f5⟩:=hZ2.out.2 5 (by decide);obtain⟨c6,f6⟩:=hZ2.out.2 6 (by decide);obtain⟨c7,f7⟩:=hZ2.out.2 7 (by decide);obtain⟨c8,f8⟩:=hZ2.out.2 8 (by decide);cases b with
 | true=>
  have hq:=HQ.out;rw[if_pos rfl]at hq;have HQ2:=zA hq;clear hq;go_wp2;obtain⟨q0,q1,q2,q3,q4,q5,q6,q7,q8⟩:=zS (v0:=.int .i64 0) (v1:=.string ⟨#[]⟩) (v2:=.slice none 0 0) (v3:=.int .i64 0) (v4:=.int .i64 0) (v5:=.bool false) (v6:=.slice none 0 0) (v7:=.int .i64 0) (v8:=.bool false) hZ2.out rfl;refine bodyPost_ret (v:=.tuple #[.agg #[.int .i64 0,.string ⟨#[]⟩,.slice none 0 0,.int .i64 0,.int .i64 0,.bool false,.slice none 0 0,.int .i64 0,.bool false],.int .i64 6]) (by simp[results,results67,go_sem,q0,q1,q2,q3,q4,q5,q6,q7,q8]) rfl ?_;obtain⟨z1,z2,z3⟩:=zBS HQ2.out;subst z1;exact⟨_,rfl,fun _=>rfl,fun h=>absurd h (by decide),(zn hM2.out (yAC _) hg).grown⟩
 | false=>
  have hq:=HQ.out;rw[if_neg (by simp)]at hq;have HQ2:=zA hq;clear hq
  by_cases hw:0 < zBf (asc l)
  · have hq:=HQ2.out;rw[if_pos hw]at hq;have HQ3:=zA hq;clear hq;go_wp2_with (go_at_call 103;refine(zCI _ _).mono ?_;rintro e3 w3 ⟨rfl,rfl⟩);obtain⟨q0,q1,q2,q3,q4,q5,q6,q7,q8⟩:=zS (v0:=.int .i64 6) (v1:=.string ⟨(asc l).toArray⟩) (v2:=.slice none 0 0) (v3:=.int .i64 0) (v4:=.int .i64 0) (v5:=.bool false) (v6:=.slice none 0 0) (v7:=.int .i64 0) (v8:=.bool false) hZ2.out rfl;refine bodyPost_ret (v:=.tuple #[.agg #[.int .i64 6,.string ⟨(asc l).toArray⟩,.slice none 0 0,.int .i64 0,.int .i64 0,.bool false,.slice none 0 0,.int .i64 0,.bool false],.int .i64 0]) (by simp[results,results67,go_sem,q0,q1,q2,q3,q4,q5,q6,q7,q8]) rfl ?_;obtain⟨z1,z2,z3⟩:=zES HQ3.out;subst z1 z2 z3;exact⟨_,rfl,fun h=>absurd rfl h,fun _=>⟨⟨_,_,rfl,yAJ _ _ _ _,yAJ _ _ _ _⟩,zn hM2.out (yAC _) hg⟩,(zn hM2.out (yAC _) hg).grown⟩
  · have hq:=HQ2.out;rw[if_neg hw]at hq;have HQ3:=zA hq;clear hq;go_wp2_with (go_at_call 103;refine(zCI _ _).mono ?_;rintro e3 w3 ⟨rfl,rfl⟩);obtain⟨q0,q1,q2,q3,q4,q5,q6,q7,q8⟩:=zS (v0:=.int .i64 1) (v1:=.string ⟨(asc l).toArray⟩) (v2:=.slice none 0 0) (v3:=.int .i64 0) (v4:=.int .i64 0) (v5:=.bool false) (v6:=.slice none 0 0) (v7:=.int .i64 0) (v8:=.bool false) hZ2.out rfl;refine bodyPost_ret (v:=.tuple #[.agg #[.int .i64 1,.string ⟨(asc l).toArray⟩,.slice none 0 0,.int .i64 0,.int .i64 0,.bool false,.slice none 0 0,.int .i64 0,.bool false],.int .i64 0]) (by simp[results,results67,go_sem,q0,q1,q2,q3,q4,q5,q6,q7,q8]) rfl ?_;obtain⟨z1,z2,z3⟩:=zES HQ3.out;subst z1 z2 z3;exact⟨_,rfl,fun h=>absurd rfl h,fun _=>⟨⟨_,_,rfl,yAJ _ _ _ _,yAJ _ _ _ _⟩,zn hM2.out (yAC _) hg⟩,(zn hM2.out (yAC _) hg).grown⟩
theorem zJM (l r:List UInt16):∀v,zDc v (l++r)=zDc (zDc v l) r:=by
 induction l with
 | nil=>intro v;rfl
 | cons x l ih=>intro v;exact ih _
theorem zHP (l:List UInt16) (x:UInt16):zDc 0 (l++[x])=16*zDc 0 l+zF0 x:=by rw[zJM];rfl
theorem zR2 {a b:Nat} (ha:a < 4096) (hb:b < 16):bits .or .u16 ((16*a:Nat):Int) (b:Int)=((16*a+b:Nat):Int):=by
 have e1:(BitVec.ofInt 16 ((16*a:Nat):Int)).toNat=16*a:=by rw[BitVec.ofInt_natCast,BitVec.toNat_ofNat];omega
 have e2:(BitVec.ofInt 16 (b:Int)).toNat=b:=by rw[BitVec.ofInt_natCast,BitVec.toNat_ofNat];omega
 show IntKind.u16.wrap ((BitVec.ofInt 16 ((16*a:Nat):Int) ||| BitVec.ofInt 16 (b:Int)).toNat:Int)=_;rw[BitVec.toNat_or,e1,e2,show 16*a=2^4*a from rfl,←Nat.two_pow_add_eq_or_of_lt (by omega:b < 2^4),IntKind.wrap_u16];omega
def AtCode (u:List UInt16) (k j v:Nat):Prop:=j≤(u.drop k).length∧v=zDc 0 ((u.drop k).take j)∧((u.drop k).take j).all zCw=true∧v < 16^j
theorem AtCode.step {u:List UInt16} {k j v:Nat} (h:AtCode u k j v) (hp:k+j < u.length) (hx:zCw u[k+j]=true):AtCode u k (j+1) (16*v+zF0 u[k+j]):=by
 obtain⟨h1,h2,h3,h4⟩:=h;have hjl:j < (u.drop k).length:=by rw[List.length_drop];omega
 have ht:(u.drop k).take (j+1)=(u.drop k).take j++[u[k+j]]:=by rw[yAK hjl,List.getElem_drop]
 have h16:zF0 u[k+j] < 16:=of_decide_eq_true hx;refine⟨by omega,by rw[ht,zHP,h2],by rw[ht,List.all_append,h3];simp[hx],?_⟩;rw[Nat.pow_succ];omega
theorem AtCode.stepQ {u:List UInt16} {k j v p:Nat} (h:AtCode u k j v) (e:p=k+j) (hp:p < u.length) (hx:zCw u[p]=true):AtCode u k (j+1) (16*v+zF0 u[p]):=by
 subst e;exact h.step hp hx
theorem AtCode.done {u:List UInt16} {k j v:Nat} (h:AtCode u k j v):zCd j (u.drop k)=(0,UInt16.ofNat v,j):=by
 obtain⟨h1,h2,h3,_⟩:=h;unfold zCd;rw[if_pos (by rw[h3,decide_eq_true h1];rfl),h2]
theorem AtCode.bad {u:List UInt16} {k j v cnt:Nat} (_h:AtCode u k j v) (hj:j < cnt) (hx:zAy 0 zCw (u.drop (k+j))=false):zCd cnt (u.drop k)=(5,0,0):=by
 unfold zCd;rw[if_neg];intro hc;simp only[Bool.and_eq_true,decide_eq_true_eq]at hc;obtain⟨c1,c2⟩:=hc;rw[List.length_drop]at c1;have hp:k+j < u.length:=by omega
 have hm:u[k+j]∈(u.drop k).take cnt:=by
  rw[List.mem_iff_getElem?];exact⟨j,by rw[List.getElem?_take,if_pos hj,List.getElem?_drop,yAB hp]⟩
 have h4:=List.all_eq_true.1 c2 _ hm;have h5:=zCK (u:=u) (k:=k+j) (j:=0) (p:=zCw) (by omega);rw[h5]at hx;simp only[Nat.add_zero]at hx;rw[h4]at hx;cases hx
theorem zGR {A:Option Addr} {c g B k n cnt:Nat} {u:List UInt16} {w:World} (hr:Rd w g A n c k) (hn:u.length=n) (ha:Reads w B 1 A n (zAD u)) (hB:B≤g) (hk:k≤n) (hl:n≤4096) (hcnt:cnt≤4) {m e:Nat} {y:UInt16} (hq:zCd cnt (u.drop k)=(e,y,m)):
 Calls prog 160 #[.pointer (some ⟨g,0,none⟩),.int .i64 (cnt:Int)] w fun ev w'=>ev=.returned (.tuple #[.int .u16 (y.toNat:Int),.int .i64 (e:Int)])∧(e=0→Mv w w' g A n c (k+m))∧w.grownBy w' (some g):=by
 subst hn;have HQ:=zA hq;have HA:=zA ha;have hg:=hr.lt;have hM0:=zA (Mv.refl hr);clear hq ha hr;go_enter func160,ntmps160;go_wp2
 go_loopg [6,8] cnt (fun r v i wr=>∃j vn p,j+r=cnt∧i=.int .i64 (j:Nat)∧v=.int .u16 (vn:Nat)∧vn < 65536∧Hid (p=k+j)∧Hid (Mv w wr g A u.length c p)∧Hid (AtCode u k j vn))
 case atStart=>exact⟨0,0,k,by omega,rfl,rfl,by omega,rfl,hM0,yAE _,rfl,rfl,by decide⟩
 case round=>
  obtain⟨j,v,p,hjr,rfl,rfl,hv,hpj,hM,hat⟩:=hrel;have har:=zA (HA.out.grown hM.out.grown hB (Nat.le_of_lt hg));have hjk:p≤u.length:=by have:=hat.out.1;have:=hpj.out;rw[List.length_drop]at *;omega
  by_cases hlt:j < cnt
  · cases hqx:zAy 0 zCw (u.drop p)with
    | true=>
     have hp:p < u.length:=by
      rcases Nat.lt_or_ge p u.length with h | h
      · exact h
      · rw[zB5 (u:=u) (k:=p) (j:=0) (p:=zCw) (by omega)]at hqx;cases hqx
     have hxx:zCw u[p]=true:=by
      have h5:=zCK (u:=u) (k:=p) (j:=0) (p:=zCw) (by omega);rw[h5]at hqx;simpa using hqx
     have hsp:=zA (hat.out.stepQ hpj.out hp hxx);have h16:zF0 u[p] < 16:=of_decide_eq_true hxx;have hv4:v < 4096:=by
      have:=hat.out.2.2.2;have h2:16^j≤16^3:=Nat.pow_le_pow_right (by omega) (by omega);omega
     have HI:=zA hqx;clear hqx hxx;go_wp2_with fail;refine(zLH (j:=0) hM.out.rd rfl har.out hjk hl (by omega) HI.out).mono ?_;rintro e1 w1 ⟨rfl,m1,hw1⟩;have hM1:=zA (show Mv w w1 g A u.length c p by rw[hw1];exact hM.out.drewN m1);have har1:=zA (show Reads w1 B 1 A u.length (zAD u) by rw[hw1];exact har.out.drewN m1);clear hw1;have hc0:=hM1.out.rd.c0;have hc1:=hM1.out.rd.c1;have hf1:=hM1.out.rd.f1;obtain⟨blk,off,rfl,_,hcell⟩:=har1.out.spotL (by omega);have hca:=hcell p hp;have hin:(p:Int) < (u.length:Int):=by omega
     obtain⟨x,hxx⟩:∃x,u[p]=x:=⟨_,rfl⟩;rw[hxx]at hca hsp h16;have HH:=zA (zR2 hv4 h16);clear hcell hxx;go_wp2_with fail
     go_quiet (first | (go_at_call 192;refine Calls.quiet_of_same ((zH2 _ _).mono fun _ _ h=>zCL h)))
     go_wp2
     go_roundg (gk - 1)
     case measure=>omega
     case rel=>
      refine⟨j+1,16*v+zF0 x,p+1,by omega,by go_num,congrArg (Value.int .u16) (by rw[show(v:Int)*16=((16*v:Nat):Int) by omega];exact HH.out),by omega,?_,?_,hsp.out⟩
      · have:=hpj.out;exact zA (by omega)
      · exact Mv.step (hM1.out.drewN _) (by omega)
    | false=>
     have HI:=zA hqx;have hbad:=zA (hat.out.bad hlt (by rw[←hpj.out];exact hqx));clear hqx;go_wp2_with fail;refine(zLH (j:=0) hM.out.rd rfl har.out hjk hl (by omega) HI.out).mono ?_;rintro e1 w1 ⟨rfl,m1,hw1⟩;subst hw1;go_wp2
     go_ret2
     have hz:=hbad.out;rw[HQ.out]at hz;simp only[Prod.mk.injEq]at hz;obtain⟨z1,z2,z3⟩:=hz;subst z1 z2 z3;exact⟨rfl,fun h=>absurd h (by decide),(hM.out.drewN m1).grown⟩
  · obtain rfl:j=cnt:=by omega
    have hdn:=zA hat.out.done;go_wp2
    go_ret2
    have hz:=hdn.out;rw[HQ.out]at hz;simp only[Prod.mk.injEq]at hz;obtain⟨z1,z2,z3⟩:=hz;subst z1 z2 z3;refine⟨?_,fun _=>by rw[←hpj.out];exact hM.out,hM.out.grown⟩;have:(UInt16.ofNat v).toNat=v:=by simp;omega
    rw[this];rfl
theorem zEq (s:ByteArray) (c:Int) (w:World):
 (callFunc 199 #[.string s,.int .u8 c]).run prog w=.ok (.value (.int .i64 (Lib.indexByte s.data.toList c.toNat.toUInt8))) w:=by
 rw[run_callFunc_indexByte func199 (by kernel_rfl) (by kernel_rfl) (by kernel_rfl) (by kernel_rfl),Lib.run_indexByteString];rfl
theorem zET (s:ByteArray) (c:Int) (w:World):Calls prog 190 #[.string s,.int .u8 c] w fun e w'=>e=.returned (.int .i64 (Lib.indexByte s.data.toList c.toNat.toUInt8))∧w=w':=by
 have hx:=zEq s c;go_enter func190,ntmps190;go_wp2;go_ret;exact⟨rfl,rfl⟩
theorem zCj (s:ByteArray) (c:Int) (w:World) {i:Int} (hi:Lib.indexByte s.data.toList c.toNat.toUInt8=i):Calls prog 159 #[.string s,.int .u8 c] w fun e w'=>e=.returned (.int .i64 i)∧w=w':=by
 subst hi;go_enter func159,ntmps159;go_wp2_with (go_at_call 190;refine(zET _ _ _).mono ?_;rintro e w' ⟨rfl,rfl⟩);go_ret;exact⟨rfl,rfl⟩
def zO9 (x:UInt16):Int:=Lib.indexByte [110,116,114,98,118,102] (IntKind.u8.wrap (x.toNat:Int)).toNat.toUInt8
theorem zLK {x:UInt16} (h:x.toNat < 128) (hs:zBr x=none):zO9 x= -1:=by
 have e:(IntKind.u8.wrap (x.toNat:Int)).toNat=x.toNat:=by rw[IntKind.wrap_u8];omega
 unfold zO9;rw[e];have hne:∀k:UInt16,k∈([110,116,114,98,118,102]:List UInt16)→x≠k:=by
  intro k hk he;subst he;revert hs;simp only[List.mem_cons,List.mem_nil_iff,or_false]at hk;rcases hk with rfl | rfl | rfl | rfl | rfl | rfl<;>decide
 have hb:∀k:UInt16,k∈([110,116,114,98,118,102]:List UInt16)→(k.toNat.toUInt8==x.toNat.toUInt8)=false:=by
  intro k hk;have h1:=hne k hk;rw[yA];intro h2;apply h1;refine UInt16.toNat_inj.1 ?_;have h3:=congrArg UInt8.toNat h2;have h4:k.toNat < 128:=by
   simp only[List.mem_cons,List.mem_nil_iff,or_false]at hk;rcases hk with rfl | rfl | rfl | rfl | rfl | rfl<;>decide
  simp at h3;omega
 have b1:=hb 110 (by simp);have b2:=hb 116 (by simp);have b3:=hb 114 (by simp);have b4:=hb 98 (by simp);have b5:=hb 118 (by simp);have b6:=hb 102 (by simp);have c1:((110:UInt8)==x.toNat.toUInt8)=false:=b1;have c2:((116:UInt8)==x.toNat.toUInt8)=false:=b2;have c3:((114:UInt8)==x.toNat.toUInt8)=false:=b3;have c4:((98:UInt8)==x.toNat.toUInt8)=false:=b4;have c5:((118:UInt8)==x.toNat.toUInt8)=false:=b5;have c6:((102:UInt8)==x.toNat.toUInt8)=false:=b6;generalize x.toNat.toUInt8=z at c1 c2 c3 c4 c5 c6⊢;simp only[Lib.indexByte,c1,c2,c3,c4,c5,c6,Bool.false_eq_true,if_false];rfl
theorem zGS {x y:UInt16} (h:zBr x=some y):(x=110∧y=10)∨(x=116∧y=9)∨(x=114∧y=13)∨(x=98∧y=8)∨(x=118∧y=11)∨(x=102∧y=12):=by
 unfold zBr at h
 repeat' split at h
 all_goals simp_all
theorem zP1 {u:List UInt16} {k:Nat} (h:k < u.length):zDM (u.drop k)=if(zBr u[k]).isSome=true then(0,(zBr u[k]).getD 0,1)else zQl u[k] (u.drop (k+1)):=by
 rw[yAH h];rfl
end Go.Proofs.YtlohaclgbfhijaaGreatDoor
