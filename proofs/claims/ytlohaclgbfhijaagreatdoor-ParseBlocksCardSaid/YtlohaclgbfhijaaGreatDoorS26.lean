/- Joined for the claim ParseBlocks: the parser, the lexer and the trees as they are walked, made short by a program of mine. -/
import Derived.Test.YtlohaclgbfhijaaGreatDoorS12
import Derived.Test.YtlohaclgbfhijaaGreatDoorS01
import Derived.Deep.RegionHeld3
import Derived.Test.YtlohaclgbfhijaaGreatDoorS22
import Derived.Test.YtlohaclgbfhijaaGreatDoorS03
import Derived.Deep.CutBlock
import Derived.Deep.DeepCutAuto
import Derived.Deep.LoopGhost
set_option maxHeartbeats 16000000
set_option maxRecDepth 1000000
namespace Go.Proofs.YtlohaclgbfhijaaGreatDoor
open Go.Proofs.Tryz
open Go.RowKit
def BmP (q:Bool) (w:World) (e:Ending) (w':World):Prop:=e=.returned (.bool q)∧Below w.heap.size w w'
theorem zBA {n:Nat} (h:n≤4096):¬(4096:Int) < (n:Int)∧decide ((4096:Int) < (n:Int))=false:=⟨by omega,yAJ (by omega)⟩
theorem zI3 {n:Nat} (h:0 < n):(0:Int) < (n:Int)∧decide ((0:Int) < (n:Int))=true∧decide (0 < n)=true:=⟨by omega,decide_eq_true (by omega),decide_eq_true h⟩
theorem zRO {x:Int} (h:x≠0):(x==0)=false∧(x !=0)=true:=⟨yA.2 h,bne_iff_ne.2 h⟩
def zBB (k:Int) (nb:ByteArray) (As Am:Option Addr) (cs cm:Nat) (vk:Value) (ls:Nat) (nk nn:Int) (ng:Bool) (lm:Nat) (w:World) (q:Bool):Prop:=Calls prog 51 #[.agg #[.int .i64 k,.string nb,.slice As ls cs,.int .i64 nk,.int .i64 nn,.bool ng,.slice Am lm cm,vk]] w (BmP q w)
theorem zRP (ng:Bool) (A:Option Addr) (c:Nat) (w:World):Calls prog 81 #[.agg #[.bool ng,.slice A 0 c]] w (BmP (!ng) w):=by
 cases ng
 all_goals
  go_enter func81,ntmps81;go_wp2_with fail;go_ret;exact⟨rfl,by go_grown⟩
theorem zOQ (ng:Bool) (A:Option Addr) (n c:Nat) (w:World) (h:8 < n):Calls prog 81 #[.agg #[.bool ng,.slice A n c]] w (BmP false w):=by
 have e1:¬(n:Int)≤8:=by omega
 have e2:decide ((n:Int)≤8)=false:=yAJ e1;go_enter func81,ntmps81;go_wp2_with fail;go_ret;exact⟨rfl,by go_grown⟩
theorem zOR (ng:Bool) (b o n c B x:Nat) (w:World) (h1:n+1≤8) (hb:b < B) (hB:B≤w.heap.size) (hc:w.cell? ⟨b,o+n,none⟩=some (.int .u32 (x:Int))) (hx:x < 4294967296) {q:Bool} (hq:(!(x==0))=q):Calls prog 81 #[.agg #[.bool ng,.slice (some ⟨b,o,none⟩) (n+1) c]] w (BmP q w):=by
 have e1:(n:Int)+1≤8:=by omega
 have e2:decide ((n:Int)+1≤8)=true:=decide_eq_true e1;have e3:((n:Int)+1==0)=false:=yA.2 (by omega);have e4:decide ((0:Int) < (n:Int)+1)=true:=decide_eq_true (by omega);have hc':=World.cell?_alloc_lt w (.cells #[.bool ng,.slice (some ⟨b,o,none⟩) (n+1) c] 42) ⟨b,o+n,none⟩ (by show b < _;omega);rw[hc]at hc';have HQ:=zD hq;clear hq hc
 by_cases hx0:x=0
 · subst hx0;have hc2:(w.alloc (.cells #[.bool ng,.slice (some ⟨b,o,none⟩) (n+1) c] 42)).cell? ⟨b,o+n,none⟩=some (.int .u32 0):=hc';clear hc';go_enter func81,ntmps81;go_wp2_with fail;go_ret;exact⟨zJ (by rw[←HQ.out];rfl),by go_grown⟩
 · have e5:((x:Int) !=0)=true:=bne_iff_ne.2 (by omega);have e6:((x:Int)==0)=false:=yA.2 (by omega);have HX:=zD hx0;clear hx0;go_enter func81,ntmps81;go_wp2_with fail;go_ret;exact⟨zJ (by rw[←HQ.out];have:=HX.out;simp;omega),by go_grown⟩
theorem zRQ {A:Option Addr} {B n c:Nat} {xs:List Nat} {w:World} (ng:Bool) (hn:xs.length=n) (ha:Reads w B 1 A n (zUe xs)) (hB:B≤w.heap.size) (hl:∀y∈xs,y < 4294967296) {q:Bool} (hq:zC3 ng xs=q):
 Calls prog 81 #[.agg #[.bool ng,.slice A n c]] w (BmP q w):=by
 unfold zC3 at hq;rw[hn]at hq
 by_cases h8:8 < n
 · rw[yAJ (by omega),Bool.false_and]at hq;subst hq;exact zOQ ng A n c w h8
 · rw[decide_eq_true (by omega),Bool.true_and]at hq
   by_cases h0:n=0
   · subst h0;have hx:xs=[]:=List.length_eq_zero_iff.1 hn;subst hx;subst hq;exact zRP ng A c w
   · obtain⟨m,rfl⟩:∃m,n=m+1:=⟨n - 1,by omega⟩;obtain⟨b,o,rfl,hb,hc⟩:=ha.spotR (by omega);have hm:m < xs.length:=by omega
     have hg:xs.getLast? =some xs[m]:=by rw[List.getLast?_eq_getElem?,show xs.length - 1=m by omega,yAC hm]
     rw[hg]at hq;exact zOR ng b o m c B xs[m] w (by omega) hb hB (hc m _ (by simp[zUe,yAC hm])) (hl _ (List.getElem_mem hm)) hq
theorem zI4 (k1:Int) (nb:ByteArray) (As Am:Option Addr) (cs cm:Nat) (vk:Value) (ls:Nat) (nk:Int) (nn:Int) (ng:Bool) (lm:Nat) (w:World) (hs:4096 < nb.size):zBB (k1) nb As Am cs cm vk ls (nk) (nn) ng lm w false:=by
 unfold zBB;have hs1:(4096:Int) < (nb.size:Int):=by omega
 have hs2:decide ((4096:Int) < (nb.size:Int))=true:=decide_eq_true hs1;go_enter func51,ntmps51;go_wp2_with fail;go_ret;exact⟨rfl,by go_grown⟩
theorem zOS (nb:ByteArray) (As Am:Option Addr) (cs cm:Nat) (vk:Value) (ls:Nat) (nk:Int) (nn:Int) (ng:Bool) (lm:Nat) (w:World) (hs:nb.size≤4096) (hx:nk≠0):zBB (32) nb As Am cs cm vk ls (nk) (nn) ng lm w false:=by
 unfold zBB;obtain⟨hs1,hs2⟩:=zBA hs;obtain⟨n1,n2⟩:=zRO hx;go_enter func51,ntmps51;go_wp2_with fail;go_ret;exact⟨rfl,by go_grown⟩
theorem zOT (nb:ByteArray) (As Am:Option Addr) (cs cm:Nat) (vk:Value) (ls:Nat) (nn:Int) (ng:Bool) (lm:Nat) (w:World) (hs:nb.size≤4096) (hx:nn≠0):zBB (32) nb As Am cs cm vk ls (0) (nn) ng lm w false:=by
 unfold zBB;obtain⟨hs1,hs2⟩:=zBA hs;obtain⟨n1,n2⟩:=zRO hx;go_enter func51,ntmps51;go_wp2_with fail;go_ret;exact⟨rfl,by go_grown⟩
theorem zRR (nb:ByteArray) (As Am:Option Addr) (cs cm:Nat) (vk:Value) (ls:Nat) (lm:Nat) (w:World) (hs:nb.size≤4096):zBB (32) nb As Am cs cm vk ls (0) (0) true lm w false:=by
 unfold zBB;obtain⟨hs1,hs2⟩:=zBA hs;go_enter func51,ntmps51;go_wp2_with fail;go_ret;exact⟨rfl,by go_grown⟩
theorem zRS (nb:ByteArray) (As Am:Option Addr) (cs cm:Nat) (vk:Value) (ls:Nat) (lm:Nat) (w:World) (hs:nb.size≤4096) (h0:0 < lm):zBB (32) nb As Am cs cm vk ls (0) (0) false lm w false:=by
 unfold zBB;obtain⟨hs1,hs2⟩:=zBA hs;obtain⟨l1,l2,l3⟩:=zI3 h0;go_enter func51,ntmps51;go_wp2_with fail;go_ret;exact⟨rfl,by go_grown⟩
theorem zOU (nb:ByteArray) (As Am:Option Addr) (cs cm:Nat) (vk:Value) (ls:Nat) (w:World) (hs:nb.size≤4096) (hne:nb.data.toList≠[]):zBB (32) nb As Am cs cm vk ls (0) (0) false 0 w false:=by
 unfold zBB;obtain⟨hs1,hs2⟩:=zBA hs;obtain⟨f1,f2,f3⟩:=zKm hne;clear hne f1;go_enter func51,ntmps51;go_wp2_with fail;go_ret;exact⟨rfl,by go_grown⟩
theorem zRT (As Am:Option Addr) (cs cm:Nat) (vk:Value) (ls:Nat) (w:World) (h0:ls≤4096):zBB (32) ⟨#[]⟩ As Am cs cm vk ls (0) (0) false 0 w true:=by
 unfold zBB;have l1:(ls:Int)≤4096:=by omega
 have l2:decide ((ls:Int)≤4096)=true:=decide_eq_true l1;go_enter func51,ntmps51;go_wp2_with fail;go_ret;exact⟨rfl,by go_grown⟩
theorem zTd (As Am:Option Addr) (cs cm:Nat) (vk:Value) (ls:Nat) (w:World) (h0:4096 < ls):zBB (32) ⟨#[]⟩ As Am cs cm vk ls (0) (0) false 0 w false:=by
 unfold zBB;have l1:¬(ls:Int)≤4096:=by omega
 have l2:decide ((ls:Int)≤4096)=false:=yAJ l1;go_enter func51,ntmps51;go_wp2_with fail;go_ret;exact⟨rfl,by go_grown⟩
theorem zOV (nb:ByteArray) (As Am:Option Addr) (cs cm:Nat) (vk:Value) (ls:Nat) (nk:Int) (nn:Int) (ng:Bool) (lm:Nat) (w:World) (hs:nb.size≤4096) (hx:nk≠0):zBB (40) nb As Am cs cm vk ls (nk) (nn) ng lm w false:=by
 unfold zBB;obtain⟨hs1,hs2⟩:=zBA hs;obtain⟨n1,n2⟩:=zRO hx;go_enter func51,ntmps51;go_wp2_with fail;go_ret;exact⟨rfl,by go_grown⟩
theorem zOW (nb:ByteArray) (As Am:Option Addr) (cs cm:Nat) (vk:Value) (ls:Nat) (nn:Int) (ng:Bool) (lm:Nat) (w:World) (hs:nb.size≤4096) (hx:nn≠0):zBB (40) nb As Am cs cm vk ls (0) (nn) ng lm w false:=by
 unfold zBB;obtain⟨hs1,hs2⟩:=zBA hs;obtain⟨n1,n2⟩:=zRO hx;go_enter func51,ntmps51;go_wp2_with fail;go_ret;exact⟨rfl,by go_grown⟩
theorem zRU (nb:ByteArray) (As Am:Option Addr) (cs cm:Nat) (vk:Value) (ls:Nat) (lm:Nat) (w:World) (hs:nb.size≤4096):zBB (40) nb As Am cs cm vk ls (0) (0) true lm w false:=by
 unfold zBB;obtain⟨hs1,hs2⟩:=zBA hs;go_enter func51,ntmps51;go_wp2_with fail;go_ret;exact⟨rfl,by go_grown⟩
theorem zRV (nb:ByteArray) (As Am:Option Addr) (cs cm:Nat) (vk:Value) (ls:Nat) (lm:Nat) (w:World) (hs:nb.size≤4096) (h0:0 < lm):zBB (40) nb As Am cs cm vk ls (0) (0) false lm w false:=by
 unfold zBB;obtain⟨hs1,hs2⟩:=zBA hs;obtain⟨l1,l2,l3⟩:=zI3 h0;go_enter func51,ntmps51;go_wp2_with fail;go_ret;exact⟨rfl,by go_grown⟩
theorem zOX (nb:ByteArray) (As Am:Option Addr) (cs cm:Nat) (vk:Value) (ls:Nat) (w:World) (hs:nb.size≤4096) (hne:nb.data.toList≠[]):zBB (40) nb As Am cs cm vk ls (0) (0) false 0 w false:=by
 unfold zBB;obtain⟨hs1,hs2⟩:=zBA hs;obtain⟨f1,f2,f3⟩:=zKm hne;clear hne f1;go_enter func51,ntmps51;go_wp2_with fail;go_ret;exact⟨rfl,by go_grown⟩
theorem zRW (As Am:Option Addr) (cs cm:Nat) (vk:Value) (ls:Nat) (w:World) (h0:ls≤4096):zBB (40) ⟨#[]⟩ As Am cs cm vk ls (0) (0) false 0 w true:=by
 unfold zBB;have l1:(ls:Int)≤4096:=by omega
 have l2:decide ((ls:Int)≤4096)=true:=decide_eq_true l1;go_enter func51,ntmps51;go_wp2_with fail;go_ret;exact⟨rfl,by go_grown⟩
theorem zTe (As Am:Option Addr) (cs cm:Nat) (vk:Value) (ls:Nat) (w:World) (h0:4096 < ls):zBB (40) ⟨#[]⟩ As Am cs cm vk ls (0) (0) false 0 w false:=by
 unfold zBB;have l1:¬(ls:Int)≤4096:=by omega
 have l2:decide ((ls:Int)≤4096)=false:=yAJ l1;go_enter func51,ntmps51;go_wp2_with fail;go_ret;exact⟨rfl,by go_grown⟩
theorem zRX (nb:ByteArray) (As Am:Option Addr) (cs cm:Nat) (vk:Value) (ls:Nat) (nk:Int) (nn:Int) (ng:Bool) (lm:Nat) (w:World) (hs:nb.size≤4096) (h0:0 < ls):zBB (30) nb As Am cs cm vk ls (nk) (nn) ng lm w false:=by
 unfold zBB;obtain⟨hs1,hs2⟩:=zBA hs;obtain⟨l1,l2,l3⟩:=zI3 h0;go_enter func51,ntmps51;go_wp2_with fail;go_ret;exact⟨rfl,by go_grown⟩
theorem zRY (nb:ByteArray) (As Am:Option Addr) (cs cm:Nat) (vk:Value) (nk:Int) (nn:Int) (lm:Nat) (w:World) (hs:nb.size≤4096):zBB (30) nb As Am cs cm vk 0 (nk) (nn) true lm w false:=by
 unfold zBB;obtain⟨hs1,hs2⟩:=zBA hs;go_enter func51,ntmps51;go_wp2_with fail;go_ret;exact⟨rfl,by go_grown⟩
theorem zRZ (nb:ByteArray) (As Am:Option Addr) (cs cm:Nat) (vk:Value) (nk:Int) (nn:Int) (lm:Nat) (w:World) (hs:nb.size≤4096) (h0:0 < lm):zBB (30) nb As Am cs cm vk 0 (nk) (nn) false lm w false:=by
 unfold zBB;obtain⟨hs1,hs2⟩:=zBA hs;obtain⟨l1,l2,l3⟩:=zI3 h0;go_enter func51,ntmps51;go_wp2_with fail;go_ret;exact⟨rfl,by go_grown⟩
theorem zOY (nb:ByteArray) (As Am:Option Addr) (cs cm:Nat) (vk:Value) (nk:Int) (nn:Int) (w:World) (hs:nb.size≤4096) (hne:nb.data.toList≠[]):zBB (30) nb As Am cs cm vk 0 (nk) (nn) false 0 w false:=by
 unfold zBB;obtain⟨hs1,hs2⟩:=zBA hs;obtain⟨f1,f2,f3⟩:=zKm hne;clear hne f1;go_enter func51,ntmps51;go_wp2_with fail;go_ret;exact⟨rfl,by go_grown⟩
theorem zOZ (As Am:Option Addr) (cs cm:Nat) (vk:Value) (nk:Int) (nn:Int) (w:World) (hx:nk≠0):zBB (30) ⟨#[]⟩ As Am cs cm vk 0 (nk) (nn) false 0 w false:=by
 unfold zBB;obtain⟨n1,n2⟩:=zRO hx;go_enter func51,ntmps51;go_wp2_with fail;go_ret;exact⟨rfl,by go_grown⟩
theorem zRa (As Am:Option Addr) (cs cm:Nat) (vk:Value) (nn:Int) (w:World) (hq:zEc 0 nn=false):zBB (30) ⟨#[]⟩ As Am cs cm vk 0 (0) (nn) false 0 w false:=by
 unfold zBB;have HC:=zD (fun w=>by have:=zGR 0 nn w;rw[hq]at this;exact this);clear hq;go_enter func51,ntmps51;go_wp2_with (go_at_call 80;refine(HC.out _).mono ?_;rintro e1 w1 ⟨rfl,hb1⟩;have hc1:=hb1.cell (p:=⟨w.heap.size,4,none⟩) (by simp));go_ret;exact⟨rfl,zED hb1⟩
theorem zRb (As Am:Option Addr) (cs cm:Nat) (vk:Value) (nn:Int) (w:World) (hq:zEc 0 nn=true) (hn:0≤nn):zBB (30) ⟨#[]⟩ As Am cs cm vk 0 (0) (nn) false 0 w true:=by
 unfold zBB;have HC:=zD (fun w=>by have:=zGR 0 nn w;rw[hq]at this;exact this);clear hq;have l2:decide ((0:Int)≤nn)=true:=decide_eq_true hn;go_enter func51,ntmps51;go_wp2_with (go_at_call 80;refine(HC.out _).mono ?_;rintro e1 w1 ⟨rfl,hb1⟩;have hc1:=hb1.cell (p:=⟨w.heap.size,4,none⟩) (by simp));go_ret;exact⟨rfl,zED hb1⟩
theorem zTf (As Am:Option Addr) (cs cm:Nat) (vk:Value) (nn:Int) (w:World) (hq:zEc 0 nn=true) (hn:¬0≤nn):zBB (30) ⟨#[]⟩ As Am cs cm vk 0 (0) (nn) false 0 w false:=by
 unfold zBB;have HC:=zD (fun w=>by have:=zGR 0 nn w;rw[hq]at this;exact this);clear hq;have l2:decide ((0:Int)≤nn)=false:=yAJ hn;go_enter func51,ntmps51;go_wp2_with (go_at_call 80;refine(HC.out _).mono ?_;rintro e1 w1 ⟨rfl,hb1⟩;have hc1:=hb1.cell (p:=⟨w.heap.size,4,none⟩) (by simp));go_ret;exact⟨rfl,zED hb1⟩
theorem zRc (nb:ByteArray) (As Am:Option Addr) (cs cm:Nat) (vk:Value) (ls:Nat) (nk:Int) (nn:Int) (ng:Bool) (lm:Nat) (w:World) (hs:nb.size≤4096) (h0:0 < ls):zBB (31) nb As Am cs cm vk ls (nk) (nn) ng lm w false:=by
 unfold zBB;obtain⟨hs1,hs2⟩:=zBA hs;obtain⟨l1,l2,l3⟩:=zI3 h0;go_enter func51,ntmps51;go_wp2_with fail;go_ret;exact⟨rfl,by go_grown⟩
theorem zOa (nb:ByteArray) (As Am:Option Addr) (cs cm:Nat) (vk:Value) (nk:Int) (nn:Int) (ng:Bool) (lm:Nat) (w:World) (hs:nb.size≤4096) (hx:nk≠0):zBB (31) nb As Am cs cm vk 0 (nk) (nn) ng lm w false:=by
 unfold zBB;obtain⟨hs1,hs2⟩:=zBA hs;obtain⟨n1,n2⟩:=zRO hx;go_enter func51,ntmps51;go_wp2_with fail;go_ret;exact⟨rfl,by go_grown⟩
theorem zOb (nb:ByteArray) (As Am:Option Addr) (cs cm:Nat) (vk:Value) (nn:Int) (ng:Bool) (lm:Nat) (w:World) (hs:nb.size≤4096) (hx:nn≠0):zBB (31) nb As Am cs cm vk 0 (0) (nn) ng lm w false:=by
 unfold zBB;obtain⟨hs1,hs2⟩:=zBA hs;obtain⟨n1,n2⟩:=zRO hx;go_enter func51,ntmps51;go_wp2_with fail;go_ret;exact⟨rfl,by go_grown⟩
theorem zOc (nb:ByteArray) (As Am:Option Addr) (cs cm:Nat) (vk:Value) (ng:Bool) (lm:Nat) (w:World) (hs:nb.size≤4096) (hne:nb.data.toList≠[]):zBB (31) nb As Am cs cm vk 0 (0) (0) ng lm w false:=by
 unfold zBB;obtain⟨hs1,hs2⟩:=zBA hs;obtain⟨f1,f2,f3⟩:=zKm hne;clear hne f1;go_enter func51,ntmps51;go_wp2_with fail;go_ret;exact⟨rfl,by go_grown⟩
theorem zFb (As Am:Option Addr) (cs cm:Nat) (vk:Value) (lm:Nat) (w:World) (ha:∀w1,Below w.heap.size w w1→Calls prog 81 #[.agg #[.bool false,.slice Am lm cm]] w1 (BmP true w1)):zBB (31) ⟨#[]⟩ As Am cs cm vk 0 (0) (0) false lm w true:=by
 unfold zBB;have HC:=zD ha;clear ha;go_enter func51,ntmps51;go_wp2_with (go_at_call 81;refine(HC.out _ ((Below.refl _ _).alloc (yAD _) _)).mono ?_;rintro e1 w1 ⟨rfl,hb1⟩;have hc1:=hb1.cell (p:=⟨w.heap.size,5,none⟩) (by simp));go_ret;exact⟨rfl,zED hb1⟩
theorem zFy (As Am:Option Addr) (cs cm:Nat) (vk:Value) (lm:Nat) (w:World) (ha:∀w1,Below w.heap.size w w1→Calls prog 81 #[.agg #[.bool true,.slice Am lm cm]] w1 (BmP true w1)):zBB (31) ⟨#[]⟩ As Am cs cm vk 0 (0) (0) true lm w false:=by
 unfold zBB;have HC:=zD ha;clear ha;go_enter func51,ntmps51;go_wp2_with (go_at_call 81;refine(HC.out _ ((Below.refl _ _).alloc (yAD _) _)).mono ?_;rintro e1 w1 ⟨rfl,hb1⟩;have hc1:=hb1.cell (p:=⟨w.heap.size,5,none⟩) (by simp));go_ret;exact⟨rfl,zED hb1⟩
theorem zEm (As Am:Option Addr) (cs cm:Nat) (vk:Value) (lm:Nat) (w:World) (ha:∀w1,Below w.heap.size w w1→Calls prog 81 #[.agg #[.bool false,.slice Am lm cm]] w1 (BmP false w1)):zBB (31) ⟨#[]⟩ As Am cs cm vk 0 (0) (0) false lm w false:=by
 unfold zBB;have HC:=zD ha;clear ha;go_enter func51,ntmps51;go_wp2_with (go_at_call 81;refine(HC.out _ ((Below.refl _ _).alloc (yAD _) _)).mono ?_;rintro e1 w1 ⟨rfl,hb1⟩;have hc1:=hb1.cell (p:=⟨w.heap.size,5,none⟩) (by simp));go_ret;exact⟨rfl,zED hb1⟩
theorem zFc (As Am:Option Addr) (cs cm:Nat) (vk:Value) (lm:Nat) (w:World) (ha:∀w1,Below w.heap.size w w1→Calls prog 81 #[.agg #[.bool true,.slice Am lm cm]] w1 (BmP false w1)):zBB (31) ⟨#[]⟩ As Am cs cm vk 0 (0) (0) true lm w false:=by
 unfold zBB;have HC:=zD ha;clear ha;go_enter func51,ntmps51;go_wp2_with (go_at_call 81;refine(HC.out _ ((Below.refl _ _).alloc (yAD _) _)).mono ?_;rintro e1 w1 ⟨rfl,hb1⟩;have hc1:=hb1.cell (p:=⟨w.heap.size,5,none⟩) (by simp));go_ret;exact⟨rfl,zED hb1⟩
theorem zTg (k:Int) (nb:ByteArray) (As Am:Option Addr) (cs cm:Nat) (vk:Value) (ls:Nat) (nk:Int) (nn:Int) (ng:Bool) (lm:Nat) (w:World) (h:∀j∈([32,40,30,31]:List Int),k≠j) (hs:nb.size≤4096) (h0:0 < ls):zBB (k) nb As Am cs cm vk ls (nk) (nn) ng lm w false:=by
 unfold zBB;have e32:(k==32)=false:=yA.2 (h 32 (by decide));have e40:(k==40)=false:=yA.2 (h 40 (by decide));have e30:(k==30)=false:=yA.2 (h 30 (by decide));have e31:(k==31)=false:=yA.2 (h 31 (by decide));have g32:(k !=32)=true:=bne_iff_ne.2 (h 32 (by decide));have g40:(k !=40)=true:=bne_iff_ne.2 (h 40 (by decide));have g30:(k !=30)=true:=bne_iff_ne.2 (h 30 (by decide));have g31:(k !=31)=true:=bne_iff_ne.2 (h 31 (by decide));clear h;obtain⟨hs1,hs2⟩:=zBA hs;obtain⟨l1,l2,l3⟩:=zI3 h0;go_enter func51,ntmps51;go_wp2_with fail;go_ret;exact⟨rfl,by go_grown⟩
theorem zRd (k:Int) (nb:ByteArray) (As Am:Option Addr) (cs cm:Nat) (vk:Value) (nk:Int) (nn:Int) (ng:Bool) (lm:Nat) (w:World) (h:∀j∈([32,40,30,31]:List Int),k≠j) (hs:nb.size≤4096) (hx:nk≠0):zBB (k) nb As Am cs cm vk 0 (nk) (nn) ng lm w false:=by
 unfold zBB;have e32:(k==32)=false:=yA.2 (h 32 (by decide));have e40:(k==40)=false:=yA.2 (h 40 (by decide));have e30:(k==30)=false:=yA.2 (h 30 (by decide));have e31:(k==31)=false:=yA.2 (h 31 (by decide));have g32:(k !=32)=true:=bne_iff_ne.2 (h 32 (by decide));have g40:(k !=40)=true:=bne_iff_ne.2 (h 40 (by decide));have g30:(k !=30)=true:=bne_iff_ne.2 (h 30 (by decide));have g31:(k !=31)=true:=bne_iff_ne.2 (h 31 (by decide));clear h;obtain⟨hs1,hs2⟩:=zBA hs;obtain⟨n1,n2⟩:=zRO hx;go_enter func51,ntmps51;go_wp2_with fail;go_ret;exact⟨rfl,by go_grown⟩
theorem zRe (k:Int) (nb:ByteArray) (As Am:Option Addr) (cs cm:Nat) (vk:Value) (nn:Int) (ng:Bool) (lm:Nat) (w:World) (h:∀j∈([32,40,30,31]:List Int),k≠j) (hs:nb.size≤4096) (hx:nn≠0):zBB (k) nb As Am cs cm vk 0 (0) (nn) ng lm w false:=by
 unfold zBB;have e32:(k==32)=false:=yA.2 (h 32 (by decide));have e40:(k==40)=false:=yA.2 (h 40 (by decide));have e30:(k==30)=false:=yA.2 (h 30 (by decide));have e31:(k==31)=false:=yA.2 (h 31 (by decide));have g32:(k !=32)=true:=bne_iff_ne.2 (h 32 (by decide));have g40:(k !=40)=true:=bne_iff_ne.2 (h 40 (by decide));have g30:(k !=30)=true:=bne_iff_ne.2 (h 30 (by decide));have g31:(k !=31)=true:=bne_iff_ne.2 (h 31 (by decide));clear h;obtain⟨hs1,hs2⟩:=zBA hs;obtain⟨n1,n2⟩:=zRO hx;go_enter func51,ntmps51;go_wp2_with fail;go_ret;exact⟨rfl,by go_grown⟩
theorem zTh (k:Int) (nb:ByteArray) (As Am:Option Addr) (cs cm:Nat) (vk:Value) (lm:Nat) (w:World) (h:∀j∈([32,40,30,31]:List Int),k≠j) (hs:nb.size≤4096):zBB (k) nb As Am cs cm vk 0 (0) (0) true lm w false:=by
 unfold zBB;have e32:(k==32)=false:=yA.2 (h 32 (by decide));have e40:(k==40)=false:=yA.2 (h 40 (by decide));have e30:(k==30)=false:=yA.2 (h 30 (by decide));have e31:(k==31)=false:=yA.2 (h 31 (by decide));have g32:(k !=32)=true:=bne_iff_ne.2 (h 32 (by decide));have g40:(k !=40)=true:=bne_iff_ne.2 (h 40 (by decide));have g30:(k !=30)=true:=bne_iff_ne.2 (h 30 (by decide));have g31:(k !=31)=true:=bne_iff_ne.2 (h 31 (by decide));clear h;obtain⟨hs1,hs2⟩:=zBA hs;go_enter func51,ntmps51;go_wp2_with fail;go_ret;exact⟨rfl,by go_grown⟩
theorem zTi (k:Int) (nb:ByteArray) (As Am:Option Addr) (cs cm:Nat) (vk:Value) (lm:Nat) (w:World) (h:∀j∈([32,40,30,31]:List Int),k≠j) (hs:nb.size≤4096) (h0:0 < lm):zBB (k) nb As Am cs cm vk 0 (0) (0) false lm w false:=by
 unfold zBB;have e32:(k==32)=false:=yA.2 (h 32 (by decide));have e40:(k==40)=false:=yA.2 (h 40 (by decide));have e30:(k==30)=false:=yA.2 (h 30 (by decide));have e31:(k==31)=false:=yA.2 (h 31 (by decide));have g32:(k !=32)=true:=bne_iff_ne.2 (h 32 (by decide));have g40:(k !=40)=true:=bne_iff_ne.2 (h 40 (by decide));have g30:(k !=30)=true:=bne_iff_ne.2 (h 30 (by decide));have g31:(k !=31)=true:=bne_iff_ne.2 (h 31 (by decide));clear h;obtain⟨hs1,hs2⟩:=zBA hs;obtain⟨l1,l2,l3⟩:=zI3 h0;go_enter func51,ntmps51;go_wp2_with fail;go_ret;exact⟨rfl,by go_grown⟩
theorem zRf (k:Int) (nb:ByteArray) (As Am:Option Addr) (cs cm:Nat) (vk:Value) (w:World) (h:∀j∈([32,40,30,31]:List Int),k≠j) (hs:nb.size≤4096) {q:Bool} (hq:zAf k nb.data.toList=q):zBB (k) nb As Am cs cm vk 0 (0) (0) false 0 w q:=by
 unfold zBB;have e32:(k==32)=false:=yA.2 (h 32 (by decide));have e40:(k==40)=false:=yA.2 (h 40 (by decide));have e30:(k==30)=false:=yA.2 (h 30 (by decide));have e31:(k==31)=false:=yA.2 (h 31 (by decide));have g32:(k !=32)=true:=bne_iff_ne.2 (h 32 (by decide));have g40:(k !=40)=true:=bne_iff_ne.2 (h 40 (by decide));have g30:(k !=30)=true:=bne_iff_ne.2 (h 30 (by decide));have g31:(k !=31)=true:=bne_iff_ne.2 (h 31 (by decide));clear h;obtain⟨hs1,hs2⟩:=zBA hs;have HC:=zD (fun w=>zM6 k nb (.slice As 0 cs) (.slice Am 0 cm) vk 0 0 false w (by omega) hq);clear hq;go_enter func51,ntmps51;go_wp2_with (go_at_call 82;refine(HC.out _).mono ?_;rintro e1 w1 ⟨rfl,hb1⟩);go_ret;exact⟨rfl,zED hb1⟩
theorem BmP.of {p q:Bool} {w w':World} {e:Ending} (h:p=q) (hh:BmP p w e w'):BmP q w e w':=h▸hh
theorem zLk {x:Nd} {s:NdSl} {B:Nat} {w:World} (hR:NdR w B x s) (hB:B≤w.heap.size) {q:Bool} (hq:zh x=q):
 Calls prog 51 #[.agg #[.int .i64 x.kind,.string ⟨x.name.toArray⟩,.slice s.As x.str.length s.cs,.int .i64 x.nk,.int .i64 x.nn,.bool x.neg,.slice s.Am x.mag.length s.cm,.slice s.Ak x.kids.length s.ck]] w (BmP q w):=by
 have hmagR:=hR.mag;have hlimb:=hR.limb;obtain⟨kind,name,str,nk,nn,neg,mag,kids⟩:=x;obtain⟨As,Am,Ak,cs,cm,ck⟩:=s;simp only at hmagR hlimb⊢;clear hR;obtain⟨nb,hnb⟩:∃nb:ByteArray,⟨name.toArray⟩=nb:=⟨_,rfl⟩;have hd:nb.data.toList=name:=by rw[←hnb]
 have hz:nb.size=name.length:=by rw[←hd];simp
 rw[hnb];subst hq;have hemp:name=[]→nb=⟨#[]⟩:=fun e=>zGd (by rw[hd];exact e);have hsz:∀l:List UInt16,l≠[]→0 < l.length:=fun l h=>List.length_pos_iff.2 h;have hsm:∀l:List Nat,l≠[]→0 < l.length:=fun l h=>List.length_pos_iff.2 h
 by_cases h1:4096 < name.length
 · exact(zI4 kind nb As Am cs cm _ _ nk nn neg _ w (by omega)).mono fun e w' h=>h.of (by simp[zh,h1])
 have hs:nb.size≤4096:=by omega
 by_cases k32:kind=32
 · subst k32
   by_cases hk:nk=0
   · subst hk
     by_cases hn:nn=0
     · subst hn;cases neg with
       | true=>exact(zRR nb As Am cs cm _ _ _ w hs).mono fun e w' h=>h.of (by simp[zh])
       | false=>
        by_cases hm:mag=[]
        · subst hm
          by_cases hne:name=[]
          · obtain rfl:=hemp hne
            by_cases hl:str.length≤4096
            · exact(zRT As Am cs cm _ _ w hl).mono fun e w' h=>h.of (by simp[zh,hne,hl])
            · exact(zTd As Am cs cm _ _ w (by omega)).mono fun e w' h=>h.of (by simp[zh,hne,hl])
          · exact(zOU nb As Am cs cm _ _ w hs (by rw[hd];exact hne)).mono fun e w' h=>h.of (by simp[zh,hne])
        · exact(zRS nb As Am cs cm _ _ _ w hs (hsm _ hm)).mono fun e w' h=>h.of (by simp[zh,hm])
     · exact(zOT nb As Am cs cm _ _ nn neg _ w hs hn).mono fun e w' h=>h.of (by simp[zh,hn])
   · exact(zOS nb As Am cs cm _ _ nk nn neg _ w hs hk).mono fun e w' h=>h.of (by simp[zh,hk])
 by_cases k40:kind=40
 · subst k40
   by_cases hk:nk=0
   · subst hk
     by_cases hn:nn=0
     · subst hn;cases neg with
       | true=>exact(zRU nb As Am cs cm _ _ _ w hs).mono fun e w' h=>h.of (by simp[zh])
       | false=>
        by_cases hm:mag=[]
        · subst hm
          by_cases hne:name=[]
          · obtain rfl:=hemp hne
            by_cases hl:str.length≤4096
            · exact(zRW As Am cs cm _ _ w hl).mono fun e w' h=>h.of (by simp[zh,hne,hl])
            · exact(zTe As Am cs cm _ _ w (by omega)).mono fun e w' h=>h.of (by simp[zh,hne,hl])
          · exact(zOX nb As Am cs cm _ _ w hs (by rw[hd];exact hne)).mono fun e w' h=>h.of (by simp[zh,hne])
        · exact(zRV nb As Am cs cm _ _ _ w hs (hsm _ hm)).mono fun e w' h=>h.of (by simp[zh,hm])
     · exact(zOW nb As Am cs cm _ _ nn neg _ w hs hn).mono fun e w' h=>h.of (by simp[zh,hn])
   · exact(zOV nb As Am cs cm _ _ nk nn neg _ w hs hk).mono fun e w' h=>h.of (by simp[zh,hk])
 by_cases k30:kind=30
 · subst k30
   by_cases hst:str=[]
   · subst hst;cases neg with
     | true=>exact(zRY nb As Am cs cm _ nk nn _ w hs).mono fun e w' h=>h.of (by simp[zh])
     | false=>
      by_cases hm:mag=[]
      · subst hm
        by_cases hne:name=[]
        · obtain rfl:=hemp hne
          by_cases hk:nk=0
          · subst hk;cases hmay:zEc 0 nn with
            | false=>exact(zRa As Am cs cm _ nn w hmay).mono fun e w' h=>h.of (by simp[zh,hmay])
            | true=>
             by_cases h0:0≤nn
             · exact(zRb As Am cs cm _ nn w hmay h0).mono fun e w' h=>h.of (by simp[zh,hmay,hne,h0])
             · exact(zTf As Am cs cm _ nn w hmay h0).mono fun e w' h=>h.of (by simp[zh,h0])
          · exact(zOZ As Am cs cm _ nk nn w hk).mono fun e w' h=>h.of (by simp[zh,hk])
        · exact(zOY nb As Am cs cm _ nk nn w hs (by rw[hd];exact hne)).mono fun e w' h=>h.of (by simp[zh,hne])
      · exact(zRZ nb As Am cs cm _ nk nn _ w hs (hsm _ hm)).mono fun e w' h=>h.of (by simp[zh,hm])
   · exact(zRX nb As Am cs cm _ _ nk nn neg _ w hs (hsz _ hst)).mono fun e w' h=>h.of (by simp[zh,hst])
 by_cases k31:kind=31
 · subst k31
   by_cases hst:str=[]
   · subst hst
     by_cases hk:nk=0
     · subst hk
       by_cases hn:nn=0
       · subst hn
         by_cases hne:name=[]
         · obtain rfl:=hemp hne;have hbm:∀q,zC3 neg mag=q→∀w1,Below w.heap.size w w1→Calls prog 81 #[.agg #[.bool neg,.slice Am mag.length cm]] w1 (BmP q w1):=fun q hq w1 hb1=>zRQ neg rfl ((hmagR.below (hb1.mono hB))) (yAE hB hb1.size) hlimb hq;cases neg with
           | false=>
            cases hmay:zC3 false mag with
            | true=>exact(zFb As Am cs cm _ _ w (hbm _ hmay)).mono fun e w' h=>h.of (by simp[zh,hmay,hne])
            | false=>exact(zEm As Am cs cm _ _ w (hbm _ hmay)).mono fun e w' h=>h.of (by simp[zh,hmay])
           | true=>
            cases hmay:zC3 true mag with
            | true=>exact(zFy As Am cs cm _ _ w (hbm _ hmay)).mono fun e w' h=>h.of (by simp[zh])
            | false=>exact(zFc As Am cs cm _ _ w (hbm _ hmay)).mono fun e w' h=>h.of (by simp[zh])
         · exact(zOc nb As Am cs cm _ neg _ w hs (by rw[hd];exact hne)).mono fun e w' h=>h.of (by simp[zh,hne])
       · exact(zOb nb As Am cs cm _ nn neg _ w hs hn).mono fun e w' h=>h.of (by simp[zh,hn])
     · exact(zOa nb As Am cs cm _ nk nn neg _ w hs hk).mono fun e w' h=>h.of (by simp[zh,hk])
   · exact(zRc nb As Am cs cm _ _ nk nn neg _ w hs (hsz _ hst)).mono fun e w' h=>h.of (by simp[zh,hst])
 · have hh:∀j∈([32,40,30,31]:List Int),kind≠j:=fun j hj=>by simp only[List.mem_cons,List.mem_nil_iff,or_false]at hj;omega
   by_cases hst:str=[]
   · subst hst
     by_cases hk:nk=0
     · subst hk
       by_cases hn:nn=0
       · subst hn;cases neg with
         | true=>exact(zTh kind nb As Am cs cm _ _ w hh hs).mono fun e w' h=>h.of (by simp[zh,k31])
         | false=>
          by_cases hm:mag=[]
          · subst hm;exact(zRf kind nb As Am cs cm _ w hh hs rfl).mono fun e w' h=>h.of (by simp[zh,k31,k32,k40,k30,h1,hd])
          · exact(zTi kind nb As Am cs cm _ _ w hh hs (hsm _ hm)).mono fun e w' h=>h.of (by simp[zh,hm,k31])
       · exact(zRe kind nb As Am cs cm _ nn neg _ w hh hs hn).mono fun e w' h=>h.of (by simp[zh,hn,k30])
     · exact(zRd kind nb As Am cs cm _ nk nn neg _ w hh hs hk).mono fun e w' h=>h.of (by simp[zh,hk,k30])
   · exact(zTg kind nb As Am cs cm _ _ nk nn neg _ w hh hs (hsz _ hst)).mono fun e w' h=>h.of (by simp[zh,hst,k32,k40])
theorem zCT {W w:World} (h:Below W.drew.heap.size W.drew w):Below W.heap.size W w:=⟨h.os,h.tape,h.output,h.size,h.block⟩
theorem zH3 {l:List Nat} {n:Nat} (h:l.all (fun s=>decide (s≤n))=true):∀s∈l,s≤n:=fun s hs=>by simpa using List.all_eq_true.1 h s hs
theorem zRg (k:Int) (n:Nat):(∀s∈(zo k n).1,s≤13)∧(zo k n).2≤13:=by
 have f:∀{p:Prop} [Decidable p] {a b:List Nat×Nat},((∀s∈a.1,s≤13)∧a.2≤13)→((∀s∈b.1,s≤13)∧b.2≤13)→((∀s∈(if p then a else b).1,s≤13)∧(if p then a else b).2≤13):=fun h1 h2=>by split<;>assumption
 have g:∀(l:List Nat) (r:Nat),l.all (fun s=>decide (s≤13))=true→r≤13→((∀s∈((l,r):List Nat×Nat).1,s≤13)∧((l,r):List Nat×Nat).2≤13):=fun l r h1 h2=>⟨zH3 h1,h2⟩;have t:∀(l:List Nat) (m:Nat),l.all (fun s=>decide (s≤13))=true→((∀s∈((l.take m,0):List Nat×Nat).1,s≤13)∧((l.take m,0):List Nat×Nat).2≤13):=fun l m h=>⟨fun s hs=>zH3 h s (List.mem_of_mem_take hs),by show 0≤13;omega⟩;have p:∀m last,last≤13→((∀s∈((zBx m last,0):List Nat×Nat).1,s≤13)∧((zBx m last,0):List Nat×Nat).2≤13):=fun m last h=>⟨fun s hs=>by
  unfold zBx at hs;rcases List.mem_append.1 hs with h1 | h1
  · have:=List.eq_of_mem_replicate h1;omega
  · have:=List.mem_singleton.1 h1;omega,by show 0≤13;omega⟩
 unfold zo
 repeat' refine f ?_ ?_
 all_goals first | exact g _ _ (by decide) (by decide) | exact t _ _ (by decide) | exact p _ _ (by decide)
theorem zFd (ts:List Nd) (ll:List Nat) (r j:Nat) (y:Int) (ks:List Int):zBZ ts (ll.drop j) r (y::ks)=(zAS (ll.getD j r) (atN ts y).kind&&zBZ ts (ll.drop (j+1)) r ks):=by
 by_cases h:j < ll.length
 · rw[yAI h,yAH,yAC h];rfl
 · rw[List.drop_of_length_le (by omega),List.drop_of_length_le (by omega),yAH,List.getElem?_eq_none (by omega)];rfl
theorem zLl {ts:List Nd} {x:Nd} (h:zAs x.kind=false):zDh ts x=false:=by unfold zDh;rw[h];simp
theorem zOd {ts:List Nd} {x:Nd} (h:¬(zo x.kind x.kids.length).1.length≤x.kids.length):zDh ts x=false:=by unfold zDh;rw[yAJ h];simp
theorem zFe {ts:List Nd} {x:Nd} (h:zBZ ts (zo x.kind x.kids.length).1 (zo x.kind x.kids.length).2 x.kids=false):zDh ts x=false:=by unfold zDh;rw[h];simp
theorem zFf {ts:List Nd} {x:Nd} (h1:zAs x.kind=true) (h2:(zo x.kind x.kids.length).1.length≤x.kids.length) (h3:zBZ ts (zo x.kind x.kids.length).1 (zo x.kind x.kids.length).2 x.kids=true):
 zDh ts x=(if x.kind=16 then((atN ts (x.kids.getD 1 0)).kind==17 || (atN ts (x.kids.getD 2 0)).kind==4)else if x.kind=8∧x.kids.length=3 then !(zC2 ts (x.kids.getD 1 0))else true):=by
 unfold zDh;rw[h1,decide_eq_true h2,h3];rfl
theorem zRh {A:Option Addr} {c B n m:Nat} {ts:List Nd} {x:Nd} {w:World} (hN:NdsR w B A n ts) (hB:B≤w.heap.size) (hf:Fwd ts) (hkl:∀x∈ts,x.kids.length≤1000000) (hx:ts[m]? =some x) {q:Bool} (hq:zDh ts x=q):
 Calls prog 52 #[.agg #[.slice A n c],.int .i64 (m:Int)] w (BmP q w):=by
 have hmn:m < n:=by have:=(List.getElem?_eq_some_iff.1 hx).1;rw[hN.1]at this;exact this
 obtain⟨b,o,x',s,rfl,hbB,hx',hC,hR⟩:=hN.get hmn;obtain rfl:x=x':=Option.some.inj (hx.symm.trans hx');obtain⟨W,hW⟩:∃W,w.alloc (.cells #[.slice (some ⟨b,o,none⟩) n c] 27)=W:=⟨_,rfl⟩;have hbW:Below w.heap.size w W:=by rw[←hW];exact(Below.refl _ _).alloc (yAD _) _
 have hwX:w.heap.size < W.heap.size:=by rw[←hW];simp
 have hcW:W.cell? ⟨w.heap.size,0,none⟩=some (.slice (some ⟨b,o,none⟩) n c):=by rw[←hW,World.cell?_alloc_at _ _ _ _ rfl];rfl
 obtain⟨kc0,kc1,kc2,kc3,kc4,kc5,kc6,kc7⟩:=hC.below hbW (by omega);have hfw:=hf m x hx;rw[hN.1]at hfw;have HFW:=zD hfw;have hxl:=hkl x (List.mem_of_getElem? hx);have HF:=zD hf;have HKL:=zD hkl;have HBW:=zD hbW;have HN:=zD hN;have HR:=zD hR;have HQ:=zD hq;have HB:=zD hB;clear hx hx' hC hR hbW hfw hf hkl hN hq;go_enter func52,ntmps52;go_upto_region 2 with(fail);have HW:=zD hW;obtain⟨W1,hW1⟩:∃W1,W.alloc (.cells #[.int .i64 x.kind,.string ⟨x.name.toArray⟩,.slice s.As x.str.length s.cs,.int .i64 x.nk,.int .i64 x.nn,.bool x.neg,.slice s.Am x.mag.length s.cm,.slice s.Ak x.kids.length s.ck] 48)=W1:=⟨_,rfl⟩;rw[hW1];have hb1:Below W.heap.size W W1:=by rw[←hW1];exact(Below.refl _ _).alloc (yAD _) _
 have hs1:W1.heap.size=W.heap.size+1:=by rw[←hW1];simp
 have p0:W1.cell? ⟨W.heap.size,0,none⟩=some (.int .i64 x.kind):=by rw[←hW1,World.cell?_alloc_at _ _ _ _ rfl];rfl
 have p7:W1.cell? ⟨W.heap.size,7,none⟩=some (.slice s.Ak x.kids.length s.ck):=by rw[←hW1,World.cell?_alloc_at _ _ _ _ rfl];rfl
 have pb:W1.cell? ⟨w.heap.size,0,none⟩=some (.slice (some ⟨b,o,none⟩) n c):=(hb1.cell (p:=⟨w.heap.size,0,none⟩) (show w.heap.size < W.heap.size by omega)).trans hcW;have HB1:=zD (HBW.out.trans (hb1.mono (by omega)));clear hW1 hb1 hW hcW kc0 kc1 kc2 kc3 kc4 kc5 kc6 kc7;obtain⟨X,hX⟩:∃X,W.heap.size=X:=⟨_,rfl⟩;rw[hX]at p0 p7 hs1 hwX;rw[hX];clear hX;obtain⟨K,hK⟩:∃K,x.kind=K:=⟨_,rfl⟩;obtain⟨L,hL⟩:∃L,x.kids.length=L:=⟨_,rfl⟩;rw[hK]at p0;rw[hL]at p7 hxl;obtain⟨⟨ll,rr⟩,hsh⟩:∃q,zo K L=q:=⟨_,rfl⟩;have HSH:=zD hsh;have hshp:=zRg K L;rw[hsh]at hshp;have HLE:=zD hshp;have HC:=zD (show∀w1,Calls prog 83 #[.int .i64 K,.int .i64 (L:Int)] w1 (zBt w1 (ll,rr))from fun w1=>by have:=zM3 K L hxl w1;rw[hsh]at this;exact this);have HK:=zD hK;have HL:=zD hL;clear hsh hshp hK hL;go_upto_region 3 with(go_at_call 83;refine(HC.out _).mono ?_;rintro e2 w2 ⟨Al,cl,rfl,hcl,hrl,hb2⟩);have q0:=(hb2.cell (p:=⟨X,0,none⟩) (show X < W1.heap.size by omega)).trans p0;have q7:=(hb2.cell (p:=⟨X,7,none⟩) (show X < W1.heap.size by omega)).trans p7;have qb:=(hb2.cell (p:=⟨w.heap.size,0,none⟩) (show w.heap.size < W1.heap.size by omega)).trans pb;have HB2:=zD (HB1.out.trans (hb2.mono (by omega)));have HN2:=zD (HN.out.below ((HB2.out).mono HB.out));have hx2:X < w2.heap.size:=by have:=hb2.size;omega
 have hbs:B≤w2.heap.size:=by have:=HB.out;omega
 obtain⟨LL,hLL⟩:∃n,ll.length=n:=⟨_,rfl⟩;have hlc:0 < LL→∃bl ol,Al=some ⟨bl,ol,none⟩∧∀(j s:Nat),ll[j]? =some s→w2.cell? ⟨bl,ol+j,none⟩=some (.int .i64 (s:Int)):=by
  intro h0;have hr:Reads w2 w2.heap.size 1 Al ll.length (zEB ll):=hrl;obtain⟨bl,ol,hA,_,hc⟩:=hr.spotR (by omega);exact⟨bl,ol,hA,fun j s hs=>hc j _ (by simp[zEB,hs])⟩
 have HLLC:=zD hlc;have hLL':((ll,rr):List Nat×Nat).1.length=LL:=hLL;have HLLN:=zD hLL;clear p0 p7 pb hb2 hrl hlc hcl;have HR2:=zD (HR.out.below ((HB2.out).mono HB.out));have HKIDX:=zD (show∀j,j < L→∃(y:Int) (p:Nat) (kp:Int),x.kids[j]? =some y∧y=(p:Int)∧(m < p∧p < n)∧(atN ts (p:Int)).kind=kp∧w2.cell? ⟨b,o+p*8,none⟩=some (.int .i64 kp)from fun j hj=>by
  have hjk:j < x.kids.length:=by rw[HL.out];exact hj
  have hb:=HFW.out x.kids[j] (List.getElem_mem hjk);obtain⟨p,hp⟩:∃p:Nat,x.kids[j]=(p:Int):=⟨x.kids[j].toNat,by omega⟩;rw[hp]at hb;obtain⟨b',o',xp,sp,hA,_,hxp,hCp,_⟩:=HN2.out.get (i:=p) (by omega);injection hA with hA;injection hA with hA1 hA2;subst hA1 hA2;exact⟨_,p,xp.kind,yAC hjk,hp,⟨by omega,by omega⟩,by rw[zJl hxp],hCp.k0⟩)
 have HKID:Hid (∀j,j < L→∃(y:Int) (p:Nat) (kp:Int),x.kids[j]? =some y∧y=(p:Int)∧(m < p∧p < n)∧((atN ts (p:Int)).kind=kp∧w2.cell? ⟨b,o+p*8,none⟩=some (.int .i64 kp))):=HKIDX;have hq7:L=0→w2.cell? ⟨X,7,none⟩=some (.slice s.Ak 0 s.ck):=fun e=>by rw[q7,e]
 obtain⟨fq,hfq⟩:∃fq,zBZ ts ll rr x.kids=fq:=⟨_,rfl⟩;have HFD:=zD hfq;have hkn:x.kids.length=L:=HL.out;clear hfq HKIDX
 by_cases hkd:zAs K=true
 · have HKD:=zD hkd;have CK:=zD (show∀w1,Calls prog 84 #[.int .i64 K] w1 fun e w'=>e=.returned (.bool true)∧w1=w' from fun w1=>by have:=zGy K w1;rw[hkd]at this;exact this);clear hkd
   by_cases hlen:ll.length≤L
   · have hlen2:¬(L:Int) < (LL:Int):=by rw[←HLLN.out];omega
     have hlen3:decide ((L:Int) < (LL:Int))=false:=yAJ hlen2;have hlen4:¬L < LL:=by omega
     rw[hLL'];clear hLL' hLL hkn
     go_upto_if 36 with(go_at_call 84;refine(CK.out _).mono ?_;rintro e3 w3 ⟨rfl,rfl⟩)
     by_cases hL0:L=0
     · have hz1:¬(0:Int) < (L:Int):=by omega
       have hz2:decide ((0:Int) < (L:Int))=false:=yAJ hz1;have hz3:¬0 < L:=by omega
       have h16:K≠16:=by
        intro e;have h1:=HSH.out;rw[e]at h1;have h2:([8,11,12],0)=(ll,rr):=h1;injection h2 with h3 h4;rw[←h3]at hlen;have:([8,11,12]:List Nat).length=3:=rfl;omega
       have hxk:x.kids=[]:=List.length_eq_zero_iff.1 (by rw[HL.out];exact hL0);have hfq:zBZ ts ll rr x.kids=true:=by rw[hxk];cases ll<;>rfl
       have HV2:=zD (show true=q by
        rw[←HQ.out,zFf (by rw[HK.out];exact HKD.out) (by rw[HK.out,HL.out,HSH.out];exact hlen) (by rw[HK.out,HL.out,HSH.out];exact hfq),if_neg (by rw[HK.out];exact h16),if_neg (by rw[HL.out];omega)])
       have e16:(K==16)=false:=yA.2 h16;have eL3:((L:Int)==3)=false:=yA.2 (by omega);have HL0:=zD hL0;clear h16 hxk hfq hL0 hq7;go_wp2_with fail
       go_loop [40] (fun i=>i=.int .i64 0) (fun _=>0)
       case atStart=>rfl
       case round=>
        subst hrel
        by_cases h81:K=8
        · subst h81;go_wp2_with fail;go_ret;exact⟨zJ HV2.out,HB2.out⟩
        · have e81:(K==8)=false:=yA.2 h81;clear h81;go_wp2_with fail;go_ret;exact⟨zJ HV2.out,HB2.out⟩
     · obtain⟨bk,ok,hak,hbk,hck⟩:=HR2.out.kids.spotK (by rw[HL.out];omega);have HCEL:=zD (show∀(j:Nat) (y:Int),x.kids[j]? =some y→w2.cell? ⟨bk,ok+j,none⟩=some (.int .i64 y)from fun j y hy=>by
        obtain⟨hl,rfl⟩:=List.getElem?_eq_some_iff.1 hy;exact hck j hl)
       have hckb:L≤s.ck:=by have:=HR2.out.ck.1;rw[HL.out]at this;exact this
       clear hck hq7;rw[hak]
       by_cases hLL0:0 < LL
       · obtain⟨bl,ol,rfl,hlcc⟩:=HLLC.out hLL0;have HLC:=zD hlcc;clear hlcc;go_wp2_with fail
         go_loop [40] (fun i=>∃j:Nat,j≤L∧i=.int .i64 j∧Hid (zBZ ts (ll.drop j) rr (x.kids.drop j)=fq)) (fun i=>L - (intOf i).toNat)
         case atStart=>exact⟨0,yAF _,rfl,HFD.out⟩
         case round=>
          obtain⟨j,hj,rfl,hfit⟩:=hrel
          by_cases hlt:j < L
          · obtain⟨y,p,kp,hg0,hyp,hpl,hkp⟩:=HKID.out j hlt;have hcy:=HCEL.out j y hg0;have hstep:=hfit.out;rw[yAI (show j < x.kids.length by rw[HL.out];exact hlt),(List.getElem?_eq_some_iff.1 hg0).2,zFd,hyp,hkp.1]at hstep;rw[hyp]at hcy;have hck:=hkp.2;clear hg0 hyp hkp hfit
            by_cases hjl:j < ll.length
            · obtain⟨s0,hs0⟩:∃s0,ll[j]? =some s0:=⟨_,yAC hjl⟩;have hcs:=HLC.out j s0 hs0;have hg:ll.getD j rr=s0:=by rw[yAH,hs0];rfl
              rw[hg]at hstep;have h13:=HLE.out.1 s0 (List.mem_of_getElem? hs0);have hj1:(j:Int) < (LL:Int):=by rw[←HLLN.out];omega
              have hj2:decide ((j:Int) < (LL:Int))=true:=decide_eq_true hj1;have hj3:j < LL:=by omega
              obtain⟨fv,hfv⟩:∃fv,zAS s0 kp=fv:=⟨_,rfl⟩;rw[hfv]at hstep;have CF:=zD (show∀w1,Calls prog 85 #[.int .i64 (s0:Int),.int .i64 kp] w1 fun e w'=>e=.returned (.bool fv)∧w1=w' from fun w1=>by have:=zGS s0 kp h13 w1;rw[hfv]at this;exact this);have HST:=zD hstep;clear hs0 hg hstep hfv hjl;cases fv with
              | false=>
               have HV2:=zD (show false=q by
                rw[←HQ.out];refine(zFe ?_).symm;rw[HK.out,HL.out,HSH.out,HFD.out];have:=HST.out;rw[Bool.false_and]at this;exact this.symm)
               go_wp2_with (go_at_call 85;refine(CF.out _).mono ?_;rintro e3 w3 ⟨rfl,rfl⟩)
               (try rw[Exit.noGoto_ret])
               go_ret;exact⟨zJ HV2.out,HB2.out⟩
              | true=>
               go_wp2_with (go_at_call 85;refine(CF.out _).mono ?_;rintro e3 w3 ⟨rfl,rfl⟩);go_round
               case rel=>exact⟨j+1,by omega,by go_num,by have:=HST.out;rw[Bool.true_and]at this;exact this⟩
               case measure=>simp[intOf];omega
            · have hg:ll.getD j rr=rr:=by rw[yAH,List.getElem?_eq_none (by omega)];rfl
              rw[hg]at hstep;have h13:=HLE.out.2;have hj1:¬(j:Int) < (LL:Int):=by rw[←HLLN.out];omega
              have hj2:decide ((j:Int) < (LL:Int))=false:=yAJ hj1;have hj3:¬j < LL:=by omega
              obtain⟨fv,hfv⟩:∃fv,zAS rr kp=fv:=⟨_,rfl⟩;rw[hfv]at hstep;have CF:=zD (show∀w1,Calls prog 85 #[.int .i64 (rr:Int),.int .i64 kp] w1 fun e w'=>e=.returned (.bool fv)∧w1=w' from fun w1=>by have:=zGS rr kp h13 w1;rw[hfv]at this;exact this);have HST:=zD hstep;clear hg hstep hfv hjl;cases fv with
              | false=>
               have HV2:=zD (show false=q by
                rw[←HQ.out];refine(zFe ?_).symm;rw[HK.out,HL.out,HSH.out,HFD.out];have:=HST.out;rw[Bool.false_and]at this;exact this.symm)
               go_wp2_with (go_at_call 85;refine(CF.out _).mono ?_;rintro e3 w3 ⟨rfl,rfl⟩)
               (try rw[Exit.noGoto_ret])
               go_ret;exact⟨zJ HV2.out,HB2.out⟩
              | true=>
               go_wp2_with (go_at_call 85;refine(CF.out _).mono ?_;rintro e3 w3 ⟨rfl,rfl⟩);go_round
               case rel=>exact⟨j+1,by omega,by go_num,by have:=HST.out;rw[Bool.true_and]at this;exact this⟩
               case measure=>simp[intOf];omega
          · obtain rfl:L=j:=by omega
            have HFQ:=zD (show fq=true by
             rw[←hfit.out,List.drop_of_length_le (show x.kids.length≤L by rw[HL.out];omega)];cases ll.drop L<;>rfl)
            clear hfit hlt;have hfq:fq=true:=HFQ.out;have HE:=zD (show q=(if K=16 then((atN ts (x.kids.getD 1 0)).kind==17 || (atN ts (x.kids.getD 2 0)).kind==4)else if K=8∧L=3 then !(zC2 ts (x.kids.getD 1 0))else true) by
             rw[←HQ.out,←HK.out,←HL.out];refine zFf (by rw[HK.out];exact HKD.out) (by rw[HK.out,HL.out,HSH.out];exact hlen) (by rw[HK.out,HL.out,HSH.out,HFD.out];exact hfq))
            clear hfq
            by_cases h16:K=16
            · have hL3:L=3:=by
               have h1:=HSH.out;rw[h16]at h1;have h2:([8,11,12],0)=(ll,rr):=h1;injection h2 with h3 h4;have h5:zBZ ts ll rr x.kids=true:=HFD.out.trans HFQ.out;rw[←h3,←h4]at h5;have h6:=zME _ _ h5;rw[HL.out]at h6;rw[←h3]at hlen;have:([8,11,12]:List Nat).length=3:=rfl;omega
              obtain⟨y1,p1,k1,g1,e1,l1,c1⟩:=HKID.out 1 (by omega);obtain⟨y2,p2,k2,g2,e2,l2,c2⟩:=HKID.out 2 (by omega);have hp1:=HCEL.out 1 y1 g1;have hp2:=HCEL.out 2 y2 g2;rw[e1]at hp1;rw[e2]at hp2;have HV:=zD (show q=(k1==17 || k2==4) by
               rw[HE.out,if_pos h16,yAH,g1,yAH,g2,Option.getD_some,Option.getD_some,e1,e2,c1.1,c2.1])
              have hk1:=c1.2;have hk2:=c2.2;have hi1:(1:Int) < (L:Int):=by omega
              have hi2:(2:Int) < (L:Int):=by omega
              clear g1 g2 e1 e2 c1 c2;subst h16;subst hL3
              by_cases hq1:k1=17
              · have e5:(k1==17)=true:=by rw[hq1];rfl
                have HV2:=zD (show true=q by rw[HV.out,hq1];rfl);clear hq1;go_wp2_with fail
                go_quiet (fail)
                go_wp2_with fail;go_ret;exact⟨zJ HV2.out,zAa HB2.out _⟩
              · have e5:(k1==17)=false:=yA.2 hq1;have HV2:=zD (show(k2==4)=q by rw[HV.out,yA.2 hq1];rfl);clear hq1;go_wp2_with fail
                go_quiet (fail)
                go_wp2_with fail;go_ret;exact⟨zJ HV2.out,zAa HB2.out _⟩
            by_cases h8:K=8∧L=3
            · obtain⟨h81,h83⟩:=h8;obtain⟨y1,p1,k1,g1,e1,l1,c1⟩:=HKID.out 1 (by omega);have hp1:=HCEL.out 1 y1 g1;rw[e1]at hp1;obtain⟨dq,hdq⟩:∃dq,zC2 ts (p1:Int)=dq:=⟨_,rfl⟩;have HV:=zD (show(!dq)=q by
               rw[HE.out,if_neg h16,if_pos ⟨h81,h83⟩,yAH,g1,Option.getD_some,e1,hdq])
              have hi1:(1:Int) < (L:Int):=by omega
              have CD:=zD (fun(wx:World) (hN:NdsR wx B (some ⟨b,o,none⟩) n ts) (hB:B≤wx.heap.size)=>zFZ (c:=c) hN hB HF.out HKL.out l1.2 hdq);have HL1:=zD l1;clear g1 e1 c1 hdq l1;subst h81;subst h83;have e16:((8:Int)==16)=false:=rfl;have hND:=zD (HN2.out.below ((Below.refl B w2).drew));have hwx:w.heap.size < w2.heap.size:=by omega
              rw[hak]at q7;have CDx:=zD (CD.out w2.drew hND.out (show B≤w2.drew.heap.size from hbs));go_wp2_with fail;go_region_held3 (fun w'=>w'.cell? ⟨w.heap.size,0,none⟩=some (.slice (some ⟨b,o,none⟩) n c)∧w'.cell? ⟨X,7,none⟩=some (.slice (some ⟨bk,ok,none⟩) 3 s.ck)∧w'.cell? ⟨bk,ok+1,none⟩=some (.int .i64 (p1:Int)))
               (first | (exact⟨qb,q7,hp1⟩) | (exact⟨((zCT hb3).cell (p:=⟨w.heap.size,0,none⟩) hwx).trans qb,((zCT hb3).cell (p:=⟨X,7,none⟩) hx2).trans q7,((zCT hb3).cell (p:=⟨bk,ok+1,none⟩) (show bk < w2.heap.size by omega)).trans hp1⟩) | go_keep)
               (first | (go_at_call 86;go_split_ands;(with_reducible refine CDx.out.mono ?_);rintro e3 w3 ⟨rfl,hb3⟩))
              all_goals go_wp2_with fail
              all_goals go_ret
              all_goals exact⟨zJ HV.out,HB2.out.trans ((zCT hb3).mono (by omega))⟩
            · have e16:(K==16)=false:=yA.2 h16;have HV2:=zD (show true=q by rw[HE.out,if_neg h16,if_neg h8])
              by_cases h81:K=8
              · subst h81;have hL3:((L:Int)==3)=false:=yA.2 (fun e=>h8 ⟨rfl,by omega⟩);clear h8 h16;go_wp2_with fail;go_ret;exact⟨zJ HV2.out,HB2.out⟩
              · have e81:(K==8)=false:=yA.2 h81;clear h8 h16 h81;go_wp2_with fail;go_ret;exact⟨zJ HV2.out,HB2.out⟩
       · have hLLz:LL=0:=by omega
         have HLLZ:=zD hLLz;clear hLLz;go_wp2_with fail
         go_loop [40] (fun i=>∃j:Nat,j≤L∧i=.int .i64 j∧Hid (zBZ ts (ll.drop j) rr (x.kids.drop j)=fq)) (fun i=>L - (intOf i).toNat)
         case atStart=>exact⟨0,yAF _,rfl,HFD.out⟩
         case round=>
          obtain⟨j,hj,rfl,hfit⟩:=hrel
          by_cases hlt:j < L
          · obtain⟨y,p,kp,hg0,hyp,hpl,hkp⟩:=HKID.out j hlt;have hcy:=HCEL.out j y hg0;have hstep:=hfit.out;rw[yAI (show j < x.kids.length by rw[HL.out];exact hlt),(List.getElem?_eq_some_iff.1 hg0).2,zFd,hyp,hkp.1]at hstep;rw[hyp]at hcy;have hck:=hkp.2;clear hg0 hyp hkp hfit;have hj1:¬(j:Int) < (LL:Int):=by omega
            have hj2:decide ((j:Int) < (LL:Int))=false:=yAJ hj1;have hj3:¬j < LL:=by omega
            have hg:ll.getD j rr=rr:=by rw[yAH,List.getElem?_eq_none (by rw[HLLN.out];omega)];rfl
            rw[hg]at hstep;have h13:=HLE.out.2;obtain⟨fv,hfv⟩:∃fv,zAS rr kp=fv:=⟨_,rfl⟩;rw[hfv]at hstep;have CF:=zD (show∀w1,Calls prog 85 #[.int .i64 (rr:Int),.int .i64 kp] w1 fun e w'=>e=.returned (.bool fv)∧w1=w' from fun w1=>by have:=zGS rr kp h13 w1;rw[hfv]at this;exact this);have HST:=zD hstep;clear hg hstep hfv;cases fv with
            | false=>
             have HV2:=zD (show false=q by
              rw[←HQ.out];refine(zFe ?_).symm;rw[HK.out,HL.out,HSH.out,HFD.out];have:=HST.out;rw[Bool.false_and]at this;exact this.symm)
             go_wp2_with (go_at_call 85;refine(CF.out _).mono ?_;rintro e3 w3 ⟨rfl,rfl⟩)
             (try rw[Exit.noGoto_ret])
             go_ret;exact⟨zJ HV2.out,HB2.out⟩
            | true=>
             go_wp2_with (go_at_call 85;refine(CF.out _).mono ?_;rintro e3 w3 ⟨rfl,rfl⟩);go_round
             case rel=>exact⟨j+1,by omega,by go_num,by have:=HST.out;rw[Bool.true_and]at this;exact this⟩
             case measure=>simp[intOf];omega
          · obtain rfl:L=j:=by omega
            have HFQ:=zD (show fq=true by
             rw[←hfit.out,List.drop_of_length_le (show x.kids.length≤L by rw[HL.out];omega)];cases ll.drop L<;>rfl)
            clear hfit hlt;have hfq:fq=true:=HFQ.out;have HE:=zD (show q=(if K=16 then((atN ts (x.kids.getD 1 0)).kind==17 || (atN ts (x.kids.getD 2 0)).kind==4)else if K=8∧L=3 then !(zC2 ts (x.kids.getD 1 0))else true) by
             rw[←HQ.out,←HK.out,←HL.out];refine zFf (by rw[HK.out];exact HKD.out) (by rw[HK.out,HL.out,HSH.out];exact hlen) (by rw[HK.out,HL.out,HSH.out,HFD.out];exact hfq))
            clear hfq
            by_cases h16:K=16
            · have hL3:L=3:=by
               have h1:=HSH.out;rw[h16]at h1;have h2:([8,11,12],0)=(ll,rr):=h1;injection h2 with h3 h4;have h5:zBZ ts ll rr x.kids=true:=HFD.out.trans HFQ.out;rw[←h3,←h4]at h5;have h6:=zME _ _ h5;rw[HL.out]at h6;rw[←h3]at hlen;have:([8,11,12]:List Nat).length=3:=rfl;omega
              obtain⟨y1,p1,k1,g1,e1,l1,c1⟩:=HKID.out 1 (by omega);obtain⟨y2,p2,k2,g2,e2,l2,c2⟩:=HKID.out 2 (by omega);have hp1:=HCEL.out 1 y1 g1;have hp2:=HCEL.out 2 y2 g2;rw[e1]at hp1;rw[e2]at hp2;have HV:=zD (show q=(k1==17 || k2==4) by
               rw[HE.out,if_pos h16,yAH,g1,yAH,g2,Option.getD_some,Option.getD_some,e1,e2,c1.1,c2.1])
              have hk1:=c1.2;have hk2:=c2.2;have hi1:(1:Int) < (L:Int):=by omega
              have hi2:(2:Int) < (L:Int):=by omega
              clear g1 g2 e1 e2 c1 c2;subst h16;subst hL3
              by_cases hq1:k1=17
              · have e5:(k1==17)=true:=by rw[hq1];rfl
                have HV2:=zD (show true=q by rw[HV.out,hq1];rfl);clear hq1;go_wp2_with fail
                go_quiet (fail)
                go_wp2_with fail;go_ret;exact⟨zJ HV2.out,zAa HB2.out _⟩
              · have e5:(k1==17)=false:=yA.2 hq1;have HV2:=zD (show(k2==4)=q by rw[HV.out,yA.2 hq1];rfl);clear hq1;go_wp2_with fail
                go_quiet (fail)
                go_wp2_with fail;go_ret;exact⟨zJ HV2.out,zAa HB2.out _⟩
            by_cases h8:K=8∧L=3
            · obtain⟨h81,h83⟩:=h8;obtain⟨y1,p1,k1,g1,e1,l1,c1⟩:=HKID.out 1 (by omega);have hp1:=HCEL.out 1 y1 g1;rw[e1]at hp1;obtain⟨dq,hdq⟩:∃dq,zC2 ts (p1:Int)=dq:=⟨_,rfl⟩;have HV:=zD (show(!dq)=q by
               rw[HE.out,if_neg h16,if_pos ⟨h81,h83⟩,yAH,g1,Option.getD_some,e1,hdq])
              have hi1:(1:Int) < (L:Int):=by omega
              have CD:=zD (fun(wx:World) (hN:NdsR wx B (some ⟨b,o,none⟩) n ts) (hB:B≤wx.heap.size)=>zFZ (c:=c) hN hB HF.out HKL.out l1.2 hdq);have HL1:=zD l1;clear g1 e1 c1 hdq l1;subst h81;subst h83;have e16:((8:Int)==16)=false:=rfl;have hND:=zD (HN2.out.below ((Below.refl B w2).drew));have hwx:w.heap.size < w2.heap.size:=by omega
              rw[hak]at q7;have CDx:=zD (CD.out w2.drew hND.out (show B≤w2.drew.heap.size from hbs));go_wp2_with fail;go_region_held3 (fun w'=>w'.cell? ⟨w.heap.size,0,none⟩=some (.slice (some ⟨b,o,none⟩) n c)∧w'.cell? ⟨X,7,none⟩=some (.slice (some ⟨bk,ok,none⟩) 3 s.ck)∧w'.cell? ⟨bk,ok+1,none⟩=some (.int .i64 (p1:Int)))
               (first | (exact⟨qb,q7,hp1⟩) | (exact⟨((zCT hb3).cell (p:=⟨w.heap.size,0,none⟩) hwx).trans qb,((zCT hb3).cell (p:=⟨X,7,none⟩) hx2).trans q7,((zCT hb3).cell (p:=⟨bk,ok+1,none⟩) (show bk < w2.heap.size by omega)).trans hp1⟩) | go_keep)
               (first | (go_at_call 86;go_split_ands;(with_reducible refine CDx.out.mono ?_);rintro e3 w3 ⟨rfl,hb3⟩))
              all_goals go_wp2_with fail
              all_goals go_ret
              all_goals exact⟨zJ HV.out,HB2.out.trans ((zCT hb3).mono (by omega))⟩
            · have e16:(K==16)=false:=yA.2 h16;have HV2:=zD (show true=q by rw[HE.out,if_neg h16,if_neg h8])
              by_cases h81:K=8
              · subst h81;have hL3:((L:Int)==3)=false:=yA.2 (fun e=>h8 ⟨rfl,by omega⟩);clear h8 h16;go_wp2_with fail;go_ret;exact⟨zJ HV2.out,HB2.out⟩
              · have e81:(K==8)=false:=yA.2 h81;clear h8 h16 h81;go_wp2_with fail;go_ret;exact⟨zJ HV2.out,HB2.out⟩
   · have hl1:(L:Int) < (LL:Int):=by rw[←HLLN.out];omega
     have hl2:decide ((L:Int) < (LL:Int))=true:=decide_eq_true hl1;have hl3:L < LL:=by omega
     have HV2:=zD (show false=q by
      rw[←HQ.out,zOd (by rw[HK.out,HL.out,HSH.out];exact hlen)])
     rw[hLL'];clear hLL' hLL hkn hlen hq7;go_wp2_with (go_at_call 84;refine(CK.out _).mono ?_;rintro e3 w3 ⟨rfl,rfl⟩);go_ret;exact⟨zJ HV2.out,HB2.out⟩
 · have hkd2:zAs K=false:=by simpa using hkd
   have CK:=zD (show∀w1,Calls prog 84 #[.int .i64 K] w1 fun e w'=>e=.returned (.bool false)∧w1=w' from fun w1=>by have:=zGy K w1;rw[hkd2]at this;exact this);have HV2:=zD (show false=q by
    rw[←HQ.out,zLl (by rw[HK.out];exact hkd2)])
   clear hkd hkd2 hLL' hLL hkn hq7;go_wp2_with (go_at_call 84;refine(CK.out _).mono ?_;rintro e3 w3 ⟨rfl,rfl⟩);go_ret;exact⟨zJ HV2.out,HB2.out⟩
theorem zR0 {ts:List Nd} {k:Nat} {x:Nd} (h:ts[k]? =some x):zAl (ts.take (k+1))=zAl (ts.take k)++x.kids:=by
 obtain⟨hk,rfl⟩:=List.getElem?_eq_some_iff.1 h;rw[yAM hk,zCr];congr 1;simp[zAl]
theorem zR1 (ts:List Nd) (k:Nat):(zAl (ts.take k)).length≤(zAl ts).length:=by
 conv=>rhs;rw[←List.take_append_drop k ts,zCr,List.length_append]
 omega
def OrdAt (ts:List Nd) (N k:Nat) (st:List Int):Prop:=zB0 ts=zA7 N k (ts.drop k) (if k=0 then [0]else st)∧(k=0→st=[])
theorem OrdAt.end_ {ts:List Nd} {N:Nat} {st:List Int} (h:OrdAt ts N N st) (hl:ts.length=N) (hN:0 < N):zB0 ts=st.isEmpty:=by
 rw[h.1,if_neg (by omega),List.drop_of_length_le (by omega)];rfl
theorem OrdAt.none_ {ts:List Nd} {N k:Nat} (h:OrdAt ts N k []) (hk:0 < k) {x:Nd} (hx:ts[k]? =some x):zB0 ts=false:=by
 obtain⟨hl,rfl⟩:=List.getElem?_eq_some_iff.1 hx;rw[h.1,if_neg (by omega),yAI hl];rfl
theorem OrdAt.bad {ts:List Nd} {N k:Nat} {s:Int} {st:List Int} (h:OrdAt ts N k (s::st)) (hs:s≠(k:Int)) {x:Nd} (hx:ts[k]? =some x):zB0 ts=false:=by
 have hk:k≠0:=fun e=>by have:=h.2 e;cases this
 obtain⟨hl,rfl⟩:=List.getElem?_eq_some_iff.1 hx;rw[h.1,if_neg hk,yAI hl,zCK,yA.2 hs];rfl
def OrdIn (ts:List Nd) (N k:Nat) (x:Nd) (st:List Int):Prop:=zB0 ts=(zCI N k x.kids&&zA7 N (k+1) (ts.drop (k+1)) (x.kids++st))
theorem OrdAt.zero {ts:List Nd} {N:Nat} {x:Nd} {st:List Int} (h:OrdAt ts N 0 st) (hx:ts[0]? =some x):st=[]∧OrdIn ts N 0 x []:=by
 obtain⟨hl,rfl⟩:=List.getElem?_eq_some_iff.1 hx;refine⟨h.2 rfl,?_⟩;unfold OrdIn;rw[h.1,if_pos rfl,yAI hl,zCK];simp
theorem OrdAt.pop {ts:List Nd} {N k:Nat} {x:Nd} {s:Int} {st:List Int} (h:OrdAt ts N k (s::st)) (hs:s=(k:Int)) (hx:ts[k]? =some x):OrdIn ts N k x st:=by
 have hk:k≠0:=fun e=>by have:=h.2 e;cases this
 obtain⟨hl,rfl⟩:=List.getElem?_eq_some_iff.1 hx;unfold OrdIn;rw[h.1,if_neg hk,yAI hl,zCK,hs];simp
theorem OrdIn.bad {ts:List Nd} {N k:Nat} {x:Nd} {st:List Int} (h:OrdIn ts N k x st) {j:Nat} (hj:j < x.kids.length) (hb:¬((k:Int) < x.kids[j]∧x.kids[j] < (N:Int))):zB0 ts=false:=by
 rw[h];have:zCI N k x.kids=false:=by
  unfold zCI;rw[List.all_eq_false];exact⟨x.kids[j],List.getElem_mem hj,by simpa using hb⟩
 rw[this];rfl
theorem OrdIn.done {ts:List Nd} {N k:Nat} {x:Nd} {st:List Int} (h:OrdIn ts N k x st) (hk:zCI N k x.kids=true):OrdAt ts N (k+1) (x.kids++st):=by
 refine⟨?_,fun e=>by omega⟩;rw[h,hk,if_neg (by omega)];rfl
theorem zI5 {N k:Nat} {ks:List Int} {j:Nat} (h:zCI N k (ks.drop (j+1))=true) (hj:j < ks.length) (hb:(k:Int) < ks[j]∧ks[j] < (N:Int)):zCI N k (ks.drop j)=true:=by
 rw[yAI hj];unfold zCI at h⊢;rw[List.all_cons,h,Bool.and_true];simpa using hb
structure OrS (w wr:World) (v:Value) (st:List Int):Prop where
 own:wr.ownsRow w.heap.size 3 1 v st.length (zDY st.reverse)
 below:Below w.heap.size w wr
end Go.Proofs.YtlohaclgbfhijaaGreatDoor
