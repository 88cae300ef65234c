/- Joined for the claim EarlyRoot: the parser, the lexer and the trees as they are walked, made short by a program of mine. -/
import Derived.Test.YtlohaclgbfhijaaGreatDoorE02
import Derived.Test.YtlohaclgbfhijaaGreatDoorE01
set_option maxHeartbeats 16000000
set_option maxRecDepth 1000000
namespace Go.Proofs.YtlohaclgbfhijaaGreatDoor
open Go.Proofs.Tryz
open Go.RowKit
theorem zFa {nb:ByteArray} (h:nb.data.toList=[]):nb=⟨#[]⟩:=by
 cases nb with
 | mk d=>congr 1;exact Array.toList_eq_nil_iff.1 h
theorem zI2 {nb:ByteArray} (h:nb.data.toList≠[]):nb.toList≠[]∧(nb.toList==[])=false∧nb.toList.isEmpty=false:=by
 have h1:nb.toList≠[]:=by rw[ByteArray.toList_eq];exact h
 exact⟨h1,yA.2 h1,by rw[List.isEmpty_eq_false_iff];exact h1⟩
theorem zC8 {w w':World} {o:Obj} (h:Below (w.alloc o).heap.size (w.alloc o) w'):Below w.heap.size w w':=((Below.refl _ _).alloc (yAC _) _).trans (h.mono (by simp))
def NmP (q:Bool) (w:World) (e:Ending) (w':World):Prop:=e=.returned (.bool q)∧Below w.heap.size w w'
theorem zPY (k:Int) (h:k=7∨k=18∨k=19∨k=20∨k=33) (nb:ByteArray) (vs vm vk:Value) (nk nn:Int) (ng:Bool) (w:World) {q:Bool} (hl:nb.size≤8192) (hq:zCl nb.data.toList=q):Calls prog 82 #[.agg #[.int .i64 k,.string nb,vs,.int .i64 nk,.int .i64 nn,.bool ng,vm,vk]] w (NmP q w):=by
 have HQ:=zA hq;clear hq;rcases h with rfl | rfl | rfl | rfl | rfl
 all_goals
  go_enter func82,ntmps82;go_wp2_with (go_at_call 117;refine(zF8 nb _ hl HQ.out).mono ?_;rintro e w' ⟨rfl,rfl⟩);go_ret;exact⟨rfl,by go_grown⟩
theorem zPZ (k:Int) (h:k=12∨k=13∨k=17∨k=41) (nb:ByteArray) (vs vm vk:Value) (nk nn:Int) (ng:Bool) (w:World) {q:Bool} (hl:nb.size≤8192) (hq:nb.data.toList=[]) (hq2:q=true):Calls prog 82 #[.agg #[.int .i64 k,.string nb,vs,.int .i64 nk,.int .i64 nn,.bool ng,vm,vk]] w (NmP q w):=by
 obtain rfl:=zFa hq;subst hq2;clear hq;rcases h with rfl | rfl | rfl | rfl
 all_goals
  go_enter func82,ntmps82;go_wp2_with fail;go_ret;exact⟨rfl,by go_grown⟩
theorem zPa (k:Int) (h:k=12∨k=13∨k=17∨k=41) (nb:ByteArray) (vs vm vk:Value) (nk nn:Int) (ng:Bool) (w:World) {q:Bool} (hl:nb.size≤8192) (hne:nb.data.toList≠[]) (hq:zCl nb.data.toList=q):Calls prog 82 #[.agg #[.int .i64 k,.string nb,vs,.int .i64 nk,.int .i64 nn,.bool ng,vm,vk]] w (NmP q w):=by
 have HQ:=zA hq;obtain⟨f1,f2,f3⟩:=zI2 hne;clear hq hne f1;rcases h with rfl | rfl | rfl | rfl
 all_goals
  go_enter func82,ntmps82;go_wp2_with (go_at_call 117;refine(zF8 nb _ hl HQ.out).mono ?_;rintro e w' ⟨rfl,rfl⟩);go_ret;exact⟨rfl,by go_grown⟩
theorem zMu (nb:ByteArray) (vs vm vk:Value) (nk nn:Int) (ng:Bool) (w:World) {q:Bool} (hl:nb.size≤8192) (hq:zG3 nb.data.toList=q):Calls prog 82 #[.agg #[.int .i64 52,.string nb,vs,.int .i64 nk,.int .i64 nn,.bool ng,vm,vk]] w (NmP q w):=by
 have HQ:=zA hq;clear hq;go_enter func82,ntmps82;go_wp2_with (go_at_call 118;refine(zEE nb _ hl HQ.out).mono ?_;rintro e w' ⟨rfl,rfl⟩);go_ret;exact⟨rfl,by go_grown⟩
theorem zPb (k:Int) (h:k=43∨k=44∨k=45∨k=46∨k=47∨k=49) (nb:ByteArray) (vs vm vk:Value) (nk nn:Int) (ng:Bool) (w:World) {q:Bool} (_hl:nb.size≤8192) (hq:decide (nb.data.toList∈zMU k)=q):Calls prog 82 #[.agg #[.int .i64 k,.string nb,vs,.int .i64 nk,.int .i64 nn,.bool ng,vm,vk]] w (NmP q w):=by
 have HQ:=zA hq;clear hq;have hnn:=fun(w:World) (ad:Addr) (n c:Nat)=>run_neq_slice_nil_any (P:=prog) w 58 9 (some ad) n c 0 0 underlying58;rcases h with rfl | rfl | rfl | rfl | rfl | rfl
 all_goals
  go_enter func82,ntmps82;go_wp2_with (first | (go_at_call 119;refine(zKP _ (by omega) _).mono ?_;rintro e1 w1 ⟨ad,c1,rfl,hr1,hb1⟩;have hc1:=hb1.cell (p:=⟨w.heap.size,1,none⟩) (by simp)) | (go_at_call 111;refine(zDg nb (n:=(zMU _).length) rfl hr1 (by decide) HQ.out).mono ?_;rintro e2 w2 ⟨rfl,rfl⟩));go_ret;exact⟨rfl,zC8 hb1⟩
theorem zI3 (k:Int) (h:∀j∈([7,12,13,17,18,19,20,33,41,43,44,45,46,47,49,52]:List Int),k≠j) (nb:ByteArray) (vs vm vk:Value) (nk nn:Int) (ng:Bool) (w:World) {q:Bool} (_hl:nb.size≤8192) (hq:nb.data.toList=[]) (hq2:q=true):Calls prog 82 #[.agg #[.int .i64 k,.string nb,vs,.int .i64 nk,.int .i64 nn,.bool ng,vm,vk]] w (NmP q w):=by
 obtain rfl:=zFa hq;subst hq2;clear hq;have e7:(k==7)=false:=yA.2 (h 7 (by decide));have e12:(k==12)=false:=yA.2 (h 12 (by decide));have e13:(k==13)=false:=yA.2 (h 13 (by decide));have e17:(k==17)=false:=yA.2 (h 17 (by decide));have e18:(k==18)=false:=yA.2 (h 18 (by decide));have e19:(k==19)=false:=yA.2 (h 19 (by decide));have e20:(k==20)=false:=yA.2 (h 20 (by decide));have e33:(k==33)=false:=yA.2 (h 33 (by decide));have e41:(k==41)=false:=yA.2 (h 41 (by decide));have e43:(k==43)=false:=yA.2 (h 43 (by decide));have e44:(k==44)=false:=yA.2 (h 44 (by decide));have e45:(k==45)=false:=yA.2 (h 45 (by decide));have e46:(k==46)=false:=yA.2 (h 46 (by decide));have e47:(k==47)=false:=yA.2 (h 47 (by decide));have e49:(k==49)=false:=yA.2 (h 49 (by decide));have e52:(k==52)=false:=yA.2 (h 52 (by decide));have HC:=zA (fun w=>zH5 k (fun j hj=>h j (by simp only[List.mem_cons,List.mem_nil_iff,or_false]at hj⊢;omega)) w);have hnn:=fun(w:World)=>run_neq_slice_nil_any (P:=prog) w 58 9 none 0 0 0 0 underlying58;clear h;go_enter func82,ntmps82;go_wp2_with (go_at_call 119;refine(HC.out _).mono ?_;rintro e1 w1 ⟨rfl,rfl⟩);go_ret;exact⟨rfl,by go_grown⟩
theorem zI4 (k:Int) (h:∀j∈([7,12,13,17,18,19,20,33,41,43,44,45,46,47,49,52]:List Int),k≠j) (nb:ByteArray) (vs vm vk:Value) (nk nn:Int) (ng:Bool) (w:World) {q:Bool} (_hl:nb.size≤8192) (hq:nb.data.toList≠[]) (hq2:q=false):Calls prog 82 #[.agg #[.int .i64 k,.string nb,vs,.int .i64 nk,.int .i64 nn,.bool ng,vm,vk]] w (NmP q w):=by
 obtain⟨f1,f2,f3⟩:=zI2 hq;subst hq2;clear hq f1;have e7:(k==7)=false:=yA.2 (h 7 (by decide));have e12:(k==12)=false:=yA.2 (h 12 (by decide));have e13:(k==13)=false:=yA.2 (h 13 (by decide));have e17:(k==17)=false:=yA.2 (h 17 (by decide));have e18:(k==18)=false:=yA.2 (h 18 (by decide));have e19:(k==19)=false:=yA.2 (h 19 (by decide));have e20:(k==20)=false:=yA.2 (h 20 (by decide));have e33:(k==33)=false:=yA.2 (h 33 (by decide));have e41:(k==41)=false:=yA.2 (h 41 (by decide));have e43:(k==43)=false:=yA.2 (h 43 (by decide));have e44:(k==44)=false:=yA.2 (h 44 (by decide));have e45:(k==45)=false:=yA.2 (h 45 (by decide));have e46:(k==46)=false:=yA.2 (h 46 (by decide));have e47:(k==47)=false:=yA.2 (h 47 (by decide));have e49:(k==49)=false:=yA.2 (h 49 (by decide));have e52:(k==52)=false:=yA.2 (h 52 (by decide));have HC:=zA (fun w=>zH5 k (fun j hj=>h j (by simp only[List.mem_cons,List.mem_nil_iff,or_false]at hj⊢;omega)) w);have hnn:=fun(w:World)=>run_neq_slice_nil_any (P:=prog) w 58 9 none 0 0 0 0 underlying58;clear h;go_enter func82,ntmps82;go_wp2_with (go_at_call 119;refine(HC.out _).mono ?_;rintro e1 w1 ⟨rfl,rfl⟩);go_ret;exact⟨rfl,by go_grown⟩
theorem zKa (k:Int) (nb:ByteArray) (vs vm vk:Value) (nk nn:Int) (ng:Bool) (w:World) {q:Bool} (hl:nb.size≤8192) (hq:zF2 k nb.data.toList=q):Calls prog 82 #[.agg #[.int .i64 k,.string nb,vs,.int .i64 nk,.int .i64 nn,.bool ng,vm,vk]] w (NmP q w):=by
 by_cases hn:k=7∨k=18∨k=19∨k=20∨k=33
 · exact zPY k hn nb vs vm vk nk nn ng w hl (by rw[←hq];rcases hn with rfl | rfl | rfl | rfl | rfl<;>rfl)
 by_cases hm:k=12∨k=13∨k=17∨k=41
 · by_cases he:nb.data.toList=[]
   · exact zPZ k hm nb vs vm vk nk nn ng w hl he (by rw[←hq,he];rcases hm with rfl | rfl | rfl | rfl<;>rfl)
   · exact zPa k hm nb vs vm vk nk nn ng w hl he (by rw[←hq];have e:=yAI he;rcases hm with rfl | rfl | rfl | rfl<;>(show _=(decide (nb.data.toList=[]) || zCl nb.data.toList);rw[e];rfl))
 by_cases ho:k=43∨k=44∨k=45∨k=46∨k=47∨k=49
 · exact zPb k ho nb vs vm vk nk nn ng w hl (by rw[←hq];rcases ho with rfl | rfl | rfl | rfl | rfl | rfl<;>rfl)
 by_cases hr:k=52
 · subst hr;exact zMu nb vs vm vk nk nn ng w hl hq
 have hh:∀j∈([7,12,13,17,18,19,20,33,41,43,44,45,46,47,49,52]:List Int),k≠j:=fun j hj=>by simp only[List.mem_cons,List.mem_nil_iff,or_false]at hj;omega
 have hf:zF2 k nb.data.toList=decide (nb.data.toList=[]):=by
  have ho:zMU k=[]:=by unfold zMU;rw[if_neg (by omega),if_neg (by omega),if_neg (by omega),if_neg (by omega),if_neg (by omega)]
  unfold zF2;rw[if_neg (by omega),if_neg (by omega),if_neg (by omega),ho,if_neg (by simp)]
 rw[hf]at hq
 by_cases he:nb.data.toList=[]
 · exact zI3 k hh nb vs vm vk nk nn ng w hl he (by rw[←hq,decide_eq_true he])
 · exact zI4 k hh nb vs vm vk nk nn ng w hl he (by rw[←hq,yAI he])
theorem zIC (k:Int) (w:World):Calls prog 121 #[.int .i64 k] w fun e w'=>e=.returned (.bool (zF1 k))∧w=w':=by
 go_enter func121,ntmps121;go_wp2
 all_goals go_ret
 all_goals refine⟨zD ?_,rfl⟩
 all_goals (rw[Bool.eq_iff_iff];simp[zF1];try omega)
theorem zPc (k:Int) (w:World):Calls prog 122 #[.int .i64 k] w fun e w'=>e=.returned (.bool (zMZ k))∧w=w':=by
 obtain⟨q,hq⟩:∃q,zF1 k=q:=⟨_,rfl⟩;have HC:=zA (show∀w,Calls prog 121 #[.int .i64 k] w fun e w'=>e=.returned (.bool q)∧w=w' from fun w=>by rw[←hq];exact zIC k w);have HS:=zA (show zMZ k=(q&& !(k==5)&& !(k==6)&& !(k==19)) by unfold zMZ;rw[hq]);clear hq;cases q with
 | false=>
  go_enter func122,ntmps122;go_wp2_with (go_at_call 121;refine(HC.out w).mono ?_;rintro e w' ⟨rfl,rfl⟩);go_ret;exact⟨zD (by rw[HS.out];rfl),rfl⟩
 | true=>
  go_enter func122,ntmps122;go_wp2_with (go_at_call 121;refine(HC.out w).mono ?_;rintro e w' ⟨rfl,rfl⟩)
  all_goals go_ret
  all_goals refine⟨zD ?_,rfl⟩
  all_goals (rw[HS.out,Bool.eq_iff_iff];simp;try omega)
theorem zMv (k:Int) (w:World):Calls prog 123 #[.int .i64 k] w fun e w'=>e=.returned (.bool (zD4 k))∧w=w':=by
 go_enter func123,ntmps123;go_wp2
 all_goals go_ret
 all_goals refine⟨zD ?_,rfl⟩
 all_goals (rw[Bool.eq_iff_iff];simp[zD4];try omega)
theorem zBG (k:Int) (w:World):Calls prog 124 #[.int .i64 k] w fun e w'=>e=.returned (.bool (zAf k))∧w=w':=by
 go_enter func124,ntmps124;go_wp2
 all_goals go_ret
 all_goals refine⟨zD ?_,rfl⟩
 all_goals (rw[Bool.eq_iff_iff];simp[zAf];try omega)
theorem zGE (k:Int) (w:World):Calls prog 84 #[.int .i64 k] w fun e w'=>e=.returned (.bool (zD5 k))∧w=w':=by
 go_enter func84,ntmps84;go_wp2
 all_goals go_ret
 all_goals refine⟨zD ?_,rfl⟩
 all_goals (rw[Bool.eq_iff_iff];simp[zD5];try omega)
theorem zFb (k n:Int) (w:World):Calls prog 80 #[.agg #[.int .i64 k,.int .i64 n]] w fun e w'=>e=.returned (.bool (zD7 k n))∧Below w.heap.size w w':=by
 go_enter func80,ntmps80;go_wp2
 all_goals go_ret
 all_goals refine⟨zD ?_,by go_grown⟩
 all_goals (rw[Bool.eq_iff_iff];simp[zD7];simp only[beq_iff_eq,yA,ne_eq]at *;split<;>omega)
theorem zFc (s:Nat) (k:Int) (hs:s≤13) (w:World):Calls prog 85 #[.int .i64 (s:Int),.int .i64 k] w fun e w'=>e=.returned (.bool (zD6 s k))∧w=w':=by
 have h:s=0∨s=1∨s=2∨s=3∨s=4∨s=5∨s=6∨s=7∨s=8∨s=9∨s=10∨s=11∨s=12∨s=13:=by omega
 obtain⟨q,hq⟩:∃q,zD4 k=q:=⟨_,rfl⟩;have HQ:=zA hq;have HC:=zA (show∀w,Calls prog 123 #[.int .i64 k] w fun e w'=>e=.returned (.bool q)∧w=w' from fun w=>by rw[←hq];exact zMv k w);clear hs hq;rcases h with rfl | rfl | rfl | rfl | rfl | rfl | rfl | rfl | rfl | rfl | rfl | rfl | rfl | rfl
 all_goals
  go_enter func85,ntmps85;go_wp2_with (first | (go_at_call 121;refine(zIC k w).mono ?_;rintro e w' ⟨rfl,rfl⟩) | (go_at_call 122;refine(zPc k w).mono ?_;rintro e w' ⟨rfl,rfl⟩) | (go_at_call 123;refine(HC.out w).mono ?_;rintro e w' ⟨rfl,rfl⟩) | (go_at_call 124;refine(zBG k w).mono ?_;rintro e w' ⟨rfl,rfl⟩))
  all_goals go_ret
  all_goals refine⟨zD ?_,rfl⟩
  all_goals first | rfl | exact HQ.out.symm | (simp[zD6, *];done) | (simp[zD6, *];exact HQ.out.symm) | (simp[zD6, *];rw[HQ.out])
def BmP (q:Bool) (w:World) (e:Ending) (w':World):Prop:=e=.returned (.bool q)∧Below w.heap.size w w'
theorem zAm {n:Nat} (h:n≤4096):¬(4096:Int) < (n:Int)∧decide ((4096:Int) < (n:Int))=false:=⟨by omega,yAI (by omega)⟩
theorem zHF {n:Nat} (h:0 < n):(0:Int) < (n:Int)∧decide ((0:Int) < (n:Int))=true∧decide (0 < n)=true:=⟨by omega,decide_eq_true (by omega),decide_eq_true h⟩
theorem zMw {x:Int} (h:x≠0):(x==0)=false∧(x !=0)=true:=⟨yA.2 h,bne_iff_ne.2 h⟩
def zAn (k:Int) (nb:ByteArray) (As Am:Option Addr) (cs cm:Nat) (vk:Value) (ls:Nat) (nk nn:Int) (ng:Bool) (lm:Nat) (w:World) (q:Bool):Prop:=Calls prog 51 #[.agg #[.int .i64 k,.string nb,.slice As ls cs,.int .i64 nk,.int .i64 nn,.bool ng,.slice Am lm cm,vk]] w (BmP q w)
theorem zMx (ng:Bool) (A:Option Addr) (c:Nat) (w:World):Calls prog 81 #[.agg #[.bool ng,.slice A 0 c]] w (BmP (!ng) w):=by
 cases ng
 all_goals
  go_enter func81,ntmps81;go_wp2_with fail;go_ret;exact⟨rfl,by go_grown⟩
theorem zKb (ng:Bool) (A:Option Addr) (n c:Nat) (w:World) (h:8 < n):Calls prog 81 #[.agg #[.bool ng,.slice A n c]] w (BmP false w):=by
 have e1:¬(n:Int)≤8:=by omega
 have e2:decide ((n:Int)≤8)=false:=yAI e1;go_enter func81,ntmps81;go_wp2_with fail;go_ret;exact⟨rfl,by go_grown⟩
theorem zKc (ng:Bool) (b o n c B x:Nat) (w:World) (h1:n+1≤8) (hb:b < B) (hB:B≤w.heap.size) (hc:w.cell? ⟨b,o+n,none⟩=some (.int .u32 (x:Int))) (hx:x < 4294967296) {q:Bool} (hq:(!(x==0))=q):Calls prog 81 #[.agg #[.bool ng,.slice (some ⟨b,o,none⟩) (n+1) c]] w (BmP q w):=by
 have e1:(n:Int)+1≤8:=by omega
 have e2:decide ((n:Int)+1≤8)=true:=decide_eq_true e1;have e3:((n:Int)+1==0)=false:=yA.2 (by omega);have e4:decide ((0:Int) < (n:Int)+1)=true:=decide_eq_true (by omega);have hc':=World.cell?_alloc_lt w (.cells #[.bool ng,.slice (some ⟨b,o,none⟩) (n+1) c] 42) ⟨b,o+n,none⟩ (by show b < _;omega);rw[hc]at hc';have HQ:=zA hq;clear hq hc
 by_cases hx0:x=0
 · subst hx0;have hc2:(w.alloc (.cells #[.bool ng,.slice (some ⟨b,o,none⟩) (n+1) c] 42)).cell? ⟨b,o+n,none⟩=some (.int .u32 0):=hc';clear hc';go_enter func81,ntmps81;go_wp2_with fail;go_ret;exact⟨zD (by rw[←HQ.out];rfl),by go_grown⟩
 · have e5:((x:Int) !=0)=true:=bne_iff_ne.2 (by omega);have e6:((x:Int)==0)=false:=yA.2 (by omega);have HX:=zA hx0;clear hx0;go_enter func81,ntmps81;go_wp2_with fail;go_ret;exact⟨zD (by rw[←HQ.out];have:=HX.out;simp;omega),by go_grown⟩
theorem zMy {A:Option Addr} {B n c:Nat} {xs:List Nat} {w:World} (ng:Bool) (hn:xs.length=n) (ha:Reads w B 1 A n (zRX xs)) (hB:B≤w.heap.size) (hl:∀y∈xs,y < 4294967296) {q:Bool} (hq:zCg ng xs=q):
 Calls prog 81 #[.agg #[.bool ng,.slice A n c]] w (BmP q w):=by
 unfold zCg at hq;rw[hn]at hq
 by_cases h8:8 < n
 · rw[yAI (by omega),Bool.false_and]at hq;subst hq;exact zKb ng A n c w h8
 · rw[decide_eq_true (by omega),Bool.true_and]at hq
   by_cases h0:n=0
   · subst h0;have hx:xs=[]:=List.length_eq_zero_iff.1 hn;subst hx;subst hq;exact zMx ng A c w
   · obtain⟨m,rfl⟩:∃m,n=m+1:=⟨n - 1,by omega⟩;obtain⟨b,o,rfl,hb,hc⟩:=ha.spotR (by omega);have hm:m < xs.length:=by omega
     have hg:xs.getLast? =some xs[m]:=by rw[List.getLast?_eq_getElem?,show xs.length - 1=m by omega,yAB hm]
     rw[hg]at hq;exact zKc ng b o m c B xs[m] w (by omega) hb hB (hc m _ (by simp[zRX,yAB hm])) (hl _ (List.getElem_mem hm)) hq
theorem zHG (k1:Int) (nb:ByteArray) (As Am:Option Addr) (cs cm:Nat) (vk:Value) (ls:Nat) (nk:Int) (nn:Int) (ng:Bool) (lm:Nat) (w:World) (hs:4096 < nb.size):zAn (k1) nb As Am cs cm vk ls (nk) (nn) ng lm w false:=by
 unfold zAn;have hs1:(4096:Int) < (nb.size:Int):=by omega
 have hs2:decide ((4096:Int) < (nb.size:Int))=true:=decide_eq_true hs1;go_enter func51,ntmps51;go_wp2_with fail;go_ret;exact⟨rfl,by go_grown⟩
theorem zKd (nb:ByteArray) (As Am:Option Addr) (cs cm:Nat) (vk:Value) (ls:Nat) (nk:Int) (nn:Int) (ng:Bool) (lm:Nat) (w:World) (hs:nb.size≤4096) (hx:nk≠0):zAn (32) nb As Am cs cm vk ls (nk) (nn) ng lm w false:=by
 unfold zAn;obtain⟨hs1,hs2⟩:=zAm hs;obtain⟨n1,n2⟩:=zMw hx;go_enter func51,ntmps51;go_wp2_with fail;go_ret;exact⟨rfl,by go_grown⟩
theorem zKe (nb:ByteArray) (As Am:Option Addr) (cs cm:Nat) (vk:Value) (ls:Nat) (nn:Int) (ng:Bool) (lm:Nat) (w:World) (hs:nb.size≤4096) (hx:nn≠0):zAn (32) nb As Am cs cm vk ls (0) (nn) ng lm w false:=by
 unfold zAn;obtain⟨hs1,hs2⟩:=zAm hs;obtain⟨n1,n2⟩:=zMw hx;go_enter func51,ntmps51;go_wp2_with fail;go_ret;exact⟨rfl,by go_grown⟩
theorem zMz (nb:ByteArray) (As Am:Option Addr) (cs cm:Nat) (vk:Value) (ls:Nat) (lm:Nat) (w:World) (hs:nb.size≤4096):zAn (32) nb As Am cs cm vk ls (0) (0) true lm w false:=by
 unfold zAn;obtain⟨hs1,hs2⟩:=zAm hs;go_enter func51,ntmps51;go_wp2_with fail;go_ret;exact⟨rfl,by go_grown⟩
theorem zM0 (nb:ByteArray) (As Am:Option Addr) (cs cm:Nat) (vk:Value) (ls:Nat) (lm:Nat) (w:World) (hs:nb.size≤4096) (h0:0 < lm):zAn (32) nb As Am cs cm vk ls (0) (0) false lm w false:=by
 unfold zAn;obtain⟨hs1,hs2⟩:=zAm hs;obtain⟨l1,l2,l3⟩:=zHF h0;go_enter func51,ntmps51;go_wp2_with fail;go_ret;exact⟨rfl,by go_grown⟩
theorem zKf (nb:ByteArray) (As Am:Option Addr) (cs cm:Nat) (vk:Value) (ls:Nat) (w:World) (hs:nb.size≤4096) (hne:nb.data.toList≠[]):zAn (32) nb As Am cs cm vk ls (0) (0) false 0 w false:=by
 unfold zAn;obtain⟨hs1,hs2⟩:=zAm hs;obtain⟨f1,f2,f3⟩:=zI2 hne;clear hne f1;go_enter func51,ntmps51;go_wp2_with fail;go_ret;exact⟨rfl,by go_grown⟩
theorem zM1 (As Am:Option Addr) (cs cm:Nat) (vk:Value) (ls:Nat) (w:World) (h0:ls≤4096):zAn (32) ⟨#[]⟩ As Am cs cm vk ls (0) (0) false 0 w true:=by
 unfold zAn;have l1:(ls:Int)≤4096:=by omega
 have l2:decide ((ls:Int)≤4096)=true:=decide_eq_true l1;go_enter func51,ntmps51;go_wp2_with fail;go_ret;exact⟨rfl,by go_grown⟩
theorem zPd (As Am:Option Addr) (cs cm:Nat) (vk:Value) (ls:Nat) (w:World) (h0:4096 < ls):zAn (32) ⟨#[]⟩ As Am cs cm vk ls (0) (0) false 0 w false:=by
 unfold zAn;have l1:¬(ls:Int)≤4096:=by omega
 have l2:decide ((ls:Int)≤4096)=false:=yAI l1;go_enter func51,ntmps51;go_wp2_with fail;go_ret;exact⟨rfl,by go_grown⟩
theorem zKg (nb:ByteArray) (As Am:Option Addr) (cs cm:Nat) (vk:Value) (ls:Nat) (nk:Int) (nn:Int) (ng:Bool) (lm:Nat) (w:World) (hs:nb.size≤4096) (hx:nk≠0):zAn (40) nb As Am cs cm vk ls (nk) (nn) ng lm w false:=by
 unfold zAn;obtain⟨hs1,hs2⟩:=zAm hs;obtain⟨n1,n2⟩:=zMw hx;go_enter func51,ntmps51;go_wp2_with fail;go_ret;exact⟨rfl,by go_grown⟩
theorem zKh (nb:ByteArray) (As Am:Option Addr) (cs cm:Nat) (vk:Value) (ls:Nat) (nn:Int) (ng:Bool) (lm:Nat) (w:World) (hs:nb.size≤4096) (hx:nn≠0):zAn (40) nb As Am cs cm vk ls (0) (nn) ng lm w false:=by
 unfold zAn;obtain⟨hs1,hs2⟩:=zAm hs;obtain⟨n1,n2⟩:=zMw hx;go_enter func51,ntmps51;go_wp2_with fail;go_ret;exact⟨rfl,by go_grown⟩
theorem zM2 (nb:ByteArray) (As Am:Option Addr) (cs cm:Nat) (vk:Value) (ls:Nat) (lm:Nat) (w:World) (hs:nb.size≤4096):zAn (40) nb As Am cs cm vk ls (0) (0) true lm w false:=by
 unfold zAn;obtain⟨hs1,hs2⟩:=zAm hs;go_enter func51,ntmps51;go_wp2_with fail;go_ret;exact⟨rfl,by go_grown⟩
theorem zM3 (nb:ByteArray) (As Am:Option Addr) (cs cm:Nat) (vk:Value) (ls:Nat) (lm:Nat) (w:World) (hs:nb.size≤4096) (h0:0 < lm):zAn (40) nb As Am cs cm vk ls (0) (0) false lm w false:=by
 unfold zAn;obtain⟨hs1,hs2⟩:=zAm hs;obtain⟨l1,l2,l3⟩:=zHF h0;go_enter func51,ntmps51;go_wp2_with fail;go_ret;exact⟨rfl,by go_grown⟩
theorem zKi (nb:ByteArray) (As Am:Option Addr) (cs cm:Nat) (vk:Value) (ls:Nat) (w:World) (hs:nb.size≤4096) (hne:nb.data.toList≠[]):zAn (40) nb As Am cs cm vk ls (0) (0) false 0 w false:=by
 unfold zAn;obtain⟨hs1,hs2⟩:=zAm hs;obtain⟨f1,f2,f3⟩:=zI2 hne;clear hne f1;go_enter func51,ntmps51;go_wp2_with fail;go_ret;exact⟨rfl,by go_grown⟩
theorem zM4 (As Am:Option Addr) (cs cm:Nat) (vk:Value) (ls:Nat) (w:World) (h0:ls≤4096):zAn (40) ⟨#[]⟩ As Am cs cm vk ls (0) (0) false 0 w true:=by
 unfold zAn;have l1:(ls:Int)≤4096:=by omega
 have l2:decide ((ls:Int)≤4096)=true:=decide_eq_true l1;go_enter func51,ntmps51;go_wp2_with fail;go_ret;exact⟨rfl,by go_grown⟩
theorem zPe (As Am:Option Addr) (cs cm:Nat) (vk:Value) (ls:Nat) (w:World) (h0:4096 < ls):zAn (40) ⟨#[]⟩ As Am cs cm vk ls (0) (0) false 0 w false:=by
 unfold zAn;have l1:¬(ls:Int)≤4096:=by omega
 have l2:decide ((ls:Int)≤4096)=false:=yAI l1;go_enter func51,ntmps51;go_wp2_with fail;go_ret;exact⟨rfl,by go_grown⟩
theorem zM5 (nb:ByteArray) (As Am:Option Addr) (cs cm:Nat) (vk:Value) (ls:Nat) (nk:Int) (nn:Int) (ng:Bool) (lm:Nat) (w:World) (hs:nb.size≤4096) (h0:0 < ls):zAn (30) nb As Am cs cm vk ls (nk) (nn) ng lm w false:=by
 unfold zAn;obtain⟨hs1,hs2⟩:=zAm hs;obtain⟨l1,l2,l3⟩:=zHF h0;go_enter func51,ntmps51;go_wp2_with fail;go_ret;exact⟨rfl,by go_grown⟩
theorem zM6 (nb:ByteArray) (As Am:Option Addr) (cs cm:Nat) (vk:Value) (nk:Int) (nn:Int) (lm:Nat) (w:World) (hs:nb.size≤4096):zAn (30) nb As Am cs cm vk 0 (nk) (nn) true lm w false:=by
 unfold zAn;obtain⟨hs1,hs2⟩:=zAm hs;go_enter func51,ntmps51;go_wp2_with fail;go_ret;exact⟨rfl,by go_grown⟩
theorem zM7 (nb:ByteArray) (As Am:Option Addr) (cs cm:Nat) (vk:Value) (nk:Int) (nn:Int) (lm:Nat) (w:World) (hs:nb.size≤4096) (h0:0 < lm):zAn (30) nb As Am cs cm vk 0 (nk) (nn) false lm w false:=by
 unfold zAn;obtain⟨hs1,hs2⟩:=zAm hs;obtain⟨l1,l2,l3⟩:=zHF h0;go_enter func51,ntmps51;go_wp2_with fail;go_ret;exact⟨rfl,by go_grown⟩
theorem zKj (nb:ByteArray) (As Am:Option Addr) (cs cm:Nat) (vk:Value) (nk:Int) (nn:Int) (w:World) (hs:nb.size≤4096) (hne:nb.data.toList≠[]):zAn (30) nb As Am cs cm vk 0 (nk) (nn) false 0 w false:=by
 unfold zAn;obtain⟨hs1,hs2⟩:=zAm hs;obtain⟨f1,f2,f3⟩:=zI2 hne;clear hne f1;go_enter func51,ntmps51;go_wp2_with fail;go_ret;exact⟨rfl,by go_grown⟩
theorem zKk (As Am:Option Addr) (cs cm:Nat) (vk:Value) (nk:Int) (nn:Int) (w:World) (hx:nk≠0):zAn (30) ⟨#[]⟩ As Am cs cm vk 0 (nk) (nn) false 0 w false:=by
 unfold zAn;obtain⟨n1,n2⟩:=zMw hx;go_enter func51,ntmps51;go_wp2_with fail;go_ret;exact⟨rfl,by go_grown⟩
theorem zM8 (As Am:Option Addr) (cs cm:Nat) (vk:Value) (nn:Int) (w:World) (hq:zD7 0 nn=false):zAn (30) ⟨#[]⟩ As Am cs cm vk 0 (0) (nn) false 0 w false:=by
 unfold zAn;have HC:=zA (fun w=>by have:=zFb 0 nn w;rw[hq]at this;exact this);clear hq;go_enter func51,ntmps51;go_wp2_with (go_at_call 80;refine(HC.out _).mono ?_;rintro e1 w1 ⟨rfl,hb1⟩;have hc1:=hb1.cell (p:=⟨w.heap.size,4,none⟩) (by simp));go_ret;exact⟨rfl,zC8 hb1⟩
theorem zM9 (As Am:Option Addr) (cs cm:Nat) (vk:Value) (nn:Int) (w:World) (hq:zD7 0 nn=true) (hn:0≤nn):zAn (30) ⟨#[]⟩ As Am cs cm vk 0 (0) (nn) false 0 w true:=by
 unfold zAn;have HC:=zA (fun w=>by have:=zFb 0 nn w;rw[hq]at this;exact this);clear hq;have l2:decide ((0:Int)≤nn)=true:=decide_eq_true hn;go_enter func51,ntmps51;go_wp2_with (go_at_call 80;refine(HC.out _).mono ?_;rintro e1 w1 ⟨rfl,hb1⟩;have hc1:=hb1.cell (p:=⟨w.heap.size,4,none⟩) (by simp));go_ret;exact⟨rfl,zC8 hb1⟩
theorem zPf (As Am:Option Addr) (cs cm:Nat) (vk:Value) (nn:Int) (w:World) (hq:zD7 0 nn=true) (hn:¬0≤nn):zAn (30) ⟨#[]⟩ As Am cs cm vk 0 (0) (nn) false 0 w false:=by
 unfold zAn;have HC:=zA (fun w=>by have:=zFb 0 nn w;rw[hq]at this;exact this);clear hq;have l2:decide ((0:Int)≤nn)=false:=yAI hn;go_enter func51,ntmps51;go_wp2_with (go_at_call 80;refine(HC.out _).mono ?_;rintro e1 w1 ⟨rfl,hb1⟩;have hc1:=hb1.cell (p:=⟨w.heap.size,4,none⟩) (by simp));go_ret;exact⟨rfl,zC8 hb1⟩
theorem zNA (nb:ByteArray) (As Am:Option Addr) (cs cm:Nat) (vk:Value) (ls:Nat) (nk:Int) (nn:Int) (ng:Bool) (lm:Nat) (w:World) (hs:nb.size≤4096) (h0:0 < ls):zAn (31) nb As Am cs cm vk ls (nk) (nn) ng lm w false:=by
 unfold zAn;obtain⟨hs1,hs2⟩:=zAm hs;obtain⟨l1,l2,l3⟩:=zHF h0;go_enter func51,ntmps51;go_wp2_with fail;go_ret;exact⟨rfl,by go_grown⟩
theorem zKl (nb:ByteArray) (As Am:Option Addr) (cs cm:Nat) (vk:Value) (nk:Int) (nn:Int) (ng:Bool) (lm:Nat) (w:World) (hs:nb.size≤4096) (hx:nk≠0):zAn (31) nb As Am cs cm vk 0 (nk) (nn) ng lm w false:=by
 unfold zAn;obtain⟨hs1,hs2⟩:=zAm hs;obtain⟨n1,n2⟩:=zMw hx;go_enter func51,ntmps51;go_wp2_with fail;go_ret;exact⟨rfl,by go_grown⟩
theorem zKm (nb:ByteArray) (As Am:Option Addr) (cs cm:Nat) (vk:Value) (nn:Int) (ng:Bool) (lm:Nat) (w:World) (hs:nb.size≤4096) (hx:nn≠0):zAn (31) nb As Am cs cm vk 0 (0) (nn) ng lm w false:=by
 unfold zAn;obtain⟨hs1,hs2⟩:=zAm hs;obtain⟨n1,n2⟩:=zMw hx;go_enter func51,ntmps51;go_wp2_with fail;go_ret;exact⟨rfl,by go_grown⟩
theorem zKn (nb:ByteArray) (As Am:Option Addr) (cs cm:Nat) (vk:Value) (ng:Bool) (lm:Nat) (w:World) (hs:nb.size≤4096) (hne:nb.data.toList≠[]):zAn (31) nb As Am cs cm vk 0 (0) (0) ng lm w false:=by
 unfold zAn;obtain⟨hs1,hs2⟩:=zAm hs;obtain⟨f1,f2,f3⟩:=zI2 hne;clear hne f1;go_enter func51,ntmps51;go_wp2_with fail;go_ret;exact⟨rfl,by go_grown⟩
theorem zEI (As Am:Option Addr) (cs cm:Nat) (vk:Value) (lm:Nat) (w:World) (ha:∀w1,Below w.heap.size w w1→Calls prog 81 #[.agg #[.bool false,.slice Am lm cm]] w1 (BmP true w1)):zAn (31) ⟨#[]⟩ As Am cs cm vk 0 (0) (0) false lm w true:=by
 unfold zAn;have HC:=zA ha;clear ha;go_enter func51,ntmps51;go_wp2_with (go_at_call 81;refine(HC.out _ ((Below.refl _ _).alloc (yAC _) _)).mono ?_;rintro e1 w1 ⟨rfl,hb1⟩;have hc1:=hb1.cell (p:=⟨w.heap.size,5,none⟩) (by simp));go_ret;exact⟨rfl,zC8 hb1⟩
theorem zEp (As Am:Option Addr) (cs cm:Nat) (vk:Value) (lm:Nat) (w:World) (ha:∀w1,Below w.heap.size w w1→Calls prog 81 #[.agg #[.bool true,.slice Am lm cm]] w1 (BmP true w1)):zAn (31) ⟨#[]⟩ As Am cs cm vk 0 (0) (0) true lm w false:=by
 unfold zAn;have HC:=zA ha;clear ha;go_enter func51,ntmps51;go_wp2_with (go_at_call 81;refine(HC.out _ ((Below.refl _ _).alloc (yAC _) _)).mono ?_;rintro e1 w1 ⟨rfl,hb1⟩;have hc1:=hb1.cell (p:=⟨w.heap.size,5,none⟩) (by simp));go_ret;exact⟨rfl,zC8 hb1⟩
theorem zDo (As Am:Option Addr) (cs cm:Nat) (vk:Value) (lm:Nat) (w:World) (ha:∀w1,Below w.heap.size w w1→Calls prog 81 #[.agg #[.bool false,.slice Am lm cm]] w1 (BmP false w1)):zAn (31) ⟨#[]⟩ As Am cs cm vk 0 (0) (0) false lm w false:=by
 unfold zAn;have HC:=zA ha;clear ha;go_enter func51,ntmps51;go_wp2_with (go_at_call 81;refine(HC.out _ ((Below.refl _ _).alloc (yAC _) _)).mono ?_;rintro e1 w1 ⟨rfl,hb1⟩;have hc1:=hb1.cell (p:=⟨w.heap.size,5,none⟩) (by simp));go_ret;exact⟨rfl,zC8 hb1⟩
theorem zEJ (As Am:Option Addr) (cs cm:Nat) (vk:Value) (lm:Nat) (w:World) (ha:∀w1,Below w.heap.size w w1→Calls prog 81 #[.agg #[.bool true,.slice Am lm cm]] w1 (BmP false w1)):zAn (31) ⟨#[]⟩ As Am cs cm vk 0 (0) (0) true lm w false:=by
 unfold zAn;have HC:=zA ha;clear ha;go_enter func51,ntmps51;go_wp2_with (go_at_call 81;refine(HC.out _ ((Below.refl _ _).alloc (yAC _) _)).mono ?_;rintro e1 w1 ⟨rfl,hb1⟩;have hc1:=hb1.cell (p:=⟨w.heap.size,5,none⟩) (by simp));go_ret;exact⟨rfl,zC8 hb1⟩
theorem zPg (k:Int) (nb:ByteArray) (As Am:Option Addr) (cs cm:Nat) (vk:Value) (ls:Nat) (nk:Int) (nn:Int) (ng:Bool) (lm:Nat) (w:World) (h:∀j∈([32,40,30,31]:List Int),k≠j) (hs:nb.size≤4096) (h0:0 < ls):zAn (k) nb As Am cs cm vk ls (nk) (nn) ng lm w false:=by
 unfold zAn;have e32:(k==32)=false:=yA.2 (h 32 (by decide));have e40:(k==40)=false:=yA.2 (h 40 (by decide));have e30:(k==30)=false:=yA.2 (h 30 (by decide));have e31:(k==31)=false:=yA.2 (h 31 (by decide));have g32:(k !=32)=true:=bne_iff_ne.2 (h 32 (by decide));have g40:(k !=40)=true:=bne_iff_ne.2 (h 40 (by decide));have g30:(k !=30)=true:=bne_iff_ne.2 (h 30 (by decide));have g31:(k !=31)=true:=bne_iff_ne.2 (h 31 (by decide));clear h;obtain⟨hs1,hs2⟩:=zAm hs;obtain⟨l1,l2,l3⟩:=zHF h0;go_enter func51,ntmps51;go_wp2_with fail;go_ret;exact⟨rfl,by go_grown⟩
theorem zNB (k:Int) (nb:ByteArray) (As Am:Option Addr) (cs cm:Nat) (vk:Value) (nk:Int) (nn:Int) (ng:Bool) (lm:Nat) (w:World) (h:∀j∈([32,40,30,31]:List Int),k≠j) (hs:nb.size≤4096) (hx:nk≠0):zAn (k) nb As Am cs cm vk 0 (nk) (nn) ng lm w false:=by
 unfold zAn;have e32:(k==32)=false:=yA.2 (h 32 (by decide));have e40:(k==40)=false:=yA.2 (h 40 (by decide));have e30:(k==30)=false:=yA.2 (h 30 (by decide));have e31:(k==31)=false:=yA.2 (h 31 (by decide));have g32:(k !=32)=true:=bne_iff_ne.2 (h 32 (by decide));have g40:(k !=40)=true:=bne_iff_ne.2 (h 40 (by decide));have g30:(k !=30)=true:=bne_iff_ne.2 (h 30 (by decide));have g31:(k !=31)=true:=bne_iff_ne.2 (h 31 (by decide));clear h;obtain⟨hs1,hs2⟩:=zAm hs;obtain⟨n1,n2⟩:=zMw hx;go_enter func51,ntmps51;go_wp2_with fail;go_ret;exact⟨rfl,by go_grown⟩
theorem zNC (k:Int) (nb:ByteArray) (As Am:Option Addr) (cs cm:Nat) (vk:Value) (nn:Int) (ng:Bool) (lm:Nat) (w:World) (h:∀j∈([32,40,30,31]:List Int),k≠j) (hs:nb.size≤4096) (hx:nn≠0):zAn (k) nb As Am cs cm vk 0 (0) (nn) ng lm w false:=by
 unfold zAn;have e32:(k==32)=false:=yA.2 (h 32 (by decide));have e40:(k==40)=false:=yA.2 (h 40 (by decide));have e30:(k==30)=false:=yA.2 (h 30 (by decide));have e31:(k==31)=false:=yA.2 (h 31 (by decide));have g32:(k !=32)=true:=bne_iff_ne.2 (h 32 (by decide));have g40:(k !=40)=true:=bne_iff_ne.2 (h 40 (by decide));have g30:(k !=30)=true:=bne_iff_ne.2 (h 30 (by decide));have g31:(k !=31)=true:=bne_iff_ne.2 (h 31 (by decide));clear h;obtain⟨hs1,hs2⟩:=zAm hs;obtain⟨n1,n2⟩:=zMw hx;go_enter func51,ntmps51;go_wp2_with fail;go_ret;exact⟨rfl,by go_grown⟩
theorem zPh (k:Int) (nb:ByteArray) (As Am:Option Addr) (cs cm:Nat) (vk:Value) (lm:Nat) (w:World) (h:∀j∈([32,40,30,31]:List Int),k≠j) (hs:nb.size≤4096):zAn (k) nb As Am cs cm vk 0 (0) (0) true lm w false:=by
 unfold zAn;have e32:(k==32)=false:=yA.2 (h 32 (by decide));have e40:(k==40)=false:=yA.2 (h 40 (by decide));have e30:(k==30)=false:=yA.2 (h 30 (by decide));have e31:(k==31)=false:=yA.2 (h 31 (by decide));have g32:(k !=32)=true:=bne_iff_ne.2 (h 32 (by decide));have g40:(k !=40)=true:=bne_iff_ne.2 (h 40 (by decide));have g30:(k !=30)=true:=bne_iff_ne.2 (h 30 (by decide));have g31:(k !=31)=true:=bne_iff_ne.2 (h 31 (by decide));clear h;obtain⟨hs1,hs2⟩:=zAm hs;go_enter func51,ntmps51;go_wp2_with fail;go_ret;exact⟨rfl,by go_grown⟩
theorem zPi (k:Int) (nb:ByteArray) (As Am:Option Addr) (cs cm:Nat) (vk:Value) (lm:Nat) (w:World) (h:∀j∈([32,40,30,31]:List Int),k≠j) (hs:nb.size≤4096) (h0:0 < lm):zAn (k) nb As Am cs cm vk 0 (0) (0) false lm w false:=by
 unfold zAn;have e32:(k==32)=false:=yA.2 (h 32 (by decide));have e40:(k==40)=false:=yA.2 (h 40 (by decide));have e30:(k==30)=false:=yA.2 (h 30 (by decide));have e31:(k==31)=false:=yA.2 (h 31 (by decide));have g32:(k !=32)=true:=bne_iff_ne.2 (h 32 (by decide));have g40:(k !=40)=true:=bne_iff_ne.2 (h 40 (by decide));have g30:(k !=30)=true:=bne_iff_ne.2 (h 30 (by decide));have g31:(k !=31)=true:=bne_iff_ne.2 (h 31 (by decide));clear h;obtain⟨hs1,hs2⟩:=zAm hs;obtain⟨l1,l2,l3⟩:=zHF h0;go_enter func51,ntmps51;go_wp2_with fail;go_ret;exact⟨rfl,by go_grown⟩
theorem zND (k:Int) (nb:ByteArray) (As Am:Option Addr) (cs cm:Nat) (vk:Value) (w:World) (h:∀j∈([32,40,30,31]:List Int),k≠j) (hs:nb.size≤4096) {q:Bool} (hq:zF2 k nb.data.toList=q):zAn (k) nb As Am cs cm vk 0 (0) (0) false 0 w q:=by
 unfold zAn;have e32:(k==32)=false:=yA.2 (h 32 (by decide));have e40:(k==40)=false:=yA.2 (h 40 (by decide));have e30:(k==30)=false:=yA.2 (h 30 (by decide));have e31:(k==31)=false:=yA.2 (h 31 (by decide));have g32:(k !=32)=true:=bne_iff_ne.2 (h 32 (by decide));have g40:(k !=40)=true:=bne_iff_ne.2 (h 40 (by decide));have g30:(k !=30)=true:=bne_iff_ne.2 (h 30 (by decide));have g31:(k !=31)=true:=bne_iff_ne.2 (h 31 (by decide));clear h;obtain⟨hs1,hs2⟩:=zAm hs;have HC:=zA (fun w=>zKa k nb (.slice As 0 cs) (.slice Am 0 cm) vk 0 0 false w (by omega) hq);clear hq;go_enter func51,ntmps51;go_wp2_with (go_at_call 82;refine(HC.out _).mono ?_;rintro e1 w1 ⟨rfl,hb1⟩);go_ret;exact⟨rfl,zC8 hb1⟩
theorem BmP.of {p q:Bool} {w w':World} {e:Ending} (h:p=q) (hh:BmP p w e w'):BmP q w e w':=h▸hh
theorem zI5 {x:Nd} {s:NdSl} {B:Nat} {w:World} (hR:NdR w B x s) (hB:B≤w.heap.size) {q:Bool} (hq:zh x=q):
 Calls prog 51 #[.agg #[.int .i64 x.kind,.string ⟨x.name.toArray⟩,.slice s.As x.str.length s.cs,.int .i64 x.nk,.int .i64 x.nn,.bool x.neg,.slice s.Am x.mag.length s.cm,.slice s.Ak x.kids.length s.ck]] w (BmP q w):=by
 have hmagR:=hR.mag;have hlimb:=hR.limb;obtain⟨kind,name,str,nk,nn,neg,mag,kids⟩:=x;obtain⟨As,Am,Ak,cs,cm,ck⟩:=s;simp only at hmagR hlimb⊢;clear hR;obtain⟨nb,hnb⟩:∃nb:ByteArray,⟨name.toArray⟩=nb:=⟨_,rfl⟩;have hd:nb.data.toList=name:=by rw[←hnb]
 have hz:nb.size=name.length:=by rw[←hd];simp
 rw[hnb];subst hq;have hemp:name=[]→nb=⟨#[]⟩:=fun e=>zFa (by rw[hd];exact e);have hsz:∀l:List UInt16,l≠[]→0 < l.length:=fun l h=>List.length_pos_iff.2 h;have hsm:∀l:List Nat,l≠[]→0 < l.length:=fun l h=>List.length_pos_iff.2 h
 by_cases h1:4096 < name.length
 · exact(zHG kind nb As Am cs cm _ _ nk nn neg _ w (by omega)).mono fun e w' h=>h.of (by simp[zh,h1])
 have hs:nb.size≤4096:=by omega
 by_cases k32:kind=32
 · subst k32
   by_cases hk:nk=0
   · subst hk
     by_cases hn:nn=0
     · subst hn;cases neg with
       | true=>exact(zMz nb As Am cs cm _ _ _ w hs).mono fun e w' h=>h.of (by simp[zh])
       | false=>
        by_cases hm:mag=[]
        · subst hm
          by_cases hne:name=[]
          · obtain rfl:=hemp hne
            by_cases hl:str.length≤4096
            · exact(zM1 As Am cs cm _ _ w hl).mono fun e w' h=>h.of (by simp[zh,hne,hl])
            · exact(zPd As Am cs cm _ _ w (by omega)).mono fun e w' h=>h.of (by simp[zh,hne,hl])
          · exact(zKf nb As Am cs cm _ _ w hs (by rw[hd];exact hne)).mono fun e w' h=>h.of (by simp[zh,hne])
        · exact(zM0 nb As Am cs cm _ _ _ w hs (hsm _ hm)).mono fun e w' h=>h.of (by simp[zh,hm])
     · exact(zKe nb As Am cs cm _ _ nn neg _ w hs hn).mono fun e w' h=>h.of (by simp[zh,hn])
   · exact(zKd nb As Am cs cm _ _ nk nn neg _ w hs hk).mono fun e w' h=>h.of (by simp[zh,hk])
 by_cases k40:kind=40
 · subst k40
   by_cases hk:nk=0
   · subst hk
     by_cases hn:nn=0
     · subst hn;cases neg with
       | true=>exact(zM2 nb As Am cs cm _ _ _ w hs).mono fun e w' h=>h.of (by simp[zh])
       | false=>
        by_cases hm:mag=[]
        · subst hm
          by_cases hne:name=[]
          · obtain rfl:=hemp hne
            by_cases hl:str.length≤4096
            · exact(zM4 As Am cs cm _ _ w hl).mono fun e w' h=>h.of (by simp[zh,hne,hl])
            · exact(zPe As Am cs cm _ _ w (by omega)).mono fun e w' h=>h.of (by simp[zh,hne,hl])
          · exact(zKi nb As Am cs cm _ _ w hs (by rw[hd];exact hne)).mono fun e w' h=>h.of (by simp[zh,hne])
        · exact(zM3 nb As Am cs cm _ _ _ w hs (hsm _ hm)).mono fun e w' h=>h.of (by simp[zh,hm])
     · exact(zKh nb As Am cs cm _ _ nn neg _ w hs hn).mono fun e w' h=>h.of (by simp[zh,hn])
   · exact(zKg nb As Am cs cm _ _ nk nn neg _ w hs hk).mono fun e w' h=>h.of (by simp[zh,hk])
 by_cases k30:kind=30
 · subst k30
   by_cases hst:str=[]
   · subst hst;cases neg with
     | true=>exact(zM6 nb As Am cs cm _ nk nn _ w hs).mono fun e w' h=>h.of (by simp[zh])
     | false=>
      by_cases hm:mag=[]
      · subst hm
        by_cases hne:name=[]
        · obtain rfl:=hemp hne
          by_cases hk:nk=0
          · subst hk;cases hmay:zD7 0 nn with
            | false=>exact(zM8 As Am cs cm _ nn w hmay).mono fun e w' h=>h.of (by simp[zh,hmay])
            | true=>
             by_cases h0:0≤nn
             · exact(zM9 As Am cs cm _ nn w hmay h0).mono fun e w' h=>h.of (by simp[zh,hmay,hne,h0])
             · exact(zPf As Am cs cm _ nn w hmay h0).mono fun e w' h=>h.of (by simp[zh,h0])
          · exact(zKk As Am cs cm _ nk nn w hk).mono fun e w' h=>h.of (by simp[zh,hk])
        · exact(zKj nb As Am cs cm _ nk nn w hs (by rw[hd];exact hne)).mono fun e w' h=>h.of (by simp[zh,hne])
      · exact(zM7 nb As Am cs cm _ nk nn _ w hs (hsm _ hm)).mono fun e w' h=>h.of (by simp[zh,hm])
   · exact(zM5 nb As Am cs cm _ _ nk nn neg _ w hs (hsz _ hst)).mono fun e w' h=>h.of (by simp[zh,hst])
 by_cases k31:kind=31
 · subst k31
   by_cases hst:str=[]
   · subst hst
     by_cases hk:nk=0
     · subst hk
       by_cases hn:nn=0
       · subst hn
         by_cases hne:name=[]
         · obtain rfl:=hemp hne;have hbm:∀q,zCg neg mag=q→∀w1,Below w.heap.size w w1→Calls prog 81 #[.agg #[.bool neg,.slice Am mag.length cm]] w1 (BmP q w1):=fun q hq w1 hb1=>zMy neg rfl ((hmagR.below (hb1.mono hB))) (yAD hB hb1.size) hlimb hq;cases neg with
           | false=>
            cases hmay:zCg false mag with
            | true=>exact(zEI As Am cs cm _ _ w (hbm _ hmay)).mono fun e w' h=>h.of (by simp[zh,hmay,hne])
            | false=>exact(zDo As Am cs cm _ _ w (hbm _ hmay)).mono fun e w' h=>h.of (by simp[zh,hmay])
           | true=>
            cases hmay:zCg true mag with
            | true=>exact(zEp As Am cs cm _ _ w (hbm _ hmay)).mono fun e w' h=>h.of (by simp[zh])
            | false=>exact(zEJ As Am cs cm _ _ w (hbm _ hmay)).mono fun e w' h=>h.of (by simp[zh])
         · exact(zKn nb As Am cs cm _ neg _ w hs (by rw[hd];exact hne)).mono fun e w' h=>h.of (by simp[zh,hne])
       · exact(zKm nb As Am cs cm _ nn neg _ w hs hn).mono fun e w' h=>h.of (by simp[zh,hn])
     · exact(zKl nb As Am cs cm _ nk nn neg _ w hs hk).mono fun e w' h=>h.of (by simp[zh,hk])
   · exact(zNA nb As Am cs cm _ _ nk nn neg _ w hs (hsz _ hst)).mono fun e w' h=>h.of (by simp[zh,hst])
 · have hh:∀j∈([32,40,30,31]:List Int),kind≠j:=fun j hj=>by simp only[List.mem_cons,List.mem_nil_iff,or_false]at hj;omega
   by_cases hst:str=[]
   · subst hst
     by_cases hk:nk=0
     · subst hk
       by_cases hn:nn=0
       · subst hn;cases neg with
         | true=>exact(zPh kind nb As Am cs cm _ _ w hh hs).mono fun e w' h=>h.of (by simp[zh,k31])
         | false=>
          by_cases hm:mag=[]
          · subst hm;exact(zND kind nb As Am cs cm _ w hh hs rfl).mono fun e w' h=>h.of (by simp[zh,k31,k32,k40,k30,h1,hd])
          · exact(zPi kind nb As Am cs cm _ _ w hh hs (hsm _ hm)).mono fun e w' h=>h.of (by simp[zh,hm,k31])
       · exact(zNC kind nb As Am cs cm _ nn neg _ w hh hs hn).mono fun e w' h=>h.of (by simp[zh,hn,k30])
     · exact(zNB kind nb As Am cs cm _ nk nn neg _ w hh hs hk).mono fun e w' h=>h.of (by simp[zh,hk,k30])
   · exact(zPg kind nb As Am cs cm _ _ nk nn neg _ w hh hs (hsz _ hst)).mono fun e w' h=>h.of (by simp[zh,hst,k32,k40])
end Go.Proofs.YtlohaclgbfhijaaGreatDoor
