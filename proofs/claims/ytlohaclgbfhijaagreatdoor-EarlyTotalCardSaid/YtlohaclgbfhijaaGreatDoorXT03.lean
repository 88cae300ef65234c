/- Joined for the claim EarlyTotal: the parser, the lexer and the trees as they are walked, made short by a program of mine. -/
import Derived.Test.YtlohaclgbfhijaaGreatDoorXT02
import Derived.Test.YtlohaclgbfhijaaGreatDoorE01
import Derived.Test.YtlohaclgbfhijaaGreatDoorE02
import Derived.Test.YtlohaclgbfhijaaGreatDoorE03
import Derived.Test.YtlohaclgbfhijaaGreatDoorE04
import Derived.Test.YtlohaclgbfhijaaGreatDoorE05
import Derived.Test.YtlohaclgbfhijaaGreatDoorE06
import Derived.Test.YtlohaclgbfhijaaGreatDoorE07
import Derived.Test.YtlohaclgbfhijaaGreatDoorE08
import Derived.Test.YtlohaclgbfhijaaGreatDoorE09
import Derived.Test.YtlohaclgbfhijaaGreatDoorE10
import Derived.Test.YtlohaclgbfhijaaGreatDoorE11
import Derived.Test.YtlohaclgbfhijaaGreatDoorE12
import Derived.Test.YtlohaclgbfhijaaGreatDoorE13
import Derived.Test.YtlohaclgbfhijaaGreatDoorE14
import Derived.Test.YtlohaclgbfhijaaGreatDoorE15
import Derived.Test.YtlohaclgbfhijaaGreatDoorE16
import Derived.Test.YtlohaclgbfhijaaGreatDoorE17
import Derived.Test.YtlohaclgbfhijaaGreatDoorE18
import Derived.Test.YtlohaclgbfhijaaGreatDoorE19
import Derived.Test.YtlohaclgbfhijaaGreatDoorE20
import Derived.Test.YtlohaclgbfhijaaGreatDoorE21
import Derived.Test.YtlohaclgbfhijaaGreatDoorE22
import Derived.Test.YtlohaclgbfhijaaGreatDoorE23
import Derived.Test.YtlohaclgbfhijaaGreatDoorE24
import Derived.Test.YtlohaclgbfhijaaGreatDoorE25
set_option maxHeartbeats 16000000
set_option maxRecDepth 1000000
namespace Go.Proofs.YtlohaclgbfhijaaGreatDoor
open Go.Proofs.Tryz
open Go.RowKit
theorem zTO:∀(f:Nat) (b:List UInt8) (k:Nat),(zDi f b).2=some k→k≤b.length:=by
 intro f
 induction f with
 | zero=>intro b k h;cases h
 | succ f ih=>
  intro b k h;unfold zDi at h;split at h
  · cases h
  · rename_i hb
    split at h
    · cases h;exact yAE _
    · dsimp only at h;cases hq:(zDi f (b.drop (dec b).2)).2 with
      | none=>rw[hq]at h;cases h
      | some j=>
       rw[hq]at h;cases h;have h1:=ih _ _ hq;rw[List.length_drop]at h1;have h2:=zIE (List.length_pos_iff.2 hb);show j+(dec b).2≤b.length;omega
theorem zUe (b:List UInt8):uAt b≤b.length:=by
 unfold uAt;split
 · exact yAE _
 · cases h:(zBN b).2 with
   | none=>exact yAE _
   | some k=>exact zTO _ _ _ h
theorem zTP {A:Option Addr} {B n c m a e:Nat} {b:List UInt8} {ts:List Nd} {w:World} (hB:B≤w.heap.size) (hn:b.length=n) (ha:Reads w B 1 A n (u8s b)) (hc:n≤c) (hT:Tab w) (hT8:Tabs w) (hq:zBd b=(ts,a,e)) (hm:ts.length=m):
 Calls prog 23 #[.slice A n c] w (fun ev w'=>∃A' c',ev=.returned (.tuple #[.agg #[.slice A' m c'],.int .i64 (a:Int),.int .i64 (e:Int)])∧NdsR w' w'.heap.size A' m ts∧m≤c'∧c'≤maxLen∧Below w.heap.size w w'):=by
 have h:=zJ1 hB hn ha hc hT hT8;rw[hq]at h;refine h.mono ?_;rintro ev w' ⟨A',n',c',h1,h2,h3,h4,h5⟩;have h6:n'=m:=by rw[←hm];exact h2.1.symm
 subst h6;exact⟨A',c',h1,h2,h3,h4,h5⟩
theorem zST (A:Option Addr) (c:Nat) (b:List UInt8) (hc:b.length≤c) (_hm:c≤maxLen) (w:World) (hr:Reads w w.heap.size 1 A b.length (u8s b)) (hT:Tab w∧Tabs w):
 Calls prog 8 #[.slice A b.length c] w fun e w'=>e=.returned (.bool true)∧Below w.heap.size w w':=by
 obtain⟨hT,hT8⟩:=hT;have HT:=zA hT;have HT8:=zA hT8;have CF:=zA (fun(x:World) (hb:Below w.heap.size w x)=>zJ2 (HT.out.below HT.out.lt hb) (HT8.out.grow hb));clear hT hT8
 by_cases hlong:5000 < b.length
 · have h2:(5000:Int) < (b.length:Int):=by omega
   go_enter func8,ntmps8;go_wp2_with fail;refine(CF.out w (Below.refl _ _)).mono ?_;rintro e w1 ⟨rfl,hb1⟩;have HB1:=zA hb1;clear hb1;go_wp2_with fail;refine(CF.out w1 HB1.out).mono ?_;rintro e w2 ⟨rfl,hb2⟩;have HB2:=zA hb2;clear hb2;go_wp2_with fail;go_ret;exact⟨rfl,zDh HB1.out HB2.out⟩
 obtain⟨⟨ts,a,e⟩,hq⟩:∃q,zBd b=q:=⟨_,rfl⟩;obtain⟨m,hm2⟩:∃m,ts.length=m:=⟨_,rfl⟩;obtain⟨n,hn⟩:∃n,b.length=n:=⟨_,rfl⟩;have hl:=zTN (zUe b) hq;rw[hn]at hl hr hc hlong⊢;have h2:¬(5000:Int) < (n:Int):=by omega
 have CA:=zA (fun(x:World) (hb:Below w.heap.size w x)=>zTP (w:=x) hb.size hn (hr.below hb) hc (HT.out.below HT.out.lt hb) (HT8.out.grow hb) hq hm2);have HM:=zA hm2;clear hr hc hq hm2 hlong hn;rcases hl with⟨rfl,rfl,hmay,hch⟩ | ⟨he,rfl,hek,hal⟩
 · have hk4:=(zKu hmay).2.2.1;have HK:=zA hk4;have HMAY:=zA hmay;have HCH:=zA hch;clear hk4 hmay hch;go_enter func8,ntmps8;go_wp2_with fail;refine(CF.out w (Below.refl _ _)).mono ?_;rintro e w1 ⟨rfl,hb1⟩;have HB1:=zA hb1;have C2:=zA (CA.out w1 hb1);clear hb1;go_wp2_with fail;refine C2.out.mono ?_;rintro e w2 ⟨A2,c2,rfl,hN2,hc2,_,hb2⟩;obtain⟨W2,hW2⟩:∃W2,w2.alloc (.cells #[.slice A2 m c2] 27)=W2:=⟨_,rfl⟩;have hg2:Below w2.heap.size w2 W2:=by rw[←hW2];exact(Below.refl _ _).alloc (yAC _) _
   obtain⟨T,hTt⟩:∃T,w2.heap.size=T:=⟨_,rfl⟩;have HBT:=zA (show Bx W2 T 27 [.slice A2 m c2] by rw[←hW2,←hTt];exact Bx.new w2 _ _);have HB2:=zA (zDh HB1.out (zDh hb2 hg2));have HN2:=zA ((hN2.below hg2).more hg2.size);have HC2:=zA (show Calls prog 24 #[.agg #[.slice A2 m c2]] W2 fun e w'=>e=.returned (.tuple #[.int .i64 0,.int .i64 0])∧Below W2.heap.size W2 w' by
    have h:=zKv (w:=W2) (B:=W2.heap.size) (c:=c2) HN2.out (yAC _) hc2 (by have:=HK.out;omega);rw[HCH.out]at h;exact h)
   have HCC:=zA hc2;clear hb2 hN2 hg2 C2 HB1 hc2;go_upto_region 6 with(fail);clear hW2 hTt;have zT:W2.cell? ⟨T,0,none⟩=some (.slice A2 m c2):=HBT.out.cell 0;go_wp2_with fail;refine HC2.out.mono ?_;rintro e w3 ⟨rfl,hb3⟩;have HB3:=zA (zDh HB2.out hb3);have HBT3:=zA (HBT.out.grown (zi none hb3) (by simp));have HN3:=zA ((HN2.out.below hb3).more hb3.size);clear hb3 HC2 HB2 zT;go_wp2_with fail;refine(CF.out w3 HB3.out).mono ?_;rintro e w4 ⟨rfl,hb4⟩;have HB4:=zA (zDh HB3.out hb4);have zT:w4.cell? ⟨T,0,none⟩=some (.slice A2 m c2):=(HBT3.out.grown (zi none hb4) (by simp)).cell 0;have CM:=zA (zKs (w:=w4) ((HN3.out.below hb4).more hb4.size) (yAC _) HCC.out (by have:=HK.out;omega) HMAY.out);clear hb4 HN3 HBT3 HB3 HBT;go_wp2_with fail;refine CM.out.mono ?_;rintro e w5 ⟨rfl,hb5⟩;have HB5:=zA (zDh HB4.out hb5);clear hb5 CM zT;go_wp2_with fail;go_ret;exact⟨by simp,HB5.out⟩
 · obtain rfl:0=m:=HM.out;have hx0:decide ((0:Int)≤(a:Int))=true:=decide_eq_true (by omega);have hx1:decide ((a:Int)≤max (n:Int) 4096)=true:=decide_eq_true (by omega);have HX0:=zA hx0;have HX1:=zA hx1;clear hx0 hx1 HM hal;rcases hek with rfl | rfl | rfl | rfl | rfl
   all_goals
    clear he;go_enter func8,ntmps8;go_wp2_with fail;refine(CF.out w (Below.refl _ _)).mono ?_;rintro e w1 ⟨rfl,hb1⟩;have HB1:=zA hb1;have C2:=zA (CA.out w1 hb1);clear hb1;go_wp2_with fail;refine C2.out.mono ?_;rintro e w2 ⟨A2,c2,rfl,_,_,_,hb2⟩;obtain⟨W2,hW2⟩:∃W2,w2.alloc (.cells #[.slice A2 0 c2] 27)=W2:=⟨_,rfl⟩;have hg2:Below w2.heap.size w2 W2:=by rw[←hW2];exact(Below.refl _ _).alloc (yAC _) _
    obtain⟨T,hTt⟩:∃T,w2.heap.size=T:=⟨_,rfl⟩;have HBT:=zA (show Bx W2 T 27 [.slice A2 0 c2] by rw[←hW2,←hTt];exact Bx.new w2 _ _);have HB2:=zA (zDh HB1.out (zDh hb2 hg2));clear hb2 hg2 C2 HB1;go_upto_region 6 with(fail);clear hW2 hTt;go_wp2_with fail;refine(CF.out W2 HB2.out).mono ?_;rintro e w3 ⟨rfl,hb3⟩;have HB3:=zA (zDh HB2.out hb3);have zT:w3.cell? ⟨T,0,none⟩=some (.slice A2 0 c2):=(HBT.out.grown (zi none hb3) (by simp)).cell 0;clear hb3 HBT HB2;have hx0:=HX0.out;have hx1:=HX1.out;go_wp2_with fail;go_ret;exact⟨by simp,HB3.out⟩
end Go.Proofs.YtlohaclgbfhijaaGreatDoor
