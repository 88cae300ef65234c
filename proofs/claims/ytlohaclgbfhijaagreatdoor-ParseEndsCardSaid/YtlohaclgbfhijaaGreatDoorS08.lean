/- Joined for the claim ParseEnds: the parser, the lexer and the trees as they are walked, made short by a program of mine. -/
import Derived.Test.YtlohaclgbfhijaaGreatDoorS07
import Derived.Test.YtlohaclgbfhijaaGreatDoorS02
import Derived.Deep.CutBlock
import Derived.Deep.DeepCutAuto
import Derived.Deep.RegionHeld3
import Derived.Deep.RegionWith
import Derived.Test.YtlohaclgbfhijaaGreatDoorS04
import Derived.Test.YtlohaclgbfhijaaGreatDoorS01
set_option maxHeartbeats 16000000
set_option maxRecDepth 1000000
namespace Go.Proofs.YtlohaclgbfhijaaGreatDoor
open Go.RowKit
theorem zJw {A A':Option Addr} {c d B:Nat} {xs ys:List UInt16} {w:World} (hB:B≤w.heap.size) (ha:Reads w B 1 A xs.length (zAH xs)) (hb:Reads w B 1 A' ys.length (zAH ys)) (hl:xs.length≤70368744177664) (hl2:ys.length≤70368744177664):
 Calls Tryz.prog 43 #[.slice A xs.length c,.slice A' ys.length d] w fun e w'=>e=.returned (.bool (decide (xs=ys)))∧Below w.heap.size w w':=by
 by_cases hne:xs.length=ys.length
 · have H:=zD hne
   clear hne
   have e1:((xs.length:Int)==(ys.length:Int))=true:=by rw[H.out];simp
   have e2:((xs.length:Int) !=(ys.length:Int))=false:=by rw[H.out];simp
   go_enter Tryz.func43,Tryz.ntmps43
   go_wp2
   go_loopw [13] (fun i wr=>∃k:Nat,k≤xs.length∧i=.int .i64 k∧xs.take k=ys.take k∧Below w.heap.size w wr) (fun i _=>xs.length - (intOf i).toNat)
   case atStart=>exact⟨0,Nat.zero_le _,rfl,by simp,Below.refl _ _⟩
   case round=>
    obtain⟨k,hk,rfl,htk,hnx⟩:=hrel
    have HT:=zD htk
    clear htk
    by_cases hlt:k < xs.length
    · have hlt2:k < ys.length:=by have:=H.out;omega
      obtain⟨ad,rfl,_,hca⟩:=(ha.below (hnx.mono hB)).u16 hlt
      obtain⟨ad',rfl,_,hcb⟩:=(hb.below (hnx.mono hB)).u16 hlt2
      have h3:(k:Int) < (xs.length:Int):=by omega
      have h4:(k:Int) < (ys.length:Int):=by omega
      go_wp2
      go_quiet (fail)
      go_wp2
      · go_ret
        refine⟨zf ?_,zBn hnx _⟩
        have hne:(xs[k].toNat:Int)≠ys[k].toNat:=by
         have h:((xs[k].toNat:Int) !=ys[k].toNat)=true:=by assumption
         simpa using h
        refine(decide_eq_false ?_).symm
        rintro rfl
        exact hne rfl
      · go_roundw
        case rel=>
         have h:((xs[k].toNat:Int) !=ys[k].toNat)=false:=by assumption
         have h':xs[k]=ys[k]:=by
          apply UInt16.toNat_inj.1
          simp at h
          omega
         exact⟨k+1,by omega,by go_num,by rw[List.take_succ_eq_append_getElem hlt,List.take_succ_eq_append_getElem hlt2,HT.out,h'],zBn hnx _⟩
        case measure=>simp[intOf];omega
    · go_wp2
      go_ret
      refine⟨zf ?_,hnx⟩
      have hkk:k=xs.length:=by omega
      refine(decide_eq_true ?_).symm
      have h1:=HT.out
      rw[List.take_of_length_le (by omega),List.take_of_length_le (by rw[←H.out];omega)]at h1
      exact h1
 · have e1:((xs.length:Int) !=(ys.length:Int))=true:=by simp;omega
   go_enter Tryz.func43,Tryz.ntmps43
   go_wp2
   go_ret
   refine⟨zf (decide_eq_false ?_).symm,Below.refl _ _⟩
   rintro rfl
   exact hne rfl
theorem zDa {A A':Option Addr} {c d B:Nat} {xs ys:List UInt16} {w:World} (hB:B≤w.heap.size) (ha:Reads w B 1 A xs.length (zAH xs)) (hb:Reads w B 1 A' ys.length (zAH ys)) (hl:xs.length≤70368744177664) (hl2:ys.length≤70368744177664):
 Calls Tryz.prog 153 #[.slice A xs.length c,.slice A' ys.length d] w fun e w'=>e=.returned (.bool (decide (xs=ys)))∧Below w.heap.size w w':=by
 go_enter Tryz.func153,Tryz.ntmps153
 go_wp2_with (go_at_call 43;refine(zJw hB ha hb hl hl2).mono ?_;rintro e w' ⟨rfl,hb'⟩)
 go_ret
 exact⟨rfl,hb'⟩
def zRv (p:Prop) (w:World) (e:Ending) (w':World):Prop:=∃k:Int,e=.returned (.int .i64 k)∧(p↔0≤k)∧w=w'
theorem zJx {A:Option Addr} {c B:Nat} {xs:List UInt16} (x:UInt16) {w:World} (ha:Reads w B 1 A xs.length (zAH xs)) (hl:xs.length≤70368744177664):
 Calls Tryz.prog 198 #[.slice A xs.length c,.int .u16 (x.toNat:Int)] w (zRv (x∈xs) w):=by
 go_enter Tryz.func198,Tryz.ntmps198
 go_wp2
 go_loop [8] (fun i=>∃k:Nat,k≤xs.length∧i=.int .i64 k∧x∉xs.take k) (fun i=>xs.length - (intOf i).toNat)
 case atStart=>exact⟨0,Nat.zero_le _,rfl,by simp⟩
 case round=>
  obtain⟨k,hk,rfl,hno⟩:=hrel
  have HN:=zD hno
  clear hno
  by_cases hlt:k < xs.length
  · obtain⟨ad,rfl,_,hca⟩:=ha.u16 hlt
    have h3:(k:Int) < (xs.length:Int):=by omega
    by_cases hx:x=xs[k]
    · have hmem:x∈xs:=by rw[hx];exact List.getElem_mem _
      have e1:((x.toNat:Int)==(xs[k].toNat:Int))=true:=by rw[←hx];simp
      have HX:=zD hmem
      clear hx hmem
      go_wp2
      go_ret
      exact⟨k,rfl,⟨fun _=>by omega,fun _=>HX.out⟩,rfl⟩
    · have e1:((x.toNat:Int)==(xs[k].toNat:Int))=false:=by
       rw[beq_eq_false_iff_ne]
       intro h
       exact hx (UInt16.toNat_inj.1 (by omega))
      go_wp2
      go_round
      case rel=>exact⟨k+1,by omega,by go_num,by rw[List.take_succ_eq_append_getElem hlt,List.mem_append];exact fun h=>h.elim HN.out (fun h=>hx (by simpa using h))⟩
      case measure=>simp[intOf];omega
  · go_wp2
    go_ret
    refine⟨-1,rfl,⟨fun h=>absurd h ?_,fun h=>by omega⟩,rfl⟩
    have h1:=HN.out
    rwa [List.take_of_length_le (by omega)]at h1
theorem zDb {A:Option Addr} {c B:Nat} {xs:List UInt16} (x:UInt16) {w:World} (ha:Reads w B 1 A xs.length (zAH xs)) (hl:xs.length≤70368744177664):
 Calls Tryz.prog 185 #[.slice A xs.length c,.int .u16 (x.toNat:Int)] w fun e w'=>e=.returned (.bool (decide (x∈xs)))∧w=w':=by
 go_enter Tryz.func185,Tryz.ntmps185
 go_wp2_with fail
 refine(zJx x ha hl).mono ?_
 rintro e w' ⟨k,rfl,hk,rfl⟩
 have HK:=zD hk
 clear hk
 go_wp2
 go_ret
 exact⟨zf (decide_eq_decide.2 HK.out.symm),rfl⟩
def zRw (d:List UInt16) (w:World) (e:Ending) (w':World):Prop:=∃n:Int,e=.returned (.tuple #[.int .i64 n,.bool (decide (zr d≤9007199254740991))])∧(zr d≤9007199254740991→n=zr d)∧w=w'
theorem zGP {A:Option Addr} {c B:Nat} {xs:List UInt16} {w:World} (ha:Reads w B 1 A xs.length (zAH xs)) (hl:xs.length≤70368744177664) (hd:∀x∈xs,zQ x=true):
 Calls Tryz.prog 157 #[.slice A xs.length c] w (zRw xs w):=by
 have HD:=zD hd
 clear hd
 go_enter Tryz.func157,Tryz.ntmps157
 go_wp2
 go_loop [4,9] (fun n i=>∃k:Nat,k≤xs.length∧i=.int .i64 k∧n=.int .i64 (zr (xs.take k))∧zr (xs.take k) < 9007199254750991) (fun _ i=>xs.length - (intOf i).toNat)
 case atStart=>exact⟨0,Nat.zero_le _,rfl,rfl,Nat.zero_lt_succ _⟩
 case round=>
  obtain⟨k,hk,rfl,rfl,hn⟩:=hrel
  by_cases hlt:k < xs.length
  · obtain⟨ad,rfl,_,hca⟩:=ha.u16 hlt
    have h3:(k:Int) < (xs.length:Int):=by omega
    obtain⟨hx1,hx2⟩:=zBB.1 (HD.out xs[k] (List.getElem_mem _))
    have h10:=zEk xs k hlt
    have hsu:=zCS xs k hlt
    have HS:=zD hsu
    clear hsu
    obtain⟨m,hm⟩:∃m,zr (xs.take k)=m:=⟨_,rfl⟩
    rw[hm]at hn h10⊢
    have HM:=zD hm
    clear hm
    by_cases hbig:900719925474099 < m
    · go_wp2
      go_ret2
      exact⟨0,zQK rfl (decide_eq_false (by omega)).symm,fun h=>by omega,rfl⟩
    · go_wp2
      go_round
      case rel=>exact⟨k+1,by omega,by go_num,by rw[HS.out,HM.out];go_num,by rw[HS.out,HM.out];omega⟩
      case measure=>simp[intOf];omega
  · go_wp2
    go_ret2
    have hkk:xs.take k=xs:=List.take_of_length_le (by omega)
    rw[hkk]
    refine⟨zr xs,zQK rfl ?_,fun _=>rfl,rfl⟩
    exact decide_eq_decide.2 (by omega)
theorem zGQ (w:World):Calls Tryz.prog 32 #[.string ⟨#[120,88,111,79,46,43,45,95]⟩] w fun e w'=>∃A c,e=.returned (.slice A zCI.length c)∧Reads w' w'.heap.size 1 A zCI.length (zAH zCI)∧Below w.heap.size w w':=by
 refine(zDT _ w (by decide)).mono ?_
 rintro e w' ⟨v,rfl,hm⟩
 have hm':Made w w' 24 v (zAH zCI):=hm
 obtain⟨A,c,rfl,_,_,hr⟩:=hm'.u16
 exact⟨A,c,rfl,hr,hm'.below⟩
theorem zG8 {A:Option Addr} {c B:Nat} {xs:List UInt16} {w:World} (hB:B≤w.heap.size) (ha:Reads w B 1 A xs.length (zAH xs)) (hl:xs.length≤70368744177664):
 Calls Tryz.prog 152 #[.slice A xs.length c] w fun e w'=>e=.returned (.bool (zBJ xs))∧Below w.heap.size w w':=by
 go_enter Tryz.func152,Tryz.ntmps152
 go_wp2
 go_loopw [3,8] (fun s i wr=>∃k:Nat,k≤xs.length∧i=.int .i64 k∧s=.bool ((xs.take k).any zQ)∧Hid ((xs.take k).all zBo=true)∧Below w.heap.size w wr) (fun _ i _=>xs.length - (intOf i).toNat)
 case atStart=>exact⟨0,Nat.zero_le _,rfl,rfl,rfl,Below.refl _ _⟩
 case round=>
  obtain⟨k,hk,rfl,rfl,hok,hnx⟩:=hrel
  by_cases hlt:k < xs.length
  · obtain⟨ad,hA,_,hca⟩:=(ha.below (hnx.mono hB)).u16 hlt
    subst hA
    have h3:(k:Int) < (xs.length:Int):=by omega
    have hx:=xs[k].toNat_lt
    have hsu:(xs.take (k+1)).any zQ=((xs.take k).any zQ || zQ xs[k]):=by rw[List.take_succ_eq_append_getElem hlt];simp only[List.any_append,List.any_cons,List.any_nil,Bool.or_false]
    have hal:(xs.take (k+1)).all zBo=zBo xs[k]:=by rw[List.take_succ_eq_append_getElem hlt,List.all_append,hok.out];simp only[List.all_cons,List.all_nil,Bool.and_true,Bool.true_and]
    have hbad:zBo xs[k]=false→zBJ xs=false:=by
     intro h
     have:xs.all zBo=false:=List.all_eq_false.2 ⟨xs[k],List.getElem_mem _,by simp[h]⟩
     simp[zBJ,this]
    have HS:=zD hsu
    have HA:=zD hal
    have HB:=zD hbad
    clear hsu hal hbad
    obtain⟨s,hs⟩:∃s,(xs.take k).any zQ=s:=⟨_,rfl⟩
    rw[hs]
    have HK:=zD hs
    clear hs
    cases hd:zQ xs[k]with
    | true=>
     have ho:=zFx hd
     have HO:=zD ho
     clear ho
     cases s
     all_goals
      go_wp2_with (go_at_call 156;refine(zB9 _ _).mono ?_;rintro e w' ⟨rfl,rfl⟩)
      go_roundw
      case rel=>exact⟨k+1,by omega,by go_num,by rw[HS.out,HK.out,hd];rfl,HA.out.trans HO.out,hnx⟩
      case measure=>simp[intOf];omega
    | false=>
     by_cases r1:97≤xs[k].toNat∧xs[k].toNat≤102
     · have HO:Hid (zBo xs[k]=true):=by simp[zBo,r1.1,r1.2,Hid]
       obtain⟨r1,r2⟩:=r1
       cases s
       all_goals
        go_wp2_with (go_at_call 156;refine(zB9 _ _).mono ?_;rintro e w' ⟨rfl,rfl⟩)
        go_roundw
        case rel=>exact⟨k+1,by omega,by go_num,by rw[HS.out,HK.out,hd];rfl,HA.out.trans HO.out,hnx⟩
        case measure=>simp[intOf];omega
     by_cases r2:65≤xs[k].toNat∧xs[k].toNat≤70
     · have HO:Hid (zBo xs[k]=true):=by simp[zBo,r2.1,r2.2,Hid]
       obtain⟨r2,r3⟩:=r2
       clear r1
       have r4:¬(97:Int)≤xs[k].toNat:=by omega
       cases s
       all_goals
        go_wp2_with (go_at_call 156;refine(zB9 _ _).mono ?_;rintro e w' ⟨rfl,rfl⟩)
        go_roundw
        case rel=>exact⟨k+1,by omega,by go_num,by rw[HS.out,HK.out,hd];rfl,HA.out.trans HO.out,hnx⟩
        case measure=>simp[intOf];omega
     have hod:zBo xs[k]=decide (xs[k]∈zCI):=by
      have e1:(decide (97≤xs[k].toNat)&&decide (xs[k].toNat≤102))=false:=by simpa using r1
      have e2:(decide (65≤xs[k].toNat)&&decide (xs[k].toNat≤70))=false:=by simpa using r2
      rw[zBo,hd,e1,e2];rfl
     have HO:=zD hod
     clear hod
     obtain⟨m,hm⟩:∃m,decide (xs[k]∈zCI)=m:=⟨_,rfl⟩
     have HM:=zD hm
     clear hm
     cases m with
     | true=>
      cases s
      all_goals
       go_wp2_with (first | (go_at_call 156;refine(zB9 _ _).mono ?_;rintro e w' ⟨rfl,rfl⟩) | (go_at_call 32;refine(zGQ _).mono ?_;rintro e w1 ⟨A1,c1,rfl,hr1,hb1⟩) | (go_at_call 185;refine(zDb _ hr1 (by decide)).mono ?_;rintro e w2 ⟨rfl,rfl⟩;rw[HM.out]))
       all_goals go_roundw
       all_goals first | exact⟨k+1,by omega,by go_num,by rw[HS.out,HK.out,hd];rfl,HA.out.trans (HO.out.trans HM.out),hnx.trans (hb1.mono hnx.size)⟩ | (simp[intOf];omega)
     | false=>
      have HB':=zD (HB.out (HO.out.trans HM.out))
      cases s
      all_goals
       go_wp2_with (first | (go_at_call 156;refine(zB9 _ _).mono ?_;rintro e w' ⟨rfl,rfl⟩) | (go_at_call 32;refine(zGQ _).mono ?_;rintro e w1 ⟨A1,c1,rfl,hr1,hb1⟩) | (go_at_call 185;refine(zDb _ hr1 (by decide)).mono ?_;rintro e w2 ⟨rfl,rfl⟩;rw[HM.out]))
       all_goals go_ret
       all_goals exact⟨zf HB'.out.symm,hnx.trans (hb1.mono hnx.size)⟩
  · go_wp2
    go_ret
    have hkk:xs.take k=xs:=List.take_of_length_le (by omega)
    rw[hkk]at hok⊢
    exact⟨zf (by rw[zBJ,hok.out];rfl),hnx⟩
theorem zEV (x:UInt16) (w:World):Calls Tryz.prog 155 #[.int .u16 (x.toNat:Int)] w fun e w'=>e=.returned (.bool (!zQ x))∧w=w':=by
 go_enter Tryz.func155,Tryz.ntmps155
 go_wp2_with (go_at_call 156;refine(zB9 _ _).mono ?_;rintro e w' ⟨rfl,rfl⟩)
 go_ret
 exact⟨rfl,rfl⟩
def zHu (xs:List UInt16):Prop:=xs.any (fun x=> !zQ x)=true
theorem zEq {A:Option Addr} {c B:Nat} {xs:List UInt16} {w:World} (ha:Reads w B 1 A xs.length (zAH xs)) (hl:xs.length≤70368744177664):
 Calls Tryz.prog 186 #[.slice A xs.length c,.func (.func 155) #[] #[]] w (zRv (zHu xs) w):=by
 go_enter Tryz.func186,Tryz.ntmps186
 go_wp2
 go_loop [8] (fun i=>∃k:Nat,k≤xs.length∧i=.int .i64 k∧Hid ((xs.take k).any (fun x=> !zQ x)=false)) (fun i=>xs.length - (intOf i).toNat)
 case atStart=>exact⟨0,Nat.zero_le _,rfl,rfl⟩
 case round=>
  obtain⟨k,hk,rfl,hno⟩:=hrel
  by_cases hlt:k < xs.length
  · obtain⟨ad,hA,_,hca⟩:=ha.u16 hlt
    subst hA
    have h3:(k:Int) < (xs.length:Int):=by omega
    cases hd:zQ xs[k]with
    | false=>
     have HX:=zD (show zHu xs from List.any_eq_true.2 ⟨xs[k],List.getElem_mem _,by rw[hd];rfl⟩)
     go_wp2_with (go_at_call 155;refine(zEV _ _).mono ?_;rintro e w' ⟨rfl,rfl⟩)
     go_ret
     exact⟨k,rfl,⟨fun _=>by omega,fun _=>HX.out⟩,rfl⟩
    | true=>
     have HX:=zD hd
     go_wp2_with (go_at_call 155;refine(zEV _ _).mono ?_;rintro e w' ⟨rfl,rfl⟩)
     go_round
     case rel=>exact⟨k+1,by omega,by go_num,by rw[List.take_succ_eq_append_getElem hlt,List.any_append,hno.out];simp[Hid,HX.out]⟩
     case measure=>simp[intOf];omega
  · go_wp2
    go_ret
    refine⟨-1,rfl,⟨fun h=>absurd h ?_,fun h=>by omega⟩,rfl⟩
    have h1:=hno.out
    rw[List.take_of_length_le (by omega)]at h1
    rw[zHu,h1];simp
theorem zBS {A:Option Addr} {c B:Nat} {xs:List UInt16} {w:World} (ha:Reads w B 1 A xs.length (zAH xs)) (hl:xs.length≤70368744177664):
 Calls Tryz.prog 154 #[.slice A xs.length c,.func (.func 155) #[] #[]] w fun e w'=>e=.returned (.bool (!xs.all zQ))∧w=w':=by
 go_enter Tryz.func154,Tryz.ntmps154
 go_wp2_with fail
 refine(zEq ha hl).mono ?_
 rintro e w' ⟨k,rfl,hk,rfl⟩
 have HK:=zD hk
 clear hk
 go_wp2
 go_ret
 refine⟨zf ?_,rfl⟩
 have h1:=HK.out
 rw[Bool.eq_iff_iff,decide_eq_true_eq,←h1,zHu]
 simp
def Sl (w:World) (B:Nat) (v:Value) (ys:List UInt16):Prop:=∃A c,v=.slice A ys.length c∧ys.length≤c∧c≤maxLen∧Reads w B 1 A ys.length (zAH ys)
def lenOf:Value→Nat | .slice _ n _=>n | _=>0
theorem Sl.cut1 {w:World} {B c:Nat} {ad:Addr} {ys:List UInt16} (hr:Reads w B 1 (some ad) ys.length (zAH ys)) (h0:0 < ys.length) (hc:ys.length≤c) (hc2:c≤maxLen):
 Sl w B (.slice (if c=1 then some ad else some ⟨ad.block,ad.off+1,none⟩) (ys.length - 1) (c - 1)) (ys.drop 1):=by
 have hl:(ys.drop 1).length=ys.length - 1:=List.length_drop
 refine⟨_,c - 1,by rw[hl],by rw[hl];omega,by omega,?_⟩
 exact hr.cut16 (k:=1) h0 hc
theorem Sl.less1 {w:World} {B c:Nat} {A:Option Addr} {ys:List UInt16} (hr:Reads w B 1 A ys.length (zAH ys)) (hc:ys.length≤c) (hc2:c≤maxLen):
 Sl w B (.slice A (ys.length - 1) c) (ys.take (ys.length - 1)):=by
 have hl:(ys.take (ys.length - 1)).length=ys.length - 1:=by rw[List.length_take];omega
 exact⟨A,c,by rw[hl],by rw[hl];omega,hc2,hr.take16 (by omega)⟩
theorem zMP {ts:List UInt16} (h:0 < ts.length):zBp ts=((ts[0].toNat:Int)==45):=by
 cases ts with
 | nil=>simp at h
 | cons x r=>
  rw[Bool.eq_iff_iff,zBp]
  simp only[List.headD_cons,beq_iff_eq,List.getElem_cons_zero,←UInt16.toNat_inj]
  simp
  omega
def zDc (ts:List UInt16):Bool:=zBp ts || ts.headD 0==43
theorem zG9 {ts:List UInt16} (h:0 < ts.length):zDc ts=(zBp ts || ((ts[0].toNat:Int)==43)):=by
 cases ts with
 | nil=>simp at h
 | cons x r=>
  rw[zDc]
  congr 1
  rw[Bool.eq_iff_iff]
  simp only[List.headD_cons,beq_iff_eq,List.getElem_cons_zero,←UInt16.toNat_inj]
  simp
  omega
theorem zGR (ts:List UInt16):zAJ ts=if zDc ts=true then ts.drop 1 else ts:=by
 simp[zAJ,zDc,zBp]
theorem zHA {ys:List UInt16} (h:0 < ys.length) (hb:zAX (ys[ys.length - 1]'(by omega))=true):zEF ys=zEF (ys.take (ys.length - 1)):=by
 have e:ys=ys.take (ys.length - 1)++[ys[ys.length - 1]'(by omega)]:=by
  rw[←List.take_succ_eq_append_getElem (by omega),List.take_of_length_le (by omega)]
 conv=>lhs;rw[e]
 rw[zEF,List.reverse_append]
 show(List.dropWhile zAX (_::(ys.take (ys.length - 1)).reverse)).reverse=_
 rw[List.dropWhile_cons_of_pos hb];rfl
theorem zJy {ys:List UInt16} (h:0 < ys.length) (hb:zAX (ys[ys.length - 1]'(by omega))=false):zEF ys=ys:=by
 have e:ys=ys.take (ys.length - 1)++[ys[ys.length - 1]'(by omega)]:=by
  rw[←List.take_succ_eq_append_getElem (by omega),List.take_of_length_le (by omega)]
 have e2:zEF (ys.take (ys.length - 1)++[ys[ys.length - 1]'(by omega)])=ys.take (ys.length - 1)++[ys[ys.length - 1]'(by omega)]:=by
  rw[zEF,List.reverse_append]
  show(List.dropWhile zAX (_::(ys.take (ys.length - 1)).reverse)).reverse=_
  rw[List.dropWhile_cons_of_neg (by simp[hb])]
  simp only[List.reverse_cons,List.reverse_reverse]
 rw[←e]at e2
 exact e2
theorem zSl {ys:List UInt16} (h:0 < ys.length) (hb:zAX ys[0]=true):ys.dropWhile zAX=(ys.drop 1).dropWhile zAX:=by
 cases ys with
 | nil=>simp at h
 | cons y ys=>simp only[List.getElem_cons_zero]at hb;rw[List.dropWhile_cons_of_pos hb];rfl
theorem zSm {ys:List UInt16} (h:0 < ys.length) (hb:zAX ys[0]=false):ys.dropWhile zAX=ys:=by
 cases ys with
 | nil=>simp at h
 | cons y ys=>simp only[List.getElem_cons_zero]at hb;rw[List.dropWhile_cons_of_neg (by simp[hb])]
theorem zJz {A:Option Addr} {c B D:Nat} {xs:List UInt16} {W w:World} (hb:Below D W w) (hBD:B≤D) (hD:D≤W.heap.size) (ha:Reads W B 1 A xs.length (zAH xs)) (hl:xs.length≤70368744177664):
 Calls Tryz.prog 152 #[.slice A xs.length c] w fun e w'=>e=.returned (.bool (zBJ xs))∧Below w.heap.size w w'∧Below D W w':=by
 have hs:=hb.size
 refine(zG8 (B:=B) (by omega) (ha.below (hb.mono hBD)) hl).mono ?_
 rintro e w' ⟨rfl,hb'⟩
 exact⟨rfl,hb',hb.trans (hb'.mono (by omega))⟩
def NumAt (w:World) (g:Nat) (k n:Int):Prop:=
 w.cell? ⟨g,0,none⟩=some (.int .i64 k)∧w.cell? ⟨g,1,none⟩=some (.int .i64 n)∧w.frozen? ⟨g,0,none⟩=false∧w.frozen? ⟨g,1,none⟩=false
theorem NumAt.below {D g:Nat} {k n:Int} {w w':World} (h:NumAt w g k n) (hb:Below D w w') (hg:g < D):NumAt w' g k n:=
 ⟨(hb.cell (p:=⟨g,0,none⟩) hg).trans h.1,(hb.cell (p:=⟨g,1,none⟩) hg).trans h.2.1,(hb.frozen (p:=⟨g,0,none⟩) hg).trans h.2.2.1,(hb.frozen (p:=⟨g,1,none⟩) hg).trans h.2.2.2⟩
theorem zMQ {W w2:World} {a b:Value} {T:TypeId} (hb:Below (W.drew.alloc (.cells #[a,b] T)).heap.size (W.drew.alloc (.cells #[a,b] T)) w2):
 w2.cell? ⟨W.heap.size,0,none⟩=some a∧w2.cell? ⟨W.heap.size,1,none⟩=some b∧w2.frozen? ⟨W.heap.size,0,none⟩=false∧w2.frozen? ⟨W.heap.size,1,none⟩=false:=by
 have h:W.heap.size < (W.drew.alloc (.cells #[a,b] T)).heap.size:=by simp
 refine⟨(hb.cell (p:=⟨W.heap.size,0,none⟩) h).trans ?_,(hb.cell (p:=⟨W.heap.size,1,none⟩) h).trans ?_,(hb.frozen (p:=⟨W.heap.size,0,none⟩) h).trans ?_,(hb.frozen (p:=⟨W.heap.size,1,none⟩) h).trans ?_⟩
 all_goals go_simp
theorem zBz {D:Nat} {W w':World} (hDW:D≤W.heap.size) (hb:Below D W w') (o:Obj):Below D W (w'.alloc o):=hb.alloc (Nat.le_trans hDW hb.size) o
theorem zFB {D:Nat} {W w':World} (hDW:D≤W.heap.size) (hb:Below D W w') (a b:Value):Below D W ((w'.setCell ⟨W.heap.size,0,none⟩ a).setCell ⟨W.heap.size,1,none⟩ b):=
 (hb.setCell (p:=⟨W.heap.size,0,none⟩) hDW a).setCell (p:=⟨W.heap.size,1,none⟩) hDW b
theorem NumAt.new (w:World) (k n:Int) (T:TypeId):NumAt (w.alloc (.cells #[.int .i64 k,.int .i64 n] T)) w.heap.size k n:=⟨by go_simp,by go_simp,by go_simp,by go_simp⟩
theorem NumAt.set {w:World} {g:Nat} {a b:Value} (h0:w.cell? ⟨g,0,none⟩=some a) (h1:w.cell? ⟨g,1,none⟩=some b) (f0:w.frozen? ⟨g,0,none⟩=false) (f1:w.frozen? ⟨g,1,none⟩=false) (k n:Int):
 NumAt ((w.setCell ⟨g,0,none⟩ (.int .i64 k)).setCell ⟨g,1,none⟩ (.int .i64 n)) g k n:=⟨by go_simp,by go_simp,by go_simp,by go_simp⟩
theorem zGS (w:World) (a b:Addr) (x y:Value):((w.setCell a x).setCell b y).heap.size=w.heap.size:=by simp
theorem zEW {D g:Nat} {k n:Int} {W w':World} (h:NumAt W g k n) (hg:g < D) (hb:Below D W w'):w'.cell? ⟨g,0,none⟩=some (.int .i64 k)∧w'.cell? ⟨g,1,none⟩=some (.int .i64 n)∧Below D W w':=
 ⟨(h.below hb hg).1,(h.below hb hg).2.1,hb⟩
theorem zCh (w:World):Calls Tryz.prog 32 #[.string ⟨#[73,110,102,105,110,105,116,121]⟩] w fun e w'=>∃A c,e=.returned (.slice A zAz.length c)∧Reads w' w'.heap.size 1 A zAz.length (zAH zAz)∧Below w.heap.size w w':=by
 refine(zDT _ w (by decide)).mono ?_
 rintro e w' ⟨v,rfl,hm⟩
 have hm':Made w w' 24 v (zAH zAz):=hm
 obtain⟨A,c,rfl,_,_,hr⟩:=hm'.u16
 exact⟨A,c,rfl,hr,hm'.below⟩
def BaseOk (ts:List UInt16) (k n:Int) (ok:Bool):Prop:=zDi ts=(⟨k,n⟩,ok)∧((k=2∧n=0)∨(k=3∧n=0)∨(k=0∧0≤n∧n≤9007199254740991))
theorem BaseOk.inf {ts:List UInt16} (h:zAJ ts=zAz):BaseOk ts 3 0 (!zBJ ts):=by
 refine⟨?_,Or.inr (Or.inl ⟨rfl,rfl⟩)⟩
 rw[zGy h,zDi,if_pos h];rfl
theorem BaseOk.dig {ts:List UInt16} (h:¬zAJ ts=zAz) (hd:zAJ ts≠[]∧(zAJ ts).all zQ=true) (hf:zr (zAJ ts)≤9007199254740991):BaseOk ts 0 (zr (zAJ ts)) true:=
 ⟨by rw[zDi,if_neg h,if_pos hd,if_pos hf],Or.inr (Or.inr ⟨rfl,by omega,by omega⟩)⟩
theorem BaseOk.odd {ts:List UInt16} (h:¬zAJ ts=zAz) (hd:¬(zAJ ts≠[]∧(zAJ ts).all zQ=true)):BaseOk ts 2 0 (!zBJ ts):=
 ⟨by rw[zDi,if_neg h,if_neg hd],Or.inl ⟨rfl,rfl⟩⟩
theorem zHB {ts:List UInt16} (h0:0 < ts.length):zNr ts=(if zBp ts=true then zDj (zDi ts).1 else(zDi ts).1,(zDi ts).2):=by
 rw[zNr,if_neg (List.ne_nil_of_length_pos h0)]
theorem zOP {ts:List UInt16} (h0:0 < ts.length) (h:¬zAJ ts=zAz) (hd:zAJ ts≠[]∧(zAJ ts).all zQ=true) (hf:¬zr (zAJ ts)≤9007199254740991):zNr ts=(⟨2,0⟩,false):=by
 rw[zHB h0,zDi,if_neg h,if_pos hd,if_neg hf]
 by_cases hs:zBp ts=true
 · rw[if_pos hs];rfl
 · rw[if_neg hs]
theorem zOQ {ts:List UInt16} {k n:Int} {ok:Bool} (h0:0 < ts.length) (hs:false=zBp ts) (hb:BaseOk ts k n ok):zNr ts=(⟨k,n⟩,ok):=by
 rw[zHB h0,hb.1,if_neg (by rw[←hs];simp)]
theorem zOR {ts:List UInt16} {k n:Int} {ok:Bool} (h0:0 < ts.length) (hs:true=zBp ts) (hb:BaseOk ts k n ok):zNr ts=(zDj ⟨k,n⟩,ok):=by
 rw[zHB h0,hb.1,if_pos hs.symm]
theorem zOS {ts:List UInt16} {k n:Int} {ok:Bool} (hb:BaseOk ts k n ok) (w:World):
 Calls Tryz.prog 158 #[.agg #[.int .i64 k,.int .i64 n]] w fun e w'=>e=.returned (.agg #[.int .i64 (zDj ⟨k,n⟩).kind,.int .i64 (zDj ⟨k,n⟩).n])∧Below w.heap.size w w':=by
 rcases hb.2 with⟨rfl,rfl⟩ | ⟨rfl,rfl⟩ | ⟨rfl,h1,h2⟩
 · exact zQs w
 · exact zQt w
 · by_cases h3:n=0
   · subst h3;exact zIc w
   · have e:zDj ⟨0,n⟩=⟨0, -n⟩:=by simp[zDj,h3]
     rw[e]
     exact zLR n (by omega) h2 w
theorem zCi {D:Nat} {wc w3 w4:World} (h3:Below wc.heap.size wc w3) (h4:Below w3.heap.size w3 w4) (hD:D≤wc.heap.size):Below D wc w4:=
 (h3.mono hD).trans (h4.mono (Nat.le_trans hD h3.size))
theorem zCD {D g:Nat} {W w':World} (hD:D≤g) (hb:Below D W w') (a b:Value):Below D W ((w'.setCell ⟨g,0,none⟩ a).setCell ⟨g,1,none⟩ b):=
 (hb.setCell (p:=⟨g,0,none⟩) hD a).setCell (p:=⟨g,1,none⟩) hD b
theorem zMR {ts:List UInt16} {D b g:Nat} {w wc w4:World} {x y:Value} (hN0:NumAt wc b 0 0) (hbel:Below b w wc) (hb:Below D wc w4) (hbD:b < D) (hDg:D≤g)
 (q0:w4.cell? ⟨g,0,none⟩=some x) (q1:w4.cell? ⟨g,1,none⟩=some y) (q2:w4.frozen? ⟨g,0,none⟩=false) (q3:w4.frozen? ⟨g,1,none⟩=false) (k n:Int) {ok:Bool} (h:BaseOk ts k n ok):
 NumAt ((w4.setCell ⟨g,0,none⟩ (.int .i64 k)).setCell ⟨g,1,none⟩ (.int .i64 n)) g k n∧NumAt ((w4.setCell ⟨g,0,none⟩ (.int .i64 k)).setCell ⟨g,1,none⟩ (.int .i64 n)) b 0 0∧
  Below b w ((w4.setCell ⟨g,0,none⟩ (.int .i64 k)).setCell ⟨g,1,none⟩ (.int .i64 n))∧g < ((w4.setCell ⟨g,0,none⟩ (.int .i64 k)).setCell ⟨g,1,none⟩ (.int .i64 n)).heap.size∧BaseOk ts k n ok:=by
 have h1:=zCD hDg hb (.int .i64 k) (.int .i64 n)
 exact⟨NumAt.set q0 q1 q2 q3 k n,hN0.below h1 hbD,hbel.trans (h1.mono (by omega)),by rw[zGS];exact World.block_lt_of_cell? w4 _ q0,h⟩
theorem zHv {ts:List UInt16} {D b g:Nat} {w wc w4:World} (hN0:NumAt wc b 0 0) (hbel:Below b w wc) (hb:Below D wc w4) (hbD:b < D)
 {k n:Int} (q:NumAt w4 g k n) {ok:Bool} (h:BaseOk ts k n ok):
 NumAt w4 g k n∧NumAt w4 b 0 0∧Below b w w4∧g < w4.heap.size∧BaseOk ts k n ok:=
 ⟨q,hN0.below hb hbD,hbel.trans (hb.mono (by omega)),World.block_lt_of_cell? w4 _ q.1,h⟩
theorem zJ0 {A:Option Addr} {c B:Nat} {xs:List UInt16} {w:World} (hB:B≤w.heap.size) (ha:Reads w B 1 A xs.length (zAH xs)) (hc:xs.length≤c) (hc2:c≤maxLen) (hl:xs.length≤70368744177664):
 Calls Tryz.prog 106 #[.slice A xs.length c] w fun e w'=>e=.returned (.tuple #[.agg #[.int .i64 (zK2 xs).1.kind,.int .i64 (zK2 xs).1.n],.bool (zK2 xs).2])∧Below w.heap.size w w':=by
 go_enter Tryz.func106,Tryz.ntmps106
 go_upto_block 0 with(fail)
 go_cut [0] (fun v wx=>wx=w.alloc (.cells #[.int .i64 0,.int .i64 0] 39)∧∃ys,Sl w B v ys∧Hid (ys=xs.dropWhile zAX)∧ys.length≤xs.length)
 case first=>
  go_wp2_with fail
  go_loop [0] (fun v=>∃ys,Sl w B v ys∧Hid (ys.dropWhile zAX=xs.dropWhile zAX)∧ys.length≤xs.length) (fun v=>lenOf v)
  case atStart=>exact⟨xs,⟨A,c,rfl,hc,hc2,ha⟩,rfl,Nat.le_refl _⟩
  case round=>
   obtain⟨ys,⟨A',c',rfl,hc1,hc3,hr⟩,heq,hle⟩:=hrel
   by_cases h0:0 < ys.length
   · obtain⟨ad,hA,hlt,hca⟩:=(hr.alloc hB (.cells #[.int .i64 0,.int .i64 0] 39)).u16_0 h0
     subst hA
     have hz:(0:Int) < (ys.length:Int):=by omega
     cases hb:zAX ys[0]with
     | true=>
      have HB:=zD (zSl h0 hb)
      have HC:=zD (Sl.cut1 hr h0 hc1 hc3)
      go_wp2_with (go_at_call 151;refine(zDV _ _).mono ?_;rintro e w' ⟨rfl,rfl⟩)
      go_round
      case rel=>exact⟨ys.drop 1,HC.out,HB.out.symm.trans heq.out,by rw[List.length_drop];omega⟩
      case measure=>simp[lenOf];omega
     | false=>
      have HB:=zD (zSm h0 hb)
      go_wp2_with (go_at_call 151;refine(zDV _ _).mono ?_;rintro e w' ⟨rfl,rfl⟩)
      go_meet
      exact⟨rfl,ys,⟨some ad,c',rfl,hc1,hc3,hr⟩,HB.out.symm.trans heq.out,hle⟩
   · go_wp2
     go_meet
     have h1:ys=[]:=List.eq_nil_of_length_eq_zero (by omega)
     exact⟨rfl,ys,⟨A',c',rfl,hc1,hc3,hr⟩,by have:=heq.out;rw[h1]at this⊢;exact this,hle⟩
 case rest=>
  obtain⟨hw,ys,hys,hyl,hyle⟩:=hcut
  subst hw
  go_upto_block 2 with(fail)
  go_cut [0] (fun v wx=>wx=w.alloc (.cells #[.int .i64 0,.int .i64 0] 39)∧∃ts,Sl w B v ts∧Hid (ts=zK1 xs)∧ts.length≤xs.length)
  case first=>
   go_wp2_with fail
   go_loop [0] (fun v=>∃zs,Sl w B v zs∧Hid (zEF zs=zEF ys)∧zs.length≤xs.length) (fun v=>lenOf v)
   case atStart=>exact⟨ys,hys,rfl,hyle⟩
   case round=>
    obtain⟨zs,⟨A',c',rfl,hc1,hc3,hr⟩,heq,hle⟩:=hrel
    by_cases h0:0 < zs.length
    · obtain⟨ad,hA,hlt,hca⟩:=(hr.alloc hB (.cells #[.int .i64 0,.int .i64 0] 39)).u16 (k:=zs.length - 1) (by omega)
      subst hA
      have hz:(0:Int) < (zs.length:Int):=by omega
      have hca':(w.alloc (.cells #[.int .i64 0,.int .i64 0] 39)).cell? (ad.add ((zs.length:Int) - 1).toNat)=some (.int .u16 ((zs[zs.length - 1]'(by omega)).toNat:Int)):=by
       rw[show((zs.length:Int) - 1).toNat=zs.length - 1 from by omega];exact hca
      cases hb:zAX (zs[zs.length - 1]'(by omega))with
      | true=>
       have HB:=zD (zHA h0 hb)
       have HC:=zD (Sl.less1 hr hc1 hc3)
       go_wp2_with (go_at_call 151;refine(zDV _ _).mono ?_;rintro e w' ⟨rfl,rfl⟩)
       go_round
       case rel=>exact⟨zs.take (zs.length - 1),HC.out,HB.out.symm.trans heq.out,by rw[List.length_take];omega⟩
       case measure=>simp[lenOf];omega
      | false=>
       have HB:=zD (zJy h0 hb)
       go_wp2_with (go_at_call 151;refine(zDV _ _).mono ?_;rintro e w' ⟨rfl,rfl⟩)
       go_meet
       exact⟨rfl,zs,⟨some ad,c',rfl,hc1,hc3,hr⟩,HB.out.symm.trans (heq.out.trans (by rw[hyl.out];rfl)),hle⟩
    · go_wp2
      go_meet
      have h1:zs=[]:=List.eq_nil_of_length_eq_zero (by omega)
      have h2:zEF zs=zK1 xs:=heq.out.trans (by rw[hyl.out];rfl)
      exact⟨rfl,zs,⟨A',c',rfl,hc1,hc3,hr⟩,by rw[h1]at h2⊢;exact h2,hle⟩
  case rest=>
   obtain⟨hw,ts,⟨A1,c1,hv,hc1,hc3,hr⟩,htl,htle⟩:=hcut
   subst hw
   subst hv
   clear hyl hys hyle ys
   have hN:=zD (show zK2 xs=zNr ts by rw[zK2,htl.out])
   clear htl
   by_cases h0:ts.length=0
   · have h1:ts=[]:=List.eq_nil_of_length_eq_zero h0
     have hN2:=zD (show zK2 xs=(⟨0,0⟩,true) by rw[hN.out,h1];rfl)
     clear hN
     subst h1
     go_wp2
     go_returns
     rw[hN2.out]
     exact⟨rfl,by go_grown⟩
   have e0:((ts.length:Int)==0)=false:=beq_eq_false_iff_ne.2 (by omega)
   have hpos:0 < ts.length:=by omega
   clear h0
   have hz:(0:Int) < (ts.length:Int):=by omega
   have hb0:=zD (hr.u16_0 hpos)
   go_upto_region 8 with(fail)
   go_cut [5,6] (fun d s wx=>d=.slice A1 ts.length c1∧(∃sg,s=.bool sg∧Hid (sg=zBp ts))∧∃n,wx=((w.alloc (.cells #[.int .i64 0,.int .i64 0] 39)).alloc (.cells #[.int .i64 2,.int .i64 0] 39)).drewN n)
   case first=>
    obtain⟨ad,hA,_,hca⟩:=((hr.alloc hB (.cells #[.int .i64 0,.int .i64 0] 39)).alloc (Nat.le_trans hB (by simp)) (.cells #[.int .i64 2,.int .i64 0] 39)).u16_0 hpos
    subst hA
    go_quiet (fail)
    go_wp2_with fail
    go_meet
    exact⟨rfl,⟨_,rfl,(zMP hpos).symm⟩,_,rfl⟩
   case rest=>
    obtain⟨hd,⟨sg,hs,hsg⟩,n,hw⟩:=hcut
    subst hd hs hw
    go_upto_region 9 with(fail)
    go_cut [55] (fun s wx=>(∃si,s=.bool si∧Hid (si=zDc ts))∧wx=((w.alloc (.cells #[.int .i64 0,.int .i64 0] 39)).alloc (.cells #[.int .i64 2,.int .i64 0] 39)).drewN n)
    case first=>
     obtain⟨ad,hA,_,hca⟩:=(((hr.alloc hB (.cells #[.int .i64 0,.int .i64 0] 39)).alloc (Nat.le_trans hB (by simp)) (.cells #[.int .i64 2,.int .i64 0] 39)).drewN n).u16_0 hpos
     subst hA
     have HI:=zD (zG9 hpos)
     cases sg
     · go_wp2_with fail
       go_meet
       exact⟨⟨_,rfl,by rw[HI.out,←hsg.out];rfl⟩,rfl⟩
     · go_wp2_with fail
       go_meet
       exact⟨⟨_,rfl,by rw[HI.out,←hsg.out];rfl⟩,rfl⟩
    case rest=>
     obtain⟨⟨si,hs,hsi⟩,hw⟩:=hcut
     subst hs hw
     go_upto_if 55 with(fail)
     go_cut [5] (fun d wx=>Sl w B d (zAJ ts)∧wx=((w.alloc (.cells #[.int .i64 0,.int .i64 0] 39)).alloc (.cells #[.int .i64 2,.int .i64 0] 39)).drewN n)
     case first=>
      obtain⟨ad,hA,_,hca⟩:=hr.u16_0 hpos
      subst hA
      have HR:=zD (zGR ts)
      cases si
      · go_wp2_with fail
        go_meet
        exact⟨by rw[HR.out,if_neg (by rw[←hsi.out];simp)];exact⟨_,c1,rfl,hc1,hc3,hr⟩,rfl⟩
      · have HC:=zD (Sl.cut1 hr hpos hc1 hc3)
        by_cases hcc:c1=1
        · subst hcc
          go_wp2_with fail
          go_meet
          have hz2:ts.length - 1=0:=by omega
          exact⟨by rw[HR.out,if_pos hsi.out.symm];have h:=HC.out;rw[hz2]at h;exact h,rfl⟩
        · rw[if_neg hcc]at HC
          go_wp2_with fail
          go_meet
          exact⟨by rw[HR.out,if_pos hsi.out.symm];exact HC.out,rfl⟩
     case rest=>
      obtain⟨⟨A2,c2,hd,hd1,hd3,hd4⟩,hw⟩:=hcut
      subst hd hw
      clear hsi
      go_upto_region 11 with(fail)
      have hWs:(((w.alloc (.cells #[.int .i64 0,.int .i64 0] 39)).alloc (.cells #[.int .i64 2,.int .i64 0] 39)).drewN n).heap.size=w.heap.size+2:=by simp
      have hWb:Below w.heap.size w (((w.alloc (.cells #[.int .i64 0,.int .i64 0] 39)).alloc (.cells #[.int .i64 2,.int .i64 0] 39)).drewN n):=zBn (by go_grown) n
      have hW1:NumAt (((w.alloc (.cells #[.int .i64 0,.int .i64 0] 39)).alloc (.cells #[.int .i64 2,.int .i64 0] 39)).drewN n) w.heap.size 0 0:=⟨by go_simp,by go_simp,by go_simp,by go_simp⟩
      have hW2:NumAt (((w.alloc (.cells #[.int .i64 0,.int .i64 0] 39)).alloc (.cells #[.int .i64 2,.int .i64 0] 39)).drewN n) (w.heap.size+1) 2 0:=⟨by go_simp,by go_simp,by go_simp,by go_simp⟩
      have hr':Reads (((w.alloc (.cells #[.int .i64 0,.int .i64 0] 39)).alloc (.cells #[.int .i64 2,.int .i64 0] 39)).drewN n) B 1 A1 ts.length (zAH ts):=hr.below (hWb.mono hB)
      have hd4':Reads (((w.alloc (.cells #[.int .i64 0,.int .i64 0] 39)).alloc (.cells #[.int .i64 2,.int .i64 0] 39)).drewN n) B 1 A2 (zAJ ts).length (zAH (zAJ ts)):=hd4.below (hWb.mono hB)
      have htle':ts.length≤70368744177664:=by omega
      generalize (((w.alloc (.cells #[.int .i64 0,.int .i64 0] 39)).alloc (.cells #[.int .i64 2,.int .i64 0] 39)).drewN n)=W at *
      have hr0:=hr'
      have hDlt:w.heap.size+1 < w.heap.size+2:=by omega
      have hBD:B≤w.heap.size+2:=by omega
      have hDW:w.heap.size+2≤W.heap.size:=by omega
      have HWS:=zD hWs
      clear hWs
      have hc0:=hW2.1
      have hc1':=hW2.2.1
      have hbW:Below (w.heap.size+2) W W:=Below.refl _ _
      have HR0:=zD hr0
      clear hr0
      go_cut [7,8] (fun p s wx=>(∃g,p=.pointer (some ⟨g,0,none⟩)∧w.heap.size+2≤g∧NumAt wx g 2 0∧g < wx.heap.size)∧s=.bool (!zBJ ts)∧Below (w.heap.size+2) W wx)
      case first=>
       go_region_held3 (fun w'=>w'.cell? ⟨w.heap.size+1,0,none⟩=some (.int .i64 2)∧w'.cell? ⟨w.heap.size+1,1,none⟩=some (.int .i64 0)∧Below (w.heap.size+2) W w')
        (first
         | (exact zEW hW2 hDlt (by assumption))
         | (exact zEW hW2 hDlt (Below.refl _ _).drew)
         | (exact zEW hW2 hDlt (zBz hDW (by assumption) _))
         | (exact zEW hW2 hDlt (zBz hDW (Below.refl _ _).drew _))
         | (exact zEW hW2 hDlt (zFB hDW (by assumption) _ _))
         | go_keep)
        (first
         | (go_at_call 152;go_split_ands;refine(zJz (D:=w.heap.size+2) (W:=W) ?_ hBD hDW HR0.out htle').mono ?_;(first | assumption | exact(Below.refl _ _).drew | exact zBz hDW (Below.refl _ _).drew _);rintro e w2 ⟨rfl,hb2,hb3⟩;(try (have hnew:=zMQ hb2;have n0:=hnew.1;have n1:=hnew.2.1;have n2:=hnew.2.2.1;have n3:=hnew.2.2.2;clear hnew))))
       all_goals have hs3:=hb3.size
       all_goals (go_wp2_with fail;go_meet)
       · exact⟨⟨_,rfl,by omega,NumAt.new _ _ _ _,by simp⟩,rfl,zBz hDW hb3 _⟩
       · exact⟨⟨_,rfl,hDW,NumAt.set n0 n1 n2 n3 _ _,by rw[zGS];exact World.block_lt_of_cell? w2 _ n0⟩,rfl,zFB hDW hb3 _ _⟩
      case rest=>
       obtain⟨⟨g,hp,hDg,hg,hgl⟩,hs,hbw⟩:=hcut
       subst hp hs
       have hNum:=zD hg
       have hN0:=zD (hW1.below hbw (show w.heap.size < w.heap.size+2 by omega))
       have hN1:=zD (hW2.below hbw hDlt)
       have hrd:=zD (hd4'.below (hbw.mono hBD))
       have hbel:=zD (hWb.trans (hbw.mono (show w.heap.size≤w.heap.size+2 by omega)))
       have hsz:=hbw.size
       have hDs:w.heap.size+2≤wc.heap.size:=by omega
       have hDlt0:w.heap.size < w.heap.size+2:=by omega
       have hDg:=hDg
       clear hg hW1 hW2 hd4' hWb hc0 hc1' hbW
       have hrlen:(zAJ ts).length≤70368744177664:=by
        have h:(zAJ ts).length≤ts.length:=by
         rw[zGR];split
         · rw[List.length_drop];omega
         · exact Nat.le_refl _
        omega
       go_upto_block 4 with(fail)
       go_cut [8] (fun ok wx=>∃k n okb,ok=.bool okb∧NumAt wx g k n∧NumAt wx w.heap.size 0 0∧Below w.heap.size w wx∧g < wx.heap.size∧BaseOk ts k n okb)
       case first=>
        by_cases hinf:zAJ ts=zAz
        · have HB:=zD (BaseOk.inf hinf)
          have HI:=zD hinf
          clear hinf
          go_wp2_with (first | (go_at_call 32;refine(zCh _).mono ?_;rintro e w3 ⟨A3,c3,rfl,hr3,hb3⟩;have hs3:=hb3.size) | (go_at_call 153;refine(zDa (Nat.le_refl _) ((hrd.out.below (hb3.mono (by omega))).more (by omega)) hr3 hrlen (by decide)).mono ?_;rintro e w4 ⟨rfl,hb4⟩;rw[decide_eq_true HI.out];have hb34:=zCi hb3 hb4 hDs;obtain⟨q0,q1,q2,q3⟩:=(hNum.out.below hb3 hgl).below hb4 (by omega);obtain⟨p0,p1,p2,p3⟩:=hN0.out.below hb34 hDlt0;obtain⟨r0,r1,r2,r3⟩:=hN1.out.below hb34 hDlt))
          go_meet
          exact⟨3,0,_,rfl,zMR hN0.out hbel.out hb34 hDlt0 hDg q0 q1 q2 q3 3 0 HB.out⟩
        · have HI:=zD hinf
          clear hinf
          by_cases hdig:zAJ ts≠[]∧(zAJ ts).all zQ=true
          · have hlz:(0:Int) < ((zAJ ts).length:Int):=by have:=List.length_pos_iff.2 hdig.1;omega
            have HA:=zD hdig.2
            have HDG:=zD (List.all_eq_true.1 hdig.2)
            have HDD:=zD hdig
            clear hdig
            by_cases hfit:zr (zAJ ts)≤9007199254740991
            · have HF:=zD hfit
              clear hfit
              go_wp2_with (first | (go_at_call 32;refine(zCh _).mono ?_;rintro e w3 ⟨A3,c3,rfl,hr3,hb3⟩;have hs3:=hb3.size) | (go_at_call 153;refine(zDa (Nat.le_refl _) ((hrd.out.below (hb3.mono (by omega))).more (by omega)) hr3 hrlen (by decide)).mono ?_;rintro e w4 ⟨rfl,hb4⟩;rw[decide_eq_false HI.out];have hb34:=zCi hb3 hb4 hDs;obtain⟨q0,q1,q2,q3⟩:=(hNum.out.below hb3 hgl).below hb4 (by omega);obtain⟨p0,p1,p2,p3⟩:=hN0.out.below hb34 hDlt0;obtain⟨r0,r1,r2,r3⟩:=hN1.out.below hb34 hDlt) | (go_at_call 154;refine(zBS ((hrd.out.below (hb34.mono hBD))) hrlen).mono ?_;rintro e w5 ⟨rfl,rfl⟩;rw[HA.out]) | (go_at_call 157;refine(zGP ((hrd.out.below (hb34.mono hBD))) hrlen HDG.out).mono ?_;rintro e w5 ⟨nv,rfl,hnv,rfl⟩;have HNV:=zD hnv;clear hnv;rw[decide_eq_true HF.out]))
              go_meet
              have hnv:=HNV.out HF.out
              subst hnv
              exact⟨0,_,_,rfl,zMR hN0.out hbel.out hb34 hDlt0 hDg q0 q1 q2 q3 0 _ (BaseOk.dig HI.out HDD.out HF.out)⟩
            · have HF:=zD hfit
              clear hfit
              have HN2:=zD (hN.out.trans (zOP hpos HI.out HDD.out HF.out))
              go_wp2_with (first | (go_at_call 32;refine(zCh _).mono ?_;rintro e w3 ⟨A3,c3,rfl,hr3,hb3⟩;have hs3:=hb3.size) | (go_at_call 153;refine(zDa (Nat.le_refl _) ((hrd.out.below (hb3.mono (by omega))).more (by omega)) hr3 hrlen (by decide)).mono ?_;rintro e w4 ⟨rfl,hb4⟩;rw[decide_eq_false HI.out];have hb34:=zCi hb3 hb4 hDs;obtain⟨q0,q1,q2,q3⟩:=(hNum.out.below hb3 hgl).below hb4 (by omega);obtain⟨p0,p1,p2,p3⟩:=hN0.out.below hb34 hDlt0;obtain⟨r0,r1,r2,r3⟩:=hN1.out.below hb34 hDlt) | (go_at_call 154;refine(zBS ((hrd.out.below (hb34.mono hBD))) hrlen).mono ?_;rintro e w5 ⟨rfl,rfl⟩;rw[HA.out]) | (go_at_call 157;refine(zGP ((hrd.out.below (hb34.mono hBD))) hrlen HDG.out).mono ?_;rintro e w5 ⟨nv,rfl,hnv,rfl⟩;have HNV:=zD hnv;clear hnv;rw[decide_eq_false HF.out]))
              obtain⟨f0,f1,_,_⟩:=NumAt.set p0 p1 p2 p3 2 0
              refine bodyPost_ret (v:=.tuple #[.agg #[.int .i64 2,.int .i64 0],.bool false]) (by simp[results,Tryz.results106,go_sem,f0,f1]) rfl ?_
              rw[HN2.out]
              exact⟨rfl,hbel.out.trans ((zCD (Nat.le_refl _) (hb34.mono (by omega)) _ _))⟩
          · have HDD:=zD hdig
            by_cases hnil:(zAJ ts).length=0
            · clear hdig
              have hlz:¬(0:Int) < ((zAJ ts).length:Int):=by omega
              have HNIL:=zD hnil
              clear hnil
              go_wp2_with (first | (go_at_call 32;refine(zCh _).mono ?_;rintro e w3 ⟨A3,c3,rfl,hr3,hb3⟩;have hs3:=hb3.size) | (go_at_call 153;refine(zDa (Nat.le_refl _) ((hrd.out.below (hb3.mono (by omega))).more (by omega)) hr3 hrlen (by decide)).mono ?_;rintro e w4 ⟨rfl,hb4⟩;rw[decide_eq_false HI.out];have hb34:=zCi hb3 hb4 hDs;obtain⟨q0,q1,q2,q3⟩:=(hNum.out.below hb3 hgl).below hb4 (by omega);obtain⟨p0,p1,p2,p3⟩:=hN0.out.below hb34 hDlt0;obtain⟨r0,r1,r2,r3⟩:=hN1.out.below hb34 hDlt))
              go_meet
              exact⟨2,0,_,rfl,zHv hN0.out hbel.out hb34 hDlt0 ⟨q0,q1,q2,q3⟩ (BaseOk.odd HI.out HDD.out)⟩
            · have hlz:(0:Int) < ((zAJ ts).length:Int):=by omega
              have hal:(zAJ ts).all zQ=false:=by
               cases h:(zAJ ts).all zQ with
               | false=>rfl
               | true=>exact absurd ⟨fun h2=>hnil (by rw[h2];rfl),h⟩ hdig
              have HA:=zD hal
              clear hdig hnil hal
              go_wp2_with (first | (go_at_call 32;refine(zCh _).mono ?_;rintro e w3 ⟨A3,c3,rfl,hr3,hb3⟩;have hs3:=hb3.size) | (go_at_call 153;refine(zDa (Nat.le_refl _) ((hrd.out.below (hb3.mono (by omega))).more (by omega)) hr3 hrlen (by decide)).mono ?_;rintro e w4 ⟨rfl,hb4⟩;rw[decide_eq_false HI.out];have hb34:=zCi hb3 hb4 hDs;obtain⟨q0,q1,q2,q3⟩:=(hNum.out.below hb3 hgl).below hb4 (by omega);obtain⟨p0,p1,p2,p3⟩:=hN0.out.below hb34 hDlt0;obtain⟨r0,r1,r2,r3⟩:=hN1.out.below hb34 hDlt) | (go_at_call 154;refine(zBS ((hrd.out.below (hb34.mono hBD))) hrlen).mono ?_;rintro e w5 ⟨rfl,rfl⟩;rw[HA.out]))
              go_meet
              exact⟨2,0,_,rfl,zHv hN0.out hbel.out hb34 hDlt0 ⟨q0,q1,q2,q3⟩ (BaseOk.odd HI.out HDD.out)⟩
       case rest=>
        obtain⟨k,nn,okb,hok,hg,hz0,hbf,hgl2,hbase⟩:=hcut
        subst hok
        have HBS:=zD hbase
        clear hbase
        have HG:=zD hg
        have HZ:=zD hz0
        obtain⟨q0,q1,q2,q3⟩:=hg
        obtain⟨p0,p1,p2,p3⟩:=hz0
        have hgw:w.heap.size < g:=by omega
        cases sg with
        | false=>
         have HN2:=zD (hN.out.trans (zOQ hpos hsg.out HBS.out))
         go_wp2
         obtain⟨f0,f1,_,_⟩:=NumAt.set p0 p1 p2 p3 k nn
         refine bodyPost_ret (v:=.tuple #[.agg #[.int .i64 k,.int .i64 nn],.bool okb]) (by simp[results,Tryz.results106,go_sem,f0,f1]) rfl ?_
         rw[HN2.out]
         exact⟨rfl,zCD (Nat.le_refl _) hbf _ _⟩
        | true=>
         have HN2:=zD (hN.out.trans (zOR hpos hsg.out HBS.out))
         go_wp2_with (go_at_call 158;refine(zOS HBS.out _).mono ?_;rintro e w6 ⟨rfl,hb6⟩;obtain⟨t0,t1,t2,t3⟩:=HG.out.below hb6 hgl2;obtain⟨s0,s1,s2,s3⟩:=HZ.out.below hb6 (by omega);have hs6:=hb6.size)
         have hbz:=zCD (D:=w.heap.size+1) (g:=g) (by omega) (Below.refl _ w6) (.int .i64 (zDj ⟨k,nn⟩).kind) (.int .i64 (zDj ⟨k,nn⟩).n)
         obtain⟨z0,z1,z2,z3⟩:=(HZ.out.below hb6 (by omega)).below hbz (by omega)
         obtain⟨f0,f1,_,_⟩:=NumAt.set z0 z1 z2 z3 (zDj ⟨k,nn⟩).kind (zDj ⟨k,nn⟩).n
         refine bodyPost_ret (v:=.tuple #[.agg #[.int .i64 (zDj ⟨k,nn⟩).kind,.int .i64 (zDj ⟨k,nn⟩).n],.bool okb]) (by simp[results,Tryz.results106,go_sem,f0,f1]) rfl ?_
         rw[HN2.out]
         exact⟨rfl,zCD (Nat.le_refl _) ((hbf.trans (hb6.mono (by omega))).trans (hbz.mono (by omega))) _ _⟩
theorem zCj {x:UInt16} (h:zQ x=true):zAX x=false:=by
 have:=zBB.1 h
 simp[zAX]
 omega
theorem zFC {u:List UInt16} (h:∀x∈u,zAX x=false):u.dropWhile zAX=u:=by
 cases u with
 | nil=>rfl
 | cons x r=>simp[List.dropWhile,h x (by simp)]
theorem zFD {u:List UInt16} (h:∀x∈u,zAX x=false):zK1 u=u:=by
 unfold zK1 zEF
 rw[zFC h,zFC (fun x hx=>h x (by simpa using hx)),List.reverse_reverse]
theorem zJ1 {u:List UInt16} (h0:0 < u.length) (hd:∀x∈u,zQ x=true) (hf:zr u≤9007199254740991):zK2 u=(⟨0,zr u⟩,true):=by
 have hx:=zBB.1 (hd _ (List.getElem_mem h0))
 have hne:u≠[]:=List.ne_nil_of_length_pos h0
 obtain⟨x,r,rfl⟩:=List.exists_cons_of_ne_nil hne
 simp only[List.getElem_cons_zero]at hx
 have hs:zBp (x::r)=false:=by
  simp only[zBp,List.headD_cons,beq_eq_false_iff_ne]
  rintro rfl
  simp at hx
 have hr:zAJ (x::r)=x::r:=by
  unfold zAJ
  rw[if_neg]
  simp only[List.headD_cons]
  rintro(rfl | rfl)<;>simp at hx
 have hi:x::r≠zAz:=by
  intro h
  have h73:x=73:=by injection h
  rw[h73]at hx
  simp at hx
 unfold zK2
 rw[zFD (fun x hx=>zCj (hd x hx))]
 unfold zNr
 rw[if_neg hne,hs]
 unfold zDi
 have hall:=List.all_eq_true.2 hd
 simp only[hr,hi,hf,hall,ne_eq,hne,not_false_eq_true,and_self,if_true,if_false,Bool.false_eq_true]
theorem zHC {k:Nat}:∀{n:Nat},n < 10^(k+1)→(zEG n).length≤k+1:=by
 induction k with
 | zero=>intro n h;rw[zFU (by simpa using h)];simp
 | succ k ih=>
  intro n h
  by_cases h1:n < 10
  · rw[zFU h1];simp
  · rw[zGz h1]
    have:=@ih (n / 10) (by rw[Nat.pow_succ]at h;omega)
    simp
    omega
end Go.Proofs.YtlohaclgbfhijaaGreatDoor
