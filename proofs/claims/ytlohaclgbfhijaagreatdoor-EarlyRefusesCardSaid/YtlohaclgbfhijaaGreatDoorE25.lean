/- Joined for the claim EarlyRoot: the parser, the lexer and the trees as they are walked, made short by a program of mine. -/
import Derived.Test.YtlohaclgbfhijaaGreatDoorE24
import Derived.Test.YtlohaclgbfhijaaGreatDoorE01
import Derived.Test.YtlohaclgbfhijaaGreatDoorE07
import Derived.Test.YtlohaclgbfhijaaGreatDoorE06
import Derived.Laws.IdiomStrings
import Derived.Test.YtlohaclgbfhijaaGreatDoorCards
import Derived.Test.YtlohaclgbfhijaaGreatDoorTie
import Derived.ProofKit
import Derived.OpenShut
import Derived.Deep.DeepHandedRow
import Derived.Lib.LaidTab
import Derived.Test.YtlohaclgbfhijaaGreatDoorE21
import Derived.Lib.LaidU8
set_option maxHeartbeats 16000000
set_option maxRecDepth 1000000
namespace Go.Proofs.YtlohaclgbfhijaaGreatDoor
open Go.Proofs.Tryz
section Zq
open Go.RowKit Go.Lib
theorem Reads.head {w:World} {B n:Nat} {A:Option Addr} {l:List UInt8} (h:Reads w B 1 A n (u8s l)) (h0:0 < l.length):
 ∃b off,A=some ⟨b,off,none⟩∧b < B∧∀j,j < l.length→w.cell? ⟨b,off+j,none⟩=some (.int .u8 ((l.getD j 0).toNat:Int)):=by
 have hl:l.length=n:=by have:=h.1;simpa [u8s]using this
 obtain⟨ad,e,hb,hc⟩:=h.2 (by omega);have hs:ad.spot=none:=by
  have h1:=hc 0 (u8v l[0]) (by rw[u8s,List.getElem?_map,yAB h0];rfl);cases hsp:ad.spot with
  | none=>rfl
  | some s=>
   exfalso;simp only[Addr.add,if_true,World.cell?,hsp]at h1;split at h1
   · simp at h1
   · cases h1
 obtain⟨b,off,sp⟩:=ad;simp only at hs;subst hs;refine⟨b,off,e,hb,fun j hj=>?_⟩;have h1:=hc j (u8v l[j]) (by rw[u8s,List.getElem?_map,yAB hj];rfl);rw[Addr.add_lit]at h1;rw[h1];simp[u8v,List.getD,hj]
theorem zGy (n b off cap:Nat) (x0:UInt8) (w:World) (hn:(0:Int) < (n:Int)) (hs0:w.cell? ⟨b,off,none⟩=some (.int .u8 x0.toNat)) (ha:(x0.toNat:Int) < 128):
 Calls prog 73 #[.slice (some ⟨b,off,none⟩) n cap] w fun e w'=>e=.returned (.tuple #[.int .i32 x0.toNat,.int .i64 1])∧w'=w:=by
 have l0:=x0.toNat_lt;go_enter func73,ntmps73;go_wp2
 go_loop [8] (fun i=>i=.int .i64 0) (fun _=>0)
 case atStart=>rfl
 case round=>
  subst hrel;go_wp2
  go_ret2
  exact⟨rfl,rfl⟩
theorem zMQ (n b off cap:Nat) (x0:UInt8) (w:World) (R K:Int) (Q:World→Prop) (hz:(0:Int) < (n:Int)) (hs0:w.cell? ⟨b,off,none⟩=some (.int .u8 x0.toNat)) (ha:¬((x0.toNat:Int) < 128))
 (cS:Calls prog 110 #[.slice (some ⟨b,off,none⟩) n cap] w fun e w'=>e=.returned (.tuple #[.int .i32 R,.int .i64 K])∧Q w'):
 Calls prog 73 #[.slice (some ⟨b,off,none⟩) n cap] w fun e w'=>e=.returned (.tuple #[.int .i32 R,.int .i64 K])∧Q w':=by
 have HS:=zA cS;clear cS;go_enter func73,ntmps73;go_wp2
 go_loop [8] (fun i=>i=.int .i64 0) (fun _=>0)
 case atStart=>rfl
 case round=>
  subst hrel;go_wp2_with (go_at_call 110;refine HS.out.mono ?_;rintro e w' ⟨rfl,hb⟩)
  go_ret2
  exact⟨rfl,hb⟩
theorem zJ0 {A:Option Addr} {cap B:Nat} {l:List UInt8} {w:World} (hT:Tabs w) (h0:0 < l.length) (hr:Reads w B 1 A l.length (u8s l)):
 Calls prog 73 #[.slice A l.length cap] w fun e w'=>e=.returned (.tuple #[.int .i32 (dec l).1,.int .i64 (dec l).2])∧Below w.heap.size w w':=by
 obtain⟨b,off,rfl,_,hc⟩:=hr.head h0;have hs0:w.cell? ⟨b,off,none⟩=some (.int .u8 ((l.getD 0 0).toNat:Int)):=hc 0 h0
 by_cases ha:(l.getD 0 0).toNat < 128
 · have hd:dec l=((l.getD 0 0).toNat,1):=by simp only[dec,decodeN];rw[if_pos ha]
   rw[hd];refine(zGy _ b off cap _ w (by omega) hs0 (by omega)).mono ?_;rintro e w' ⟨rfl,rfl⟩;exact⟨rfl,Below.refl _ _⟩
 · exact zMQ _ b off cap _ w _ _ _ (by omega) hs0 (by omega) (zOt _ b off cap _ _ _ _ w hT h0 hs0 (fun h=>hc 1 h) (fun h=>hc 2 h) (fun h=>hc 3 h))
end Zq
open Go.RowKit
theorem zEj {A:Option Addr} {cap B n:Nat} {l:List UInt8} {w:World} (hn:l.length=n) (hT:Tabs w) (h0:0 < l.length) (hr:Reads w B 1 A l.length (u8s l)):
 Calls prog 73 #[.slice A n cap] w fun e w'=>e=.returned (.tuple #[.int .i32 (dec l).1,.int .i64 (dec l).2])∧Below w.heap.size w w':=by
 subst hn;exact zJ0 hT h0 hr
theorem zOu {r:Nat} (h:r < 65536):zAD (zEO r)=[.int .u16 (r:Int)]:=by
 rw[zEO,if_pos h];simp only[zAD,List.map_cons,List.map_nil,zQp];congr 2;simp;omega
theorem zQj (m:Nat) (h:m < 2147483648):bits .and .i32 (m:Int) 1023=((m % 1024:Nat):Int):=by
 have e:(BitVec.ofInt 32 (m:Int)).toNat=m:=by rw[BitVec.ofInt_natCast,BitVec.toNat_ofNat];omega
 show IntKind.i32.wrap ((BitVec.ofInt 32 (m:Int)&&&BitVec.ofInt 32 1023).toNat:Int)=_;rw[BitVec.toNat_and,e,show(BitVec.ofInt 32 1023).toNat=2^10 - 1 from rfl,Nat.and_two_pow_sub_one_eq_mod,IntKind.wrap_i32];omega
theorem zOv {r:Nat} (h:65536≤r) (h2:r≤1114111):zAD (zEO r)=[.int .u16 (55296+((r:Int) - 65536) / 1024),.int .u16 (IntKind.u16.wrap (wrap32 (56320+bits .and .i32 ((r:Int) - 65536) 1023)))]:=by
 rw[zEO,if_neg (by omega)];simp only[zAD,List.map_cons,List.map_nil,zQp];congr 2
 · simp;omega
 · congr 1;rw[show((r:Int) - 65536)=((r - 65536:Nat):Int) by omega,zQj _ (by omega),IntKind.wrap_u16];unfold wrap32;simp;omega
def AtU (b:List UInt8) (k:Nat) (xs:List UInt16):Prop:=
 k≤b.length∧xs.length≤k∧zBN b=(xs++(zBN (b.drop k)).1,(zBN (b.drop k)).2.map (·+k))
theorem AtU.start (b:List UInt8):AtU b 0 []:=by
 refine⟨yAE _,yAC _,?_⟩;simp
theorem AtU.bad {b:List UInt8} {k:Nat} {xs:List UInt16} (h:AtU b k xs) (hk:k < b.length) (hb:zFd (dec (b.drop k))=true):(zBN b).2=some k:=by
 have hl:0 < (b.drop k).length:=by rw[List.length_drop];omega
 rw[h.2.2,zI9 hl hb];simp
theorem AtU.good {b:List UInt8} {k:Nat} {xs:List UInt16} (h:AtU b k xs) (hk:k < b.length) (hb:zFd (dec (b.drop k))=false):
 AtU b (k+(dec (b.drop k)).2) (xs++zEO (dec (b.drop k)).1):=by
 have hl:0 < (b.drop k).length:=by rw[List.length_drop];omega
 have h1:=zIE hl;rw[List.length_drop]at h1;refine⟨by omega,?_,?_⟩
 · rw[List.length_append];have h2:=h.2.1;have h3:(zEO (dec (b.drop k)).1).length≤(dec (b.drop k)).2:=by
    unfold zEO;split
    · simp;omega
    · have:=h1.2.2.2.2.2 (by omega);simp;omega
   omega
 · rw[h.2.2,zHJ hl hb,List.drop_drop,List.append_assoc];congr 1;cases (zBN (b.drop (k+(dec (b.drop k)).2))).2 with
   | none=>rfl
   | some j=>simp;omega
theorem AtU.stop {b:List UInt8} {xs:List UInt16} (h:AtU b b.length xs):zBN b=(xs,none):=by
 have h2:=h.2.2;rw[List.drop_length,zI8]at h2;simpa using h2
theorem zEk {v:Value} {b:List UInt8} {k e:Nat} (h1:k=uAt b) (h2:e=zMV b):Ending.returned (.tuple #[v,.int .i64 (k:Int),.int .i64 (e:Int)])=.returned (.tuple #[v,.int .i64 (uAt b:Int),.int .i64 (zMV b:Int)]):=by rw[h1,h2]
theorem zMR {A:Option Addr} {c B:Nat} {b:List UInt8} {w:World} (hT:Tabs w) (hB:B≤w.heap.size) (ha:Reads w B 1 A b.length (u8s b)) (hc:b.length≤c):
 Calls prog 47 #[.slice A b.length c] w fun e w'=>∃v,e=.returned (.tuple #[v,.int .i64 (uAt b:Int),.int .i64 (zMV b:Int)])∧Made w w' 24 v (zAD (zO7 b)):=by
 obtain⟨i0,hi0,hz0,hz1,hz2⟩:=info_parts Tryz.info_u16
 by_cases hlong:4096 < b.length
 · have hb1:(4096:Int) < (b.length:Int):=by omega
   have H1:=zA (show uAt b=0∧zMV b=3∧zO7 b=[]from⟨by simp[uAt,hlong],by simp[zMV,hlong],by simp[zO7,hlong]⟩);go_enter func47,ntmps47;go_wp2
   go_ret3
   obtain⟨h1,h2,h3⟩:=H1.out;exact⟨_,zEk (k:=0) (e:=3) h1.symm h2.symm,by rw[h3];exact Made.nil _ _⟩
 · have hb1:¬(4096:Int) < (b.length:Int):=by omega
   go_enter func47,ntmps47;go_wp2
   go_loopw [5,6] (fun v i wr=>∃k xs,i=.int .i64 (k:Nat)∧Hid (AtU b k xs)∧k≤b.length∧xs.length≤k∧Made w wr 24 v (zAD xs)) (fun _ i _=>b.length - (intOf i).toNat)
   case atStart=>exact⟨0,[],rfl,AtU.start b,yAE _,yAC _,Made.nil _ _⟩
   case round=>
    obtain⟨k,xs,rfl,hat,hk,hxl,hm⟩:=hrel
    by_cases hlt:k < b.length
    · have h3:(k:Int) < (b.length:Int):=by omega
      have h4:(k:Int)≤(b.length:Int):=by omega
      have hl:0 < (b.drop k).length:=by rw[List.length_drop];omega
      have HTr:=zA (hT.grow hm.below);have hr:=(ha.below (hm.below.mono hB)).cut8 (k:=k) (by omega) hc;rw[if_neg (by omega)]at hr;have HR:=zA hr;clear hr;have HL:=zA (List.length_drop (i:=k) (l:=b));obtain⟨hd1,hd2,hd3,hd4,hd5,hd6⟩:=zIE hl;rw[HL.out]at hd3;obtain⟨r,hr⟩:∃r,(dec (b.drop k)).1=r:=⟨_,rfl⟩;obtain⟨n,hn⟩:∃n,(dec (b.drop k)).2=n:=⟨_,rfl⟩;have hrn:dec (b.drop k)=(r,n):=by rw[←hr,←hn]
      have HRN:=zA hrn;rw[hr]at hd4 hd5 hd6;rw[hn]at hd1 hd2 hd3 hd6;clear hr hn hrn;cases hbad:zFd (r,n)with
      | true=>
       have HU:=zA (hat.out.bad hlt (by rw[HRN.out];exact hbad));simp only[zFd,Bool.and_eq_true,beq_iff_eq,decide_eq_true_eq]at hbad;obtain⟨rfl,hn1⟩:=hbad;go_wp2_with (go_at_call 73;refine(zEj HL.out HTr.out hl HR.out).mono ?_;rw[HRN.out];rintro e w1 ⟨rfl,hb1⟩)
       go_ret3
       exact⟨_,zEk (k:=k) (e:=2) (by simp[uAt,hlong,HU.out]) (by simp[zMV,hlong,HU.out]),by rw[show zO7 b=[] by simp[zO7,hlong,HU.out]];exact Made.of_below (hm.below.trans (hb1.mono hm.below.size)) _⟩
      | false=>
       have HU:=zA (hat.out.good hlt (by rw[HRN.out];exact hbad));have hbad2:((r:Int)==65533)=false∨(((r:Int)==65533)=true∧¬(n:Int)≤1):=by
        simp only[zFd,Bool.and_eq_false_iff,yA,decide_eq_false_iff_not]at hbad
        by_cases h:r=65533
        · exact Or.inr ⟨by rw[h];rfl,by omega⟩
        · exact Or.inl (by rw[yA];omega)
       clear hbad;have hcat:∀ys,zAD (xs++zEO r)=zAD xs++ys↔zAD (zEO r)=ys:=by
        intro ys;rw[zAD,List.map_append];exact⟨fun h=>List.append_cancel_left h,fun h=>by rw[←h];rfl⟩
       have HC:=zA hcat
       clear hcat
       rw[HRN.out]at HU
       by_cases hw:r < 65536
       · have HE:=zA (zOu hw);rcases hbad2 with e1 | ⟨e1,e2⟩
         all_goals
          go_wp2_with (first | (go_at_call 73;refine(zEj HL.out HTr.out hl HR.out).mono ?_;rw[HRN.out];rintro e w1 ⟨rfl,hb1⟩;have hm1:=hm.call hb1) | (at_builtin;refine zCW rfl _ _ 22 rfl 24 i0 _ 2 underlying22 hi0 hz0 hz1 hz2 rfl _ _ rfl hm1 _ 1 1 rfl rfl rfl (by rw[zBk];omega) (by omega) ?_;intro v' w' hm'))
          go_roundw
          case rel=>exact⟨k+n,_,by go_num,HU.out,by omega,HU.out.2.1,hm'.cells ((HC.out _).2 HE.out).symm⟩
          case measure=>simp[intOf];omega
       · have HE:=zA (zOv (r:=r) (by omega) hd4);have hw2:(65536:Int)≤(r:Int):=by omega
         rcases hbad2 with e1 | ⟨e1,e2⟩
         all_goals
          go_wp2_with (first | (go_at_call 73;refine(zEj HL.out HTr.out hl HR.out).mono ?_;rw[HRN.out];rintro e w1 ⟨rfl,hb1⟩;have hm1:=hm.call hb1) | (at_builtin;refine zCW rfl _ _ 22 rfl 24 i0 _ 2 underlying22 hi0 hz0 hz1 hz2 rfl _ _ rfl hm1 _ 2 2 rfl rfl rfl (by rw[zBk];omega) (by omega) ?_;intro v' w' hm'))
          go_roundw
          case rel=>exact⟨k+n,_,by go_num,HU.out,by omega,HU.out.2.1,hm'.cells ((HC.out _).2 HE.out).symm⟩
          case measure=>simp[intOf];omega
    · go_wp2
      go_ret3
      have hkk:k=b.length:=by omega
      subst hkk;have hs:=hat.out.stop;exact⟨_,zEk (k:=0) (e:=0) (by simp[uAt,hlong,hs]) (by simp[zMV,hlong,hs]),hm.cells (by simp[zO7,hlong,hs])⟩
theorem zHu {q:List Nd×Nat×Nat} {w w':World} {X a e:Nat} (hX:w.heap.size=X) (hx:Bx w' X 27 [.slice none 0 0]) (hq:q=([],a,e)) (hb:Below w.heap.size w w'):ParseQ q w (.returned (.tuple #[.agg #[.slice none 0 0],.int .i64 (a:Int),.int .i64 (e:Int)])) (w'.setCell ⟨X,0,none⟩ (.slice none 0 0)):=
 ParseQ.nil hq (hb.trans (zAK (zK w' X 0 _) (by rw[hX];exact yAC _) (Nat.le_of_lt hx.lt)))
theorem zOw {w:World} {X:Nat} {T:TypeId} {v u:Value} {p:Addr} (hX:Bx w X T [.slice none 0 0]) (h:w.cell? p=some u) (hu:u≠.slice none 0 0):(w.setCell ⟨X,0,none⟩ v).cell? p=some u:=by
 refine zAu (zK w X 0 v) h fun e=>?_;obtain⟨b,o,s⟩:=p;subst e;unfold Bx at hX;unfold World.cell? at h;rw[hX]at h;simp only at h;split at h
 · cases h
 · cases o with
   | zero=>simp at h;exact hu h.symm
   | succ o=>simp at h
theorem Reads.var {w:World} {X B n:Nat} {T:TypeId} {v:Value} {A:Option Addr} {xs:List Value} (hX:Bx w X T [.slice none 0 0]) (h:Reads w B 1 A n xs) (hx:∀u∈xs,u≠.slice none 0 0):Reads (w.setCell ⟨X,0,none⟩ v) B 1 A n xs:=by
 refine⟨h.1,fun h0=>?_⟩;obtain⟨ad,e,hb,hc⟩:=h.2 h0;exact⟨ad,e,hb,fun j u hu=>zOw hX (hc j u hu) (hx u (List.mem_of_getElem? hu))⟩
theorem NdsR.var {w:World} {X B n:Nat} {T:TypeId} {v:Value} {A:Option Addr} {ts:List Nd} (hX:Bx w X T [.slice none 0 0]) (h:NdsR w B A n ts):NdsR (w.setCell ⟨X,0,none⟩ v) B A n ts:=by
 refine⟨h.1,fun h0=>?_⟩;obtain⟨b,o,e,hb,hc⟩:=h.2 h0;have hk:∀j (u:Value),w.cell? ⟨b,j,none⟩=some u→b≠X→(w.setCell ⟨X,0,none⟩ v).cell? ⟨b,j,none⟩=some u:=fun j u h1 h2=>zAu (zK w X 0 v) h1 h2;refine⟨b,o,e,hb,fun i hi=>?_⟩;obtain⟨s,h1,h2⟩:=hc i hi;have hne:b≠X:=by
  intro e;subst e;have h3:=hX.cell (o+i*8);rw[h1.k0]at h3;cases hq:o+i*8 with
  | zero=>rw[hq]at h3;simp at h3
  | succ q=>rw[hq]at h3;simp at h3
 refine⟨s,⟨hk _ _ h1.k0 hne,hk _ _ h1.k1 hne,hk _ _ h1.k2 hne,hk _ _ h1.k3 hne,hk _ _ h1.k4 hne,hk _ _ h1.k5 hne,hk _ _ h1.k6 hne,hk _ _ h1.k7 hne⟩,?_⟩;refine{h2 with str:=Reads.var hX h2.str (fun u hu=>?_),mag:=Reads.var hX h2.mag (fun u hu=>?_),kids:=Reads.var hX h2.kids (fun u hu=>?_)}
 all_goals
  obtain⟨_,_,rfl⟩:=List.mem_map.1 hu;intro e;cases e
theorem zJ1 {A:Option Addr} {B n c:Nat} {b:List UInt8} {w:World} (hB:B≤w.heap.size) (hn:b.length=n) (ha:Reads w B 1 A n (u8s b)) (hc:n≤c) (hT:Tab w) (hT8:Tabs w):
 Calls prog 23 #[.slice A n c] w (ParseQ (zBd b) w):=by
 obtain⟨W,hW⟩:∃W,w.alloc (.cells #[.slice none 0 0] 27)=W:=⟨_,rfl⟩;have hbW:Below w.heap.size w W:=by rw[←hW];exact(Below.refl _ _).alloc (yAC _) _
 obtain⟨X,hX⟩:∃X,w.heap.size=X:=⟨_,rfl⟩;have HX:=zA (show Bx W X 27 [.slice none 0 0] by rw[←hW,←hX];exact Bx.new w _ _);have HBW:=zA hbW;have hWs:w.heap.size≤W.heap.size:=hbW.size;have HTW:=zA (hT.below hT.lt hbW);have HRw:=zA hX;obtain⟨u,hu⟩:∃u,zO7 b=u:=⟨_,rfl⟩;obtain⟨ua,hua⟩:∃a,uAt b=a:=⟨_,rfl⟩;obtain⟨ue,hue⟩:∃e,zMV b=e:=⟨_,rfl⟩;have HF:=zA (show zBd b=if ue=0 then zFe (zBc u)else([],ua,ue) by unfold zBd;rw[hue,hua,hu]);have HU:=zA (by
  have h:=zMR (A:=A) (c:=c) (B:=B) (b:=b) (w:=W) (hT8.grow hbW) (yAD hB hWs) (by rw[hn];exact ha.below (hbW.mono hB)) (by rw[hn];exact hc);rw[hn,hu,hua,hue]at h;exact h)
 clear hbW hB hn ha hc hT hT8 hu hua hue;have zX:W.cell? ⟨X,0,none⟩=some (.slice none 0 0):=HX.out.cell 0;have fX:W.frozen? ⟨X,0,none⟩=false:=HX.out.frozen 0;go_enter func23,ntmps23;go_upto_region 1 with(fail);clear hW hX;go_wp2_with fail;refine HU.out.mono ?_;rintro ev1 w1 ⟨v,rfl,hm1⟩;have hb1:=hm1.below;have HB1:=zA (HBW.out.trans (hb1.mono hWs));have HX1:=zA (HX.out.grown (zi none hb1) (by simp));obtain⟨A1,c1,rfl,hc1,hc1',hr1⟩:=hm1.u16;have HR1:=zA hr1;have HT1:=zA (HTW.out.below HTW.out.lt hb1);clear hm1 hb1 hr1 HU zX fX
 by_cases he:ue=0
 · subst he;have he0:(((0:Nat):Int) !=0)=false:=rfl;obtain⟨⟨ts,pa,pe⟩,hp⟩:∃q,zBc u=q:=⟨_,rfl⟩;obtain⟨m,hm⟩:∃m,ts.length=m:=⟨_,rfl⟩;have HF2:=zA (show zBd b=zFe (ts,pa,pe) by rw[HF.out,if_pos rfl,hp]);have HQ:=zA (zOs (u:=u) (yAC _) rfl HR1.out hc1 hc1' HT1.out hp hm);obtain⟨k,hk⟩:∃k,u.length=k:=⟨_,rfl⟩;rw[hk]at HQ;have HP:=zA hp;have HM:=zA hm;rw[hk]at hc1;clear hp hm HF;go_wp2_with fail;refine HQ.out.mono ?_;rintro ev2 w2 ⟨A2,c2,rfl,hN2,hc2,hcm,hb2⟩;have HX2:=zA (HX1.out.grown (zi none hb2) (by simp));have HB2:=zA (HB1.out.trans (hb2.mono HB1.out.size));obtain⟨W3,hW3⟩:∃W3,w2.alloc (.cells #[.slice A2 m c2] 27)=W3:=⟨_,rfl⟩;have hg3:Below w2.heap.size w2 W3:=by rw[←hW3];exact(Below.refl _ _).alloc (yAC _) _
   obtain⟨T,hTt⟩:∃T,w2.heap.size=T:=⟨_,rfl⟩;have HBT:=zA (show Bx W3 T 27 [.slice A2 m c2] by rw[←hW3,←hTt];exact Bx.new w2 _ _);have HX3:=zA (HX2.out.grown (zi none hg3) (by simp));have HB3:=zA (HB2.out.trans (hg3.mono HB2.out.size));have HN3:=zA ((hN2.below hg3).more hg3.size);clear hN2 hb2 hg3 HQ HX2 HB2 HX1 HB1 HR1;go_upto_region 5 with(fail);clear hW3 hTt;have zT:W3.cell? ⟨T,0,none⟩=some (.slice A2 m c2):=HBT.out.cell 0;have zX:W3.cell? ⟨X,0,none⟩=some (.slice none 0 0):=HX3.out.cell 0;have fX:W3.frozen? ⟨X,0,none⟩=false:=HX3.out.frozen 0
   by_cases hpe:pe=0
   · subst hpe;obtain⟨L,_,_,_,hsz,_,hfl,_⟩:=zOe HP.out;have hk4:(zAI ts).length≤4096:=by
      have h:=ekidsT 0 (zF L (.program []) s0).1;rw[←hfl]at h;omega
     obtain⟨⟨ca,ce⟩,hch⟩:∃q,chN ts=q:=⟨_,rfl⟩;have HF3:=zA (show zBd b=if ce=0 then(ts,0,0)else([],ca,ce) by rw[HF2.out];unfold zFe;rw[hch];rfl);have HC:=zA (by
      have h:=zKv (w:=W3) (B:=W3.heap.size) (c:=c2) HN3.out (yAC _) hc2 (by omega);rw[hch]at h;exact h)
     clear hsz hfl hk4 hch HF2;go_wp2_with fail;refine HC.out.mono ?_;rintro ev4 w4 ⟨rfl,hb4⟩;have HX4:=zA (HX3.out.grown (zi none hb4) (by simp));have HT4:=zA (HBT.out.grown (zi none hb4) (by simp));have HB4:=zA (HB3.out.trans (hb4.mono HB3.out.size));have HN4:=zA ((HN3.out.below hb4).more hb4.size);clear hb4 HC zT zX fX;have zT:w4.cell? ⟨T,0,none⟩=some (.slice A2 m c2):=HT4.out.cell 0;have zX:w4.cell? ⟨X,0,none⟩=some (.slice none 0 0):=HX4.out.cell 0;have fX:w4.frozen? ⟨X,0,none⟩=false:=HX4.out.frozen 0
     by_cases hce:ce=0
     · subst hce;have HF4:=zA (show zBd b=(ts,0,0)from HF3.out.trans (if_pos rfl));clear HF3;go_wp2_with fail;have hz0:(w4.setCell ⟨X,0,none⟩ (.slice A2 m c2)).cell? ⟨X,0,none⟩=some (.slice A2 m c2):=(HX4.out.set 0 _).cell 0;refine bodyPost_ret (v:=.tuple #[.agg #[.slice A2 m c2],.int .i64 0,.int .i64 0]) (by simp[results,results23,go_sem,hz0]) rfl ?_;rw[HF4.out];exact⟨A2,m,c2,rfl,(NdsR.var HX4.out HN4.out).more ((zK w4 X 0 (.slice A2 m c2)).size),hc2,hcm,HB4.out.trans (zAK (zK w4 X 0 _) (by rw[HRw.out];exact yAC _) (Nat.le_of_lt HX4.out.lt))⟩
     · have hb1:((ce:Int) !=0)=true:=by rw[bne_iff_ne];omega
       have HCE:=zA hce;clear hce;go_wp2_with fail;have hz0:(w4.setCell ⟨X,0,none⟩ (.slice none 0 0)).cell? ⟨X,0,none⟩=some (.slice none 0 0):=(HX4.out.set 0 _).cell 0;refine bodyPost_ret (v:=.tuple #[.agg #[.slice none 0 0],.int .i64 (ca:Int),.int .i64 (ce:Int)]) (by simp[results,results23,go_sem,hz0]) rfl ?_;exact zHu HRw.out HX4.out (HF3.out.trans (if_neg HCE.out)) HB4.out
   · have hb1:((pe:Int) !=0)=true:=by rw[bne_iff_ne];omega
     have HPE:=zA hpe;clear hpe;go_wp2_with fail;have hz0:(W3.setCell ⟨X,0,none⟩ (.slice none 0 0)).cell? ⟨X,0,none⟩=some (.slice none 0 0):=(HX3.out.set 0 _).cell 0;refine bodyPost_ret (v:=.tuple #[.agg #[.slice none 0 0],.int .i64 (pa:Int),.int .i64 (pe:Int)]) (by simp[results,results23,go_sem,hz0]) rfl ?_;exact zHu HRw.out HX3.out (HF2.out.trans (if_neg HPE.out)) HB3.out
 · have hb1:((ue:Int) !=0)=true:=by rw[bne_iff_ne];omega
   have HE:=zA he;clear he;have zX:w1.cell? ⟨X,0,none⟩=some (.slice none 0 0):=HX1.out.cell 0;have fX:w1.frozen? ⟨X,0,none⟩=false:=HX1.out.frozen 0;go_wp2_with fail;have hz0:(w1.setCell ⟨X,0,none⟩ (.slice none 0 0)).cell? ⟨X,0,none⟩=some (.slice none 0 0):=(HX1.out.set 0 _).cell 0;refine bodyPost_ret (v:=.tuple #[.agg #[.slice none 0 0],.int .i64 (ua:Int),.int .i64 (ue:Int)]) (by simp[results,results23,go_sem,hz0]) rfl ?_;exact zHu HRw.out HX1.out (HF.out.trans (if_neg HE.out)) HB1.out
theorem zHv {w:World} {s:ByteArray} {c:Nat} {T:TypeId} {m:Nat×Nat} (_hc:s.size≤c):Reads (w.alloc (.cells (bytesRow s c) T m)).drew (w.alloc (.cells (bytesRow s c) T m)).drew.heap.size 1 (some ⟨w.heap.size,0,none⟩) s.size (u8s s.data.toList):=by
 refine⟨by rw[zG5,Nat.mul_one];exact Array.length_toList,fun _=>⟨_,rfl,by simp,fun j u hu=>?_⟩⟩;rw[Addr.add_lit,Nat.zero_add];unfold u8s at hu;rw[List.getElem?_map]at hu;cases hq:s.data.toList[j]? with
 | none=>rw[hq]at hu;cases hu
 | some y=>
  rw[hq]at hu;obtain⟨hj,hy⟩:=List.getElem?_eq_some_iff.1 hq;have hj':j < s.data.size:=by simpa using hj
  have h1:=bytesRow_at s c j hj';have h2:(w.alloc (.cells (bytesRow s c) T m)).drew.heap[w.heap.size]? =some (.cells (bytesRow s c) T m):=by
   show(w.heap.push (.cells (bytesRow s c) T m))[w.heap.size]? =_;simp
  unfold World.cell?;simp only[h2];have h3:s.data[j]=y:=by rw[←hy];simp
  rw[h3]at h1;have h4:u=u8v y:=by simpa using hu.symm
  rw[h4];exact h1
theorem zDH {s:ByteArray} {ts:List Nd} {a e:Nat} {w:World} (hq:zBd s.data.toList=(ts,a,e)) (hT:Tab w) (hT8:Tabs w):
 Calls prog 46 #[.string s,.int .i64 (a:Int),.int .i64 (e:Int)] w fun ev w'=>ev=.returned (.bool true)∧Below w.heap.size w w':=by
 have hcv2:=fun w s=>run_bytes_of_string (P:=prog) w 9 51 5 s underlying9 underlying51 underlying5;have hgc:=grownCap_ge w s.size 0 5;have HA:=zA (fun(c:Nat) (hc:s.size≤c) (W:World) (hW:(w.alloc (.cells (bytesRow s c) 5 ((bytesRow s c).size,(bytesRow s c).size+1))).drew=W)=>by
  have hb:Below w.heap.size w W:=by rw[←hW];exact((Below.refl _ _).alloc (yAC _) _).drew
  have h:=zJ1 (A:=some ⟨w.heap.size,0,none⟩) (B:=W.heap.size) (n:=s.size) (c:=c) (b:=s.data.toList) (w:=W) (yAC _) Array.length_toList (by rw[←hW];exact zHv hc) hc (hT.below hT.lt hb) (hT8.grow hb);rw[hq]at h;exact And.intro hb h)
 clear hq hT hT8;go_enter func46,ntmps46;go_wp2_with fail;obtain⟨c,hc⟩:∃c,grownCap w s.size 0 5=c:=⟨_,rfl⟩;rw[hc]at hgc
 try rw[hc]
 obtain⟨W,hW⟩:∃W,(w.alloc (.cells (bytesRow s c) 5 ((bytesRow s c).size,(bytesRow s c).size+1))).drew=W:=⟨_,rfl⟩;have HC:=zA (HA.out c hgc W hW).2;have HB:=zA (HA.out c hgc W hW).1
 try rw[hW]
 clear hW hc;refine HC.out.mono ?_;rintro ev1 w1 ⟨A1,n1,c1,rfl,_,_,_,hb1⟩;have HB1:=zA (HB.out.trans (hb1.mono HB.out.size));clear hb1 HC;have z1:(w1.alloc (.cells #[.slice A1 n1 c1] 27)).cell? ⟨w1.heap.size,0,none⟩=some (.slice A1 n1 c1):=(Bx.new w1 [.slice A1 n1 c1] 27).cell 0;go_wp2_with fail;go_ret;refine⟨by simp,HB1.out.trans ?_⟩;exact((Below.refl _ _).alloc (yAC _) _:Below w1.heap.size w1 _).mono HB1.out.size
theorem zJ2 {w:World} (hT:Tab w) (hT8:Tabs w):Calls prog 22 #[] w fun ev w'=>ev=.returned (.bool true)∧Below w.heap.size w w':=by
 obtain⟨t1,h1⟩:=zDA zRZ;obtain⟨t2,h2⟩:=zDA zRa;obtain⟨t3,h3⟩:=zDA zRb;obtain⟨t4,h4⟩:=zDA zRc;obtain⟨t5,h5⟩:=zDA zRd;have HT:=zA hT;have HT8:=zA hT8;have C1:=zA (fun(v:World) (hb:Below w.heap.size w v)=>zDH (s:=⟨#[108,101,116,32,97,44,32,97]⟩) (w:=v) h1 (HT.out.below HT.out.lt hb) (HT8.out.grow hb));have C2:=zA (fun(v:World) (hb:Below w.heap.size w v)=>zDH (s:=⟨#[97,58,32,119,104,105,108,101,32,40,49,41,32,123,32,98,114,101,97,107,32,97,59,32,125]⟩) (w:=v) h2 (HT.out.below HT.out.lt hb) (HT8.out.grow hb));have C3:=zA (fun(v:World) (hb:Below w.heap.size w v)=>zDH (s:=⟨#[98,114,101,97,107,32,97]⟩) (w:=v) h3 (HT.out.below HT.out.lt hb) (HT8.out.grow hb));have C4:=zA (fun(v:World) (hb:Below w.heap.size w v)=>zDH (s:=⟨#[40,120,41,32,61,62,32,123,32,108,101,116,32,120,59,32,125]⟩) (w:=v) h4 (HT.out.below HT.out.lt hb) (HT8.out.grow hb));have C5:=zA (fun(v:World) (hb:Below w.heap.size w v)=>zDH (s:=⟨#[255]⟩) (w:=v) h5 (HT.out.below HT.out.lt hb) (HT8.out.grow hb));have HB0:=zA (Below.refl w.heap.size w);clear hT hT8 h1 h2 h3 h4 h5;go_enter func22,ntmps22;go_wp2_with fail;refine(C1.out w HB0.out).mono ?_;rintro ea wa ⟨rfl,hba⟩;have HBa:=zA (HB0.out.trans (hba.mono HB0.out.size));clear hba;go_wp2_with fail;refine(C2.out wa HBa.out).mono ?_;rintro eb wb ⟨rfl,hbb⟩;have HBb:=zA (HBa.out.trans (hbb.mono HBa.out.size));clear hbb;go_wp2_with fail;refine(C3.out wb HBb.out).mono ?_;rintro ec wc ⟨rfl,hbc⟩;have HBc:=zA (HBb.out.trans (hbc.mono HBb.out.size));clear hbc;go_wp2_with fail;refine(C4.out wc HBc.out).mono ?_;rintro ed wd ⟨rfl,hbd⟩;have HBd:=zA (HBc.out.trans (hbd.mono HBc.out.size));clear hbd;go_wp2_with fail;refine(C5.out wd HBd.out).mono ?_;rintro ee we ⟨rfl,hbe⟩;have HBe:=zA (HBd.out.trans (hbe.mono HBd.out.size));clear hbe;go_wp2_with fail;go_ret;exact⟨rfl,HBe.out⟩
section Zq
open Go.ChangeShapes Go.WideShapes Go.ChangeAt Go.RowKit Go.Lib
theorem own:ownKnob prog.godebug=none:=by kernel_rfl
theorem zOx:(prog.globals[3]?).map (·.type)=some 195:=by kernel_rfl
theorem zRN:(Rows.laid_internal_strconv_uint64pow10:DataW Unit)=Lib.tabData .u64 Lib.pow10Tab:=by kernel_rfl
end Zq
section Zq
open Go.ChangeShapes Go.WideShapes Go.ChangeAt Go.RowKit Go.Lib
theorem zRO : prog.globalNamed "unicode/utf8.first" = some 0 := by kernel_rfl
theorem zR6 : prog.globalNamed "unicode/utf8.acceptRanges" = some 1 := by kernel_rfl
theorem zJ3:(prog.globals[0]?).map (·.type)=some 161:=by kernel_rfl
theorem zOy:(prog.globals[1]?).map (·.type)=some 164:=by kernel_rfl
theorem zMS:prog.cellsOf 5=1:=by kernel_rfl
theorem zOz:prog.cellsOf 161=256:=by kernel_rfl
theorem zIg:prog.cellsOf 163=2:=by kernel_rfl
theorem zO0:Rows.laid_unicode_utf8_first=firstData:=by kernel_rfl
theorem zRP:(Rows.laid_unicode_utf8_acceptRanges:DataW Unit)=acceptData:=by kernel_rfl
theorem zQk {w : World} (h3 : VarReads prog w "unicode/utf8.first" firstData) (h4 : VarReads prog w "unicode/utf8.acceptRanges" acceptData) : Tabs w := by
 refine⟨fun c hc=>?_,fun i hi=>?_⟩
 · obtain⟨g,t,cs,fuel,p,hg,hty,hvar,hd⟩:=h3;obtain rfl:=Option.some.inj (zRO.symm.trans hg);obtain rfl:=Option.some.inj (zJ3.symm.trans hty);have hcs:=cells_of_tab underlying161 underlying5 zMS zOz hd;have:=World.var?_cell hg hvar c;rw[this,←Array.getElem?_toList,hcs];simp[firstTab,hc]
 · obtain⟨g,t,cs,fuel,p,hg,hty,hvar,hd⟩:=h4;obtain rfl:=Option.some.inj (zR6.symm.trans hg);obtain rfl:=Option.some.inj (zOy.symm.trans hty);obtain⟨fuel',d,q,hdi,he⟩:=array_elem underlying164 hd i hi;simp only[List.getElem?_map,List.getElem?_range hi,Option.map_some,Option.some.injEq]at hdi;subst hdi;rw[zIg]at he;have hcs:=ints_of_struct underlying163 (fun j f hj=>by
    match j,hj with
    | 0,hj=>simp at hj;subst hj;exact⟨underlying5,rfl,zMS⟩
    | 1,hj=>simp at hj;subst hj;exact⟨underlying5,rfl,zMS⟩
    | j+2,hj=>simp at hj) (by rw[zIg];rfl) he
   have e0:=congrArg (·[0]?) hcs;have e1:=congrArg (·[1]?) hcs;simp only[List.getElem?_take,List.getElem?_drop]at e0 e1;constructor
   · rw[World.var?_cell hg hvar (2*i),←Array.getElem?_toList];simpa [Nat.mul_comm]using e0
   · rw[World.var?_cell hg hvar (2*i+1),←Array.getElem?_toList];simpa [Nat.mul_comm]using e1
theorem zMT {w : World} (h : laidMetH prog [("math/bits.deBruijn32tab", Rows.laid_math_bits_deBruijn32tab), ("math/bits.deBruijn64tab", Rows.laid_math_bits_deBruijn64tab), ("internal/strconv.uint64pow10", Rows.laid_internal_strconv_uint64pow10), ("unicode/utf8.acceptRanges", Rows.laid_unicode_utf8_acceptRanges), ("unicode/utf8.first", Rows.laid_unicode_utf8_first)] w) : Tab w ∧ Tabs w := by
 have h' : laidMet prog [("math/bits.deBruijn32tab", Rows.laid_math_bits_deBruijn32tab), ("math/bits.deBruijn64tab", Rows.laid_math_bits_deBruijn64tab), ("internal/strconv.uint64pow10", Rows.laid_internal_strconv_uint64pow10), ("unicode/utf8.acceptRanges", Rows.laid_unicode_utf8_acceptRanges), ("unicode/utf8.first", Rows.laid_unicode_utf8_first)] w := h;have h3 := laidMet.reads h' (n := "unicode/utf8.first") (d := Rows.laid_unicode_utf8_first) (by simp);have h4 := laidMet.reads h' (n := "unicode/utf8.acceptRanges") (d := Rows.laid_unicode_utf8_acceptRanges) (by simp);have h5 := laidMet.reads h' (n := "internal/strconv.uint64pow10") (d := Rows.laid_internal_strconv_uint64pow10) (by simp);rw[zO0]at h3;rw[zRP]at h4;refine⟨?_,zQk h3 h4⟩;rw[zRN]at h5;obtain⟨g',t',cs,fuel,p,hg',ht',hvar,hd⟩:=h5;obtain rfl:=Option.some.inj (zRj.symm.trans hg');obtain rfl:=Option.some.inj (zOx.symm.trans ht');unfold Tab Lib.TabIs;rw[hvar,←Lib.cells_of_tab underlying195 underlying170 (by kernel_rfl) (by kernel_rfl) hd]
end Zq
end Go.Proofs.YtlohaclgbfhijaaGreatDoor
