/- Joined for the claim EarlyRoot: the parser, the lexer and the trees as they are walked, made short by a program of mine. -/
import Derived.Test.YtlohaclgbfhijaaGreatDoorE03
import Derived.OwnWalk
import Derived.Laws.OwnMore
import Derived.Test.YtlohaclgbfhijaaGreatDoorE02
import Derived.Test.YtlohaclgbfhijaaGreatDoorE01
set_option maxHeartbeats 16000000
set_option maxRecDepth 1000000
namespace Go.Proofs.YtlohaclgbfhijaaGreatDoor
open Go.Proofs.Tryz
open Go.RowKit
def zRw (s:List UInt8) (xs:List (List UInt8)) (w:World) (e:Ending) (w':World):Prop:=∃r:Int,e=.returned (.int .i64 r)∧w=w'∧decide (0≤r)=decide (s∈xs)∧ -1≤r∧r≤33554432
theorem zPQ {A:Option Addr} {B n c:Nat} {xs:List (List UInt8)} (s:ByteArray) {w:World} (hn:xs.length=n) (ha:Reads w B 1 A n (zBQ xs)) (hl:n≤33554432):
 Calls prog 161 #[.slice A n c,.string s] w (zRw s.data.toList xs w):=by
 have HN:=zA hn;have HA:=zA ha;clear hn ha;go_enter func161,ntmps161;go_wp2_with fail
 go_loop [8] (fun i=>∃k:Nat,k≤n∧i=.int .i64 k∧Hid (s.data.toList∉xs.take k)) (fun i=>n - (intOf i).toNat)
 case atStart=>exact⟨0,yAE _,rfl,by simp[Hid]⟩
 case round=>
  obtain⟨k,hk,rfl,hno⟩:=hrel
  by_cases hlt:k < n
  · have hx:k < xs.length:=by rw[HN.out];exact hlt
    obtain⟨b,off,rfl,_,hcell⟩:=HA.out.spotR (by omega);have hca:=hcell k (.string ⟨xs[k].toArray⟩) (by simp[zBQ,yAB hx]);have HM:=zA (show xs[k]∈xs from List.getElem_mem hx);have HT:=zA (show xs.take (k+1)=xs.take k++[xs[k]]from yAK hx);obtain⟨x,hxx⟩:∃x,xs[k]=x:=⟨_,rfl⟩;rw[hxx]at hca HM HT;clear hcell hxx hx
    by_cases hxs:x=s.data.toList
    · have es:(⟨x.toArray⟩:ByteArray)=s:=by rw[hxs]
      have HR:=zA (show decide (s.data.toList∈xs)=true from decide_eq_true (by rw[←hxs];exact HM.out));rw[es]at hca;clear hxs es;go_wp2_with fail
      (try rw[Exit.noGoto_ret])
      go_ret;exact⟨_,rfl,rfl,by rw[HR.out];exact decide_eq_true (by omega),by omega,by omega⟩
    · have e1:((⟨x.toArray⟩:ByteArray).toList==s.toList)=false:=by
       rw[yA,ByteArray.toList_eq,ByteArray.toList_eq];exact hxs
      have e2:(s.toList==(⟨x.toArray⟩:ByteArray).toList)=false:=by
       rw[yA,ByteArray.toList_eq,ByteArray.toList_eq];exact fun h=>hxs h.symm
      have hn2:=zA (show s.data.toList∉xs.take (k+1) by
       rw[HT.out,List.mem_append,List.mem_singleton];rintro(h | h)
       · exact hno.out h
       · exact hxs h.symm)
      obtain⟨y,hy⟩:∃y:ByteArray,⟨x.toArray⟩=y:=⟨_,rfl⟩;rw[hy]at hca e1 e2;clear hxs hy;go_wp2_with fail;go_round
      case rel=>exact⟨k+1,by omega,by go_num,hn2.out⟩
      case measure=>simp[intOf];omega
  · have HR:=zA (show decide (s.data.toList∈xs)=false from yAI (by
     have:=hno.out;rwa [List.take_of_length_le (by rw[HN.out];omega)]at this))
    go_wp2_with fail;go_ret;exact⟨_,rfl,rfl,by rw[HR.out];rfl,by omega,by omega⟩
theorem zKU {A:Option Addr} {B n c:Nat} {xs:List (List UInt8)} (s:ByteArray) {w:World} (hn:xs.length=n) (ha:Reads w B 1 A n (zBQ xs)) (hl:n≤33554432) {q:Bool} (hq:decide (s.data.toList∈xs)=q):
 Calls prog 111 #[.slice A n c,.string s] w fun e w'=>e=.returned (.bool q)∧w=w':=by
 have H:=zA (fun w (ha:Reads w B 1 A n (zBQ xs))=>zPQ (c:=c) s hn ha hl);have HA:=zA ha;have HQ:=zA hq;clear hn ha hq;go_enter func111,ntmps111;go_wp2_with (go_at_call 161;refine(H.out w HA.out).mono ?_;rintro e w' ⟨r,rfl,rfl,hr,hr1,hr2⟩);go_ret;exact⟨zD (by rw[←HQ.out,←hr]),rfl⟩
theorem zIA {w:World} {b o:Nat} {l:List (List UInt8)} (hc:∀i v,(zBQ l)[i]? =some v→w.cell? ⟨b,o+i,none⟩=some v) {q:Nat} (hq:q < l.length):w.cell? ⟨b,o+q,none⟩=some (.string ⟨l[q].toArray⟩):=
 hc q _ (by simp[zBQ,yAB hq])
theorem Reads.takeS {w:World} {B n:Nat} {A:Option Addr} {xs:List (List UInt8)} (h:Reads w B 1 A n (zBQ xs)) {k:Nat} (hk:k≤n):Reads w B 1 A k (zBQ (xs.take k)):=by
 have h1:=h.take hk;rw[Nat.mul_one]at h1;unfold zBQ at h1⊢;rw[List.map_take];exact h1
theorem zPR {A:Option Addr} {c B n:Nat} {l:List (List UInt8)} {w:World} (hn:l.length=n) (h:Reads w B 1 A n (zBQ l)) (hc:n≤c) (h4:n≤33554432):
 Calls prog 74 #[.slice A n c] w fun e w'=>e=.returned (.bool (twN l))∧w=w':=by
 have HN:=zA hn;have HR:=zA h;clear hn h;go_enter func74,ntmps74;go_wp2_with fail
 go_loop [7] (fun i=>∃q:Nat,q≤n∧i=.int .i64 (q:Int)∧Hid (twN l=zRQ (l.take q) (l.drop q))) (fun i=>n - (intOf i).toNat)
 case atStart=>exact⟨0,yAE _,rfl,rfl⟩
 case round=>
  obtain⟨q,hq,rfl,htw⟩:=hrel
  by_cases hlt:q < n
  · have hql:q < l.length:=by rw[HN.out];exact hlt
    obtain⟨b,o,rfl,_,hcell⟩:=HR.out.spotR (by omega);have hkv:=zIA hcell hql;have ht2:=htw.out;rw[yAH hql,zRQ,←yAK hql]at ht2;have HTK:=zA (HR.out.takeS (k:=q) (by omega));have hlk:(l.take q).length=q:=by rw[List.length_take];omega
    obtain⟨sv,hsv⟩:∃sv:ByteArray,(⟨l[q].toArray⟩:ByteArray)=sv:=⟨_,rfl⟩;have hsd:sv.data.toList=l[q]:=by rw[←hsv]
    rw[hsv]at hkv;rw[←hsd]at ht2;obtain⟨bq,hbq⟩:∃bq,decide (sv.data.toList∈l.take q)=bq:=⟨_,rfl⟩;rw[hbq]at ht2;have HT:=zA ht2;have CC:=zA (zKU (c:=c) (w:=w) sv hlk HTK.out (by omega) hbq);have hqc:(q:Int)≤(c:Int):=by omega
    clear hcell hql ht2 hlk hsv hsd hbq htw;go_wp2_with fail;refine CC.out.mono ?_;rintro e2 w2 ⟨rfl,rfl⟩;cases bq with
    | true=>
     go_wp2_with fail;go_ret;exact⟨zD (by rw[HT.out];rfl),rfl⟩
    | false=>
     go_wp2_with fail;go_round
     case rel=>exact⟨q+1,by omega,by go_num,by have:=HT.out;rw[Bool.false_or]at this;exact this⟩
     case measure=>simp[intOf];omega
  · obtain rfl:q=n:=by omega
    have HF:=zA (show twN l=false by
     have:=htw.out;rw[List.drop_of_length_le (by rw[HN.out];exact yAC _)]at this;exact this)
    go_wp2_with fail;go_ret;exact⟨zD HF.out.symm,rfl⟩
theorem zPS {A:Option Addr} {c B n Y:Nat} {l:List (List UInt8)} {w:World} (hn:l.length=n) (h:Reads w B 1 A n (zBQ l)) (h4:n≤33554432) (hy:w.cell? ⟨Y,0,none⟩=some (.slice A n c)) (s:List UInt8):
 Calls prog 113 #[.string ⟨s.toArray⟩,.pointer (some ⟨Y,0,none⟩)] w fun e w'=>e=.returned (.bool (decide (s∈l)))∧w=w':=by
 have CC:=zA (zKU (c:=c) (w:=w) ⟨s.toArray⟩ hn h h4 rfl);clear hn h;go_enter func113,ntmps113;go_wp2_with fail;refine CC.out.mono ?_;rintro e2 w2 ⟨rfl,rfl⟩;go_wp2_with fail;go_ret;exact⟨rfl,rfl⟩
theorem zRx {A:Option Addr} {c B n Y:Nat} {l:List (List UInt8)} {p:List UInt8→Bool} {w:World} (hn:l.length=n) (h:Reads w B 1 A n (zBQ l)) (h4:n≤33554432) (hc:∀s∈l,Calls prog 113 #[.string ⟨s.toArray⟩,.pointer (some ⟨Y,0,none⟩)] w fun e w'=>e=.returned (.bool (p s))∧w=w'):
 Calls prog 162 #[.slice A n c,.func (.func 113) #[] #[.pointer (some ⟨Y,0,none⟩)]] w fun e w'=>∃r:Int,e=.returned (.int .i64 r)∧w=w'∧decide (0≤r)=l.any p:=by
 have HN:=zA hn;have HR:=zA h;have CC:=zA hc;clear hn h hc;go_enter func162,ntmps162;go_wp2_with fail
 go_loop [8] (fun i=>∃q:Nat,q≤n∧i=.int .i64 (q:Int)∧Hid (l.any p=(l.drop q).any p)) (fun i=>n - (intOf i).toNat)
 case atStart=>exact⟨0,yAE _,rfl,rfl⟩
 case round=>
  obtain⟨q,hq,rfl,htw⟩:=hrel
  by_cases hlt:q < n
  · have hql:q < l.length:=by rw[HN.out];exact hlt
    obtain⟨b,o,rfl,_,hcell⟩:=HR.out.spotR (by omega);have hkv:=zIA hcell hql;have ht2:=htw.out;rw[yAH hql,List.any_cons]at ht2;have CK:=zA (CC.out l[q] (List.getElem_mem hql));obtain⟨z,hz⟩:∃z,l[q]=z:=⟨_,rfl⟩;rw[hz]at hkv ht2 CK;obtain⟨bq,hbq⟩:∃bq,p z=bq:=⟨_,rfl⟩;rw[hbq]at ht2 CK;have HT:=zA ht2;clear hcell hql ht2 hz hbq htw;go_wp2_with fail;refine CK.out.mono ?_;rintro e2 w2 ⟨rfl,rfl⟩;cases bq with
    | true=>
     go_wp2_with fail;go_ret;exact⟨_,rfl,rfl,by rw[HT.out,Bool.true_or];exact decide_eq_true (by omega)⟩
    | false=>
     go_wp2_with fail;go_round
     case rel=>exact⟨q+1,by omega,by go_num,by have:=HT.out;rw[Bool.false_or]at this;exact this⟩
     case measure=>simp[intOf];omega
  · obtain rfl:q=n:=by omega
    have HF:=zA (show l.any p=false by
     have:=htw.out;rw[List.drop_of_length_le (by rw[HN.out];exact yAC _)]at this;exact this)
    go_wp2_with fail;go_ret;exact⟨_,rfl,rfl,by rw[HF.out];rfl⟩
theorem zRy {A:Option Addr} {c B n Y:Nat} {l:List (List UInt8)} {p:List UInt8→Bool} {w:World} (hn:l.length=n) (h:Reads w B 1 A n (zBQ l)) (h4:n≤33554432) (hc:∀s∈l,Calls prog 113 #[.string ⟨s.toArray⟩,.pointer (some ⟨Y,0,none⟩)] w fun e w'=>e=.returned (.bool (p s))∧w=w'):
 Calls prog 112 #[.slice A n c,.func (.func 113) #[] #[.pointer (some ⟨Y,0,none⟩)]] w fun e w'=>e=.returned (.bool (l.any p))∧w=w':=by
 have CC:=zA (zRx (c:=c) hn h h4 hc);clear hn h hc;go_enter func112,ntmps112;go_wp2_with fail;refine CC.out.mono ?_;rintro e2 w2 ⟨r,rfl,rfl,hr⟩;have HR:=zA hr;clear hr;go_wp2_with fail;go_ret;exact⟨zD (by rw[←HR.out]),rfl⟩
theorem zRz {A:Option Addr} {c B n X Y:Nat} {l:List Int} {p:Int→Bool} {w:World} (hn:l.length=n) (hB:B≤w.heap.size) (h:Reads w B 1 A n (zBC l)) (h4:n≤33554432) (hc:∀s∈l,∀wx,Below w.heap.size w wx→Calls prog 78 #[.int .i64 s,.pointer (some ⟨X,0,none⟩),.pointer (some ⟨Y,0,none⟩)] wx fun e w'=>e=.returned (.bool (p s))∧Below wx.heap.size wx w'):
 Calls prog 114 #[.slice A n c,.func (.func 78) #[] #[.pointer (some ⟨X,0,none⟩),.pointer (some ⟨Y,0,none⟩)]] w fun e w'=>∃r:Int,e=.returned (.int .i64 r)∧Below w.heap.size w w'∧decide (0≤r)=l.any p:=by
 have HN:=zA hn;have HR:=zA h;have CC:=zA hc;have HB0:=zA (Below.refl w.heap.size w);clear hn h hc;go_enter func114,ntmps114;go_wp2_with fail
 go_loopw [8] (fun i wr=>∃q:Nat,q≤n∧i=.int .i64 (q:Int)∧Hid (l.any p=(l.drop q).any p)∧Hid (Below w.heap.size w wr)) (fun i _=>n - (intOf i).toNat)
 case atStart=>exact⟨0,yAE _,rfl,rfl,HB0.out⟩
 case round=>
  obtain⟨q,hq,rfl,htw,hbr⟩:=hrel
  by_cases hlt:q < n
  · have hql:q < l.length:=by rw[HN.out];exact hlt
    obtain⟨b,o,rfl,_,hcell⟩:=(HR.out.below (hbr.out.mono hB)).spotR (by omega);have hkv:=zH9 hcell hql;have ht2:=htw.out;rw[yAH hql,List.any_cons]at ht2;have CK:=zA (CC.out l[q] (List.getElem_mem hql) wr hbr.out);obtain⟨z,hz⟩:∃z,l[q]=z:=⟨_,rfl⟩;rw[hz]at hkv ht2 CK;obtain⟨bq,hbq⟩:∃bq,p z=bq:=⟨_,rfl⟩;rw[hbq]at ht2 CK;have HT:=zA ht2;clear hcell hql ht2 hz hbq htw;go_wp2_with fail;refine CK.out.mono ?_;rintro e2 w2 ⟨rfl,hb2⟩;have HB2:=zA (hbr.out.trans (hb2.mono hbr.out.size));clear hb2;cases bq with
    | true=>
     go_wp2_with fail;go_ret;exact⟨_,rfl,HB2.out,by rw[HT.out,Bool.true_or];exact decide_eq_true (by omega)⟩
    | false=>
     go_wp2_with fail
     go_roundw
     case rel=>exact⟨q+1,by omega,by go_num,by have:=HT.out;rw[Bool.false_or]at this;exact this,HB2.out⟩
     case measure=>simp[intOf];omega
  · obtain rfl:q=n:=by omega
    have HF:=zA (show l.any p=false by
     have:=htw.out;rw[List.drop_of_length_le (by rw[HN.out];exact yAC _)]at this;exact this)
    go_wp2_with fail;go_ret;exact⟨_,rfl,hbr.out,by rw[HF.out];rfl⟩
theorem zR0 {A:Option Addr} {c B n X Y:Nat} {l:List Int} {p:Int→Bool} {w:World} (hn:l.length=n) (hB:B≤w.heap.size) (h:Reads w B 1 A n (zBC l)) (h4:n≤33554432) (hc:∀s∈l,∀wx,Below w.heap.size w wx→Calls prog 78 #[.int .i64 s,.pointer (some ⟨X,0,none⟩),.pointer (some ⟨Y,0,none⟩)] wx fun e w'=>e=.returned (.bool (p s))∧Below wx.heap.size wx w'):
 Calls prog 77 #[.slice A n c,.func (.func 78) #[] #[.pointer (some ⟨X,0,none⟩),.pointer (some ⟨Y,0,none⟩)]] w fun e w'=>e=.returned (.bool (l.any p))∧Below w.heap.size w w':=by
 have CC:=zA (zRz (c:=c) hn hB h h4 hc);clear hn h hc;go_enter func77,ntmps77;go_wp2_with fail;refine CC.out.mono ?_;rintro e2 w2 ⟨r,rfl,hb,hr⟩;have HR:=zA hr;have HB:=zA hb;clear hr hb;go_wp2_with fail;go_ret;exact⟨zD (by rw[←HR.out]),HB.out⟩
theorem EOk.names {ts:List Nd} (h:EOk ts) (n:Int):(zAj ts n).length≤16777216:=by
 have h1:=zDt (zGz ts) h.blk (atN ts n).kids;have h2:=zDt (zG0 ts) h.par (atN ts n).kids;have h3:=h.at_ n;have h4:(atN ts n).kids.length*4096≤4096*4096:=Nat.mul_le_mul_right _ h3;unfold zAj;split
 · omega
 split
 · unfold zEB;rw[List.length_map];have:=h.at_ (zKC (atN ts n));omega
 split
 · simp
 split
 · omega
 · simp
theorem zPT {A:Option Addr} {c B n j:Nat} {ts:List Nd} {p:Int} {w:World} (hN:NdsR w B A n ts) (hB:B≤w.heap.size) (hE:EOk ts) (hj:j < n) (hp:p < 0∨∃m:Nat,p=(m:Int)∧m < n):
 Calls prog 75 #[.agg #[.slice A n c],.int .i64 (j:Int),.int .i64 p] w fun e w'=>e=.returned (.bool (hiN ts (j:Int) p))∧Below w.heap.size w w':=by
 obtain⟨W,hW⟩:∃W,w.alloc (.cells #[.slice A n c] 27)=W:=⟨_,rfl⟩;have bW:Below w.heap.size w W:=by rw[←hW];exact(Below.refl _ _).alloc (yAC _) _
 have sW:W.heap.size=w.heap.size+1:=by rw[←hW];simp
 obtain⟨X,hX⟩:∃X,w.heap.size=X:=⟨_,rfl⟩;have a0:W.cell? ⟨X,0,none⟩=some (.slice A n c):=by rw[←hW,←hX,World.cell?_alloc_at _ _ _ _ rfl];rfl
 have hXW:X < W.heap.size:=by omega
 have HA0:=zA a0;have HNW:=zA (hN.below (bW.mono hB));have hBW:B≤W.heap.size:=by omega
 have HBW:=zA bW;have HE:=zA hE;have CN:=zA (fun(wx:World) (hb:Below W.heap.size W wx) (m:Nat) (hm:m < n)=>zFA (c:=c) (w:=wx) (HNW.out.below (hb.mono hBW)) (yAD hBW hb.size) hE hm);clear hN hE hB bW sW;go_enter func75,ntmps75;go_upto_region 1 with(fail);clear hW hX;rcases hp with hp | ⟨m,rfl,hm⟩
 · have HF:=zA (show hiN ts (j:Int) p=false by unfold hiN;rw[if_pos (.inl hp)]);have hd:decide (p < 0)=true:=decide_eq_true hp;go_wp2_with fail;go_ret;exact⟨zD HF.out.symm,HBW.out⟩
 have hd:decide ((m:Int) < 0)=false:=yAI (by omega);have hd2:¬(m:Int) < 0:=by omega
 obtain⟨b,o,x,s,rfl,hbB,hx,hC,_⟩:=HNW.out.get hj;obtain⟨b',o',y,r,hbo,hbB',hy,hC',_⟩:=HNW.out.get hm;simp only[Option.some.injEq,Addr.mk.injEq,and_true]at hbo;obtain⟨rfl,rfl⟩:=hbo;have kx0:=hC.k0;have ky0:=hC'.k0;obtain⟨Kx,hKx⟩:∃Kx,x.kind=Kx:=⟨_,rfl⟩;obtain⟨Ky,hKy⟩:∃Ky,y.kind=Ky:=⟨_,rfl⟩;rw[hKx]at kx0;rw[hKy]at ky0
 have hhi:hiN ts (j:Int) (m:Int)=if(m:Int) < 0∨Kx≠4∨(zJ5 Ky=false∧Ky≠17)then false else(zAj ts (j:Int)).any fun s=>decide (s∈zAj ts (m:Int)):=by
  unfold hiN knK;rw[zAv hx,zAv hy,hKx,hKy]
 have HH:=zA hhi;clear hx hy hC hC' hKx hKy hhi hbB'
 by_cases h4:Kx=4
 rotate_left
 · have HF:=zA (show hiN ts (j:Int) (m:Int)=false by rw[HH.out,if_pos (.inr (.inl h4))]);have e4:(Kx !=4)=true:=by rw[bne_iff_ne];exact h4
   clear h4;go_wp2_with fail;go_ret;exact⟨zD HF.out.symm,HBW.out⟩
 subst h4;obtain⟨bf,hbf⟩:∃bf,zJ5 Ky=bf:=⟨_,rfl⟩;have CF:=zA (fun(wx:World)=>(show Calls prog 89 #[.int .i64 Ky] wx fun e w'=>e=.returned (.bool bf)∧wx=w' by rw[←hbf];exact zC7 Ky wx));rw[hbf]at HH;clear hbf;have GO:∀(q:Bool),(bf=true∨Ky=17)→hiN ts (j:Int) (m:Int)=(zAj ts (j:Int)).any fun s=>decide (s∈zAj ts (m:Int)):=by
  intro _ h;rw[HH.out,if_neg];rintro(h1 | h1 | ⟨h1,h2⟩)
  · omega
  · exact h1 rfl
  · rcases h with h | h
    · rw[h1]at h;cases h
    · exact h2 h
 have GO:=zA (GO true);go_wp2_with fail;refine(CF.out _).mono ?_;rintro e2 w2 ⟨rfl,rfl⟩;have CM:=zA (CN.out W (Below.refl _ _) m hm)
 by_cases hgo:bf=true∨Ky=17
 rotate_left
 · have hbf:bf=false:=by cases bf with | true=>exact absurd (.inl rfl) hgo | false=>rfl
   have h17:Ky≠17:=fun h=>hgo (.inr h);have HF:=zA (show hiN ts (j:Int) (m:Int)=false by rw[HH.out,if_pos (.inr (.inr ⟨hbf,h17⟩))]);have e17:(Ky !=17)=true:=by rw[bne_iff_ne];exact h17
   subst hbf;clear hgo h17;go_wp2_with fail;go_ret;exact⟨zD HF.out.symm,HBW.out⟩
 have HF:=zA (GO.out hgo);have GG:=zA hgo;clear hgo;obtain⟨LM,hLM⟩:∃l,zAj ts (m:Int)=l:=⟨_,rfl⟩;obtain⟨LJ,hLJ⟩:∃l,zAj ts (j:Int)=l:=⟨_,rfl⟩;have hl1:LM.length≤16777216:=by rw[←hLM];exact HE.out.names _
 have hl2:LJ.length≤16777216:=by rw[←hLJ];exact HE.out.names _
 rw[hLM]at CM HF;rw[hLJ]at HF;have HLJ:=zA hLJ;clear hLM hLJ GO CF;obtain⟨n3,hn3⟩:∃z,LM.length=z:=⟨_,rfl⟩;obtain⟨n4,hn4⟩:∃z,LJ.length=z:=⟨_,rfl⟩;have HN3:=zA hn3;have HN4:=zA hn4;rw[hn3]at hl1;rw[hn4]at hl2;clear hn3 hn4;rcases(show bf=true∨(bf=false∧Ky=17) by have:=GG.out;cases bf<;>simp_all)with rfl | ⟨rfl,rfl⟩
 all_goals
  go_wp2_with fail;refine CM.out.mono ?_;rintro e3 w3 ⟨v3,rfl,hm3⟩;obtain⟨A3,c3,rfl,h31,h32,hr3⟩:=MadeS.form hm3;have hb3:=hm3.below;rw[HN3.out]at hr3⊢;obtain⟨W3,hW3⟩:∃W3,w3.alloc (.cells #[.slice A3 n3 c3] 58)=W3:=⟨_,rfl⟩;have bw3:Below w3.heap.size w3 W3:=by rw[←hW3];exact(Below.refl _ _).alloc (yAC _) _
  have hy3:W3.cell? ⟨w3.heap.size,0,none⟩=some (.slice A3 n3 c3):=by rw[←hW3,World.cell?_alloc_at _ _ _ _ rfl];rfl
  have hlt3:w3.heap.size < W3.heap.size:=by rw[←hW3];simp
  obtain⟨Y,hY⟩:∃Y,w3.heap.size=Y:=⟨_,rfl⟩;have HR3:=zA ((hr3.below bw3).more bw3.size);have HB3:=zA (hb3.trans (bw3.mono hb3.size));have a3:=(HB3.out.cell (p:=⟨X,0,none⟩) hXW).trans HA0.out;have CJ:=zA (CN.out W3 HB3.out j hj);rw[hY]at hy3 hlt3;have HY3:=zA hy3;clear hr3 hm3 hb3 bw3 hy3 CM CN;go_upto_region 4 with(fail);clear hW3 hY;go_wp2_with fail;refine CJ.out.mono ?_;rintro e4 w4 ⟨v4,rfl,hm4⟩;rw[HLJ.out]at hm4;obtain⟨A4,c4,rfl,h41,h42,hr4⟩:=MadeS.form hm4;have hb4:=hm4.below;rw[HN4.out]at hr4⊢;have CC:=zA (zRy (c:=c4) (Y:=Y) (p:=fun s=>decide (s∈LM)) HN4.out hr4 (by omega) (fun s _=>zPS HN3.out (HR3.out.below (hb4.mono (yAC _))) (by omega) ((hb4.cell (p:=⟨Y,0,none⟩) hlt3).trans HY3.out) s));have HB4:=zA (HB3.out.trans (hb4.mono HB3.out.size));clear hr4 hm4 hb4 CJ a3;go_wp2_with fail;refine CC.out.mono ?_;rintro e5 w5 ⟨rfl,rfl⟩;go_wp2_with fail;go_ret;exact⟨zD HF.out.symm,HBW.out.trans (HB4.out.mono HBW.out.size)⟩
theorem zKV {ts:List Nd} {up:List Int} (hu:UpOk up):∀(f g n:Nat),n < up.length→n < f→n < g→zHy ts up f (n:Int)=zHy ts up g (n:Int):=by
 intro f
 induction f with
 | zero=>intro g n _ h;omega
 | succ f ih=>
  intro g n hn hf hg;obtain⟨g,rfl⟩:∃k,g=k+1:=⟨g - 1,by omega⟩;have h1:=hu.get hn;rw[zHy,zHy]
  by_cases h2:upA up (n:Int) < 0
  · rw[if_pos h2,if_pos h2]
  rw[if_neg h2,if_neg h2];obtain⟨m,hm⟩:∃m:Nat,upA up (n:Int)=(m:Int):=⟨(upA up (n:Int)).toNat,by omega⟩;rw[hm]at h1⊢;rw[ih g m (by omega) (by omega) (by omega)]
theorem zKW {w:World} {b o n:Nat} {l:List Int} (hc:∀i v,(zBC l)[i]? =some v→w.cell? ⟨b,o+i,none⟩=some v) (hn:n < l.length):w.cell? ⟨b,o+n,none⟩=some (.int .i64 (upA l (n:Int))):=by
 refine hc n _ ?_;unfold upA;rw[yAG,Int.toNat_natCast,yAB hn];simp[zBC,yAB hn]
theorem zPU {A Au:Option Addr} {c cu B n j:Nat} {ts:List Nd} {up:List Int} {w:World} (hN:NdsR w B A n ts) (hU:Reads w B 1 Au n (zBC up)) (hl:up.length=n) (hu:UpOk up) (hB:B≤w.heap.size) (h4:n≤4096) (hj:j < n):
 Calls prog 76 #[.agg #[.slice A n c],.slice Au n cu,.int .i64 (j:Int)] w fun e w'=>∃v,e=.returned (.tuple #[v,.int .i64 (arN ts up (j:Int)).2])∧Made w w' 3 v (zBC (arN ts up (j:Int)).1):=by
 obtain⟨W,hW⟩:∃W,w.alloc (.cells #[.slice A n c] 27)=W:=⟨_,rfl⟩;have bW:Below w.heap.size w W:=by rw[←hW];exact(Below.refl _ _).alloc (yAC _) _
 have sW:W.heap.size=w.heap.size+1:=by rw[←hW];simp
 obtain⟨X,hX⟩:∃X,w.heap.size=X:=⟨_,rfl⟩;have a0:W.cell? ⟨X,0,none⟩=some (.slice A n c):=by rw[←hW,←hX,World.cell?_alloc_at _ _ _ _ rfl];rfl
 have hXW:X < W.heap.size:=by omega
 have HA0:=zA a0;have HNW:=zA (hN.below (bW.mono hB));have hBW:B≤W.heap.size:=by omega
 have HBW:=zA bW;have HUW:=zA (hU.below (bW.mono hB));have HUP:=zA hu;have HLU:=zA hl;obtain⟨bu,ou,rfl,hbu,hcu⟩:=HUW.out.spotR (show 0 < n by omega);have hun:=zKW hcu (show j < up.length by omega);have HUC:=zA (fun(wx:World) (hb:Below W.heap.size W wx) (m:Nat) (hm:m < n)=>(show wx.cell? ⟨bu,ou+m,none⟩=some (.int .i64 (upA up (m:Int)))from(hb.cell (p:=⟨bu,ou+m,none⟩) (show bu < W.heap.size by omega)).trans (zKW hcu (by omega))));obtain⟨i0,hi0,hz0,hz1,hz2⟩:=info_parts Tryz.info_int;have M0:=zA (Made.nil W 3);clear hN hU hB hl hu bW hcu sW;go_enter func76,ntmps76;go_upto_region 1 with(fail);clear hW hX;go_wp2_with fail
 go_loopw [2,8] (fun i v wr=>∃(p:Nat) (l:List Int),p≤j∧i=.int .i64 (upA up (p:Int))∧Hid (l.length+p≤j)∧Hid (arN ts up (j:Int)=(l++(zHy ts up (p+1) (p:Int)).1,(zHy ts up (p+1) (p:Int)).2))∧Hid (Made W wr 3 v (zBC l))) (fun i _ _=>(intOf i+1).toNat)
 case atStart=>exact⟨j,[],yAC _,rfl,by simp[Hid],by simp[Hid,arN],M0.out⟩
 case round=>
  obtain⟨p,l,hp,rfl,hlp,har,hm⟩:=hrel;have hup:=HUP.out.get (show p < up.length by rw[HLU.out];omega);have har2:=har.out;rw[zHy]at har2
  by_cases hneg:upA up (p:Int) < 0
  · rw[if_pos hneg,List.append_nil]at har2;have HR:=zA har2;have hge:¬(0:Int)≤upA up (p:Int):=by omega
    clear har2 har;go_wp2_with fail
    go_ret2
    refine⟨u8,by rw[HR.out];rfl,?_⟩;rw[HR.out];exact hm.out.back HBW.out
  rw[if_neg hneg]at har2;obtain⟨m,hmm⟩:∃m:Nat,upA up (p:Int)=(m:Int):=⟨(upA up (p:Int)).toNat,by omega⟩;rw[hmm]at har2 hup⊢;have hmp:m < p:=by omega
  have hmn:m < n:=by omega
  have hge:(0:Int)≤(m:Int):=by omega
  have a1:=(hm.out.below.cell (p:=⟨X,0,none⟩) hXW).trans HA0.out;obtain⟨b',o',y,r,rfl,hbB',hy,hC',_⟩:=(HNW.out.below (hm.out.below.mono hBW)).get hmn;have ky0:=hC'.k0;have hkn:knK ts (m:Int)=y.kind:=by unfold knK;rw[zAv hy]
  rw[hkn]at har2;obtain⟨Ky,hKy⟩:∃Ky,y.kind=Ky:=⟨_,rfl⟩;rw[hKy]at ky0 har2;obtain⟨bf,hbf⟩:∃bf,zJ5 Ky=bf:=⟨_,rfl⟩;rw[hbf]at har2;have CF:=zA (fun(wx:World)=>(show Calls prog 89 #[.int .i64 Ky] wx fun e w'=>e=.returned (.bool bf)∧wx=w' by rw[←hbf];exact zC7 Ky wx));have HMM:=zA hmm;clear hneg hmm hy hC' hkn hKy hbf har;go_wp2_with fail;refine(CF.out _).mono ?_;rintro e3 w3 ⟨rfl,rfl⟩;cases bf with
  | true=>
   rw[if_pos rfl,List.append_nil]at har2;have HR:=zA har2;clear har2;go_wp2_with fail
   go_ret2
   refine⟨u8,by rw[HR.out];rfl,?_⟩;rw[HR.out];exact hm.out.back HBW.out
  | false=>
   rw[if_neg (by decide),zKV HUP.out p (m+1) m (by rw[HLU.out];exact hmn) hmp (yAF m)]at har2;have HR:=zA har2;have hc1:=HUC.out wr hm.out.below m hmn;have hll:(zBC l).length≤4096:=by rw[zFV];have:=hlp.out;omega
   have HLP:=zA (show(l++[(m:Int)]).length+m≤j by rw[List.length_append,List.length_singleton];have:=hlp.out;omega);have HCU:=zA (fun(wx:World) (hb:Below W.heap.size W wx)=>HUC.out wx hb m hmn);clear har2 CF hc1;go_upto_region 4 with(at_builtin;refine zFY rfl _ _ 32 rfl 3 i0 _ 8 underlying32 hi0 hz0 hz1 hz2 rfl u8 (zBC l) rfl hm.out (.int .i64 (m:Int)) rfl rfl (by omega) (by omega) ?_;intro v7 w7 hm7;have H7:=zA (show Made W w7 3 v7 (zBC (l++[(m:Int)]))from hm7.cells (by simp[zBC]));clear hm7);have hc1:=HCU.out w7 H7.out.below;go_wp2_with fail
   go_roundw
   case rel=>exact⟨m,l++[(m:Int)],by omega,rfl,HLP.out,by show _=_;rw[HR.out];simp,H7.out⟩
   case measure=>
    have:=HUP.out.get (show m < up.length by rw[HLU.out];exact hmn);simp only[intOf];omega
theorem zMq {ts:List Nd} {up:List Int} (hu:UpOk up):∀(f n:Nat),n < up.length→∀k∈(zHy ts up f (n:Int)).1,∃m:Nat,k=(m:Int)∧m < n:=by
 intro f
 induction f with
 | zero=>intro n _ k hk;cases hk
 | succ f ih=>
  intro n hn k hk;have h1:=hu.get hn;rw[zHy]at hk
  by_cases h2:upA up (n:Int) < 0
  · rw[if_pos h2]at hk;cases hk
  rw[if_neg h2]at hk
  by_cases h3:zJ5 (knK ts (upA up (n:Int)))=true
  · rw[if_pos h3]at hk;cases hk
  rw[if_neg h3]at hk;obtain⟨m,hm⟩:∃m:Nat,upA up (n:Int)=(m:Int):=⟨(upA up (n:Int)).toNat,by omega⟩;rw[hm]at hk h1;rcases List.mem_cons.1 hk with rfl | h
  · exact⟨m,rfl,by omega⟩
  · obtain⟨q,rfl,hq⟩:=ih m (by omega) k h;exact⟨q,rfl,by omega⟩
theorem zMr {ts:List Nd} {up:List Int} (hu:UpOk up):∀(f n:Nat),n < up.length→(zHy ts up f (n:Int)).1.length≤n:=by
 intro f
 induction f with
 | zero=>intro n _;exact yAE _
 | succ f ih=>
  intro n hn;have h1:=hu.get hn;rw[zHy]
  by_cases h2:upA up (n:Int) < 0
  · rw[if_pos h2];exact yAE _
  rw[if_neg h2]
  by_cases h3:zJ5 (knK ts (upA up (n:Int)))=true
  · rw[if_pos h3];exact yAE _
  rw[if_neg h3];obtain⟨m,hm⟩:∃m:Nat,upA up (n:Int)=(m:Int):=⟨(upA up (n:Int)).toNat,by omega⟩;rw[hm]at h1⊢;have:=ih m (by omega);simp only[List.length_cons];omega
theorem zPV {A:Option Addr} {c B n m X Y:Nat} {ts:List Nd} {x:Nd} {s:NdSl} {w:World} (hN:NdsR w B A n ts) (hX:w.cell? ⟨X,0,none⟩=some (.slice A n c)) (hY:X8 w Y x s) (hm:m < n):
 Calls prog 78 #[.int .i64 (m:Int),.pointer (some ⟨X,0,none⟩),.pointer (some ⟨Y,0,none⟩)] w fun e w'=>e=.returned (.bool (knK ts (m:Int)==18&&decide (nmN ts (m:Int)=x.name)))∧Below w.heap.size w w':=by
 obtain⟨b,o,y,r,rfl,hbB,hy,hC,_⟩:=hN.get hm;have k0:=hC.k0;have k1:=hC.k1;obtain⟨_,p1,_,_,_,_,_,_⟩:=hY.c;obtain⟨Ky,hKy⟩:∃Ky,y.kind=Ky:=⟨_,rfl⟩;obtain⟨sx,hsx⟩:∃sv:ByteArray,(⟨x.name.toArray⟩:ByteArray)=sv:=⟨_,rfl⟩;obtain⟨sy,hsy⟩:∃sv:ByteArray,(⟨y.name.toArray⟩:ByteArray)=sv:=⟨_,rfl⟩;have hxn:sx.toList=x.name:=by rw[←hsx,ByteArray.toList_eq]
 have hyn:sy.toList=y.name:=by rw[←hsy,ByteArray.toList_eq]
 have hF:(knK ts (m:Int)==18&&decide (nmN ts (m:Int)=x.name))=(Ky==18&&decide (sy.toList=sx.toList)):=by
  unfold knK nmN;rw[zAv hy,hKy,hxn,hyn]
 rw[hF];rw[hKy]at k0;rw[hsy]at k1;rw[hsx]at p1;clear hN hC hy hKy hsx hsy hxn hyn hF hY
 by_cases h18:Ky=18
 · subst h18
   by_cases hn:sy.toList=sx.toList
   · have en:(sy.toList==sx.toList)=true:=by rw[hn,beq_self_eq_true]
     have HF:=zA (show((18:Int)==18&&decide (sy.toList=sx.toList))=true by rw[decide_eq_true hn];rfl);rw[HF.out];clear hn;go_enter func78,ntmps78;go_upto_region 1 with(fail)
     go_quiet (fail)
     go_wp2_with fail;go_ret;exact⟨rfl,zk (Below.refl _ _) _⟩
   · have en:(sy.toList==sx.toList)=false:=by rw[yA];exact hn
     have HF:=zA (show((18:Int)==18&&decide (sy.toList=sx.toList))=false by rw[yAI hn];rfl);rw[HF.out];clear hn;go_enter func78,ntmps78;go_upto_region 1 with(fail)
     go_quiet (fail)
     go_wp2_with fail;go_ret;exact⟨rfl,zk (Below.refl _ _) _⟩
 · have e18:(Ky==18)=false:=yA.2 h18;rw[e18,Bool.false_and];clear h18;go_enter func78,ntmps78;go_upto_region 1 with(fail)
   go_quiet (fail)
   go_wp2_with fail;go_ret;exact⟨rfl,zk (Below.refl _ _) _⟩
theorem zDh {a b c:World} (h:Below a.heap.size a b) (k:Below b.heap.size b c):Below a.heap.size a c:=h.trans (k.mono h.size)
theorem zPW {A Au:Option Addr} {c cu B n j:Nat} {ts:List Nd} {up:List Int} {w:World} (hN:NdsR w B A n ts) (hB:B≤w.heap.size) (hE:EOk ts) (hU:Reads w B 1 Au n (zBC up)) (hl:up.length=n) (hu:UpOk up) (hj:j < n) (h7:knK ts (j:Int)=7→0 < j):
 Calls prog 49 #[.agg #[.slice A n c],.slice Au n cu,.int .i64 (j:Int)] w fun e w'=>e=.returned (.bool (wrN ts up (j:Int)))∧Below w.heap.size w w':=by
 obtain⟨b,o,x,⟨As,Am,Ak,cs,cm,ck⟩,rfl,hbB,hx,hC0,hR0⟩:=hN.get hj;obtain⟨V,hV⟩:∃V,w.alloc (.cells #[.slice (some ⟨b,o,none⟩) n c] 27)=V:=⟨_,rfl⟩;obtain⟨W,hW⟩:∃W,V.alloc (.cells #[.int .i64 x.kind,.string ⟨x.name.toArray⟩,.slice As x.str.length cs,.int .i64 x.nk,.int .i64 x.nn,.bool x.neg,.slice Am x.mag.length cm,.slice Ak x.kids.length ck] 48)=W:=⟨_,rfl⟩;have bV:Below w.heap.size w V:=by rw[←hV];exact(Below.refl _ _).alloc (yAC _) _
 have bW:Below V.heap.size V W:=by rw[←hW];exact(Below.refl _ _).alloc (yAC _) _
 have sV:V.heap.size=w.heap.size+1:=by rw[←hV];simp
 have sW:W.heap.size=V.heap.size+1:=by rw[←hW];simp
 obtain⟨X,hX⟩:∃X,w.heap.size=X:=⟨_,rfl⟩;obtain⟨Y,hY⟩:∃Y,V.heap.size=Y:=⟨_,rfl⟩;have a0:V.cell? ⟨X,0,none⟩=some (.slice (some ⟨b,o,none⟩) n c):=by rw[←hV,←hX,World.cell?_alloc_at _ _ _ _ rfl];rfl
 have hXW:X < W.heap.size:=by omega
 have hYW:Y < W.heap.size:=by omega
 have HA0:=zA ((bW.cell (p:=⟨X,0,none⟩) (show X < V.heap.size by omega)).trans a0);have HX8:=zA (show X8 W Y x ⟨As,Am,Ak,cs,cm,ck⟩ by rw[←hW,←hY];exact X8.new V x ⟨As,Am,Ak,cs,cm,ck⟩);have bw:Below w.heap.size w W:=bV.trans (bW.mono bV.size);have HNW:=zA (hN.below (bw.mono hB));have HUW:=zA (hU.below (bw.mono hB));have hBW:B≤W.heap.size:=by omega
 have HBW:=zA bw;have HE:=zA hE;have HUP:=zA hu;have HLU:=zA hl;have H7:=zA h7;have hn4:n≤4096:=by rw[←hN.1];exact hE.len
 have HXJ:=zA hx;obtain⟨bu,ou,rfl,hbu,hcu⟩:=HUW.out.spotR (show 0 < n by omega);have hun:=zKW hcu (show j < up.length by omega);have hbuW:bu < W.heap.size:=by omega
 have hup3:=hu.get3 (show j < up.length by omega);have C0:=(hC0.below (bV.mono hB) hbB);obtain⟨kc0,kc1,kc2,kc3,kc4,kc5,kc6,kc7⟩:=C0;have CN:=zA (fun(wx:World) (hb:Below W.heap.size W wx)=>zFA (c:=c) (w:=wx) (HNW.out.below (hb.mono hBW)) (yAD hBW hb.size) hE hj);have CA:=zA (fun(wx:World) (hb:Below W.heap.size W wx)=>zPU (c:=c) (cu:=cu) (w:=wx) (HNW.out.below (hb.mono hBW)) (HUW.out.below (hb.mono hBW)) hl hu (yAD hBW hb.size) hn4 hj);have CI:=zA (fun(wx:World) (hb:Below W.heap.size W wx)=>zPT (c:=c) (p:=upA up (j:Int)) (w:=wx) (HNW.out.below (hb.mono hBW)) (yAD hBW hb.size) hE hj (by
  by_cases h:upA up (j:Int) < 0
  · exact .inl h
  · exact .inr ⟨(upA up (j:Int)).toNat,by omega,by omega⟩))
 have hwr:wrN ts up (j:Int)=if(twN (zAj ts (j:Int)) || hiN ts (j:Int) (upA up (j:Int)))=true then true
  else if x.kind=7 then(knK ts (upA up (j:Int))==6&&decide (x.kids=[]))
  else if x.kind=18 then(arN ts up (j:Int)).1.any fun k=>knK ts k==18&&decide (nmN ts k=x.name)
  else if x.kind=12∨x.kind=13 then !juN ts x (arN ts up (j:Int)).1
  else if x.kind=14 then decide ((arN ts up (j:Int)).2 < 0)else false:=by
  unfold wrN;rw[show knK ts (j:Int)=x.kind by unfold knK;rw[zAv hx],show nmN ts (j:Int)=x.name by unfold nmN;rw[zAv hx],zAv hx]
 have HWR:=zA hwr;have h7':x.kind=7→0 < j:=fun h=>h7 (by unfold knK;rw[zAv hx];exact h);have H7:=zA h7';have hnl:=hE.names (j:Int);clear hN hB hE hx hC0 hR0 bV bW bw hwr h7 h7' hcu sW sV hU hl hu;obtain⟨NM,hNM⟩:∃l,zAj ts (j:Int)=l:=⟨_,rfl⟩;rw[hNM]at CN HWR hnl;obtain⟨nm,hnm⟩:∃z,NM.length=z:=⟨_,rfl⟩;rw[hnm]at hnl;have HNM:=zA hnm;obtain⟨bt,hbt⟩:∃z,twN NM=z:=⟨_,rfl⟩;obtain⟨bh,hbh⟩:∃z,hiN ts (j:Int) (upA up (j:Int))=z:=⟨_,rfl⟩;rw[hbh]at CI;rw[hbt,hbh]at HWR;have CT:=zA (fun(wx:World) (A3:Option Addr) (c3:Nat) (hc3:nm≤c3) (hr3:Reads wx wx.heap.size 1 A3 nm (zBQ NM))=>(show Calls prog 74 #[.slice A3 nm c3] wx fun e w'=>e=.returned (.bool bt)∧wx=w' by rw[←hbt];exact zPR HNM.out hr3 hc3 (by omega)));clear hNM hnm hbt hbh;obtain⟨pu,hpu⟩:∃z,upA up (j:Int)=z:=⟨_,rfl⟩;rw[hpu]at CI HWR hun hup3;have HPU:=zA hpu;clear hpu;have CN2:=zA (fun(wx:World) (hb:Below W.heap.size W wx)=>(show Calls prog 56 #[.agg #[.slice (some ⟨b,o,none⟩) n c],.int .i64 (j:Int)] wx fun e w'=>∃A3 c3,e=.returned (.slice A3 nm c3)∧nm≤c3∧Hid (Reads w' w'.heap.size 1 A3 nm (zBQ NM))∧Below wx.heap.size wx w' from(CN.out wx hb).mono fun e w' ⟨v,he,hm⟩=>by
  obtain⟨A3,c3,rfl,h1,_,h3⟩:=MadeS.form hm;rw[HNM.out]at he h1 h3;exact⟨A3,c3,he,h1,h3,hm.below⟩))
 clear CN;go_enter func49,ntmps49;go_upto_region 1 with(fail);clear hV hX;go_upto_region 2 with(fail);clear hW hY a0 kc0 kc1 kc2 kc3 kc4 kc5 kc6 kc7;have a0:=HA0.out;obtain⟨p0,p1,p2,p3,p4,p5,p6,p7⟩:=HX8.out.c;have P0:=zA p0;have P7:=zA p7;clear p0 p1 p2 p3 p4 p5 p6 p7
 go_cut [31] (fun v wx=>v=.bool (bt || bh)∧Hid (Below W.heap.size W wx))
 case first=>
  cases bt with
  | true=>
   first
    | go_region_law (first | (go_simp;go_at_call 56;(with_reducible refine(CN2.out W.drew ((Below.refl _ W).drew)).mono ?_);rintro e3 w3 ⟨A3,c3,rfl,hc3,hr3,hb3⟩;have h3:=zDh ((Below.refl W.heap.size W).drew) hb3) | (go_simp;go_at_call 74;(with_reducible refine(CT.out w3 A3 c3 hc3 hr3.out).mono ?_);rintro e4 w4 ⟨rfl,rfl⟩))
    | fail
   all_goals
    go_wp2_with fail;go_meet;exact⟨by first | rfl | simp,h3⟩
  | false=>
   go_region_held3 (fun w'=>w'.cell? ⟨X,0,none⟩=some (.slice (some ⟨b,o,none⟩) n c)∧w'.cell? ⟨bu,ou+j,none⟩=some (.int .i64 pu))
    (first | (exact⟨a0,hun⟩) | (exact⟨(h5.cell (p:=⟨X,0,none⟩) hXW).trans a0,(h5.cell (p:=⟨bu,ou+j,none⟩) hbuW).trans hun⟩) | (exact⟨(h3.cell (p:=⟨X,0,none⟩) hXW).trans a0,(h3.cell (p:=⟨bu,ou+j,none⟩) hbuW).trans hun⟩) | go_keep)
    (first | (go_at_call 56;go_split_ands;(with_reducible refine(CN2.out W.drew ((Below.refl _ W).drew)).mono ?_);rintro e3 w3 ⟨A3,c3,rfl,hc3,hr3,hb3⟩;have h3:=zDh ((Below.refl W.heap.size W).drew) hb3) | (go_at_call 74;go_split_ands;(with_reducible refine(CT.out w3 A3 c3 hc3 hr3.out).mono ?_);rintro e4 w4 ⟨rfl,rfl⟩) | (go_at_call 75;go_split_ands;(with_reducible refine(CI.out w3 h3).mono ?_);rintro e5 w5 ⟨rfl,hb5⟩;have h5:=zDh h3 hb5))
   all_goals
    go_wp2_with fail;go_meet;exact⟨by first | rfl | simp,h5⟩
 case rest=>
  obtain⟨hv,hbx⟩:=hcut;subst hv;obtain⟨V,rfl⟩:∃z,z=wc:=⟨_,rfl⟩;have HBV:=zA (HBW.out.trans (hbx.out.mono HBW.out.size));have b0:=(hbx.out.cell (p:=⟨X,0,none⟩) hXW).trans a0;have bun:=(hbx.out.cell (p:=⟨bu,ou+j,none⟩) hbuW).trans hun;have HZ8:=zA (HX8.out.below hbx.out hYW);obtain⟨p0,p1,p2,p3,p4,p5,p6,p7⟩:=HZ8.out.c;have HBX:=zA hbx.out;clear a0 hun CN2 CT CI hbx P0 P7
  by_cases hbb:(bt || bh)=true
  · rw[hbb];have HF:=zA (HWR.out.trans (if_pos hbb));clear hbb;go_wp2_with fail;go_ret;exact⟨zD HF.out.symm,HBV.out⟩
  have hbf:(bt || bh)=false:=by simpa using hbb
  rw[hbf];have hw1:=HWR.out.trans (if_neg hbb);clear hbb hbf HWR;obtain⟨K,hK⟩:∃K,x.kind=K:=⟨_,rfl⟩;rw[hK]at p0 hw1;have HK:=zA hK
  by_cases h7:K=7
  · have hj0:=H7.out (hK.trans h7);subst h7;have hpn:0≤pu:=hup3.2.2 hj0;obtain⟨m,rfl⟩:∃m:Nat,pu=(m:Int):=⟨pu.toNat,by omega⟩;have hmn:m < n:=by omega
    obtain⟨b',o',y,r,hbo,hbB',hy,hC',_⟩:=(HNW.out.below (HBX.out.mono hBW)).get hmn;simp only[Option.some.injEq,Addr.mk.injEq,and_true]at hbo;obtain⟨rfl,rfl⟩:=hbo;have ky0:=hC'.k0;obtain⟨Ky,hKy⟩:∃Ky,y.kind=Ky:=⟨_,rfl⟩;rw[hKy]at ky0;rw[if_pos rfl,show knK ts (m:Int)=Ky by unfold knK;rw[zAv hy,hKy]]at hw1;obtain⟨L,hL⟩:∃L,x.kids.length=L:=⟨_,rfl⟩;have hdk:decide (x.kids=[])=((L:Int)==0):=by
     cases hkk:x.kids with
     | nil=>rw[←hL,hkk];rfl
     | cons a r=>rw[←hL,hkk];simp;omega
    rw[hdk]at hw1;have HF:=zA hw1;rw[hL]at p7;clear hw1 hdk hy hC' hKy hK hL hbB'
    by_cases h6:Ky=6
    · subst h6
      by_cases hl0:L=0
      · subst hl0;go_upto_region 6 with(fail)
        go_quiet (fail)
        go_wp2_with fail;go_ret;exact⟨zD (by rw[HF.out];rfl),zk HBV.out _⟩
      · have el:((L:Int)==0)=false:=yA.2 (by omega);go_upto_region 6 with(fail)
        go_quiet (fail)
        go_wp2_with fail;go_ret;exact⟨zD (by rw[HF.out,el];rfl),zk HBV.out _⟩
    · have e6:(Ky==6)=false:=yA.2 h6;clear h6;go_upto_region 6 with(fail)
      go_quiet (fail)
      go_wp2_with fail;go_ret;exact⟨zD (by rw[HF.out,e6,Bool.false_and]),zk HBV.out _⟩
  have e7:(K==7)=false:=yA.2 h7;rw[if_neg h7]at hw1;clear h7 H7;have CAV:=zA (CA.out V HBX.out);clear CA;obtain⟨AR,hAR⟩:∃z,arN ts up (j:Int)=z:=⟨_,rfl⟩;obtain⟨al,ar⟩:=AR;have hmem:∀k∈al,∃m:Nat,k=(m:Int)∧m < n:=by
   intro k hk;have:=zMq (ts:=ts) HUP.out (Int.toNat (j:Int)+1) j (by rw[HLU.out];exact hj) k (by
    have h:(arN ts up (j:Int)).1=al:=by rw[hAR]
    unfold arN at h;rw[h];exact hk)
   obtain⟨m,h1,h2⟩:=this;exact⟨m,h1,by omega⟩
  have hall:al.length≤4096:=by
   have:=zMr (ts:=ts) HUP.out (Int.toNat (j:Int)+1) j (by rw[HLU.out];exact hj);have h:(arN ts up (j:Int)).1=al:=by rw[hAR]
   unfold arN at h;rw[h]at this;omega
  rw[hAR]at CAV hw1;simp only at CAV hw1;obtain⟨na,hna⟩:∃z,al.length=z:=⟨_,rfl⟩;rw[hna]at hall;have HNA:=zA hna;have HMEM:=zA hmem;have CAW:=zA (show Calls prog 76 #[.agg #[.slice (some ⟨b,o,none⟩) n c],.slice (some ⟨bu,ou,none⟩) n cu,.int .i64 (j:Int)] V fun e w'=>∃A3 c3,e=.returned (.tuple #[.slice A3 na c3,.int .i64 ar])∧Hid (Reads w' w'.heap.size 1 A3 na (zBC al))∧Below V.heap.size V w' from CAV.out.mono fun e w' ⟨v,he,hm⟩=>by
   obtain⟨A3,c3,rfl,_,_,h3⟩:=hm.shape;rw[zFV,HNA.out]at he h3;exact⟨A3,c3,he,h3,hm.below⟩)
  clear CAV hAR hna hmem
  by_cases h18:K=18
  · subst h18;rw[if_pos rfl]at hw1;have HF:=zA hw1;clear hw1 hK;go_wp2_with fail;refine CAW.out.mono ?_;rintro e3 w3 ⟨A3,c3,rfl,hr3,hb3⟩;have HB3:=zA (HBX.out.trans (hb3.mono HBX.out.size));have b03:=(hb3.cell (p:=⟨X,0,none⟩) (yAA hXW HBX.out.size)).trans b0;have B03:=zA b03;have HY3:=zA (HZ8.out.below hb3 (yAA hYW HBX.out.size));have hX3:X < w3.heap.size:=yAA hXW HB3.out.size;have hY3:Y < w3.heap.size:=yAA hYW HB3.out.size;have CC:=zA (zR0 (c:=c3) (X:=X) (Y:=Y) (p:=fun k=>knK ts k==18&&decide (nmN ts k=x.name)) HNA.out (yAC _) hr3.out (by omega) (fun k hk wx hb=>by
     obtain⟨m,rfl,hm⟩:=HMEM.out k hk;exact zPV (c:=c) (B:=B) (HNW.out.below ((zDh HB3.out hb).mono hBW)) ((hb.cell (p:=⟨X,0,none⟩) hX3).trans B03.out) (HY3.out.below hb hY3) hm))
    have HBV3:=zA (HBV.out.trans (hb3.mono HBV.out.size));clear hb3 hr3 CAW;go_wp2_with fail;refine CC.out.mono ?_;rintro e5 w5 ⟨rfl,hb5⟩;have HB5:=zA (HBV3.out.trans (hb5.mono HBV3.out.size));clear hb5;go_wp2_with fail;go_ret;exact⟨zD HF.out.symm,HB5.out⟩
  have e18:(K==18)=false:=yA.2 h18;rw[if_neg h18]at hw1;clear h18
  by_cases hj12:K=12∨K=13
  · rw[if_pos hj12]at hw1;have HF:=zA hw1;have CJ:=zA (fun(wx:World) (D:Nat) (A3:Option Addr) (c3:Nat) (hb:Below W.heap.size W wx) (hr:Reads wx D 1 A3 na (zBC al)) (hD:D≤wx.heap.size)=>zPP (c:=c) (cl:=c3) (x:=x) (s:=⟨As,Am,Ak,cs,cm,ck⟩) (w:=wx) (HNW.out.below (hb.mono hBW)) (yAD hBW hb.size) HE.out HNA.out hall hr hD HMEM.out);rw[HK.out]at CJ;clear hw1 hK;rcases hj12 with rfl | rfl
    all_goals
     go_wp2_with fail;refine CAW.out.mono ?_;rintro e3 w3 ⟨A3,c3,rfl,hr3,hb3⟩;have HB3:=zA (HBX.out.trans (hb3.mono HBX.out.size));have b03:=(hb3.cell (p:=⟨X,0,none⟩) (yAA hXW HBX.out.size)).trans b0;have HY3:=zA (HZ8.out.below hb3 (yAA hYW HBX.out.size));have CC:=zA (CJ.out w3 w3.heap.size A3 c3 HB3.out hr3.out (yAC _));have HBV3:=zA (HBV.out.trans (hb3.mono HBV.out.size));obtain⟨q0,q1,q2,q3,q4,q5,q6,q7⟩:=HY3.out.c;rw[HK.out]at q0;clear hb3 hr3 CAW p0 p1 p2 p3 p4 p5 p6 p7 CJ;go_wp2_with fail;refine CC.out.mono ?_;rintro e5 w5 ⟨rfl,hb5⟩;have HB5:=zA (HBV3.out.trans (hb5.mono HBV3.out.size));clear hb5;go_wp2_with fail;go_ret;exact⟨zD HF.out.symm,HB5.out⟩
  have e12:(K==12)=false:=yA.2 (fun h=>hj12 (.inl h));have e13:(K==13)=false:=yA.2 (fun h=>hj12 (.inr h));rw[if_neg hj12]at hw1;clear hj12
  by_cases h14:K=14
  · subst h14;rw[if_pos rfl]at hw1;have HF:=zA hw1;clear hw1 hK;go_wp2_with fail;refine CAW.out.mono ?_;rintro e3 w3 ⟨A3,c3,rfl,hr3,hb3⟩;have HBV3:=zA (HBV.out.trans (hb3.mono HBV.out.size));clear hb3 hr3 CAW;go_wp2_with fail;go_ret;exact⟨zD HF.out.symm,HBV3.out⟩
  · have e14:(K==14)=false:=yA.2 h14;rw[if_neg h14]at hw1;have HF:=zA hw1;clear hw1 hK h14;go_wp2_with fail;go_ret;exact⟨zD HF.out.symm,HBV.out⟩
structure DpS (W wr:World) (v:Value) (n:Nat) (d:List Nat):Prop where
 own:wr.ownsRow W.heap.size 3 1 v n (zC4 d)
 below:Below W.heap.size W wr
theorem zKX (n:Nat):(madeCells (Value.int .i64 0).cells (n*1)).toList=zC4 (List.replicate n 0):=by
 rw[Nat.mul_one];show(madeCells #[Value.int .i64 0] n).toList=_;rw[toList_madeCells_one];simp[zC4]
def DeepAt (ts:List Nd) (k:Nat) (d q:List Nat):Prop:=zCF k (ts.drop k) d=q∧d.length=ts.length∧∀y∈d,y≤k+1
theorem DeepAt.start {ts:List Nd} {q:List Nat} (h:zG4 ts=q):DeepAt ts 0 (List.replicate ts.length 0) q:=
 ⟨h,List.length_replicate,fun y hy=>by have:=List.eq_of_mem_replicate hy;omega⟩
theorem DeepAt.done {ts:List Nd} {d q:List Nat} (h:DeepAt ts ts.length d q):d=q:=by
 have:=h.1;rw[List.drop_of_length_le (yAC _)]at this;exact this
def DeepIn (ts:List Nd) (k v:Nat) (ks:List Int) (d q:List Nat):Prop:=zCF (k+1) (ts.drop (k+1)) (zCh d (v+1) ks)=q∧d[k]? =some v∧d.length=ts.length∧v≤k+1∧∀y∈d,y≤k+2
theorem zFB {d:List Nat} {i v b:Nat} (h:∀y∈d,y≤b) (hv:v≤b):∀y∈d.set i v,y≤b:=by
 intro y hy;rcases List.mem_or_eq_of_mem_set hy with h1 | h1
 · exact h y h1
 · rw[h1];exact hv
theorem DeepAt.go {ts:List Nd} {k a:Nat} {x:Nd} {d q:List Nat} (h:DeepAt ts k d q) (hx:ts[k]? =some x) (ha:d[k]? =some a):DeepIn ts k (max a 1) x.kids (d.set k (max a 1)) q:=by
 obtain⟨hl,rfl⟩:=List.getElem?_eq_some_iff.1 hx;have hb:=h.2.2 a (List.mem_of_getElem? ha);refine⟨?_,List.getElem?_set_self (by rw[h.2.1];exact hl),by rw[List.length_set];exact h.2.1,by omega,zFB (fun y hy=>by have:=h.2.2 y hy;omega) (by omega)⟩;have:=h.1;rw[yAH hl,zD9,yAG,ha]at this;exact this
theorem DeepIn.step {ts:List Nd} {k v m:Nat} {ks:List Int} {d q:List Nat} (h:DeepIn ts k v ((m:Int)::ks) d q) (hm:k < m):DeepIn ts k v ks (d.set m (v+1)) q:=by
 refine⟨h.1,?_,by rw[List.length_set];exact h.2.2.1,h.2.2.2.1,zFB h.2.2.2.2 (by have:=h.2.2.2.1;omega)⟩;rw[List.getElem?_set_ne (by omega)];exact h.2.1
theorem DeepIn.done {ts:List Nd} {k v:Nat} {d q:List Nat} (h:DeepIn ts k v [] d q):DeepAt ts (k+1) d q:=⟨h.1,h.2.2.1,h.2.2.2.2⟩
theorem zMs (l:List Nat) (k x:Nat):(zC4 l).set k (.int .i64 (x:Int))=zC4 (l.set k x):=by
 unfold zC4;rw[List.map_set]
theorem DpS.cell {W wr:World} {g n k a:Nat} {d:List Nat} (h:DpS W wr (.slice (some ⟨g,0,none⟩) n n) n d) (ha:d[k]? =some a):wr.cell? ⟨g,k,none⟩=some (.int .i64 (a:Int)):=by
 have hl:k < n:=by
  have h1:=(List.getElem?_eq_some_iff.1 ha).1;have h2:=h.own.1;rw[zH4]at h2;omega
 rw[h.own.cellAt k (by omega)];simp[zC4,ha]
theorem DpS.store {W wr:World} {g n k a:Nat} {d:List Nat} (h:DpS W wr (.slice (some ⟨g,0,none⟩) n n) n d) (hg:W.heap.size≤g) {z:Int} (hz:z=(a:Int)):DpS W (wr.setCell ⟨g,k,none⟩ (.int .i64 z)) (.slice (some ⟨g,0,none⟩) n n) n (d.set k a):=by
 subst hz;have h1:=h.own.stored k (.int .i64 (a:Int));rw[zMs]at h1;exact⟨h1.1,h.below.setCell hg _⟩
theorem DpS.below' {W wr w':World} {v:Value} {n:Nat} {d:List Nat} (h:DpS W wr v n d) (hb:Below wr.heap.size wr w'):DpS W w' v n d:=⟨zCH h.own hb,h.below.trans (hb.mono h.below.size)⟩
theorem zIB {A:Option Addr} {c B n:Nat} {ts:List Nd} {w:World} (hN:NdsR w B A n ts) (hB:B≤w.heap.size) (h0:0 < n) (hl:n≤4096) (hf:Fwd ts) (hkl:∀x∈ts,x.kids.length≤1000000) {q:List Nat} (hq:zG4 ts=q):
 Calls prog 37 #[.agg #[.slice A n c]] w fun e w'=>∃A' c',e=.returned (.slice A' n c')∧q.length=n∧n≤c'∧Reads w' w'.heap.size 1 A' n (zC4 q)∧Below w.heap.size w w':=by
 obtain⟨W,hW⟩:∃W,w.alloc (.cells #[.slice A n c] 27)=W:=⟨_,rfl⟩;have hbW:Below w.heap.size w W:=by rw[←hW];exact(Below.refl _ _).alloc (yAC _) _
 have hsW:W.heap.size=w.heap.size+1:=by rw[←hW];simp
 have hNW:=zA ((hN.below (hbW.mono hB)));have hcW:W.cell? ⟨w.heap.size,0,none⟩=some (.slice A n c):=by rw[←hW,World.cell?_alloc_at _ _ _ _ rfl];rfl
 have HBW:=zA hbW;have HF:=zA hf;have HKL:=zA hkl;have HLN:=zA hN.1;have HQ:=zA hq;have HB:=zA hB;clear hq hbW hN hf hkl;go_enter func37,ntmps37;go_upto_region 1 with(fail);have HW:=zA hW;clear hW;obtain⟨i0,hi,hz0,hz1,hz2⟩:=info_parts Tryz.info_int;have hb8:i0.bytes*n≤281474976710656:=by rw[hz2];omega
 have hnm:n≤maxLen:=by unfold maxLen;omega
 have hltW:w.heap.size < W.heap.size:=by omega
 have HSW:=zA hsW;obtain⟨G,hG⟩:∃G,W.heap.size=G:=⟨_,rfl⟩;clear hsW;go_wp2_with (refine wpList_make_full _ rfl _ _ 32 rfl W.heap.size 3 i0 (.int .i64 0) 1 underlying32 hi hz0 hz1 .i64 .i64 (n:Int) (n:Int) n rfl rfl rfl rfl hb8 hnm (yAC _) ?_;intro w1 ho1 hg1;have hcx:w1.cell? ⟨w.heap.size,0,none⟩=some (.slice A n c):=hg1.cell hcW (by simp));have HG:=zA hG;have hS1:=zA (show DpS W w1 (.slice (some ⟨G,0,none⟩) n n) n (List.replicate n 0)from⟨by have:=ho1;rw[zKX]at this;rw[←hG];exact this,⟨hg1.os,hg1.tape,hg1.output,hg1.size,fun i hi=>hg1.block i hi (by simp)⟩⟩);clear ho1 hg1 hi hz0 hz1 hz2 hb8 hnm hG
 go_loopw [15] (fun i wr=>∃(k:Nat) (d:List Nat),k≤n∧i=.int .i64 k∧Hid (DeepAt ts k d q)∧Hid (DpS W wr (.slice (some ⟨G,0,none⟩) n n) n d)) (fun i _=>n - (intOf i).toNat)
 case atStart=>exact⟨0,_,yAE _,rfl,by have:=DeepAt.start HQ.out;rw[HLN.out]at this;exact this,hS1.out⟩
 case round=>
  clear hcx hS1;obtain⟨k,d,hk,rfl,hda,hS⟩:=hrel
  by_cases hlt:k < n
  · have hsz:=hS.out.below.size;obtain⟨b,o,x,s,rfl,hbB,hx,hC,hR⟩:=(hNW.out.below (hS.out.below.mono (by omega))).get hlt;obtain⟨kc0,kc1,kc2,kc3,kc4,kc5,kc6,kc7⟩:=hC;have hfw:=zA (show∀y∈x.kids,(k:Int) < y∧y < (n:Int)from by have:=HF.out k x hx;rw[HLN.out]at this;exact this);have hxl:=HKL.out x (List.mem_of_getElem? hx);have hdl:k < d.length:=by rw[hda.out.2.1,HLN.out];exact hlt
    obtain⟨a,ha⟩:∃a,d[k]? =some a:=⟨_,yAB hdl⟩;have hgo:=zA (hda.out.go hx ha);have hab:a≤k+1:=hda.out.2.2 a (List.mem_of_getElem? ha);have HA:=zA ha;clear hx hdl ha;go_upto_region 5 with(fail);obtain⟨W1,hW1⟩:∃W1,wr.alloc (.cells #[.int .i64 x.kind,.string ⟨x.name.toArray⟩,.slice s.As x.str.length s.cs,.int .i64 x.nk,.int .i64 x.nn,.bool x.neg,.slice s.Am x.mag.length s.cm,.slice s.Ak x.kids.length s.ck] 48)=W1:=⟨_,rfl⟩;rw[hW1];have hs1:wr.heap.size < W1.heap.size:=by rw[←hW1];simp
    have p7:W1.cell? ⟨wr.heap.size,7,none⟩=some (.slice s.Ak x.kids.length s.ck):=by rw[←hW1,World.cell?_alloc_at _ _ _ _ rfl];rfl
    have hbb:Below wr.heap.size wr W1:=by rw[←hW1];exact(Below.refl _ _).alloc (yAC _) _
    have HS1:=zA (hS.out.below' hbb);have hGl:G < wr.heap.size:=by have:=(hS.out.own.lt G rfl).2;exact this
    have HRW:=zA (hR.back (hS.out.below.mono (by omega)));obtain⟨X,hX⟩:∃X,wr.heap.size=X:=⟨_,rfl⟩;rw[hX]at p7 hs1 hGl;rw[hX];have hcell:=HS1.out.cell HA.out;have hfr:=HS1.out.own.frozenAt k;have hGX:G≠X:=by omega
    have hGW:W.heap.size≤G:=by rw[HG.out];omega
    have hWW:=HS1.out.below.size;clear hW1 hbb kc0 kc1 kc2 kc3 kc4 kc5 kc6 kc7 hR hS hX hsz hda
    go_cut [3] (fun v3 wx=>v3=.slice (some ⟨G,0,none⟩) n n∧Hid (DpS W wx (.slice (some ⟨G,0,none⟩) n n) n (d.set k (max a 1)))∧wx.cell? ⟨X,7,none⟩=some (.slice s.Ak x.kids.length s.ck)∧X < wx.heap.size)
    case first=>
     by_cases ha0:a≤1
     · have hv:max a 1=1:=by omega
       have HV:=zA hv;have hmx:max (a:Int) 1=1:=by omega
       clear hv;rcases(show a=0∨a=1 by omega)with rfl | rfl
       all_goals
        clear hmx ha0 hab;go_wp2_with fail;go_meet;exact⟨rfl,HS1.out.store hGW (by rw[HV.out];rfl),zAu (zK _ _ _ _) p7 (show X≠G by omega),by simpa using hs1⟩
     · have hv:max a 1=a:=by omega
       have HV:=zA hv;have e1:¬(a:Int)≤1:=by omega
       have e2:(1:Int)≤a:=by omega
       have e4:max (a:Int) 1=(a:Int):=by omega
       clear hv ha0;go_wp2_with fail;go_meet;exact⟨rfl,HS1.out.store hGW (by rw[HV.out]),zAu (zK _ _ _ _) p7 (show X≠G by omega),by simpa using hs1⟩
    case rest=>
     obtain⟨rfl,hS2,hp7,hX2⟩:=hcut;clear HS1 p7 hs1 hcell hfr hWW;obtain⟨v,hv⟩:∃v,max a 1=v:=⟨_,rfl⟩;rw[hv]at hgo hS2;have hvb:v≤4097:=by omega
     obtain⟨d2,hd2⟩:∃d2,d.set k v=d2:=⟨_,rfl⟩;rw[hd2]at hgo hS2;clear hv hd2 HA
     by_cases hke:x.kids=[]
     · have hdn:=zA (show DeepAt ts (k+1) d2 q from by have:=hgo.out;rw[hke]at this;exact this.done);rw[hke]at hp7;clear hke hgo hxl hfw;go_wp2_with fail
       go_loopw [31] (fun i wx=>i=.int .i64 0∧wx=wc) (fun _ _=>0)
       case atStart=>exact⟨rfl,rfl⟩
       case round=>
        obtain⟨rfl,rfl⟩:=hrel;go_wp2_with fail
        go_roundw
        case rel=>exact⟨k+1,d2,by omega,by go_num,hdn.out,hS2.out⟩
        case measure=>simp[intOf];omega
     have hkp:=List.length_pos_iff.2 hke;obtain⟨bk,ok,hak,hbk,hck⟩:=HRW.out.kids.spotK hkp;have hckb:=HRW.out.ck.1;have HCK:=zA hck;clear hke hck hkp;go_wp2_with fail
     go_loopw [31] (fun i wr=>∃(j:Nat) (e:List Nat),j≤x.kids.length∧i=.int .i64 j∧Hid (DeepIn ts k v (x.kids.drop j) e q)∧Hid (DpS W wr (.slice (some ⟨G,0,none⟩) n n) n e)) (fun i _=>x.kids.length - (intOf i).toNat)
     case atStart=>exact⟨0,d2,yAE _,rfl,hgo.out,hS2.out⟩
     case round=>
      clear hS2 hp7 hX2;obtain⟨j,e,hj,rfl,hin,hSe⟩:=hrel
      by_cases hjl:j < x.kids.length
      · have hcj:=(hSe.out.below.cell (p:=⟨bk,ok+j,none⟩) (show bk < W.heap.size by omega)).trans (HCK.out j hjl);have hyb:=hfw.out x.kids[j] (List.getElem_mem hjl);have hin2:=hin.out;rw[yAH hjl]at hin2;obtain⟨y,hy⟩:∃y,x.kids[j]=y:=⟨_,rfl⟩;rw[hy]at hcj hyb hin2;obtain⟨m,rfl⟩:∃m:Nat,y=(m:Int):=⟨y.toNat,by omega⟩;have hkm:k < m:=by omega
        have hmn:m < n:=by omega
        have hstep:=zA (hin2.step hkm);have hcv:=hSe.out.cell hin2.2.1;obtain⟨z,hz⟩:∃z,e[m]? =some z:=⟨_,yAB (by rw[hin2.2.2.1,HLN.out];exact hmn)⟩;have hcz:=hSe.out.cell hz;have hfr:=hSe.out.own.frozenAt m;have hSZ:=hSe.out.below.size;clear hyb hin2 hy hz hin;go_wp2_with fail
        go_roundw
        case rel=>exact⟨j+1,e.set m (v+1),by omega,by go_num,hstep.out,hSe.out.store hGW (by omega)⟩
        case measure=>simp[intOf];omega
      · obtain rfl:j=x.kids.length:=by omega
        have hdn:=zA (show DeepAt ts (k+1) e q from by have:=hin.out;rw[List.drop_length]at this;exact this.done);clear hin;go_wp2_with fail
        go_roundw
        case rel=>exact⟨k+1,e,by omega,by go_num,hdn.out,hSe.out⟩
        case measure=>simp[intOf];omega
  · obtain rfl:k=n:=by omega
    have hdn:=zA (show d=q from by have:=hda.out;rw[←HLN.out]at this;exact this.done);have hlen:=zA (show q.length=k from by rw[←hdn.out,hda.out.2.1,HLN.out]);clear hda;go_wp2_with fail;go_ret;refine⟨_,_,rfl,hlen.out,yAC _,?_,HBW.out.trans (hS.out.below.mono (by omega))⟩;rw[←hdn.out];exact Reads.of_own hS.out.own
theorem zKY (l:List Nat) (x:Nat):zD8 (l++[x])=max (zD8 l) x:=by
 rw[zHx];simp[zD8]
theorem zKZ {A:Option Addr} {c B n:Nat} {d:List Nat} {w:World} (hn:d.length=n) (h0:0 < n) (hl:n≤100000) (hr:Reads w B 1 A n (zC4 d)) {q:Nat} (hq:zD8 d=q):
 Calls prog 36 #[.slice A n c] w fun e w'=>e=.returned (.int .i64 (q:Int))∧w=w':=by
 obtain⟨b,o,rfl,hb,hcell⟩:=hr.spotR h0;have hcl:∀(j:Nat) (x:Nat),d[j]? =some x→w.cell? ⟨b,o+j,none⟩=some (.int .i64 (x:Int)):=fun j x hx=>hcell j _ (by simp[zC4,hx]);have HCL:=zA hcl;obtain⟨x0,hx0⟩:∃x0,d[0]? =some x0:=⟨_,yAB (by omega)⟩;have hc0:w.cell? ⟨b,o,none⟩=some (.int .i64 (x0:Int)):=hcl 0 x0 hx0;have H1:=zA (show zD8 (d.take 1)=x0 by
  cases d with
  | nil=>cases hx0
  | cons y r=>obtain rfl:=Option.some.inj hx0;simp[zD8])
 have HN:=zA hn;have HQ:=zA hq;have h1:(1:Int)≤(n:Int):=by omega
 clear hcl hcell hx0 hr hn hq;go_enter func36,ntmps36;go_wp2_with fail
 go_loop [3,4] (fun m i=>∃k z:Nat,1≤k∧k≤n∧i=.int .i64 k∧m=.int .i64 z∧Hid (zD8 (d.take k)=z)) (fun _ i=>n - (intOf i).toNat)
 case atStart=>exact⟨1,x0,yAC _,h0,rfl,rfl,H1.out⟩
 case round=>
  clear hc0;obtain⟨k,z,hk1,hk,rfl,rfl,hz⟩:=hrel
  by_cases hlt:k < n
  · have hkd:k < d.length:=by rw[HN.out];exact hlt
    obtain⟨y,hy⟩:∃y,d[k]? =some y:=⟨_,yAB hkd⟩;have hcy:=HCL.out k y hy;have HS:=zA (show zD8 (d.take (k+1))=max z y by
     rw[List.take_add_one,hy];show zD8 (d.take k++[y])=_;rw[zKY,hz.out])
    clear hkd hy;rcases Nat.lt_trichotomy z y with hzy | hzy | hzy
    · have e1:(z:Int)≤(y:Int):=by omega
      have e2:¬(y:Int)≤(z:Int):=by omega
      have e3:(z:Int) < (y:Int):=by omega
      have e4:max (z:Int) (y:Int)=(y:Int):=by omega
      go_wp2_with fail;go_round
      case rel=>exact⟨k+1,y,by omega,by omega,by go_num,rfl,HS.out.trans (by omega)⟩
      case measure=>simp[intOf];omega
    · subst hzy;go_wp2_with fail
      all_goals go_round
      case rel=>exact⟨k+1,z,by omega,by omega,by go_num,rfl,HS.out.trans (by omega)⟩
      case measure=>simp[intOf];omega
    · have e1:¬(z:Int)≤(y:Int):=by omega
      have e2:(y:Int)≤(z:Int):=by omega
      have e3:(y:Int) < (z:Int):=by omega
      have e4:max (z:Int) (y:Int)=(z:Int):=by omega
      go_wp2_with fail;go_round
      case rel=>exact⟨k+1,z,by omega,by omega,by go_num,rfl,HS.out.trans (by omega)⟩
      case measure=>simp[intOf];omega
  · obtain rfl:k=n:=by omega
    have HF:=zA (show z=q by rw[←hz.out,←HQ.out,List.take_of_length_le (by rw[HN.out];omega)]);go_wp2_with fail;go_ret;exact⟨zDP (by rw[HF.out]),rfl⟩
structure UpS (W wr:World) (v:Value) (n:Nat) (d:List Int):Prop where
 own:wr.ownsRow W.heap.size 3 1 v n (zBC d)
 below:Below W.heap.size W wr
theorem zI1 (n:Nat):(madeCells (Value.int .i64 0).cells (n*1)).toList=zBC (List.replicate n 0):=by
 rw[Nat.mul_one];show(madeCells #[Value.int .i64 0] n).toList=_;rw[toList_madeCells_one];simp[zBC]
theorem UpS.cell {W wr:World} {g n k:Nat} {a:Int} {d:List Int} (h:UpS W wr (.slice (some ⟨g,0,none⟩) n n) n d) (ha:d[k]? =some a):wr.cell? ⟨g,k,none⟩=some (.int .i64 a):=by
 have hl:k < n:=by
  have h1:=(List.getElem?_eq_some_iff.1 ha).1;have h2:=h.own.1;rw[zFV]at h2;omega
 rw[h.own.cellAt k (by omega)];simp[zBC,ha]
theorem UpS.store {W wr:World} {g n k:Nat} {a:Int} {d:List Int} (h:UpS W wr (.slice (some ⟨g,0,none⟩) n n) n d) (hg:W.heap.size≤g):UpS W (wr.setCell ⟨g,k,none⟩ (.int .i64 a)) (.slice (some ⟨g,0,none⟩) n n) n (d.set k a):=by
 have h1:=h.own.stored k (.int .i64 a);have e:(zBC d).set k (.int .i64 a)=zBC (d.set k a):=by unfold zBC;rw[List.map_set]
 rw[e]at h1;exact⟨h1.1,h.below.setCell hg _⟩
theorem UpS.below' {W wr w':World} {v:Value} {n:Nat} {d:List Int} (h:UpS W wr v n d) (hb:Below wr.heap.size wr w'):UpS W w' v n d:=⟨zCH h.own hb,h.below.trans (hb.mono h.below.size)⟩
theorem zMt {n:Nat} {l ks:List Int} {q m:Nat} (hq:q < ks.length) (hm:ks[q]=(m:Int)):upK n l (ks.take (q+1))=(upK n l (ks.take q)).set m (n:Int):=by
 rw[yAK hq,zPK,hm,Int.toNat_natCast]
theorem zPX {A:Option Addr} {c B n:Nat} {ts:List Nd} {w:World} (hN:NdsR w B A n ts) (hB:B≤w.heap.size) (h0:0 < n) (hE:EOk ts):
 Calls prog 48 #[.agg #[.slice A n c]] w fun e w'=>∃g,e=.returned (.slice (some ⟨g,0,none⟩) n n)∧Reads w' w'.heap.size 1 (some ⟨g,0,none⟩) n (zBC (upN ts))∧Below w.heap.size w w':=by
 obtain⟨W,hW⟩:∃W,w.alloc (.cells #[.slice A n c] 27)=W:=⟨_,rfl⟩;have hbW:Below w.heap.size w W:=by rw[←hW];exact(Below.refl _ _).alloc (yAC _) _
 have hsW:W.heap.size=w.heap.size+1:=by rw[←hW];simp
 have hNW:=zA ((hN.below (hbW.mono hB)));have hcW:W.cell? ⟨w.heap.size,0,none⟩=some (.slice A n c):=by rw[←hW,World.cell?_alloc_at _ _ _ _ rfl];rfl
 have HBW:=zA hbW;have HE:=zA hE;have HLN:=zA hN.1;have hl:n≤4096:=by rw[←hN.1];exact hE.len
 have hBW:B≤W.heap.size:=by omega
 clear hbW hN hE;go_enter func48,ntmps48;go_upto_region 1 with(fail);clear hW;obtain⟨i0,hi,hz0,hz1,hz2⟩:=info_parts Tryz.info_int;have hb8:i0.bytes*n≤281474976710656:=by rw[hz2];omega
 have hnm:n≤maxLen:=by unfold maxLen;omega
 have hltW:w.heap.size < W.heap.size:=by omega
 have HSW:=zA hsW;obtain⟨G,hG⟩:∃G,W.heap.size=G:=⟨_,rfl⟩;clear hsW;go_upto_region 2 with(refine wpList_make_full _ rfl _ _ 32 rfl W.heap.size 3 i0 (.int .i64 0) 1 underlying32 hi hz0 hz1 .i64 .i64 (n:Int) (n:Int) n rfl rfl rfl rfl hb8 hnm (yAC _) ?_;intro w1 ho1 hg1;have hcx:w1.cell? ⟨w.heap.size,0,none⟩=some (.slice A n c):=hg1.cell hcW (by simp));have HG:=zA hG;have hS1:UpS W w1 (.slice (some ⟨G,0,none⟩) n n) n (List.replicate n 0):=⟨by have:=ho1;rw[zI1]at this;rw[←hG];exact this,⟨hg1.os,hg1.tape,hg1.output,hg1.size,fun i hi=>hg1.block i hi (by simp)⟩⟩;have hc0:w1.cell? ⟨G,0,none⟩=some (.int .i64 0):=hS1.cell (by rw[List.getElem?_replicate,if_pos h0]);have hf0:=hS1.own.frozenAt 0;have hGW:W.heap.size≤G:=by omega
 have hS2:=zA (show UpS W (w1.setCell ⟨G,0,none⟩ (.int .i64 (-1))) (.slice (some ⟨G,0,none⟩) n n) n (zFU ts 0) by
  rw[show zFU ts 0=(List.replicate n 0).set 0 (-1) by show(List.replicate ts.length 0).set 0 (-1)=_;rw[HLN.out]];exact hS1.store hGW)
 obtain⟨X,hX⟩:∃X,w.heap.size=X:=⟨_,rfl⟩;rw[hX]at hcx;have hne:(⟨X,0,none⟩:Addr)≠⟨G,0,none⟩:=by intro e;injection e;omega
 have hcy:(w1.setCell ⟨G,0,none⟩ (.int .i64 (-1))).cell? ⟨X,0,none⟩=some (.slice A n c):=by rw[World.cell?_setCell_other _ _ _ _ hne.symm];exact hcx
 have HCY:=zA hcy;have h01:(0:Int) < (n:Int):=by omega
 clear ho1 hg1 hi hz0 hz1 hz2 hb8 hnm hG hS1;go_upto_region 3 with(fail);obtain⟨w2,hw2⟩:∃w2,w1.setCell ⟨G,0,none⟩ (.int .i64 (-1))=w2:=⟨_,rfl⟩;rw[hw2]at hS2 hcy HCY⊢;have hXW:X < W.heap.size:=by omega
 rw[hX];clear hw2 hcx hc0 hf0 hne hX hcW hltW;have HCW:=zA (show X < W.heap.size∧W.cell? ⟨X,0,none⟩=some (.slice A n c)from⟨hXW,by have:=hS2.out.below.cell (p:=⟨X,0,none⟩) hXW;rw[←this];exact hcy⟩);go_wp2_with fail
 go_loopw [17] (fun i wr=>∃k:Nat,k≤n∧i=.int .i64 (k:Int)∧Hid (UpS W wr (.slice (some ⟨G,0,none⟩) n n) n (zFU ts k))) (fun i _=>n - (intOf i).toNat)
 case atStart=>exact⟨0,yAE _,rfl,hS2.out⟩
 case round=>
  clear hcy;obtain⟨k,hk,rfl,hS⟩:=hrel
  by_cases hlt:k < n
  · have hsz:=hS.out.below.size;obtain⟨b,o,x,⟨As,Am,Ak,cs,cm,ck⟩,rfl,hbB,hx,hC,hR⟩:=(hNW.out.below (hS.out.below.mono hBW)).get hlt;obtain⟨kc0,kc1,kc2,kc3,kc4,kc5,kc6,kc7⟩:=hC;have HX:=zA hx;have HK:=zA (show Reads W B 1 Ak x.kids.length (zBC x.kids)from(hR.back (hS.out.below.mono hBW)).kids);have hxl:=HE.out.many x (List.mem_of_getElem? hx);obtain⟨L,hLl⟩:∃L,x.kids.length=L:=⟨_,rfl⟩;have HL:=zA hLl;have HG1:=zA (show zFU ts (k+1)=upK k (zFU ts k) x.kids by rw[zFU,zAv hx]);rw[hLl]at kc7 hxl;clear hx hR hLl;go_upto_region 5 with(fail);go_upto_region 6 with(fail);obtain⟨W1,hW1⟩:∃W1,wr.alloc (.cells #[.int .i64 x.kind,.string ⟨x.name.toArray⟩,.slice As x.str.length cs,.int .i64 x.nk,.int .i64 x.nn,.bool x.neg,.slice Am x.mag.length cm,.slice Ak L ck] 48)=W1:=⟨_,rfl⟩;rw[hW1];have b1:Below wr.heap.size wr W1:=by rw[←hW1];exact(Below.refl _ _).alloc (yAC _) _
    have p7:W1.cell? ⟨wr.heap.size,7,none⟩=some (.slice Ak L ck):=by rw[←hW1,World.cell?_alloc_at _ _ _ _ rfl];rfl
    have HS1:=zA (hS.out.below' b1);clear hW1 b1 kc0 kc1 kc2 kc3 kc4 kc5 kc6 kc7;go_wp2_with fail
    go_loopw [25] (fun i wq=>∃q:Nat,q≤L∧i=.int .i64 (q:Int)∧Hid (UpS W wq (.slice (some ⟨G,0,none⟩) n n) n (upK k (zFU ts k) (x.kids.take q)))) (fun i _=>L - (intOf i).toNat)
    case atStart=>exact⟨0,yAE _,rfl,HS1.out⟩
    case round=>
     obtain⟨q,hq,rfl,hSq⟩:=hrel
     by_cases hlq:q < L
     · have hqk:q < x.kids.length:=by rw[HL.out];exact hlq
       obtain⟨mk,hmk,hjm,hml⟩:=HE.out.fwd.kid HX.out hqk;obtain⟨bk,ok,rfl,_,hck⟩:=(HK.out.below (hSq.out.below.mono hBW)).spotR (by rw[HL.out];omega);have hkv:=zDT hck hqk;rw[hmk]at hkv;rw[HLN.out]at hml;have hlen:(upK k (zFU ts k) (x.kids.take q)).length=n:=by rw[zKD,zHz,HLN.out]
       have hcz:=hSq.out.cell (k:=mk) (yAB (by rw[hlen];exact hml));obtain⟨z,hz⟩:∃z,(upK k (zFU ts k) (x.kids.take q))[mk]'(by rw[hlen];exact hml)=z:=⟨_,rfl⟩;rw[hz]at hcz;have hfr:=hSq.out.own.frozenAt mk;have HST:=zA (show upK k (zFU ts k) (x.kids.take (q+1))=(upK k (zFU ts k) (x.kids.take q)).set mk (k:Int)from zMt hqk hmk);clear hck hqk hmk hlen hz;go_wp2_with fail
       go_roundw
       case rel=>exact⟨q+1,by omega,by go_num,by rw[HST.out];exact hSq.out.store hGW⟩
       case measure=>simp[intOf];omega
     · obtain rfl:q=L:=by omega
       go_wp2_with fail
       go_roundw
       case rel=>exact⟨k+1,by omega,by go_num,by
        have:=hSq.out;rw[List.take_of_length_le (by rw[HL.out];exact yAC _)]at this;rw[HG1.out];exact this⟩
       case measure=>simp[intOf];omega
  · obtain rfl:k=n:=by omega
    have hcy:=(hS.out.below.cell (p:=⟨X,0,none⟩) hXW).trans HCW.out.2;go_wp2_with fail;go_ret;refine⟨_,rfl,?_,HBW.out.trans (hS.out.below.mono HBW.out.size)⟩;have:=Reads.of_own hS.out.own;unfold upN;rw[HLN.out];exact this
end Go.Proofs.YtlohaclgbfhijaaGreatDoor
