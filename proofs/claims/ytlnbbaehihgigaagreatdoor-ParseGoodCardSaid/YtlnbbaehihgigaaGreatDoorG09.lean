/- Joined for the claim ParseGood: the parser, the lexer and the trees as they are walked, made short by a program of mine. -/
import Derived.Deep.CutBlock
import Derived.Deep.DeepCutAuto
import Derived.Test.YtlnbbaehihgigaaGreatDoorG08
import Derived.Test.YtlnbbaehihgigaaGreatDoorG02
import Derived.Test.YtlnbbaehihgigaaGreatDoorG07
import Derived.Test.YtlnbbaehihgigaaGreatDoorG06
import Derived.Test.YtlnbbaehihgigaaGreatDoorG01
set_option maxHeartbeats 16000000
set_option maxRecDepth 1000000
namespace Go.Proofs.YtlnbbaehihgigaaGreatDoor
open Go.Proofs.Tryz
open Go.RowKit
variable {Ak:Option Addr} {ck k0 L i:Nat} {a0 a1 a2 t:Tr} {ts:List Nd} {K:Int}
theorem zYx {C:Cx} {us:List UInt16} {v:Value} {w:World} (m:ByteArray) (vs o:Value) (nn:Int) (p:Bool) (z:0≤nn) (h1:nn≤9007199254740991) (q:Pe C us v w) (r:MayPut us ([zBZ nn.toNat])):
 Calls prog 29 #[C,.agg #[(30:Int),.string m,vs,(0:Int),nn,p,o,.slice Ak L ck]] w (PutQ C us v w ([zBZ nn.toNat])):=by
 obtain⟨W,b⟩:=jx (w.alloc (.cells #[(30:Int),.string m,vs,(0:Int),nn,p,o,.slice Ak L ck] 43));have c:Below w.heap.size w W:=jb b;have x0:W.cell? w.heap.size=some (.int .i64 30):=jc b;have A:W.cell? ⟨w.heap.size,3,none⟩=some (.int .i64 0):=jc b;have B:W.cell? ⟨w.heap.size,4,none⟩=some (.int .i64 nn):=jc b;have x7:W.cell? ⟨w.heap.size,7,none⟩=some (.slice Ak L ck):=jc b;have f:=zA (q.below c);have j:=zA c;have D:=zA r;have E:=zA (zI6 nn W z h1 f.out.tab);obtain⟨X,d⟩:=jx w.heap.size;go_enter func29,ntmps29;go_upto_region 1 with(fail);clear q r c;clear b;rw[d]at x0;rw[d]at A;rw[d]at B;rw[d]at x7;clear d;go_wp2_with fail;refine E.out.mono ?_;rintro e1 w1 ⟨rfl,e⟩;have s:=zA (f.out.below e);have t:=zA (j.out.trans (e.mono j.out.size));have F:=zA (zAD s [zBZ nn.toNat] 1 rfl D);clear e;go_wp2_with fail;refine F.out.mono ?_;rintro e2 w2 ⟨rfl,v2,k,l⟩;have u:=zA k;have y:=zA l;clear k l;go_wp2_with fail;exact jr (PutQ.back t ⟨rfl,v2,u,y⟩)
theorem zX3 {C:Cx} {us:List UInt16} {v:Value} {w:World} {d:List UInt8} {b:ByteArray} (h:⟨d.toArray⟩=b) (c:Pe C us v w) (f:MayPut us [d++[110]]):
 Calls prog 43 #[C,.slice (some ⟨w.heap.size,0,none⟩) 1 1] (w.alloc (.cells #[.string (b++⟨#[110]⟩)] 9)) (PutQ C us v w [d++[110]]):=by
 have e:b++⟨#[110]⟩=⟨(d++[110]).toArray⟩:=by
  subst h;apply ByteArray.ext;simp
 rw[e];exact zAD c [d++[110]] 1 rfl f
theorem zYy {C:Cx} {us:List UInt16} {v:Value} {w:World} {j cm:Nat} {Am:Option Addr} {ms:List Nat} (t:ByteArray) (vs:Value) (nk nn:Int) (u:ms.length=j) (p:Reads w C.B 1 Am j (zBq ms)) (z:∀y∈ms,y < 4294967296) (A:zBR false ms=true) (d:(zBZ (zEk ms)).length≤78) (o:Pe C us v w) (D:MayPut us ([zBZ (zEk ms)++[110]])):
 Calls prog 29 #[C,.agg #[(31:Int),.string t,vs,nk,nn,false,.slice Am j cm,.slice Ak L ck]] w (PutQ C us v w ([zBZ (zEk ms)++[110]])):=by
 obtain⟨W,f⟩:=jx (w.alloc (.cells #[(31:Int),.string t,vs,nk,nn,false,.slice Am j cm,.slice Ak L ck] 43));have b:Below w.heap.size w W:=jb f;have x0:W.cell? w.heap.size=some (.int .i64 31):=jc f;have N:W.cell? ⟨w.heap.size,5,none⟩=some (.bool false):=jc f;have O:W.cell? ⟨w.heap.size,6,none⟩=some (.slice Am j cm):=jc f;have x7:W.cell? ⟨w.heap.size,7,none⟩=some (.slice Ak L ck):=jc f;have E:=zA (o.below b);have q:=zA b;have P:=zA D;have F:=zA (zQh (c:=cm) u (p.below (b.mono (Nat.le_of_lt o.blt))) (yAD (Nat.le_of_lt o.blt) b.size) z A d);obtain⟨k,e⟩:∃k:ByteArray,⟨(zBZ (zEk ms)).toArray⟩=k:=⟨_,rfl⟩;rw[e]at F;have G:=zA e;have R:k.size≤78:=by rw[←e];simpa [ByteArray.size]using d
 have S:k.toList.length=k.size:=by rw[ByteArray.toList_eq];rfl
 obtain⟨X,l⟩:=jx w.heap.size;go_enter func29,ntmps29;go_upto_region 1 with(fail);clear o D b p u z A d e;clear f;rw[l]at x0;rw[l]at N;rw[l]at O;rw[l]at x7;clear l;go_wp2_with fail;refine F.out.mono ?_;rintro e1 w1 ⟨rfl,m⟩;have H:=zA (E.out.below m);have I:=zA (q.out.trans (m.mono q.out.size));have Q:=zA (zX3 G H P);clear m;go_wp2_with fail;refine Q.out.mono ?_;rintro e2 w2 ⟨rfl,v2,r,s⟩;have J:=zA r;have M:=zA s;clear r s;go_wp2_with fail;exact jr (PutQ.back I ⟨rfl,v2,J,M⟩)
theorem zYz {C:Cx} {us:List UInt16} {v:Value} {w:World} {d cs:Nat} {As:Option Addr} {e:List UInt16} (r:ByteArray) (s:Value) (nk nn:Int) (t:Bool) (u:e.length=d) (y:d≤1000000) (m:Reads w C.B 1 As d (zAM e)) (k:Pe C us v w) (z:MayPut us ([zFw e])):
 Calls prog 29 #[C,.agg #[(32:Int),.string r,.slice As d cs,nk,nn,t,s,.slice Ak L ck]] w (PutQ C us v w ([zFw e])):=by
 obtain⟨W,f⟩:=jx (w.alloc (.cells #[(32:Int),.string r,.slice As d cs,nk,nn,t,s,.slice Ak L ck] 43));have b:Below w.heap.size w W:=jb f;have x0:W.cell? w.heap.size=some (.int .i64 32):=jc f;have H:W.cell? ⟨w.heap.size,2,none⟩=some (.slice As d cs):=jc f;have x7:W.cell? ⟨w.heap.size,7,none⟩=some (.slice Ak L ck):=jc f;have A:=zA (k.below b);have o:=zA b;have I:=zA z;have J:=zA (zH6 (c:=cs) u (yAD (Nat.le_of_lt k.blt) b.size) (m.below (b.mono (Nat.le_of_lt k.blt))) y);obtain⟨X,l⟩:=jx w.heap.size;go_enter func29,ntmps29;go_upto_region 1 with(fail);clear k z b m u;clear f;rw[l]at x0;rw[l]at H;rw[l]at x7;clear l;go_wp2_with fail;refine J.out.mono ?_;rintro e1 w1 ⟨rfl,j⟩;have D:=zA (A.out.below j);have E:=zA (o.out.trans (j.mono o.out.size));have M:=zA (zAD D [zFw e] 1 rfl I);clear j;go_wp2_with fail;refine M.out.mono ?_;rintro e2 w2 ⟨rfl,v2,p,q⟩;have F:=zA p;have G:=zA q;clear p q;go_wp2_with fail;exact jr (PutQ.back E ⟨rfl,v2,F,G⟩)
theorem zY0 {C:Cx} {us:List UInt16} {v:Value} {w:World} {m f cs:Nat} {As:Option Addr} {j:List UInt16} (M:ByteArray) (N:Value) (nk nn:Int) (O:Bool) (hN:zAl C m) (s0:a0.size≤m) (hk:KidsS C w Ak [a0]) (P:j.length=f) (Q:f≤1000000) (t:Reads w C.B 1 As f (zAM j)) (k:Pe C us v w) (R:MayPut us ([zFw j,[58]]++ze (a0.nd.kind,prT a0))):
 Calls prog 29 #[C,.agg #[(40:Int),.string M,.slice As f cs,nk,nn,O,N,.slice Ak 1 ck]] w (PutQ C us v w ([zFw j,[58]]++ze (a0.nd.kind,prT a0))):=by
 obtain⟨b,o,rfl,u⟩:=hk js;obtain⟨W,l⟩:=jx (w.alloc (.cells #[(40:Int),.string M,.slice As f cs,nk,nn,O,N,.slice (some ⟨b,o,none⟩) 1 ck] 43));have d:Below w.heap.size w W:=jb l;have x0:W.cell? w.heap.size=some (.int .i64 40):=jc l;have x2:W.cell? ⟨w.heap.size,2,none⟩=some (.slice As f cs):=jc l;have x7:W.cell? ⟨w.heap.size,7,none⟩=some (.slice (some ⟨b,o,none⟩) 1 ck):=jc l;obtain⟨p0,y,z,A⟩:=(u.below (d.mono (Nat.le_of_lt k.blt))) 0 js;have c0:W.cell? ⟨b,o,none⟩=some (.int .i64 (p0:Int)):=A;have S:Hid (At C.ts p0 a0):=y;have HN:=zA hN;have D:=zA (k.below d);have E:=zA d;obtain⟨F,G⟩:=R.two (b:=[zFw j,[58]]) (c:=ze (a0.nd.kind,prT a0)) rfl;have M1:=zA F;have M2:=zA G;have CT:=zA (zH6 (c:=cs) P (yAD (Nat.le_of_lt k.blt) d.size) (t.below (d.mono (Nat.le_of_lt k.blt))) Q);obtain⟨X,s⟩:=jx w.heap.size;go_enter func29,ntmps29;go_upto_region 1 with(fail);clear k R d t P hN u y A F G;clear l;rw[s]at x0;rw[s]at x2;rw[s]at x7;clear s;go_wp2_with fail;refine CT.out.mono ?_;rintro e1 w1 ⟨rfl,e⟩;have H:=zA (D.out.below e);have T:=zA (E.out.trans (e.mono E.out.size));have L:=((e.mono (Nat.le_of_lt D.out.blt)).cell (p:=⟨b,o,none⟩) z).trans c0;have C2:=zA (zAD H [zFw j,[58]] 2 rfl M1);clear e;go_wp2_with fail;refine C2.out.mono ?_;rintro e2 w2 ⟨rfl,v2,q,r⟩;have a2:=zA q;have U:=zA r;have a1:=((H.out.low r).cell (p:=⟨b,o,none⟩) z).trans L;have C3:=zA (zDL HN s0 S q M2);clear q r;go_wp2_with fail;refine C3.out.mono ?_;rintro e3 w3 ⟨rfl,v3,I,J⟩;have V:=zA I;have Y:=zA (U.out.trans J);clear I J;go_wp2_with fail;refine jr ?_;refine PutQ.back T ⟨rfl,v3,?_,Y⟩;have:=V.out;rwa[←zAC]at this
def zFS (l:List Tr):Tks:=(prs l).flatMap (·.2)
theorem zIk {l:List Tr} (h:i < l.length):zFS (l.take (i+1))=zFS (l.take i)++prT l[i]:=by
 unfold zFS;rw[yAL h,zB7,zB7,List.map_append,List.flatMap_append];simp
theorem zTm (l:List Tr) (i:Nat):∃r,zFS l=zFS (l.take i)++r:=by
 refine⟨zFS (l.drop i),?_⟩;unfold zFS;rw[←List.flatMap_append,zB7,zB7,zB7,←List.map_append,List.take_append_drop]
theorem MayPut.uptoS {us:List UInt16} {l:List Tr} (h:MayPut us (zFS l)) (hi:i < l.length):MayPut (zCu us (zFS (l.take i))) (prT l[i]):=by
 obtain⟨r,b⟩:=zTm l (i+1);rw[zIk hi,List.append_assoc]at b;exact((h.of b).app.2).app.1
theorem zaV {C:Cx} {m:Nat} {us:List UInt16} {v:Value} {w:World} (P:ByteArray) (vs Q:Value) (nk nn:Int) (R:Bool) {l:List Tr} (hN:zAl C m) (hs:∀t∈l,t.size≤m) (S:l.length=L) (a5:L≤1000000) (hk:KidsS C w Ak l) (M:Pe C us v w) (T:MayPut us (zFS l)):
 Calls prog 28 #[C,k0,.agg #[(1:Int),.string P,vs,nk,nn,R,Q,.slice Ak L ck]] w (PutQ C us v w (zFS l)):=by
 obtain⟨W,B⟩:=jx (w.alloc (.cells #[(1:Int),.string P,vs,nk,nn,R,Q,.slice Ak L ck] 43));have d:Below w.heap.size w W:=jb B;have x0:W.cell? w.heap.size=some (.int .i64 1):=jc B;have x7:W.cell? ⟨w.heap.size,7,none⟩=some (.slice Ak L ck):=jc B;have D:=zA (hk.below (d.mono (Nat.le_of_lt M.blt)));have HS:=zA hs;have HN:=zA hN;have k:=zA S;have q:=zA (M.below d);have E:=zA d;have M2:=zA T;obtain⟨X,U⟩:=jx w.heap.size;go_enter func28,ntmps28;go_upto_region 1 with(fail);clear T M d hN hs hk S;clear B;rw[U]at x0 x7;clear U;go_wp2_with fail
 by_cases N:l=[]
 · subst N;obtain rfl:L=0:=by rw[←k.out];rfl
   go_loopw [23] (fun i wr=>i=.int .i64 0∧wr=W) (fun _ _=>0)
   case atStart=>exact⟨rfl,rfl⟩
   case round=>
    obtain⟨rfl,rfl⟩:=hrel;have r:=zA q;have s:=zA (Pk.refl C.g wr v);have V:=zA (show zFS []=[]from rfl);go_wp2_with fail;refine jr ?_;refine PutQ.back E ⟨rfl,v,?_,s⟩;exact r.out
 obtain⟨b,o,rfl,F⟩:=D.out N;have HK:=zA F;clear F N D
 go_loopw [23] (fun i wr=>∃(j:Nat) (u:Value),j≤L∧i=.int .i64 j∧Hid (Pe C (zCu us (zFS (l.take j))) u wr)∧Hid (Pk C.g W wr v u)) (fun i _=>L - (intOf i).toNat)
 case atStart=>exact⟨0,v,yAE _,rfl,q,Pk.refl _ _ _⟩
 case round=>
  obtain⟨j,u,hj,rfl,e,f⟩:=hrel
  by_cases Y:j < L
  · have c:j < l.length:=by rw[k.out];exact Y
    obtain⟨p,y,a6,a4⟩:=(HK.out.below (q.out.low f)) j c;have G:=HS.out l[j] (List.getElem_mem c);have z:=zA (M2.out.uptoS c);have H:=zA (zIk c);obtain⟨t,ht⟩:=jx (l[j]);rw[ht]at y G z H;have a0:=zA y;obtain⟨O,A⟩:=jx (zCu us (zFS (l.take j)));rw[A]at e z;have a1:=zA A;clear c y ht A;have C7:=zA (HN.out t p O u wr G a0 e z);go_wp2_with fail;refine C7.out.mono ?_;rintro e3 w3 ⟨rfl,v3,I,J⟩;have a2:=zA I;have a3:=zA (f.out.trans J);clear I J;go_wp2_with fail
    go_roundw
    case rel=>exact⟨j+1,v3,by omega,by go_num,by rw[H.out,zAC,a1.out];exact a2.out,a3⟩
    case measure=>simp[intOf];omega
  · obtain rfl:L=j:=by omega
    have V:=zA (show zFS (l.take L)=zFS l by rw[List.take_of_length_le (by rw[k.out];omega)]);have r:=zA e;have s:=zA f;clear e f;go_wp2_with fail;refine jr ?_;refine PutQ.back E ⟨rfl,u,?_,s⟩;have:=r.out;rwa[V.out]at this
theorem zaW {C:Cx} {m:Nat} {us:List UInt16} {v:Value} {w:World} (nb:ByteArray) (vs vm:Value) (nk nn:Int) (ng:Bool) {l:List Tr} (hN:zAl C m) (hs:∀t∈l,t.size≤m) (hL:l.length=L) (a9:L≤1000000) (hk:KidsS C w Ak l) (hp:Pe C us v w) (hm:MayPut us ([[123]]++(zFS l++[[125]]))):
 Calls prog 28 #[C,k0,.agg #[(4:Int),.string nb,vs,nk,nn,ng,vm,.slice Ak L ck]] w (PutQ C us v w ([[123]]++(zFS l++[[125]]))):=by
 obtain⟨W,J⟩:=jx (w.alloc (.cells #[(4:Int),.string nb,vs,nk,nn,ng,vm,.slice Ak L ck] 43));have r:Below w.heap.size w W:=jb J;have x0:W.cell? w.heap.size=some (.int .i64 4):=jc J;have x7:W.cell? ⟨w.heap.size,7,none⟩=some (.slice Ak L ck):=jc J;have s:=zA (hk.below (r.mono (Nat.le_of_lt hp.blt)));have HS:=zA hs;have HN:=zA hN;have z:=zA hL;have N:=zA (hp.below r);have O:=zA r;obtain⟨P,Q⟩:=hm.two (b:=[[123]]) (c:=zFS l++[[125]]) rfl;obtain⟨R,S⟩:=Q.app;have M1:=zA P;have M2:=zA R;have M3:=zA S;obtain⟨X,hX⟩:=jx w.heap.size;go_enter func28,ntmps28;go_upto_region 1 with(fail);clear hm hp r hN hs hk hL P Q R S;clear J;rw[hX]at x0 x7;clear hX;have C1:=zA (zAD N [[123]] 1 rfl M1);go_wp2_with fail;refine C1.out.mono ?_;rintro e1 w1 ⟨rfl,v1,T,U⟩;have A:=zA T;have B:=zA U;have s:=zA (s.out.below (N.out.low B));clear T U;go_wp2_with fail
 by_cases hl:l=[]
 · subst hl;obtain rfl:L=0:=by rw[←z.out];rfl
   go_loopw [53] (fun i wr=>i=.int .i64 0∧wr=w1) (fun _ _=>0)
   case atStart=>exact⟨rfl,rfl⟩
   case round=>
    obtain⟨rfl,rfl⟩:=hrel;have d:=zA A;have D:=zA (Pk.refl C.g wr v1);have HE:=zA (show zFS []=[]from rfl);have e:=zA M3;have C9:=zA (zAD d [[125]] 1 rfl e);clear d e;go_wp2_with fail;refine C9.out.mono ?_;rintro e9 w9 ⟨rfl,v9,f,k⟩;have E:=zA f;have F:=zA (B.out.trans (D.out.trans k));clear f k;go_wp2_with fail;refine jr ?_;refine PutQ.back O ⟨rfl,v9,?_,F⟩;have:=E.out;rw[show zCu (zCu us [[123]]) ([[125]]:Tks)=zCu (zCu (zCu us [[123]]) (zFS [])) [[125]]from rfl]at this;simp only[←zAC,List.append_assoc]at this;exact this
 obtain⟨b,o,rfl,V⟩:=s.out hl;have HK:=zA V;clear V hl s
 go_loopw [53] (fun i wr=>∃(j:Nat) (M:Value),j≤L∧i=.int .i64 j∧Hid (Pe C (zCu (zCu us [[123]]) (zFS (l.take j))) M wr)∧Hid (Pk C.g w1 wr v1 M)) (fun i _=>L - (intOf i).toNat)
 case atStart=>exact⟨0,v1,yAE _,rfl,A,Pk.refl _ _ _⟩
 case round=>
  obtain⟨j,M,hj,rfl,u,y⟩:=hrel
  by_cases a3:j < L
  · have q:j < l.length:=by rw[z.out];exact a3
    obtain⟨p,G,b0,a8⟩:=(HK.out.below (A.out.low y)) j q;have Y:=HS.out l[j] (List.getElem_mem q);have H:=zA (M2.out.uptoS q);have a0:=zA (zIk q);obtain⟨t,ht⟩:=jx (l[j]);rw[ht]at G Y H a0;have a4:=zA G;obtain⟨ur,I⟩:=jx (zCu (zCu us [[123]]) (zFS (l.take j)));rw[I]at u H;have a5:=zA I;clear q G ht I;have C7:=zA (HN.out t p ur M wr Y a4 u H);go_wp2_with fail;refine C7.out.mono ?_;rintro e3 w3 ⟨rfl,v3,a1,a2⟩;have a6:=zA a1;have a7:=zA (y.out.trans a2);clear a1 a2;go_wp2_with fail
    go_roundw
    case rel=>exact⟨j+1,v3,by omega,by go_num,by rw[a0.out,zAC,a5.out];exact a6.out,a7⟩
    case measure=>simp[intOf];omega
  · obtain rfl:L=j:=by omega
    have HE:=zA (show zFS (l.take L)=zFS l by rw[List.take_of_length_le (by rw[z.out];omega)]);have d:=zA u;have D:=zA y;clear u y;have e:=zA (show MayPut (zCu (zCu us [[123]]) (zFS (l.take L))) [[125]]from by rw[HE.out];exact M3.out);have C9:=zA (zAD d [[125]] 1 rfl e);clear d e;go_wp2_with fail;refine C9.out.mono ?_;rintro e9 w9 ⟨rfl,v9,f,k⟩;have E:=zA f;have F:=zA (B.out.trans (D.out.trans k));clear f k;go_wp2_with fail;refine jr ?_;refine PutQ.back O ⟨rfl,v9,?_,F⟩;have:=E.out;rw[HE.out]at this;simp only[←zAC,List.append_assoc]at this;exact this
theorem zY1 {C:Cx} {us:List UInt16} {v:Value} {w:World} (c:ByteArray) (vs d vk:Value) (nk nn:Int) (e:Bool) (b:Pe C us v w):
 Calls prog 47 #[C,.agg #[(11:Int),.string c,vs,nk,nn,e,d,vk]] w (PutQ C us v w []):=by
 have f:=zA b;clear b;go_enter func47,ntmps47;go_wp2_with fail;exact jr (PutQ.back (ja) (PutQ.nil (f.out.alloc _)))
theorem zY2 {C:Cx} {us:List UInt16} {v:Value} {w:World} (d:ByteArray) (vs e vk:Value) (nk nn:Int) (f:Bool) (j:Pe C us v w):
 Calls prog 28 #[C,k0,.agg #[(11:Int),.string d,vs,nk,nn,f,e,vk]] w (PutQ C us v w []):=by
 have m:=zA j;clear j;have o:=zA (fun(W:World) (hb:Below w.heap.size w W)=>zY1 d vs e vk nk nn f (m.out.below hb));go_enter func28,ntmps28;go_wp2_with fail;refine(o.out _ (ja)).mono ?_;rintro e1 w1 ⟨rfl,v1,b,c⟩;have k:=zA b;have l:=zA c;clear b c;go_wp2_with fail;exact jr (PutQ.back (ja) ⟨rfl,v1,k,l⟩)
theorem zaX {C:Cx} {m:Nat} {us:List UInt16} {v:Value} {w:World} (nm:List UInt8) (vs d:Value) (nk nn:Int) (e:Bool) (hN:zAl C m) (f:Pe C us v w) (j:MayPut us ([[59]])):
 Calls prog 28 #[C,k0,.agg #[(2:Int),nm,vs,nk,nn,e,d,.slice Ak 0 ck]] w (PutQ C us v w ([[59]])):=by
 obtain⟨W,X,p,q,r,ps,s,c⟩:=PF.new 2 (.string ⟨nm.toArray⟩) vs (.int .i64 nk) (.int .i64 nn) (.bool e) d (.slice Ak 0 ck) (b:=0) (o:=0) (l:=[]) (rs:=_++[]) hN (fun i hi=>absurd hi (Nat.not_lt_zero _)) f (by rw[List.append_nil];exact j)
 try simp only[List.append_assoc]at c
 go_enter func28,ntmps28;go_upto_region 1 with(fail);clear hN f j s p q;have:=c.out.x;go_wp2_with fail;refine(c.out.lit (a:=[[59]]) rfl).mono ?_;rintro e1 w1 ⟨rfl,v1,k⟩;have:=k.out.x;go_wp2_with fail;exact jr (k.out.fin r js)
theorem zaY {C:Cx} {m:Nat} {us:List UInt16} {v:Value} {w:World} (nm:List UInt8) (vs f:Value) (nk nn:Int) (j:Bool) (hN:zAl C m) (s0:a0.size≤m) (hk:KidsS C w Ak [a0]) (k:Pe C us v w) (e:MayPut us ((inP (prT a0))++([[59]]))):
 Calls prog 28 #[C,k0,.agg #[(3:Int),nm,vs,nk,nn,j,f,.slice Ak 1 ck]] w (PutQ C us v w ((inP (prT a0))++([[59]]))):=by
 obtain⟨b,o,rfl,d⟩:=hk js;obtain⟨W,X,r,s,t,ps,l,c⟩:=PF.new 3 (.string ⟨nm.toArray⟩) vs (.int .i64 nk) (.int .i64 nn) (.bool j) f (.slice (some ⟨b,o,none⟩) 1 ck) hN d k (by rw[←List.append_nil (_++_)]at e;exact e);obtain⟨p0,rfl⟩:=ps1 l;simp only[List.append_assoc]at c;go_enter func28,ntmps28;go_upto_region 1 with(fail);clear hN d hk k e l r s;have:=c.out.x;have:=c.out.c0;go_wp2_with fail;refine(c.out.pin 0 s0 rfl rfl).mono ?_;rintro e1 w1 ⟨rfl,v1,p⟩;have:=p.out.x;go_wp2_with fail;refine(p.out.lit (a:=[[59]]) rfl).mono ?_;rintro e2 w2 ⟨rfl,v2,q⟩;have:=q.out.x;go_wp2_with fail;exact jr (q.out.fin t js)
theorem zWe {C:Cx} {m:Nat} {us:List UInt16} {v:Value} {w:World} (nm:List UInt8) (vs d:Value) (nk nn:Int) (e:Bool) (hN:zAl C m) (f:Pe C us v w) (j:MayPut us ([nm])):
 Calls prog 28 #[C,k0,.agg #[(7:Int),nm,vs,nk,nn,e,d,.slice Ak 0 ck]] w (PutQ C us v w ([nm])):=by
 obtain⟨W,X,p,q,r,ps,s,c⟩:=PF.new 7 (.string ⟨nm.toArray⟩) vs (.int .i64 nk) (.int .i64 nn) (.bool e) d (.slice Ak 0 ck) (b:=0) (o:=0) (l:=[]) (rs:=_++[]) hN (fun i hi=>absurd hi (Nat.not_lt_zero _)) f (by rw[List.append_nil];exact j)
 try simp only[List.append_assoc]at c
 go_enter func28,ntmps28;go_upto_region 1 with(fail);clear hN f j s p q;have:=c.out.x;go_wp2_with fail;refine(c.out.lit (a:=[nm]) rfl).mono ?_;rintro e1 w1 ⟨rfl,v1,k⟩;have:=k.out.x;go_wp2_with fail;exact jr (k.out.fin r js)
theorem zTn {C:Cx} {m:Nat} {us:List UInt16} {v:Value} {w:World} (nm:List UInt8) (vs j:Value) (nk nn:Int) (k:Bool) (hN:zAl C m) (s0:a0.size≤m) (hk:KidsS C w Ak [a0]) (l:Pe C us v w) (d:MayPut us ([nm]++([[61]]++(inP (prT a0))))):
 Calls prog 28 #[C,k0,.agg #[(7:Int),nm,vs,nk,nn,k,j,.slice Ak 1 ck]] w (PutQ C us v w ([nm]++([[61]]++(inP (prT a0))))):=by
 obtain⟨b,o,rfl,c⟩:=hk js;obtain⟨W,X,s,t,u,ps,p,e⟩:=PF.new 7 (.string ⟨nm.toArray⟩) vs (.int .i64 nk) (.int .i64 nn) (.bool k) j (.slice (some ⟨b,o,none⟩) 1 ck) hN c l (by rw[←List.append_nil (_++_)]at d;exact d);obtain⟨p0,rfl⟩:=ps1 p;simp only[List.append_assoc]at e;go_enter func28,ntmps28;go_upto_region 1 with(fail);clear hN c hk l d p s t;have:=e.out.x;go_wp2_with fail;refine(e.out.lit (a:=[nm]) rfl).mono ?_;rintro e1 w1 ⟨rfl,v1,q⟩;have:=q.out.x;go_wp2_with fail;refine(q.out.lit (a:=[[61]]) rfl).mono ?_;rintro e2 w2 ⟨rfl,v2,f⟩;have:=f.out.x;have:=f.out.c0;go_wp2_with fail;refine(f.out.pin 0 s0 rfl rfl).mono ?_;rintro e3 w3 ⟨rfl,v3,r⟩;have:=r.out.x;go_wp2_with fail;exact jr (r.out.fin u js)
theorem zVM {C:Cx} {q:List UInt8} (S:(K=12∧q=[98,114,101,97,107])∨(K=13∧q=[99,111,110,116,105,110,117,101])) {m:Nat} {us:List UInt16} {v:Value} {w:World} (nm:List UInt8) (vs J:Value) (nk nn:Int) (L:Bool) (hN:zAl C m) (u:Pe C us v w) (M:MayPut us ([q]++((zAs nm)++([[59]])))):
 Calls prog 28 #[C,k0,.agg #[K,nm,vs,nk,nn,L,J,.slice Ak 0 ck]] w (PutQ C us v w ([q]++((zAs nm)++([[59]])))):=by
 obtain⟨W,r⟩:=jx (w.alloc (.cells #[K,nm,vs,nk,nn,L,J,.slice Ak 0 ck] 43));have s:Below w.heap.size w W:=jb r;have d:w.heap.size < W.heap.size:=by rw[←r];simp
 have f:w.heap.size≠C.g:=fun e=>by have:=u.pn.lt;omega
 have j:v.ownBlock≠some w.heap.size:=fun e=>by have:=(u.pn.own.lt _ e).2;omega
 have x0:W.cell? w.heap.size=some (.int .i64 K):=jc r;have x7:W.cell? ⟨w.heap.size,7,none⟩=some (.slice Ak 0 ck):=jc r;have x1:W.cell? ⟨w.heap.size,1,none⟩=some (.string ⟨nm.toArray⟩):=jc r;have N:=zA (u.below s);have O:=zA s;have HN:=zA hN;obtain⟨y,z⟩:=M.two (b:=[q]) (c:=(zAs nm)++([[59]])) rfl;have T:=zA y;obtain⟨A,B⟩:=z.two (b:=zAs nm) (c:=[[59]]) rfl;have U:=zA A;have V:=zA B;obtain⟨X,t⟩:=jx w.heap.size;have Y:=zA (zAD N [q] 1 rfl T);rcases S with⟨rfl,rfl⟩ | ⟨rfl,rfl⟩
 all_goals
  go_enter func28,ntmps28;go_upto_region 1 with(fail);clear M u s hN y z A B;clear r;rw[t]at x0;rw[t]at x7;rw[t]at x1;rw[t]at d f j;clear t;go_wp2_with fail;refine Y.out.mono ?_;rintro e1 w1 ⟨rfl,v1,D,E⟩;have P:=zA D;have k:=zA (E);have a0:=(k.out.cell (p:=X) d f j).trans x0;have a1:=(k.out.cell (p:=⟨X,7,none⟩) d f j).trans x7;have a2:=(k.out.cell (p:=⟨X,1,none⟩) d f j).trans x1;clear D E;have C2:=zA (zH4 P U);go_wp2_with fail;refine C2.out.mono ?_;rintro e2 w2 ⟨rfl,v2,F,G⟩;have Q:=zA F;have l:=zA (k.out.trans G);have a3:=(l.out.cell (p:=X) d f j).trans x0;have a4:=(l.out.cell (p:=⟨X,7,none⟩) d f j).trans x7;have a5:=(l.out.cell (p:=⟨X,1,none⟩) d f j).trans x1;clear F G;have C3:=zA (zAD Q [[59]] 1 rfl V);go_wp2_with fail;refine C3.out.mono ?_;rintro e3 w3 ⟨rfl,v3,H,I⟩;have R:=zA H;have o:=zA (l.out.trans I);have a6:=(o.out.cell (p:=X) d f j).trans x0;have a7:=(o.out.cell (p:=⟨X,7,none⟩) d f j).trans x7;have a8:=(o.out.cell (p:=⟨X,1,none⟩) d f j).trans x1;clear H I;go_wp2_with fail;refine jr ?_;refine PutQ.back O ⟨rfl,v3,?_,o⟩;have:=R.out;simp only[←zAC,List.append_assoc]at this;exact this
theorem zTo {C:Cx} {m:Nat} {us:List UInt16} {v:Value} {w:World} (nm:List UInt8) (vs d:Value) (nk nn:Int) (e:Bool) (hN:zAl C m) (f:Pe C us v w) (j:MayPut us ([[114,101,116,117,114,110]]++([[59]]))):
 Calls prog 28 #[C,k0,.agg #[(14:Int),nm,vs,nk,nn,e,d,.slice Ak 0 ck]] w (PutQ C us v w ([[114,101,116,117,114,110]]++([[59]]))):=by
 obtain⟨W,X,q,r,s,ps,t,c⟩:=PF.new 14 (.string ⟨nm.toArray⟩) vs (.int .i64 nk) (.int .i64 nn) (.bool e) d (.slice Ak 0 ck) (b:=0) (o:=0) (l:=[]) (rs:=_++[]) hN (fun i hi=>absurd hi (Nat.not_lt_zero _)) f (by rw[List.append_nil];exact j)
 try simp only[List.append_assoc]at c
 go_enter func28,ntmps28;go_upto_region 1 with(fail);clear hN f j t q r;have:=c.out.x;go_wp2_with fail;refine(c.out.lit (a:=[[114,101,116,117,114,110]]) rfl).mono ?_;rintro e1 w1 ⟨rfl,v1,k⟩;have:=k.out.x;go_wp2_with fail;refine(k.out.lit (a:=[[59]]) rfl).mono ?_;rintro e2 w2 ⟨rfl,v2,p⟩;have:=p.out.x;go_wp2_with fail;exact jr (p.out.fin s js)
theorem zQi {C:Cx} {m:Nat} {us:List UInt16} {v:Value} {w:World} (nm:List UInt8) (vs j:Value) (nk nn:Int) (k:Bool) (hN:zAl C m) (s0:a0.size≤m) (hk:KidsS C w Ak [a0]) (l:Pe C us v w) (d:MayPut us ([[114,101,116,117,114,110]]++((inP (prT a0))++([[59]])))):
 Calls prog 28 #[C,k0,.agg #[(14:Int),nm,vs,nk,nn,k,j,.slice Ak 1 ck]] w (PutQ C us v w ([[114,101,116,117,114,110]]++((inP (prT a0))++([[59]])))):=by
 obtain⟨b,o,rfl,c⟩:=hk js;obtain⟨W,X,s,t,u,ps,p,e⟩:=PF.new 14 (.string ⟨nm.toArray⟩) vs (.int .i64 nk) (.int .i64 nn) (.bool k) j (.slice (some ⟨b,o,none⟩) 1 ck) hN c l (by rw[←List.append_nil (_++_)]at d;exact d);obtain⟨p0,rfl⟩:=ps1 p;simp only[List.append_assoc]at e;go_enter func28,ntmps28;go_upto_region 1 with(fail);clear hN c hk l d p s t;have:=e.out.x;go_wp2_with fail;refine(e.out.lit (a:=[[114,101,116,117,114,110]]) rfl).mono ?_;rintro e1 w1 ⟨rfl,v1,f⟩;have:=f.out.x;have:=f.out.c0;go_wp2_with fail;refine(f.out.pin 0 s0 rfl rfl).mono ?_;rintro e2 w2 ⟨rfl,v2,q⟩;have:=q.out.x;go_wp2_with fail;refine(q.out.lit (a:=[[59]]) rfl).mono ?_;rintro e3 w3 ⟨rfl,v3,r⟩;have:=r.out.x;go_wp2_with fail;exact jr (r.out.fin u js)
theorem zY3 {C:Cx} {m:Nat} {us:List UInt16} {v:Value} {w:World} (nm:List UInt8) (vs j:Value) (nk nn:Int) (k:Bool) (hN:zAl C m) (s0:a0.size≤m) (hk:KidsS C w Ak [a0]) (l:Pe C us v w) (d:MayPut us ([[116,104,114,111,119]]++((inP (prT a0))++([[59]])))):
 Calls prog 28 #[C,k0,.agg #[(15:Int),nm,vs,nk,nn,k,j,.slice Ak 1 ck]] w (PutQ C us v w ([[116,104,114,111,119]]++((inP (prT a0))++([[59]])))):=by
 obtain⟨b,o,rfl,c⟩:=hk js;obtain⟨W,X,s,t,u,ps,p,e⟩:=PF.new 15 (.string ⟨nm.toArray⟩) vs (.int .i64 nk) (.int .i64 nn) (.bool k) j (.slice (some ⟨b,o,none⟩) 1 ck) hN c l (by rw[←List.append_nil (_++_)]at d;exact d);obtain⟨p0,rfl⟩:=ps1 p;simp only[List.append_assoc]at e;go_enter func28,ntmps28;go_upto_region 1 with(fail);clear hN c hk l d p s t;have:=e.out.x;go_wp2_with fail;refine(e.out.lit (a:=[[116,104,114,111,119]]) rfl).mono ?_;rintro e1 w1 ⟨rfl,v1,f⟩;have:=f.out.x;have:=f.out.c0;go_wp2_with fail;refine(f.out.pin 0 s0 rfl rfl).mono ?_;rintro e2 w2 ⟨rfl,v2,q⟩;have:=q.out.x;go_wp2_with fail;refine(q.out.lit (a:=[[59]]) rfl).mono ?_;rintro e3 w3 ⟨rfl,v3,r⟩;have:=r.out.x;go_wp2_with fail;exact jr (r.out.fin u js)
theorem zY4 {C:Cx} {m:Nat} {us:List UInt16} {v:Value} {w:World} (nm:List UInt8) (vs j:Value) (nk nn:Int) (k:Bool) (hN:zAl C m) (s0:a0.size≤m) (hk:KidsS C w Ak [a0]) (l:Pe C us v w) (d:MayPut us ([nm,[58]]++(prT a0))):
 Calls prog 28 #[C,k0,.agg #[(18:Int),nm,vs,nk,nn,k,j,.slice Ak 1 ck]] w (PutQ C us v w ([nm,[58]]++(prT a0))):=by
 obtain⟨b,o,rfl,c⟩:=hk js;obtain⟨W,X,r,s,t,ps,p,e⟩:=PF.new 18 (.string ⟨nm.toArray⟩) vs (.int .i64 nk) (.int .i64 nn) (.bool k) j (.slice (some ⟨b,o,none⟩) 1 ck) hN c l (by rw[←List.append_nil (_++_)]at d;exact d);obtain⟨p0,rfl⟩:=ps1 p;simp only[List.append_assoc]at e;go_enter func28,ntmps28;go_upto_region 1 with(fail);clear hN c hk l d p r s;have:=e.out.x;go_wp2_with fail;refine(e.out.lit (a:=[nm,[58]]) rfl).mono ?_;rintro e1 w1 ⟨rfl,v1,f⟩;have:=f.out.x;have:=f.out.c0;go_wp2_with fail;refine(f.out.node 0 s0 rfl rfl).mono ?_;rintro e2 w2 ⟨rfl,v2,q⟩;have:=q.out.x;go_wp2_with fail;exact jr (q.out.fin t js)
theorem zY5 {C:Cx} {m:Nat} {us:List UInt16} {v:Value} {w:World} (nm:List UInt8) (vs d:Value) (nk nn:Int) (e:Bool) (hN:zAl C m) (f:Pe C us v w) (j:MayPut us ([nm])):
 Calls prog 28 #[C,k0,.agg #[(20:Int),nm,vs,nk,nn,e,d,.slice Ak 0 ck]] w (PutQ C us v w ([nm])):=by
 obtain⟨W,X,p,q,r,ps,s,c⟩:=PF.new 20 (.string ⟨nm.toArray⟩) vs (.int .i64 nk) (.int .i64 nn) (.bool e) d (.slice Ak 0 ck) (b:=0) (o:=0) (l:=[]) (rs:=_++[]) hN (fun i hi=>absurd hi (Nat.not_lt_zero _)) f (by rw[List.append_nil];exact j)
 try simp only[List.append_assoc]at c
 go_enter func28,ntmps28;go_upto_region 1 with(fail);clear hN f j s p q;have:=c.out.x;go_wp2_with fail;refine(c.out.lit (a:=[nm]) rfl).mono ?_;rintro e1 w1 ⟨rfl,v1,k⟩;have:=k.out.x;go_wp2_with fail;exact jr (k.out.fin r js)
theorem zTp {C:Cx} {m:Nat} {us:List UInt16} {v:Value} {w:World} (nm:List UInt8) (vs l:Value) (nk nn:Int) (p:Bool) (hN:zAl C m) (s0:a0.size≤m) (s1:a1.size≤m) (hk:KidsS C w Ak [a0,a1]) (q:Pe C us v w) (e:MayPut us ([[105,102]]++((inP (prT a0))++(prT a1)))):
 Calls prog 47 #[C,.agg #[(8:Int),nm,vs,nk,nn,p,l,.slice Ak 2 ck]] w (PutQ C us v w ([[105,102]]++((inP (prT a0))++(prT a1)))):=by
 obtain⟨b,o,rfl,d⟩:=hk js;obtain⟨W,X,t,u,y,ps,r,f⟩:=PF.new 8 (.string ⟨nm.toArray⟩) vs (.int .i64 nk) (.int .i64 nn) (.bool p) l (.slice (some ⟨b,o,none⟩) 2 ck) hN d q (by rw[←List.append_nil (_++_)]at e;exact e);obtain⟨p0,p1,rfl⟩:=ps2 r;simp only[List.append_assoc]at f;go_enter func47,ntmps47;go_upto_region 1 with(fail);clear hN d hk q e r t u;have:=f.out.x;go_wp2_with fail;refine(f.out.lit (a:=[[105,102]]) rfl).mono ?_;rintro e1 w1 ⟨rfl,v1,j⟩;have:=j.out.x;have:=j.out.c0;go_wp2_with fail;refine(j.out.pin 0 s0 rfl rfl).mono ?_;rintro e2 w2 ⟨rfl,v2,k⟩;have:=k.out.x;have:=k.out.c 1;go_wp2_with fail;refine(k.out.node 1 s1 rfl rfl).mono ?_;rintro e3 w3 ⟨rfl,v3,s⟩;have:=s.out.x;go_wp2_with fail;exact jr (s.out.fin y js)
theorem zNc {C:Cx} {m:Nat} {us:List UInt16} {v:Value} {w:World} (nm:List UInt8) (vs p:Value) (nk nn:Int) (q:Bool) (hN:zAl C m) (s0:a0.size≤m) (s1:a1.size≤m) (y:a2.size≤m) (hk:KidsS C w Ak [a0,a1,a2]) (r:Pe C us v w) (e:MayPut us ([[105,102]]++((inP (prT a0))++((prT a1)++([[101,108,115,101]]++(prT a2)))))):
 Calls prog 47 #[C,.agg #[(8:Int),nm,vs,nk,nn,q,p,.slice Ak 3 ck]] w (PutQ C us v w ([[105,102]]++((inP (prT a0))++((prT a1)++([[101,108,115,101]]++(prT a2)))))):=by
 obtain⟨b,o,rfl,d⟩:=hk js;obtain⟨W,X,z,A,B,ps,s,f⟩:=PF.new 8 (.string ⟨nm.toArray⟩) vs (.int .i64 nk) (.int .i64 nn) (.bool q) p (.slice (some ⟨b,o,none⟩) 3 ck) hN d r (by rw[←List.append_nil (_++_)]at e;exact e);obtain⟨p0,p1,p2,rfl⟩:=ps3 s;simp only[List.append_assoc]at f;go_enter func47,ntmps47;go_upto_region 1 with(fail);clear hN d hk r e s z A;have:=f.out.x;go_wp2_with fail;refine(f.out.lit (a:=[[105,102]]) rfl).mono ?_;rintro e1 w1 ⟨rfl,v1,j⟩;have:=j.out.x;have:=j.out.c0;go_wp2_with fail;refine(j.out.pin 0 s0 rfl rfl).mono ?_;rintro e2 w2 ⟨rfl,v2,k⟩;have:=k.out.x;have:=k.out.c 1;go_wp2_with fail;refine(k.out.node 1 s1 rfl rfl).mono ?_;rintro e3 w3 ⟨rfl,v3,t⟩;have:=t.out.x;go_wp2_with fail;refine(t.out.lit (a:=[[101,108,115,101]]) rfl).mono ?_;rintro e4 D ⟨rfl,v4,l⟩;have:=l.out.x;have:=l.out.c 2;go_wp2_with fail;refine(l.out.node 2 y rfl rfl).mono ?_;rintro e5 E ⟨rfl,v5,u⟩;have:=u.out.x;go_wp2_with fail;exact jr (u.out.fin B js)
theorem zaZ {C:Cx} {m:Nat} {us:List UInt16} {v:Value} {w:World} (nm:List UInt8) (vs l:Value) (nk nn:Int) (p:Bool) (hN:zAl C m) (s0:a0.size≤m) (s1:a1.size≤m) (hk:KidsS C w Ak [a0,a1]) (q:Pe C us v w) (e:MayPut us ([[119,104,105,108,101]]++((inP (prT a0))++(prT a1)))):
 Calls prog 47 #[C,.agg #[(9:Int),nm,vs,nk,nn,p,l,.slice Ak 2 ck]] w (PutQ C us v w ([[119,104,105,108,101]]++((inP (prT a0))++(prT a1)))):=by
 obtain⟨b,o,rfl,d⟩:=hk js;obtain⟨W,X,t,u,y,ps,r,f⟩:=PF.new 9 (.string ⟨nm.toArray⟩) vs (.int .i64 nk) (.int .i64 nn) (.bool p) l (.slice (some ⟨b,o,none⟩) 2 ck) hN d q (by rw[←List.append_nil (_++_)]at e;exact e);obtain⟨p0,p1,rfl⟩:=ps2 r;simp only[List.append_assoc]at f;go_enter func47,ntmps47;go_upto_region 1 with(fail);clear hN d hk q e r t u;have:=f.out.x;go_wp2_with fail;refine(f.out.lit (a:=[[119,104,105,108,101]]) rfl).mono ?_;rintro e1 w1 ⟨rfl,v1,j⟩;have:=j.out.x;have:=j.out.c0;go_wp2_with fail;refine(j.out.pin 0 s0 rfl rfl).mono ?_;rintro e2 w2 ⟨rfl,v2,k⟩;have:=k.out.x;have:=k.out.c 1;go_wp2_with fail;refine(k.out.node 1 s1 rfl rfl).mono ?_;rintro e3 w3 ⟨rfl,v3,s⟩;have:=s.out.x;go_wp2_with fail;exact jr (s.out.fin y js)
theorem zY6 {C:Cx} {m:Nat} {us:List UInt16} {v:Value} {w:World} (nm:List UInt8) (vs vm:Value) (nk nn:Int) (ng:Bool) {a3:Tr} (hN:zAl C m) (s0:a0.size≤m) (s1:a1.size≤m) (s2:a2.size≤m) (s3:a3.size≤m) (hk:KidsS C w Ak [a0,a1,a2,a3]) (u:Pe C us v w) (F:m≤1000000) (hm:MayPut us ([[102,111,114],[40]]++((zn (a0.nd.kind,prT a0))++([[59]]++((zn (a1.nd.kind,prT a1))++([[59]]++((zn (a2.nd.kind,prT a2))++([[41]]++(prT a3))))))))):
 Calls prog 47 #[C,.agg #[(10:Int),nm,vs,nk,nn,ng,vm,.slice Ak 4 ck]] w (PutQ C us v w ([[102,111,114],[40]]++((zn (a0.nd.kind,prT a0))++([[59]]++((zn (a1.nd.kind,prT a1))++([[59]]++((zn (a2.nd.kind,prT a2))++([[41]]++(prT a3))))))))):=by
 obtain⟨b,o,rfl,y⟩:=hk js;obtain⟨W,G⟩:=jx (w.alloc (.cells #[(10:Int),nm,vs,nk,nn,ng,vm,.slice (some ⟨b,o,none⟩) 4 ck] 43));have l:Below w.heap.size w W:=jb G;have d:w.heap.size < W.heap.size:=by rw[←G];simp
 have f:w.heap.size≠C.g:=fun e=>by have:=u.pn.lt;omega
 have j:v.ownBlock≠some w.heap.size:=fun e=>by have:=(u.pn.own.lt _ e).2;omega
 have x0:W.cell? w.heap.size=some (.int .i64 10):=jc G;have x7:W.cell? ⟨w.heap.size,7,none⟩=some (.slice (some ⟨b,o,none⟩) 4 ck):=jc G;obtain⟨p0,M,d5,N⟩:=(y.below (l.mono (Nat.le_of_lt u.blt))) 0 js;have c0:W.cell? ⟨b,o,none⟩=some (.int .i64 (p0:Int)):=N;have d6:Hid (At C.ts p0 a0):=M;obtain⟨p1,O,H,P⟩:=(y.below (l.mono (Nat.le_of_lt u.blt))) 1 js;have c1:W.cell? ⟨b,o+1,none⟩=some (.int .i64 (p1:Int)):=P;have d7:Hid (At C.ts p1 a1):=O;obtain⟨p2,Q,z,R⟩:=(y.below (l.mono (Nat.le_of_lt u.blt))) 2 js;have c2:W.cell? ⟨b,o+2,none⟩=some (.int .i64 (p2:Int)):=R;have d8:Hid (At C.ts p2 a2):=Q;obtain⟨p3,S,q,T⟩:=(y.below (l.mono (Nat.le_of_lt u.blt))) 3 js;have c3:W.cell? ⟨b,o+3,none⟩=some (.int .i64 (p3:Int)):=T;have d9:Hid (At C.ts p3 a3):=S;have k:=zA (u.below l);have e0:=zA l;have J:=zA hN;obtain⟨U,V⟩:=hm.two (b:=[[102,111,114],[40]]) (c:=(zn (a0.nd.kind,prT a0))++([[59]]++((zn (a1.nd.kind,prT a1))++([[59]]++((zn (a2.nd.kind,prT a2))++([[41]]++(prT a3))))))) rfl;have M1:=zA U;obtain⟨Y,a4⟩:=V.two (b:=zn (a0.nd.kind,prT a0)) (c:=[[59]]++((zn (a1.nd.kind,prT a1))++([[59]]++((zn (a2.nd.kind,prT a2))++([[41]]++(prT a3)))))) rfl;have M2:=zA Y;obtain⟨a5,a6⟩:=a4.two (b:=[[59]]) (c:=(zn (a1.nd.kind,prT a1))++([[59]]++((zn (a2.nd.kind,prT a2))++([[41]]++(prT a3))))) rfl;have M3:=zA a5;obtain⟨a7,a8⟩:=a6.two (b:=zn (a1.nd.kind,prT a1)) (c:=[[59]]++((zn (a2.nd.kind,prT a2))++([[41]]++(prT a3)))) rfl;have M4:=zA a7;obtain⟨a9,b0⟩:=a8.two (b:=[[59]]) (c:=(zn (a2.nd.kind,prT a2))++([[41]]++(prT a3))) rfl;have M5:=zA a9;obtain⟨b1,b2⟩:=b0.two (b:=zn (a2.nd.kind,prT a2)) (c:=[[41]]++(prT a3)) rfl;have M6:=zA b1;obtain⟨b3,b4⟩:=b2.two (b:=[[41]]) (c:=prT a3) rfl;have M7:=zA b3;have M8:=zA b4;obtain⟨X,L⟩:=jx w.heap.size;go_enter func47,ntmps47;go_upto_region 1 with(fail);clear hm u l hN y U V Y a4 a5 a6 a7 a8 a9 b0 b1 b2 b3 b4 M N O P Q R S T;clear G;rw[L]at x0;rw[L]at x7;rw[L]at d f j;clear L;have C1:=zA (zAD k [[102,111,114],[40]] 2 rfl M1);go_wp2_with fail;refine C1.out.mono ?_;rintro e1 w1 ⟨rfl,v1,b5,b6⟩;have e9:=zA b5;have r:=zA (b6);have f7:=((k.out.low r).cell (p:=⟨b,o,none⟩) d5).trans c0;have f8:=((k.out.low r).cell (p:=⟨b,o+1,none⟩) H).trans c1;have f9:=((k.out.low r).cell (p:=⟨b,o+2,none⟩) z).trans c2;have g0:=((k.out.low r).cell (p:=⟨b,o+3,none⟩) q).trans c3;have g1:=(r.out.cell (p:=X) d f j).trans x0;have g2:=(r.out.cell (p:=⟨X,7,none⟩) d f j).trans x7;clear b5 b6;have C2:=zA (zEw J s0 F d6 e9 M2);go_wp2_with fail;refine C2.out.mono ?_;rintro e2 w2 ⟨rfl,v2,b7,b8⟩;have f0:=zA b7;have s:=zA (r.out.trans b8);have g3:=((k.out.low s).cell (p:=⟨b,o+1,none⟩) H).trans c1;have g4:=((k.out.low s).cell (p:=⟨b,o+2,none⟩) z).trans c2;have g5:=((k.out.low s).cell (p:=⟨b,o+3,none⟩) q).trans c3;have g6:=(s.out.cell (p:=X) d f j).trans x0;have g7:=(s.out.cell (p:=⟨X,7,none⟩) d f j).trans x7;clear b7 b8;have C3:=zA (zAD f0 [[59]] 1 rfl M3);go_wp2_with fail;refine C3.out.mono ?_;rintro e3 w3 ⟨rfl,v3,b9,c4⟩;have f1:=zA b9;have t:=zA (s.out.trans c4);have g8:=((k.out.low t).cell (p:=⟨b,o+1,none⟩) H).trans c1;have g9:=((k.out.low t).cell (p:=⟨b,o+2,none⟩) z).trans c2;have h0:=((k.out.low t).cell (p:=⟨b,o+3,none⟩) q).trans c3;have h1:=(t.out.cell (p:=X) d f j).trans x0;have h2:=(t.out.cell (p:=⟨X,7,none⟩) d f j).trans x7;clear b9 c4;have C4:=zA (zEw J s1 F d7 f1 M4);go_wp2_with fail;refine C4.out.mono ?_;rintro e4 w4 ⟨rfl,v4,c5,c6⟩;have f2:=zA c5;have A:=zA (t.out.trans c6);have h3:=((k.out.low A).cell (p:=⟨b,o+2,none⟩) z).trans c2;have h4:=((k.out.low A).cell (p:=⟨b,o+3,none⟩) q).trans c3;have h5:=(A.out.cell (p:=X) d f j).trans x0;have h6:=(A.out.cell (p:=⟨X,7,none⟩) d f j).trans x7;clear c5 c6;have C5:=zA (zAD f2 [[59]] 1 rfl M5);go_wp2_with fail;refine C5.out.mono ?_;rintro e5 w5 ⟨rfl,v5,c7,c8⟩;have f3:=zA c7;have B:=zA (A.out.trans c8);have h7:=((k.out.low B).cell (p:=⟨b,o+2,none⟩) z).trans c2;have h8:=((k.out.low B).cell (p:=⟨b,o+3,none⟩) q).trans c3;have h9:=(B.out.cell (p:=X) d f j).trans x0;have j0:=(B.out.cell (p:=⟨X,7,none⟩) d f j).trans x7;clear c7 c8;have C6:=zA (zEw J s2 F d8 f3 M6);go_wp2_with fail;refine C6.out.mono ?_;rintro e6 w6 ⟨rfl,v6,c9,d0⟩;have f4:=zA c9;have D:=zA (B.out.trans d0);have j1:=((k.out.low D).cell (p:=⟨b,o+3,none⟩) q).trans c3;have j2:=(D.out.cell (p:=X) d f j).trans x0;have j3:=(D.out.cell (p:=⟨X,7,none⟩) d f j).trans x7;clear c9 d0;have C7:=zA (zAD f4 [[41]] 1 rfl M7);go_wp2_with fail;refine C7.out.mono ?_;rintro e7 w7 ⟨rfl,v7,d1,d2⟩;have f5:=zA d1;have E:=zA (D.out.trans d2);have j4:=((k.out.low E).cell (p:=⟨b,o+3,none⟩) q).trans c3;have j5:=(E.out.cell (p:=X) d f j).trans x0;have j6:=(E.out.cell (p:=⟨X,7,none⟩) d f j).trans x7;clear d1 d2;have C8:=zA (J.out a3 p3 _ v7 w7 s3 d9 f5 M8);go_wp2_with fail;refine C8.out.mono ?_;rintro e8 w8 ⟨rfl,v8,d3,d4⟩;have f6:=zA d3;have I:=zA (E.out.trans d4);have j7:=(I.out.cell (p:=X) d f j).trans x0;have j8:=(I.out.cell (p:=⟨X,7,none⟩) d f j).trans x7;clear d3 d4;go_wp2_with fail;refine jr ?_;refine PutQ.back e0 ⟨rfl,v8,?_,I⟩;have:=f6.out;simp only[←zAC,List.append_assoc]at this;exact this
theorem zQj {C:Cx} {m:Nat} {us:List UInt16} {v:Value} {w:World} (nm:List UInt8) (vs vm:Value) (nk nn:Int) (ng:Bool) (hN:zAl C m) (s0:a0.size≤m) (s1:a1.size≤m) (s2:a2.size≤m) (hk:KidsS C w Ak [a0,a1,a2]) (s:Pe C us v w) (hK:a2.nd.kind=4) (hm:MayPut us ([[116,114,121]]++((prT a0)++((prT a1)++([[102,105,110,97,108,108,121]]++(prT a2)))))):
 Calls prog 47 #[C,.agg #[(16:Int),nm,vs,nk,nn,ng,vm,.slice Ak 3 ck]] w (PutQ C us v w ([[116,114,121]]++((prT a0)++((prT a1)++([[102,105,110,97,108,108,121]]++(prT a2)))))):=by
 obtain⟨b,o,rfl,t⟩:=hk js;obtain⟨W,A⟩:=jx (w.alloc (.cells #[(16:Int),nm,vs,nk,nn,ng,vm,.slice (some ⟨b,o,none⟩) 3 ck] 43));have l:Below w.heap.size w W:=jb A;have d:w.heap.size < W.heap.size:=by rw[←A];simp
 have f:w.heap.size≠C.g:=fun e=>by have:=s.pn.lt;omega
 have j:v.ownBlock≠some w.heap.size:=fun e=>by have:=(s.pn.own.lt _ e).2;omega
 have x0:W.cell? w.heap.size=some (.int .i64 16):=jc A;have x7:W.cell? ⟨w.heap.size,7,none⟩=some (.slice (some ⟨b,o,none⟩) 3 ck):=jc A;obtain⟨p0,E,b2,F⟩:=(t.below (l.mono (Nat.le_of_lt s.blt))) 0 js;have c0:W.cell? ⟨b,o,none⟩=some (.int .i64 (p0:Int)):=F;have b3:Hid (At C.ts p0 a0):=E;obtain⟨p1,G,H,I⟩:=(t.below (l.mono (Nat.le_of_lt s.blt))) 1 js;have c1:W.cell? ⟨b,o+1,none⟩=some (.int .i64 (p1:Int)):=I;have b4:Hid (At C.ts p1 a1):=G;obtain⟨p2,J,u,L⟩:=(t.below (l.mono (Nat.le_of_lt s.blt))) 2 js;have c2:W.cell? ⟨b,o+2,none⟩=some (.int .i64 (p2:Int)):=L;have M:Hid (At C.ts p2 a2):=J;have k:=zA (s.below l);have b5:=zA l;have HN:=zA hN;obtain⟨N,O⟩:=hm.two (b:=[[116,114,121]]) (c:=(prT a0)++((prT a1)++([[102,105,110,97,108,108,121]]++(prT a2)))) rfl;have M1:=zA N;obtain⟨P,Q⟩:=O.two (b:=prT a0) (c:=(prT a1)++([[102,105,110,97,108,108,121]]++(prT a2))) rfl;have M2:=zA P;obtain⟨R,S⟩:=Q.two (b:=prT a1) (c:=[[102,105,110,97,108,108,121]]++(prT a2)) rfl;have M3:=zA R;obtain⟨T,U⟩:=S.two (b:=[[102,105,110,97,108,108,121]]) (c:=prT a2) rfl;have M4:=zA T;have M5:=zA U;have b6:=zA hK;clear hK;obtain⟨X,D⟩:=jx w.heap.size;go_enter func47,ntmps47;go_upto_region 1 with(fail);clear hm s l hN t N O P Q R S T U E F G I J L;clear A;rw[D]at x0;rw[D]at x7;rw[D]at d f j;clear D;have C1:=zA (zAD k [[116,114,121]] 1 rfl M1);go_wp2_with fail;refine C1.out.mono ?_;rintro e1 w1 ⟨rfl,v1,V,Y⟩;have b7:=zA V;have q:=zA (Y);have c5:=((k.out.low q).cell (p:=⟨b,o,none⟩) b2).trans c0;have c6:=((k.out.low q).cell (p:=⟨b,o+1,none⟩) H).trans c1;have c7:=((k.out.low q).cell (p:=⟨b,o+2,none⟩) u).trans c2;have c8:=(q.out.cell (p:=X) d f j).trans x0;have c9:=(q.out.cell (p:=⟨X,7,none⟩) d f j).trans x7;clear V Y;have C2:=zA (HN.out a0 p0 _ v1 w1 s0 b3 b7 M2);go_wp2_with fail;refine C2.out.mono ?_;rintro e2 w2 ⟨rfl,v2,a3,a4⟩;have b8:=zA a3;have r:=zA (q.out.trans a4);have d0:=((k.out.low r).cell (p:=⟨b,o+1,none⟩) H).trans c1;have d1:=((k.out.low r).cell (p:=⟨b,o+2,none⟩) u).trans c2;have d2:=(r.out.cell (p:=X) d f j).trans x0;have d3:=(r.out.cell (p:=⟨X,7,none⟩) d f j).trans x7;clear a3 a4;have C3:=zA (HN.out a1 p1 _ v2 w2 s1 b4 b8 M3);go_wp2_with fail;refine C3.out.mono ?_;rintro e3 w3 ⟨rfl,v3,a5,a6⟩;have a7:=zA a5;have y:=zA (r.out.trans a6);have d4:=((k.out.low y).cell (p:=⟨b,o+2,none⟩) u).trans c2;have d5:=(y.out.cell (p:=X) d f j).trans x0;have d6:=(y.out.cell (p:=⟨X,7,none⟩) d f j).trans x7;clear a5 a6;have b9:=zA (show Calls prog 84 #[C,p2] w3 fun e w'=>e=.returned (4:Int)∧w3=w' from by have:=zDK a7 M.out.get;rwa[zBa,b6.out]at this);go_wp2_with fail;refine b9.out.mono ?_;rintro ek wk ⟨rfl,rfl⟩;have C4:=zA (zAD a7 [[102,105,110,97,108,108,121]] 1 rfl M4);go_wp2_with fail;refine C4.out.mono ?_;rintro e4 w4 ⟨rfl,v4,a8,a9⟩;have c3:=zA a8;have z:=zA (y.out.trans a9);have d7:=((k.out.low z).cell (p:=⟨b,o+2,none⟩) u).trans c2;have d8:=(z.out.cell (p:=X) d f j).trans x0;have d9:=(z.out.cell (p:=⟨X,7,none⟩) d f j).trans x7;clear a8 a9;have C5:=zA (HN.out a2 p2 _ v4 w4 s2 M c3 M5);go_wp2_with fail;refine C5.out.mono ?_;rintro e5 w5 ⟨rfl,v5,b0,b1⟩;have c4:=zA b0;have B:=zA (z.out.trans b1);have e0:=(B.out.cell (p:=X) d f j).trans x0;have e6:=(B.out.cell (p:=⟨X,7,none⟩) d f j).trans x7;clear b0 b1;go_wp2_with fail;refine jr ?_;refine PutQ.back b5 ⟨rfl,v5,?_,B⟩;have:=c4.out;simp only[←zAC,List.append_assoc]at this;exact this
theorem zTq {C:Cx} {m:Nat} {us:List UInt16} {v:Value} {w:World} (nm:List UInt8) (vs vm:Value) (nk nn:Int) (ng:Bool) (hN:zAl C m) (s0:a0.size≤m) (s1:a1.size≤m) (_b:a2.size≤m) (hk:KidsS C w Ak [a0,a1,a2]) (s:Pe C us v w) {A:Int} (hK:a2.nd.kind=A) (D:A≠4) (hm:MayPut us ([[116,114,121]]++((prT a0)++(prT a1)))):
 Calls prog 47 #[C,.agg #[(16:Int),nm,vs,nk,nn,ng,vm,.slice Ak 3 ck]] w (PutQ C us v w ([[116,114,121]]++((prT a0)++(prT a1)))):=by
 obtain⟨b,o,rfl,t⟩:=hk js;obtain⟨W,y⟩:=jx (w.alloc (.cells #[(16:Int),nm,vs,nk,nn,ng,vm,.slice (some ⟨b,o,none⟩) 3 ck] 43));have l:Below w.heap.size w W:=jb y;have d:w.heap.size < W.heap.size:=by rw[←y];simp
 have f:w.heap.size≠C.g:=fun e=>by have:=s.pn.lt;omega
 have j:v.ownBlock≠some w.heap.size:=fun e=>by have:=(s.pn.own.lt _ e).2;omega
 have x0:W.cell? w.heap.size=some (.int .i64 16):=jc y;have x7:W.cell? ⟨w.heap.size,7,none⟩=some (.slice (some ⟨b,o,none⟩) 3 ck):=jc y;obtain⟨p0,E,a3,F⟩:=(t.below (l.mono (Nat.le_of_lt s.blt))) 0 js;have c0:W.cell? ⟨b,o,none⟩=some (.int .i64 (p0:Int)):=F;have a4:Hid (At C.ts p0 a0):=E;obtain⟨p1,G,H,I⟩:=(t.below (l.mono (Nat.le_of_lt s.blt))) 1 js;have c1:W.cell? ⟨b,o+1,none⟩=some (.int .i64 (p1:Int)):=I;have a5:Hid (At C.ts p1 a1):=G;obtain⟨p2,J,z,L⟩:=(t.below (l.mono (Nat.le_of_lt s.blt))) 2 js;have c2:W.cell? ⟨b,o+2,none⟩=some (.int .i64 (p2:Int)):=L;have a6:Hid (At C.ts p2 a2):=J;have k:=zA (s.below l);have a7:=zA l;have HN:=zA hN;obtain⟨M,N⟩:=hm.two (b:=[[116,114,121]]) (c:=(prT a0)++(prT a1)) rfl;have M1:=zA M;obtain⟨O,P⟩:=N.two (b:=prT a0) (c:=prT a1) rfl;have M2:=zA O;have M3:=zA P;have a8:=zA hK;have e4:(A==4)=false:=yA.2 D;clear hK D;obtain⟨X,B⟩:=jx w.heap.size;go_enter func47,ntmps47;go_upto_region 1 with(fail);clear hm s l hN t M N O P E F G I J L;clear y;rw[B]at x0;rw[B]at x7;rw[B]at d f j;clear B;have C1:=zA (zAD k [[116,114,121]] 1 rfl M1);go_wp2_with fail;refine C1.out.mono ?_;rintro e1 w1 ⟨rfl,v1,Q,R⟩;have a9:=zA Q;have q:=zA (R);have b2:=((k.out.low q).cell (p:=⟨b,o,none⟩) a3).trans c0;have b3:=((k.out.low q).cell (p:=⟨b,o+1,none⟩) H).trans c1;have b4:=((k.out.low q).cell (p:=⟨b,o+2,none⟩) z).trans c2;have b5:=(q.out.cell (p:=X) d f j).trans x0;have b6:=(q.out.cell (p:=⟨X,7,none⟩) d f j).trans x7;clear Q R;have C2:=zA (HN.out a0 p0 _ v1 w1 s0 a4 a9 M2);go_wp2_with fail;refine C2.out.mono ?_;rintro e2 w2 ⟨rfl,v2,S,T⟩;have b0:=zA S;have r:=zA (q.out.trans T);have b7:=((k.out.low r).cell (p:=⟨b,o+1,none⟩) H).trans c1;have b8:=((k.out.low r).cell (p:=⟨b,o+2,none⟩) z).trans c2;have b9:=(r.out.cell (p:=X) d f j).trans x0;have c3:=(r.out.cell (p:=⟨X,7,none⟩) d f j).trans x7;clear S T;have C3:=zA (HN.out a1 p1 _ v2 w2 s1 a5 b0 M3);go_wp2_with fail;refine C3.out.mono ?_;rintro e3 w3 ⟨rfl,v3,U,V⟩;have Y:=zA U;have u:=zA (r.out.trans V);have c4:=((k.out.low u).cell (p:=⟨b,o+2,none⟩) z).trans c2;have c5:=(u.out.cell (p:=X) d f j).trans x0;have c6:=(u.out.cell (p:=⟨X,7,none⟩) d f j).trans x7;clear U V;have b1:=zA (show Calls prog 84 #[C,p2] w3 fun e w'=>e=.returned A∧w3=w' from by have:=zDK Y a6.out.get;rwa[zBa,a8.out]at this);go_wp2_with fail;refine b1.out.mono ?_;rintro ek wk ⟨rfl,rfl⟩;go_wp2_with fail;refine jr ?_;refine PutQ.back a7 ⟨rfl,v3,?_,u⟩;have:=Y.out;simp only[←zAC,List.append_assoc]at this;exact this
theorem zTr {C:Cx} {m:Nat} {us:List UInt16} {v:Value} {w:World} (vs j:Value) (nk nn:Int) (k:Bool) (hN:zAl C m) (s0:a0.size≤m) (hk:KidsS C w Ak [a0]) (l:Pe C us v w) (d:MayPut us ([[99,97,116,99,104]]++(prT a0))):
 Calls prog 47 #[C,.agg #[(17:Int),"",vs,nk,nn,k,j,.slice Ak 1 ck]] w (PutQ C us v w ([[99,97,116,99,104]]++(prT a0))):=by
 obtain⟨b,o,rfl,c⟩:=hk js;obtain⟨W,X,r,s,t,ps,p,e⟩:=PF.new 17 (.string ⟨#[]⟩) vs (.int .i64 nk) (.int .i64 nn) (.bool k) j (.slice (some ⟨b,o,none⟩) 1 ck) hN c l (by rw[←List.append_nil (_++_)]at d;exact d);obtain⟨p0,rfl⟩:=ps1 p;simp only[List.append_assoc]at e;go_enter func47,ntmps47;go_upto_region 1 with(fail);clear hN c hk l d p r s;have:=e.out.x;go_wp2_with fail;refine(e.out.lit (a:=[[99,97,116,99,104]]) rfl).mono ?_;rintro e1 w1 ⟨rfl,v1,f⟩;have:=f.out.x;have:=f.out.c0;go_wp2_with fail;refine(f.out.node 0 s0 rfl rfl).mono ?_;rintro e2 w2 ⟨rfl,v2,q⟩;have:=q.out.x;go_wp2_with fail;exact jr (q.out.fin t js)
theorem zC0 (l:List Tr) (a:Tr):(prs (l++[a])).dropLast=prs l∧kd (prs (l++[a])) ((prs (l++[a])).length - 1)=(a.nd.kind,prT a):=by
 have e:prs (l++[a])=prs l++[(a.nd.kind,prT a)]:=by rw[zB7,zB7,List.map_append];rfl
 rw[e];refine⟨by simp,?_⟩;unfold kd;simp
structure Nx (C:Cx) (m k:Nat) (x:Nd) (l:List Tr) (s:NdSl) (w:World):Prop where
 hN:zAl C m
 at_:At C.ts k (.mk x l)
 hs:∀t∈l,t.size≤m
 cnt:Cnt x.kind l.length
 fields:zK x=true
 h6:l.length≤1000000
 m6:m≤1000000
 hk:KidsS C w s.Ak l
 ck:l.length≤s.ck
 kin:1≤x.kind
def ndA (x:Nd) (l:List Tr) (s:NdSl):Value:=.agg #[x.kind,x.name,.slice s.As x.str.length s.cs,x.nk,x.nn,x.neg,.slice s.Am x.mag.length s.cm,.slice s.Ak l.length s.ck]
section
variable {C:Cx} {m k:Nat} {x:Nd} {l:List Tr} {s:NdSl} {us:List UInt16} {v:Value} {w:World}
theorem Nx.below {w':World} (h:Nx C m k x l s w) (hb:Below C.B w w'):Nx C m k x l s w':={h with hk:=h.hk.below hb}
theorem zHB (h:l.length=0):l=[]:=List.length_eq_zero_iff.1 h
theorem zHC (h:l.length=1):∃a,l=[a]:=List.length_eq_one_iff.1 h
theorem zNd (h:l.length=2):∃a b,l=[a,b]:=by
 match l,h with
 | [a,b],_=>exact⟨a,b,rfl⟩
theorem zWf (h:l.length=3):∃a b c,l=[a,b,c]:=by
 match l,h with
 | [a,b,c],_=>exact⟨a,b,c,rfl⟩
theorem zY7 (h:l.length=4):∃a b c d,l=[a,b,c,d]:=by
 match l,h with
 | [a,b,c,d],_=>exact⟨a,b,c,d,rfl⟩
theorem zWg (h:1≤l.length):∃r a,l=r++[a]:=⟨l.dropLast,l.getLast (by intro e;subst e;simp at h),(List.dropLast_concat_getLast _).symm⟩
end
theorem zaa {C:Cx} {m k:Nat} {x:Nd} {l:List Tr} {s:NdSl} {us:List UInt16} {v:Value} {w:World} (h:Nx C m k x l s w) (b:x.kind=1) (d:Pe C us v w) (c:MayPut us (zj x (prs l))):
 Calls prog 28 #[C,k,ndA x l s] w (PutQ C us v w (zj x (prs l))):=by
 have e:zj x (prs l)=zFS l:=by unfold zj;rw[b];rfl
 rw[e]at c⊢;unfold ndA;rw[b];exact zaV _ _ _ _ _ _ h.hN h.hs rfl h.h6 h.hk d c
theorem zab {C:Cx} {m k:Nat} {x:Nd} {l:List Tr} {s:NdSl} {us:List UInt16} {v:Value} {w:World} (h:Nx C m k x l s w) (b:x.kind=2) (d:Pe C us v w) (c:MayPut us (zj x (prs l))):
 Calls prog 28 #[C,k,ndA x l s] w (PutQ C us v w (zj x (prs l))):=by
 obtain rfl:=zHB (h.cnt.none_ jo);have e:zj x (prs [])=[[59]]:=by unfold zj;rw[b,zZ];rfl
 rw[e]at c⊢;unfold ndA;rw[b];exact zaX x.name _ _ _ _ _ h.hN d c
theorem zac {C:Cx} {m k:Nat} {x:Nd} {l:List Tr} {s:NdSl} {us:List UInt16} {v:Value} {w:World} (h:Nx C m k x l s w) (b:x.kind=3) (d:Pe C us v w) (c:MayPut us (zj x (prs l))):
 Calls prog 28 #[C,k,ndA x l s] w (PutQ C us v w (zj x (prs l))):=by
 obtain⟨a0,rfl⟩:=zHC (h.cnt.one jo);have e:zj x (prs [a0])=(inP (prT a0))++([[59]]):=by unfold zj;rw[b,zI,zZ];rfl
 rw[e]at c⊢;unfold ndA;rw[b];exact zaY x.name _ _ _ _ _ h.hN (h.hs a0 js) h.hk d c
theorem zad {C:Cx} {m k:Nat} {x:Nd} {l:List Tr} {s:NdSl} {us:List UInt16} {v:Value} {w:World} (h:Nx C m k x l s w) (b:x.kind=4) (d:Pe C us v w) (c:MayPut us (zj x (prs l))):
 Calls prog 28 #[C,k,ndA x l s] w (PutQ C us v w (zj x (prs l))):=by
 have e:zj x (prs l)=[[123]]++(zFS l++[[125]]):=by unfold zj;rw[b];rfl
 rw[e]at c⊢;unfold ndA;rw[b];exact zaW _ _ _ _ _ _ h.hN h.hs rfl h.h6 h.hk d c
theorem zae {C:Cx} {m k:Nat} {x:Nd} {l:List Tr} {s:NdSl} {us:List UInt16} {v:Value} {w:World} (h:Nx C m k x l s w) (b:x.kind=5) (d:Pe C us v w) (c:MayPut us (zj x (prs l))):
 Calls prog 28 #[C,k,ndA x l s] w (PutQ C us v w (zj x (prs l))):=by
 have e:zj x (prs l)=zBS x (prs l)++[[59]]:=by unfold zj;rw[b];rfl
 rw[e]at c⊢;unfold ndA;rw[b];exact zX2 (K:=5) jd _ _ _ _ _ _ h.hN h.hs h.at_ jo rfl h.h6 h.hk d c
theorem zaf {C:Cx} {m k:Nat} {x:Nd} {l:List Tr} {s:NdSl} {us:List UInt16} {v:Value} {w:World} (h:Nx C m k x l s w) (b:x.kind=6) (d:Pe C us v w) (c:MayPut us (zj x (prs l))):
 Calls prog 28 #[C,k,ndA x l s] w (PutQ C us v w (zj x (prs l))):=by
 have e:zj x (prs l)=zBS x (prs l)++[[59]]:=by unfold zj;rw[b];rfl
 rw[e]at c⊢;unfold ndA;rw[b];exact zX2 (K:=6) jd _ _ _ _ _ _ h.hN h.hs h.at_ jo rfl h.h6 h.hk d c
theorem zag {C:Cx} {m k:Nat} {x:Nd} {l:List Tr} {s:NdSl} {us:List UInt16} {v:Value} {w:World} (h:Nx C m k x l s w) (b:x.kind=7) (d:Pe C us v w) (c:MayPut us (zj x (prs l))):
 Calls prog 28 #[C,k,ndA x l s] w (PutQ C us v w (zj x (prs l))):=by
 have h1:=h.cnt.opt jo
 by_cases f:l.length=0
 · obtain rfl:=zHB f;have e:zj x (prs [])=[x.name]:=by unfold zj;rw[b,zZ];rfl
   rw[e]at c⊢;unfold ndA;rw[b];exact zWe x.name _ _ _ _ _ h.hN d c
 · obtain⟨a0,rfl⟩:=zHC (show l.length=1 by omega);have e:zj x (prs [a0])=[x.name]++([[61]]++(inP (prT a0))):=by unfold zj;rw[b,zI,zZ];rfl
   rw[e]at c⊢;unfold ndA;rw[b];exact zTn x.name _ _ _ _ _ h.hN (h.hs a0 js) h.hk d c
theorem zah {C:Cx} {m k:Nat} {x:Nd} {l:List Tr} {s:NdSl} {us:List UInt16} {v:Value} {w:World} (h:Nx C m k x l s w) (b:x.kind=8) (c:Pe C us v w) (d:MayPut us (zj x (prs l))):
 Calls prog 28 #[C,k,ndA x l s] w (PutQ C us v w (zj x (prs l))):=by
 rcases h.cnt.if_ b with h1 | h1
 · obtain⟨a0,a1,rfl⟩:=zNd h1;have e:zj x (prs [a0,a1])=[[105,102]]++((inP (prT a0))++(prT a1)):=by unfold zj;rw[b,zI,zI,zZ];simp[kd,inP]
   rw[e]at d⊢;unfold ndA;rw[b];exact zIi (K:=8) jd _ _ _ _ _ _ _ fun W hb=>zTp x.name _ _ _ _ _ h.hN (h.hs a0 js) (h.hs a1 js) (h.below (hb.mono (Nat.le_of_lt c.blt))).hk (c.below hb) d
 · obtain⟨a0,a1,a2,rfl⟩:=zWf h1;have e:zj x (prs [a0,a1,a2])=[[105,102]]++((inP (prT a0))++((prT a1)++([[101,108,115,101]]++(prT a2)))):=by unfold zj;rw[b,zI,zI,zI,zZ];rfl
   rw[e]at d⊢;unfold ndA;rw[b];exact zIi (K:=8) jd _ _ _ _ _ _ _ fun W hb=>zNc x.name _ _ _ _ _ h.hN (h.hs a0 js) (h.hs a1 js) (h.hs a2 js) (h.below (hb.mono (Nat.le_of_lt c.blt))).hk (c.below hb) d
theorem zai {C:Cx} {m k:Nat} {x:Nd} {l:List Tr} {s:NdSl} {us:List UInt16} {v:Value} {w:World} (h:Nx C m k x l s w) (b:x.kind=9) (c:Pe C us v w) (d:MayPut us (zj x (prs l))):
 Calls prog 28 #[C,k,ndA x l s] w (PutQ C us v w (zj x (prs l))):=by
 obtain⟨a0,a1,rfl⟩:=zNd (h.cnt.two jo);have e:zj x (prs [a0,a1])=[[119,104,105,108,101]]++((inP (prT a0))++(prT a1)):=by unfold zj;rw[b,zI,zI,zZ];rfl
 rw[e]at d⊢;unfold ndA;rw[b];exact zIi (K:=9) jd _ _ _ _ _ _ _ fun W hb=>zaZ x.name _ _ _ _ _ h.hN (h.hs a0 js) (h.hs a1 js) (h.below (hb.mono (Nat.le_of_lt c.blt))).hk (c.below hb) d
theorem zY8 {C:Cx} {m k:Nat} {x:Nd} {l:List Tr} {s:NdSl} {us:List UInt16} {v:Value} {w:World} (h:Nx C m k x l s w) (b:x.kind=10) (c:Pe C us v w) (d:MayPut us (zj x (prs l))):
 Calls prog 28 #[C,k,ndA x l s] w (PutQ C us v w (zj x (prs l))):=by
 obtain⟨a0,a1,a2,a3,rfl⟩:=zY7 (h.cnt.four jo);have e:zj x (prs [a0,a1,a2,a3])=[[102,111,114],[40]]++((zn (a0.nd.kind,prT a0))++([[59]]++((zn (a1.nd.kind,prT a1))++([[59]]++((zn (a2.nd.kind,prT a2))++([[41]]++(prT a3))))))):=by unfold zj;rw[b,zI,zI,zI,zI,zZ];rfl
 rw[e]at d⊢;unfold ndA;rw[b];exact zIi (K:=10) jd _ _ _ _ _ _ _ fun W hb=>zY6 x.name _ _ _ _ _ h.hN (h.hs a0 js) (h.hs a1 js) (h.hs a2 js) (h.hs a3 js) (h.below (hb.mono (Nat.le_of_lt c.blt))).hk (c.below hb) h.m6 d
theorem zY9 {C:Cx} {m k:Nat} {x:Nd} {l:List Tr} {s:NdSl} {us:List UInt16} {v:Value} {w:World} (_h:Nx C m k x l s w) (b:x.kind=11) (c:Pe C us v w) (_b:MayPut us (zj x (prs l))):
 Calls prog 28 #[C,k,ndA x l s] w (PutQ C us v w (zj x (prs l))):=by
 have e:zj x (prs l)=[]:=by unfold zj;rw[b];rfl
 rw[e];unfold ndA;rw[b];exact zY2 _ _ _ _ _ _ _ c
theorem zZA {C:Cx} {m k:Nat} {x:Nd} {l:List Tr} {s:NdSl} {us:List UInt16} {v:Value} {w:World} (h:Nx C m k x l s w) (b:x.kind=12) (d:Pe C us v w) (c:MayPut us (zj x (prs l))):
 Calls prog 28 #[C,k,ndA x l s] w (PutQ C us v w (zj x (prs l))):=by
 obtain rfl:=zHB (h.cnt.none_ jo);have e:zj x (prs [])=[[98,114,101,97,107]]++((zAs x.name)++([[59]])):=by unfold zj;rw[b,zZ];rfl
 rw[e]at c⊢;unfold ndA;rw[b];exact zVM (K:=12) jd x.name _ _ _ _ _ h.hN d c
theorem zZB {C:Cx} {m k:Nat} {x:Nd} {l:List Tr} {s:NdSl} {us:List UInt16} {v:Value} {w:World} (h:Nx C m k x l s w) (b:x.kind=13) (d:Pe C us v w) (c:MayPut us (zj x (prs l))):
 Calls prog 28 #[C,k,ndA x l s] w (PutQ C us v w (zj x (prs l))):=by
 obtain rfl:=zHB (h.cnt.none_ jo);have e:zj x (prs [])=[[99,111,110,116,105,110,117,101]]++((zAs x.name)++([[59]])):=by unfold zj;rw[b,zZ];rfl
 rw[e]at c⊢;unfold ndA;rw[b];exact zVM (K:=13) jd x.name _ _ _ _ _ h.hN d c
theorem zZC {C:Cx} {m k:Nat} {x:Nd} {l:List Tr} {s:NdSl} {us:List UInt16} {v:Value} {w:World} (h:Nx C m k x l s w) (b:x.kind=14) (d:Pe C us v w) (c:MayPut us (zj x (prs l))):
 Calls prog 28 #[C,k,ndA x l s] w (PutQ C us v w (zj x (prs l))):=by
 have h1:=h.cnt.opt jo
 by_cases f:l.length=0
 · obtain rfl:=zHB f;have e:zj x (prs [])=[[114,101,116,117,114,110]]++([[59]]):=by unfold zj;rw[b,zZ];rfl
   rw[e]at c⊢;unfold ndA;rw[b];exact zTo x.name _ _ _ _ _ h.hN d c
 · obtain⟨a0,rfl⟩:=zHC (show l.length=1 by omega);have e:zj x (prs [a0])=[[114,101,116,117,114,110]]++((inP (prT a0))++([[59]])):=by unfold zj;rw[b,zI,zZ];rfl
   rw[e]at c⊢;unfold ndA;rw[b];exact zQi x.name _ _ _ _ _ h.hN (h.hs a0 js) h.hk d c
theorem zZD {C:Cx} {m k:Nat} {x:Nd} {l:List Tr} {s:NdSl} {us:List UInt16} {v:Value} {w:World} (h:Nx C m k x l s w) (b:x.kind=15) (d:Pe C us v w) (c:MayPut us (zj x (prs l))):
 Calls prog 28 #[C,k,ndA x l s] w (PutQ C us v w (zj x (prs l))):=by
 obtain⟨a0,rfl⟩:=zHC (h.cnt.one jo);have e:zj x (prs [a0])=[[116,104,114,111,119]]++((inP (prT a0))++([[59]])):=by unfold zj;rw[b,zI,zZ];rfl
 rw[e]at c⊢;unfold ndA;rw[b];exact zY3 x.name _ _ _ _ _ h.hN (h.hs a0 js) h.hk d c
theorem zZE {C:Cx} {m k:Nat} {x:Nd} {l:List Tr} {s:NdSl} {us:List UInt16} {v:Value} {w:World} (h:Nx C m k x l s w) (b:x.kind=16) (c:Pe C us v w) (d:MayPut us (zj x (prs l))):
 Calls prog 28 #[C,k,ndA x l s] w (PutQ C us v w (zj x (prs l))):=by
 obtain⟨a0,a1,a2,rfl⟩:=zWf (h.cnt.three jo)
 by_cases f:a2.nd.kind=4
 · have e:zj x (prs [a0,a1,a2])=[[116,114,121]]++((prT a0)++((prT a1)++([[102,105,110,97,108,108,121]]++(prT a2)))):=by unfold zj;rw[b,zI,zI,zI,zZ];simp[kd,f]
   rw[e]at d⊢;unfold ndA;rw[b];exact zIi (K:=16) jd _ _ _ _ _ _ _ fun W hb=>zQj x.name _ _ _ _ _ h.hN (h.hs a0 js) (h.hs a1 js) (h.hs a2 js) (h.below (hb.mono (Nat.le_of_lt c.blt))).hk (c.below hb) f d
 · have e:zj x (prs [a0,a1,a2])=[[116,114,121]]++((prT a0)++(prT a1)):=by unfold zj;rw[b,zI,zI,zI,zZ];simp[kd,f]
   rw[e]at d⊢;unfold ndA;rw[b];exact zIi (K:=16) jd _ _ _ _ _ _ _ fun W hb=>zTq x.name _ _ _ _ _ h.hN (h.hs a0 js) (h.hs a1 js) (h.hs a2 js) (h.below (hb.mono (Nat.le_of_lt c.blt))).hk (c.below hb) rfl f d
theorem zZF {C:Cx} {m k:Nat} {x:Nd} {l:List Tr} {s:NdSl} {us:List UInt16} {v:Value} {w:World} (h:Nx C m k x l s w) (b:x.kind=17) (c:Pe C us v w) (d:MayPut us (zj x (prs l))):
 Calls prog 28 #[C,k,ndA x l s] w (PutQ C us v w (zj x (prs l))):=by
 obtain⟨a0,rfl⟩:=zHC (h.cnt.one jo)
 by_cases f:x.name=[]
 · have e:zj x (prs [a0])=[[99,97,116,99,104]]++(prT a0):=by unfold zj;rw[b,zI,zZ];simp[kd,f]
   rw[e]at d⊢;unfold ndA;rw[b];rw[f];exact zIi (K:=17) jd _ _ _ _ _ _ _ fun W hb=>zTr _ _ _ _ _ h.hN (h.hs a0 js) (h.below (hb.mono (Nat.le_of_lt c.blt))).hk (c.below hb) d
 · have e:zj x (prs [a0])=[[99,97,116,99,104]]++([[40],x.name,[41]]++(prT a0)):=by unfold zj;rw[b,zI,zZ];simp[kd,f]
   rw[e]at d⊢;unfold ndA;rw[b];exact zIi (K:=17) jd _ _ _ _ _ _ _ fun W hb=>zQY _ _ _ _ _ h.hN (h.hs a0 js) (h.below (hb.mono (Nat.le_of_lt c.blt))).hk (c.below hb) rfl f d
theorem zZG {C:Cx} {m k:Nat} {x:Nd} {l:List Tr} {s:NdSl} {us:List UInt16} {v:Value} {w:World} (h:Nx C m k x l s w) (b:x.kind=18) (d:Pe C us v w) (c:MayPut us (zj x (prs l))):
 Calls prog 28 #[C,k,ndA x l s] w (PutQ C us v w (zj x (prs l))):=by
 obtain⟨a0,rfl⟩:=zHC (h.cnt.one jo);have e:zj x (prs [a0])=[x.name,[58]]++(prT a0):=by unfold zj;rw[b,zI,zZ];rfl
 rw[e]at c⊢;unfold ndA;rw[b];exact zY4 x.name _ _ _ _ _ h.hN (h.hs a0 js) h.hk d c
theorem zZH {C:Cx} {m k:Nat} {x:Nd} {l:List Tr} {s:NdSl} {us:List UInt16} {v:Value} {w:World} (h:Nx C m k x l s w) (j:x.kind=19) (f:Pe C us v w) (o:MayPut us (zj x (prs l))):
 Calls prog 28 #[C,k,ndA x l s] w (PutQ C us v w (zj x (prs l))):=by
 obtain⟨r,a,rfl⟩:=zWg (h.cnt.some_ jo);have e:zj x (prs (r++[a]))=[[102,117,110,99,116,105,111,110]]++(zAs x.name++(zt (prs r)++prT a)):=by
  have e1:zj x (prs (r++[a]))=zFZ x (prs (r++[a])):=by unfold zj;rw[j];rfl
  rw[e1];unfold zFZ;rw[(zC0 r a).1,(zC0 r a).2];rfl
 have b:(r++[a]).length=r.length+1:=by simp
 have h6:=h.h6;have c:=h.ck;rw[b]at h6 c;rw[e]at o⊢;unfold ndA;rw[j,b];exact zIi (K:=19) jd _ _ _ _ _ _ _ fun W hb=>zTf _ _ _ _ _ _ _ fun q d=>zJ2 19 x.name _ _ _ _ _ h.hN (fun t p=>h.hs t (by simp[p])) (h.hs a js) rfl h6 c (((h.below (hb.mono (Nat.le_of_lt f.blt))).below (d.mono (Nat.le_of_lt (f.below hb).blt))).hk) ((f.below hb).below d) o
theorem zZI {C:Cx} {m k:Nat} {x:Nd} {l:List Tr} {s:NdSl} {us:List UInt16} {v:Value} {w:World} (h:Nx C m k x l s w) (b:x.kind=20) (d:Pe C us v w) (c:MayPut us (zj x (prs l))):
 Calls prog 28 #[C,k,ndA x l s] w (PutQ C us v w (zj x (prs l))):=by
 obtain rfl:=zHB (h.cnt.none_ jo);have e:zj x (prs [])=[x.name]:=by unfold zj;rw[b,zZ];rfl
 rw[e]at c⊢;unfold ndA;rw[b];exact zY5 x.name _ _ _ _ _ h.hN d c
theorem zIl {C:Cx} {m k:Nat} {x:Nd} {l:List Tr} {s:NdSl} {us:List UInt16} {v:Value} {w:World} (h:Nx C m k x l s w) (f:x.kind≤20) (b:Pe C us v w) (d:MayPut us (zj x (prs l))):
 Calls prog 28 #[C,k,ndA x l s] w (PutQ C us v w (zj x (prs l))):=by
 have h1:=h.kin;have e:x.kind=1∨x.kind=2∨x.kind=3∨x.kind=4∨x.kind=5∨x.kind=6∨x.kind=7∨x.kind=8∨x.kind=9∨x.kind=10∨x.kind=11∨x.kind=12∨x.kind=13∨x.kind=14∨x.kind=15∨x.kind=16∨x.kind=17∨x.kind=18∨x.kind=19∨x.kind=20:=by omega
 rcases e with c | c | c | c | c | c | c | c | c | c | c | c | c | c | c | c | c | c | c | c
 · exact zaa h c b d
 · exact zab h c b d
 · exact zac h c b d
 · exact zad h c b d
 · exact zae h c b d
 · exact zaf h c b d
 · exact zag h c b d
 · exact zah h c b d
 · exact zai h c b d
 · exact zY8 h c b d
 · exact zY9 h c b d
 · exact zZA h c b d
 · exact zZB h c b d
 · exact zZC h c b d
 · exact zZD h c b d
 · exact zZE h c b d
 · exact zZF h c b d
 · exact zZG h c b d
 · exact zZH h c b d
 · exact zZI h c b d
theorem zZJ {C:Cx} {m:Nat} {us:List UInt16} {v:Value} {w:World} (nm:List UInt8) (vs j:Value) (nk nn:Int) (k:Bool) (hN:zAl C m) (s0:a0.size≤m) (hk:KidsS C w Ak [a0]) (l:Pe C us v w) (d:MayPut us ([nm]++(ze (a0.nd.kind,prT a0)))):
 Calls prog 55 #[C,.agg #[(43:Int),nm,vs,nk,nn,k,j,.slice Ak 1 ck]] w (PutQ C us v w ([nm]++(ze (a0.nd.kind,prT a0)))):=by
 obtain⟨b,o,rfl,c⟩:=hk js;obtain⟨W,X,r,s,t,ps,p,e⟩:=PF.new 43 (.string ⟨nm.toArray⟩) vs (.int .i64 nk) (.int .i64 nn) (.bool k) j (.slice (some ⟨b,o,none⟩) 1 ck) hN c l (by rw[←List.append_nil (_++_)]at d;exact d);obtain⟨p0,rfl⟩:=ps1 p;simp only[List.append_assoc]at e;go_enter func55,ntmps55;go_upto_region 1 with(fail);clear hN c hk l d p r s;have:=e.out.x;go_wp2_with fail;refine(e.out.lit (a:=[nm]) rfl).mono ?_;rintro e1 w1 ⟨rfl,v1,f⟩;have:=f.out.x;have:=f.out.c0;go_wp2_with fail;refine(f.out.part 0 s0 rfl rfl).mono ?_;rintro e2 w2 ⟨rfl,v2,q⟩;have:=q.out.x;go_wp2_with fail;exact jr (q.out.fin t js)
theorem zZK {C:Cx} {m:Nat} {us:List UInt16} {v:Value} {w:World} (nm:List UInt8) (vs j:Value) (nk nn:Int) (k:Bool) (hN:zAl C m) (s0:a0.size≤m) (hk:KidsS C w Ak [a0]) (l:Pe C us v w) (d:MayPut us ([nm]++(prT a0))):
 Calls prog 55 #[C,.agg #[(44:Int),nm,vs,nk,nn,k,j,.slice Ak 1 ck]] w (PutQ C us v w ([nm]++(prT a0))):=by
 obtain⟨b,o,rfl,c⟩:=hk js;obtain⟨W,X,r,s,t,ps,p,e⟩:=PF.new 44 (.string ⟨nm.toArray⟩) vs (.int .i64 nk) (.int .i64 nn) (.bool k) j (.slice (some ⟨b,o,none⟩) 1 ck) hN c l (by rw[←List.append_nil (_++_)]at d;exact d);obtain⟨p0,rfl⟩:=ps1 p;simp only[List.append_assoc]at e;go_enter func55,ntmps55;go_upto_region 1 with(fail);clear hN c hk l d p r s;have:=e.out.x;go_wp2_with fail;refine(e.out.lit (a:=[nm]) rfl).mono ?_;rintro e1 w1 ⟨rfl,v1,f⟩;have:=f.out.x;have:=f.out.c0;go_wp2_with fail;refine(f.out.node 0 s0 rfl rfl).mono ?_;rintro e2 w2 ⟨rfl,v2,q⟩;have:=q.out.x;go_wp2_with fail;exact jr (q.out.fin t js)
theorem zZL {C:Cx} {m:Nat} {us:List UInt16} {v:Value} {w:World} (nm:List UInt8) (vs f:Value) (nk nn:Int) (j:Bool) (hN:zAl C m) (s0:a0.size≤m) (hk:KidsS C w Ak [a0]) (k:Pe C us v w) (e:MayPut us ((prT a0)++([nm]))):
 Calls prog 55 #[C,.agg #[(45:Int),nm,vs,nk,nn,j,f,.slice Ak 1 ck]] w (PutQ C us v w ((prT a0)++([nm]))):=by
 obtain⟨b,o,rfl,d⟩:=hk js;obtain⟨W,X,r,s,t,ps,l,c⟩:=PF.new 45 (.string ⟨nm.toArray⟩) vs (.int .i64 nk) (.int .i64 nn) (.bool j) f (.slice (some ⟨b,o,none⟩) 1 ck) hN d k (by rw[←List.append_nil (_++_)]at e;exact e);obtain⟨p0,rfl⟩:=ps1 l;simp only[List.append_assoc]at c;go_enter func55,ntmps55;go_upto_region 1 with(fail);clear hN d hk k e l r s;have:=c.out.x;have:=c.out.c0;go_wp2_with fail;refine(c.out.node 0 s0 rfl rfl).mono ?_;rintro e1 w1 ⟨rfl,v1,p⟩;have:=p.out.x;go_wp2_with fail;refine(p.out.lit (a:=[nm]) rfl).mono ?_;rintro e2 w2 ⟨rfl,v2,q⟩;have:=q.out.x;go_wp2_with fail;exact jr (q.out.fin t js)
theorem zVN {C:Cx} (t:K=46∨K=47) {m:Nat} {us:List UInt16} {v:Value} {w:World} (nm:List UInt8) (vs k:Value) (nk nn:Int) (l:Bool) (hN:zAl C m) (s0:a0.size≤m) (s1:a1.size≤m) (hk:KidsS C w Ak [a0,a1]) (p:Pe C us v w) (f:MayPut us ((ze (a0.nd.kind,prT a0))++([nm]++(ze (a1.nd.kind,prT a1))))):
 Calls prog 55 #[C,.agg #[K,nm,vs,nk,nn,l,k,.slice Ak 2 ck]] w (PutQ C us v w ((ze (a0.nd.kind,prT a0))++([nm]++(ze (a1.nd.kind,prT a1))))):=by
 obtain⟨b,o,rfl,e⟩:=hk js;obtain⟨W,X,u,y,z,ps,q,d⟩:=PF.new K (.string ⟨nm.toArray⟩) vs (.int .i64 nk) (.int .i64 nn) (.bool l) k (.slice (some ⟨b,o,none⟩) 2 ck) hN e p (by rw[←List.append_nil (_++_)]at f;exact f);obtain⟨p0,p1,rfl⟩:=ps2 q;simp only[List.append_assoc]at d;rcases t with rfl | rfl
 all_goals
  go_enter func55,ntmps55;go_upto_region 1 with(fail);clear hN e hk p f q u y;have:=d.out.x;have:=d.out.c0;go_wp2_with fail;refine(d.out.part 0 s0 rfl rfl).mono ?_;rintro e1 w1 ⟨rfl,v1,r⟩;have:=r.out.x;go_wp2_with fail;refine(r.out.lit (a:=[nm]) rfl).mono ?_;rintro e2 w2 ⟨rfl,v2,j⟩;have:=j.out.x;have:=j.out.c 1;go_wp2_with fail;refine(j.out.part 1 s1 rfl rfl).mono ?_;rintro e3 w3 ⟨rfl,v3,s⟩;have:=s.out.x;go_wp2_with fail;exact jr (s.out.fin z js)
theorem zZM {C:Cx} {m:Nat} {us:List UInt16} {v:Value} {w:World} (nm:List UInt8) (vs l:Value) (nk nn:Int) (p:Bool) (hN:zAl C m) (s0:a0.size≤m) (s1:a1.size≤m) (y:a2.size≤m) (hk:KidsS C w Ak [a0,a1,a2]) (q:Pe C us v w) (f:MayPut us ((ze (a0.nd.kind,prT a0))++([[63]]++((ze (a1.nd.kind,prT a1))++([[58]]++(ze (a2.nd.kind,prT a2))))))):
 Calls prog 55 #[C,.agg #[(48:Int),nm,vs,nk,nn,p,l,.slice Ak 3 ck]] w (PutQ C us v w ((ze (a0.nd.kind,prT a0))++([[63]]++((ze (a1.nd.kind,prT a1))++([[58]]++(ze (a2.nd.kind,prT a2))))))):=by
 obtain⟨b,o,rfl,e⟩:=hk js;obtain⟨W,X,z,A,B,ps,r,d⟩:=PF.new 48 (.string ⟨nm.toArray⟩) vs (.int .i64 nk) (.int .i64 nn) (.bool p) l (.slice (some ⟨b,o,none⟩) 3 ck) hN e q (by rw[←List.append_nil (_++_)]at f;exact f);obtain⟨p0,p1,p2,rfl⟩:=ps3 r;simp only[List.append_assoc]at d;go_enter func55,ntmps55;go_upto_region 1 with(fail);clear hN e hk q f r z A;have:=d.out.x;have:=d.out.c0;go_wp2_with fail;refine(d.out.part 0 s0 rfl rfl).mono ?_;rintro e1 w1 ⟨rfl,v1,s⟩;have:=s.out.x;go_wp2_with fail;refine(s.out.lit (a:=[[63]]) rfl).mono ?_;rintro e2 w2 ⟨rfl,v2,j⟩;have:=j.out.x;have:=j.out.c 1;go_wp2_with fail;refine(j.out.part 1 s1 rfl rfl).mono ?_;rintro e3 w3 ⟨rfl,v3,t⟩;have:=t.out.x;go_wp2_with fail;refine(t.out.lit (a:=[[58]]) rfl).mono ?_;rintro e4 D ⟨rfl,v4,k⟩;have:=k.out.x;have:=k.out.c 2;go_wp2_with fail;refine(k.out.part 2 y rfl rfl).mono ?_;rintro e5 E ⟨rfl,v5,u⟩;have:=u.out.x;go_wp2_with fail;exact jr (u.out.fin B js)
theorem zZN {C:Cx} {m:Nat} {us:List UInt16} {v:Value} {w:World} (nm:List UInt8) (vs k:Value) (nk nn:Int) (l:Bool) (hN:zAl C m) (s0:a0.size≤m) (s1:a1.size≤m) (hk:KidsS C w Ak [a0,a1]) (p:Pe C us v w) (f:MayPut us ((prT a0)++([nm]++(ze (a1.nd.kind,prT a1))))):
 Calls prog 55 #[C,.agg #[(49:Int),nm,vs,nk,nn,l,k,.slice Ak 2 ck]] w (PutQ C us v w ((prT a0)++([nm]++(ze (a1.nd.kind,prT a1))))):=by
 obtain⟨b,o,rfl,e⟩:=hk js;obtain⟨W,X,t,u,y,ps,q,d⟩:=PF.new 49 (.string ⟨nm.toArray⟩) vs (.int .i64 nk) (.int .i64 nn) (.bool l) k (.slice (some ⟨b,o,none⟩) 2 ck) hN e p (by rw[←List.append_nil (_++_)]at f;exact f);obtain⟨p0,p1,rfl⟩:=ps2 q;simp only[List.append_assoc]at d;go_enter func55,ntmps55;go_upto_region 1 with(fail);clear hN e hk p f q t u;have:=d.out.x;have:=d.out.c0;go_wp2_with fail;refine(d.out.node 0 s0 rfl rfl).mono ?_;rintro e1 w1 ⟨rfl,v1,r⟩;have:=r.out.x;go_wp2_with fail;refine(r.out.lit (a:=[nm]) rfl).mono ?_;rintro e2 w2 ⟨rfl,v2,j⟩;have:=j.out.x;have:=j.out.c 1;go_wp2_with fail;refine(j.out.part 1 s1 rfl rfl).mono ?_;rintro e3 w3 ⟨rfl,v3,s⟩;have:=s.out.x;go_wp2_with fail;exact jr (s.out.fin y js)
theorem zZO {C:Cx} {m:Nat} {us:List UInt16} {v:Value} {w:World} (nm:List UInt8) (vs f:Value) (nk nn:Int) (j:Bool) (hN:zAl C m) (s0:a0.size≤m) (hk:KidsS C w Ak [a0]) (k:Pe C us v w) (e:MayPut us ((ze (a0.nd.kind,prT a0))++([[46],nm]))):
 Calls prog 55 #[C,.agg #[(52:Int),nm,vs,nk,nn,j,f,.slice Ak 1 ck]] w (PutQ C us v w ((ze (a0.nd.kind,prT a0))++([[46],nm]))):=by
 obtain⟨b,o,rfl,d⟩:=hk js;obtain⟨W,X,r,s,t,ps,l,c⟩:=PF.new 52 (.string ⟨nm.toArray⟩) vs (.int .i64 nk) (.int .i64 nn) (.bool j) f (.slice (some ⟨b,o,none⟩) 1 ck) hN d k (by rw[←List.append_nil (_++_)]at e;exact e);obtain⟨p0,rfl⟩:=ps1 l;simp only[List.append_assoc]at c;go_enter func55,ntmps55;go_upto_region 1 with(fail);clear hN d hk k e l r s;have:=c.out.x;have:=c.out.c0;go_wp2_with fail;refine(c.out.part 0 s0 rfl rfl).mono ?_;rintro e1 w1 ⟨rfl,v1,p⟩;have:=p.out.x;go_wp2_with fail;refine(p.out.lit (a:=[[46],nm]) rfl).mono ?_;rintro e2 w2 ⟨rfl,v2,q⟩;have:=q.out.x;go_wp2_with fail;exact jr (q.out.fin t js)
theorem zZP {C:Cx} {m:Nat} {us:List UInt16} {v:Value} {w:World} (nm:List UInt8) (vs k:Value) (nk nn:Int) (l:Bool) (hN:zAl C m) (s0:a0.size≤m) (s1:a1.size≤m) (hk:KidsS C w Ak [a0,a1]) (p:Pe C us v w) (f:MayPut us ((ze (a0.nd.kind,prT a0))++([[91]]++((ze (a1.nd.kind,prT a1))++([[93]]))))):
 Calls prog 55 #[C,.agg #[(53:Int),nm,vs,nk,nn,l,k,.slice Ak 2 ck]] w (PutQ C us v w ((ze (a0.nd.kind,prT a0))++([[91]]++((ze (a1.nd.kind,prT a1))++([[93]]))))):=by
 obtain⟨b,o,rfl,e⟩:=hk js;obtain⟨W,X,u,y,z,ps,q,d⟩:=PF.new 53 (.string ⟨nm.toArray⟩) vs (.int .i64 nk) (.int .i64 nn) (.bool l) k (.slice (some ⟨b,o,none⟩) 2 ck) hN e p (by rw[←List.append_nil (_++_)]at f;exact f);obtain⟨p0,p1,rfl⟩:=ps2 q;simp only[List.append_assoc]at d;go_enter func55,ntmps55;go_upto_region 1 with(fail);clear hN e hk p f q u y;have:=d.out.x;have:=d.out.c0;go_wp2_with fail;refine(d.out.part 0 s0 rfl rfl).mono ?_;rintro e1 w1 ⟨rfl,v1,r⟩;have:=r.out.x;go_wp2_with fail;refine(r.out.lit (a:=[[91]]) rfl).mono ?_;rintro e2 w2 ⟨rfl,v2,j⟩;have:=j.out.x;have:=j.out.c 1;go_wp2_with fail;refine(j.out.part 1 s1 rfl rfl).mono ?_;rintro e3 w3 ⟨rfl,v3,s⟩;have:=s.out.x;go_wp2_with fail;refine(s.out.lit (a:=[[93]]) rfl).mono ?_;rintro e4 A ⟨rfl,v4,t⟩;have:=t.out.x;go_wp2_with fail;exact jr (t.out.fin z js)
theorem zTs {x:Nd} (h:zK x=true) (c:x.kind=30):x.nk=0∧0≤x.nn∧x.nn≤9007199254740991:=by
 unfold zK at h;rw[c]at h;split at h
 · cases h
 · split at h
   · cases h
   · split at h
     · cases h
     · split at h
       · cases h
       · rw[jn,if_pos rfl]at h;simp only[Bool.and_eq_true,beq_iff_eq,decide_eq_true_eq]at h;obtain⟨⟨⟨_,h1⟩,b⟩,d⟩:=h;refine⟨h1,d,?_⟩;unfold zDd at b;rw[if_pos h1,Bool.and_eq_true]at b;exact of_decide_eq_true b.2
theorem zTt {x:Nd} (h:zK x=true) (d:x.kind=31):x.neg=false∧zBR false x.mag=true:=by
 unfold zK at h;rw[d]at h;split at h
 · cases h
 · split at h
   · cases h
   · split at h
     · cases h
     · split at h
       · cases h
       · rw[jn,jn,if_pos rfl]at h;simp only[Bool.and_eq_true,Bool.not_eq_true',decide_eq_true_eq]at h;obtain⟨⟨_,b⟩,c⟩:=h;rw[c]at b;exact⟨c,b⟩
theorem zZQ {C:Cx} {m k:Nat} {x:Nd} {l:List Tr} {s:NdSl} {us:List UInt16} {v:Value} {w:World} (h:Nx C m k x l s w) (b:x.kind=30) (d:Pe C us v w) (c:MayPut us (zh x (prs l))):
 Calls prog 29 #[C,ndA x l s] w (PutQ C us v w (zh x (prs l))):=by
 obtain⟨f1,f,j⟩:=zTs h.fields b;have e:zh x (prs l)=[zBZ x.nn.toNat]:=by unfold zh;rw[b];rfl
 rw[e]at c⊢;unfold ndA;rw[b,f1];exact zYx _ _ _ _ _ f j d c
theorem zZR {C:Cx} {m k:Nat} {x:Nd} {l:List Tr} {s:NdSl} {us:List UInt16} {v:Value} {w:World} (h:Nx C m k x l s w) (c:x.kind=31) (d:Reads w C.B 1 s.Am x.mag.length (zRc x.mag)) (b:∀y∈x.mag,y < 4294967296) (j:Pe C us v w) (f:MayPut us (zh x (prs l))):
 Calls prog 29 #[C,ndA x l s] w (PutQ C us v w (zh x (prs l))):=by
 obtain⟨f1,o⟩:=zTt h.fields c;have e:zh x (prs l)=[zBZ (zEk x.mag)++[110]]:=by unfold zh;rw[c];rfl
 rw[e]at f⊢;unfold ndA;rw[c,f1];exact zYy _ _ _ _ rfl d b o (zCv h.fields b).big j f
theorem zZS {C:Cx} {m k:Nat} {x:Nd} {l:List Tr} {s:NdSl} {us:List UInt16} {v:Value} {w:World} (h:Nx C m k x l s w) (b:x.kind=32) (c:Reads w C.B 1 s.As x.str.length (zAM x.str)) (d:∀y∈x.mag,y < 4294967296) (j:Pe C us v w) (f:MayPut us (zh x (prs l))):
 Calls prog 29 #[C,ndA x l s] w (PutQ C us v w (zh x (prs l))):=by
 have e:zh x (prs l)=[zFw x.str]:=by unfold zh;rw[b];rfl
 rw[e]at f⊢;unfold ndA;rw[b];exact zYz _ _ _ _ _ rfl (by have:=(zCv h.fields d).str;omega) c j f
theorem zZT {C:Cx} {m k:Nat} {x:Nd} {l:List Tr} {s:NdSl} {us:List UInt16} {v:Value} {w:World} (h:Nx C m k x l s w) (b:x.kind=33) (d:Pe C us v w) (c:MayPut us (zh x (prs l))):
 Calls prog 29 #[C,ndA x l s] w (PutQ C us v w (zh x (prs l))):=by
 obtain rfl:=zHB (h.cnt.none_ jo);have e:zh x (prs [])=[x.name]:=by unfold zh;rw[b,zZ];rfl
 rw[e]at c⊢;unfold ndA;rw[b];exact zYw x.name _ _ _ _ _ h.hN d c
theorem zZU {C:Cx} {m k:Nat} {x:Nd} {l:List Tr} {s:NdSl} {us:List UInt16} {v:Value} {w:World} (h:Nx C m k x l s w) (b:x.kind=34) (d:Pe C us v w) (c:MayPut us (zh x (prs l))):
 Calls prog 29 #[C,ndA x l s] w (PutQ C us v w (zh x (prs l))):=by
 obtain rfl:=zHB (h.cnt.none_ jo);have e:zh x (prs [])=[[116,114,117,101]]:=by unfold zh;rw[b,zZ];rfl
 rw[e]at c⊢;unfold ndA;rw[b];exact zYV (K:=34) jd x.name _ _ _ _ _ h.hN d c
theorem zZV {C:Cx} {m k:Nat} {x:Nd} {l:List Tr} {s:NdSl} {us:List UInt16} {v:Value} {w:World} (h:Nx C m k x l s w) (b:x.kind=35) (d:Pe C us v w) (c:MayPut us (zh x (prs l))):
 Calls prog 29 #[C,ndA x l s] w (PutQ C us v w (zh x (prs l))):=by
 obtain rfl:=zHB (h.cnt.none_ jo);have e:zh x (prs [])=[[102,97,108,115,101]]:=by unfold zh;rw[b,zZ];rfl
 rw[e]at c⊢;unfold ndA;rw[b];exact zYV (K:=35) jd x.name _ _ _ _ _ h.hN d c
theorem zZW {C:Cx} {m k:Nat} {x:Nd} {l:List Tr} {s:NdSl} {us:List UInt16} {v:Value} {w:World} (h:Nx C m k x l s w) (b:x.kind=36) (d:Pe C us v w) (c:MayPut us (zh x (prs l))):
 Calls prog 29 #[C,ndA x l s] w (PutQ C us v w (zh x (prs l))):=by
 obtain rfl:=zHB (h.cnt.none_ jo);have e:zh x (prs [])=[[110,117,108,108]]:=by unfold zh;rw[b,zZ];rfl
 rw[e]at c⊢;unfold ndA;rw[b];exact zYV (K:=36) jd x.name _ _ _ _ _ h.hN d c
theorem zZX {C:Cx} {m k:Nat} {x:Nd} {l:List Tr} {s:NdSl} {us:List UInt16} {v:Value} {w:World} (h:Nx C m k x l s w) (b:x.kind=37) (d:Pe C us v w) (c:MayPut us (zh x (prs l))):
 Calls prog 29 #[C,ndA x l s] w (PutQ C us v w (zh x (prs l))):=by
 obtain rfl:=zHB (h.cnt.none_ jo);have e:zh x (prs [])=[[116,104,105,115]]:=by unfold zh;rw[b,zZ];rfl
 rw[e]at c⊢;unfold ndA;rw[b];exact zYV (K:=37) jd x.name _ _ _ _ _ h.hN d c
theorem zZY {C:Cx} {m k:Nat} {x:Nd} {l:List Tr} {s:NdSl} {us:List UInt16} {v:Value} {w:World} (h:Nx C m k x l s w) (b:x.kind=38) (d:Pe C us v w) (c:MayPut us (zh x (prs l))):
 Calls prog 29 #[C,ndA x l s] w (PutQ C us v w (zh x (prs l))):=by
 have e:zh x (prs l)=[[91]]++(zAW ze (prs l)++[[93]]):=by unfold zh;rw[b];rfl
 rw[e]at c⊢;unfold ndA;rw[b];exact zYs _ _ _ _ _ _ h.hN h.hs rfl h.h6 h.hk d c
theorem zZZ {C:Cx} {m k:Nat} {x:Nd} {l:List Tr} {s:NdSl} {us:List UInt16} {v:Value} {w:World} (h:Nx C m k x l s w) (b:x.kind=39) (d:Pe C us v w) (c:MayPut us (zh x (prs l))):
 Calls prog 29 #[C,ndA x l s] w (PutQ C us v w (zh x (prs l))):=by
 have e:zh x (prs l)=[[123]]++(zAW (·.2) (prs l)++[[125]]):=by unfold zh;rw[b];rfl
 rw[e]at c⊢;unfold ndA;rw[b];exact zYt _ _ _ _ _ _ h.hN h.hs rfl h.h6 h.hk d c
theorem zZa {C:Cx} {m k:Nat} {x:Nd} {l:List Tr} {s:NdSl} {us:List UInt16} {v:Value} {w:World} (h:Nx C m k x l s w) (b:x.kind=40) (c:Reads w C.B 1 s.As x.str.length (zAM x.str)) (d:∀y∈x.mag,y < 4294967296) (j:Pe C us v w) (f:MayPut us (zh x (prs l))):
 Calls prog 29 #[C,ndA x l s] w (PutQ C us v w (zh x (prs l))):=by
 obtain⟨a0,rfl⟩:=zHC (h.cnt.one jo);have e:zh x (prs [a0])=[zFw x.str,[58]]++ze (a0.nd.kind,prT a0):=by unfold zh;rw[b,zI,zZ];rfl
 rw[e]at f⊢;unfold ndA;rw[b];exact zY0 _ _ _ _ _ h.hN (h.hs a0 js) h.hk rfl (by have:=(zCv h.fields d).str;omega) c j f
theorem zZb {C:Cx} {m k:Nat} {x:Nd} {l:List Tr} {s:NdSl} {us:List UInt16} {v:Value} {w:World} (h:Nx C m k x l s w) (d:x.kind=41) (f:Pe C us v w) (j:MayPut us (zh x (prs l))):
 Calls prog 29 #[C,ndA x l s] w (PutQ C us v w (zh x (prs l))):=by
 obtain⟨r,a,rfl⟩:=zWg (h.cnt.some_ jo);have e:zh x (prs (r++[a]))=[[102,117,110,99,116,105,111,110]]++(zAs x.name++(zt (prs r)++prT a)):=by
  have e1:zh x (prs (r++[a]))=zFZ x (prs (r++[a])):=by unfold zh;rw[d];rfl
  rw[e1];unfold zFZ;rw[(zC0 r a).1,(zC0 r a).2];rfl
 have b:(r++[a]).length=r.length+1:=by simp
 have h6:=h.h6;have c:=h.ck;rw[b]at h6 c;rw[e]at j⊢;unfold ndA;rw[d,b];exact zTg _ _ _ _ _ _ _ fun W hb=>zJ2 41 x.name _ _ _ _ _ h.hN (fun t o=>h.hs t (by simp[o])) (h.hs a js) rfl h6 c (h.below (hb.mono (Nat.le_of_lt f.blt))).hk (f.below hb) j
theorem zZc {C:Cx} {m k:Nat} {x:Nd} {l:List Tr} {s:NdSl} {us:List UInt16} {v:Value} {w:World} (h:Nx C m k x l s w) (d:x.kind=42) (f:Pe C us v w) (j:MayPut us (zh x (prs l))):
 Calls prog 29 #[C,ndA x l s] w (PutQ C us v w (zh x (prs l))):=by
 obtain⟨r,a,rfl⟩:=zWg (h.cnt.some_ jo);have b:(r++[a]).length=r.length+1:=by simp
 have h6:=h.h6;have c:=h.ck;rw[b]at h6 c
 by_cases o:a.nd.kind=4
 · have e:zh x (prs (r++[a]))=zt (prs r)++([[61,62]]++prT a):=by
    have e1:zh x (prs (r++[a]))=zE3 (prs (r++[a])):=by unfold zh;rw[d];rfl
    rw[e1];unfold zE3;rw[(zC0 r a).1,(zC0 r a).2];rw[if_pos o];rfl
   rw[e]at j⊢;unfold ndA;rw[d,b];exact zMH _ _ _ _ _ _ _ fun W hb=>zJ3 42 x.name _ _ _ _ _ h.hN (fun t p=>h.hs t (by simp[p])) (h.hs a js) rfl h6 c (h.below (hb.mono (Nat.le_of_lt f.blt))).hk (f.below hb) o j
 · have e:zh x (prs (r++[a]))=zt (prs r)++([[61,62]]++inP (prT a)):=by
    have e1:zh x (prs (r++[a]))=zE3 (prs (r++[a])):=by unfold zh;rw[d];rfl
    rw[e1];unfold zE3;rw[(zC0 r a).1,(zC0 r a).2];rw[if_neg o];rfl
   rw[e]at j⊢;unfold ndA;rw[d,b];exact zMH _ _ _ _ _ _ _ fun W hb=>zQW 42 x.name _ _ _ _ _ h.hN (fun t p=>h.hs t (by simp[p])) (h.hs a js) rfl h6 c (h.below (hb.mono (Nat.le_of_lt f.blt))).hk (f.below hb) rfl o j
theorem zZd {C:Cx} {m k:Nat} {x:Nd} {l:List Tr} {s:NdSl} {us:List UInt16} {v:Value} {w:World} (h:Nx C m k x l s w) (b:x.kind=43) (c:Pe C us v w) (d:MayPut us (zh x (prs l))):
 Calls prog 29 #[C,ndA x l s] w (PutQ C us v w (zh x (prs l))):=by
 obtain⟨a0,rfl⟩:=zHC (h.cnt.one jo);have e:zh x (prs [a0])=[x.name]++(ze (a0.nd.kind,prT a0)):=by unfold zh;rw[b,zI,zZ];rfl
 rw[e]at d⊢;unfold ndA;rw[b];exact zHA (K:=43) jd _ _ _ _ _ _ _ fun W hb=>zZJ x.name _ _ _ _ _ h.hN (h.hs a0 js) (h.below (hb.mono (Nat.le_of_lt c.blt))).hk (c.below hb) d
theorem zZe {C:Cx} {m k:Nat} {x:Nd} {l:List Tr} {s:NdSl} {us:List UInt16} {v:Value} {w:World} (h:Nx C m k x l s w) (b:x.kind=44) (c:Pe C us v w) (d:MayPut us (zh x (prs l))):
 Calls prog 29 #[C,ndA x l s] w (PutQ C us v w (zh x (prs l))):=by
 obtain⟨a0,rfl⟩:=zHC (h.cnt.one jo);have e:zh x (prs [a0])=[x.name]++(prT a0):=by unfold zh;rw[b,zI,zZ];rfl
 rw[e]at d⊢;unfold ndA;rw[b];exact zHA (K:=44) jd _ _ _ _ _ _ _ fun W hb=>zZK x.name _ _ _ _ _ h.hN (h.hs a0 js) (h.below (hb.mono (Nat.le_of_lt c.blt))).hk (c.below hb) d
theorem zZf {C:Cx} {m k:Nat} {x:Nd} {l:List Tr} {s:NdSl} {us:List UInt16} {v:Value} {w:World} (h:Nx C m k x l s w) (b:x.kind=45) (c:Pe C us v w) (d:MayPut us (zh x (prs l))):
 Calls prog 29 #[C,ndA x l s] w (PutQ C us v w (zh x (prs l))):=by
 obtain⟨a0,rfl⟩:=zHC (h.cnt.one jo);have e:zh x (prs [a0])=(prT a0)++([x.name]):=by unfold zh;rw[b,zI,zZ];rfl
 rw[e]at d⊢;unfold ndA;rw[b];exact zHA (K:=45) jd _ _ _ _ _ _ _ fun W hb=>zZL x.name _ _ _ _ _ h.hN (h.hs a0 js) (h.below (hb.mono (Nat.le_of_lt c.blt))).hk (c.below hb) d
theorem zZg {C:Cx} {m k:Nat} {x:Nd} {l:List Tr} {s:NdSl} {us:List UInt16} {v:Value} {w:World} (h:Nx C m k x l s w) (b:x.kind=46) (c:Pe C us v w) (d:MayPut us (zh x (prs l))):
 Calls prog 29 #[C,ndA x l s] w (PutQ C us v w (zh x (prs l))):=by
 obtain⟨a0,a1,rfl⟩:=zNd (h.cnt.two jo);have e:zh x (prs [a0,a1])=(ze (a0.nd.kind,prT a0))++([x.name]++(ze (a1.nd.kind,prT a1))):=by unfold zh;rw[b,zI,zI,zZ];rfl
 rw[e]at d⊢;unfold ndA;rw[b];exact zHA (K:=46) jd _ _ _ _ _ _ _ fun W hb=>zVN (K:=46) jd x.name _ _ _ _ _ h.hN (h.hs a0 js) (h.hs a1 js) (h.below (hb.mono (Nat.le_of_lt c.blt))).hk (c.below hb) d
theorem zZh {C:Cx} {m k:Nat} {x:Nd} {l:List Tr} {s:NdSl} {us:List UInt16} {v:Value} {w:World} (h:Nx C m k x l s w) (b:x.kind=47) (c:Pe C us v w) (d:MayPut us (zh x (prs l))):
 Calls prog 29 #[C,ndA x l s] w (PutQ C us v w (zh x (prs l))):=by
 obtain⟨a0,a1,rfl⟩:=zNd (h.cnt.two jo);have e:zh x (prs [a0,a1])=(ze (a0.nd.kind,prT a0))++([x.name]++(ze (a1.nd.kind,prT a1))):=by unfold zh;rw[b,zI,zI,zZ];rfl
 rw[e]at d⊢;unfold ndA;rw[b];exact zHA (K:=47) jd _ _ _ _ _ _ _ fun W hb=>zVN (K:=47) jd x.name _ _ _ _ _ h.hN (h.hs a0 js) (h.hs a1 js) (h.below (hb.mono (Nat.le_of_lt c.blt))).hk (c.below hb) d
theorem zZi {C:Cx} {m k:Nat} {x:Nd} {l:List Tr} {s:NdSl} {us:List UInt16} {v:Value} {w:World} (h:Nx C m k x l s w) (b:x.kind=48) (c:Pe C us v w) (d:MayPut us (zh x (prs l))):
 Calls prog 29 #[C,ndA x l s] w (PutQ C us v w (zh x (prs l))):=by
 obtain⟨a0,a1,a2,rfl⟩:=zWf (h.cnt.three jo);have e:zh x (prs [a0,a1,a2])=(ze (a0.nd.kind,prT a0))++([[63]]++((ze (a1.nd.kind,prT a1))++([[58]]++(ze (a2.nd.kind,prT a2))))):=by unfold zh;rw[b,zI,zI,zI,zZ];rfl
 rw[e]at d⊢;unfold ndA;rw[b];exact zHA (K:=48) jd _ _ _ _ _ _ _ fun W hb=>zZM x.name _ _ _ _ _ h.hN (h.hs a0 js) (h.hs a1 js) (h.hs a2 js) (h.below (hb.mono (Nat.le_of_lt c.blt))).hk (c.below hb) d
theorem zZj {C:Cx} {m k:Nat} {x:Nd} {l:List Tr} {s:NdSl} {us:List UInt16} {v:Value} {w:World} (h:Nx C m k x l s w) (b:x.kind=49) (c:Pe C us v w) (d:MayPut us (zh x (prs l))):
 Calls prog 29 #[C,ndA x l s] w (PutQ C us v w (zh x (prs l))):=by
 obtain⟨a0,a1,rfl⟩:=zNd (h.cnt.two jo);have e:zh x (prs [a0,a1])=(prT a0)++([x.name]++(ze (a1.nd.kind,prT a1))):=by unfold zh;rw[b,zI,zI,zZ];rfl
 rw[e]at d⊢;unfold ndA;rw[b];exact zHA (K:=49) jd _ _ _ _ _ _ _ fun W hb=>zZN x.name _ _ _ _ _ h.hN (h.hs a0 js) (h.hs a1 js) (h.below (hb.mono (Nat.le_of_lt c.blt))).hk (c.below hb) d
theorem zZk {C:Cx} {m k:Nat} {x:Nd} {l:List Tr} {s:NdSl} {us:List UInt16} {v:Value} {w:World} (h:Nx C m k x l s w) (c:x.kind=50) (d:Pe C us v w) (f:MayPut us (zh x (prs l))):
 Calls prog 29 #[C,ndA x l s] w (PutQ C us v w (zh x (prs l))):=by
 have h1:=h.cnt.some_ jo;obtain⟨a0,r,rfl⟩:∃a r,l=a::r:=by
  cases l with
  | nil=>simp at h1
  | cons a r=>exact⟨a,r,rfl⟩
 have e:zh x (prs (a0::r))=zEl (prs (a0::r)):=by unfold zh;rw[c];rfl
 have h6:=h.h6;have b:=h.ck;rw[List.length_cons]at h6 b;rw[e]at f⊢;unfold ndA;rw[c,List.length_cons];exact zHA (K:=50) jd _ _ _ _ _ _ _ fun W hb=>zYu _ _ _ _ _ _ h.hN (fun t j=>h.hs t (by simp[j])) (h.hs a0 js) rfl h6 b (h.below (hb.mono (Nat.le_of_lt d.blt))).hk (d.below hb) f
theorem zZl {C:Cx} {m k:Nat} {x:Nd} {l:List Tr} {s:NdSl} {us:List UInt16} {v:Value} {w:World} (h:Nx C m k x l s w) (c:x.kind=51) (d:Pe C us v w) (f:MayPut us (zh x (prs l))):
 Calls prog 29 #[C,ndA x l s] w (PutQ C us v w (zh x (prs l))):=by
 have h1:=h.cnt.some_ jo;obtain⟨a0,r,rfl⟩:∃a r,l=a::r:=by
  cases l with
  | nil=>simp at h1
  | cons a r=>exact⟨a,r,rfl⟩
 have e:zh x (prs (a0::r))=[[110,101,119]]++zEl (prs (a0::r)):=by unfold zh;rw[c];rfl
 have h6:=h.h6;have b:=h.ck;rw[List.length_cons]at h6 b;rw[e]at f⊢;unfold ndA;rw[c,List.length_cons];exact zHA (K:=51) jd _ _ _ _ _ _ _ fun W hb=>zYv _ _ _ _ _ _ h.hN (fun t j=>h.hs t (by simp[j])) (h.hs a0 js) rfl h6 b (h.below (hb.mono (Nat.le_of_lt d.blt))).hk (d.below hb) f
theorem zZm {C:Cx} {m k:Nat} {x:Nd} {l:List Tr} {s:NdSl} {us:List UInt16} {v:Value} {w:World} (h:Nx C m k x l s w) (b:x.kind=52) (c:Pe C us v w) (d:MayPut us (zh x (prs l))):
 Calls prog 29 #[C,ndA x l s] w (PutQ C us v w (zh x (prs l))):=by
 obtain⟨a0,rfl⟩:=zHC (h.cnt.one jo);have e:zh x (prs [a0])=(ze (a0.nd.kind,prT a0))++([[46],x.name]):=by unfold zh;rw[b,zI,zZ];rfl
 rw[e]at d⊢;unfold ndA;rw[b];exact zHA (K:=52) jd _ _ _ _ _ _ _ fun W hb=>zZO x.name _ _ _ _ _ h.hN (h.hs a0 js) (h.below (hb.mono (Nat.le_of_lt c.blt))).hk (c.below hb) d
theorem zZn {C:Cx} {m k:Nat} {x:Nd} {l:List Tr} {s:NdSl} {us:List UInt16} {v:Value} {w:World} (h:Nx C m k x l s w) (b:x.kind=53) (c:Pe C us v w) (d:MayPut us (zh x (prs l))):
 Calls prog 29 #[C,ndA x l s] w (PutQ C us v w (zh x (prs l))):=by
 obtain⟨a0,a1,rfl⟩:=zNd (h.cnt.two jo);have e:zh x (prs [a0,a1])=(ze (a0.nd.kind,prT a0))++([[91]]++((ze (a1.nd.kind,prT a1))++([[93]]))):=by unfold zh;rw[b,zI,zI,zZ];rfl
 rw[e]at d⊢;unfold ndA;rw[b];exact zHA (K:=53) jd _ _ _ _ _ _ _ fun W hb=>zZP x.name _ _ _ _ _ h.hN (h.hs a0 js) (h.hs a1 js) (h.below (hb.mono (Nat.le_of_lt c.blt))).hk (c.below hb) d
theorem zHT {C:Cx} {m k:Nat} {x:Nd} {l:List Tr} {s:NdSl} {us:List UInt16} {v:Value} {w:World} (h:Nx C m k x l s w) (p:30≤x.kind) (q:x.kind≤53) (f:Reads w C.B 1 s.As x.str.length (zAM x.str)) (j:Reads w C.B 1 s.Am x.mag.length (zRc x.mag)) (e:∀y∈x.mag,y < 4294967296) (b:Pe C us v w) (d:MayPut us (zh x (prs l))):
 Calls prog 29 #[C,ndA x l s] w (PutQ C us v w (zh x (prs l))):=by
 have o:x.kind=30∨x.kind=31∨x.kind=32∨x.kind=33∨x.kind=34∨x.kind=35∨x.kind=36∨x.kind=37∨x.kind=38∨x.kind=39∨x.kind=40∨x.kind=41∨x.kind=42∨x.kind=43∨x.kind=44∨x.kind=45∨x.kind=46∨x.kind=47∨x.kind=48∨x.kind=49∨x.kind=50∨x.kind=51∨x.kind=52∨x.kind=53:=by omega
 rcases o with c | c | c | c | c | c | c | c | c | c | c | c | c | c | c | c | c | c | c | c | c | c | c | c
 · exact zZQ h c b d
 · exact zZR h c j e b d
 · exact zZS h c f e b d
 · exact zZT h c b d
 · exact zZU h c b d
 · exact zZV h c b d
 · exact zZW h c b d
 · exact zZX h c b d
 · exact zZY h c b d
 · exact zZZ h c b d
 · exact zZa h c f e b d
 · exact zZb h c b d
 · exact zZc h c b d
 · exact zZd h c b d
 · exact zZe h c b d
 · exact zZf h c b d
 · exact zZg h c b d
 · exact zZh h c b d
 · exact zZi h c b d
 · exact zZj h c b d
 · exact zZk h c b d
 · exact zZl h c b d
 · exact zZm h c b d
 · exact zZn h c b d
theorem zQk {l:List Tr} (h:t∈l):t.size≤sizes l:=by
 induction l with
 | nil=>cases h
 | cons a r b=>
  rw[zH];rcases List.mem_cons.1 h with rfl | h
  · omega
  · have:=b h;omega
theorem zQl (l:List Tr):l.length≤sizes l:=by
 induction l with
 | nil=>simp
 | cons a r b=>rw[zH,List.length_cons];have:=zBO a;omega
theorem zJ5 {k:Int} (h:zAr k=true):(1≤k∧k≤20)∨(30≤k∧k≤53):=by
 unfold zAr at h;simp only[Bool.or_eq_true,Bool.and_eq_true,decide_eq_true_eq]at h;exact h
theorem zJ6 {x:Nd} (h:zC4 ts x=true):zAr x.kind=true:=by
 cases h2:zAr x.kind with
 | true=>rfl
 | false=>rw[zH3 h2]at h;cases h
theorem zNe {C:Cx} {m:Nat} (hN:zAl C m) (he:zB4 C.ts 0 C.ts=true) (a2:m≤1000000):zAl C (m+1):=by
 intro t k us v w H h e q;obtain⟨x,l⟩:=t;obtain⟨b,o,s,hA,a3,a6,hC,r⟩:=e.node h;have I:=zMG h r;have d:((Tr.mk x l).laid k).kids.length=l.length:=zBd (k+1) l;have c:=zKW C.ts 0 he k _ h.get;have u:zK x=true:=c.1;have A:(1≤x.kind∧x.kind≤20)∨(30≤x.kind∧x.kind≤53):=zJ5 (show zAr x.kind=true from zJ6 (ts:=C.ts) (x:=(Tr.mk x l).laid k) c.2.1);rw[zi]at H;have z:=At.cnt he h;have D:=r.ck.1;rw[d]at D;have J:Reads w C.B 1 s.As x.str.length (zAM x.str):=r.str;have L:Reads w C.B 1 s.Am x.mag.length (zRc x.mag):=r.mag;have M:∀y∈x.mag,y < 4294967296:=r.limb;have E:Nx C m k x l s w:=⟨hN,h,fun t ht=>by have:=zQk ht;omega,z,u,by have:=zQl l;omega,a2,I,D,by omega⟩;obtain⟨N,O,P,Q,R,S,T,F⟩:=hC;rw[d]at F;have j0:w.cell? ⟨b,o+k*8,none⟩=some (.int .i64 x.kind):=N;have j1:w.cell? ⟨b,o+k*8+1,none⟩=some (.string ⟨x.name.toArray⟩):=O;have j2:w.cell? ⟨b,o+k*8+2,none⟩=some (.slice s.As x.str.length s.cs):=P;have j3:w.cell? ⟨b,o+k*8+3,none⟩=some (.int .i64 x.nk):=Q;have j4:w.cell? ⟨b,o+k*8+4,none⟩=some (.int .i64 x.nn):=R;have j5:w.cell? ⟨b,o+k*8+5,none⟩=some (.bool x.neg):=S;have j6:w.cell? ⟨b,o+k*8+6,none⟩=some (.slice s.Am x.mag.length s.cm):=T;have j7:w.cell? ⟨b,o+k*8+7,none⟩=some (.slice s.Ak l.length s.ck):=F;have a0:=e.pn.c0;rw[hA]at a0;have a4:=e.pn.lt;have G:=e.blt;have a7:b < w.heap.size:=by omega
 obtain⟨g,hg⟩:∃g,C.g=g:=⟨_,rfl⟩;obtain⟨n,hn⟩:∃n,C.n=n:=⟨_,rfl⟩;rw[hg,hn]at a0;rw[hg]at a4;rw[hn]at a3;have a5:(k:Int) < (n:Int):=by omega
 obtain⟨K,f⟩:=jx x.kind;have e0:prT (.mk x l)=zAn x (prs l):=zAR x l;rw[e0]at q⊢
 by_cases a1:K < 30
 · have e1:zAn x (prs l)=zj x (prs l):=by unfold zAn;rw[if_pos (by rw[f];exact a1)]
   rw[e1]at q⊢;have U:=zA (fun(W:World) (hb:Below w.heap.size w W)=>zIl (E.below (hb.mono (Nat.le_of_lt G))) jo (e.below hb) q);have V:=zA (show∀(W:World),Below w.heap.size w W→Calls prog 28 #[.pointer (some g),k,.agg #[K,x.name,.slice s.As x.str.length s.cs,x.nk,x.nn,x.neg,.slice s.Am x.mag.length s.cm,.slice s.Ak l.length s.ck]] W (PutQ C us v W (zj x (prs l)))from by rw[←f,←hg];exact U.out);rw[f]at j0;rw[hg];clear U q E J L M I c u A z r hA e hN h he H d N O P Q R S T F e0 e1 f hg hn D;go_enter func14,ntmps14;go_wp2_with fail;refine(V.out _ (ja)).mono ?_;rintro e1 w1 ⟨rfl,v1,j,p⟩;have X:=zA j;have Y:=zA p;clear j p;go_wp2_with fail;exact jr (PutQ.back (ja) ⟨rfl,v1,X,Y⟩)
 · have e1:zAn x (prs l)=zh x (prs l):=by unfold zAn;rw[if_neg (by rw[f];exact a1)]
   rw[e1]at q⊢;have U:=zA (fun(W:World) (hb:Below w.heap.size w W)=>zHT (E.below (hb.mono (Nat.le_of_lt G))) jo jo (J.below (hb.mono (Nat.le_of_lt G))) (L.below (hb.mono (Nat.le_of_lt G))) M (e.below hb) q);have V:=zA (show∀(W:World),Below w.heap.size w W→Calls prog 29 #[.pointer (some g),.agg #[K,x.name,.slice s.As x.str.length s.cs,x.nk,x.nn,x.neg,.slice s.Am x.mag.length s.cm,.slice s.Ak l.length s.ck]] W (PutQ C us v W (zh x (prs l)))from by rw[←f,←hg];exact U.out);rw[f]at j0;rw[hg];clear U q E J L M I c u A z r hA e hN h he H d N O P Q R S T F e0 e1 f hg hn D;go_enter func14,ntmps14;go_wp2_with fail;refine(V.out _ (ja)).mono ?_;rintro e1 w1 ⟨rfl,v1,j,p⟩;have X:=zA j;have Y:=zA p;clear j p;go_wp2_with fail;exact jr (PutQ.back (ja) ⟨rfl,v1,X,Y⟩)
theorem zQm {C:Cx} (b:zB4 C.ts 0 C.ts=true):∀m,m≤1000000→zAl C m:=by
 intro m
 induction m with
 | zero=>intro _ t k us v w d;have:=zBO t;omega
 | succ m c=>intro e;exact zNe (c jo) b jo
def zQn (u:List UInt16) (w:World) (e:Ending) (w':World):Prop:=
 Below w.heap.size w w'∧(4096 < u.length∧e=.returned (.tuple #[(),(3:Int)])∨u.length≤4096∧∃v,e=.returned (.tuple #[v,(0:Int)])∧Made w w' 65 v (zAM u))
theorem zQo {A:Option Addr} {c B n:Nat} {w:World} (hN:NdsR w B A n ts) (hB:B≤w.heap.size) (Y:n≤c) (M:(zAx ts).length≤1000000) (N:Tab w) (v:0 < B) (I:May ts t) (O:MayPut [] (prT t)):
 Calls prog 7 #[.agg #[.slice A n c]] w (zQn (zEc t) w):=by
 obtain⟨W,q⟩:=jx (w.alloc (.cells #[.slice A n c] 24));have e:Below w.heap.size w W:=jb q;have y:w.heap.size < W.heap.size:=by rw[←q];simp
 have x0:W.cell? w.heap.size=some (.slice A n c):=jc q;have CM:=zA (zQT (c:=c) (hN.below (e.mono hB)) (yAD hB e.size) Y M (zVB I));have HN:=zA hN;have z:=zA e;have HT:=zA N;have r:=zA I;have P:=zA O;obtain⟨X,Q⟩:=jx w.heap.size;go_enter func7,ntmps7;go_upto_region 1 with(fail);clear hN M e N I O q;rw[Q]at x0 y;clear Q;go_wp2_with fail;refine CM.out.mono ?_;rintro e1 w1 ⟨rfl,k⟩;have y0:=(k.cell (p:=X) y).trans x0;have f:=zA (z.out.trans (k.mono z.out.size));clear k;go_upto_region 4 with(fail);obtain⟨w2,b⟩:=jx (w1.alloc (.cells #[.slice A n c,()] 48));have D:Below w1.heap.size w1 w2:=jb b;have g:=zA (f.out.trans (D.mono f.out.size));have R:Pe ⟨B,w1.heap.size+1,w1.heap.size,n,c,A,ts⟩ [] (.slice none 0 0) w2:=by
  refine⟨⟨?_,?_,?_,yAJ _ _ _ _,yAF _⟩,HN.out.below (g.out.mono hB),?_,?_,HT.out.below v (g.out.mono hB),v⟩
  · rw[←b];exact World.cell?_alloc_at _ _ _ _ rfl
  · rw[←b];exact World.cell?_alloc_at _ _ _ _ rfl
  · rw[←b];exact World.frozen?_alloc_new _ _ _ _
  · rw[←b];simp
  · exact yAD hB f.out.size
 have S:=zA (zQm (C:=⟨B,w1.heap.size+1,w1.heap.size,n,c,A,ts⟩) r.out.each 4096 jo t 0 [] _ w2 (by have:=r.out.len;rwa[r.out.flat,flatT_len]at this) r.out.at_ R P);have T:w1.heap.size < w2.heap.size:=by rw[←b];simp
 rw[b];have l:=zA f.out.size;obtain⟨G,J⟩:=jx w1.heap.size;clear b D R y0 x0;rw[J]at S T l;rw[J];clear J;go_wp2_with fail;refine S.out.mono ?_;rintro e3 w3 ⟨rfl,v3,m,E⟩;have z1:w3.cell? ⟨G,1,none⟩=some v3:=m.pn.c1;have d:=m.pn.own;obtain⟨U,c3,rfl,_,_⟩:=zS d;obtain⟨u,s⟩:=jx (zCu [] (prT t));have F:zEc t=u:=s;have H:=zA F;have j:w3.ownsRow (G+1) 65 1 (.slice U u.length c3) u.length (zAM u):=by rw[←s];exact d
 rw[s]at z1;have HO:=zA j;have o:=zA (g.out.trans (E.below (B:=w.heap.size) (fun i hi=>by simp[Value.ownBlock]at hi) l g.out.size));clear m E d j s F
 by_cases L:4096 < u.length
 · have h1:(4096:Int) < (u.length:Int):=by omega
   go_wp2_with fail
   go_ret2
   show zQn (zEc t) w _ _;rw[H.out];exact⟨o,.inl ⟨L,rfl⟩⟩
 · have h1:¬(4096:Int) < (u.length:Int):=by omega
   go_wp2_with fail
   go_ret2
   show zQn (zEc t) w _ _;rw[H.out];have V:w3.ownsRow w.heap.size 65 1 (.slice U u.length c3) (zAM u).length (zAM u):=by
    rw[zCV];exact zMI HO (yAD l (Nat.le_succ G))
   exact⟨o,.inr ⟨by omega,_,rfl,⟨V,o⟩⟩⟩
theorem zTu (h:May ts t) (b:∀x∈ts,∀y∈x.mag,y < 4294967296):MayPut [] (prT t):=by
 refine⟨fun s hs e=>(zId (zXy (zPC _ t (yAC _) (zIQ h).good (h.short b) s hs)) []).2.2.2 (by rw[e];rfl),?_⟩;have:=h.few b;simp;omega
theorem zWh (h:May ts t) (b:∀x∈ts,∀y∈x.mag,y < 4294967296) (c:(zEc t).length≤4096):zBF (zEc t)=(ts,0,0):=by
 rw[zTA (zIQ h) (h.short b) c,←h.flat]
theorem zg (a b:List Tr):sizes (a++b)=sizes a+sizes b:=by
 induction a with
 | nil=>rw[List.nil_append,zN,Nat.zero_add]
 | cons t r c=>rw[List.cons_append,zH,zH,c];omega
theorem zTv {u:List UInt16} {at_:Nat} (h:zBF u=(ts,at_,0)):∃L,zC3 u=(L,0,0)∧Lst L∧(zE L (.program []) s0).2.bad=0∧(zE L (.program []) s0).1.size≤4096∧depT (zE L (.program []) s0).1≤48∧ts=flatT 0 (zE L (.program []) s0).1∧at_=0:=by
 obtain⟨⟨L,a,e⟩,b⟩:=jx (zC3 u);unfold zBF at h;rw[b]at h;simp only at h
 by_cases c:e≠0
 · rw[if_pos c]at h;simp only[Prod.mk.injEq]at h;exact absurd h.2.2 c
 rw[if_neg c]at h;have g:=yAK.1 c;subst g;have j:¬4096 < u.length:=by
  intro h1;unfold zC3 at b;rw[if_pos h1]at b;simp only[Prod.mk.injEq]at b;omega
 have d:=zPp (u:=u) jo (by rw[b]);rw[b]at d;simp only at d;subst d;refine⟨L,b,zGL b,?_⟩;show(zE L (.program []) ⟨0,0,0⟩).2.bad=0∧_
 by_cases hb:(zE L (.program []) ⟨0,0,0⟩).2.bad≠0
 · rw[if_pos hb]at h;simp only[Prod.mk.injEq]at h;exact absurd h.2.2 hb
 rw[if_neg hb]at h
 by_cases hs:4096 < (zE L (.program []) ⟨0,0,0⟩).1.size
 · rw[if_pos hs]at h;simp only[Prod.mk.injEq]at h;omega
 rw[if_neg hs]at h
 by_cases f:48 < depT (zE L (.program []) ⟨0,0,0⟩).1
 · rw[if_pos f]at h;simp only[Prod.mk.injEq]at h;omega
 rw[if_neg f]at h;simp only[Prod.mk.injEq]at h;exact⟨yAK.1 hb,Nat.le_of_not_lt hs,Nat.le_of_not_lt f,h.1.symm,h.2.1.symm⟩
end Go.Proofs.YtlnbbaehihgigaaGreatDoor
