/- Joined for the claim EarlyRoot: the parser, the lexer and the trees as they are walked, made short by a program of mine. -/
import Derived.Deep.CutBlock
import Derived.Deep.DeepCutAuto
import Derived.Deep.RegionWith
import Derived.Test.YtlohaclgbfhijaaGreatDoorE09
import Derived.Deep.LoopGhost
import Derived.Deep.RegionHeld3
import Derived.Test.YtlohaclgbfhijaaGreatDoorE10
import Derived.Test.YtlohaclgbfhijaaGreatDoorE08
import Derived.Test.YtlohaclgbfhijaaGreatDoorE01
set_option maxHeartbeats 16000000
set_option maxRecDepth 1000000
namespace Go.Proofs.YtlohaclgbfhijaaGreatDoor
open Go.Proofs.Tryz
open Go.RowKit
theorem zLS {A:Option Addr} {c B n:Nat} {xs:List UInt16} {w:World} (hB:B≤w.heap.size) (hn:xs.length=n) (ha:Reads w B 1 A n (zAD xs)) (hl:n≤4096) {s:ByteArray} {b:Bool} (h1:zER xs=s) (h2:zBR xs=b):
 Calls prog 108 #[.slice A n c] w fun e w'=>e=.returned (.tuple #[.string s,.bool b])∧Below w.heap.size w w':=by
 subst hn h1 h2;exact zLI hB ha (by omega)
theorem zLT {l:List UInt16} {n:Nat} (h:l.length≤n) (hn:n≤4):zBE l 4=zBE l (min 4 l.length):=by
 have hz:∀k,l.length < k→zAq l k=0:=by
  intro k hk;unfold zAq;rw[if_neg];rw[yAI (by omega:¬k≤l.length)];simp
 have h1:∀k,l.length≤k→zBE l k=zBE l l.length:=by
  intro k
  induction k with
  | zero=>
   intro hk;have:l.length=0:=by omega
   rw[this]
  | succ k ih=>
   intro hk
   by_cases e:l.length=k+1
   · rw[e]
   · rw[zBE,if_neg (by rw[hz (k+1) (by omega)];simp)];exact ih (by omega)
 rw[h1 4 (by omega),Nat.min_eq_right (by omega)]
theorem zHS (l:List UInt16):zBE l 4=zBE l (min 4 l.length):=by
 by_cases h:l.length≤4
 · exact zLT h (yAC _)
 · rw[Nat.min_eq_left (by omega)]
theorem zDY {l:List UInt16} {n:Nat} (h:zAq l (n+1)=0):zBE l (n+1)=zBE l n:=by
 rw[zBE,if_neg (by rw[h];simp)]
theorem zGZ {l:List UInt16} {n:Nat} (h:zAq l (n+1)≠0):zBE l (n+1)=some (n+1):=by
 rw[zBE,if_pos h]
theorem zLU {l:List UInt16} {n:Nat} (hn:n≤l.length):zAq l n=if(zBR (l.take n)&& !(decide (asc (l.take n)=[63,46])&&zAy 2 zO l))=true then zBV (asc (l.take n))else 0:=by
 unfold zAq zBR;rw[decide_eq_true hn,Bool.true_and]
theorem zLV {l:List UInt16} (h:zBR l=true):zER l=⟨(asc l).toArray⟩:=by
 unfold zER;rw[if_pos h];rfl
theorem zCZ {s:ByteArray} {l:List UInt8} (hs:s=⟨l.toArray⟩) {n:Nat} (h:zBV l=n) (w:World):Calls prog 109 #[.string s] w fun e w'=>e=.returned (.int .i64 (n:Int))∧w=w':=by
 subst hs h;exact zKK ⟨l.toArray⟩ w
theorem zLW (l:List UInt8):zBV l=0∨zBV l=1∨zBV l=2:=by
 unfold zBV;split
 · simp
 · split<;>simp
theorem zIM {l:List UInt16} {z:Bool} {j e m:Nat} {t:Tok} (h1:zBE l 4=zBE l (j+1)) (h2:zAq l (j+1)=2) (hq:zCA z l=(e,t,m)):6=e∧zj=t∧0=m:=by
 unfold zCA at hq;rw[h1,zGZ (by rw[h2];decide)]at hq;simp only at hq;rw[if_pos h2]at hq;exact zBS hq
theorem zP3 {l:List UInt16} {z:Bool} {j e m:Nat} {t:Tok} (h1:zBE l 4=zBE l (j+1)) (h2:zAq l (j+1)=1) (hq:zCA z l=(e,t,m)):0=e∧{zj with kind:=5,text:=asc (l.take (j+1))}=t∧j+1=m:=by
 unfold zCA at hq;rw[h1,zGZ (by rw[h2];decide)]at hq;simp only at hq;rw[if_neg (by rw[h2];decide)]at hq;exact zES hq
theorem zLX {l:List UInt16} {z:Bool} {e m:Nat} {t:Tok} (h1:zBE l 4=none) (hq:zCA z l=(e,t,m)):(if(zAy 0 (fun x=>decide (128≤x.toNat) || x.toNat==96 || x.toNat==92) l || (z&&zq [35,33] l))=true then 6 else 5)=e:=by
 unfold zCA at hq;rw[h1]at hq;simp only at hq;split at hq
 · rename_i h;rw[if_pos h];exact(zBS hq).1
 · rename_i h;rw[if_neg h];exact(zBS hq).1
structure SgS (w wr:World) (g:Nat) (A:Option Addr) (n c k:Nat):Prop where
 mv:Mv w wr g A n c k
 zero:Blk wr w.heap.size zAp
theorem SgS.below {w wr w':World} {g n c k:Nat} {A:Option Addr} (h:SgS w wr g A n c k) (_hg:g < w.heap.size) (hb:Below wr.heap.size wr w'):SgS w w' g A n c k:=
 ⟨h.mv.below hb,h.zero.below hb h.zero.1⟩
theorem SgS.drewN {w wr:World} {g n c k:Nat} {A:Option Addr} (h:SgS w wr g A n c k) (hg:g < w.heap.size) (m:Nat):SgS w (wr.drewN m) g A n c k:=
 ⟨h.mv.drewN m,h.zero.grown (zp wr (some g) m) (by omega)⟩
theorem SgS.drew {w wr:World} {g n c k:Nat} {A:Option Addr} (h:SgS w wr g A n c k) (hg:g < w.heap.size):SgS w wr.drew g A n c k:=
 ⟨h.mv.drew,h.zero.grown (zAk wr (some g)) (by omega)⟩
theorem zFK {A:Option Addr} {c g B k n:Nat} {u:List UInt16} {w:World} (hr:Rd w g A n c k) (hn:u.length=n) (ha:Reads w B 1 A n (zAD u)) (hB:B≤g) (hk:k < u.length) (hl:n≤4096) (hc:n≤c) {m e:Nat} {t:Tok} (hq:zCA (k==0) (u.drop k)=(e,t,m)):
 Calls prog 72 #[.pointer (some ⟨g,0,none⟩)] w fun ev w'=>∃v,ev=.returned (.tuple #[v,.int .i64 (e:Int)])∧(e≠0→v=noV)∧(e=0→zQo w' w.heap.size t v∧Mv w w' g A n c (k+m))∧w.grownBy w' (some g):=by
 subst hn;have hg:=hr.lt;have HA:=zA ha;have HQ:=zA hq;have HS0:=zA (show SgS w (w.alloc (.cells zAp.toArray 44)) g A u.length c k from⟨⟨hr.alloc _,zG w _ _⟩,Blk.new w zAp 44⟩);have hc0:=hr.c0;have hc1:=hr.c1;clear hq ha hr;go_enter func72,ntmps72;go_upto_region 1 with(fail)
 go_cut [4] (fun v wx=>v=.int .i64 ((min 4 (u.length - k):Nat):Int)∧Hid (SgS w wx g A u.length c k))
 case first=>
  go_region
  all_goals go_wp2_with fail
  all_goals go_meet
  all_goals first | exact⟨congrArg (Value.int .i64) (by omega),HS0.out.drew hg⟩ | exact⟨congrArg (Value.int .i64) (by omega),HS0.out⟩
 case rest=>
  obtain⟨hv,hS⟩:=hcut;subst hv;clear hc0 hc1 HS0;go_wp2
  go_loopg [4] (min 4 (u.length - k)) (fun r v wr=>v=.int .i64 (r:Int)∧r≤4∧k+r≤u.length∧Hid (SgS w wr g A u.length c k)∧Hid (zBE (u.drop k) 4=zBE (u.drop k) r))
  case atStart=>exact⟨rfl,by omega,by omega,hS,by have:=zHS (u.drop k);rw[List.length_drop]at this;exact this⟩
  case round=>
   obtain⟨rfl,h4,hkr,hS,hsg⟩:=hrel;have hc0:=hS.out.mv.rd.c0;have hc1:=hS.out.mv.rd.c1;have hf1:=hS.out.mv.rd.f1;have har:=zA (HA.out.grown hS.out.mv.grown hB (Nat.le_of_lt hg))
   by_cases hr0:0 < gk
   · obtain⟨j,rfl⟩:∃j,gk=j+1:=⟨gk - 1,by omega⟩;obtain⟨blk,off,hA,_,hcell⟩:=har.out.spotL (by omega);subst hA;clear hcell;have hsl:=har.out.cut16 (k:=k) (by omega) hc;rw[if_neg (by omega)]at hsl;have hsl:=hsl.take16 (k:=j+1) (by rw[List.length_drop];omega);obtain⟨xs,hxs⟩:∃xs,(u.drop k).take (j+1)=xs:=⟨_,rfl⟩;have hxl:xs.length=j+1:=by rw[←hxs,List.length_take,List.length_drop];omega
     rw[hxs,hxl]at hsl;have hsl:Reads wr B 1 (some ⟨blk,off+k,none⟩) (j+1) (zAD xs):=by
      have e:Option.map (fun x:Addr=>x.add k) (some ⟨blk,off,none⟩)=some ⟨blk,off+k,none⟩:=congrArg some (Addr.add_lit _ _ _);rw[←e];exact hsl
     obtain⟨sv,hsv⟩:∃sv,zER xs=sv:=⟨_,rfl⟩;obtain⟨ok,hok⟩:∃ok,zBR xs=ok:=⟨_,rfl⟩;obtain⟨d,hd⟩:∃d,zAy 2 zO (u.drop k)=d:=⟨_,rfl⟩;have hat:zAq (u.drop k) (j+1)=if(ok&& !(decide (asc xs=[63,46])&&d))=true then zBV (asc xs)else 0:=by
      rw[zLU (by rw[List.length_drop];omega),hxs,hok,hd]
     have htx:ok=true→sv=⟨(asc xs).toArray⟩:=fun h=>by rw[←hsv];exact zLV (by rw[hok,h])
     have HSL:=zA hsl;have HXL:=zA hxl;have HXS:=zA hxs;have HP:=zA (And.intro hsv hok);have HD:=zA hd;have HAT:=zA hat
     have HTX:=zA htx;have hB2:B≤wr.heap.size:=by have:=hS.out.mv.grown.size;omega
     obtain⟨h,hh⟩:∃h,k+(j+1)=h:=⟨_,rfl⟩;have hwr:IntKind.i64.wrap ((k:Int)+((j:Int)+1))=(h:Int):=by rw[IntKind.wrap_i64];omega
     have g1:0≤(h:Int):=by omega
     have g2:(h:Int)≤(c:Int):=by omega
     have g3:k≤h:=by omega
     have g4:¬c=k:=by omega
     have g5:h - k=j+1:=by omega
     have HH:=zA hh;clear hh;clear hsl hxl hxs hsv hok hd hat htx;go_upto_region 4 with(fail)
     go_cut [5,6] (fun v5 v6 wx=>v5=.string sv∧v6=.bool ok∧Hid (SgS w wx g (some ⟨blk,off,none⟩) u.length c k))
     case first=>
      have hrdD:=zA (hS.out.mv.rd.drew);have hgW:g < wr.drew.heap.size:=hS.out.mv.rd.lt;go_region_held3 (fun w'=>w'.cell? ⟨g,0,none⟩=some (.slice (some ⟨blk,off,none⟩) u.length c)∧w'.cell? ⟨g,1,none⟩=some (.int .i64 (k:Int)))
       (first | (exact⟨hc0,hc1⟩) | (exact⟨(hrdD.out.below hb4 hgW).c0,(hrdD.out.below hb4 hgW).c1⟩) | go_keep)
       (first | (go_at_call 108;go_split_ands;refine(zLS (w:=wr.drew) hB2 HXL.out (by exact HSL.out) (by omega) HP.out.1 HP.out.2).mono ?_;rintro e4 w4 ⟨rfl,hb4⟩))
      all_goals go_wp2_with fail
      all_goals go_meet
      all_goals exact⟨rfl,rfl,(hS.out.drew hg).below hg hb4⟩
     case rest=>
      obtain⟨h5,h6,hS4⟩:=hcut;subst h5 h6;clear hc0 hc1 hf1 hwr hS har;have hc0:=hS4.out.mv.rd.c0;have hc1:=hS4.out.mv.rd.c1;have hf1:=hS4.out.mv.rd.f1;have har:=zA (HA.out.grown hS4.out.mv.grown hB (Nat.le_of_lt hg));cases ok with
      | false=>
       have hz:=zA (show zAq (u.drop k) (j+1)=0 by rw[HAT.out];simp);go_wp2_with fail
       go_roundg j
       case measure=>omega
       case rel=>exact⟨congrArg (Value.int .i64) (by omega),by omega,by omega,hS4.out,hsg.out.trans (zDY hz.out)⟩
      | true=>
       have HSV:=zA (HTX.out rfl);obtain⟨sf,hsf⟩:∃sf,zBV (asc xs)=sf:=⟨_,rfl⟩;have hs3:sf=0∨sf=1∨sf=2:=by rw[←hsf];exact zLW _
       have HSF:=zA hsf;clear hsf
       by_cases h0:sf=0
       · subst h0;have hz:=zA (show zAq (u.drop k) (j+1)=0 by rw[HAT.out,HSF.out];simp);clear hs3;go_wp2_with (go_at_call 109;refine(zCZ HSV.out HSF.out _).mono ?_;rintro e3 w3 ⟨rfl,rfl⟩)
         go_roundg j
         case measure=>omega
         case rel=>exact⟨congrArg (Value.int .i64) (by omega),by omega,by omega,hS4.out,hsg.out.trans (zDY hz.out)⟩
       · have h0b:((sf:Int)==0)=false:=yA.2 (by omega)
         by_cases hq2:asc xs=[63,46]
         · have h2:sf=2:=by rw[←HSF.out,hq2];decide
           subst h2;have hat2:=zA (show zAq (u.drop k) (j+1)=if d=true then 0 else 2 by rw[HAT.out,HSF.out,hq2];cases d<;>rfl);obtain rfl:sv=⟨#[63,46]⟩:=by rw[HSV.out,hq2]
           have HQ2:=zA hq2;clear hq2 h0b h0 hs3;have HSX:=zA (show zBV [63,46]=2 by decide);cases d with
           | true=>
            have hz:=zA (show zAq (u.drop k) (j+1)=0 by rw[hat2.out];rfl);go_wp2_with (go_at_call 109;refine(zCZ (l:=[63,46]) rfl HSX.out _).mono ?_;rintro e3 w3 ⟨rfl,rfl⟩);refine(zAO (j:=2) hS4.out.mv.rd rfl har.out (by omega) hl (by omega) HD.out).mono ?_;rintro e4 w4 ⟨rfl,m4,hw4⟩;subst hw4;go_wp2_with fail
            go_roundg j
            case measure=>omega
            case rel=>exact⟨congrArg (Value.int .i64) (by omega),by omega,by omega,hS4.out.drewN hg m4,hsg.out.trans (zDY hz.out)⟩
           | false=>
            have hz:=zA (show zAq (u.drop k) (j+1)=2 by rw[hat2.out];rfl);go_wp2_with (go_at_call 109;refine(zCZ (l:=[63,46]) rfl HSX.out _).mono ?_;rintro e3 w3 ⟨rfl,rfl⟩);refine(zAO (j:=2) hS4.out.mv.rd rfl har.out (by omega) hl (by omega) HD.out).mono ?_;rintro e4 w4 ⟨rfl,m4,hw4⟩;subst hw4;have hzr:=zA (hS4.out.drewN hg m4).zero;obtain⟨b0,fb0⟩:=hzr.out.2 0 (by decide);obtain⟨b1,fb1⟩:=hzr.out.2 1 (by decide);obtain⟨b2,fb2⟩:=hzr.out.2 2 (by decide);obtain⟨b3,fb3⟩:=hzr.out.2 3 (by decide);obtain⟨b4,fb4⟩:=hzr.out.2 4 (by decide);obtain⟨b5,fb5⟩:=hzr.out.2 5 (by decide);obtain⟨b6,fb6⟩:=hzr.out.2 6 (by decide);obtain⟨b7,fb7⟩:=hzr.out.2 7 (by decide);obtain⟨b8,fb8⟩:=hzr.out.2 8 (by decide);go_wp2_with (go_at_call 109;refine(zCZ (l:=[63,46]) rfl HSX.out _).mono ?_;rintro e3 w3 ⟨rfl,rfl⟩);obtain⟨q0,q1,q2,q3,q4,q5,q6,q7,q8⟩:=zS (v0:=.int .i64 0) (v1:=.string ⟨#[]⟩) (v2:=.slice none 0 0) (v3:=.int .i64 0) (v4:=.int .i64 0) (v5:=.bool false) (v6:=.slice none 0 0) (v7:=.int .i64 0) (v8:=.bool false) hzr.out rfl;refine bodyPost_ret (v:=.tuple #[.agg #[.int .i64 0,.string ⟨#[]⟩,.slice none 0 0,.int .i64 0,.int .i64 0,.bool false,.slice none 0 0,.int .i64 0,.bool false],.int .i64 6]) (by simp[results,results72,go_sem,q0,q1,q2,q3,q4,q5,q6,q7,q8]) rfl ?_;obtain⟨z1,z2,z3⟩:=zIM hsg.out hz.out HQ.out;subst z1;exact⟨_,rfl,fun _=>rfl,fun h=>absurd h (by decide),(zn (hS4.out.drewN hg m4).mv (yAC _) hg).grown⟩
         · have hat2:=zA (show zAq (u.drop k) (j+1)=sf by rw[HAT.out,HSF.out,yAI hq2];rfl);have hne:(sv.toList==[63,46])=false:=by rw[zKJ,HSV.out];exact yAI hq2
           clear hq2;have hzr:=zA hS4.out.zero;obtain⟨b0,fb0⟩:=hzr.out.2 0 (by decide);obtain⟨b1,fb1⟩:=hzr.out.2 1 (by decide);obtain⟨b2,fb2⟩:=hzr.out.2 2 (by decide);obtain⟨b3,fb3⟩:=hzr.out.2 3 (by decide);obtain⟨b4,fb4⟩:=hzr.out.2 4 (by decide);obtain⟨b5,fb5⟩:=hzr.out.2 5 (by decide);obtain⟨b6,fb6⟩:=hzr.out.2 6 (by decide);obtain⟨b7,fb7⟩:=hzr.out.2 7 (by decide);obtain⟨b8,fb8⟩:=hzr.out.2 8 (by decide)
           by_cases h2:sf=2
           · subst h2;clear hs3 h0;go_wp2_with (go_at_call 109;refine(zCZ HSV.out HSF.out _).mono ?_;rintro e3 w3 ⟨rfl,rfl⟩);obtain⟨q0,q1,q2,q3,q4,q5,q6,q7,q8⟩:=zS (v0:=.int .i64 0) (v1:=.string ⟨#[]⟩) (v2:=.slice none 0 0) (v3:=.int .i64 0) (v4:=.int .i64 0) (v5:=.bool false) (v6:=.slice none 0 0) (v7:=.int .i64 0) (v8:=.bool false) hzr.out rfl;refine bodyPost_ret (v:=.tuple #[.agg #[.int .i64 0,.string ⟨#[]⟩,.slice none 0 0,.int .i64 0,.int .i64 0,.bool false,.slice none 0 0,.int .i64 0,.bool false],.int .i64 6]) (by simp[results,results72,go_sem,q0,q1,q2,q3,q4,q5,q6,q7,q8]) rfl ?_;obtain⟨z1,z2,z3⟩:=zIM hsg.out hat2.out HQ.out;subst z1;exact⟨_,rfl,fun _=>rfl,fun h=>absurd h (by decide),(zn hS4.out.mv (yAC _) hg).grown⟩
           · obtain rfl:sf=1:=by omega
             clear hs3 h0 h2;have hM5:=zA (Mv.step hS4.out.mv (k':=k+(j+1)) (z:=(k:Int)+((j:Int)+1)) (by omega));go_wp2_with (go_at_call 109;refine(zCZ HSV.out HSF.out _).mono ?_;rintro e3 w3 ⟨rfl,rfl⟩);have hzr2:=zA (hzr.out.setOther (S:=g) (i:=1) (by omega) (.int .i64 ((k:Int)+((j:Int)+1))));obtain⟨q0,q1,q2,q3,q4,q5,q6,q7,q8⟩:=zS (v0:=.int .i64 5) (v1:=.string sv) (v2:=.slice none 0 0) (v3:=.int .i64 0) (v4:=.int .i64 0) (v5:=.bool false) (v6:=.slice none 0 0) (v7:=.int .i64 0) (v8:=.bool false) hzr2.out rfl;refine bodyPost_ret (v:=.tuple #[.agg #[.int .i64 5,.string sv,.slice none 0 0,.int .i64 0,.int .i64 0,.bool false,.slice none 0 0,.int .i64 0,.bool false],.int .i64 0]) (by simp[results,results72,go_sem,q0,q1,q2,q3,q4,q5,q6,q7,q8]) rfl ?_;obtain⟨z1,z2,z3⟩:=zP3 hsg.out hat2.out HQ.out;subst z1 z2 z3;exact⟨_,rfl,fun h=>absurd rfl h,fun _=>⟨⟨_,_,by rw[HSV.out,HXS.out];rfl,yAJ _ _ _ _,yAJ _ _ _ _⟩,zn hM5.out (yAC _) hg⟩,(zn hM5.out (yAC _) hg).grown⟩
   · have hnn:=zA (show zBE (u.drop k) 4=none by rw[hsg.out,show gk=0 by omega];rfl);obtain⟨blk,off,rfl,_,hcell⟩:=har.out.spotL (by omega);have hca:=hcell k hk;have HX:=zA (fun p=>zLJ (q:=p) hk);obtain⟨x,hx⟩:∃x,u[k]=x:=⟨_,rfl⟩;rw[hx]at hca HX;have HE:=zA (zLX hnn.out HQ.out);rw[HX.out]at HE;clear hcell hx;have hx16:=x.toNat_lt
     by_cases h128:128≤x.toNat
     · have e0:((x.toNat:Int)≥128):=by omega
       have hz:=zA (show 6=e by rw[←HE.out];simp[h128]);go_wp2_with fail
       go_quiet (fail)
       have hzr:=zA (hS.out.drewN hg nq).zero;obtain⟨b0,fb0⟩:=hzr.out.2 0 (by decide);obtain⟨b1,fb1⟩:=hzr.out.2 1 (by decide);obtain⟨b2,fb2⟩:=hzr.out.2 2 (by decide);obtain⟨b3,fb3⟩:=hzr.out.2 3 (by decide);obtain⟨b4,fb4⟩:=hzr.out.2 4 (by decide);obtain⟨b5,fb5⟩:=hzr.out.2 5 (by decide);obtain⟨b6,fb6⟩:=hzr.out.2 6 (by decide);obtain⟨b7,fb7⟩:=hzr.out.2 7 (by decide);obtain⟨b8,fb8⟩:=hzr.out.2 8 (by decide);go_wp2;obtain⟨q0,q1,q2,q3,q4,q5,q6,q7,q8⟩:=zS (v0:=.int .i64 0) (v1:=.string ⟨#[]⟩) (v2:=.slice none 0 0) (v3:=.int .i64 0) (v4:=.int .i64 0) (v5:=.bool false) (v6:=.slice none 0 0) (v7:=.int .i64 0) (v8:=.bool false) hzr.out rfl;refine bodyPost_ret (v:=.tuple #[.agg #[.int .i64 0,.string ⟨#[]⟩,.slice none 0 0,.int .i64 0,.int .i64 0,.bool false,.slice none 0 0,.int .i64 0,.bool false],.int .i64 6]) (by simp[results,results72,go_sem,q0,q1,q2,q3,q4,q5,q6,q7,q8]) rfl ?_;obtain rfl:=hz.out;exact⟨_,rfl,fun _=>rfl,fun h=>absurd h (by decide),(zn (hS.out.drewN hg nq).mv (yAC _) hg).grown⟩
     · by_cases h96:x.toNat=96
       · have e1:((x.toNat:Int)==96)=true:=by rw[h96];rfl
         have H96:=zA h96;clear h96;have hz:=zA (show 6=e by rw[←HE.out];simp[H96.out]);go_wp2_with fail
         go_quiet (fail)
         have hzr:=zA (hS.out.drewN hg nq).zero;obtain⟨b0,fb0⟩:=hzr.out.2 0 (by decide);obtain⟨b1,fb1⟩:=hzr.out.2 1 (by decide);obtain⟨b2,fb2⟩:=hzr.out.2 2 (by decide);obtain⟨b3,fb3⟩:=hzr.out.2 3 (by decide);obtain⟨b4,fb4⟩:=hzr.out.2 4 (by decide);obtain⟨b5,fb5⟩:=hzr.out.2 5 (by decide);obtain⟨b6,fb6⟩:=hzr.out.2 6 (by decide);obtain⟨b7,fb7⟩:=hzr.out.2 7 (by decide);obtain⟨b8,fb8⟩:=hzr.out.2 8 (by decide);go_wp2;obtain⟨q0,q1,q2,q3,q4,q5,q6,q7,q8⟩:=zS (v0:=.int .i64 0) (v1:=.string ⟨#[]⟩) (v2:=.slice none 0 0) (v3:=.int .i64 0) (v4:=.int .i64 0) (v5:=.bool false) (v6:=.slice none 0 0) (v7:=.int .i64 0) (v8:=.bool false) hzr.out rfl;refine bodyPost_ret (v:=.tuple #[.agg #[.int .i64 0,.string ⟨#[]⟩,.slice none 0 0,.int .i64 0,.int .i64 0,.bool false,.slice none 0 0,.int .i64 0,.bool false],.int .i64 6]) (by simp[results,results72,go_sem,q0,q1,q2,q3,q4,q5,q6,q7,q8]) rfl ?_;obtain rfl:=hz.out;exact⟨_,rfl,fun _=>rfl,fun h=>absurd h (by decide),(zn (hS.out.drewN hg nq).mv (yAC _) hg).grown⟩
       · have e1:((x.toNat:Int)==96)=false:=yA.2 (by omega)
         by_cases h92:x.toNat=92
         · have e2:((x.toNat:Int)==92)=true:=by rw[h92];rfl
           have H92:=zA h92;clear h92 h96;have hz:=zA (show 6=e by rw[←HE.out];simp[H92.out]);go_wp2_with fail
           go_quiet (fail)
           have hzr:=zA (hS.out.drewN hg nq).zero;obtain⟨b0,fb0⟩:=hzr.out.2 0 (by decide);obtain⟨b1,fb1⟩:=hzr.out.2 1 (by decide);obtain⟨b2,fb2⟩:=hzr.out.2 2 (by decide);obtain⟨b3,fb3⟩:=hzr.out.2 3 (by decide);obtain⟨b4,fb4⟩:=hzr.out.2 4 (by decide);obtain⟨b5,fb5⟩:=hzr.out.2 5 (by decide);obtain⟨b6,fb6⟩:=hzr.out.2 6 (by decide);obtain⟨b7,fb7⟩:=hzr.out.2 7 (by decide);obtain⟨b8,fb8⟩:=hzr.out.2 8 (by decide);go_wp2;obtain⟨q0,q1,q2,q3,q4,q5,q6,q7,q8⟩:=zS (v0:=.int .i64 0) (v1:=.string ⟨#[]⟩) (v2:=.slice none 0 0) (v3:=.int .i64 0) (v4:=.int .i64 0) (v5:=.bool false) (v6:=.slice none 0 0) (v7:=.int .i64 0) (v8:=.bool false) hzr.out rfl;refine bodyPost_ret (v:=.tuple #[.agg #[.int .i64 0,.string ⟨#[]⟩,.slice none 0 0,.int .i64 0,.int .i64 0,.bool false,.slice none 0 0,.int .i64 0,.bool false],.int .i64 6]) (by simp[results,results72,go_sem,q0,q1,q2,q3,q4,q5,q6,q7,q8]) rfl ?_;obtain rfl:=hz.out;exact⟨_,rfl,fun _=>rfl,fun h=>absurd h (by decide),(zn (hS.out.drewN hg nq).mv (yAC _) hg).grown⟩
         · have e2:((x.toNat:Int)==92)=false:=yA.2 (by omega);have HNO:=zA (And.intro h128 (And.intro h96 h92));clear h96 h92
           by_cases hk0:k=0
           · have e3:((k:Int)==0)=true:=by rw[hk0];rfl
             have HK:=zA (show(k==0)=true by rw[hk0];rfl);clear hk0;obtain⟨b,hb⟩:∃b,zq [35,33] (u.drop k)=b:=⟨_,rfl⟩;have HB:=zA hb;clear hb;cases b with
             | true=>
              have hz:=zA (show 6=e by rw[←HE.out];rw[HB.out,HK.out];simp);go_wp2_with fail
              go_quiet (fail)
              go_wp2_with fail;refine(zAP ⟨#[35,33]⟩ (hS.out.drewN hg nq).mv.rd rfl (har.out.drewN _) (Nat.le_of_lt hk) hl (by decide) HB.out).mono ?_;rintro e4 w4 ⟨rfl,m4,hw4⟩;have hS6:=zA (show SgS w w4 g (some ⟨blk,off,none⟩) u.length c k by rw[hw4];exact(hS.out.drewN hg nq).drewN hg m4);clear hw4 m4;have hzr:=zA hS6.out.zero;obtain⟨b0,fb0⟩:=hzr.out.2 0 (by decide);obtain⟨b1,fb1⟩:=hzr.out.2 1 (by decide);obtain⟨b2,fb2⟩:=hzr.out.2 2 (by decide);obtain⟨b3,fb3⟩:=hzr.out.2 3 (by decide);obtain⟨b4,fb4⟩:=hzr.out.2 4 (by decide);obtain⟨b5,fb5⟩:=hzr.out.2 5 (by decide);obtain⟨b6,fb6⟩:=hzr.out.2 6 (by decide);obtain⟨b7,fb7⟩:=hzr.out.2 7 (by decide);obtain⟨b8,fb8⟩:=hzr.out.2 8 (by decide);go_wp2;obtain⟨q0,q1,q2,q3,q4,q5,q6,q7,q8⟩:=zS (v0:=.int .i64 0) (v1:=.string ⟨#[]⟩) (v2:=.slice none 0 0) (v3:=.int .i64 0) (v4:=.int .i64 0) (v5:=.bool false) (v6:=.slice none 0 0) (v7:=.int .i64 0) (v8:=.bool false) hzr.out rfl;refine bodyPost_ret (v:=.tuple #[.agg #[.int .i64 0,.string ⟨#[]⟩,.slice none 0 0,.int .i64 0,.int .i64 0,.bool false,.slice none 0 0,.int .i64 0,.bool false],.int .i64 6]) (by simp[results,results72,go_sem,q0,q1,q2,q3,q4,q5,q6,q7,q8]) rfl ?_;obtain rfl:=hz.out;exact⟨_,rfl,fun _=>rfl,fun h=>absurd h (by decide),(zn hS6.out.mv (yAC _) hg).grown⟩
             | false=>
              have hz:=zA (show 5=e by rw[←HE.out];have:=HNO.out;rw[HB.out,HK.out];simp[this]);go_wp2_with fail
              go_quiet (fail)
              go_wp2_with fail;refine(zAP ⟨#[35,33]⟩ (hS.out.drewN hg nq).mv.rd rfl (har.out.drewN _) (Nat.le_of_lt hk) hl (by decide) HB.out).mono ?_;rintro e4 w4 ⟨rfl,m4,hw4⟩;have hS6:=zA (show SgS w w4 g (some ⟨blk,off,none⟩) u.length c k by rw[hw4];exact(hS.out.drewN hg nq).drewN hg m4);clear hw4 m4;have hzr:=zA hS6.out.zero;obtain⟨b0,fb0⟩:=hzr.out.2 0 (by decide);obtain⟨b1,fb1⟩:=hzr.out.2 1 (by decide);obtain⟨b2,fb2⟩:=hzr.out.2 2 (by decide);obtain⟨b3,fb3⟩:=hzr.out.2 3 (by decide);obtain⟨b4,fb4⟩:=hzr.out.2 4 (by decide);obtain⟨b5,fb5⟩:=hzr.out.2 5 (by decide);obtain⟨b6,fb6⟩:=hzr.out.2 6 (by decide);obtain⟨b7,fb7⟩:=hzr.out.2 7 (by decide);obtain⟨b8,fb8⟩:=hzr.out.2 8 (by decide);go_wp2;obtain⟨q0,q1,q2,q3,q4,q5,q6,q7,q8⟩:=zS (v0:=.int .i64 0) (v1:=.string ⟨#[]⟩) (v2:=.slice none 0 0) (v3:=.int .i64 0) (v4:=.int .i64 0) (v5:=.bool false) (v6:=.slice none 0 0) (v7:=.int .i64 0) (v8:=.bool false) hzr.out rfl;refine bodyPost_ret (v:=.tuple #[.agg #[.int .i64 0,.string ⟨#[]⟩,.slice none 0 0,.int .i64 0,.int .i64 0,.bool false,.slice none 0 0,.int .i64 0,.bool false],.int .i64 5]) (by simp[results,results72,go_sem,q0,q1,q2,q3,q4,q5,q6,q7,q8]) rfl ?_;obtain rfl:=hz.out;exact⟨_,rfl,fun _=>rfl,fun h=>absurd h (by decide),(zn hS6.out.mv (yAC _) hg).grown⟩
           · have e3:((k:Int)==0)=false:=yA.2 (by omega);have HK:=zA (show(k==0)=false from yA.2 hk0);clear hk0;have hz:=zA (show 5=e by rw[←HE.out];have:=HNO.out;simp[HK.out,this]);go_wp2_with fail
             go_quiet (fail)
             have hzr:=zA (hS.out.drewN hg nq).zero;obtain⟨b0,fb0⟩:=hzr.out.2 0 (by decide);obtain⟨b1,fb1⟩:=hzr.out.2 1 (by decide);obtain⟨b2,fb2⟩:=hzr.out.2 2 (by decide);obtain⟨b3,fb3⟩:=hzr.out.2 3 (by decide);obtain⟨b4,fb4⟩:=hzr.out.2 4 (by decide);obtain⟨b5,fb5⟩:=hzr.out.2 5 (by decide);obtain⟨b6,fb6⟩:=hzr.out.2 6 (by decide);obtain⟨b7,fb7⟩:=hzr.out.2 7 (by decide);obtain⟨b8,fb8⟩:=hzr.out.2 8 (by decide);go_wp2;obtain⟨q0,q1,q2,q3,q4,q5,q6,q7,q8⟩:=zS (v0:=.int .i64 0) (v1:=.string ⟨#[]⟩) (v2:=.slice none 0 0) (v3:=.int .i64 0) (v4:=.int .i64 0) (v5:=.bool false) (v6:=.slice none 0 0) (v7:=.int .i64 0) (v8:=.bool false) hzr.out rfl;refine bodyPost_ret (v:=.tuple #[.agg #[.int .i64 0,.string ⟨#[]⟩,.slice none 0 0,.int .i64 0,.int .i64 0,.bool false,.slice none 0 0,.int .i64 0,.bool false],.int .i64 5]) (by simp[results,results72,go_sem,q0,q1,q2,q3,q4,q5,q6,q7,q8]) rfl ?_;obtain rfl:=hz.out;exact⟨_,rfl,fun _=>rfl,fun h=>absurd h (by decide),(zn (hS.out.drewN hg nq).mv (yAC _) hg).grown⟩
theorem zFg (x:UInt16) (Z:Nat) (zero:Bool) (w:World) (hz:w.cell? ⟨Z,0,none⟩=some (.bool zero)):Calls prog 150 #[.int .u16 (x.toNat:Int),.pointer (some ⟨Z,0,none⟩)] w fun e w'=>e=.returned (.bool (zl zero x))∧w=w':=by
 by_cases h0:x.toNat=46
 · have e0:((x.toNat:Int)==46)=true:=by rw[h0];rfl
   have HR:=zA (show zl zero x=true by unfold zl;rw[h0];cases zero<;>rfl);clear h0;go_enter func150,ntmps150;go_wp2;go_ret;exact⟨zD HR.out.symm,rfl⟩
 have e0:((x.toNat:Int)==46)=false:=yA.2 (by omega)
 by_cases h1:x.toNat=101
 · have e1:((x.toNat:Int)==101)=true:=by rw[h1];rfl
   have HR:=zA (show zl zero x=true by unfold zl;rw[h1];cases zero<;>rfl);clear h1;go_enter func150,ntmps150;go_wp2;go_ret;exact⟨zD HR.out.symm,rfl⟩
 have e1:((x.toNat:Int)==101)=false:=yA.2 (by omega)
 by_cases h2:x.toNat=69
 · have e2:((x.toNat:Int)==69)=true:=by rw[h2];rfl
   have HR:=zA (show zl zero x=true by unfold zl;rw[h2];cases zero<;>rfl);clear h2;go_enter func150,ntmps150;go_wp2;go_ret;exact⟨zD HR.out.symm,rfl⟩
 have e2:((x.toNat:Int)==69)=false:=yA.2 (by omega)
 by_cases h3:x.toNat=95
 · have e3:((x.toNat:Int)==95)=true:=by rw[h3];rfl
   have HR:=zA (show zl zero x=true by unfold zl;rw[h3];cases zero<;>rfl);clear h3;go_enter func150,ntmps150;go_wp2;go_ret;exact⟨zD HR.out.symm,rfl⟩
 have e3:((x.toNat:Int)==95)=false:=yA.2 (by omega)
 by_cases h4:x.toNat=120
 · have e4:((x.toNat:Int)==120)=true:=by rw[h4];rfl
   have HR:=zA (show zl zero x=zero by unfold zl;rw[h4];cases zero<;>rfl);clear h4;go_enter func150,ntmps150;go_wp2;go_ret;exact⟨zD HR.out.symm,rfl⟩
 have e4:((x.toNat:Int)==120)=false:=yA.2 (by omega)
 by_cases h5:x.toNat=88
 · have e5:((x.toNat:Int)==88)=true:=by rw[h5];rfl
   have HR:=zA (show zl zero x=zero by unfold zl;rw[h5];cases zero<;>rfl);clear h5;go_enter func150,ntmps150;go_wp2;go_ret;exact⟨zD HR.out.symm,rfl⟩
 have e5:((x.toNat:Int)==88)=false:=yA.2 (by omega)
 by_cases h6:x.toNat=111
 · have e6:((x.toNat:Int)==111)=true:=by rw[h6];rfl
   have HR:=zA (show zl zero x=zero by unfold zl;rw[h6];cases zero<;>rfl);clear h6;go_enter func150,ntmps150;go_wp2;go_ret;exact⟨zD HR.out.symm,rfl⟩
 have e6:((x.toNat:Int)==111)=false:=yA.2 (by omega)
 by_cases h7:x.toNat=79
 · have e7:((x.toNat:Int)==79)=true:=by rw[h7];rfl
   have HR:=zA (show zl zero x=zero by unfold zl;rw[h7];cases zero<;>rfl);clear h7;go_enter func150,ntmps150;go_wp2;go_ret;exact⟨zD HR.out.symm,rfl⟩
 have e7:((x.toNat:Int)==79)=false:=yA.2 (by omega)
 by_cases h8:x.toNat=98
 · have e8:((x.toNat:Int)==98)=true:=by rw[h8];rfl
   have HR:=zA (show zl zero x=zero by unfold zl;rw[h8];cases zero<;>rfl);clear h8;go_enter func150,ntmps150;go_wp2;go_ret;exact⟨zD HR.out.symm,rfl⟩
 have e8:((x.toNat:Int)==98)=false:=yA.2 (by omega)
 by_cases h9:x.toNat=66
 · have e9:((x.toNat:Int)==66)=true:=by rw[h9];rfl
   have HR:=zA (show zl zero x=zero by unfold zl;rw[h9];cases zero<;>rfl);clear h9;go_enter func150,ntmps150;go_wp2;go_ret;exact⟨zD HR.out.symm,rfl⟩
 have e9:((x.toNat:Int)==66)=false:=yA.2 (by omega);have HR:=zA (show zl zero x=false by
  unfold zl;rw[show(x.toNat==46)=false from yA.2 h0,show(x.toNat==101)=false from yA.2 h1,show(x.toNat==69)=false from yA.2 h2,show(x.toNat==95)=false from yA.2 h3,show(x.toNat==120)=false from yA.2 h4,show(x.toNat==88)=false from yA.2 h5,show(x.toNat==111)=false from yA.2 h6,show(x.toNat==79)=false from yA.2 h7,show(x.toNat==98)=false from yA.2 h8,show(x.toNat==66)=false from yA.2 h9];cases zero<;>rfl)
 clear h0 h1 h2 h3 h4 h5 h6 h7 h8 h9;go_enter func150,ntmps150;go_wp2;go_ret;exact⟨zD HR.out.symm,rfl⟩
theorem zHT {A:Option Addr} {c g B k j n Z:Nat} {zero:Bool} {u:List UInt16} {w:World} (hz:w.cell? ⟨Z,0,none⟩=some (.bool zero)) (hr:Rd w g A n c k) (hn:u.length=n) (ha:Reads w B 1 A n (zAD u)) (hk:k≤n) (hl:n≤4096) (hj:j≤4096) {q:Bool} (hq:zAy j (zl zero) (u.drop k)=q):
 Calls prog 71 #[.pointer (some ⟨g,0,none⟩),.int .i64 (j:Int),.func (.func 150) #[] #[.pointer (some ⟨Z,0,none⟩)]] w fun e w'=>e=.returned (.bool q)∧∃m,w'=w.drewN m:=by
 subst hn;have hc0:=hr.c0;have hc1:=hr.c1
 by_cases hin:k+j < u.length
 · have hin2:(k:Int)+(j:Int) < (u.length:Int):=by omega
   have HQ:=zA (show zl zero u[k+j]=q by rw[←hq,zCK hin]);obtain⟨b,off,rfl,_,hcell⟩:=ha.spotL (by omega);have hca:=hcell (k+j) hin;obtain⟨x,hx⟩:∃x,u[k+j]=x:=⟨_,rfl⟩;rw[hx]at hca HQ;have HZ:=zA hz;clear hcell hq hx hr hz;go_enter func71,ntmps71;go_wp2_with fail
   go_quiet (first | (go_at_call 150;refine Calls.quiet_of_same ((zFg _ _ _ _ (by exact HZ.out)).mono fun _ _ h=>zCL h)))
   go_wp2;go_ret;exact⟨zD HQ.out,_,rfl⟩
 · have hin2:¬(k:Int)+(j:Int) < (u.length:Int):=by omega
   have hin3:decide ((k:Int)+(j:Int) < (u.length:Int))=false:=yAI hin2;have HQ:=zA (show false=q by rw[←hq,zB5 hin]);clear hin hq hr;go_enter func71,ntmps71;go_wp2_with fail
   go_quiet (fail)
   go_wp2;go_ret;exact⟨zD HQ.out,_,rfl⟩
theorem zGa {A:Option Addr} {c g B k n:Nat} {zero:Bool} {u:List UInt16} {w:World} (hr:Rd w g A n c k) (hn:u.length=n) (ha:Reads w B 1 A n (zAD u)) (hB:B≤g) (hk:k≤n) (hl:n≤4096) {q:Bool} (hq:zAy 0 (zl zero) (u.drop k)=q):
 Calls prog 105 #[.pointer (some ⟨g,0,none⟩),.bool zero] w fun e w'=>e=.returned (.bool q)∧Below w.heap.size w w':=by
 have HR:=zA (hr.alloc (.cells #[.bool zero] 4));have hg:=hr.lt;have HA:=zA (ha.alloc (yAD hB (Nat.le_of_lt hg)) (.cells #[.bool zero] 4));have HZ:=zA (show(w.alloc (.cells #[.bool zero] 4)).cell? ⟨w.heap.size,0,none⟩=some (.bool zero) by go_simp);have HQ:=zA hq;clear hr ha hq;go_enter func105,ntmps105;go_wp2_with fail;refine(zHT (j:=0) HZ.out HR.out hn HA.out hk hl (by omega) HQ.out).mono ?_;rintro e1 w1 ⟨rfl,m,hw⟩;have hb:Below w.heap.size w w1:=by rw[hw];exact zk ((Below.refl _ w).alloc (yAC _) _) m
 clear hw;go_wp2;go_ret;exact⟨rfl,hb⟩
theorem zJP {A A':Option Addr} {c d B:Nat} {xs ys:List UInt16} {w:World} (hB:B≤w.heap.size) (ha:Reads w B 1 A xs.length (zAD xs)) (hb:Reads w B 1 A' ys.length (zAD ys)) (hl:xs.length≤70368744177664) (hl2:ys.length≤70368744177664):
 Calls prog 43 #[.slice A xs.length c,.slice A' ys.length d] w fun e w'=>e=.returned (.bool (decide (xs=ys)))∧Below w.heap.size w w':=by
 by_cases hne:xs.length=ys.length
 · have H:=zA hne;clear hne;have e1:((xs.length:Int)==(ys.length:Int))=true:=by rw[H.out];simp
   have e2:((xs.length:Int) !=(ys.length:Int))=false:=by rw[H.out];simp
   go_enter func43,ntmps43;go_wp2
   go_loopw [13] (fun i wr=>∃k:Nat,k≤xs.length∧i=.int .i64 k∧xs.take k=ys.take k∧Below w.heap.size w wr) (fun i _=>xs.length - (intOf i).toNat)
   case atStart=>exact⟨0,yAE _,rfl,by simp,Below.refl _ _⟩
   case round=>
    obtain⟨k,hk,rfl,htk,hnx⟩:=hrel;have HT:=zA htk;clear htk
    by_cases hlt:k < xs.length
    · have hlt2:k < ys.length:=by have:=H.out;omega
      obtain⟨ad,rfl,_,hca⟩:=(ha.below (hnx.mono hB)).u16 hlt;obtain⟨ad',rfl,_,hcb⟩:=(hb.below (hnx.mono hB)).u16 hlt2;have h3:(k:Int) < (xs.length:Int):=by omega
      have h4:(k:Int) < (ys.length:Int):=by omega
      go_wp2
      go_quiet (fail)
      go_wp2
      · go_ret;refine⟨zD ?_,zk hnx _⟩;have hne:(xs[k].toNat:Int)≠ys[k].toNat:=by
         have h:((xs[k].toNat:Int) !=ys[k].toNat)=true:=by assumption
         simpa using h
        refine(yAI ?_).symm;rintro rfl;exact hne rfl
      · go_roundw
        case rel=>
         have h:((xs[k].toNat:Int) !=ys[k].toNat)=false:=by assumption
         have h':xs[k]=ys[k]:=by
          apply UInt16.toNat_inj.1;simp at h;omega
         exact⟨k+1,by omega,by go_num,by rw[yAK hlt,yAK hlt2,HT.out,h'],zk hnx _⟩
        case measure=>simp[intOf];omega
    · go_wp2;go_ret;refine⟨zD ?_,hnx⟩;have hkk:k=xs.length:=by omega
      refine(decide_eq_true ?_).symm;have h1:=HT.out;rw[List.take_of_length_le (by omega),List.take_of_length_le (by rw[←H.out];omega)]at h1;exact h1
 · have e1:((xs.length:Int) !=(ys.length:Int))=true:=by simp;omega
   go_enter func43,ntmps43;go_wp2;go_ret;refine⟨zD (yAI ?_).symm,Below.refl _ _⟩;rintro rfl;exact hne rfl
theorem zDE {A A':Option Addr} {c d B:Nat} {xs ys:List UInt16} {w:World} (hB:B≤w.heap.size) (ha:Reads w B 1 A xs.length (zAD xs)) (hb:Reads w B 1 A' ys.length (zAD ys)) (hl:xs.length≤70368744177664) (hl2:ys.length≤70368744177664):
 Calls prog 153 #[.slice A xs.length c,.slice A' ys.length d] w fun e w'=>e=.returned (.bool (decide (xs=ys)))∧Below w.heap.size w w':=by
 go_enter func153,ntmps153;go_wp2_with (go_at_call 43;refine(zJP hB ha hb hl hl2).mono ?_;rintro e w' ⟨rfl,hb'⟩);go_ret;exact⟨rfl,hb'⟩
def zQv (p:Prop) (w:World) (e:Ending) (w':World):Prop:=∃k:Int,e=.returned (.int .i64 k)∧(p↔0≤k)∧w=w'
theorem zJQ {A:Option Addr} {c B:Nat} {xs:List UInt16} (x:UInt16) {w:World} (ha:Reads w B 1 A xs.length (zAD xs)) (hl:xs.length≤70368744177664):
 Calls prog 198 #[.slice A xs.length c,.int .u16 (x.toNat:Int)] w (zQv (x∈xs) w):=by
 go_enter func198,ntmps198;go_wp2
 go_loop [8] (fun i=>∃k:Nat,k≤xs.length∧i=.int .i64 k∧x∉xs.take k) (fun i=>xs.length - (intOf i).toNat)
 case atStart=>exact⟨0,yAE _,rfl,by simp⟩
 case round=>
  obtain⟨k,hk,rfl,hno⟩:=hrel;have HN:=zA hno;clear hno
  by_cases hlt:k < xs.length
  · obtain⟨ad,rfl,_,hca⟩:=ha.u16 hlt;have h3:(k:Int) < (xs.length:Int):=by omega
    by_cases hx:x=xs[k]
    · have hmem:x∈xs:=by rw[hx];exact List.getElem_mem _
      have e1:((x.toNat:Int)==(xs[k].toNat:Int))=true:=by rw[←hx];simp
      have HX:=zA hmem;clear hx hmem;go_wp2;go_ret;exact⟨k,rfl,⟨fun _=>by omega,fun _=>HX.out⟩,rfl⟩
    · have e1:((x.toNat:Int)==(xs[k].toNat:Int))=false:=by
       rw[yA];intro h;exact hx (UInt16.toNat_inj.1 (by omega))
      go_wp2;go_round
      case rel=>exact⟨k+1,by omega,by go_num,by rw[yAK hlt,List.mem_append];exact fun h=>h.elim HN.out (fun h=>hx (by simpa using h))⟩
      case measure=>simp[intOf];omega
  · go_wp2;go_ret;refine⟨-1,rfl,⟨fun h=>absurd h ?_,fun h=>by omega⟩,rfl⟩;have h1:=HN.out;rwa [List.take_of_length_le (by omega)]at h1
theorem zDF {A:Option Addr} {c B:Nat} {xs:List UInt16} (x:UInt16) {w:World} (ha:Reads w B 1 A xs.length (zAD xs)) (hl:xs.length≤70368744177664):
 Calls prog 185 #[.slice A xs.length c,.int .u16 (x.toNat:Int)] w fun e w'=>e=.returned (.bool (decide (x∈xs)))∧w=w':=by
 go_enter func185,ntmps185;go_wp2_with fail;refine(zJQ x ha hl).mono ?_;rintro e w' ⟨k,rfl,hk,rfl⟩;have HK:=zA hk;clear hk;go_wp2;go_ret;exact⟨zD (decide_eq_decide.2 HK.out.symm),rfl⟩
def zQw (d:List UInt16) (w:World) (e:Ending) (w':World):Prop:=∃n:Int,e=.returned (.tuple #[.int .i64 n,.bool (decide (zg d≤9007199254740991))])∧(zg d≤9007199254740991→n=zg d)∧w=w'
theorem zGb {A:Option Addr} {c B:Nat} {xs:List UInt16} {w:World} (ha:Reads w B 1 A xs.length (zAD xs)) (hl:xs.length≤70368744177664) (hd:∀x∈xs,zO x=true):
 Calls prog 157 #[.slice A xs.length c] w (zQw xs w):=by
 have HD:=zA hd;clear hd;go_enter func157,ntmps157;go_wp2
 go_loop [4,9] (fun n i=>∃k:Nat,k≤xs.length∧i=.int .i64 k∧n=.int .i64 (zg (xs.take k))∧zg (xs.take k) < 9007199254750991) (fun _ i=>xs.length - (intOf i).toNat)
 case atStart=>exact⟨0,yAE _,rfl,rfl,Nat.zero_lt_succ _⟩
 case round=>
  obtain⟨k,hk,rfl,rfl,hn⟩:=hrel
  by_cases hlt:k < xs.length
  · obtain⟨ad,rfl,_,hca⟩:=ha.u16 hlt;have h3:(k:Int) < (xs.length:Int):=by omega
    obtain⟨hx1,hx2⟩:=zA4.1 (HD.out xs[k] (List.getElem_mem _));have h10:=zEm xs k hlt;have hsu:=zB8 xs k hlt;have HS:=zA hsu;clear hsu;obtain⟨m,hm⟩:∃m,zg (xs.take k)=m:=⟨_,rfl⟩;rw[hm]at hn h10⊢;have HM:=zA hm;clear hm
    by_cases hbig:900719925474099 < m
    · go_wp2
      go_ret2
      exact⟨0,zO4 rfl (yAI (by omega)).symm,fun h=>by omega,rfl⟩
    · go_wp2;go_round
      case rel=>exact⟨k+1,by omega,by go_num,by rw[HS.out,HM.out];go_num,by rw[HS.out,HM.out];omega⟩
      case measure=>simp[intOf];omega
  · go_wp2
    go_ret2
    have hkk:xs.take k=xs:=List.take_of_length_le (by omega);rw[hkk];refine⟨zg xs,zO4 rfl ?_,fun _=>rfl,rfl⟩;exact decide_eq_decide.2 (by omega)
theorem zGc (w:World):Calls prog 32 #[.string ⟨#[120,88,111,79,46,43,45,95]⟩] w fun e w'=>∃A c,e=.returned (.slice A zB0.length c)∧Reads w' w'.heap.size 1 A zB0.length (zAD zB0)∧Below w.heap.size w w':=by
 refine(zCz _ w (by decide)).mono ?_;rintro e w' ⟨v,rfl,hm⟩;have hm':Made w w' 24 v (zAD zB0):=hm;obtain⟨A,c,rfl,_,_,hr⟩:=hm'.u16;exact⟨A,c,rfl,hr,hm'.below⟩
theorem zHU {A:Option Addr} {c B:Nat} {xs:List UInt16} {w:World} (hB:B≤w.heap.size) (ha:Reads w B 1 A xs.length (zAD xs)) (hl:xs.length≤70368744177664):
 Calls prog 152 #[.slice A xs.length c] w fun e w'=>e=.returned (.bool (zA8 xs))∧Below w.heap.size w w':=by
 go_enter func152,ntmps152;go_wp2
 go_loopw [3,8] (fun s i wr=>∃k:Nat,k≤xs.length∧i=.int .i64 k∧s=.bool ((xs.take k).any zO)∧Hid ((xs.take k).all zBZ=true)∧Below w.heap.size w wr) (fun _ i _=>xs.length - (intOf i).toNat)
 case atStart=>exact⟨0,yAE _,rfl,rfl,rfl,Below.refl _ _⟩
 case round=>
  obtain⟨k,hk,rfl,rfl,hok,hnx⟩:=hrel
  by_cases hlt:k < xs.length
  · obtain⟨ad,hA,_,hca⟩:=(ha.below (hnx.mono hB)).u16 hlt;subst hA;have h3:(k:Int) < (xs.length:Int):=by omega
    have hx:=xs[k].toNat_lt;have hsu:(xs.take (k+1)).any zO=((xs.take k).any zO || zO xs[k]):=by rw[yAK hlt];simp only[List.any_append,List.any_cons,List.any_nil,Bool.or_false]
    have hal:(xs.take (k+1)).all zBZ=zBZ xs[k]:=by rw[yAK hlt,List.all_append,hok.out];simp only[List.all_cons,List.all_nil,Bool.and_true,Bool.true_and]
    have hbad:zBZ xs[k]=false→zA8 xs=false:=by
     intro h;have:xs.all zBZ=false:=List.all_eq_false.2 ⟨xs[k],List.getElem_mem _,by simp[h]⟩;simp[zA8,this]
    have HS:=zA hsu;have HA:=zA hal;have HB:=zA hbad;clear hsu hal hbad;obtain⟨s,hs⟩:∃s,(xs.take k).any zO=s:=⟨_,rfl⟩;rw[hs];have HK:=zA hs;clear hs;cases hd:zO xs[k]with
    | true=>
     have ho:=zFy hd;have HO:=zA ho;clear ho;cases s
     all_goals
      go_wp2_with (go_at_call 156;refine(zBx _ _).mono ?_;rintro e w' ⟨rfl,rfl⟩)
      go_roundw
      case rel=>exact⟨k+1,by omega,by go_num,by rw[HS.out,HK.out,hd];rfl,HA.out.trans HO.out,hnx⟩
      case measure=>simp[intOf];omega
    | false=>
     by_cases r1:97≤xs[k].toNat∧xs[k].toNat≤102
     · have HO:Hid (zBZ xs[k]=true):=by simp[zBZ,r1.1,r1.2,Hid]
       obtain⟨r1,r2⟩:=r1;cases s
       all_goals
        go_wp2_with (go_at_call 156;refine(zBx _ _).mono ?_;rintro e w' ⟨rfl,rfl⟩)
        go_roundw
        case rel=>exact⟨k+1,by omega,by go_num,by rw[HS.out,HK.out,hd];rfl,HA.out.trans HO.out,hnx⟩
        case measure=>simp[intOf];omega
     by_cases r2:65≤xs[k].toNat∧xs[k].toNat≤70
     · have HO:Hid (zBZ xs[k]=true):=by simp[zBZ,r2.1,r2.2,Hid]
       obtain⟨r2,r3⟩:=r2;clear r1;have r4:¬(97:Int)≤xs[k].toNat:=by omega
       cases s
       all_goals
        go_wp2_with (go_at_call 156;refine(zBx _ _).mono ?_;rintro e w' ⟨rfl,rfl⟩)
        go_roundw
        case rel=>exact⟨k+1,by omega,by go_num,by rw[HS.out,HK.out,hd];rfl,HA.out.trans HO.out,hnx⟩
        case measure=>simp[intOf];omega
     have hod:zBZ xs[k]=decide (xs[k]∈zB0):=by
      have e1:(decide (97≤xs[k].toNat)&&decide (xs[k].toNat≤102))=false:=by simpa using r1
      have e2:(decide (65≤xs[k].toNat)&&decide (xs[k].toNat≤70))=false:=by simpa using r2
      rw[zBZ,hd,e1,e2];rfl
     have HO:=zA hod;clear hod;obtain⟨m,hm⟩:∃m,decide (xs[k]∈zB0)=m:=⟨_,rfl⟩;have HM:=zA hm;clear hm;cases m with
     | true=>
      cases s
      all_goals
       go_wp2_with (first | (go_at_call 156;refine(zBx _ _).mono ?_;rintro e w' ⟨rfl,rfl⟩) | (go_at_call 32;refine(zGc _).mono ?_;rintro e w1 ⟨A1,c1,rfl,hr1,hb1⟩) | (go_at_call 185;refine(zDF _ hr1 (by decide)).mono ?_;rintro e w2 ⟨rfl,rfl⟩;rw[HM.out]))
       all_goals go_roundw
       all_goals first | exact⟨k+1,by omega,by go_num,by rw[HS.out,HK.out,hd];rfl,HA.out.trans (HO.out.trans HM.out),hnx.trans (hb1.mono hnx.size)⟩ | (simp[intOf];omega)
     | false=>
      have HB':=zA (HB.out (HO.out.trans HM.out));cases s
      all_goals
       go_wp2_with (first | (go_at_call 156;refine(zBx _ _).mono ?_;rintro e w' ⟨rfl,rfl⟩) | (go_at_call 32;refine(zGc _).mono ?_;rintro e w1 ⟨A1,c1,rfl,hr1,hb1⟩) | (go_at_call 185;refine(zDF _ hr1 (by decide)).mono ?_;rintro e w2 ⟨rfl,rfl⟩;rw[HM.out]))
       all_goals go_ret
       all_goals exact⟨zD HB'.out.symm,hnx.trans (hb1.mono hnx.size)⟩
  · go_wp2;go_ret;have hkk:xs.take k=xs:=List.take_of_length_le (by omega);rw[hkk]at hok⊢;exact⟨zD (by rw[zA8,hok.out];rfl),hnx⟩
theorem zEY (x:UInt16) (w:World):Calls prog 155 #[.int .u16 (x.toNat:Int)] w fun e w'=>e=.returned (.bool (!zO x))∧w=w':=by
 go_enter func155,ntmps155;go_wp2_with (go_at_call 156;refine(zBx _ _).mono ?_;rintro e w' ⟨rfl,rfl⟩);go_ret;exact⟨rfl,rfl⟩
def zIN (xs:List UInt16):Prop:=xs.any (fun x=> !zO x)=true
theorem zEr {A:Option Addr} {c B:Nat} {xs:List UInt16} {w:World} (ha:Reads w B 1 A xs.length (zAD xs)) (hl:xs.length≤70368744177664):
 Calls prog 186 #[.slice A xs.length c,.func (.func 155) #[] #[]] w (zQv (zIN xs) w):=by
 go_enter func186,ntmps186;go_wp2
 go_loop [8] (fun i=>∃k:Nat,k≤xs.length∧i=.int .i64 k∧Hid ((xs.take k).any (fun x=> !zO x)=false)) (fun i=>xs.length - (intOf i).toNat)
 case atStart=>exact⟨0,yAE _,rfl,rfl⟩
 case round=>
  obtain⟨k,hk,rfl,hno⟩:=hrel
  by_cases hlt:k < xs.length
  · obtain⟨ad,hA,_,hca⟩:=ha.u16 hlt;subst hA;have h3:(k:Int) < (xs.length:Int):=by omega
    cases hd:zO xs[k]with
    | false=>
     have HX:=zA (show zIN xs from List.any_eq_true.2 ⟨xs[k],List.getElem_mem _,by rw[hd];rfl⟩);go_wp2_with (go_at_call 155;refine(zEY _ _).mono ?_;rintro e w' ⟨rfl,rfl⟩);go_ret;exact⟨k,rfl,⟨fun _=>by omega,fun _=>HX.out⟩,rfl⟩
    | true=>
     have HX:=zA hd;go_wp2_with (go_at_call 155;refine(zEY _ _).mono ?_;rintro e w' ⟨rfl,rfl⟩);go_round
     case rel=>exact⟨k+1,by omega,by go_num,by rw[yAK hlt,List.any_append,hno.out];simp[Hid,HX.out]⟩
     case measure=>simp[intOf];omega
  · go_wp2;go_ret;refine⟨-1,rfl,⟨fun h=>absurd h ?_,fun h=>by omega⟩,rfl⟩;have h1:=hno.out;rw[List.take_of_length_le (by omega)]at h1;rw[zIN,h1];simp
theorem zBH {A:Option Addr} {c B:Nat} {xs:List UInt16} {w:World} (ha:Reads w B 1 A xs.length (zAD xs)) (hl:xs.length≤70368744177664):
 Calls prog 154 #[.slice A xs.length c,.func (.func 155) #[] #[]] w fun e w'=>e=.returned (.bool (!xs.all zO))∧w=w':=by
 go_enter func154,ntmps154;go_wp2_with fail;refine(zEr ha hl).mono ?_;rintro e w' ⟨k,rfl,hk,rfl⟩;have HK:=zA hk;clear hk;go_wp2;go_ret;refine⟨zD ?_,rfl⟩;have h1:=HK.out;rw[Bool.eq_iff_iff,decide_eq_true_eq,←h1,zIN];simp
end Go.Proofs.YtlohaclgbfhijaaGreatDoor
