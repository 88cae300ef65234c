/- Joined for the claim ParseBlocks: the parser, the lexer and the trees as they are walked, made short by a program of mine. -/
import Derived.Test.YtlohaclgbfhijaaGreatDoorS21
import Derived.Test.YtlohaclgbfhijaaGreatDoorS22
import Derived.Test.YtlohaclgbfhijaaGreatDoorS23
import Derived.Test.YtlohaclgbfhijaaGreatDoorS01
set_option maxHeartbeats 16000000
set_option maxRecDepth 1000000
namespace Go.Proofs.YtlohaclgbfhijaaGreatDoor
open Go.Proofs.Tryz
open Go.RowKit
def ParseQ (q:List Nd×Nat×Nat) (w:World) (e:Ending) (w':World):Prop:=
 ∃A n c,e=.returned (.tuple #[.agg #[.slice A n c],.int .i64 (q.2.1:Int),.int .i64 (q.2.2:Int)])∧NdsR w' w'.heap.size A n q.1∧n≤c∧c≤maxLen∧Below w.heap.size w w'
theorem ParseQ.nil {q:List Nd×Nat×Nat} {w w':World} {a e:Nat} (hq:q=([],a,e)) (hb:Below w.heap.size w w'):ParseQ q w (.returned (.tuple #[.agg #[.slice none 0 0],.int .i64 (a:Int),.int .i64 (e:Int)])) w':=by
 subst hq;exact⟨none,0,0,rfl,⟨rfl,fun h=>absurd h (Nat.lt_irrefl _)⟩,yAD _,yAF _,hb⟩
theorem zOM {A:Option Addr} {B n c:Nat} {u:List UInt16} {w:World} (hB:B≤w.heap.size) (hn:u.length=n) (ha:Reads w B 1 A n (zAM u)) (hc:n≤c) (hc2:c≤maxLen) (hT:Tab w) (hsz:(zG (zCk u).1 (.program []) ⟨0,0,0⟩).1.size≤1000000):
 Calls prog 16 #[.slice A n c] w (ParseQ (zAg u) w):=by
 obtain⟨W,hW⟩:∃W,w.alloc (.cells #[.slice none 0 0] 27)=W:=⟨_,rfl⟩;have hbW:Below w.heap.size w W:=by rw[←hW];exact(Below.refl _ _).alloc (yAD _) _
 obtain⟨X,hX⟩:∃X,w.heap.size=X:=⟨_,rfl⟩;have HX:=zD (show Bx W X 27 [.slice none 0 0] by rw[←hW,←hX];exact Bx.new w _ _);have HBW:=zD hbW;have hWs:w.heap.size≤W.heap.size:=hbW.size;have HTk:=zD (zIU (w:=W) (yAE hB hWs) hn (ha.below (hbW.mono hB)) hc hc2);have HTW:=zD (hT.below hT.lt hbW);have HRw:=zD hX;obtain⟨⟨L,at_,e⟩,hL⟩:∃q,zCk u=q:=⟨_,rfl⟩;rw[hL]at HTk hsz;have HL:=zD hL;have HSZ:=zD hsz;clear hbW hB hn ha hc hc2 hT hsz hL;have zX:W.cell? ⟨X,0,none⟩=some (.slice none 0 0):=HX.out.cell 0;have fX:W.frozen? ⟨X,0,none⟩=false:=HX.out.frozen 0;go_enter func16,ntmps16;go_upto_region 1 with(fail);clear hW hX;go_wp2_with fail;refine HTk.out.mono ?_;rintro ev1 w1 ⟨v,rfl,htok,hb1⟩;have HB1:=zD hb1;have HX1:=zD (HX.out.grown (zAT none hb1) (by simp));have HTok:=zD htok;obtain⟨lc,hown,_⟩:=htok;obtain⟨AT,cT,rfl,_,_⟩:=zZ hown;clear hown hb1 HTk
 by_cases he:e=0
 · subst he;have he0:(((0:Nat):Int) !=0)=false:=rfl;have hLst:=zEz HL.out;have HTL:=zD (zOH HL.out);have hul:u.length≤4096:=by
    apply Nat.le_of_not_lt;intro h1;have h2:=HL.out;unfold zCk at h2;rw[if_pos h1]at h2;simp only[Prod.mk.injEq]at h2;omega
   have hLl:L.length≤4097:=by
    have h1:=zHy hul;rw[HL.out]at h1;exact yAE h1 (by omega)
   have HLM:=zD (zOJ HL.out);obtain⟨g,hg⟩:∃g,w1.heap.size=g:=⟨_,rfl⟩;obtain⟨W2,hW2⟩:∃W2,w1.alloc (.cells #[.slice AT L.length cT,.int .i64 0,.int .i64 0,.int .i64 0] 69)=W2:=⟨_,rfl⟩;have hg12:w1.grownBy W2 none:=by rw[←hW2];exact zI _ _ _
   have HP:=zD (show Pa ⟨g,L,AT,L.length,cT,w1⟩ ⟨0,0,0⟩ W2 from by
    refine⟨⟨hLst,rfl,hLl,?_,by show w1.heap.size≤g;omega⟩,?_,?_,yAF _⟩
    · exact HTok.out.base (yAF _)
    · show Below w1.heap.size w1 W2;rw[←hW2];exact(Below.refl _ _).alloc (yAD _) _
    · show Bx W2 g _ _;rw[←hW2,←hg];exact Bx.new w1 [.slice AT L.length cT,.int .i64 0,.int .i64 0,.int .i64 0] _)
   have hgX:X < g:=by have:=HX1.out.lt;omega
   have HX2:=zD (HX1.out.grown hg12 (by simp));have HB2:=zD (show Below w.heap.size w W2 from(HBW.out.trans (HB1.out.mono hWs)).trans (by
    have h0:Below w1.heap.size w1 W2:=by rw[←hW2];exact(Below.refl _ _).alloc (yAD _) _
    exact h0.mono (yAE hWs HB1.out.size)))
   have HT1:=zD (HTW.out.below HTW.out.lt HB1.out);obtain⟨⟨tr,s⟩,hr⟩:∃q,zG L (.program []) ⟨0,0,0⟩=q:=⟨_,rfl⟩;have HSZ2:=zD (show tr.size≤1000000 by have:=HSZ.out;rw[hr]at this;exact this);have HNB:=zD (show NB tr by have:=zUA HTL.out HLM.out (.program []) ⟨0,0,0⟩ zB2;rw[hr]at this;exact this);have cp:Calls prog 34 #[.pointer (some ⟨g,0,none⟩)] W2 (zDJ ⟨g,L,AT,L.length,cT,w1⟩ (zG L (.program []) ⟨0,0,0⟩) W2):=zIp (C:=⟨g,L,AT,L.length,cT,w1⟩) HT1.out HTL.out ⟨yAF _,trivial⟩ HP.out;rw[hr]at cp;have HCP:=zD cp;have HR:=zD hr;clear cp hr hLst hg12 HTok HX HX1 zX fX HSZ;go_upto_region 5 with(fail);clear hW2;go_wp2_with fail;refine HCP.out.mono ?_;rintro ev3 w3 ⟨d0,d1,d2,d3,d4,d5,d6,d7,d8,rfl,ht3,hp3,hg3⟩;have HP3:=zD (show Pa ⟨g,L,AT,L.length,cT,w1⟩ s w3 from hp3);have HX3:=zD (HX2.out.gg hg3 (by show g≠X;omega));have HB3:=zD (HB2.out.trans (zAq hg3 (show w.heap.size≤g by rw[HRw.out];omega) (by show g≤W2.heap.size;exact Nat.le_of_lt HP.out.lt)));have HT3:=zD (show TrC w3 _ tr _ from ht3);obtain⟨so_0,so_1,so_2,so_3,so_4,so_5,so_6,so_7,so_8⟩:=HT3.out.sto;clear ht3 hp3 hg3 HCP HP HX2 HB2;obtain⟨W4,hW4⟩:∃W4,w3.alloc (.cells #[d0,d1,d2,d3,d4,d5,d6,d7,d8] 72)=W4:=⟨_,rfl⟩;have hg34:w3.grownBy W4 none:=by rw[←hW4];exact zI _ _ _
   obtain⟨R,hR⟩:∃R,w3.heap.size=R:=⟨_,rfl⟩;have HR4:=zD (show Bx W4 R 72 [d0,d1,d2,d3,d4,d5,d6,d7,d8] by rw[←hW4,←hR];exact Bx.new w3 _ _);have HP4:=zD (HP3.out.new hg34);have HX4:=zD (HX3.out.grown hg34 (by simp));have HT4:=zD (TrC.keep hg34 (.none_ _ _) _ _ HT3.out);have HB4:=zD (HB3.out.trans (show Below w.heap.size w3 W4 by
    have h0:Below w3.heap.size w3 W4:=by rw[←hW4];exact(Below.refl _ _).alloc (yAD _) _
    exact h0.mono HB3.out.size))
   clear hg34 HP3 HX3 HT3 HB3;go_upto_region 6 with(fail);clear hW4 hR;have cb:W4.cell? ⟨g,2,none⟩=some (.int .i64 (s.bad:Int)):=HP4.out.c2;have cf:W4.cell? ⟨g,3,none⟩=some (.int .i64 (zRt L s:Int)):=HP4.out.c3;have zX:W4.cell? ⟨X,0,none⟩=some (.slice none 0 0):=HX4.out.cell 0;have fX:W4.frozen? ⟨X,0,none⟩=false:=HX4.out.frozen 0
   by_cases hb:s.bad=0
   · have hb1:((s.bad:Int) !=0)=false:=by rw[bne_eq_false_iff_eq];omega
     have HBD:=zD hb;clear hb;obtain⟨zr_0,zr_1,zr_2,zr_3,zr_4,zr_5,zr_6,zr_7,zr_8⟩:=HR4.out.nine;have HF:=zD (zQq HT4.out HSZ2.out);go_wp2_with fail;refine HF.out.mono ?_;rintro ev5 w5 ⟨A5,n5,c5,rfl,hl5,hg5⟩;have hrd:=hl5.reads (nq_flatT HNB.out 0) (zEy tr) (by rw[flatT_len];exact HSZ2.out);have HN5:=zD hrd.1;have hn5:n5=tr.size:=by rw[←flatT_len 0 tr];exact hrd.1.1.symm
     have hc5:=zD hrd.2;have HX5:=zD (HX4.out.grown hg5 (by simp));have HB5:=zD (HB4.out.trans (show Below w.heap.size W4 w5 from⟨hg5.os,hg5.tape,hg5.output,hg5.size,fun i hi=>hg5.block i (yAA hi HB4.out.size) (by simp)⟩));have HN5e:=zD hn5;have HLd:=zD hl5;clear hl5 hg5 hrd HF zr_0 zr_1 zr_2 zr_3 zr_4 zr_5 zr_6 zr_7 zr_8 cb cf zX fX so_0 so_1 so_2 so_3 so_4 so_5 so_6 so_7 so_8 hn5;obtain⟨W6,hW6⟩:∃W6,w5.alloc (.cells #[.slice A5 n5 c5] 27)=W6:=⟨_,rfl⟩;have hg56:w5.grownBy W6 none:=by rw[←hW6];exact zI _ _ _
     obtain⟨T,hT⟩:∃T,w5.heap.size=T:=⟨_,rfl⟩;have HT6:=zD (show Bx W6 T 27 [.slice A5 n5 c5] by rw[←hW6,←hT];exact Bx.new w5 _ _);have hXT:X < T:=by have:=HX5.out.lt;omega
     have HX6:=zD (HX5.out.grown hg56 (by simp));have hbel56:Below w5.heap.size w5 W6:=by rw[←hW6];exact(Below.refl _ _).alloc (yAD _) _
     have HN6:=zD ((HN5.out.below hbel56).more hbel56.size);have HB6:=zD (HB5.out.trans (hbel56.mono HB5.out.size));have HLd6:=zD (HLd.out.new hg56);clear hg56 HN5 HX5 HB5 hbel56 HLd;go_upto_region 9 with(fail);clear hW6 hT;have zT:W6.cell? ⟨T,0,none⟩=some (.slice A5 n5 c5):=HT6.out.cell 0;have zX:W6.cell? ⟨X,0,none⟩=some (.slice none 0 0):=HX6.out.cell 0;have fX:W6.frozen? ⟨X,0,none⟩=false:=HX6.out.frozen 0;have hn1:0 < n5:=by have:=zBm tr;have:=HN5e.out;omega
     by_cases hlong:4096 < n5
     · have hl2:(4096:Int) < (n5:Int):=by omega
       have HLO:=zD hlong;clear hlong;go_wp2_with fail;have hz0:(W6.setCell ⟨X,0,none⟩ (.slice none 0 0)).cell? ⟨X,0,none⟩=some (.slice none 0 0):=(HX6.out.set 0 _).cell 0;refine bodyPost_ret (v:=.tuple #[.agg #[.slice none 0 0],.int .i64 0,.int .i64 3]) (by simp[results,results16,go_sem,hz0]) rfl ?_;refine ParseQ.nil (a:=0) (e:=3) ?_ (HB6.out.trans (zAq (zR W6 X 0 _) (by rw[HRw.out];exact yAD _) (Nat.le_of_lt HX6.out.lt)));unfold zAg;rw[HL.out];simp only[HR.out];rw[if_neg (by simp),if_neg (by rw[HBD.out];simp),if_pos (by have:=HLO.out;have:=HN5e.out;omega)]
     · have hl2:¬((4096:Int) < (n5:Int)):=by omega
       have HD:=zD (zGs (w:=W6) (c:=c5) HN6.out (yAD _) hn1 (by omega) (zEy tr) (fun x hx=>yAE (kids_flatT tr 0 x hx) HSZ2.out) rfl);have HLO:=zD hlong;clear hlong;go_wp2_with fail;refine HD.out.mono ?_;rintro ev7 w7 ⟨A7,c7,rfl,hq7,hc7,hr7,hb7⟩;have HX7:=zD (HX6.out.grown (zAT none hb7) (by simp));have HT7:=zD (HT6.out.grown (zAT none hb7) (by simp));have HB7:=zD (HB6.out.trans (hb7.mono HB6.out.size));have HN7:=zD ((HN6.out.below hb7).more hb7.size);have HM:=zD (zIr (c:=c7) hq7 hn1 (by have:=HLO.out;omega) hr7 (show zEn (zGx (flatT 0 tr))=depT tr from zC6 tr));have HLd7:=zD (HLd6.out.new (zAT none hb7));clear hq7 hc7 hr7 hb7 HD zT zX fX;go_wp2_with fail;refine HM.out.mono ?_;rintro ev8 w8 ⟨rfl,rfl⟩;have zT:w7.cell? ⟨T,0,none⟩=some (.slice A5 n5 c5):=HT7.out.cell 0;have zX:w7.cell? ⟨X,0,none⟩=some (.slice none 0 0):=HX7.out.cell 0;have fX:w7.frozen? ⟨X,0,none⟩=false:=HX7.out.frozen 0
       by_cases hdeep:48 < depT tr
       · have hd2:(48:Int) < (depT tr:Int):=by omega
         have HDE:=zD hdeep;clear hdeep;go_wp2_with fail;have hz0:(w7.setCell ⟨X,0,none⟩ (.slice none 0 0)).cell? ⟨X,0,none⟩=some (.slice none 0 0):=(HX7.out.set 0 _).cell 0;refine bodyPost_ret (v:=.tuple #[.agg #[.slice none 0 0],.int .i64 0,.int .i64 7]) (by simp[results,results16,go_sem,hz0]) rfl ?_;refine ParseQ.nil (a:=0) (e:=7) ?_ (HB7.out.trans (zAq (zR w7 X 0 _) (by rw[HRw.out];exact yAD _) (Nat.le_of_lt HX7.out.lt)));unfold zAg;rw[HL.out];simp only[HR.out];rw[if_neg (by simp),if_neg (by rw[HBD.out];simp),if_neg (by have:=HLO.out;have:=HN5e.out;omega),if_pos HDE.out]
       · have hd2:¬((48:Int) < (depT tr:Int)):=by omega
         have HDE:=zD hdeep;clear hdeep;go_wp2_with fail;have hz0:(w7.setCell ⟨X,0,none⟩ (.slice A5 n5 c5)).cell? ⟨X,0,none⟩=some (.slice A5 n5 c5):=(HX7.out.set 0 _).cell 0;refine bodyPost_ret (v:=.tuple #[.agg #[.slice A5 n5 c5],.int .i64 0,.int .i64 0]) (by simp[results,results16,go_sem,hz0]) rfl ?_;have hpf:zAg u=(flatT 0 tr,0,0):=by
          unfold zAg;rw[HL.out];simp only[HR.out];rw[if_neg (by simp),if_neg (by rw[HBD.out];simp),if_neg (by have:=HLO.out;have:=HN5e.out;omega),if_neg HDE.out]
         rw[hpf];have hfin:=(HLd7.out.var (u:=.slice A5 n5 c5) HX7.out).reads (nq_flatT HNB.out 0) (zEy tr) (by rw[flatT_len];exact HSZ2.out);exact⟨A5,n5,c5,rfl,hfin.1,hfin.2.1,hfin.2.2,HB7.out.trans (zAq (zR w7 X 0 _) (by rw[HRw.out];exact yAD _) (Nat.le_of_lt HX7.out.lt))⟩
   · have hb1:((s.bad:Int) !=0)=true:=by rw[bne_iff_ne];omega
     have HBD:=zD hb;clear hb;go_wp2_with fail;have HPF:=zD (show zAg u=([],zRt L s,s.bad)from by
      unfold zAg;rw[HL.out];simp only[HR.out];rw[if_neg (by simp),if_pos HBD.out];unfold zRt;rw[if_neg HBD.out])
     go_region_law (fail)
     all_goals
      go_wp2_with fail;have hz0:(W4.setCell ⟨X,0,none⟩ (.slice none 0 0)).cell? ⟨X,0,none⟩=some (.slice none 0 0):=(HX4.out.set 0 _).cell 0;refine bodyPost_ret (v:=.tuple #[.agg #[.slice none 0 0],.int .i64 (zRt L s:Int),.int .i64 (s.bad:Int)]) (by simp[results,results16,go_sem,hz0]) rfl ?_;exact ParseQ.nil HPF.out (HB4.out.trans (zAq (show W4.grownBy (W4.setCell ⟨X,0,none⟩ (.slice none 0 0)).drew (some X)from zE (zR W4 X 0 _) (zA3 _ _)) (by rw[HRw.out];exact yAD _) (Nat.le_of_lt HX4.out.lt)))
 · have he1:((e:Int) !=0)=true:=by rw[bne_iff_ne];omega
   have HE:=zD he;clear he;have zX:w1.cell? ⟨X,0,none⟩=some (.slice none 0 0):=HX1.out.cell 0;have fX:w1.frozen? ⟨X,0,none⟩=false:=HX1.out.frozen 0;go_wp2_with fail;have hz0:(w1.setCell ⟨X,0,none⟩ (.slice none 0 0)).cell? ⟨X,0,none⟩=some (.slice none 0 0):=(HX1.out.set 0 _).cell 0;refine bodyPost_ret (v:=.tuple #[.agg #[.slice none 0 0],.int .i64 (at_:Int),.int .i64 (e:Int)]) (by simp[results,results16,go_sem,hz0]) rfl ?_;refine ParseQ.nil (by unfold zAg;rw[HL.out];exact if_pos HE.out) ?_;have h1:Below w.heap.size w w1:=HBW.out.trans (HB1.out.mono hWs);exact h1.trans (zAq (zR w1 X 0 _) (by rw[HRw.out];exact yAD _) (Nat.le_of_lt HX1.out.lt))
end Go.Proofs.YtlohaclgbfhijaaGreatDoor
