/- Joined for the claim EarlySame: the parser, the lexer and the trees as they are walked, made short by a program of mine. -/
import Derived.Test.YtjlfhidpmdgloaaGreatDoorH05
import Derived.Test.YtjlfhidpmdgloaaGreatDoorH01
import Derived.Deep.CutBlock
import Derived.Deep.DeepCutAuto
import Derived.Deep.RegionHeld3
import Derived.Deep.RegionWith
import Derived.Deep.LoopGhost
import Derived.Test.YtjlfhidpmdgloaaGreatDoorH04
set_option maxHeartbeats 16000000
set_option maxRecDepth 1000000
namespace Go.Proofs.YtjlfhidpmdgloaaGreatDoor
open Go.Proofs.Tryz
open Go.RowKit
variable {u xs d:jH} {A:jQ} {c m k B e p n g D:Nat} {ts:List Tok} {v:Value} {nl b ok:Bool} {t:Tok} {W wr wc:World}
theorem zNh {o:jQ} {d:Nat} {b:jH} {w:World} (hB:B≤w.heap.size) (q:Reads w B 1 A xs.length (zAC xs)) (hb:Reads w B 1 o b.length (zAC b)) (z:xs.length≤70368744177664) (s:b.length≤70368744177664):
 Calls prog 163 #[.slice A xs.length c,.slice o b.length d] w fun e w'=>e=.returned (decide (xs=b))∧jY w w':=by
 by_cases f:xs.length=b.length
 · have H:=zA f;clear f;have e1:((xs.length:Int)==(b.length:Int))=true:=by rw[H.out];simp
   have e2:((xs.length:Int) !=(b.length:Int))=false:=by rw[H.out];simp
   go_enter func163,ntmps163;go_wp2
   go_loopw [13] (fun i wr=>∃k:Nat,k≤xs.length∧i=.int .i64 k∧xs.take k=b.take k∧jY w wr) (fun i _=>xs.length - (intOf i).toNat)
   case atStart=>exact⟨0,yAE _,rfl,by simp,Below.refl _ _⟩
   case round=>
    obtain⟨k,hk,rfl,l,g⟩:=hrel;have p:=zA l;clear l
    by_cases m:k < xs.length
    · have j:k < b.length:=by have:=H.out;omega
      obtain⟨C,rfl,_,t⟩:=(q.below (g.mono hB)).u16 m;obtain⟨u,rfl,_,v⟩:=(hb.below (g.mono hB)).u16 j;have D:(k:Int) < (xs.length:Int):=by omega
      have E:(k:Int) < (b.length:Int):=by omega
      go_wp2
      go_quiet (fail)
      go_wp2
      · go_ret;refine⟨zF ?_,zv g _⟩;have f:(xs[k].toNat:Int)≠b[k].toNat:=by
         have h:((xs[k].toNat:Int) !=b[k].toNat)=true:=by assumption
         simpa using h
        refine(yAI ?_).symm;rintro rfl;exact f rfl
      · go_roundw
        case rel=>
         have h:((xs[k].toNat:Int) !=b[k].toNat)=false:=by assumption
         have r:xs[k]=b[k]:=by
          apply yBS.1;simp at h;omega
         exact⟨k+1,by omega,by go_num,by rw[yAK m,yAK j,p.out,r],zv g _⟩
        case measure=>simp[intOf];omega
    · go_wp2;go_ret;refine⟨zF ?_,g⟩;have y:k=xs.length:=by omega
      refine(yBE ?_).symm;have h1:=p.out;rw[yB jo,yB (by rw[←H.out];omega)]at h1;exact h1
 · have e1:((xs.length:Int) !=(b.length:Int))=true:=by simp;omega
   go_enter func163,ntmps163;go_wp2;go_ret;refine⟨zF (yAI ?_).symm,Below.refl _ _⟩;rintro rfl;exact f rfl
theorem zE5 {f:jQ} {d:Nat} {b:jH} {w:World} (hB:B≤w.heap.size) (k:Reads w B 1 A xs.length (zAC xs)) (hb:Reads w B 1 f b.length (zAC b)) (l:xs.length≤70368744177664) (g:b.length≤70368744177664):
 Calls prog 141 #[.slice A xs.length c,.slice f b.length d] w fun e w'=>e=.returned (decide (xs=b))∧jY w w':=by
 go_enter func141,ntmps141;go_wp2_with (go_at_call 163;refine(zNh hB k hb l g).mono ?_;rintro e w' ⟨rfl,j⟩);go_ret;exact⟨rfl,j⟩
def zYM (p:Prop) (w:World) (e:Ending) (w':World):Prop:=∃k:Int,e=.returned k∧(p↔0≤k)∧w=w'
theorem zNi (x:UInt16) {w:World} (j:Reads w B 1 A xs.length (zAC xs)) (o:xs.length≤70368744177664):
 Calls prog 177 #[.slice A xs.length c,.int .u16 (x.toNat:Int)] w (zYM (x∈xs) w):=by
 go_enter func177,ntmps177;go_wp2
 go_loop [8] (fun i=>∃k:Nat,k≤xs.length∧i=.int .i64 k∧x∉xs.take k) (fun i=>xs.length - (intOf i).toNat)
 case atStart=>exact⟨0,yAE _,rfl,by simp⟩
 case round=>
  obtain⟨k,hk,rfl,e⟩:=hrel;have g:=zA e;clear e
  by_cases f:k < xs.length
  · obtain⟨p,rfl,_,m⟩:=j.u16 f;have q:(k:Int) < (xs.length:Int):=by omega
    by_cases b:x=xs[k]
    · have d:x∈xs:=by rw[b];exact yAZ _
      have e1:((x.toNat:Int)==(xs[k].toNat:Int))=true:=by rw[←b];simp
      have l:=zA d;clear b d;go_wp2;go_ret;exact⟨k,rfl,⟨fun _=>by omega,fun _=>l.out⟩,rfl⟩
    · have e1:((x.toNat:Int)==(xs[k].toNat:Int))=false:=by
       rw[yA];intro h;exact b (yBS.1 jo)
      go_wp2;go_round
      case rel=>exact⟨k+1,by omega,by go_num,by rw[yAK f,yBQ];exact fun h=>h.elim g (fun h=>b (by simpa using h))⟩
      case measure=>simp[intOf];omega
  · go_wp2;go_ret;refine⟨-1,rfl,⟨fun h=>absurd h ?_,fun h=>by omega⟩,rfl⟩;have h1:=g.out;rwa [yB jo]at h1
theorem zE6 (x:UInt16) {w:World} (b:Reads w B 1 A xs.length (zAC xs)) (d:xs.length≤70368744177664):
 Calls prog 162 #[.slice A xs.length c,.int .u16 (x.toNat:Int)] w fun e w'=>e=.returned (decide (x∈xs))∧w=w':=by
 go_enter func162,ntmps162;go_wp2_with fail;refine(zNi x b d).mono ?_;rintro e w' ⟨k,rfl,hk,rfl⟩;have f:=zA hk;clear hk;go_wp2;go_ret;exact⟨zF (decide_eq_decide.2 f.out.symm),rfl⟩
def zYN (d:jH) (w:World) (e:Ending) (w':World):Prop:=∃n:Int,e=.returned (.tuple #[n,(decide (zn d≤9007199254740991))])∧(zn d≤9007199254740991→n=zn d)∧w=w'
theorem zJe {w:World} (p:Reads w B 1 A xs.length (zAC xs)) (y:xs.length≤70368744177664) (f:∀x∈xs,zJ x=true):
 Calls prog 145 #[.slice A xs.length c] w (zYN xs w):=by
 have q:=zA f;clear f;go_enter func145,ntmps145;go_wp2
 go_loop [4,9] (fun n i=>∃k:Nat,k≤xs.length∧i=.int .i64 k∧n=.int .i64 (zn (xs.take k))∧zn (xs.take k) < 9007199254750991) (fun _ i=>xs.length - (intOf i).toNat)
 case atStart=>exact⟨0,yAE _,rfl,rfl,Nat.zero_lt_succ _⟩
 case round=>
  obtain⟨k,hk,rfl,rfl,r⟩:=hrel
  by_cases b:k < xs.length
  · obtain⟨z,rfl,_,t⟩:=p.u16 b;have C:(k:Int) < (xs.length:Int):=by omega
    obtain⟨u,v⟩:=zA2.1 (q.out xs[k] (yAZ _));have g:=zHL xs k b;have d:=zDT xs k b;have j:=zA d;clear d;obtain⟨m,e⟩:=jx (zn (xs.take k));rw[e]at r g⊢;have l:=zA e;clear e
    by_cases s:900719925474099 < m
    · go_wp2
      go_ret2
      exact⟨0,zVl rfl (yAI jo).symm,fun h=>by omega,rfl⟩
    · go_wp2;go_round
      case rel=>exact⟨k+1,by omega,by go_num,by rw[j.out,l.out];go_num,by rw[j.out,l.out];omega⟩
      case measure=>simp[intOf];omega
  · go_wp2
    go_ret2
    have o:xs.take k=xs:=yB jo;rw[o];refine⟨zn xs,zVl rfl ?_,fun _=>rfl,rfl⟩;exact decide_eq_decide.2 jo
theorem zJf (w:World):Calls prog 98 #[.string ⟨#[120,88,111,79,46,43,45,95]⟩] w fun e w'=>∃A c,e=.returned (.slice A zDG.length c)∧Reads w' w'.heap.size 1 A zDG.length (zAC zDG)∧jY w w':=by
 refine(zDi _ w jd).mono ?_;rintro e w' ⟨v,rfl,d⟩;have b:Made w w' 104 v (zAC zDG):=d;obtain⟨A,c,rfl,_,_,f⟩:=b.u16;exact⟨A,c,rfl,f,b.below⟩
theorem zKw {w:World} (hB:B≤w.heap.size) (F:Reads w B 1 A xs.length (zAC xs)) (L:xs.length≤70368744177664):
 Calls prog 140 #[.slice A xs.length c] w fun e w'=>e=.returned (zBm xs)∧jY w w':=by
 go_enter func140,ntmps140;go_wp2
 go_loopw [3,8] (fun s i wr=>∃k:Nat,k≤xs.length∧i=.int .i64 k∧s=.bool ((xs.take k).any zJ)∧Hid ((xs.take k).all zCc=true)∧jY w wr) (fun _ i _=>xs.length - (intOf i).toNat)
 case atStart=>exact⟨0,yAE _,rfl,rfl,rfl,Below.refl _ _⟩
 case round=>
  obtain⟨k,hk,rfl,rfl,f,b⟩:=hrel
  by_cases g:k < xs.length
  · obtain⟨M,G,_,J⟩:=(F.below (b.mono hB)).u16 g;subst G;have N:(k:Int) < (xs.length:Int):=by omega
    have O:=xs[k].toNat_lt;have u:(xs.take (k+1)).any zJ=((xs.take k).any zJ || zJ xs[k]):=by rw[yAK g];simp only[List.any_append,List.any_cons,List.any_nil,Bool.or_false]
    have v:(xs.take (k+1)).all zCc=zCc xs[k]:=by rw[yAK g,List.all_append,f.out];simp only[List.all_cons,List.all_nil,Bool.and_true,yC]
    have j:zCc xs[k]=false→zBm xs=false:=by
     intro h;have:xs.all zCc=false:=List.all_eq_false.2 ⟨xs[k],yAZ _,by simp[h]⟩;simp[zBm,this]
    have p:=zA u;have q:=zA v;have H:=zA j;clear u v j;obtain⟨s,hs⟩:=jx ((xs.take k).any zJ);rw[hs];have r:=zA hs;clear hs;cases hd:zJ xs[k]with
    | true=>
     have z:=zI0 hd;have d:=zA z;clear z;cases s
     all_goals
      go_wp2_with (go_at_call 144;refine(zC9 _ _).mono ?_;rintro e w' ⟨rfl,rfl⟩)
      go_roundw
      case rel=>exact⟨k+1,by omega,by go_num,by rw[p.out,r.out,hd];rfl,q.out.trans d,b⟩
      case measure=>simp[intOf];omega
    | false=>
     by_cases r1:97≤xs[k].toNat∧xs[k].toNat≤102
     · have d:Hid (zCc xs[k]=true):=by simp[zCc,r1.1,r1.2,Hid]
       obtain⟨r1,r2⟩:=r1;cases s
       all_goals
        go_wp2_with (go_at_call 144;refine(zC9 _ _).mono ?_;rintro e w' ⟨rfl,rfl⟩)
        go_roundw
        case rel=>exact⟨k+1,by omega,by go_num,by rw[p.out,r.out,hd];rfl,q.out.trans d,b⟩
        case measure=>simp[intOf];omega
     by_cases r2:65≤xs[k].toNat∧xs[k].toNat≤70
     · have d:Hid (zCc xs[k]=true):=by simp[zCc,r2.1,r2.2,Hid]
       obtain⟨r2,r3⟩:=r2;clear r1;have r4:¬(97:Int)≤xs[k].toNat:=by omega
       cases s
       all_goals
        go_wp2_with (go_at_call 144;refine(zC9 _ _).mono ?_;rintro e w' ⟨rfl,rfl⟩)
        go_roundw
        case rel=>exact⟨k+1,by omega,by go_num,by rw[p.out,r.out,hd];rfl,q.out.trans d,b⟩
        case measure=>simp[intOf];omega
     have y:zCc xs[k]=decide (xs[k]∈zDG):=by
      have e1:(decide (97≤xs[k].toNat)&&decide (xs[k].toNat≤102))=false:=by simpa using r1
      have e2:(decide (65≤xs[k].toNat)&&decide (xs[k].toNat≤70))=false:=by simpa using r2
      rw[zCc,hd,e1,e2];rfl
     have d:=zA y;clear y;obtain⟨m,C⟩:=jx (decide (xs[k]∈zDG));have t:=zA C;clear C;cases m with
     | true=>
      cases s
      all_goals
       go_wp2_with (first | (go_at_call 144;refine(zC9 _ _).mono ?_;rintro e w' ⟨rfl,rfl⟩) | (go_at_call 98;refine(zJf _).mono ?_;rintro e w1 ⟨I,c1,rfl,l,o⟩) | (go_at_call 162;refine(zE6 _ l jd).mono ?_;rintro e w2 ⟨rfl,rfl⟩;rw[t.out]))
       all_goals go_roundw
       all_goals first | exact⟨k+1,by omega,by go_num,by rw[p.out,r.out,hd];rfl,q.out.trans (d.out.trans t),b.trans (o.mono b.size)⟩ | (simp[intOf];omega)
     | false=>
      have D:=zA (H.out (d.out.trans t));cases s
      all_goals
       go_wp2_with (first | (go_at_call 144;refine(zC9 _ _).mono ?_;rintro e w' ⟨rfl,rfl⟩) | (go_at_call 98;refine(zJf _).mono ?_;rintro e w1 ⟨I,c1,rfl,l,o⟩) | (go_at_call 162;refine(zE6 _ l jd).mono ?_;rintro e w2 ⟨rfl,rfl⟩;rw[t.out]))
       all_goals go_ret
       all_goals exact⟨zF D.out.symm,b.trans (o.mono b.size)⟩
  · go_wp2;go_ret;have E:xs.take k=xs:=yB jo;rw[E]at f⊢;exact⟨zF (by rw[zBm,f.out];rfl),b⟩
theorem zGv (x:UInt16) (w:World):Calls prog 143 #[.int .u16 (x.toNat:Int)] w fun e w'=>e=.returned (!zJ x)∧w=w':=by
 go_enter func143,ntmps143;go_wp2_with (go_at_call 144;refine(zC9 _ _).mono ?_;rintro e w' ⟨rfl,rfl⟩);go_ret;exact⟨rfl,rfl⟩
def zMG (xs:jH):Prop:=xs.any (fun x=> !zJ x)=true
theorem zHP {w:World} (g:Reads w B 1 A xs.length (zAC xs)) (m:xs.length≤70368744177664):
 Calls prog 164 #[.slice A xs.length c,.func (.func 143) #[] #[]] w (zYM (zMG xs) w):=by
 go_enter func164,ntmps164;go_wp2
 go_loop [8] (fun i=>∃k:Nat,k≤xs.length∧i=.int .i64 k∧Hid ((xs.take k).any (fun x=> !zJ x)=false)) (fun i=>xs.length - (intOf i).toNat)
 case atStart=>exact⟨0,yAE _,rfl,rfl⟩
 case round=>
  obtain⟨k,hk,rfl,b⟩:=hrel
  by_cases d:k < xs.length
  · obtain⟨o,j,_,l⟩:=g.u16 d;subst j;have p:(k:Int) < (xs.length:Int):=by omega
    cases hd:zJ xs[k]with
    | false=>
     have f:=zA (show zMG xs from List.any_eq_true.2 ⟨xs[k],yAZ _,by rw[hd];rfl⟩);go_wp2_with (go_at_call 143;refine(zGv _ _).mono ?_;rintro e w' ⟨rfl,rfl⟩);go_ret;exact⟨k,rfl,⟨fun _=>by omega,fun _=>f.out⟩,rfl⟩
    | true=>
     have f:=zA hd;go_wp2_with (go_at_call 143;refine(zGv _ _).mono ?_;rintro e w' ⟨rfl,rfl⟩);go_round
     case rel=>exact⟨k+1,by omega,by go_num,by rw[yAK d,List.any_append,b.out];simp[Hid,f.out]⟩
     case measure=>simp[intOf];omega
  · go_wp2;go_ret;refine⟨-1,rfl,⟨fun h=>absurd h ?_,fun h=>by omega⟩,rfl⟩;have h1:=b.out;rw[yB jo]at h1;rw[zMG,h1];simp
theorem zB5 {w:World} (b:Reads w B 1 A xs.length (zAC xs)) (d:xs.length≤70368744177664):
 Calls prog 142 #[.slice A xs.length c,.func (.func 143) #[] #[]] w fun e w'=>e=.returned (!xs.all zJ)∧w=w':=by
 go_enter func142,ntmps142;go_wp2_with fail;refine(zHP b d).mono ?_;rintro e w' ⟨k,rfl,hk,rfl⟩;have f:=zA hk;clear hk;go_wp2;go_ret;refine⟨zF ?_,rfl⟩;have h1:=f.out;rw[yBJ,yBG,←h1,zMG];simp
def Sl (w:World) (B:Nat) (v:Value) (ys:jH):Prop:=∃A c,v=.slice A ys.length c∧ys.length≤c∧c≤maxLen∧Reads w B 1 A ys.length (zAC ys)
def lenOf:Value→Nat | .slice _ n _=>n | _=>0
theorem Sl.cut1 {w:World} {d:Addr} {b:jH} (f:Reads w B 1 (some d) b.length (zAC b)) (g:0 < b.length) (j:b.length≤c) (l:c≤maxLen):
 Sl w B (.slice (if c=1 then some d else some ⟨d.block,d.off+1,none⟩) (b.length - 1) (c - 1)) (b.drop 1):=by
 have e:(b.drop 1).length=b.length - 1:=yAR;refine⟨_,c - 1,by rw[e],by rw[e];omega,by omega,?_⟩;exact f.cut16 (k:=1) g j
theorem Sl.less1 {w:World} {b:jH} (f:Reads w B 1 A b.length (zAC b)) (g:b.length≤c) (d:c≤maxLen):
 Sl w B (.slice A (b.length - 1) c) (b.take (b.length - 1)):=by
 have e:(b.take (b.length - 1)).length=b.length - 1:=by rw[yBK];omega
 exact⟨A,c,by rw[e],by rw[e];omega,d,f.take16 jo⟩
theorem zQU {ts:jH} (h:0 < ts.length):zCd ts=((ts[0].toNat:Int)==45):=by
 cases ts with
 | nil=>simp at h
 | cons x r=>
  rw[yBJ,zCd];simp only[List.headD_cons,yBL,yCB,←yBS];simp;omega
def zE7 (ts:jH):Bool:=zCd ts || ts.headD 0==43
theorem zKx {ts:jH} (h:0 < ts.length):zE7 ts=(zCd ts || ((ts[0].toNat:Int)==43)):=by
 cases ts with
 | nil=>simp at h
 | cons x r=>
  rw[zE7];congr 1;rw[yBJ];simp only[List.headD_cons,yBL,yCB,←yBS];simp;omega
theorem zJg (ts:jH):zAT ts=if zE7 ts=true then ts.drop 1 else ts:=by
 simp[zAT,zE7,zCd]
theorem zKy {b:jH} (h:0 < b.length) (hb:zAp (b[b.length - 1]' jo)=true):zGK b=zGK (b.take (b.length - 1)):=by
 have e:b=b.take (b.length - 1)++[b[b.length - 1]' jo]:=by
  rw[←yAK jo,yB jo]
 conv=>lhs;rw[e]
 rw[zGK,List.reverse_append];show(List.dropWhile zAp (_::(b.take (b.length - 1)).reverse)).reverse=_;rw[List.dropWhile_cons_of_pos hb];rfl
theorem zNj {b:jH} (h:0 < b.length) (hb:zAp (b[b.length - 1]' jo)=false):zGK b=b:=by
 have e:b=b.take (b.length - 1)++[b[b.length - 1]' jo]:=by
  rw[←yAK jo,yB jo]
 have e2:zGK (b.take (b.length - 1)++[b[b.length - 1]' jo])=b.take (b.length - 1)++[b[b.length - 1]' jo]:=by
  rw[zGK,List.reverse_append];show(List.dropWhile zAp (_::(b.take (b.length - 1)).reverse)).reverse=_;rw[List.dropWhile_cons_of_neg (by simp[hb])];simp only[List.reverse_cons,List.reverse_reverse]
 rw[←e]at e2;exact e2
theorem zZN {b:jH} (h:0 < b.length) (hb:zAp b[0]=true):b.dropWhile zAp=(b.drop 1).dropWhile zAp:=by
 cases b with
 | nil=>simp at h
 | cons y b=>simp only[yCB]at hb;rw[List.dropWhile_cons_of_pos hb];rfl
theorem zZO {b:jH} (h:0 < b.length) (hb:zAp b[0]=false):b.dropWhile zAp=b:=by
 cases b with
 | nil=>simp at h
 | cons y b=>simp only[yCB]at hb;rw[List.dropWhile_cons_of_neg (by simp[hb])]
theorem zNk {w:World} (hb:Below D W w) (d:B≤D) (j:D≤W.heap.size) (f:Reads W B 1 A xs.length (zAC xs)) (g:xs.length≤70368744177664):
 Calls prog 140 #[.slice A xs.length c] w fun e w'=>e=.returned (zBm xs)∧jY w w'∧Below D W w':=by
 have hs:=hb.size;refine(zKw (B:=B) jo (f.below (hb.mono d)) g).mono ?_;rintro e w' ⟨rfl,b⟩;exact⟨rfl,b,hb.trans (b.mono jo)⟩
def NumAt (w:World) (g:Nat) (k n:Int):Prop:=
 w.cell? g=some (.int .i64 k)∧w.cell? ⟨g,1,none⟩=some (.int .i64 n)∧w.frozen? g=false∧w.frozen? ⟨g,1,none⟩=false
theorem NumAt.below {k n:Int} {w w':World} (h:NumAt w g k n) (hb:Below D w w') (hg:g < D):NumAt w' g k n:=
 ⟨(hb.cell (p:=g) hg).trans h.1,(hb.cell (p:=⟨g,1,none⟩) hg).trans h.2.1,(hb.frozen (p:=g) hg).trans h.2.2.1,(hb.frozen (p:=⟨g,1,none⟩) hg).trans h.2.2.2⟩
theorem zQV {w2:World} {a b:Value} {T:TypeId} (hb:Below (W.drew.alloc (.cells #[a,b] T)).heap.size (W.drew.alloc (.cells #[a,b] T)) w2):
 w2.cell? W.heap.size=some a∧w2.cell? ⟨W.heap.size,1,none⟩=some b∧w2.frozen? W.heap.size=false∧w2.frozen? ⟨W.heap.size,1,none⟩=false:=by
 have h:W.heap.size < (W.drew.alloc (.cells #[a,b] T)).heap.size:=by simp
 refine⟨(hb.cell (p:=W.heap.size) h).trans ?_,(hb.cell (p:=⟨W.heap.size,1,none⟩) h).trans ?_,(hb.frozen (p:=W.heap.size) h).trans ?_,(hb.frozen (p:=⟨W.heap.size,1,none⟩) h).trans ?_⟩
 all_goals go_simp
theorem zCu {w':World} (b:D≤W.heap.size) (hb:Below D W w') (o:Obj):Below D W (w'.alloc o):=hb.alloc (yAD b hb.size) o
theorem zHr {w':World} (c:D≤W.heap.size) (hb:Below D W w') (a b:Value):Below D W ((w'.setCell W.heap.size a).setCell ⟨W.heap.size,1,none⟩ b):=
 (hb.setCell (p:=W.heap.size) c a).setCell (p:=⟨W.heap.size,1,none⟩) c b
theorem NumAt.new (w:World) (k n:Int) (T:TypeId):NumAt (w.alloc (.cells #[k,n] T)) w.heap.size k n:=⟨by go_simp,by go_simp,by go_simp,by go_simp⟩
theorem NumAt.set {w:World} {a b:Value} (c:w.cell? g=some a) (h1:w.cell? ⟨g,1,none⟩=some b) (d:w.frozen? g=false) (f1:w.frozen? ⟨g,1,none⟩=false) (k n:Int):
 NumAt ((w.setCell g (.int .i64 k)).setCell ⟨g,1,none⟩ (.int .i64 n)) g k n:=⟨by go_simp,by go_simp,by go_simp,by go_simp⟩
theorem zJh (w:World) (a b:Addr) (x y:Value):((w.setCell a x).setCell b y).heap.size=w.heap.size:=by simp
theorem zGw {k n:Int} {w':World} (h:NumAt W g k n) (hg:g < D) (hb:Below D W w'):w'.cell? g=some (.int .i64 k)∧w'.cell? ⟨g,1,none⟩=some (.int .i64 n)∧Below D W w':=
 ⟨(h.below hb hg).1,(h.below hb hg).2.1,hb⟩
theorem zDr (w:World):Calls prog 98 #[.string ⟨#[73,110,102,105,110,105,116,121]⟩] w fun e w'=>∃A c,e=.returned (.slice A zBU.length c)∧Reads w' w'.heap.size 1 A zBU.length (zAC zBU)∧jY w w':=by
 refine(zDi _ w jd).mono ?_;rintro e w' ⟨v,rfl,d⟩;have b:Made w w' 104 v (zAC zBU):=d;obtain⟨A,c,rfl,_,_,f⟩:=b.u16;exact⟨A,c,rfl,f,b.below⟩
def BaseOk (ts:jH) (k n:Int) (ok:Bool):Prop:=zFM ts=(⟨k,n⟩,ok)∧((k=2∧n=0)∨(k=3∧n=0)∨(k=0∧0≤n∧n≤9007199254740991))
theorem BaseOk.inf {ts:jH} (h:zAT ts=zBU):BaseOk ts 3 0 (!zBm ts):=by
 refine⟨?_,Or.inr (Or.inl ⟨rfl,rfl⟩)⟩;rw[zKT h,zFM,if_pos h];rfl
theorem BaseOk.dig {ts:jH} (h:¬zAT ts=zBU) (b:zAT ts≠[]∧(zAT ts).all zJ=true) (c:zn (zAT ts)≤9007199254740991):BaseOk ts 0 (zn (zAT ts)) true:=
 ⟨by rw[zFM,if_neg h,if_pos b,if_pos c],Or.inr (Or.inr ⟨rfl,by omega,by omega⟩)⟩
theorem BaseOk.odd {ts:jH} (h:¬zAT ts=zBU) (b:¬(zAT ts≠[]∧(zAT ts).all zJ=true)):BaseOk ts 2 0 (!zBm ts):=
 ⟨by rw[zFM,if_neg h,if_neg b],Or.inl ⟨rfl,rfl⟩⟩
theorem zKz {ts:jH} (b:0 < ts.length):zSK ts=(if zCd ts=true then zFN (zFM ts).1 else(zFM ts).1,(zFM ts).2):=by
 rw[zSK,if_neg (List.ne_nil_of_length_pos b)]
theorem zTh {ts:jH} (b:0 < ts.length) (h:¬zAT ts=zBU) (c:zAT ts≠[]∧(zAT ts).all zJ=true) (d:¬zn (zAT ts)≤9007199254740991):zSK ts=(⟨2,0⟩,false):=by
 rw[zKz b,zFM,if_neg h,if_pos c,if_neg d]
 by_cases hs:zCd ts=true
 · rw[if_pos hs];rfl
 · rw[if_neg hs]
theorem zTi {ts:jH} {k n:Int} (b:0 < ts.length) (hs:false=zCd ts) (hb:BaseOk ts k n ok):zSK ts=(⟨k,n⟩,ok):=by
 rw[zKz b,hb.1,if_neg (by rw[←hs];simp)]
theorem zTj {ts:jH} {k n:Int} (b:0 < ts.length) (hs:true=zCd ts) (hb:BaseOk ts k n ok):zSK ts=(zFN ⟨k,n⟩,ok):=by
 rw[zKz b,hb.1,if_pos hs.symm]
theorem zTk {ts:jH} {k n:Int} (hb:BaseOk ts k n ok) (w:World):
 Calls prog 146 #[.agg #[k,n]] w fun e w'=>e=.returned (.agg #[.int .i64 (zFN ⟨k,n⟩).kind,.int .i64 (zFN ⟨k,n⟩).n])∧jY w w':=by
 rcases hb.2 with⟨rfl,rfl⟩ | ⟨rfl,rfl⟩ | ⟨rfl,h1,c⟩
 · exact zWu w
 · exact zWv w
 · by_cases b:n=0
   · subst b;exact zNY w
   · have e:zFN ⟨0,n⟩=⟨0, -n⟩:=by simp[zFN,b]
     rw[e];exact zQA n jo c w
theorem zDs {w3 b:World} (c:jY wc w3) (e:jY w3 b) (d:D≤wc.heap.size):Below D wc b:=
 (c.mono d).trans (e.mono (yAD d c.size))
theorem zDA {w':World} (c:D≤g) (hb:Below D W w') (a b:Value):Below D W ((w'.setCell g a).setCell ⟨g,1,none⟩ b):=
 (hb.setCell (p:=g) c a).setCell (p:=⟨g,1,none⟩) c b
theorem zQW {ts:jH} {b:Nat} {w c:World} {x y:Value} (e:NumAt wc b 0 0) (d:Below b w wc) (hb:Below D wc c) (f:b < D) (j:D≤g)
 (q0:c.cell? g=some x) (q1:c.cell? ⟨g,1,none⟩=some y) (q2:c.frozen? g=false) (q3:c.frozen? ⟨g,1,none⟩=false) (k n:Int) (h:BaseOk ts k n ok):
 NumAt ((c.setCell g (.int .i64 k)).setCell ⟨g,1,none⟩ (.int .i64 n)) g k n∧NumAt ((c.setCell g (.int .i64 k)).setCell ⟨g,1,none⟩ (.int .i64 n)) b 0 0∧
  Below b w ((c.setCell g (.int .i64 k)).setCell ⟨g,1,none⟩ (.int .i64 n))∧g < ((c.setCell g (.int .i64 k)).setCell ⟨g,1,none⟩ (.int .i64 n)).heap.size∧BaseOk ts k n ok:=by
 have h1:=zDA j hb (.int .i64 k) (.int .i64 n);exact⟨NumAt.set q0 q1 q2 q3 k n,e.below h1 f,d.trans (h1.mono jo),by rw[zJh];exact World.block_lt_of_cell? c _ q0,h⟩
theorem zMH {ts:jH} {b:Nat} {w c:World} (e:NumAt wc b 0 0) (d:Below b w wc) (hb:Below D wc c) (f:b < D)
 {k n:Int} (q:NumAt c g k n) (h:BaseOk ts k n ok):
 NumAt c g k n∧NumAt c b 0 0∧Below b w c∧g < c.heap.size∧BaseOk ts k n ok:=
 ⟨q,e.below hb f,d.trans (hb.mono jo),World.block_lt_of_cell? c _ q.1,h⟩
theorem zNl {w:World} (hB:B≤w.heap.size) (ha:Reads w B 1 A xs.length (zAC xs)) (hc:xs.length≤c) (d9:c≤maxLen) (hl:xs.length≤70368744177664):
 Calls prog 116 #[.slice A xs.length c] w fun e w'=>e=.returned (.tuple #[.agg #[.int .i64 (zOk xs).1.kind,.int .i64 (zOk xs).1.n],.bool (zOk xs).2])∧jY w w':=by
 go_enter func116,ntmps116
 go_upto_block 0 with(fail)
 go_cut [0] (fun v u=>u=w.alloc (.cells #[(0:Int),(0:Int)] 52)∧∃r,Sl w B v r∧Hid (r=xs.dropWhile zAp)∧r.length≤xs.length)
 case first=>
  go_wp2_with fail
  go_loop [0] (fun v=>∃r,Sl w B v r∧Hid (r.dropWhile zAp=xs.dropWhile zAp)∧r.length≤xs.length) (fun v=>lenOf v)
  case atStart=>exact⟨xs,⟨A,c,rfl,hc,d9,ha⟩,rfl,yAC _⟩
  case round=>
   obtain⟨r,⟨A',c',rfl,z,C,y⟩,L,a0⟩:=hrel
   by_cases S:0 < r.length
   · obtain⟨ad,T,e1,a1⟩:=(y.alloc hB (.cells #[(0:Int),(0:Int)] 52)).u16_0 S;subst T;have hz:(0:Int) < (r.length:Int):=by omega
     cases hb:zAp r[0]with
     | true=>
      have U:=zA (zZN S hb);have HC:=zA (Sl.cut1 y S z C);go_wp2_with (go_at_call 139;refine(zE4 _ _).mono ?_;rintro e w' ⟨rfl,rfl⟩);go_round
      case rel=>exact⟨r.drop 1,HC,U.out.symm.trans L,by rw[yAR];omega⟩
      case measure=>simp[lenOf];omega
     | false=>
      have U:=zA (zZO S hb);go_wp2_with (go_at_call 139;refine(zE4 _ _).mono ?_;rintro e w' ⟨rfl,rfl⟩);go_meet;exact⟨rfl,r,⟨some ad,c',rfl,z,C,y⟩,U.out.symm.trans L,a0⟩
   · go_wp2;go_meet;have h1:r=[]:=yBB jo;exact⟨rfl,r,⟨A',c',rfl,z,C,y⟩,by have:=L.out;rw[h1]at this⊢;exact this,a0⟩
 case rest=>
  obtain⟨V,r,c4,b6,b7⟩:=hcut;subst V
  go_upto_block 2 with(fail)
  go_cut [0] (fun v u=>u=w.alloc (.cells #[(0:Int),(0:Int)] 52)∧∃ts,Sl w B v ts∧Hid (ts=zOj xs)∧ts.length≤xs.length)
  case first=>
   go_wp2_with fail
   go_loop [0] (fun v=>∃zs,Sl w B v zs∧Hid (zGK zs=zGK r)∧zs.length≤xs.length) (fun v=>lenOf v)
   case atStart=>exact⟨r,c4,rfl,b7⟩
   case round=>
    obtain⟨zs,⟨A',c',rfl,z,C,y⟩,L,a0⟩:=hrel
    by_cases S:0 < zs.length
    · obtain⟨ad,T,e1,a1⟩:=(y.alloc hB (.cells #[(0:Int),(0:Int)] 52)).u16 (k:=zs.length - 1) jo;subst T;have hz:(0:Int) < (zs.length:Int):=by omega
      have f3:(w.alloc (.cells #[(0:Int),(0:Int)] 52)).cell? (ad.add ((zs.length:Int) - 1).toNat)=some (.int .u16 ((zs[zs.length - 1]' jo).toNat:Int)):=by
       rw[show((zs.length:Int) - 1).toNat=zs.length - 1 from by omega];exact a1
      cases hb:zAp (zs[zs.length - 1]' jo)with
      | true=>
       have U:=zA (zKy S hb);have HC:=zA (Sl.less1 y z C);go_wp2_with (go_at_call 139;refine(zE4 _ _).mono ?_;rintro e w' ⟨rfl,rfl⟩);go_round
       case rel=>exact⟨zs.take (zs.length - 1),HC,U.out.symm.trans L,by rw[yBK];omega⟩
       case measure=>simp[lenOf];omega
      | false=>
       have U:=zA (zNj S hb);go_wp2_with (go_at_call 139;refine(zE4 _ _).mono ?_;rintro e w' ⟨rfl,rfl⟩);go_meet;exact⟨rfl,zs,⟨some ad,c',rfl,z,C,y⟩,U.out.symm.trans (L.out.trans (by rw[b6.out];rfl)),a0⟩
    · go_wp2;go_meet;have h1:zs=[]:=yBB jo;have h2:zGK zs=zOj xs:=L.out.trans (by rw[b6.out];rfl);exact⟨rfl,zs,⟨A',c',rfl,z,C,y⟩,by rw[h1]at h2⊢;exact h2,a0⟩
  case rest=>
   obtain⟨V,ts,⟨A1,c1,hv,z,C,y⟩,c5,f4⟩:=hcut;subst V;subst hv;clear b6 c4 b7 r;have hN:=zA (show zOk xs=zSK ts by rw[zOk,c5.out]);clear c5
   by_cases S:ts.length=0
   · have h1:ts=[]:=yBB S;have e2:=zA (show zOk xs=(⟨0,0⟩,true) by rw[hN.out,h1];rfl);clear hN;subst h1;go_wp2
     go_returns
     rw[e2.out];exact⟨rfl,by go_grown⟩
   have e0:((ts.length:Int)==0)=false:=yA.2 jo;have q:0 < ts.length:=by omega
   clear S;have hz:(0:Int) < (ts.length:Int):=by omega
   have f6:=zA (y.u16_0 q);go_upto_region 8 with(fail)
   go_cut [5,6] (fun d s u=>d=.slice A1 ts.length c1∧(∃sg,s=.bool sg∧Hid (sg=zCd ts))∧∃n,u=((w.alloc (.cells #[(0:Int),(0:Int)] 52)).alloc (.cells #[(2:Int),(0:Int)] 52)).drewN n)
   case first=>
    obtain⟨ad,T,_,a1⟩:=((y.alloc hB (.cells #[(0:Int),(0:Int)] 52)).alloc (yAD hB js) (.cells #[(2:Int),(0:Int)] 52)).u16_0 q;subst T
    go_quiet (fail)
    go_wp2_with fail;go_meet;exact⟨rfl,⟨_,rfl,(zQU q).symm⟩,_,rfl⟩
   case rest=>
    obtain⟨hd,⟨sg,hs,b1⟩,n,V⟩:=hcut;subst hd hs V;go_upto_region 9 with(fail)
    go_cut [55] (fun s u=>(∃si,s=.bool si∧Hid (si=zE7 ts))∧u=((w.alloc (.cells #[(0:Int),(0:Int)] 52)).alloc (.cells #[(2:Int),(0:Int)] 52)).drewN n)
    case first=>
     obtain⟨ad,T,_,a1⟩:=(((y.alloc hB (.cells #[(0:Int),(0:Int)] 52)).alloc (yAD hB js) (.cells #[(2:Int),(0:Int)] 52)).drewN n).u16_0 q;subst T;have I:=zA (zKx q);cases sg
     · go_wp2_with fail;go_meet;exact⟨⟨_,rfl,by rw[I.out,←b1.out];rfl⟩,rfl⟩
     · go_wp2_with fail;go_meet;exact⟨⟨_,rfl,by rw[I.out,←b1.out];rfl⟩,rfl⟩
    case rest=>
     obtain⟨⟨si,hs,b2⟩,V⟩:=hcut;subst hs V
     go_upto_if 55 with(fail)
     go_cut [5] (fun d u=>Sl w B d (zAT ts)∧u=((w.alloc (.cells #[(0:Int),(0:Int)] 52)).alloc (.cells #[(2:Int),(0:Int)] 52)).drewN n)
     case first=>
      obtain⟨ad,T,_,a1⟩:=y.u16_0 q;subst T;have HR:=zA (zJg ts);cases si
      · go_wp2_with fail;go_meet;exact⟨by rw[HR.out,if_neg (by rw[←b2.out];simp)];exact⟨_,c1,rfl,z,C,y⟩,rfl⟩
      · have HC:=zA (Sl.cut1 y q z C)
        by_cases c6:c1=1
        · subst c6;go_wp2_with fail;go_meet;have e3:ts.length - 1=0:=by omega
          exact⟨by rw[HR.out,if_pos b2.out.symm];have h:=HC.out;rw[e3]at h;exact h,rfl⟩
        · rw[if_neg c6]at HC;go_wp2_with fail;go_meet;exact⟨by rw[HR.out,if_pos b2.out.symm];exact HC.out,rfl⟩
     case rest=>
      obtain⟨⟨A2,c2,hd,f7,f8,e4⟩,V⟩:=hcut;subst hd V;clear b2;go_upto_region 11 with(fail);have c7:(((w.alloc (.cells #[(0:Int),(0:Int)] 52)).alloc (.cells #[(2:Int),(0:Int)] 52)).drewN n).heap.size=w.heap.size+2:=by simp
      have b3:jY w (((w.alloc (.cells #[(0:Int),(0:Int)] 52)).alloc (.cells #[(2:Int),(0:Int)] 52)).drewN n):=zv (by go_grown) n;have c8:NumAt (((w.alloc (.cells #[(0:Int),(0:Int)] 52)).alloc (.cells #[(2:Int),(0:Int)] 52)).drewN n) w.heap.size 0 0:=⟨by go_simp,by go_simp,by go_simp,by go_simp⟩;have F:NumAt (((w.alloc (.cells #[(0:Int),(0:Int)] 52)).alloc (.cells #[(2:Int),(0:Int)] 52)).drewN n) (w.heap.size+1) 2 0:=⟨by go_simp,by go_simp,by go_simp,by go_simp⟩;have e5:Reads (((w.alloc (.cells #[(0:Int),(0:Int)] 52)).alloc (.cells #[(2:Int),(0:Int)] 52)).drewN n) B 1 A1 ts.length (zAC ts):=y.below (b3.mono hB);have b8:Reads (((w.alloc (.cells #[(0:Int),(0:Int)] 52)).alloc (.cells #[(2:Int),(0:Int)] 52)).drewN n) B 1 A2 (zAT ts).length (zAC (zAT ts)):=e4.below (b3.mono hB);have c0:ts.length≤70368744177664:=by omega
      generalize (((w.alloc (.cells #[(0:Int),(0:Int)] 52)).alloc (.cells #[(2:Int),(0:Int)] 52)).drewN n)=W at *;have c9:=e5;have m:w.heap.size+1 < w.heap.size+2:=by omega
      have M:B≤w.heap.size+2:=by omega
      have J:w.heap.size+2≤W.heap.size:=by omega
      have f9:=zA c7;clear c7;have e6:=F.1;have d7:=F.2.1;have e7:Below (w.heap.size+2) W W:=Below.refl _ _;have e8:=zA c9;clear c9
      go_cut [7,8] (fun p s u=>(∃g,p=.pointer (some ⟨g,0,none⟩)∧w.heap.size+2≤g∧NumAt u g 2 0∧g < u.heap.size)∧s=.bool (!zBm ts)∧Below (w.heap.size+2) W u)
      case first=>
       go_region_held3 (fun w'=>w'.cell? ⟨w.heap.size+1,0,none⟩=some (.int .i64 2)∧w'.cell? ⟨w.heap.size+1,1,none⟩=some (.int .i64 0)∧Below (w.heap.size+2) W w')
        (first
         | (exact zGw F m (by assumption))
         | (exact zGw F m (Below.refl _ _).drew)
         | (exact zGw F m (zCu J (by assumption) _))
         | (exact zGw F m (zCu J (Below.refl _ _).drew _))
         | (exact zGw F m (zHr J (by assumption) _ _))
         | go_keep)
        (first
         | (go_at_call 140;go_split_ands;refine(zNk (D:=w.heap.size+2) (W:=W) ?_ M J e8.out c0).mono ?_;(first | assumption | exact(Below.refl _ _).drew | exact zCu J (Below.refl _ _).drew _);rintro e w2 ⟨rfl,e9,f⟩;(try (have N:=zQV e9;have n0:=N.1;have n1:=N.2.1;have n2:=N.2.2.1;have n3:=N.2.2.2;clear N))))
       all_goals have a2:=f.size
       all_goals (go_wp2_with fail;go_meet)
       · exact⟨⟨_,rfl,by omega,NumAt.new _ _ _ _,by simp⟩,rfl,zCu J f _⟩
       · exact⟨⟨_,rfl,J,NumAt.set n0 n1 n2 n3 _ _,by rw[zJh];exact World.block_lt_of_cell? w2 _ n0⟩,rfl,zHr J f _ _⟩
      case rest=>
       obtain⟨⟨g,hp,b4,hg,a3⟩,hs,a4⟩:=hcut;subst hp hs;have O:=zA hg;have G:=zA (c8.below a4 (show w.heap.size < w.heap.size+2 by omega));have a5:=zA (F.below a4 m);have E:=zA (b8.below (a4.mono M));have P:=zA (b3.trans (a4.mono (show w.heap.size≤w.heap.size+2 by omega)));have g0:=a4.size;have a6:w.heap.size+2≤wc.heap.size:=by omega
       have l:w.heap.size < w.heap.size+2:=by omega
       have b4:=b4;clear hg c8 F b8 b3 e6 d7 e7;have j:(zAT ts).length≤70368744177664:=by
        have h:(zAT ts).length≤ts.length:=by
         rw[zJg];split
         · rw[yAR];omega
         · exact yAC _
        omega
       go_upto_block 4 with(fail)
       go_cut [8] (fun ok u=>∃k n a7,ok=.bool a7∧NumAt u g k n∧NumAt u w.heap.size 0 0∧jY w u∧g < u.heap.size∧BaseOk ts k n a7)
       case first=>
        by_cases Q:zAT ts=zBU
        · have U:=zA (BaseOk.inf Q);have I:=zA Q;clear Q;go_wp2_with (first | (go_at_call 98;refine(zDr _).mono ?_;rintro e w3 ⟨A3,c3,rfl,H,f⟩;have a2:=f.size) | (go_at_call 141;refine(zE5 (yAC _) ((E.out.below (f.mono jo)).more jo) H j jd).mono ?_;rintro e w4 ⟨rfl,o⟩;rw[yBE I.out];have b:=zDs f o a6;obtain⟨q0,q1,q2,q3⟩:=(O.out.below f a3).below o jo;obtain⟨p0,p1,p2,p3⟩:=G.out.below b l;obtain⟨r0,r1,r2,r3⟩:=a5.out.below b m));go_meet;exact⟨3,0,_,rfl,zQW G P b l b4 q0 q1 q2 q3 3 0 U⟩
        · have I:=zA Q;clear Q
          by_cases t:zAT ts≠[]∧(zAT ts).all zJ=true
          · have d0:(0:Int) < ((zAT ts).length:Int):=by have:=yCL.2 t.1;omega
            have HA:=zA t.2;have d1:=zA (yBH.1 t.2);have a8:=zA t;clear t
            by_cases X:zn (zAT ts)≤9007199254740991
            · have HF:=zA X;clear X;go_wp2_with (first | (go_at_call 98;refine(zDr _).mono ?_;rintro e w3 ⟨A3,c3,rfl,H,f⟩;have a2:=f.size) | (go_at_call 141;refine(zE5 (yAC _) ((E.out.below (f.mono jo)).more jo) H j jd).mono ?_;rintro e w4 ⟨rfl,o⟩;rw[yAI I.out];have b:=zDs f o a6;obtain⟨q0,q1,q2,q3⟩:=(O.out.below f a3).below o jo;obtain⟨p0,p1,p2,p3⟩:=G.out.below b l;obtain⟨r0,r1,r2,r3⟩:=a5.out.below b m) | (go_at_call 142;refine(zB5 ((E.out.below (b.mono M))) j).mono ?_;rintro e w5 ⟨rfl,rfl⟩;rw[HA.out]) | (go_at_call 145;refine(zJe ((E.out.below (b.mono M))) j d1.out).mono ?_;rintro e w5 ⟨nv,rfl,R,rfl⟩;have d2:=zA R;clear R;rw[yBE HF.out]));go_meet;have R:=d2.out HF;subst R;exact⟨0,_,_,rfl,zQW G P b l b4 q0 q1 q2 q3 0 _ (BaseOk.dig I a8 HF)⟩
            · have HF:=zA X;clear X;have a9:=zA (hN.out.trans (zTh q I a8 HF));go_wp2_with (first | (go_at_call 98;refine(zDr _).mono ?_;rintro e w3 ⟨A3,c3,rfl,H,f⟩;have a2:=f.size) | (go_at_call 141;refine(zE5 (yAC _) ((E.out.below (f.mono jo)).more jo) H j jd).mono ?_;rintro e w4 ⟨rfl,o⟩;rw[yAI I.out];have b:=zDs f o a6;obtain⟨q0,q1,q2,q3⟩:=(O.out.below f a3).below o jo;obtain⟨p0,p1,p2,p3⟩:=G.out.below b l;obtain⟨r0,r1,r2,r3⟩:=a5.out.below b m) | (go_at_call 142;refine(zB5 ((E.out.below (b.mono M))) j).mono ?_;rintro e w5 ⟨rfl,rfl⟩;rw[HA.out]) | (go_at_call 145;refine(zJe ((E.out.below (b.mono M))) j d1.out).mono ?_;rintro e w5 ⟨nv,rfl,R,rfl⟩;have d2:=zA R;clear R;rw[yAI HF.out]));obtain⟨f0,f1,_,_⟩:=NumAt.set p0 p1 p2 p3 2 0;refine bodyPost_ret (v:=.tuple #[.agg #[(2:Int),(0:Int)],false]) (by simp[results,results116,go_sem,f0,f1]) rfl ?_;rw[a9.out];exact⟨rfl,P.out.trans ((zDA (yAC _) (b.mono jo) _ _))⟩
          · have a8:=zA t
            by_cases Y:(zAT ts).length=0
            · clear t;have d0:¬(0:Int) < ((zAT ts).length:Int):=by omega
              have f5:=zA Y;clear Y;go_wp2_with (first | (go_at_call 98;refine(zDr _).mono ?_;rintro e w3 ⟨A3,c3,rfl,H,f⟩;have a2:=f.size) | (go_at_call 141;refine(zE5 (yAC _) ((E.out.below (f.mono jo)).more jo) H j jd).mono ?_;rintro e w4 ⟨rfl,o⟩;rw[yAI I.out];have b:=zDs f o a6;obtain⟨q0,q1,q2,q3⟩:=(O.out.below f a3).below o jo;obtain⟨p0,p1,p2,p3⟩:=G.out.below b l;obtain⟨r0,r1,r2,r3⟩:=a5.out.below b m));go_meet;exact⟨2,0,_,rfl,zMH G P b l ⟨q0,q1,q2,q3⟩ (BaseOk.odd I a8)⟩
            · have d0:(0:Int) < ((zAT ts).length:Int):=by omega
              have d3:(zAT ts).all zJ=false:=by
               cases h:(zAT ts).all zJ with
               | false=>rfl
               | true=>exact absurd ⟨fun h2=>Y (by rw[h2];rfl),h⟩ t
              have HA:=zA d3;clear t Y d3;go_wp2_with (first | (go_at_call 98;refine(zDr _).mono ?_;rintro e w3 ⟨A3,c3,rfl,H,f⟩;have a2:=f.size) | (go_at_call 141;refine(zE5 (yAC _) ((E.out.below (f.mono jo)).more jo) H j jd).mono ?_;rintro e w4 ⟨rfl,o⟩;rw[yAI I.out];have b:=zDs f o a6;obtain⟨q0,q1,q2,q3⟩:=(O.out.below f a3).below o jo;obtain⟨p0,p1,p2,p3⟩:=G.out.below b l;obtain⟨r0,r1,r2,r3⟩:=a5.out.below b m) | (go_at_call 142;refine(zB5 ((E.out.below (b.mono M))) j).mono ?_;rintro e w5 ⟨rfl,rfl⟩;rw[HA.out]));go_meet;exact⟨2,0,_,rfl,zMH G P b l ⟨q0,q1,q2,q3⟩ (BaseOk.odd I a8)⟩
       case rest=>
        obtain⟨k,nn,a7,f2,hg,d4,d5,d8,b5⟩:=hcut;subst f2;have b9:=zA b5;clear b5;have HG:=zA hg;have HZ:=zA d4;obtain⟨q0,q1,q2,q3⟩:=hg;obtain⟨p0,p1,p2,p3⟩:=d4;have g1:w.heap.size < g:=by omega
        cases sg with
        | false=>
         have a9:=zA (hN.out.trans (zTi q b1 b9));go_wp2;obtain⟨f0,f1,_,_⟩:=NumAt.set p0 p1 p2 p3 k nn;refine bodyPost_ret (v:=.tuple #[.agg #[k,nn],a7]) (by simp[results,results116,go_sem,f0,f1]) rfl ?_;rw[a9.out];exact⟨rfl,zDA (yAC _) d5 _ _⟩
        | true=>
         have a9:=zA (hN.out.trans (zTj q b1 b9));go_wp2_with (go_at_call 146;refine(zTk b9.out _).mono ?_;rintro e w6 ⟨rfl,b0⟩;obtain⟨t0,t1,t2,t3⟩:=HG.out.below b0 d8;obtain⟨s0,s1,s2,s3⟩:=HZ.out.below b0 jo;have g2:=b0.size);have d6:=zDA (D:=w.heap.size+1) (g:=g) jo (Below.refl _ w6) (.int .i64 (zFN ⟨k,nn⟩).kind) (.int .i64 (zFN ⟨k,nn⟩).n);obtain⟨z0,z1,z2,z3⟩:=(HZ.out.below b0 jo).below d6 jo;obtain⟨f0,f1,_,_⟩:=NumAt.set z0 z1 z2 z3 (zFN ⟨k,nn⟩).kind (zFN ⟨k,nn⟩).n;refine bodyPost_ret (v:=.tuple #[.agg #[.int .i64 (zFN ⟨k,nn⟩).kind,.int .i64 (zFN ⟨k,nn⟩).n],a7]) (by simp[results,results116,go_sem,f0,f1]) rfl ?_;rw[a9.out];exact⟨rfl,zDA (yAC _) ((d5.trans (b0.mono jo)).trans (d6.mono jo)) _ _⟩
theorem zCh (a b:jE):zV (a++b)=zV a++zV b:=by simp[zV]
theorem zGx (a:jE):(zV a).length=a.length:=by simp[zV]
theorem zDt (h:n < 256):zV [chr n]=[UInt16.ofNat n]:=by
 simp only[zV,List.map_cons,List.map_nil,List.cons.injEq,and_true];refine yBS.1 ?_;have h1:=zOl h;simp[h1];omega
theorem zDu {x:UInt16} (h:zJ x=true):zAp x=false:=by
 have:=zA2.1 h;simp[zAp];omega
theorem zHs (h:∀x∈u,zAp x=false):u.dropWhile zAp=u:=by
 cases u with
 | nil=>rfl
 | cons x r=>simp[List.dropWhile,h x js]
theorem zHt (h:∀x∈u,zAp x=false):zOj u=u:=by
 unfold zOj zGK;rw[zHs h,zHs (fun x b=>h x (by simpa using b)),List.reverse_reverse]
theorem zNm (f:0 < u.length) (d:∀x∈u,zJ x=true) (j:zn u≤9007199254740991):zOk u=(⟨0,zn u⟩,true):=by
 have b:=zA2.1 (d _ (yAZ f));have c:u≠[]:=List.ne_nil_of_length_pos f;obtain⟨x,r,rfl⟩:=List.exists_cons_of_ne_nil c;simp only[yCB]at b;have hs:zCd (x::r)=false:=by
  simp only[zCd,List.headD_cons,yA];rintro rfl;simp at b
 have k:zAT (x::r)=x::r:=by
  unfold zAT;rw[if_neg];simp only[List.headD_cons];rintro(rfl | rfl)<;>simp at b
 have hi:x::r≠zBU:=by
  intro h;have g:x=73:=by injection h
  rw[g]at b;simp at b
 unfold zOk;rw[zHt (fun x b=>zDu (d x b))];unfold zSK;rw[if_neg c,hs];unfold zFM;have e:=yBH.2 d;simp only[k,hi,j,e,ne_eq,c,not_false_eq_true,and_self,if_true,if_false,yCF]
theorem zIW (n:Nat):0 < (zBQ n).length:=by
 by_cases h:n < 10
 · rw[zCe h];simp
 · rw[zDJ h];simp
theorem zMI (n:Nat):∀x∈zV (zBQ n),zJ x=true:=by
 induction n using Nat.strongRecOn with
 | _ n d=>
  have c:∀m,m < 10→zJ (UInt16.ofNat (48+m))=true:=by
   intro m e;rw[zA2];simp;omega
  by_cases h:n < 10
  · rw[zCe h,zDt jo];intro x b;rw[yBT]at b;subst b;exact c n h
  · rw[zDJ h,zCh,zDt jo];intro x b;rcases yBQ.1 b with b | b
    · exact d (n / 10) jo x b
    · rw[yBT]at b;subst b;exact c _ jo
theorem zGC (n:Nat):zn (zV (zBQ n))=n:=by
 induction n using Nat.strongRecOn with
 | _ n c=>
  have b:∀m,m < 10→(UInt16.ofNat (48+m)).toNat - 48=m:=by
   intro m d;simp;omega
  by_cases h:n < 10
  · rw[zCe h,zDt jo];show 10*0+((UInt16.ofNat (48+n)).toNat - 48)=n;rw[b n h];omega
  · rw[zDJ h,zCh,zDt jo,zEV,c (n / 10) jo,b _ jo];omega
theorem zQX (n:Nat):∀h:0 < (zV (zBQ n)).length,1 < (zV (zBQ n)).length→(zV (zBQ n))[0]≠48:=by
 induction n using Nat.strongRecOn with
 | _ n c=>
  by_cases h:n < 10
  · intro _ h1;rw[zCe h]at h1;simp[zV]at h1
  · intro f _;have b:0 < (zV (zBQ (n / 10))).length:=by rw[zGx];exact zIW _
    have e:(zV (zBQ n))[0]=(zV (zBQ (n / 10)))[0]:=by
     have:zV (zBQ n)=zV (zBQ (n / 10))++zV [chr (48+n % 10)]:=by rw[zDJ h,zCh]
     rw[List.getElem_of_eq this];exact List.getElem_append_left b
    rw[e]
    by_cases h1:n / 10 < 10
    · have e2:zV (zBQ (n / 10))=[UInt16.ofNat (48+n / 10)]:=by rw[zCe h1,zDt jo]
      rw[List.getElem_of_eq e2];simp only[yCB];intro d;have:=congrArg UInt16.toNat d;simp at this;omega
    · refine c (n / 10) jo b ?_;rw[zDJ h1,zCh,yAN,zGx];have:=zIW (n / 10 / 10);simp[zV];omega
theorem zK0:∀{n:Nat},n < 10^(k+1)→(zBQ n).length≤k+1:=by
 induction k with
 | zero=>intro n h;rw[zCe (by simpa using h)];simp
 | succ k b=>
  intro n h
  by_cases h1:n < 10
  · rw[zCe h1];simp
  · rw[zDJ h1];have:=@b (n / 10) (by rw[yCP]at h;omega);simp;omega
theorem zHQ (f:0 < u.length) (d:∀x∈u,zJ x=true) (j:¬zn u≤9007199254740991):zOk u=(⟨2,0⟩,false):=by
 have b:=zA2.1 (d _ (yAZ f));have c:u≠[]:=List.ne_nil_of_length_pos f;obtain⟨x,r,rfl⟩:=List.exists_cons_of_ne_nil c;simp only[yCB]at b;have hs:zCd (x::r)=false:=by
  simp only[zCd,List.headD_cons,yA];rintro rfl;simp at b
 have k:zAT (x::r)=x::r:=by
  unfold zAT;rw[if_neg];simp only[List.headD_cons];rintro(rfl | rfl)<;>simp at b
 have hi:x::r≠zBU:=by
  intro h;have g:x=73:=by injection h
  rw[g]at b;simp at b
 unfold zOk;rw[zHt (fun x b=>zDu (d x b))];unfold zSK;rw[if_neg c,hs];unfold zFM;have e:=yBH.2 d;simp only[k,hi,j,e,ne_eq,c,not_false_eq_true,and_self,if_true,if_false,yCF]
theorem zQY {w:World} (hB:B≤w.heap.size) (d:xs.length=m) (f:Reads w B 1 A m (zAC xs)) (g:m≤c) (b:c≤maxLen) (j:m≤70368744177664) {k n:Int} (h:zOk xs=(⟨k,n⟩,ok)):
 Calls prog 116 #[.slice A m c] w fun e w'=>e=.returned (.tuple #[.agg #[k,n],ok])∧jY w w':=by
 subst d;have:=zNl hB f g b j;rwa[h]at this
theorem zIX {w:World} {b:ByteArray} (d:Rd w g A n c k) (f:u.length=n) (j:Reads w B 1 A n (zAC u)) (hB:B≤g) (hk:k≤n) (m:n≤4096) {l:jH} (o:(u.drop k).takeWhile zJ=l) (hs:b=⟨(asc l).toArray⟩):
 Calls prog 111 #[.pointer (some g),.func (.func 71) #[] #[]] w fun e w'=>e=.returned (.string b)∧Mv w w' g A n c (k+l.length):=by
 subst hs;exact zNc d f j hB hk m o
theorem zJi (b:∀x∈d,zJ x=true):zV (asc d)=d:=by
 unfold zV asc;rw[List.map_map]
 conv=>rhs;rw[←List.map_id d]
 refine List.map_congr_left fun x c=>?_;have h:=zA2.1 (b x c);refine yBS.1 ?_;show x.toNat % 256=x.toNat
 omega
theorem zQZ {s:ByteArray} (hs:s.data.toList=asc d) (f:∀x∈d,zJ x=true) (l:d.length≤4096) (w:World):
 Calls prog 98 #[.string s] w fun e w'=>∃A c,e=.returned (.slice A d.length c)∧Reads w' w'.heap.size 1 A d.length (zAC d)∧d.length≤c∧c≤maxLen∧jY w w':=by
 have k:s.size=d.length:=by
  have:=congrArg List.length hs;simpa [asc]using this
 refine(zDi s w jo).mono ?_;rintro e w' ⟨v,rfl,b⟩;have hb:=b.below;rw[hs,zJi f]at b;obtain⟨A,c,rfl,h1,g,j⟩:=b.u16;exact⟨A,c,rfl,j,h1,g,hb⟩
theorem zQa {r:jH} (h:(zBE 0 (fun x=>x.toNat==48) d&& !decide (d=[48]))=true) (b:zBx d r=(e,t,m)):5=e∧zh=t∧0=m:=by
 unfold zBx at b;rw[if_pos h]at b;exact zCN b
theorem zYO {r:jH} (h:(zBE 0 (fun x=>x.toNat==48) d&& !decide (d=[48]))=false) (c:zg [110] r=true) (b:zBx d r=(e,t,m)):zIy (zn d) d.length (r.drop 1)=(e,t,m):=by
 unfold zBx at b;rw[if_neg (by rw[h];simp),if_pos c]at b;exact b
theorem zTl {r:jH} (h:(zBE 0 (fun x=>x.toNat==48) d&& !decide (d=[48]))=false) (c:zg [110] r=false) (f:zBE 0 (zy (decide (d=[48]))) r=true) (b:zBx d r=(e,t,m)):6=e∧zh=t∧0=m:=by
 unfold zBx at b;rw[if_neg (by rw[h];simp),if_neg (by rw[c];simp),if_pos f]at b;exact zCN b
theorem zTm {r:jH} (h:(zBE 0 (fun x=>x.toNat==48) d&& !decide (d=[48]))=false) (c:zg [110] r=false) (f:zBE 0 (zy (decide (d=[48]))) r=false) (g:zBE 0 zAx r=true) (b:zBx d r=(e,t,m)):5=e∧zh=t∧0=m:=by
 unfold zBx at b;rw[if_neg (by rw[h];simp),if_neg (by rw[c];simp),if_neg (by rw[f];simp),if_pos g]at b;exact zCN b
theorem zQb {r:jH} (h:(zBE 0 (fun x=>x.toNat==48) d&& !decide (d=[48]))=false) (c:zg [110] r=false) (f:zBE 0 (zy (decide (d=[48]))) r=false) (g:zBE 0 zAx r=false) (j:¬zn d≤9007199254740991) (b:zBx d r=(e,t,m)):6=e∧zh=t∧0=m:=by
 unfold zBx at b;rw[if_neg (by rw[h];simp),if_neg (by rw[c];simp),if_neg (by rw[f];simp),if_neg (by rw[g];simp),if_pos jo]at b;exact zCN b
theorem zQc {r:jH} (h:(zBE 0 (fun x=>x.toNat==48) d&& !decide (d=[48]))=false) (c:zg [110] r=false) (f:zBE 0 (zy (decide (d=[48]))) r=false) (g:zBE 0 zAx r=false) (j:zn d≤9007199254740991) (b:zBx d r=(e,t,m)):0=e∧{zh with kind:=2,nn:=zn d}=t∧d.length=m:=by
 unfold zBx at b;rw[if_neg (by rw[h];simp),if_neg (by rw[c];simp),if_neg (by rw[f];simp),if_neg (by rw[g];simp),jn]at b;exact zGp b
theorem zK1 {w:World} (hr:Rd w g A n c k) (hn:u.length=n) (ha:Reads w B 1 A n (zAC u)) (hB:B≤g) (hk:k < u.length) (e0:zJ u[k]=true) (hl:n≤4096) (hq:zBf (u.drop k)=(e,t,m)):
 Calls prog 72 #[.pointer (some g)] w fun ev w'=>∃v,ev=.returned (.tuple #[v,e])∧(e≠0→v=noV)∧(e=0→zX9 w' w.heap.size t v∧Mv w w' g A n c (k+m))∧w.grownBy w' (some g):=by
 subst hn;have hg:=hr.lt;obtain⟨d,D⟩:=jx ((u.drop k).takeWhile zJ);have hd:∀x∈d,zJ x=true:=by
  rw[←D];exact yBH.1 List.all_takeWhile
 have b3:d=u[k]::(u.drop (k+1)).takeWhile zJ:=by rw[←D,yAH hk,yBY e0]
 have h0:0 < d.length:=by rw[b3];simp
 have a1:k+d.length≤u.length:=by
  have h1:=zBR zJ (u.drop k);rw[D,yAR]at h1;omega
 unfold zBf at hq;rw[D,yCC]at hq;obtain⟨sv,a2⟩:∃sv:ByteArray,sv=⟨(asc d).toArray⟩:=⟨_,rfl⟩;have O:sv.data.toList=asc d:=by rw[a2]
 obtain⟨e7,L⟩:=zQC O hd;have b4:0 < sv.size:=by omega
 obtain⟨q,P⟩:=jx (((sv[0].toNat:Int)==48));obtain⟨z,F⟩:=jx (decide (d=[48]));have Q:(zBE 0 (fun x=>x.toNat==48) d&& !decide (d=[48]))=(q&& !z):=by
  rw[F];congr 1;have h1:=(L 0 b4 h0).1;have h2:zBE 0 (fun x=>x.toNat==48) d=(d[0].toNat==48):=by
   unfold zBE;rw[yAB h0];rfl
  rw[h2,←h1,←P,yBJ,yBL,yBL];omega
 have e8:(sv.toList==[48])=z:=by
  rw[zPD,O,←F,yBJ,yBG,yBG];constructor
  · intro h;rw[←zJi hd,h];rfl
  · intro h;rw[h];rfl
 have b5:(q&& !z)=false→d[0]≠48∨d=[48]:=by
  intro h;cases hzc:z with
  | true=>right;exact yBF (by rw[F,hzc])
  | false=>
   left;intro h3;rw[hzc]at h;have h4:q=false:=by simpa using h
   rw[h4,yA]at P;have h1:=(L 0 b4 h0).1;rw[h3]at h1;exact P (by rw[h1];rfl)
 obtain⟨b,hb⟩:=jx (zg [110] (u.drop (k+d.length)));obtain⟨bo,b6⟩:=jx (zBE 0 (zy z) (u.drop (k+d.length)));obtain⟨bl,b7⟩:=jx (zBE 0 zAx (u.drop (k+d.length)));have HL:=zA D;have HD:=zA hd;have e9:=zA a2;have b8:=zA O;have HQ:=zA hq;have f:=zA Q;have a3:=zA b5;have M:=zA hb;have G:=zA b6;have R:=zA b7;have HZ:=zA F;have HA:=zA ha;have hR:=zA (hr.alloc (.cells zBP.toArray 78));have b9:=zA (ha.alloc (yAD hB (yAM hg)) (.cells zBP.toArray 78));have c0:=zA (Blk.new w zBP 78);have c2:=zA (zG w (.cells zBP.toArray 78) (some g));have c3:d.length≤4096:=by omega
 clear D hd b3 a2 O hq Q b5 hb b6 b7 F ha hr L e7;go_enter func72,ntmps72;go_wp2_with fail;refine(zIX hR rfl b9 hB (yAM hk) hl HL e9).mono ?_;rintro e1 w1 ⟨rfl,T⟩;have y:=zA (show SgS w w1 g A u.length c (k+d.length)from⟨⟨T.rd,zC c2 T.grown⟩,c0.out.grown T.grown jo⟩);clear T hR b9 c0 c2;go_upto_region 3 with(fail)
 go_cut [12] (fun v wx=>v=.bool (q&& !z)∧wx=w1)
 case first=>
  cases q<;>cases z
  all_goals
   go_wp2_with fail;go_meet;exact⟨rfl,rfl⟩
 case rest=>
  obtain⟨hv,f0⟩:=hcut;subst hv f0;obtain⟨ld,c4⟩:=jx ((q&& !z));rw[c4]at f a3⊢;clear c4 P e8;cases ld with
  | true=>
   have:=y.out.zero.nine;go_wp2_with fail;refine zAE y.out.zero (.int .i64 5) ?_;obtain⟨E,z2,z3⟩:=zQa f HQ;subst E;exact⟨_,rfl,fun _=>rfl,fun h=>absurd h jd,(zAD y.out.mv (yAC _) hg).grown⟩
  | false=>
   have f2:=zA (a3.out rfl);clear a3;go_wp2_with fail;refine(zAo ⟨#[110]⟩ y.out.mv.rd rfl (HA.out.grown y.out.mv.grown hB (yAM hg)) a1 hl jd M).mono ?_;rintro e2 w2 ⟨rfl,m2,c5⟩;have o:=zA (show SgS w w2 g A u.length c (k+d.length) by rw[c5];exact y.out.drewN hg m2);clear c5 m2 y;cases b with
   | true=>
    have g0:k+d.length+1≤u.length:=by
     have:=zC6 M;rw[yAR]at this;simp at this;omega
    have c6:=zA (zYO f M HQ);rw[yCC]at c6;have c7:=o.out.mv.rd.c1;have f3:=o.out.mv.rd.f1;have H:=zA (Mv.step o.out.mv (k':=k+d.length+1) (z:=(((k+d.length:Nat):Int)+1)) jo);have c8:=zA (o.out.zero.setOther (S:=g) (i:=1) jo (.int .i64 (((k+d.length:Nat):Int)+1)));obtain⟨p,hp⟩:=jx (k+d.length);rw[hp]at c7 H c8;go_wp2_with fail;refine(zKt (m:=m) (e:=e) (t:=t) b8 HD h0 f2 c3 (by exact H.out.rd) rfl (HA.out.grown H.out.grown hB (yAM hg)) hB jo hl (by rw[←hp];exact c6.out)).mono ?_;rintro e4 w4 ⟨v,rfl,a4,U,a5⟩;have a6:=zA (c8.out.grown a5 jo);have d9:=zA a4;have b2:=zA U;have c9:=zA (zC H.out.grown a5);have a7:w.heap.size < w2.heap.size:=o.out.zero.1;have a8:(w2.setCell ⟨g,1,none⟩ (.int .i64 ((p:Int)+1))).heap.size=w2.heap.size:=by simp
    have f4:=zA a8;clear a4 U a5 a8 c7 f3;have:=a6.out.nine
    by_cases he:e=0
    · obtain⟨⟨vs,vm,hv,V,W⟩,d0,d1⟩:=b2.out he;subst hv;obtain⟨As,cs,rfl,_,_⟩:=zP V;obtain⟨Am,cm,rfl,_,_⟩:=zP W;rw[f4.out]at V W;have d2:=zA V;have d3:=zA W;have f5:=zA (Mv.then H d0);have HE:=zA he;have f6:=zA d1;obtain⟨ls,X⟩:=jx t.str.length;obtain⟨lm,Y⟩:=jx t.mag.length;rw[X,Y];rw[X]at d2;rw[Y]at d3;have f7:=zA X;have f8:=zA Y;clear V W d0 d1 he X Y;go_wp2_with fail;refine zAE a6 (.int .i64 (e:Int)) ?_;refine⟨_,rfl,fun h=>absurd HE h,fun _=>⟨⟨_,_,rfl,?_,?_⟩,?_⟩,zAV c9 (yAC _)⟩
      · rw[f7.out];exact zAY (zA8 d2 a7) jo
      · rw[f8.out];exact zAY (zA8 d3 a7) jo
      · rw[f6.out,show k+(d.length+1)=p+1 by omega];exact zAD f5 (yAC _) hg
    · obtain rfl:=d9.out he;unfold noV;go_wp2_with fail;refine zAE a6 (.int .i64 (e:Int)) ?_;exact⟨_,rfl,fun _=>rfl,fun h=>absurd h he,zAV c9 (yAC _)⟩
   | false=>
    go_wp2_with fail;refine(zJd o.out.mv.rd rfl (HA.out.grown o.out.mv.grown hB (yAM hg)) hB a1 hl G).mono ?_;rintro e3 w3 ⟨rfl,d4⟩;have C:=zA (o.out.below hg d4);clear d4 o;cases bo with
    | true=>
     have:=C.out.zero.nine;go_wp2_with fail;refine zAE C.out.zero (.int .i64 6) ?_;obtain⟨E,z2,z3⟩:=zTl f M (by rw[HZ.out];exact G.out) HQ;subst E;exact⟨_,rfl,fun _=>rfl,fun h=>absurd h jd,(zAD C.out.mv (yAC _) hg).grown⟩
    | false=>
     go_wp2_with fail;refine(zHn (j:=0) C.out.mv.rd rfl (HA.out.grown C.out.mv.grown hB (yAM hg)) a1 hl jo R).mono ?_;rintro e4 w4 ⟨rfl,m4,d5⟩;have I:=zA (show SgS w w4 g A u.length c (k+d.length) by rw[d5];exact C.out.drewN hg m4);clear d5 m4 C;cases bl with
     | true=>
      have:=I.out.zero.nine;go_wp2_with fail;refine zAE I.out.zero (.int .i64 5) ?_;obtain⟨E,z2,z3⟩:=zTm f M (by rw[HZ.out];exact G.out) R HQ;subst E;exact⟨_,rfl,fun _=>rfl,fun h=>absurd h jd,(zAD I.out.mv (yAC _) hg).grown⟩
     | false=>
      go_wp2_with fail;refine(zQZ b8 HD c3 _).mono ?_;rintro e5 w5 ⟨Aa,ca,rfl,d6,a9,b0,d7⟩;have a0:=zA (I.out.below hg d7);have d8:=zA d6;clear d7 I d6
      by_cases s:zn d≤9007199254740991
      · have HN:=zA (zNm h0 HD s);have N:=zA s;clear s;go_wp2_with fail;refine(zQY (yAC _) rfl d8 a9 b0 jo HN).mono ?_;rintro e6 w6 ⟨rfl,J⟩;have r:=zA (show SgS w (w6.alloc (.cells #[(0:Int),(zn d:Int)] 52)) g A u.length c (k+d.length)from((a0.out.below hg J).below hg (ja)));obtain⟨dv,b1⟩:=jx (zn d);rw[b1]at r⊢;have f9:=zA b1;clear J a0 b1;have:=r.out.zero.nine;go_wp2_with fail;refine zAE r.out.zero (.int .i64 0) ?_;obtain⟨E,z2,z3⟩:=zQc f M (by rw[HZ.out];exact G.out) R N HQ;subst E z2 z3;exact⟨_,rfl,fun h=>absurd rfl h,fun _=>⟨⟨_,_,by rw[f9.out];rfl,yAJ _ _ _ _,yAJ _ _ _ _⟩,zAD r.out.mv (yAC _) hg⟩,(zAD r.out.mv (yAC _) hg).grown⟩
      · have HN:=zA (zHQ h0 HD s);have N:=zA s;clear s;go_wp2_with fail;refine(zQY (yAC _) rfl d8 a9 b0 jo HN).mono ?_;rintro e6 w6 ⟨rfl,J⟩;have r:=zA (show SgS w (w6.alloc (.cells #[(2:Int),(0:Int)] 52)) g A u.length c (k+d.length)from((a0.out.below hg J).below hg (ja)));clear J a0;have:=r.out.zero.nine;go_wp2_with fail;refine zAE r.out.zero (.int .i64 6) ?_;obtain⟨E,z2,z3⟩:=zQb f M (by rw[HZ.out];exact G.out) R N HQ;subst E;exact⟨_,rfl,fun _=>rfl,fun h=>absurd h jd,(zAD r.out.mv (yAC _) hg).grown⟩
theorem zNn {w:World} (hr:Rd w g A n c k) (hn:u.length=n) (ha:Reads w B 1 A n (zAC u)) (hB:B≤g) (hk:k < u.length) (hl:n≤4096) (hc:n≤c) (hq:zAU (k==0) (u.drop k)=(e,t,m)):
 Calls prog 30 #[.pointer (some g)] w fun ev w'=>∃v,ev=.returned (.tuple #[v,e])∧(e≠0→v=noV)∧(e=0→zX9 w' w.heap.size t v∧Mv w w' g A n c (k+m))∧w.grownBy w' (some g):=by
 subst hn;have hg:=hr.lt;obtain⟨x,hx⟩:=jx (u[k]);have a0:=yAH hk;rw[hx]at a0;rw[a0,zA3]at hq;obtain⟨blk,off,rfl,b8,a1⟩:=ha.spotL jo;have a3:=a1 k hk;rw[hx]at a3;have a4:=World.cell?_alloc_lt w (.cells zBP.toArray 78) ⟨blk,off+k,none⟩ (by show blk < _;omega);rw[a3]at a4;have HX:=zA hx;have U:=zA a0;have HQ:=zA hq;have HA:=zA ha;have a5:=zA (show SgS w (w.alloc (.cells zBP.toArray 78)) g (some ⟨blk,off,none⟩) u.length c k from⟨⟨hr.alloc _,zG w _ _⟩,Blk.new w zBP 78⟩);have b1:=hr.c0;have b2:=hr.c1;have b9:=x.toNat_lt;have c2:blk < w.heap.size:=by omega
 clear a1 hx a0 hq ha hr a4;go_enter func30,ntmps30;go_wp2_with fail
 go_quiet (fail)
 have C:=zA (a5.out.drewN hg nq).mv;have P:=zA (a5.out.drewN hg nq).zero;obtain⟨w1,V⟩:=jx ((w.alloc (.cells zBP.toArray 78)).drewN nq);have I:w.heap.size < w1.heap.size:=by rw[←V];simp
 have b3:=zA V;rw[V]at C P;have a6:=zA (show(w.alloc (.cells #[(0:Int),"",(),(0:Int),(0:Int),false,(),(0:Int),false] 78)).drewN nq=w1 from V);rw[a6.out];have Q:=zA (HA.out.grown C.out.grown hB (yAM hg));clear V a5 b1 b2 a3 b3 a6;cases hlet:zAx x with
 | true=>
  have L:=zA (show zCm (u.drop k)=(e,t,m) by
   have:=HQ.out;rw[if_pos hlet]at this;rw[U.out];exact this)
  have HT:=zA hlet;go_wp2_with (go_at_call 69;refine(zA4 _ _).mono ?_;rintro e2 w2 ⟨rfl,rfl⟩);refine(zNd (m:=m) (e:=e) (t:=t) C.out.rd rfl Q hB (yAM hk) hl L).mono ?_;rintro e4 w4 ⟨v,rfl,p,d,q⟩;have r:=zA (P.out.grown q jo);have J:=zA p;have D:=zA d;have E:=zA (zC C.out.grown q);clear p d q;have:=r.out.nine
  by_cases s:e=0
  · obtain⟨⟨vs,vm,hv,y,z⟩,F⟩:=D.out s;subst hv;obtain⟨As,cs,rfl,_,_⟩:=zP y;obtain⟨Am,cm,rfl,_,_⟩:=zP z;have G:=zA y;have H:=zA z;have M:=zA (Mv.then C F);have R:=zA s;obtain⟨ls,f⟩:=jx t.str.length;obtain⟨lm,o⟩:=jx t.mag.length;rw[f,o];rw[f]at G;rw[o]at H;have N:=zA f;have O:=zA o;clear y z F s f o;go_wp2_with fail;refine zAE r (.int .i64 (e:Int)) ?_;refine⟨_,rfl,fun h=>absurd R h,fun _=>⟨⟨_,_,rfl,?_,?_⟩,?_⟩,zAV E (yAC _)⟩
    · rw[N.out];exact zAY (zA8 G I) jo
    · rw[O.out];exact zAY (zA8 H I) jo
    · exact zAD M (yAC _) hg
  · obtain rfl:=J.out s;unfold noV;go_wp2_with fail;refine zAE r (.int .i64 (e:Int)) ?_;exact⟨_,rfl,fun _=>rfl,fun h=>absurd h s,zAV E (yAC _)⟩
 | false=>
  cases hdig:zJ x with
  | true=>
   have L:=zA (show zBf (u.drop k)=(e,t,m) by
    have:=HQ.out;rw[if_neg (by rw[hlet];simp),if_pos hdig]at this;rw[U.out];exact this)
   go_wp2_with (first | (go_at_call 69;refine(zA4 _ _).mono ?_;rintro e2 w2 ⟨rfl,rfl⟩) | (go_at_call 71;refine(zAF _ _).mono ?_;rintro e2 w2 ⟨rfl,rfl⟩));refine(zK1 (m:=m) (e:=e) (t:=t) C.out.rd rfl Q hB hk (by rw[HX.out];exact hdig) hl L).mono ?_;rintro e4 w4 ⟨v,rfl,p,d,q⟩;have r:=zA (P.out.grown q jo);have J:=zA p;have D:=zA d;have E:=zA (zC C.out.grown q);clear p d q;have:=r.out.nine
   by_cases s:e=0
   · obtain⟨⟨vs,vm,hv,y,z⟩,F⟩:=D.out s;subst hv;obtain⟨As,cs,rfl,_,_⟩:=zP y;obtain⟨Am,cm,rfl,_,_⟩:=zP z;have G:=zA y;have H:=zA z;have M:=zA (Mv.then C F);have R:=zA s;obtain⟨ls,f⟩:=jx t.str.length;obtain⟨lm,o⟩:=jx t.mag.length;rw[f,o];rw[f]at G;rw[o]at H;have N:=zA f;have O:=zA o;clear y z F s f o;go_wp2_with fail;refine zAE r (.int .i64 (e:Int)) ?_;refine⟨_,rfl,fun h=>absurd R h,fun _=>⟨⟨_,_,rfl,?_,?_⟩,?_⟩,zAV E (yAC _)⟩
     · rw[N.out];exact zAY (zA8 G I) jo
     · rw[O.out];exact zAY (zA8 H I) jo
     · exact zAD M (yAC _) hg
   · obtain rfl:=J.out s;unfold noV;go_wp2_with fail;refine zAE r (.int .i64 (e:Int)) ?_;exact⟨_,rfl,fun _=>rfl,fun h=>absurd h s,zAV E (yAC _)⟩
  | false=>
   by_cases T:x.toNat=39
   · have b4:((x.toNat:Int)==39)=true:=by rw[T];rfl
     have S:=zA (show(x.toNat==39 || x.toNat==34)=true by rw[T];rfl);clear T;have L:=zA (show zAv u[k] (u.drop (k+1))=(e,t,m) by
      have:=HQ.out;rw[if_neg (by rw[hlet];simp),if_neg (by rw[hdig];simp),if_pos S.out]at this;rw[HX.out];exact this)
     go_wp2_with (first | (go_at_call 69;refine(zA4 _ _).mono ?_;rintro e2 w2 ⟨rfl,rfl⟩) | (go_at_call 71;refine(zAF _ _).mono ?_;rintro e2 w2 ⟨rfl,rfl⟩));refine(zGu (m:=m) (e:=e) (t:=t) C.out.rd rfl Q hB hk hl L).mono ?_;rintro e4 w4 ⟨v,rfl,p,d,q⟩;have r:=zA (P.out.grown q jo);have J:=zA p;have D:=zA d;have E:=zA (zC C.out.grown q);clear p d q;have:=r.out.nine
     by_cases s:e=0
     · obtain⟨⟨vs,vm,hv,y,z⟩,F⟩:=D.out s;subst hv;obtain⟨As,cs,rfl,_,_⟩:=zP y;obtain⟨Am,cm,rfl,_,_⟩:=zP z;have G:=zA y;have H:=zA z;have M:=zA (Mv.then C F);have R:=zA s;obtain⟨ls,f⟩:=jx t.str.length;obtain⟨lm,o⟩:=jx t.mag.length;rw[f,o];rw[f]at G;rw[o]at H;have N:=zA f;have O:=zA o;clear y z F s f o;go_wp2_with fail;refine zAE r (.int .i64 (e:Int)) ?_;refine⟨_,rfl,fun h=>absurd R h,fun _=>⟨⟨_,_,rfl,?_,?_⟩,?_⟩,zAV E (yAC _)⟩
       · rw[N.out];exact zAY (zA8 G I) jo
       · rw[O.out];exact zAY (zA8 H I) jo
       · exact zAD M (yAC _) hg
     · obtain rfl:=J.out s;unfold noV;go_wp2_with fail;refine zAE r (.int .i64 (e:Int)) ?_;exact⟨_,rfl,fun _=>rfl,fun h=>absurd h s,zAV E (yAC _)⟩
   · have b4:((x.toNat:Int)==39)=false:=yA.2 jo
     by_cases W:x.toNat=34
     · have b5:((x.toNat:Int)==34)=true:=by rw[W];rfl
       have S:=zA (show(x.toNat==39 || x.toNat==34)=true by rw[W];rfl);clear W T;have L:=zA (show zAv u[k] (u.drop (k+1))=(e,t,m) by
        have:=HQ.out;rw[if_neg (by rw[hlet];simp),if_neg (by rw[hdig];simp),if_pos S.out]at this;rw[HX.out];exact this)
       go_wp2_with (first | (go_at_call 69;refine(zA4 _ _).mono ?_;rintro e2 w2 ⟨rfl,rfl⟩) | (go_at_call 71;refine(zAF _ _).mono ?_;rintro e2 w2 ⟨rfl,rfl⟩));refine(zGu (m:=m) (e:=e) (t:=t) C.out.rd rfl Q hB hk hl L).mono ?_;rintro e4 w4 ⟨v,rfl,p,d,q⟩;have r:=zA (P.out.grown q jo);have J:=zA p;have D:=zA d;have E:=zA (zC C.out.grown q);clear p d q;have:=r.out.nine
       by_cases s:e=0
       · obtain⟨⟨vs,vm,hv,y,z⟩,F⟩:=D.out s;subst hv;obtain⟨As,cs,rfl,_,_⟩:=zP y;obtain⟨Am,cm,rfl,_,_⟩:=zP z;have G:=zA y;have H:=zA z;have M:=zA (Mv.then C F);have R:=zA s;obtain⟨ls,f⟩:=jx t.str.length;obtain⟨lm,o⟩:=jx t.mag.length;rw[f,o];rw[f]at G;rw[o]at H;have N:=zA f;have O:=zA o;clear y z F s f o;go_wp2_with fail;refine zAE r (.int .i64 (e:Int)) ?_;refine⟨_,rfl,fun h=>absurd R h,fun _=>⟨⟨_,_,rfl,?_,?_⟩,?_⟩,zAV E (yAC _)⟩
         · rw[N.out];exact zAY (zA8 G I) jo
         · rw[O.out];exact zAY (zA8 H I) jo
         · exact zAD M (yAC _) hg
       · obtain rfl:=J.out s;unfold noV;go_wp2_with fail;refine zAE r (.int .i64 (e:Int)) ?_;exact⟨_,rfl,fun _=>rfl,fun h=>absurd h s,zAV E (yAC _)⟩
     · have b5:((x.toNat:Int)==34)=false:=yA.2 jo;have S:=zA (show(x.toNat==39 || x.toNat==34)=false by
        rw[Bool.or_eq_false_iff];exact⟨yA.2 T,yA.2 W⟩)
       clear T W;obtain⟨b,hb⟩:=jx (zBE 1 zJ (u.drop k));have b0:=zA (show zBE 0 zJ (u.drop (k+1))=b by
        rw[←hb,U.out];unfold zBE;rfl)
       have HB:=zA hb;clear hb
       by_cases X:x.toNat=46
       · have b6:((x.toNat:Int)==46)=true:=by rw[X];rfl
         have a7:=zA (show(x.toNat==46)=true by rw[X];rfl);clear X;go_wp2_with (first | (go_at_call 69;refine(zA4 _ _).mono ?_;rintro e2 w2 ⟨rfl,rfl⟩) | (go_at_call 71;refine(zAF _ _).mono ?_;rintro e2 w2 ⟨rfl,rfl⟩));refine(zAn (j:=1) C.out.rd rfl Q (yAM hk) hl jo HB).mono ?_;rintro e3 w3 ⟨rfl,m3,a2⟩;have Y:=zA (show Mv w w3 g (some ⟨blk,off,none⟩) u.length c k by rw[a2];exact C.out.drewN m3);have a8:=zA (show Blk w3 w.heap.size zBP by rw[a2];exact P.out.grown (zAA _ (some g) _) jo);have a9:w.heap.size < w3.heap.size:=by rw[a2];simpa using I
         have b7:=zA (HA.out.grown Y.out.grown hB (yAM hg));clear a2 m3 C P Q I;cases b with
         | true=>
          have:=a8.out.nine;go_wp2_with fail;refine zAE a8 (.int .i64 6) ?_;have hq:=HQ.out;rw[if_neg (by rw[hlet];simp),if_neg (by rw[hdig];simp),if_neg (by rw[S.out];simp),if_pos (by rw[a7.out,b0.out];rfl)]at hq;obtain⟨z1,z2,z3⟩:=zCN hq;subst z1;exact⟨_,rfl,fun _=>rfl,fun h=>absurd h jd,(zAD Y (yAC _) hg).grown⟩
         | false=>
          have L:=zA (show zCI (k==0) (u.drop k)=(e,t,m) by
           have:=HQ.out;rw[if_neg (by rw[hlet];simp),if_neg (by rw[hdig];simp),if_neg (by rw[S.out];simp),if_neg (by rw[b0.out];simp)]at this;rw[U.out];exact this)
          go_wp2_with fail;refine(zHq (m:=m) (e:=e) (t:=t) Y.out.rd rfl b7 hB hk hl hc L).mono ?_;rintro e4 w4 ⟨v,rfl,p,d,q⟩;have r:=zA (a8.out.grown q jo);have J:=zA p;have D:=zA d;have E:=zA (zC Y.out.grown q);clear p d q;have:=r.out.nine
          by_cases s:e=0
          · obtain⟨⟨vs,vm,hv,y,z⟩,F⟩:=D.out s;subst hv;obtain⟨As,cs,rfl,_,_⟩:=zP y;obtain⟨Am,cm,rfl,_,_⟩:=zP z;have G:=zA y;have H:=zA z;have M:=zA (Mv.then Y F);have R:=zA s;obtain⟨ls,f⟩:=jx t.str.length;obtain⟨lm,o⟩:=jx t.mag.length;rw[f,o];rw[f]at G;rw[o]at H;have N:=zA f;have O:=zA o;clear y z F s f o;go_wp2_with fail;refine zAE r (.int .i64 (e:Int)) ?_;refine⟨_,rfl,fun h=>absurd R h,fun _=>⟨⟨_,_,rfl,?_,?_⟩,?_⟩,zAV E (yAC _)⟩
            · rw[N.out];exact zAY (zA8 G a9) jo
            · rw[O.out];exact zAY (zA8 H a9) jo
            · exact zAD M (yAC _) hg
          · obtain rfl:=J.out s;unfold noV;go_wp2_with fail;refine zAE r (.int .i64 (e:Int)) ?_;exact⟨_,rfl,fun _=>rfl,fun h=>absurd h s,zAV E (yAC _)⟩
       · have b6:((x.toNat:Int)==46)=false:=yA.2 jo;have a7:=zA (show(x.toNat==46)=false from yA.2 X);clear X;have L:=zA (show zCI (k==0) (u.drop k)=(e,t,m) by
          have:=HQ.out;rw[if_neg (by rw[hlet];simp),if_neg (by rw[hdig];simp),if_neg (by rw[S.out];simp),if_neg (by rw[a7.out];simp)]at this;rw[U.out];exact this)
         go_wp2_with (first | (go_at_call 69;refine(zA4 _ _).mono ?_;rintro e2 w2 ⟨rfl,rfl⟩) | (go_at_call 71;refine(zAF _ _).mono ?_;rintro e2 w2 ⟨rfl,rfl⟩));refine(zHq (m:=m) (e:=e) (t:=t) C.out.rd rfl Q hB hk hl hc L).mono ?_;rintro e4 w4 ⟨v,rfl,p,d,q⟩;have r:=zA (P.out.grown q jo);have J:=zA p;have D:=zA d;have E:=zA (zC C.out.grown q);clear p d q;have:=r.out.nine
         by_cases s:e=0
         · obtain⟨⟨vs,vm,hv,y,z⟩,F⟩:=D.out s;subst hv;obtain⟨As,cs,rfl,_,_⟩:=zP y;obtain⟨Am,cm,rfl,_,_⟩:=zP z;have G:=zA y;have H:=zA z;have M:=zA (Mv.then C F);have R:=zA s;obtain⟨ls,f⟩:=jx t.str.length;obtain⟨lm,o⟩:=jx t.mag.length;rw[f,o];rw[f]at G;rw[o]at H;have N:=zA f;have O:=zA o;clear y z F s f o;go_wp2_with fail;refine zAE r (.int .i64 (e:Int)) ?_;refine⟨_,rfl,fun h=>absurd R h,fun _=>⟨⟨_,_,rfl,?_,?_⟩,?_⟩,zAV E (yAC _)⟩
           · rw[N.out];exact zAY (zA8 G I) jo
           · rw[O.out];exact zAY (zA8 H I) jo
           · exact zAD M (yAC _) hg
         · obtain rfl:=J.out s;unfold noV;go_wp2_with fail;refine zAE r (.int .i64 (e:Int)) ?_;exact⟨_,rfl,fun _=>rfl,fun h=>absurd h s,zAV E (yAC _)⟩
theorem Tryz.info_tok:(prog.info? 78).map (fun i=>(i.zero,i.size,i.bytes))=some (some (.agg zBP.toArray),9,112):=by kernel_rfl
def zE8 (t:Tok) (vs vm:Value):List Value:=[t.kind,t.text,vs,t.nk,t.nn,false,vm,t.pos,t.nl]
def TokC (w:World) (base:Nat):List Tok→List Value→Prop
 | [],cs=>cs=[]
 | t::r,cs=>∃vs vm rest,cs=zE8 t vs vm++rest∧w.ownsRow base 104 1 vs t.str.length (zAC t.str)∧w.ownsRow base 119 1 vm t.mag.length (zBg t.mag)∧TokC w base r rest
theorem TokC.len {w:World} {base:Nat}:∀{ts:List Tok} {cs:List Value},TokC w base ts cs→cs.length=ts.length*9:=by
 intro ts
 induction ts with
 | nil=>intro cs h;rw[show cs=[]from h];rfl
 | cons t r b=>
  intro cs h;obtain⟨vs,d,rest,rfl,_,_,c⟩:=h;have:=b c;simp only[zE8,yAN,yAO,yBA,this];omega
theorem TokC.map {w w':World} {base b:Nat} (hk:∀(e:TypeId) (v:Value) (n:Nat) (xs:List Value),(e=104∨e=119)→w.ownsRow base e 1 v n xs→w'.ownsRow b e 1 v n xs):∀{ts:List Tok} {cs:List Value},TokC w base ts cs→TokC w' b ts cs:=by
 intro ts
 induction ts with
 | nil=>intro cs h;exact h
 | cons t r c=>
  intro cs h;obtain⟨vs,d,rest,rfl,h1,f,g⟩:=h;exact⟨vs,d,rest,rfl,hk _ _ _ _ (.inl rfl) h1,hk _ _ _ _ (.inr rfl) f,c g⟩
theorem TokC.snoc {w:World} {base:Nat} {vs b:Value} (h1:w.ownsRow base 104 1 vs t.str.length (zAC t.str)) (e:w.ownsRow base 119 1 b t.mag.length (zBg t.mag)):∀{ts:List Tok} {cs:List Value},TokC w base ts cs→TokC w base (ts++[t]) (cs++zE8 t vs b):=by
 intro ts
 induction ts with
 | nil=>intro cs h;rw[show cs=[]from h];exact⟨vs,b,[],by simp,h1,e,rfl⟩
 | cons s r f=>
  intro cs h;obtain⟨c,d,rest,rfl,g1,g2,g⟩:=h;exact⟨c,d,rest++zE8 t vs b,by simp,g1,g2,f g⟩
theorem zGy {w w':World} {e1 e2:TypeId} {s1 l d:Nat} {v1 v2:Value} {xs o:List Value} (h1:w.ownsRow c e1 s1 v1 d xs) (p:w.ownsRow k e2 l v2 m o) (f:e1≠e2) (hg:w.grownBy w' v2.ownBlock):w'.ownsRow c e1 s1 v1 d xs:=by
 refine h1.kept hg ?_;rcases h1.2 with⟨rfl,_⟩ | ⟨g,cap,s,rfl,_,j,_⟩
 · exact .inl rfl
 · right;rcases p.2 with⟨rfl,_⟩ | ⟨g2,q,r,rfl,_,b,_⟩
   · simp[Value.ownBlock]
   · intro e;simp only[Value.ownBlock,yCE]at e;subst e;rw[j]at b;injection b with b;injection b with _ h4 _;exact f h4
theorem zQd {w w':World} {base:Nat} {e:TypeId} {s:Nat} {xs:List Value} (h:w.ownsRow base e s v n xs) (hg:w.grownBy w' none):w'.ownsRow base e s v n xs:=
 h.kept hg (by cases hv:v.ownBlock<;>simp)
def TokL (w:World) (base:Nat) (ts:List Tok) (v:Value):Prop:=∃cs,w.ownsRow base 78 9 v ts.length cs∧TokC w base ts cs
theorem TokL.nil (w:World) (base:Nat):TokL w base [] (.slice none 0 0):=⟨[],yAJ _ _ _ _,rfl⟩
theorem TokL.grown {w w':World} {base:Nat} (h:TokL w base ts v) (hg:w.grownBy w' (some g)) (hb:g < base):TokL w' base ts v:=by
 obtain⟨cs,h1,b⟩:=h;exact⟨cs,zBl h1 hg hb,b.map fun _ _ _ _ _ h=>zBl h hg hb⟩
theorem TokL.new {w w':World} {base:Nat} (h:TokL w base ts v) (hg:w.grownBy w' none):TokL w' base ts v:=by
 obtain⟨cs,h1,b⟩:=h;exact⟨cs,zQd h1 hg,b.map fun _ _ _ _ _ h=>zQd h hg⟩
theorem TokL.base {w:World} {base b:Nat} (h:TokL w base ts v) (hb:b≤base):TokL w b ts v:=by
 obtain⟨cs,h1,c⟩:=h;exact⟨cs,zAY h1 hb,c.map fun _ _ _ _ _ h=>zAY h hb⟩
theorem TokL.below {w w':World} {base:Nat} (h:TokL w base ts v) (hb:jY w w'):TokL w' base ts v:=
 h.new ⟨hb.os,hb.tape,hb.output,hb.size,fun k hk _=>hb.block k hk⟩
theorem TokL.snoc {w w':World} {base:Nat} {v':Value} {vs b:Value} {cs:List Value} (c:w.ownsRow base 78 9 v ts.length cs) (d:TokC w base ts cs) (h1:w.ownsRow base 104 1 vs t.str.length (zAC t.str)) (f:w.ownsRow base 119 1 b t.mag.length (zBg t.mag))
 (g:w'.ownsRow base 78 9 v' (ts.length+1) (cs++zE8 t vs b)) (hg:w.grownBy w' v.ownBlock):TokL w' base (ts++[t]) v':=by
 refine⟨cs++zE8 t vs b,by rw[yAN];exact g,TokC.snoc (zGy h1 c jd hg) (zGy f c jd hg) (d.map fun e _ _ _ j h=>zGy h c (by rcases j with rfl | rfl<;>decide) hg)⟩
section
variable {P:Program} {w:World} {ops:Array Oper} {rest:List Oper} {o:Oper} {a:Act} {Q:Exit→Act→World→Prop}
theorem zGz (b:o.guard=none) (s x:Operand) (t:TypeId)
 (d:o.op=.call {callee:=.builtin .append,args:=#[s,x],argTypes:=#[t,t]})
 (e:TypeId) (i:TypeInfo) (z:Value) (size bytes:Nat) (ht:P.underlying t=some (.slice e)) (hi:P.info? e=some i) (hz:i.zero=some z)
 (hsize:i.size=size) (hby:i.bytes=bytes) (hzs:z.cells.size=size) (hsz0:0 < size) (base:Nat) (hbase:base≤w.heap.size)
 (v:Value) (xs:List Value) (k:Nat) (hs:a.eval s=v) (hm:w.ownsRow base e size v k xs)
 (cs:List Value) (m c B0:Nat) (hB0:B0=w.heap.size) (hx:a.eval x=.slice (some ⟨B0,0,none⟩) m c) (hl:cs.length=m*size) (h1:(cs.all fun u=>u.oneCell')=true)
 (hsz:k+m≤70368744177664) (hb2:(k+m)*bytes≤140737488355328)
 (h:∀v' w',w'.ownsRow base e size v' (k+m) (xs++cs)→w.grownBy w' v.ownBlock→wpList P ops Q rest (a.put o.dst v') w'):wpList P ops Q (o::rest) a (w.alloc (.cells cs.toArray e)):=by
 subst hB0;exact zEb b s x t d e i z size bytes ht hi hz hsize hby hzs hsz0 base hbase v xs k hs hm cs m c hx hl h1 hsz hb2 h
end
structure LxS (w wr:World) (A:jQ) (n c p:Nat) (v:Value) (acc:List Tok):Prop where
 rd:Rd wr w.heap.size A n c p
 below:jY w wr
 toks:TokL wr (w.heap.size+1) acc v
theorem zEc {w w':World} (h:jY w wr) (hg:wr.grownBy w' (some w.heap.size)):jY w w':=
 h.grown hg h.size (fun k hk=>by injection hk with hk;omega)
theorem LxS.mov {w w':World} {b:List Tok} (h:LxS w wr A n c p v b) (d:Mv wr w' w.heap.size A n c e):LxS w w' A n c e v b:=
 ⟨d.rd,zEc h.below d.grown,h.toks.grown d.grown jo⟩
theorem LxS.new {w w':World} {b:List Tok} (h:LxS w wr A n c p v b) (hg:wr.grownBy w' none):LxS w w' A n c p v b:=
 ⟨⟨hg.cell h.rd.c0 js,hg.cell h.rd.c1 js,(World.frozen?_of_block (w:=wr) (hg.block _ h.rd.lt js)).trans h.rd.f1⟩,h.below.grown hg h.below.size (fun k hk=>by cases hk),h.toks.new hg⟩
theorem LxS.app {w w':World} {v':Value} {f b:List Tok} (h:LxS w wr A n c p v f) (hg:wr.grownBy w' v.ownBlock) (j:TokL w' (w.heap.size+1) b v'):LxS w w' A n c p v' b:=by
 obtain⟨cs,g,_⟩:=h.toks;have d:∀k,k < w.heap.size+1→some k≠v.ownBlock:=fun k hk e=>by have:=(g.lt k e.symm).1;omega
 exact⟨⟨hg.cell h.rd.c0 (d _ js),hg.cell h.rd.c1 (d _ js),(World.frozen?_of_block (w:=wr) (hg.block _ h.rd.lt (d _ js))).trans h.rd.f1⟩,h.below.grown hg h.below.size (fun k hk=>by have:=(g.lt k hk).1;omega),j⟩
def zVt (acc:List Tok) (q:List Tok×Nat×Nat):List Tok×Nat×Nat:=if q.2.2≠0 then([],q.2)else(acc++q.1,0,0)
theorem zQe (b:List Tok) (t:Tok) (q:List Tok×Nat×Nat):zVt b (zFy t q)=zVt (b++[t]) q:=by
 unfold zVt zFy
 by_cases h:q.2.2≠0
 · rw[if_pos h,if_pos h];simp only;rw[if_pos h]
 · rw[if_neg h,if_neg h];simp
theorem zJj:∀(f k:Nat) (l:jH),(zFJ f k l).2.2=0→(zFJ f k l).2.1=0:=by
 intro f
 induction f with
 | zero=>intro k l _;rfl
 | succ f e=>
  intro k l;rw[zFJ]
  by_cases h1:(zAM l).2.2≠0
  · rw[if_pos h1];intro h;exact absurd h h1
  rw[if_neg h1]
  by_cases c:l.drop (zAM l).1=[]
  · rw[if_pos c];intro _;rfl
  rw[if_neg c]
  by_cases b:(zA6 k l).1≠0
  · rw[if_pos b];intro h;exact absurd h b
  rw[if_neg b];unfold zFy;split
  · intro h;rename_i d;exact absurd h d
  · intro _;rfl
theorem zMJ:∀(f k:Nat) (l:jH),(zFJ f k l).2.2≠0→(zFJ f k l).1=[]:=by
 intro f
 induction f with
 | zero=>intro k l _;rfl
 | succ f d=>
  intro k l;rw[zFJ]
  by_cases h1:(zAM l).2.2≠0
  · rw[if_pos h1];intro h;rfl
  rw[if_neg h1]
  by_cases b:l.drop (zAM l).1=[]
  · rw[if_pos b];intro h;exact absurd rfl h
  rw[if_neg b]
  by_cases c:(zA6 k l).1≠0
  · rw[if_pos c];intro h;rfl
  rw[if_neg c];unfold zFy;split
  · intro _;rfl
  · intro h;exact absurd rfl h
def AtLex (u:jH) (p:Nat) (acc:List Tok):Prop:=acc.length≤p∧p≤u.length∧zGa 0 u=zVt acc (zGa p (u.drop p))
theorem AtLex.start (u:jH):AtLex u 0 []:=by
 refine⟨yAC _,yAE _,?_⟩;rw[List.drop_zero];unfold zVt;split
 · rename_i h
   have:=zMJ _ _ _ h;exact Prod.ext this rfl
 · rename_i h
   have h1:=Decidable.not_not.1 h;have b:=zJj _ _ _ h1;exact Prod.ext rfl (Prod.ext b h1)
theorem AtLex.pass {b:List Tok} (h:AtLex u p b) (c:zAM (u.drop p)=(m,nl,e)) (d:e≠0):zGa 0 u=([],p+m,e):=by
 obtain⟨_,_,h⟩:=h;rw[h,zI8 (by rw[c];exact d),c];unfold zVt;rw[if_pos d]
theorem AtLex.last {b:List Tok} (h:AtLex u p b) (c:zAM (u.drop p)=(m,nl,0)) (d:p+m=u.length):zGa 0 u=(b++[setAt zh u.length nl],0,0):=by
 obtain⟨_,_,h⟩:=h;rw[h,zIL (by rw[c]) (by rw[c,yCC,d,yBZ]),c,←d];unfold zVt;rw[if_neg js]
theorem AtLex.bad {d:List Tok} (h:AtLex u p d) (c:zAM (u.drop p)=(m,nl,0)) (l:p+m < u.length) (g:zAU (p+m==0) (u.drop (p+m))=(e,t,k)) (f:e≠0):zGa 0 u=([],p+m,e):=by
 obtain⟨_,_,h⟩:=h;have b:zA6 p (u.drop p)=(e,t,k):=by unfold zA6;rw[c,yCC];exact g
 rw[h,zLr (by rw[c]) (by rw[c,yCC];intro j;have:=congrArg List.length j;rw[yAR]at this;simp at this;omega) (by rw[b];exact f),c,b];unfold zVt;rw[if_pos f]
theorem AtLex.more {e:List Tok} (h:AtLex u p e) (d:zAM (u.drop p)=(m,nl,0)) (j:p+m < u.length) (f:zAU (p+m==0) (u.drop (p+m))=(0,t,k)):AtLex u (p+m+k) (e++[setAt t (p+m) nl])∧1≤k:=by
 obtain⟨o,q,h⟩:=h;have c:zA6 p (u.drop p)=(0,t,k):=by unfold zA6;rw[d,yCC];exact f
 have b:=zI7 (z:=p+m==0) (l:=u.drop (p+m)) (by rw[f]);rw[f,yAR]at b;simp only at b;refine⟨⟨by simp;omega,by omega,?_⟩,b.1⟩;rw[h,zEt (by rw[d]) (by rw[d,yCC];intro g;have:=congrArg List.length g;rw[yAR]at this;simp at this;omega) (by rw[c]),zQe,d,c,yCC,yCO]
theorem zMK {a:Bool} (h:a=b) (c:m=n):Ending.returned (.tuple #[a,m])=.returned (.tuple #[b,n]):=by rw[h,c]
def AtRem (long:Bool) (u:jH) (k p:Nat) (b d:Bool):Prop:=∃i,p=k+2+i∧zDe long (u.drop (k+2)) false false=zF3 i (zDe long (u.drop p) b d)
theorem AtRem.step {c:Bool} {d:Bool} (h:AtRem c u k p b d) (f:p < u.length) (h1:(c&&zg [42,47] (u.drop p))=false) (g:(!c &&zAG u[p])=false):
 AtRem c u k (p+1) (b || zAG u[p]) (d || zH9 u[p]):=by
 obtain⟨i,hi,j⟩:=h;refine⟨i+1,by omega,?_⟩;have e:u.drop p=u[p]::u.drop (p+1):=yAH f;rw[j,e,zDe,if_neg (by rw[←e,h1];simp),if_neg (by rw[g];simp)];simp only[zF3];congr 1;omega
theorem AtRem.close {d:Bool} (h:AtRem true u k p b d) (e:p < u.length) (h1:zg [42,47] (u.drop p)=true):
 zDe true (u.drop (k+2)) false false=(p - (k+2)+2,b,zIA d)∧k+2≤p:=by
 obtain⟨i,hi,f⟩:=h;have c:u.drop p=u[p]::u.drop (p+1):=yAH e;refine⟨?_,by omega⟩;rw[f,c,zDe,if_pos (by rw[←c,h1];rfl)];simp only[zF3];congr 1;omega
theorem AtRem.line {d:Bool} (h:AtRem false u k p b d) (c:p < u.length) (h1:zAG u[p]=true):
 zDe false (u.drop (k+2)) false false=(p - (k+2),false,zIA d)∧k+2≤p:=by
 obtain⟨i,hi,e⟩:=h;have f:u.drop p=u[p]::u.drop (p+1):=yAH c;refine⟨?_,by omega⟩;rw[e,f,zDe,if_neg js,if_pos (by rw[h1];rfl)];simp only[zF3];congr 1;omega
theorem AtRem.stop {c:Bool} {d:Bool} (h:AtRem c u k u.length b d):
 zDe c (u.drop (k+2)) false false=(u.length - (k+2),false,if c=true then 5 else zIA d)∧k+2≤u.length:=by
 obtain⟨i,hi,e⟩:=h;refine⟨?_,by omega⟩;rw[e,yBZ,zDe];simp only[zF3];congr 1;omega
theorem zYP {c:Bool} (d:zg [47,42] (u.drop k)=c) (f:zAq (u.drop k)=(m,nl,e)):∀(i:Nat) (b:Bool) (e':Nat),zDe c (u.drop (k+2)) false false=(i,b,e')→2+i=m∧b=nl∧e'=e:=by
 intro i b e' h;unfold zAq at f;rw[d,yCC,h]at f;simpa [zF3]using f
theorem zDO {w:World} (R:Rd w g A n c k) (hn:u.length=n) (V:Reads w B 1 A n (zAC u)) (hB:B≤g) (hk:k+2≤n) (S:n≤4096) (W:zAq (u.drop k)=(m,nl,e)):
 Calls prog 68 #[.pointer (some g)] w fun ev w'=>ev=.returned (.tuple #[nl,e])∧Mv w w' g A n c (k+m):=by
 subst hn;obtain⟨f,s⟩:=jx (zg [47,42] (u.drop k));have M:=zA (zYP s W);have HL:=zA s;have X:=zA V;have H:=zA R;have hg:=R.lt;clear W s V R;go_enter func68,ntmps68;go_wp2_with fail;refine(zAo ⟨#[47,42]⟩ H rfl X jo S jd HL).mono ?_;rintro e1 w1 ⟨rfl,m1,Y⟩;subst Y;have N:=H.out.c0;have O:=H.out.c1;have P:=H.out.f1;go_wp2;have a0:=zA (Mv.step ((Mv.refl H).drewN m1) (z:=(k:Int)+2) (k':=k+2) jo);clear N O P
 go_loopg [5,6] (u.length - (k+2)) (fun r a T wr=>∃p b d,p+r=u.length∧a=.bool b∧T=.bool d∧Hid (Mv w wr g A u.length c p)∧Hid (AtRem f u k p b d))
 case atStart=>exact⟨k+2,false,false,by omega,rfl,rfl,a0,0,by omega,by simp[zF3]⟩
 case round=>
  obtain⟨p,b,d,a4,rfl,rfl,j,C⟩:=hrel;have N:=j.out.rd.c0;have O:=j.out.rd.c1;have P:=j.out.rd.f1;have I:=zA (X.out.grown j.out.grown hB (yAM hg))
  by_cases D:p < u.length
  · have a3:(p:Int) < (u.length:Int):=by omega
    obtain⟨blk,off,rfl,_,E⟩:=I.out.spotL jo;have a1:=E p D;have l:=zA (fun h1 h2=>C.out.step D h1 h2);have t:=zA (fun(e:f=true) h1=>(by subst e;exact C.out.close D h1:zDe f (u.drop (k+2)) false false=(p - (k+2)+2,b,zIA d)∧k+2≤p));have F:=zA (fun(e:f=false) h1=>(by subst e;exact C.out.line D h1:zDe f (u.drop (k+2)) false false=(p - (k+2),false,zIA d)∧k+2≤p));obtain⟨x,hx⟩:=jx (u[p]);rw[hx]at a1 l F;obtain⟨T,o⟩:=jx (zg [42,47] (u.drop p));have Q:=zA o;rw[o]at l t;clear E hx o;cases f with
    | true=>
     cases T with
     | true=>
      have J:=zA (t.out rfl rfl);go_wp2_with fail
      go_quiet (fail)
      go_wp2_with fail
      go_quiet (fail)
      go_wp2_with (first | (go_at_call 67;refine(zAo ⟨#[42,47]⟩ (j.out.rd.drewN _) rfl (I.out.drewN _) jo S jd Q.out).mono ?_;rintro e2 w2 ⟨rfl,m2,L⟩;subst L) | (go_at_call 109;refine(zGb _ _).mono ?_;rintro e2 w2 ⟨rfl,rfl⟩))
      go_ret2
      obtain⟨q1,q2⟩:=J.out;obtain⟨U,v,y⟩:=M.out _ _ _ q1;exact⟨zMK v y,by rw[show k+m=p+2 by omega];exact Mv.step ((j.out.drewN _)) jo⟩
     | false=>
      have G:=zA (l.out rfl rfl);cases b
      all_goals cases d
      all_goals
       go_wp2_with fail
       go_quiet (fail)
       go_wp2_with fail
       go_quiet (fail)
       go_wp2_with (first | (go_at_call 67;refine(zAo ⟨#[42,47]⟩ (j.out.rd.drewN _) rfl (I.out.drewN _) jo S jd Q.out).mono ?_;rintro e2 w2 ⟨rfl,m2,L⟩;subst L) | (go_at_call 66;refine(zAQ _ _).mono ?_;rintro e2 w2 ⟨rfl,rfl⟩) | (go_at_call 110;refine(zBB _ _).mono ?_;rintro e2 w2 ⟨rfl,rfl⟩))
       go_roundg (gk - 1)
       case measure=>omega
       case rel=>exact⟨p+1,_,_,by omega,rfl,rfl,Mv.step (j.out.drewN _) jo,G⟩
    | false=>
     cases hln:zAG x with
     | true=>
      have J:=zA (F.out rfl hln);go_wp2_with fail
      go_quiet (fail)
      go_wp2_with fail
      go_quiet (fail)
      go_wp2_with (first | (go_at_call 66;refine(zAQ _ _).mono ?_;rintro e2 w2 ⟨rfl,rfl⟩) | (go_at_call 109;refine(zGb _ _).mono ?_;rintro e2 w2 ⟨rfl,rfl⟩))
      go_ret2
      obtain⟨q1,q2⟩:=J.out;obtain⟨U,v,y⟩:=M.out _ _ _ q1;exact⟨zMK v y,by rw[show k+m=p by omega];exact j.out.drewN _⟩
     | false=>
      have G:=zA (l.out (by rfl) (by rw[hln];rfl));have a2:=zA hln;cases b
      all_goals cases d
      all_goals
       go_wp2_with fail
       go_quiet (fail)
       go_wp2_with fail
       go_quiet (fail)
       go_wp2_with (first | (go_at_call 66;refine(zAQ _ _).mono ?_;rintro e2 w2 ⟨rfl,rfl⟩) | (go_at_call 110;refine(zBB _ _).mono ?_;rintro e2 w2 ⟨rfl,rfl⟩))
       go_roundg (gk - 1)
       case measure=>omega
       case rel=>exact⟨p+1,_,_,by omega,rfl,rfl,Mv.step (j.out.drewN _) jo,by first | exact G.out | (have z:=G.out;rw[a2.out]at z;exact z)⟩
  · obtain rfl:p=u.length:=by have:=j.out;omega
    have o:=zA C.out.stop;cases f with
    | true=>
     go_wp2_with fail
     go_quiet (fail)
     go_wp2
     go_ret2
     obtain⟨q1,q2⟩:=o.out;obtain⟨U,v,y⟩:=M.out _ _ _ q1;exact⟨zMK (n:=e) (m:=5) v y,by rw[show k+m=u.length by omega];exact j.out.drewN _⟩
    | false=>
     go_wp2_with fail
     go_quiet (fail)
     go_wp2_with (go_at_call 109;refine(zGb _ _).mono ?_;rintro e2 w2 ⟨rfl,rfl⟩)
     go_ret2
     obtain⟨q1,q2⟩:=o.out;obtain⟨U,v,y⟩:=M.out _ _ _ q1;exact⟨zMK v y,by rw[show k+m=u.length by omega];exact j.out.drewN _⟩
theorem zCW {a:Bool} (h:(a || b)=false):a=false∧b=false:=by cases a<;>simp_all
theorem zQf (h:(false || b)=true):b=true:=h
theorem zQg {a:Bool} {q:Nat} (h:a=b) (c:m=n) (d:p=q):Ending.returned (.tuple #[a,m,p])=.returned (.tuple #[b,n,q]):=by rw[h,c,d]
def AtPass (u:jH) (k p:Nat) (b:Bool):Prop:=∃i,p=k+i∧zC7 (u.drop k) false=zF3 i (zC7 (u.drop p) b)
theorem AtPass.blank (h:AtPass u k p b) (c:p < u.length) (h1:(zHd u[p] || zAG u[p])=true):AtPass u k (p+1) (b || zAG u[p]):=by
 obtain⟨i,hi,d⟩:=h;refine⟨i+1,by omega,?_⟩;rw[d,yAH c,zGZ h1];simp only[zF3];congr 1;omega
theorem AtPass.remark (h:AtPass u k p b) (f:p < u.length) (h1:(zHd u[p] || zAG u[p])=false) (d:(zg [47,47] (u.drop p) || zg [47,42] (u.drop p))=true)
 (e:zAq (u.drop p)=(m,nl,0)):AtPass u k (p+m) (b || nl):=by
 obtain⟨i,hi,g⟩:=h;refine⟨i+m,by omega,?_⟩;have c:u.drop p=u[p]::u.drop (p+1):=yAH f;rw[c]at e d;rw[g,c,zFr h1 d,e,if_neg js,←c,yCC];simp only[zF3];congr 1;omega
theorem AtPass.bad (h:AtPass u k p b) (j:p < u.length) (h1:(zHd u[p] || zAG u[p])=false) (c:(zg [47,47] (u.drop p) || zg [47,42] (u.drop p))=true)
 (d:zAq (u.drop p)=(m,nl,e)) (f:e≠0):zC7 (u.drop k) false=(p - k,false,e)∧k≤p:=by
 obtain⟨i,hi,l⟩:=h;refine⟨?_,by omega⟩;have g:u.drop p=u[p]::u.drop (p+1):=yAH j;rw[g]at d c;rw[l,g,zFr h1 c,d,if_pos f];simp only[zF3];congr 1;omega
theorem AtPass.halt (h:AtPass u k p b) (e:p < u.length) (h1:(zHd u[p] || zAG u[p])=false) (c:(zg [47,47] (u.drop p) || zg [47,42] (u.drop p))=false):
 zC7 (u.drop k) false=(p - k,b,0)∧k≤p:=by
 obtain⟨i,hi,f⟩:=h;refine⟨?_,by omega⟩;have d:u.drop p=u[p]::u.drop (p+1):=yAH e;rw[d]at c;rw[f,d,zFU h1 c];simp only[zF3];congr 1;omega
theorem AtPass.stop (h:AtPass u k u.length b):zC7 (u.drop k) false=(u.length - k,b,0)∧k≤u.length:=by
 obtain⟨i,hi,c⟩:=h;refine⟨?_,by omega⟩;rw[c,yBZ,zPA];simp only[zF3];congr 1;omega
theorem zWz (c:zAM (u.drop k)=(m,nl,e)):∀(i:Nat) (b:Bool) (e':Nat),zC7 (u.drop k) false=(i,b,e')→i=m∧b=nl∧e'=e:=by
 intro i b e' h;have:zAM (u.drop k)=zC7 (u.drop k) false:=rfl;rw[this,h]at c;simpa using c
theorem zQh {w:World} (hr:Rd w g A n c k) (hn:u.length=n) (ha:Reads w B 1 A n (zAC u)) (hB:B≤g) (hk:k≤n) (s:n≤4096) (R:zAM (u.drop k)=(m,nl,e)):
 Calls prog 29 #[.pointer (some g)] w fun ev w'=>(ev=.returned (.tuple #[nl,.int .i64 ((if e=0 then 0 else k+m:Nat):Int),e]))∧(e=0→Mv w w' g A n c (k+m))∧w.grownBy w' (some g):=by
 subst hn;have HQ:=zA (zWz R);have HA:=zA ha;have HR:=zA hr;have hg:=hr.lt;have a3:=zA (Mv.refl hr);clear R ha hr;go_enter func29,ntmps29;go_wp2
 go_step3
 go_wp2
 go_step3
 go_wp2
 go_loopg [5] (u.length - k) (fun r a wr=>∃p b,p+r=u.length∧a=.bool b∧Hid (Mv w wr g A u.length c p)∧Hid (AtPass u k p b))
 case atStart=>exact⟨k,false,by omega,rfl,a3,0,rfl,by simp[zF3]⟩
 case round=>
  obtain⟨p,b,a9,rfl,d,D⟩:=hrel;have b0:=d.out.rd.c0;have b1:=d.out.rd.c1;have b2:=d.out.rd.f1;have f:=zA (HA.out.grown d.out.grown hB (yAM hg))
  by_cases E:p < u.length
  · have a8:(p:Int) < (u.length:Int):=by omega
    obtain⟨blk,off,rfl,_,N⟩:=f.out.spotL jo;have a4:=N p E;have F:=zA (fun h1=>D.out.blank E h1);have T:=zA (fun m nl h1 I R=>D.out.remark (m:=m) (nl:=nl) E h1 I R);have U:=zA (fun m nl e h1 I R he=>D.out.bad (m:=m) (nl:=nl) (e:=e) E h1 I R he);have O:=zA (fun h1 I=>D.out.halt E h1 I);obtain⟨x,hx⟩:=jx (u[p]);rw[hx]at a4 F T U O;clear N hx;cases hbl:(zHd x || zAG x)with
    | true=>
     have v:=zA (F.out hbl);cases a1:zHd x with
     | true=>
      cases b
      all_goals
       go_wp2_with fail
       go_quiet (fail)
       go_wp2_with fail
       go_quiet (fail)
       go_wp2_with (first | (go_at_call 66;refine(zAQ _ _).mono ?_;rintro e2 w2 ⟨rfl,rfl⟩) | (go_at_call 65;refine(zB3 _ _).mono ?_;rintro e2 w2 ⟨rfl,rfl⟩))
       go_roundg (gk - 1)
       case measure=>omega
       case rel=>exact⟨p+1,_,by omega,rfl,Mv.step (d.out.drewN _) jo,v⟩
     | false=>
      have a5:zAG x=true:=by rw[a1]at hbl;exact hbl
      cases b
      all_goals
       go_wp2_with fail
       go_quiet (fail)
       go_wp2_with fail
       go_quiet (fail)
       go_wp2_with (first | (go_at_call 66;refine(zAQ _ _).mono ?_;rintro e2 w2 ⟨rfl,rfl⟩) | (go_at_call 65;refine(zB3 _ _).mono ?_;rintro e2 w2 ⟨rfl,rfl⟩))
       go_roundg (gk - 1)
       case measure=>omega
       case rel=>exact⟨p+1,_,by omega,rfl,Mv.step (d.out.drewN _) jo,by first | exact v.out | (have z:=v.out;rw[a5]at z;exact z)⟩
    | false=>
     have a1:zHd x=false:=(zCW hbl).1;have b3:zAG x=false:=(zCW hbl).2;have V:=zA hbl;clear hbl;obtain⟨s1,W⟩:=jx (zg [47,47] (u.drop p));obtain⟨X,Y⟩:=jx (zg [47,42] (u.drop p));have G:=zA W;have a0:=zA Y;have HS:=zA (show(zg [47,47] (u.drop p) || zg [47,42] (u.drop p))=(s1 || X) by rw[W,Y]);clear W Y;cases hss:(s1 || X)with
     | false=>
      have h1:s1=false:=(zCW hss).1;have I:X=false:=(zCW hss).2;have P:=zA (O.out V (by rw[HS.out,hss]));subst h1 I;clear hss;go_wp2_with fail
      go_quiet (fail)
      go_wp2_with fail
      go_quiet (fail)
      go_wp2_with (first | (go_at_call 66;refine(zAQ _ _).mono ?_;rintro e2 w2 ⟨rfl,rfl⟩) | (go_at_call 65;refine(zB3 _ _).mono ?_;rintro e2 w2 ⟨rfl,rfl⟩));refine(zAo ⟨#[47,47]⟩ (d.out.rd.drewN _) rfl (f.out.drewN _) jo s jd G).mono ?_;rintro e2 w2 ⟨rfl,m2,j⟩;subst j;go_wp2_with fail;refine(zAo ⟨#[47,42]⟩ (d.out.rd.drewN _) rfl (f.out.drewN _) jo s jd a0).mono ?_;rintro e3 w3 ⟨rfl,m3,H⟩;subst H;go_wp2
      (try rw[Exit.noGoto_ret])
      go_ret3
      obtain⟨q1,q2⟩:=P.out;obtain⟨J,L,M⟩:=HQ.out _ _ _ q1;subst J L M;exact⟨rfl,fun _=>by rw[show k+(p - k)=p by omega];exact d.out.drewN _,(d.out.drewN _).grown⟩
     | true=>
      obtain⟨⟨S,a2,re⟩,o⟩:=jx (zAq (u.drop p));have Q:p+2≤u.length:=by
       have:=zD4 (l:=u.drop p) (by rw[HS.out,hss]);rw[yAR]at this;omega
      have a6:=zEp (l:=u.drop p) (by rw[yAR];omega);rw[o,yAR]at a6;have C:=zA o
      by_cases y:re=0
      · subst y;have v:=zA (T.out S a2 V (by rw[HS.out,hss]) o);clear o;cases s1 with
        | true=>
         cases b
         all_goals
          go_wp2_with fail
          go_quiet (fail)
          go_wp2_with fail
          go_quiet (fail)
          go_wp2_with (first | (go_at_call 66;refine(zAQ _ _).mono ?_;rintro e2 w2 ⟨rfl,rfl⟩) | (go_at_call 65;refine(zB3 _ _).mono ?_;rintro e2 w2 ⟨rfl,rfl⟩));refine(zAo ⟨#[47,47]⟩ (d.out.rd.drewN _) rfl (f.out.drewN _) jo s jd G).mono ?_;rintro e2 w2 ⟨rfl,m2,j⟩;subst j;go_wp2_with fail;refine(zDO (d.out.rd.drewN _) rfl (f.out.drewN _) hB Q s C).mono ?_;rintro e4 w4 ⟨rfl,t⟩;go_wp2
          go_roundg (u.length - (p+S))
          case measure=>omega
          case rel=>exact⟨p+S,_,by omega,rfl,Mv.then (d.out.drewN _) t,v⟩
        | false=>
         obtain rfl:X=true:=zQf hss;cases b
         all_goals
          go_wp2_with fail
          go_quiet (fail)
          go_wp2_with fail
          go_quiet (fail)
          go_wp2_with (first | (go_at_call 66;refine(zAQ _ _).mono ?_;rintro e2 w2 ⟨rfl,rfl⟩) | (go_at_call 65;refine(zB3 _ _).mono ?_;rintro e2 w2 ⟨rfl,rfl⟩));refine(zAo ⟨#[47,47]⟩ (d.out.rd.drewN _) rfl (f.out.drewN _) jo s jd G).mono ?_;rintro e2 w2 ⟨rfl,m2,j⟩;subst j;go_wp2_with fail;refine(zAo ⟨#[47,42]⟩ (d.out.rd.drewN _) rfl (f.out.drewN _) jo s jd a0).mono ?_;rintro e3 w3 ⟨rfl,m3,H⟩;subst H;go_wp2_with fail;refine(zDO (d.out.rd.drewN _) rfl (f.out.drewN _) hB Q s C).mono ?_;rintro e4 w4 ⟨rfl,t⟩;go_wp2
          go_roundg (u.length - (p+S))
          case measure=>omega
          case rel=>exact⟨p+S,_,by omega,rfl,Mv.then (d.out.drewN _) t,v⟩
      · have b4:((re:Int) !=0)=true:=by rw[yBM];omega
        have P:=zA (U.out S a2 re V (by rw[HS.out,hss]) o y);clear o;cases s1 with
        | true=>
         go_wp2_with fail
         go_quiet (fail)
         go_wp2_with fail
         go_quiet (fail)
         go_wp2_with (first | (go_at_call 66;refine(zAQ _ _).mono ?_;rintro e2 w2 ⟨rfl,rfl⟩) | (go_at_call 65;refine(zB3 _ _).mono ?_;rintro e2 w2 ⟨rfl,rfl⟩));refine(zAo ⟨#[47,47]⟩ (d.out.rd.drewN _) rfl (f.out.drewN _) jo s jd G).mono ?_;rintro e2 w2 ⟨rfl,m2,j⟩;subst j;go_wp2_with fail;refine(zDO (d.out.rd.drewN _) rfl (f.out.drewN _) hB Q s C).mono ?_;rintro e4 w4 ⟨rfl,t⟩;go_wp2
         (try rw[Exit.noGoto_ret])
         go_ret3
         obtain⟨q1,q2⟩:=P.out;obtain⟨J,L,M⟩:=HQ.out _ _ _ q1;subst J L M;exact⟨zQg rfl (by rw[if_neg y];omega) rfl,fun h=>absurd h y,(Mv.then (d.out.drewN _) t).grown⟩
        | false=>
         obtain rfl:X=true:=zQf hss;go_wp2_with fail
         go_quiet (fail)
         go_wp2_with fail
         go_quiet (fail)
         go_wp2_with (first | (go_at_call 66;refine(zAQ _ _).mono ?_;rintro e2 w2 ⟨rfl,rfl⟩) | (go_at_call 65;refine(zB3 _ _).mono ?_;rintro e2 w2 ⟨rfl,rfl⟩));refine(zAo ⟨#[47,47]⟩ (d.out.rd.drewN _) rfl (f.out.drewN _) jo s jd G).mono ?_;rintro e2 w2 ⟨rfl,m2,j⟩;subst j;go_wp2_with fail;refine(zAo ⟨#[47,42]⟩ (d.out.rd.drewN _) rfl (f.out.drewN _) jo s jd a0).mono ?_;rintro e3 w3 ⟨rfl,m3,H⟩;subst H;go_wp2_with fail;refine(zDO (d.out.rd.drewN _) rfl (f.out.drewN _) hB Q s C).mono ?_;rintro e4 w4 ⟨rfl,t⟩;go_wp2
         (try rw[Exit.noGoto_ret])
         go_ret3
         obtain⟨q1,q2⟩:=P.out;obtain⟨J,L,M⟩:=HQ.out _ _ _ q1;subst J L M;exact⟨zQg rfl (by rw[if_neg y];omega) rfl,fun h=>absurd h y,(Mv.then (d.out.drewN _) t).grown⟩
  · obtain rfl:p=u.length:=by omega
    have a7:=zA D.out.stop;go_wp2_with fail
    go_quiet (fail)
    go_wp2
    (try rw[Exit.noGoto_ret])
    go_ret3
    obtain⟨q1,q2⟩:=a7.out;obtain⟨J,L,M⟩:=HQ.out _ _ _ q1;subst J L M;exact⟨rfl,fun _=>by rw[show k+(u.length - k)=u.length by omega];exact d.out.drewN _,(d.out.drewN _).grown⟩
def LexPost (q:List Tok×Nat×Nat) (w:World) (ev:Ending) (w':World):Prop:=
 ∃v,ev=.returned (.tuple #[v,q.2.1,q.2.2])∧TokL w' w.heap.size q.1 v∧jY w w'
theorem LexPost.mk {q:List Tok×Nat×Nat} {w w':World} {a:Nat} (b:q=(ts,a,e)) (h:TokL w' w.heap.size ts v) (hb:jY w w'):LexPost q w (.returned (.tuple #[v,a,e])) w':=by
 subst b;exact⟨v,rfl,h,hb⟩
theorem zK2 {w:World} (hB:B≤w.heap.size) (hn:u.length=n) (ha:Reads w B 1 A n (zAC u)) (hc:n≤c) (_b:c≤maxLen):
 Calls prog 15 #[.slice A n c] w (LexPost (zDX u) w):=by
 subst hn
 by_cases l:4096 < u.length
 · have HQ:=zA (show zDX u=([],0,3) by unfold zDX;rw[if_pos l]);have b6:(4096:Int) < (u.length:Int):=by omega
   go_enter func15,ntmps15;go_wp2_with fail
   go_ret3
   exact LexPost.mk HQ (TokL.nil _ _) (Below.refl _ _)
 · obtain⟨i0,W,X,Y,a0⟩:=info_parts Tryz.info_tok;have hl:u.length≤4096:=by omega
   have HF:=zA (zB2 l);have HA:=zA ha;have b7:=zA (show LxS w (w.alloc (.cells #[.slice A u.length c,(0:Int)] 74)) A u.length c 0 (.slice none 0 0) []from
    ⟨⟨by go_simp,by go_simp,by go_simp⟩,ja,TokL.nil _ _⟩)
   clear ha l;go_enter func15,ntmps15;go_wp2_with fail
   go_loopg [6] (u.length+1) (fun r v wr=>∃(p:Nat) (d:List Tok),p+r=u.length+1∧Hid (LxS w wr A u.length c p v d)∧Hid (AtLex u p d))
   case atStart=>exact⟨0,[],by omega,b7,AtLex.start u⟩
   case round=>
    obtain⟨p,d,c8,H,j⟩:=hrel;have b8:=j.out.2.1;have c7:=j.out.1;obtain⟨⟨m,nl,e⟩,I⟩:=jx (zAM (u.drop p));have J:=zIK (u.drop p);rw[I,yAR]at J;simp only at J;have s:=zA I;clear I;have D:=zA (HA.out.below (H.out.below.mono hB));go_wp2_with fail;refine(zQh H.out.rd rfl D hB b8 hl s).mono ?_;rintro e1 w1 ⟨rfl,a1,a2⟩;have a3:=zA a1;have a4:=zA (zEc H.out.below a2);clear a1 a2
    by_cases U:e=0
    · subst U;have b:=zA (H.out.mov (a3.out rfl));clear H a3 D a4;have b9:=b.out.rd.c1;rw[if_pos rfl];obtain⟨k,hk⟩:=jx (p+m);rw[hk]at b b9;have z:=zA hk;have c9:k≤u.length:=by omega
      have d0:p≤k:=by omega
      obtain⟨cs,ho,a5⟩:=b.out.toks;obtain⟨Av,cv,hv,_,_⟩:=zP ho;subst hv;have HO:=zA ho;have a6:=zA a5;have o:w.heap.size+1≤w1.heap.size:=b.out.rd.lt;clear ho a5
      by_cases g:k=u.length
      · have e1:((k:Int)==(u.length:Int))=true:=by rw[g];simp
        have V:=zA (j.out.last s (by rw[z.out];exact g));have b4:=zA g;clear g hk;go_wp2_with (at_builtin;refine zGz rfl _ _ 45 rfl 78 i0 _ 9 112 underlying45 W X Y a0 rfl jd (w.heap.size+1) o (.slice Av d.length cv) cs d.length rfl HO.out (zE8 (setAt zh k nl) (.slice none 0 0) (.slice none 0 0)) 1 1 w1.heap.size rfl rfl rfl rfl jo jo ?_;intro v' w' L y)
        go_ret3
        have c0:=TokL.snoc HO a6 (yAJ _ _ _ _) (yAJ _ _ _ _) L y;have M:=b.out.app y c0;rw[b4.out]at M;exact LexPost.mk (HF.out.trans V) (M.toks.base jo) M.below
      · have e1:((k:Int)==(u.length:Int))=false:=yA.2 jo;have C:k < u.length:=by omega
        clear g hk;obtain⟨⟨e2,t,tk⟩,a7⟩:=jx (zAU (k==0) (u.drop k));have N:=zA a7;clear a7;have D:=zA (HA.out.below (b.out.below.mono hB));go_wp2_with fail;refine(zNn (m:=tk) (e:=e2) (t:=t) b.out.rd rfl D hB C hl hc N).mono ?_;rintro e3 w3 ⟨v,rfl,O,E,a8⟩;have P:=zA O;have F:=zA E;have a9:=zA a8;clear O E a8
        by_cases G:e2=0
        · subst G;obtain⟨⟨vs,vm,hv,Q,R⟩,b0⟩:=F.out rfl;subst hv;obtain⟨As,c1,rfl,_,_⟩:=zP Q;obtain⟨Am,cm,rfl,_,_⟩:=zP R;have f:=zA (j.out.more s (by rw[z.out];exact C) (by rw[z.out];exact N.out));rw[z.out]at f;have S:=zA (b.out.mov b0);obtain⟨c2,b1,T⟩:=S.out.toks;have b2:=zA b1;have b5:=zA T;have c3:=zA (zAY Q o);have c4:=zA (zAY R o);have c5:w.heap.size+1≤w3.heap.size:=S.out.rd.lt;clear Q R b1 T b0 F P HO a6;go_wp2_with (at_builtin;refine zGz rfl _ _ 45 rfl 78 i0 _ 9 112 underlying45 W X Y a0 rfl jd (w.heap.size+1) (by simp;omega) (.slice Av d.length cv) c2 d.length rfl (b2.out.alloc _) (zE8 (setAt t k nl) (.slice As t.str.length c1) (.slice Am t.mag.length cm)) 1 1 (w3.heap.size+1) js rfl rfl rfl jo jo ?_;intro v' w' L y);have d1:=f.out.2
          go_roundg (u.length+1 - (k+tk))
          case measure=>omega
          case rel=>
           refine⟨k+tk,d++[setAt t k nl],?_,(S.out.new (zG w3 _ none)).app y (TokL.snoc (b2.out.alloc _) (b5.out.map fun _ _ _ _ _ h=>h.alloc _) (c3.out.alloc _) (c4.out.alloc _) L y),f.out.1⟩;have:=f.out.1.2.1;omega
        · obtain rfl:=P.out G;have d2:((e2:Int) !=0)=true:=by rw[yBM];omega
          have b3:=zA (j.out.bad s (by rw[z.out];exact C) (by rw[z.out];exact N.out) G);clear G;unfold noV;go_wp2_with fail
          go_ret3
          rw[z.out]at b3;exact LexPost.mk (HF.out.trans b3) (TokL.nil _ _) ((zEc b.out.below a9).alloc (yAD b.out.below.size a9.out.size) _)
    · have c6:=zA (j.out.pass s U);have e1:((e:Int) !=0)=true:=by rw[yBM];omega
      rw[if_neg U];clear U;go_wp2_with fail
      go_ret3
      exact LexPost.mk (HF.out.trans c6) (TokL.nil _ _) a4
theorem TokC.get {w:World} {base:Nat}:∀{ts:List Tok} {cs:List Value} (_:TokC w base ts cs) (i:Nat) (hi:i < ts.length),∃vs b,(∀j,j < 9→cs[i*9+j]? =(zE8 ts[i] vs b)[j]?)∧w.ownsRow base 104 1 vs ts[i].str.length (zAC ts[i].str)∧w.ownsRow base 119 1 b ts[i].mag.length (zBg ts[i].mag):=by
 intro ts
 induction ts with
 | nil=>intro cs h i hi;simp at hi
 | cons t r f=>
  intro cs h i hi;obtain⟨vs,b,rest,rfl,h1,g,k⟩:=h;cases i with
  | zero=>
   refine⟨vs,b,fun j c=>?_,h1,g⟩;rw[Nat.zero_mul,yCK,yBD (by simp[zE8];omega)];rfl
  | succ i=>
   obtain⟨d,e,g1,g2,l⟩:=f k i (by simpa using hi);refine⟨d,e,fun j c=>?_,g2,l⟩;rw[yAX (by simp[zE8];omega),show(i+1)*9+j - (zE8 t vs b).length=i*9+j by simp[zE8];omega];exact g1 j c
structure TokAt (w:World) (base g i:Nat) (t:Tok) (As Am:jQ) (cs cm:Nat):Prop where
 k0:w.cell? ⟨g,i*9,none⟩=some (.int .i64 (t.kind:Int))
 k1:w.cell? ⟨g,i*9+1,none⟩=some (.string ⟨t.text.toArray⟩)
 k2:w.cell? ⟨g,i*9+2,none⟩=some (.slice As t.str.length cs)
 k3:w.cell? ⟨g,i*9+3,none⟩=some (.int .i64 t.nk)
 k4:w.cell? ⟨g,i*9+4,none⟩=some (.int .i64 t.nn)
 k5:w.cell? ⟨g,i*9+5,none⟩=some (.bool false)
 k6:w.cell? ⟨g,i*9+6,none⟩=some (.slice Am t.mag.length cm)
 k7:w.cell? ⟨g,i*9+7,none⟩=some (.int .i64 (t.pos:Int))
 k8:w.cell? ⟨g,i*9+8,none⟩=some (.bool t.nl)
 str:w.ownsRow base 104 1 (.slice As t.str.length cs) t.str.length (zAC t.str)
 mag:w.ownsRow base 119 1 (.slice Am t.mag.length cm) t.mag.length (zBg t.mag)
theorem TokL.shape {w:World} {base:Nat} (h:TokL w base ts v):∃A c,v=.slice A ts.length c∧ts.length≤c∧c≤maxLen:=by
 obtain⟨cs,b,_⟩:=h;exact zP b
theorem TokL.at_ {w:World} {base:Nat} (h:TokL w base ts (.slice A n c)) (p:0 < ts.length):∃g,A=some ⟨g,0,none⟩∧base≤g∧g < w.heap.size∧∀i (hi:i < ts.length),∃As Am c1 c2,TokAt w base g i ts[i] As Am c1 c2:=by
 obtain⟨cs,e,f⟩:=h;obtain⟨g,cap,hv,k,l⟩:=e.form p;injection hv with hA hn d;subst hA hn d;refine⟨g,rfl,k,l,fun i hi=>?_⟩;obtain⟨vs,q,d,h1,m⟩:=f.get i hi;obtain⟨As,c1,rfl,_,_⟩:=zP h1;obtain⟨Am,c2,rfl,_,_⟩:=zP m;have b:∀j (o:j < 9),w.cell? ⟨g,i*9+j,none⟩=(zE8 ts[i] (.slice As ts[i].str.length c1) (.slice Am ts[i].mag.length c2))[j]? :=by
  intro j o;rw[e.cellAt (i*9+j) jo,d j o]
 exact⟨As,Am,c1,c2,⟨b 0 jo,b 1 jo,b 2 jo,b 3 jo,b 4 jo,b 5 jo,b 6 jo,b 7 jo,b 8 jo,h1,m⟩⟩
structure Pc where
 g:Nat
 L:List Tok
 A:jQ
 N:Nat
 c:Nat
 w0:World
instance jPc:Coe Pc Value:=⟨fun C=>.pointer (some ⟨C.g,0,none⟩)⟩
def zVu (L:List Tok) (s:Ps):Nat:=if s.bad=0 then 0 else(zH L s.far).pos
structure Pcx (C:Pc):Prop where
 lst:Lst C.L
 n:C.L.length=C.N
 n4:C.N≤4097
 tok:TokL C.w0 0 C.L (.slice C.A C.N C.c)
 lo:C.w0.heap.size≤C.g
def psV (C:Pc) (s:Ps):List Value:=[.slice C.A C.N C.c,s.k,s.bad,(zVu C.L s:Int)]
structure Pa (C:Pc) (s:Ps) (w:World):Prop where
 cx:Pcx C
 keep:Below C.w0.heap.size C.w0 w
 box:Bx w C.g 50 (psV C s)
 hi:s.k≤C.L.length - 1
section
variable {C:Pc} {s:Ps} {w w':World} {r:Option Nat}
theorem Pa.lt (h:Pa C s w):C.g < w.heap.size:=h.box.lt
theorem Pa.grown (h:Pa C s w) (hg:w.grownBy w' r) (c:∀b,r=some b→C.g < b):Pa C s w':=
 ⟨h.cx,h.keep.grown hg h.keep.size (fun b hb=>by have:=c b hb;have:=h.cx.lo;omega),h.box.grown hg (fun e=>by have:=c _ e;omega),h.hi⟩
theorem Pa.new (h:Pa C s w) (hg:w.grownBy w' none):Pa C s w':=h.grown hg (fun b hb=>by cases hb)
theorem Pa.alloc (h:Pa C s w) (o:Obj):Pa C s (w.alloc o):=h.new (zG w o none)
theorem Pa.drew (h:Pa C s w):Pa C s w.drew:=h.new (zAw w none)
theorem Pa.c0 (h:Pa C s w):w.cell? C.g=some (.slice C.A C.N C.c):=h.box.cell 0
theorem Pa.c1 (h:Pa C s w):w.cell? ⟨C.g,1,none⟩=some (.int .i64 (s.k:Int)):=h.box.cell 1
theorem Pa.c2 (h:Pa C s w):w.cell? ⟨C.g,2,none⟩=some (.int .i64 (s.bad:Int)):=h.box.cell 2
theorem Pa.c3 (h:Pa C s w):w.cell? ⟨C.g,3,none⟩=some (.int .i64 (zVu C.L s:Int)):=h.box.cell 3
theorem Pa.f (h:Pa C s w) (j:Nat):w.frozen? ⟨C.g,j,none⟩=false:=h.box.frozen j
theorem Pa.kN (h:Pa C s w):s.k < C.N:=by
 have:=h.hi;have:=h.cx.lst.pos;have:=h.cx.n;omega
theorem Pa.to (h:Pa C s w) {z:Int} {k':Nat} (c:z=(k':Int)) (hk:k'≤C.L.length - 1):Pa C {s with k:=k'} (w.setCell ⟨C.g,1,none⟩ (.int .i64 z)):=by
 subst c;exact⟨h.cx,h.keep.grown (zM w C.g 1 _) h.keep.size (fun b hb=>by injection hb with hb;have:=h.cx.lo;omega),h.box.set 1 _,hk⟩
theorem Pa.at_ (h:Pa C s w) (i:Nat) (hi:i < C.N):∃c As Am c1 c2,C.A=some ⟨c,0,none⟩∧c < C.w0.heap.size∧TokAt w 0 c i (zH C.L i) As Am c1 c2:=by
 have g:=h.cx.n;obtain⟨c,h1,_,d,f⟩:=h.cx.tok.at_ jo;obtain⟨As,Am,c1,c2,t⟩:=f i jo;have e:C.L[i]' jo=zH C.L i:=by
  unfold zH;rw[yAG,yAB jo];rfl
 rw[e]at t;have b:∀(j:Nat) (v:Value),C.w0.cell? ⟨c,j,none⟩=some v→w.cell? ⟨c,j,none⟩=some v:=fun j v hv=>(h.keep.cell (p:=⟨c,j,none⟩) d).trans hv;exact⟨c,As,Am,c1,c2,h1,d,b _ _ t.k0,b _ _ t.k1,b _ _ t.k2,b _ _ t.k3,b _ _ t.k4,b _ _ t.k5,b _ _ t.k6,b _ _ t.k7,b _ _ t.k8,zC2 t.str h.keep,zC2 t.mag h.keep⟩
def zYQ (t:Tok) (As Am:jQ) (c1 c2:Nat):Value:=.agg #[t.kind,t.text,.slice As t.str.length c1,t.nk,t.nn,false,.slice Am t.mag.length c2,t.pos,t.nl]
def zW0 (t:Tok) (As Am:jQ) (c1 c2:Nat):List Value:=[t.kind,t.text,.slice As t.str.length c1,t.nk,t.nn,false,.slice Am t.mag.length c2,t.pos,t.nl]
def zaq (C:Pc) (s:Ps) (t:Tok) (w:World) (e:Ending) (w':World):Prop:=
 ∃As Am c1 c2,e=.returned (.agg #[t.kind,t.text,.slice As t.str.length c1,t.nk,t.nn,false,.slice Am t.mag.length c2,t.pos,t.nl])∧
  w'.ownsRow 0 104 1 (.slice As t.str.length c1) t.str.length (zAC t.str)∧w'.ownsRow 0 119 1 (.slice Am t.mag.length c2) t.mag.length (zBg t.mag)∧Pa C s w'∧w.grownBy w' none
def zNo (C:Pc) (s:Ps) (b:Bool) (w:World) (e:Ending) (w':World):Prop:=e=.returned b∧Pa C s w'∧w.grownBy w' none
def zY5 (C:Pc) (s:Ps) (b:Bool) (w:World) (e:Ending) (w':World):Prop:=e=.returned b∧Pa C s w'∧w.grownBy w' (some C.g)
def zYR (C:Pc) (s:Ps) (w:World) (e:Ending) (w':World):Prop:=e=.returned (.tuple #[])∧Pa C s w'∧w.grownBy w' (some C.g)
def zY6 (C:Pc) (r:jE×Ps) (w:World) (e:Ending) (w':World):Prop:=e=.returned r.1∧Pa C r.2 w'∧w.grownBy w' (some C.g)
def zDb (C:Pc) (r:Tr×Ps) (w:World) (e:Ending) (w':World):Prop:=
 ∃d0 d1 d2 d3 d4 d5 d6 d7 d8,e=.returned (.agg #[d0,d1,d2,d3,d4,d5,d6,d7,d8])∧TrC w' (w.heap.size≤·) r.1 [d0,d1,d2,d3,d4,d5,d6,d7,d8]∧Pa C r.2 w'∧w.grownBy w' (some C.g)
def LstQ (C:Pc) (r:Tr×Ps) (w:World) (e:Ending) (w':World):Prop:=
 ∃A n c,e=.returned (.slice A n c)∧r.1.subs.length=n∧n≤c∧c≤maxLen∧RowP w' (w.heap.size≤·) (.slice A n c) r.1.subs∧Pa C r.2 w'∧w.grownBy w' (some C.g)
theorem zAX (h:w.grownBy w' none) (r:Option Nat):w.grownBy w' r:=⟨h.os,h.tape,h.output,h.size,fun i hi _=>h.block i hi js⟩
theorem zCF {a:World} {R:Nat} (h:a.grownBy w r) (c:a.heap.size≤R) (hg:w.grownBy w' (some R)):a.grownBy w' r:=
 ⟨hg.os.trans h.os,hg.tape.trans h.tape,hg.output.trans h.output,yAD h.size hg.size,fun i hi b=>(hg.block i (yAA hi h.size) (fun e=>by injection e with e;omega)).trans (h.block i hi b)⟩
theorem zJk {a:World} (h:a.grownBy w r) (hv:∀b,v.ownBlock=some b→a.heap.size≤b) (hg:w.grownBy w' v.ownBlock):a.grownBy w' r:=
 ⟨hg.os.trans h.os,hg.tape.trans h.tape,hg.output.trans h.output,yAD h.size hg.size,fun i hi c=>(hg.block i (yAA hi h.size) (fun e=>by have:=hv i e.symm;omega)).trans (h.block i hi c)⟩
end
theorem Tryz.info_pnode:(prog.info? 61).map (fun i=>(i.zero,i.size,i.bytes))=some (some (.agg #[(0:Int),"",(),(0:Int),(0:Int),false,(),(),()]),9,144):=by kernel_rfl
end Go.Proofs.YtjlfhidpmdgloaaGreatDoor
