/- Joined for the claim ParseBlocks: the parser, the lexer and the trees as they are walked, made short by a program of mine. -/
import Derived.Test.YtlohaclgbfhijaaGreatDoorS04
import Derived.Test.YtlohaclgbfhijaaGreatDoorS01
import Derived.Deep.LoopGhost
import Derived.Deep.RegionLaw
import Derived.Laws.StandIn
import Derived.Lib.Bytealg
import Derived.Deep.CutBlock
import Derived.Deep.DeepCutAuto
set_option maxHeartbeats 16000000
set_option maxRecDepth 1000000
namespace Go.Proofs.YtlohaclgbfhijaaGreatDoor
open Go.Proofs.Tryz
open Go.RowKit
theorem Reads.spot {w:World} {B n:Nat} {A:Option Addr} {l:List UInt8} (h:Reads w B 1 A n (u8s l)) (h0:0 < l.length):
 ∃b off,A=some ⟨b,off,none⟩∧∀j,j < l.length→w.cell? ⟨b,off+j,none⟩=some (.int .u8 ((l.getD j 0).toNat:Int)):=by
 have hl:l.length=n:=by have:=h.1;simpa [u8s]using this
 obtain⟨ad,e,hb,hc⟩:=h.2 (by omega);have hs:ad.spot=none:=by
  have h1:=hc 0 (u8v l[0]) (by rw[u8s,List.getElem?_map,yAC h0];rfl);cases hsp:ad.spot with
  | none=>rfl
  | some s=>
   exfalso;simp only[Addr.add,if_true,World.cell?,hsp]at h1;split at h1
   · simp at h1
   · cases h1
 obtain⟨b,off,sp⟩:=ad;simp only at hs;subst hs;refine⟨b,off,e,fun j hj=>?_⟩;have h1:=hc j (u8v l[j]) (by rw[u8s,List.getElem?_map,yAC hj];rfl);rw[Addr.add_lit]at h1;rw[h1];simp[u8v,List.getD,hj]
theorem zFC {w:World} {B n c:Nat} {A:Option Addr} {l:List UInt8} (h:Reads w B 1 A n (u8s l)):
 (convert 51 9 (.slice A n c)).run prog w=.ok (.string ⟨l.toArray⟩) w:=by
 have hl:l.length=n:=by have:=h.1;simpa [u8s]using this
 rcases Nat.eq_zero_or_pos l.length with h0 | h0
 · have hx:l=[]:=List.eq_nil_of_length_eq_zero h0;subst hx;have hn:n=0:=hl.symm;subst hn;clear hl h;rw[run_convert_bytes_string w _ _ 5 A 0 c underlying51 underlying5 underlying9];cases A with
   | none=>rfl
   | some a=>exact run_bytesToString w a 0 c [] rfl
 · obtain⟨b,off,rfl,hc⟩:=h.spot h0;rw[run_convert_bytes_arg w _ 5 underlying51 underlying5 b off n c (l.map fun x=>(x.toNat:Int)) (by simpa using hl) (fun i hi=>by rw[hc i (by omega)];simp[List.getD,show i < l.length by omega]) _ underlying9];congr 3;simp only[strOfNums,List.map_map];congr 1;have e:((fun n:Int=>UInt8.ofNat n.toNat)∘fun x:UInt8=>(x.toNat:Int))=id:=by
    funext x;simp
   rw[e,List.map_id]
def zBy (u:List UInt16):Bool:=u.all fun x=>decide (x.toNat≤127)
def zFD (u:List UInt16):ByteArray:=if zBy u then⟨(u.map (·.toUInt8)).toArray⟩else .empty
theorem zRr {s t:ByteArray} {a b:Bool} (h:s=t) (h2:a=b):Ending.returned (.tuple #[.string s,.bool a])=.returned (.tuple #[.string t,.bool b]):=by rw[h,h2]
theorem zKK (u:List UInt16) (k:Nat) (h:k < u.length):u8s ((u.take (k+1)).map (·.toUInt8))=u8s ((u.take k).map (·.toUInt8))++[u8v u[k].toUInt8]:=by
 rw[yAM h,List.map_append,u8s,List.map_append];rfl
theorem zKL {x:UInt16} (h:x.toNat≤127):u8v x.toUInt8=.int .u8 (x.toNat:Int):=by
 unfold u8v;congr 1;simp;omega
theorem zMU {A:Option Addr} {c B:Nat} {xs:List UInt16} {w:World} (hB:B≤w.heap.size) (ha:Reads w B 1 A xs.length (zAM xs)) (hl:xs.length≤70368744177664):
 Calls prog 108 #[.slice A xs.length c] w fun e w'=>e=.returned (.tuple #[.string (zFD xs),.bool (zBy xs)])∧Below w.heap.size w w':=by
 obtain⟨i0,hi0,hz0,hz1,hz2⟩:=info_parts Tryz.info_u8;go_enter func108,ntmps108;go_wp2
 go_loopw [4,9] (fun v i wr=>∃k:Nat,k≤xs.length∧i=.int .i64 k∧Hid (zBy (xs.take k)=true)∧Made w wr 5 v (u8s ((xs.take k).map (·.toUInt8)))) (fun _ i _=>xs.length - (intOf i).toNat)
 case atStart=>exact⟨0,yAF _,rfl,rfl,Made.nil _ _⟩
 case round=>
  obtain⟨k,hk,rfl,hok,hm⟩:=hrel
  by_cases hlt:k < xs.length
  · obtain⟨ad,hA,_,hca⟩:=(ha.below (hm.below.mono hB)).u16 hlt;subst hA;have h3:(k:Int) < (xs.length:Int):=by omega
    have hlen:(u8s ((xs.take k).map (·.toUInt8))).length≤k:=by simp[u8s];omega
    have hx:=xs[k].toNat_lt
    by_cases hp:xs[k].toNat≤127
    · have HC:=zD (zKL hp);have HS:=zD (zKK xs k hlt);have HO:Hid (zBy (xs.take (k+1))=true):=by
       rw[yAM hlt,zBy,List.all_append];have:=hok.out;rw[zBy]at this;rw[this];simp[hp,Hid]
      go_wp2_with (at_builtin;refine zEH rfl _ _ 51 rfl 5 i0 _ 1 underlying51 hi0 hz0 hz1 hz2 rfl _ _ rfl hm _ 1 1 rfl rfl rfl (by omega) (by omega) ?_;intro v' w' hm')
      go_roundw
      case rel=>exact⟨k+1,by omega,by go_num,HO,hm'.cells (by rw[HS.out,HC.out])⟩
      case measure=>simp[intOf];omega
    · have HO:Hid (zBy xs=false):=List.all_eq_false.2 ⟨xs[k],List.getElem_mem _,by simpa using hp⟩;go_wp2
      go_ret2
      exact⟨zRr (by rw[zFD,HO.out];rfl) HO.out.symm,hm.below⟩
  · have hkk:xs.take k=xs:=List.take_of_length_le (by omega);rw[hkk]at hok hm;obtain⟨A',c',rfl,_,_,hr⟩:=hm.u8;rw[List.length_map]at hr⊢;have hs:=zFC (c:=c') hr;go_wp2
    go_ret2
    exact⟨zRr (by rw[zFD,hok.out];rfl) hok.out.symm,hm.below⟩
section
variable {P:Program} {w0 w:World} {g:Nat} {ops:Array Oper} {o:Oper} {a:Act} {K:Act→World→Prop} {Q:Exit→Act→World→Prop} {E:Prop}
theorem zHF (hgd:o.guard=none) (s x:Operand) (t:TypeId)
 (ho:o.op=.call {callee:=.builtin .append,args:=#[s,x],argTypes:=#[t,t]})
 (e:TypeId) (i:TypeInfo) (z:Value) (bytes:Nat) (ht:P.underlying t=some (.slice e)) (hi:P.info? e=some i) (hz:i.zero=some z)
 (hsize:i.size=1) (hby:i.bytes=bytes) (hzs:z.cells.size=1)
 (v:Value) (xs:List Value) (hs:a.eval s=v) (hm:MadeM w0 w g e v xs)
 (cs:List Value) (m c:Nat) (hx:a.eval x=.slice (some ⟨w.heap.size,0,none⟩) m c) (hl:cs.length=m) (h1:(cs.all fun u=>u.oneCell')=true)
 (hm0:0 < m) (hsz:xs.length+m≤70368744177664) (hb2:bytes≤2)
 (h:∀v' w',MadeM w0 w' g e v' (xs++cs)→w.grownBy w' v.ownBlock→K (a.put o.dst v') w'):
 if Region.wanted o (yielded ops a.tmps)=true then Oper.wp P o a (w.alloc (.cells cs.toArray e)) K Q else E:=by
 subst hl;refine step_append_lies (w.alloc (.cells cs.toArray e)) hgd s x t ho w0.heap.size e i z 1 bytes ht hi hz hsize hby hzs (by omega) v xs.length xs hs (hm.own.alloc _) ⟨w.heap.size,0,none⟩ _ c cs hx (by omega) ?_ (fun u hu=>List.all_eq_true.1 h1 u hu) hm0 (by unfold maxLen;omega) ?_ (yAE hm.grown.size (by simp)) _ rfl ?_
 · intro j u hu;rw[Addr.add_lit,World.cell?_alloc_at _ _ _ _ rfl];simpa using hu
 · calc (xs.length+cs.length)*bytes≤70368744177664*2:=Nat.mul_le_mul hsz hb2
    _≤140737488355328:=by omega
 · intro gg cap w' h1 h2 _ _;have hgr:w.grownBy w' v.ownBlock:=zE (zI w _ _) h2;refine h _ w' ⟨by rw[List.length_append];exact h1,⟨hgr.os.trans hm.grown.os,hgr.tape.trans hm.grown.tape,hgr.output.trans hm.grown.output,yAE hm.grown.size hgr.size,fun k hk hne=>?_⟩⟩ hgr;rw[hgr.block k (yAA hk hm.grown.size) (fun e=>by have:=(hm.own.lt k e.symm).1;omega)];exact hm.grown.block k hk hne
end
def AtRun (q:UInt16→Bool) (u:List UInt16) (k p:Nat) (bs:List UInt8):Prop:=∃i,p=k+i∧bs=asc ((u.drop k).take i)∧(u.drop k).takeWhile q=(u.drop k).take i++(u.drop p).takeWhile q∧bs.length=i
theorem AtRun.start (q:UInt16→Bool) (u:List UInt16) (k:Nat):AtRun q u k k []:=⟨0,rfl,rfl,by simp,rfl⟩
theorem AtRun.step {q:UInt16→Bool} {u:List UInt16} {k p:Nat} {bs:List UInt8} (h:AtRun q u k p bs) (hp:p < u.length) (h1:q u[p]=true):AtRun q u k (p+1) (bs++[u[p].toUInt8]):=by
 obtain⟨i,hi,hb,he,hl⟩:=h;have hik:i < (u.drop k).length:=by rw[List.length_drop];omega
 have hx:(u.drop k)[i]=u[p]:=by rw[List.getElem_drop];congr 1;omega
 have ht:(u.drop k).take (i+1)=(u.drop k).take i++[u[p]]:=by rw[yAM hik,hx]
 refine⟨i+1,by omega,?_,?_,by simp[hl]⟩
 · rw[ht,hb];simp[asc]
 · rw[he,ht,yAI hp,List.takeWhile_cons_of_pos h1,List.append_assoc];rfl
theorem AtRun.stop {q:UInt16→Bool} {u:List UInt16} {k p:Nat} {bs:List UInt8} (h:AtRun q u k p bs) (h1:zBF 0 q (u.drop p)=false):bs=asc ((u.drop k).takeWhile q)∧p=k+((u.drop k).takeWhile q).length:=by
 obtain⟨i,hi,hb,he,hl⟩:=h;have h0:(u.drop p).takeWhile q=[]:=by
  cases hd:u.drop p with
  | nil=>rfl
  | cons x r=>
   rw[hd]at h1;rw[List.takeWhile_cons_of_neg];intro h2;have:zBF 0 q (x::r)=q x:=rfl;rw[this,h2]at h1;cases h1
 rw[h0,List.append_nil]at he;have hl2:=congrArg List.length hb;rw[he];refine⟨hb,?_⟩;simp only[asc,List.length_map]at hl2;omega
theorem zJL (x:UInt16):u8v x.toUInt8=.int .u8 (IntKind.u8.wrap (x.toNat:Int)):=by
 unfold u8v;rw[IntKind.wrap_u8];congr 1
theorem zMV {u:List UInt16} {p:Nat} {q:UInt16→Bool} (h:p < u.length):zBF 0 q (u.drop p)=q u[p]:=by
 have:=zDD (u:=u) (k:=p) (j:=0) (p:=q) (by omega);simpa using this
theorem zHG {u:List UInt16} {p:Nat} {q:UInt16→Bool} (h:¬p < u.length):zBF 0 q (u.drop p)=false:=zCn (by omega)
theorem zKM {A:Option Addr} {c g B k n:Nat} {u:List UInt16} {w:World} (hr:Rd w g A n c k) (hn:u.length=n) (ha:Reads w B 1 A n (zAM u)) (hB:B≤g) (hk:k≤n) (hl:n≤4096) {l:List UInt16} (hq:(u.drop k).takeWhile zP=l):
 Calls prog 101 #[.pointer (some ⟨g,0,none⟩),.func (.func 68) #[] #[]] w fun e w'=>e=.returned (.string ⟨(asc l).toArray⟩)∧Mv w w' g A n c (k+l.length):=by
 subst hn;obtain⟨i0,hi0,hz0,hz1,hz2⟩:=info_parts Tryz.info_u8;have HQ:=zD hq;have HA:=zD ha;have hg:=hr.lt;have hM0:=zD (Mv.refl hr);clear hq ha hr;go_enter func101,ntmps101;go_wp2
 go_loopg [5] (u.length - k) (fun r v wr=>∃p bs,p+r=u.length∧Hid (Mv w wr g A u.length c p)∧Hid (AtRun zP u k p bs)∧MadeM w wr g 5 v (u8s bs))
 case atStart=>exact⟨k,[],by omega,hM0,AtRun.start _ _ _,MadeM.nil (World.grownBy.refl w _) _⟩
 case round=>
  obtain⟨p,bs,hpr,hM,hat,hm⟩:=hrel;have har:=zD (HA.out.grown hM.out.grown hB (Nat.le_of_lt hg));have hbl:bs.length≤p:=by obtain⟨i,hi,_,_,hl⟩:=hat.out;omega
  by_cases hlt:p < u.length
  · have hlt2:(p:Int) < (u.length:Int):=by omega
    cases hqx:zP u[p]with
    | true=>
     have HI:=zD (show zBF 0 zP (u.drop p)=true by rw[zMV hlt];exact hqx);have hsp:=zD (hat.out.step hlt hqx);go_wp2_with fail;refine(zAd (j:=0) hM.out.rd rfl har.out (by omega) hl (by omega) HI.out).mono ?_;rintro e1 w1 ⟨rfl,m1,hw1⟩;subst hw1;have hM1:=zD (hM.out.drewN m1);have hc0:=hM.out.rd.c0;have hc1:=hM.out.rd.c1;obtain⟨blk,off,rfl,_,hcell⟩:=har.out.spotL (by omega);have hca:=hcell p hlt;have hx:=u[p].toNat_lt;have hm0:=zD hm;have HC:=zD (show u8s [u[p].toUInt8]=[.int .u8 (IntKind.u8.wrap (u[p].toNat:Int))] by rw[u8s,List.map_cons,zJL];rfl);obtain⟨x,hxx⟩:∃x,u[p].toNat=x:=⟨_,rfl⟩;rw[hxx]at hca hx;rw[hxx]at HC;clear hcell hxx hm;go_wp2_with fail;go_region_law (first | (refine zHF rfl _ _ 51 rfl 5 i0 _ 1 underlying51 hi0 hz0 hz1 hz2 rfl _ _ rfl (hm0.out.go hg (zAB wr (some g) (m1+1))) [.int .u8 (IntKind.u8.wrap (x:Int))] 1 1 rfl rfl rfl (by omega) (by rw[zLp];omega) (by omega) ?_;intro v' w' hm' hgr))
     all_goals have hrd:=zD (Rd.appended (hM.out.rd.drewN (m1+1)) (hm0.out.go hg (zAB wr (some g) (m1+1))) hg hgr)
     all_goals have hc2:=hrd.out.c1
     all_goals have hf2:=hrd.out.f1
     all_goals go_wp2
     all_goals go_roundg (gk - 1)
     all_goals first
      | omega
      | exact⟨p+1,_,by omega,⟨hrd.out.setI (by omega),zE hm'.grown (zR w' g 1 _)⟩,hsp,(hm'.go hg (zR w' g 1 _)).cells (by rw[←HC.out];simp[u8s])⟩
    | false=>
     have HI:=zD (show zBF 0 zP (u.drop p)=false by rw[zMV hlt];exact hqx);have hst:=zD (hat.out.stop HI.out);go_wp2_with fail;refine(zAd (j:=0) hM.out.rd rfl har.out (by omega) hl (by omega) HI.out).mono ?_;rintro e1 w1 ⟨rfl,m1,hw1⟩;subst hw1;obtain⟨A',c',rfl,_,_,hr8⟩:=(hm.go hg (zAB wr (some g) m1)).u8;have hstr:=zFC (c:=c') hr8;go_wp2;go_ret;obtain⟨z1,z2⟩:=hst.out;rw[HQ.out]at z1 z2;exact⟨by rw[z1];rfl,by rw[←z2];exact hM.out.drewN m1⟩
  · have HI:=zD (show zBF 0 zP (u.drop p)=false from zHG hlt);have hst:=zD (hat.out.stop HI.out);go_wp2_with fail;refine(zAd (j:=0) hM.out.rd rfl har.out (by omega) hl (by omega) HI.out).mono ?_;rintro e1 w1 ⟨rfl,m1,hw1⟩;subst hw1;obtain⟨A',c',rfl,_,_,hr8⟩:=(hm.go hg (zAB wr (some g) m1)).u8;have hstr:=zFC (c:=c') hr8;go_wp2;go_ret;obtain⟨z1,z2⟩:=hst.out;rw[HQ.out]at z1 z2;exact⟨by rw[z1];rfl,by rw[←z2];exact hM.out.drewN m1⟩
theorem zPL {A:Option Addr} {c g B k n:Nat} {u:List UInt16} {w:World} (hr:Rd w g A n c k) (hn:u.length=n) (ha:Reads w B 1 A n (zAM u)) (hB:B≤g) (hk:k≤n) (hl:n≤4096) {l:List UInt16} (hq:(u.drop k).takeWhile zAw=l):
 Calls prog 101 #[.pointer (some ⟨g,0,none⟩),.func (.func 102) #[] #[]] w fun e w'=>e=.returned (.string ⟨(asc l).toArray⟩)∧Mv w w' g A n c (k+l.length):=by
 subst hn;obtain⟨i0,hi0,hz0,hz1,hz2⟩:=info_parts Tryz.info_u8;have HQ:=zD hq;have HA:=zD ha;have hg:=hr.lt;have hM0:=zD (Mv.refl hr);clear hq ha hr;go_enter func101,ntmps101;go_wp2
 go_loopg [5] (u.length - k) (fun r v wr=>∃p bs,p+r=u.length∧Hid (Mv w wr g A u.length c p)∧Hid (AtRun zAw u k p bs)∧MadeM w wr g 5 v (u8s bs))
 case atStart=>exact⟨k,[],by omega,hM0,AtRun.start _ _ _,MadeM.nil (World.grownBy.refl w _) _⟩
 case round=>
  obtain⟨p,bs,hpr,hM,hat,hm⟩:=hrel;have har:=zD (HA.out.grown hM.out.grown hB (Nat.le_of_lt hg));have hbl:bs.length≤p:=by obtain⟨i,hi,_,_,hl⟩:=hat.out;omega
  by_cases hlt:p < u.length
  · have hlt2:(p:Int) < (u.length:Int):=by omega
    cases hqx:zAw u[p]with
    | true=>
     have HI:=zD (show zBF 0 zAw (u.drop p)=true by rw[zMV hlt];exact hqx);have hsp:=zD (hat.out.step hlt hqx);go_wp2_with fail;refine(zII (j:=0) hM.out.rd rfl har.out (by omega) hl (by omega) HI.out).mono ?_;rintro e1 w1 ⟨rfl,m1,hw1⟩;subst hw1;have hM1:=zD (hM.out.drewN m1);have hc0:=hM.out.rd.c0;have hc1:=hM.out.rd.c1;obtain⟨blk,off,rfl,_,hcell⟩:=har.out.spotL (by omega);have hca:=hcell p hlt;have hx:=u[p].toNat_lt;have hm0:=zD hm;have HC:=zD (show u8s [u[p].toUInt8]=[.int .u8 (IntKind.u8.wrap (u[p].toNat:Int))] by rw[u8s,List.map_cons,zJL];rfl);obtain⟨x,hxx⟩:∃x,u[p].toNat=x:=⟨_,rfl⟩;rw[hxx]at hca hx;rw[hxx]at HC;clear hcell hxx hm;go_wp2_with fail;go_region_law (first | (refine zHF rfl _ _ 51 rfl 5 i0 _ 1 underlying51 hi0 hz0 hz1 hz2 rfl _ _ rfl (hm0.out.go hg (zAB wr (some g) (m1+1))) [.int .u8 (IntKind.u8.wrap (x:Int))] 1 1 rfl rfl rfl (by omega) (by rw[zLp];omega) (by omega) ?_;intro v' w' hm' hgr))
     all_goals have hrd:=zD (Rd.appended (hM.out.rd.drewN (m1+1)) (hm0.out.go hg (zAB wr (some g) (m1+1))) hg hgr)
     all_goals have hc2:=hrd.out.c1
     all_goals have hf2:=hrd.out.f1
     all_goals go_wp2
     all_goals go_roundg (gk - 1)
     all_goals first
      | omega
      | exact⟨p+1,_,by omega,⟨hrd.out.setI (by omega),zE hm'.grown (zR w' g 1 _)⟩,hsp,(hm'.go hg (zR w' g 1 _)).cells (by rw[←HC.out];simp[u8s])⟩
    | false=>
     have HI:=zD (show zBF 0 zAw (u.drop p)=false by rw[zMV hlt];exact hqx);have hst:=zD (hat.out.stop HI.out);go_wp2_with fail;refine(zII (j:=0) hM.out.rd rfl har.out (by omega) hl (by omega) HI.out).mono ?_;rintro e1 w1 ⟨rfl,m1,hw1⟩;subst hw1;obtain⟨A',c',rfl,_,_,hr8⟩:=(hm.go hg (zAB wr (some g) m1)).u8;have hstr:=zFC (c:=c') hr8;go_wp2;go_ret;obtain⟨z1,z2⟩:=hst.out;rw[HQ.out]at z1 z2;exact⟨by rw[z1];rfl,by rw[←z2];exact hM.out.drewN m1⟩
  · have HI:=zD (show zBF 0 zAw (u.drop p)=false from zHG hlt);have hst:=zD (hat.out.stop HI.out);go_wp2_with fail;refine(zII (j:=0) hM.out.rd rfl har.out (by omega) hl (by omega) HI.out).mono ?_;rintro e1 w1 ⟨rfl,m1,hw1⟩;subst hw1;obtain⟨A',c',rfl,_,_,hr8⟩:=(hm.go hg (zAB wr (some g) m1)).u8;have hstr:=zFC (c:=c') hr8;go_wp2;go_ret;obtain⟨z1,z2⟩:=hst.out;rw[HQ.out]at z1 z2;exact⟨by rw[z1];rfl,by rw[←z2];exact hM.out.drewN m1⟩
theorem zMW (s:ByteArray) (l:List UInt8):(s.toList==l)=decide (s.data.toList=l):=by
 rw[Bool.eq_iff_iff,decide_eq_true_eq,beq_iff_eq,ByteArray.toList_eq]
theorem zJM {s:ByteArray} {l:List UInt8} (h:s.data.toList=l):s=⟨l.toArray⟩:=by
 cases s with
 | mk d=>simp only at h;subst h;simp
theorem zY {s:ByteArray} {l:List (List UInt8)} (h:s.data.toList∉l) (x:List UInt8) (hx:x∈l):(s.toList==x)=false:=by
 rw[zMW];exact yAJ fun e=>h (e▸hx)
theorem zKN {s:ByteArray} (h1:s.data.toList∉zEK) (h2:s.data.toList∉zDO) (w:World):Calls prog 103 #[.string s] w fun e w'=>e=.returned (.int .i64 0)∧w=w':=by
 have f0_0:=zY h1 [98,114,101,97,107] (by decide);have f0_1:=zY h1 [99,97,116,99,104] (by decide);have f0_2:=zY h1 [99,111,110,115,116] (by decide);have f0_3:=zY h1 [99,111,110,116,105,110,117,101] (by decide);have f0_4:=zY h1 [101,108,115,101] (by decide);have f0_5:=zY h1 [102,97,108,115,101] (by decide);have f0_6:=zY h1 [102,105,110,97,108,108,121] (by decide);have f0_7:=zY h1 [102,111,114] (by decide);have f0_8:=zY h1 [102,117,110,99,116,105,111,110] (by decide);have f0_9:=zY h1 [105,102] (by decide);have f0_10:=zY h1 [105,110] (by decide);have f0_11:=zY h1 [108,101,116] (by decide);have f0_12:=zY h1 [110,101,119] (by decide);have f0_13:=zY h1 [110,117,108,108] (by decide);have f0_14:=zY h1 [114,101,116,117,114,110] (by decide);have f0_15:=zY h1 [116,104,105,115] (by decide);have f0_16:=zY h1 [116,104,114,111,119] (by decide);have f0_17:=zY h1 [116,114,117,101] (by decide);have f0_18:=zY h1 [116,114,121] (by decide);have f0_19:=zY h1 [116,121,112,101,111,102] (by decide);have f0_20:=zY h1 [118,111,105,100] (by decide);have f0_21:=zY h1 [119,104,105,108,101] (by decide);have f1_0:=zY h2 [97,114,103,117,109,101,110,116,115] (by decide);have f1_1:=zY h2 [97,115,121,110,99] (by decide);have f1_2:=zY h2 [97,119,97,105,116] (by decide);have f1_3:=zY h2 [99,97,115,101] (by decide);have f1_4:=zY h2 [99,108,97,115,115] (by decide);have f1_5:=zY h2 [100,101,98,117,103,103,101,114] (by decide);have f1_6:=zY h2 [100,101,102,97,117,108,116] (by decide);have f1_7:=zY h2 [100,101,108,101,116,101] (by decide);have f1_8:=zY h2 [100,111] (by decide);have f1_9:=zY h2 [101,110,117,109] (by decide);have f1_10:=zY h2 [101,118,97,108] (by decide);have f1_11:=zY h2 [101,120,112,111,114,116] (by decide);have f1_12:=zY h2 [101,120,116,101,110,100,115] (by decide);have f1_13:=zY h2 [105,109,112,108,101,109,101,110,116,115] (by decide);have f1_14:=zY h2 [105,109,112,111,114,116] (by decide);have f1_15:=zY h2 [105,110,115,116,97,110,99,101,111,102] (by decide);have f1_16:=zY h2 [105,110,116,101,114,102,97,99,101] (by decide);have f1_17:=zY h2 [112,97,99,107,97,103,101] (by decide);have f1_18:=zY h2 [112,114,105,118,97,116,101] (by decide);have f1_19:=zY h2 [112,114,111,116,101,99,116,101,100] (by decide);have f1_20:=zY h2 [112,117,98,108,105,99] (by decide);have f1_21:=zY h2 [115,116,97,116,105,99] (by decide);have f1_22:=zY h2 [115,117,112,101,114] (by decide);have f1_23:=zY h2 [115,119,105,116,99,104] (by decide);have f1_24:=zY h2 [118,97,114] (by decide);have f1_25:=zY h2 [119,105,116,104] (by decide);have f1_26:=zY h2 [121,105,101,108,100] (by decide);clear h1 h2;go_enter func103,ntmps103;go_wp2;go_ret;exact⟨rfl,rfl⟩
theorem zDF (s:ByteArray) (w:World):Calls prog 103 #[.string s] w fun e w'=>e=.returned (.int .i64 (zCG s.data.toList:Nat))∧w=w':=by
 by_cases h1:s.data.toList∈zEK
 · rw[show zCG s.data.toList=1 from if_pos h1];simp only[zEK,List.mem_cons,List.mem_nil_iff,or_false]at h1;rcases h1 with h | h | h | h | h | h | h | h | h | h | h | h | h | h | h | h | h | h | h | h | h | h
   all_goals
    rw[zJM h];clear h;go_enter func103,ntmps103;go_wp2;go_ret;exact⟨rfl,rfl⟩
 · by_cases h2:s.data.toList∈zDO
   · rw[show zCG s.data.toList=2 by unfold zCG;rw[if_neg h1,if_pos h2]];simp only[zDO,List.mem_cons,List.mem_nil_iff,or_false]at h2;rcases h2 with h | h | h | h | h | h | h | h | h | h | h | h | h | h | h | h | h | h | h | h | h | h | h | h | h | h | h
     all_goals
      rw[zJM h];clear h;go_enter func103,ntmps103;go_wp2;go_ret;exact⟨rfl,rfl⟩
   · rw[show zCG s.data.toList=0 by unfold zCG;rw[if_neg h1,if_neg h2]];exact zKN h1 h2 w
theorem zKO {s:ByteArray} (h1:s.data.toList∉zBv) (h2:s.data.toList∉zBl) (w:World):Calls prog 109 #[.string s] w fun e w'=>e=.returned (.int .i64 0)∧w=w':=by
 have f0_0:=zY h1 [123] (by decide);have f0_1:=zY h1 [125] (by decide);have f0_2:=zY h1 [40] (by decide);have f0_3:=zY h1 [41] (by decide);have f0_4:=zY h1 [91] (by decide);have f0_5:=zY h1 [93] (by decide);have f0_6:=zY h1 [59] (by decide);have f0_7:=zY h1 [44] (by decide);have f0_8:=zY h1 [46] (by decide);have f0_9:=zY h1 [63] (by decide);have f0_10:=zY h1 [58] (by decide);have f0_11:=zY h1 [126] (by decide);have f0_12:=zY h1 [60] (by decide);have f0_13:=zY h1 [62] (by decide);have f0_14:=zY h1 [60,61] (by decide);have f0_15:=zY h1 [62,61] (by decide);have f0_16:=zY h1 [61,61] (by decide);have f0_17:=zY h1 [33,61] (by decide);have f0_18:=zY h1 [61,61,61] (by decide);have f0_19:=zY h1 [33,61,61] (by decide);have f0_20:=zY h1 [43] (by decide);have f0_21:=zY h1 [45] (by decide);have f0_22:=zY h1 [42] (by decide);have f0_23:=zY h1 [47] (by decide);have f0_24:=zY h1 [37] (by decide);have f0_25:=zY h1 [38] (by decide);have f0_26:=zY h1 [124] (by decide);have f0_27:=zY h1 [94] (by decide);have f0_28:=zY h1 [33] (by decide);have f0_29:=zY h1 [38,38] (by decide);have f0_30:=zY h1 [124,124] (by decide);have f0_31:=zY h1 [63,63] (by decide);have f0_32:=zY h1 [61] (by decide);have f0_33:=zY h1 [43,61] (by decide);have f0_34:=zY h1 [45,61] (by decide);have f0_35:=zY h1 [42,61] (by decide);have f0_36:=zY h1 [47,61] (by decide);have f0_37:=zY h1 [37,61] (by decide);have f0_38:=zY h1 [38,61] (by decide);have f0_39:=zY h1 [124,61] (by decide);have f0_40:=zY h1 [94,61] (by decide);have f0_41:=zY h1 [60,60,61] (by decide);have f0_42:=zY h1 [62,62,61] (by decide);have f0_43:=zY h1 [62,62,62,61] (by decide);have f0_44:=zY h1 [43,43] (by decide);have f0_45:=zY h1 [45,45] (by decide);have f0_46:=zY h1 [60,60] (by decide);have f0_47:=zY h1 [62,62] (by decide);have f0_48:=zY h1 [62,62,62] (by decide);have f0_49:=zY h1 [61,62] (by decide);have f1_0:=zY h2 [46,46,46] (by decide);have f1_1:=zY h2 [63,46] (by decide);have f1_2:=zY h2 [42,42] (by decide);have f1_3:=zY h2 [42,42,61] (by decide);have f1_4:=zY h2 [38,38,61] (by decide);have f1_5:=zY h2 [124,124,61] (by decide);have f1_6:=zY h2 [63,63,61] (by decide);clear h1 h2;go_enter func109,ntmps109;go_wp2;go_ret;exact⟨rfl,rfl⟩
theorem zMX (s:ByteArray) (w:World):Calls prog 109 #[.string s] w fun e w'=>e=.returned (.int .i64 (zBY s.data.toList:Nat))∧w=w':=by
 by_cases h1:s.data.toList∈zBv
 · rw[show zBY s.data.toList=1 from if_pos h1];simp only[zBv,List.mem_cons,List.mem_nil_iff,or_false]at h1;rcases h1 with h | h | h | h | h | h | h | h | h | h | h | h | h | h | h | h | h | h | h | h | h | h | h | h | h | h | h | h | h | h | h | h | h | h | h | h | h | h | h | h | h | h | h | h | h | h | h | h | h | h
   all_goals
    rw[zJM h];clear h;go_enter func109,ntmps109;go_wp2;go_ret;exact⟨rfl,rfl⟩
 · by_cases h2:s.data.toList∈zBl
   · rw[show zBY s.data.toList=2 by unfold zBY;rw[if_neg h1,if_pos h2]];simp only[zBl,List.mem_cons,List.mem_nil_iff,or_false]at h2;rcases h2 with h | h | h | h | h | h | h
     all_goals
      rw[zJM h];clear h;go_enter func109,ntmps109;go_wp2;go_ret;exact⟨rfl,rfl⟩
   · rw[show zBY s.data.toList=0 by unfold zBY;rw[if_neg h1,if_neg h2]];exact zKO h1 h2 w
def Blk (w:World) (R:Nat) (cs:List Value):Prop:=R < w.heap.size∧∀j (h:j < cs.length),w.cell? ⟨R,j,none⟩=some cs[j]∧w.frozen? ⟨R,j,none⟩=false
def zBE:List Value:=[.int .i64 0,.string ⟨#[]⟩,.slice none 0 0,.int .i64 0,.int .i64 0,.bool false,.slice none 0 0,.int .i64 0,.bool false]
def noV:Value:=.agg #[.int .i64 0,.string ⟨#[]⟩,.slice none 0 0,.int .i64 0,.int .i64 0,.bool false,.slice none 0 0,.int .i64 0,.bool false]
theorem Blk.new (w:World) (cs:List Value) (T:TypeId):Blk (w.alloc (.cells cs.toArray T)) w.heap.size cs:=by
 refine⟨by simp,fun j h=>⟨?_,?_⟩⟩
 · rw[World.cell?_alloc_at _ _ _ _ rfl];simp[yAC h]
 · exact World.frozen?_alloc_at _ _ _ _ rfl
theorem Blk.grown {w w':World} {R g:Nat} {cs:List Value} (h:Blk w R cs) (hg:w.grownBy w' (some g)) (hne:R≠g):Blk w' R cs:=
 ⟨yAA h.1 hg.size,fun j hj=>⟨zBd hg (h.2 j hj).1 hne,(zC1 (p:=⟨R,j,none⟩) hg h.1 hne).trans (h.2 j hj).2⟩⟩
theorem Blk.below {w w':World} {R D:Nat} {cs:List Value} (h:Blk w R cs) (hb:Below D w w') (hR:R < D):Blk w' R cs:=
 ⟨yAA h.1 hb.size,fun j hj=>⟨(hb.cell (p:=⟨R,j,none⟩) hR).trans (h.2 j hj).1,(hb.frozen (p:=⟨R,j,none⟩) hR).trans (h.2 j hj).2⟩⟩
section
variable {w w0 w':World} {R:Nat} {cs:List Value} {v0 v1 v2 v3 v4 v5 v6 v7 v8:Value}
theorem zb (h:Blk w R cs) (hl:cs.length=9):
 (((((((((w.setCell ⟨R,0,none⟩ v0).setCell ⟨R,1,none⟩ v1).setCell ⟨R,2,none⟩ v2).setCell ⟨R,3,none⟩ v3).setCell ⟨R,4,none⟩ v4).setCell ⟨R,5,none⟩ v5).setCell ⟨R,6,none⟩ v6).setCell ⟨R,7,none⟩ v7).setCell ⟨R,8,none⟩ v8).cell? ⟨R,0,none⟩=some v0∧(((((((((w.setCell ⟨R,0,none⟩ v0).setCell ⟨R,1,none⟩ v1).setCell ⟨R,2,none⟩ v2).setCell ⟨R,3,none⟩ v3).setCell ⟨R,4,none⟩ v4).setCell ⟨R,5,none⟩ v5).setCell ⟨R,6,none⟩ v6).setCell ⟨R,7,none⟩ v7).setCell ⟨R,8,none⟩ v8).cell? ⟨R,1,none⟩=some v1∧(((((((((w.setCell ⟨R,0,none⟩ v0).setCell ⟨R,1,none⟩ v1).setCell ⟨R,2,none⟩ v2).setCell ⟨R,3,none⟩ v3).setCell ⟨R,4,none⟩ v4).setCell ⟨R,5,none⟩ v5).setCell ⟨R,6,none⟩ v6).setCell ⟨R,7,none⟩ v7).setCell ⟨R,8,none⟩ v8).cell? ⟨R,2,none⟩=some v2∧(((((((((w.setCell ⟨R,0,none⟩ v0).setCell ⟨R,1,none⟩ v1).setCell ⟨R,2,none⟩ v2).setCell ⟨R,3,none⟩ v3).setCell ⟨R,4,none⟩ v4).setCell ⟨R,5,none⟩ v5).setCell ⟨R,6,none⟩ v6).setCell ⟨R,7,none⟩ v7).setCell ⟨R,8,none⟩ v8).cell? ⟨R,3,none⟩=some v3∧(((((((((w.setCell ⟨R,0,none⟩ v0).setCell ⟨R,1,none⟩ v1).setCell ⟨R,2,none⟩ v2).setCell ⟨R,3,none⟩ v3).setCell ⟨R,4,none⟩ v4).setCell ⟨R,5,none⟩ v5).setCell ⟨R,6,none⟩ v6).setCell ⟨R,7,none⟩ v7).setCell ⟨R,8,none⟩ v8).cell? ⟨R,4,none⟩=some v4∧(((((((((w.setCell ⟨R,0,none⟩ v0).setCell ⟨R,1,none⟩ v1).setCell ⟨R,2,none⟩ v2).setCell ⟨R,3,none⟩ v3).setCell ⟨R,4,none⟩ v4).setCell ⟨R,5,none⟩ v5).setCell ⟨R,6,none⟩ v6).setCell ⟨R,7,none⟩ v7).setCell ⟨R,8,none⟩ v8).cell? ⟨R,5,none⟩=some v5∧(((((((((w.setCell ⟨R,0,none⟩ v0).setCell ⟨R,1,none⟩ v1).setCell ⟨R,2,none⟩ v2).setCell ⟨R,3,none⟩ v3).setCell ⟨R,4,none⟩ v4).setCell ⟨R,5,none⟩ v5).setCell ⟨R,6,none⟩ v6).setCell ⟨R,7,none⟩ v7).setCell ⟨R,8,none⟩ v8).cell? ⟨R,6,none⟩=some v6∧(((((((((w.setCell ⟨R,0,none⟩ v0).setCell ⟨R,1,none⟩ v1).setCell ⟨R,2,none⟩ v2).setCell ⟨R,3,none⟩ v3).setCell ⟨R,4,none⟩ v4).setCell ⟨R,5,none⟩ v5).setCell ⟨R,6,none⟩ v6).setCell ⟨R,7,none⟩ v7).setCell ⟨R,8,none⟩ v8).cell? ⟨R,7,none⟩=some v7∧(((((((((w.setCell ⟨R,0,none⟩ v0).setCell ⟨R,1,none⟩ v1).setCell ⟨R,2,none⟩ v2).setCell ⟨R,3,none⟩ v3).setCell ⟨R,4,none⟩ v4).setCell ⟨R,5,none⟩ v5).setCell ⟨R,6,none⟩ v6).setCell ⟨R,7,none⟩ v7).setCell ⟨R,8,none⟩ v8).cell? ⟨R,8,none⟩=some v8:=by
 obtain⟨c0,f0⟩:=h.2 0 (by omega);obtain⟨c1,f1⟩:=h.2 1 (by omega);obtain⟨c2,f2⟩:=h.2 2 (by omega);obtain⟨c3,f3⟩:=h.2 3 (by omega);obtain⟨c4,f4⟩:=h.2 4 (by omega);obtain⟨c5,f5⟩:=h.2 5 (by omega);obtain⟨c6,f6⟩:=h.2 6 (by omega);obtain⟨c7,f7⟩:=h.2 7 (by omega);obtain⟨c8,f8⟩:=h.2 8 (by omega);refine⟨?_,?_,?_,?_,?_,?_,?_,?_,?_⟩
 all_goals go_simp
theorem zBV:w.grownBy (((((((((w.setCell ⟨R,0,none⟩ v0).setCell ⟨R,1,none⟩ v1).setCell ⟨R,2,none⟩ v2).setCell ⟨R,3,none⟩ v3).setCell ⟨R,4,none⟩ v4).setCell ⟨R,5,none⟩ v5).setCell ⟨R,6,none⟩ v6).setCell ⟨R,7,none⟩ v7).setCell ⟨R,8,none⟩ v8) (some R):=
 zE (zE (zE (zE (zE (zE (zE (zE (zR w R 0 v0) (zR _ R 1 v1)) (zR _ R 2 v2)) (zR _ R 3 v3)) (zR _ R 4 v4)) (zR _ R 5 v5)) (zR _ R 6 v6)) (zR _ R 7 v7)) (zR _ R 8 v8)
theorem zy {g n c k:Nat} {A:Option Addr} (h:Mv w0 w g A n c k) (hR:w0.heap.size≤R) (hg:g < w0.heap.size):Mv w0 (((((((((w.setCell ⟨R,0,none⟩ v0).setCell ⟨R,1,none⟩ v1).setCell ⟨R,2,none⟩ v2).setCell ⟨R,3,none⟩ v3).setCell ⟨R,4,none⟩ v4).setCell ⟨R,5,none⟩ v5).setCell ⟨R,6,none⟩ v6).setCell ⟨R,7,none⟩ v7).setCell ⟨R,8,none⟩ v8) g A n c k:=by
 have hs:=zBV (w:=w) (R:=R) (v0:=v0) (v1:=v1) (v2:=v2) (v3:=v3) (v4:=v4) (v5:=v5) (v6:=v6) (v7:=v7) (v8:=v8);refine⟨⟨zBd hs h.rd.c0 (show g≠R by omega),zBd hs h.rd.c1 (show g≠R by omega),(zC1 (p:=⟨g,1,none⟩) hs h.rd.lt (show g≠R by omega)).trans h.rd.f1⟩,?_⟩;exact⟨hs.os.trans h.grown.os,hs.tape.trans h.grown.tape,hs.output.trans h.grown.output,yAE h.grown.size hs.size,fun i hi hne=>(hs.block i (yAA hi h.grown.size) (fun e=>by injection e with e;omega)).trans (h.grown.block i hi hne)⟩
theorem zAu {base e:TypeId} {n:Nat} {v:Value} {xs:List Value} (h:w.ownsRow base e 1 v n xs) (hb:R < base):(((((((((w.setCell ⟨R,0,none⟩ v0).setCell ⟨R,1,none⟩ v1).setCell ⟨R,2,none⟩ v2).setCell ⟨R,3,none⟩ v3).setCell ⟨R,4,none⟩ v4).setCell ⟨R,5,none⟩ v5).setCell ⟨R,6,none⟩ v6).setCell ⟨R,7,none⟩ v7).setCell ⟨R,8,none⟩ v8).ownsRow base e 1 v n xs:=zBo h zBV hb
end
def zTk (w:World) (base:Nat) (t:Tok) (v:Value):Prop:=
 ∃vs vm,v=.agg #[.int .i64 (t.kind:Int),.string ⟨t.text.toArray⟩,vs,.int .i64 t.nk,.int .i64 t.nn,.bool false,vm,.int .i64 (t.pos:Int),.bool t.nl]∧
  w.ownsRow base 24 1 vs t.str.length (zAM t.str)∧w.ownsRow base 87 1 vm t.mag.length (t.mag.map fun n:Nat=>Value.int .u32 (n:Int))
theorem zFE {a b m k:Nat} {t s:Tok} (h:((a,t,m):Ans)=(b,s,k)):a=b∧t=s∧m=k:=by
 simp only[Prod.mk.injEq]at h;exact h
theorem zBz {x e k:Nat} {s:Tok} (h:bad x=(e,s,k)):x=e∧zm=s∧0=k:=zFE h
theorem zKP {A:Option Addr} {c g B k n:Nat} {u:List UInt16} {w:World} (hr:Rd w g A n c k) (hn:u.length=n) (ha:Reads w B 1 A n (zAM u)) (hB:B≤g) (hk:k≤n) (hl:n≤4096) {m e:Nat} {t:Tok} (hq:zDg (u.drop k)=(e,t,m)):
 Calls prog 67 #[.pointer (some ⟨g,0,none⟩)] w fun ev w'=>∃v,ev=.returned (.tuple #[v,.int .i64 (e:Int)])∧(e≠0→v=noV)∧(e=0→zTk w' w.heap.size t v∧Mv w w' g A n c (k+m))∧w.grownBy w' (some g):=by
 subst hn;have hg:=hr.lt;obtain⟨l,hll⟩:∃l,(u.drop k).takeWhile zAw=l:=⟨_,rfl⟩;have hle:k+l.length≤u.length:=by
  have h1:=zBG zAw (u.drop k);rw[hll,List.length_drop]at h1;omega
 unfold zDg at hq;rw[hll,List.drop_drop]at hq;obtain⟨b,hb⟩:∃b,zg [92] (u.drop (k+l.length))=b:=⟨_,rfl⟩;rw[hb]at hq;have HL:=zD hll;have HB:=zD hb;have HQ:=zD hq;have HA:=zD ha;have hR:=zD (hr.alloc (.cells zBE.toArray 44));have hAl:=zD (ha.alloc (yAE hB (Nat.le_of_lt hg)) (.cells zBE.toArray 44));have hZ:=zD (Blk.new w zBE 44);have hG0:=zD (zI w (.cells zBE.toArray 44) (some g));clear hll hb hq ha hr;go_enter func67,ntmps67;go_wp2_with fail;refine(zPL hR.out rfl hAl.out hB hk hl HL.out).mono ?_;rintro e1 w1 ⟨rfl,hM1⟩;have hR1:=zD hM1.rd;have hG1:=zD (zE hG0.out hM1.grown);have hA1:=zD (HA.out.grown hG1.out hB (Nat.le_of_lt hg));have hZ1:=zD (hZ.out.grown hM1.grown (by omega));clear hM1;go_wp2_with fail;refine(zAe ⟨#[92]⟩ hR1.out rfl hA1.out hle hl (by decide) HB.out).mono ?_;rintro e2 w2 ⟨rfl,m2,hw2⟩;have hM2:=zD (show Mv w w2 g A u.length c (k+l.length) by rw[hw2];exact⟨hR1.out.drewN m2,zE hG1.out (zAB _ _ _)⟩);have hZ2:=zD (show Blk w2 w.heap.size zBE by rw[hw2];exact hZ1.out.grown (zAB w1 (some g) m2) (by omega));clear hw2 m2 hR1 hG1 hA1 hZ1 hR hAl hZ hG0;obtain⟨c0,f0⟩:=hZ2.out.2 0 (by decide);obtain⟨c1,f1⟩:=hZ2.out.2 1 (by decide);obtain⟨c2,f2⟩:=hZ2.out.2 2 (by decide);obtain⟨c3,f3⟩:=hZ2.out.2 3 (by decide);obtain⟨c4,f4⟩:=hZ2.out.2 4 (by decide);obtain⟨c5,f5⟩:=hZ2.out.2 5 (by decide);obtain⟨c6,f6⟩:=hZ2.out.2 6 (by decide);obtain⟨c7,f7⟩:=hZ2.out.2 7 (by decide);obtain⟨c8,f8⟩:=hZ2.out.2 8 (by decide);cases b with
 | true=>
  have hq:=HQ.out;rw[if_pos rfl]at hq;have HQ2:=zD hq;clear hq;go_wp2;obtain⟨q0,q1,q2,q3,q4,q5,q6,q7,q8⟩:=zb (v0:=.int .i64 0) (v1:=.string ⟨#[]⟩) (v2:=.slice none 0 0) (v3:=.int .i64 0) (v4:=.int .i64 0) (v5:=.bool false) (v6:=.slice none 0 0) (v7:=.int .i64 0) (v8:=.bool false) hZ2.out rfl;refine bodyPost_ret (v:=.tuple #[.agg #[.int .i64 0,.string ⟨#[]⟩,.slice none 0 0,.int .i64 0,.int .i64 0,.bool false,.slice none 0 0,.int .i64 0,.bool false],.int .i64 6]) (by simp[results,results67,go_sem,q0,q1,q2,q3,q4,q5,q6,q7,q8]) rfl ?_;obtain⟨z1,z2,z3⟩:=zBz HQ2.out;subst z1;exact⟨_,rfl,fun _=>rfl,fun h=>absurd h (by decide),(zy hM2.out (yAD _) hg).grown⟩
 | false=>
  have hq:=HQ.out;rw[if_neg (by simp)]at hq;have HQ2:=zD hq;clear hq
  by_cases hw:0 < zCG (asc l)
  · have hq:=HQ2.out;rw[if_pos hw]at hq;have HQ3:=zD hq;clear hq;go_wp2_with (go_at_call 103;refine(zDF _ _).mono ?_;rintro e3 w3 ⟨rfl,rfl⟩);obtain⟨q0,q1,q2,q3,q4,q5,q6,q7,q8⟩:=zb (v0:=.int .i64 6) (v1:=.string ⟨(asc l).toArray⟩) (v2:=.slice none 0 0) (v3:=.int .i64 0) (v4:=.int .i64 0) (v5:=.bool false) (v6:=.slice none 0 0) (v7:=.int .i64 0) (v8:=.bool false) hZ2.out rfl;refine bodyPost_ret (v:=.tuple #[.agg #[.int .i64 6,.string ⟨(asc l).toArray⟩,.slice none 0 0,.int .i64 0,.int .i64 0,.bool false,.slice none 0 0,.int .i64 0,.bool false],.int .i64 0]) (by simp[results,results67,go_sem,q0,q1,q2,q3,q4,q5,q6,q7,q8]) rfl ?_;obtain⟨z1,z2,z3⟩:=zFE HQ3.out;subst z1 z2 z3;exact⟨_,rfl,fun h=>absurd rfl h,fun _=>⟨⟨_,_,rfl,yAK _ _ _ _,yAK _ _ _ _⟩,zy hM2.out (yAD _) hg⟩,(zy hM2.out (yAD _) hg).grown⟩
  · have hq:=HQ2.out;rw[if_neg hw]at hq;have HQ3:=zD hq;clear hq;go_wp2_with (go_at_call 103;refine(zDF _ _).mono ?_;rintro e3 w3 ⟨rfl,rfl⟩);obtain⟨q0,q1,q2,q3,q4,q5,q6,q7,q8⟩:=zb (v0:=.int .i64 1) (v1:=.string ⟨(asc l).toArray⟩) (v2:=.slice none 0 0) (v3:=.int .i64 0) (v4:=.int .i64 0) (v5:=.bool false) (v6:=.slice none 0 0) (v7:=.int .i64 0) (v8:=.bool false) hZ2.out rfl;refine bodyPost_ret (v:=.tuple #[.agg #[.int .i64 1,.string ⟨(asc l).toArray⟩,.slice none 0 0,.int .i64 0,.int .i64 0,.bool false,.slice none 0 0,.int .i64 0,.bool false],.int .i64 0]) (by simp[results,results67,go_sem,q0,q1,q2,q3,q4,q5,q6,q7,q8]) rfl ?_;obtain⟨z1,z2,z3⟩:=zFE HQ3.out;subst z1 z2 z3;exact⟨_,rfl,fun h=>absurd rfl h,fun _=>⟨⟨_,_,rfl,yAK _ _ _ _,yAK _ _ _ _⟩,zy hM2.out (yAD _) hg⟩,(zy hM2.out (yAD _) hg).grown⟩
theorem zKQ (l r:List UInt16):∀v,zEa v (l++r)=zEa (zEa v l) r:=by
 induction l with
 | nil=>intro v;rfl
 | cons x l ih=>intro v;exact ih _
theorem zIJ (l:List UInt16) (x:UInt16):zEa 0 (l++[x])=16*zEa 0 l+zGw x:=by rw[zKQ];rfl
theorem zU2 {a b:Nat} (ha:a < 4096) (hb:b < 16):bits .or .u16 ((16*a:Nat):Int) (b:Int)=((16*a+b:Nat):Int):=by
 have e1:(BitVec.ofInt 16 ((16*a:Nat):Int)).toNat=16*a:=by rw[BitVec.ofInt_natCast,BitVec.toNat_ofNat];omega
 have e2:(BitVec.ofInt 16 (b:Int)).toNat=b:=by rw[BitVec.ofInt_natCast,BitVec.toNat_ofNat];omega
 show IntKind.u16.wrap ((BitVec.ofInt 16 ((16*a:Nat):Int) ||| BitVec.ofInt 16 (b:Int)).toNat:Int)=_;rw[BitVec.toNat_or,e1,e2,show 16*a=2^4*a from rfl,←Nat.two_pow_add_eq_or_of_lt (by omega:b < 2^4),IntKind.wrap_u16];omega
def AtCode (u:List UInt16) (k j v:Nat):Prop:=j≤(u.drop k).length∧v=zEa 0 ((u.drop k).take j)∧((u.drop k).take j).all zDs=true∧v < 16^j
theorem AtCode.step {u:List UInt16} {k j v:Nat} (h:AtCode u k j v) (hp:k+j < u.length) (hx:zDs u[k+j]=true):AtCode u k (j+1) (16*v+zGw u[k+j]):=by
 obtain⟨h1,h2,h3,h4⟩:=h;have hjl:j < (u.drop k).length:=by rw[List.length_drop];omega
 have ht:(u.drop k).take (j+1)=(u.drop k).take j++[u[k+j]]:=by rw[yAM hjl,List.getElem_drop]
 have h16:zGw u[k+j] < 16:=of_decide_eq_true hx;refine⟨by omega,by rw[ht,zIJ,h2],by rw[ht,List.all_append,h3];simp[hx],?_⟩;rw[Nat.pow_succ];omega
theorem AtCode.stepQ {u:List UInt16} {k j v p:Nat} (h:AtCode u k j v) (e:p=k+j) (hp:p < u.length) (hx:zDs u[p]=true):AtCode u k (j+1) (16*v+zGw u[p]):=by
 subst e;exact h.step hp hx
theorem AtCode.done {u:List UInt16} {k j v:Nat} (h:AtCode u k j v):zB8 j (u.drop k)=(0,UInt16.ofNat v,j):=by
 obtain⟨h1,h2,h3,_⟩:=h;unfold zB8;rw[if_pos (by rw[h3,decide_eq_true h1];rfl),h2]
theorem AtCode.bad {u:List UInt16} {k j v cnt:Nat} (_h:AtCode u k j v) (hj:j < cnt) (hx:zBF 0 zDs (u.drop (k+j))=false):zB8 cnt (u.drop k)=(5,0,0):=by
 unfold zB8;rw[if_neg];intro hc;simp only[Bool.and_eq_true,decide_eq_true_eq]at hc;obtain⟨c1,c2⟩:=hc;rw[List.length_drop]at c1;have hp:k+j < u.length:=by omega
 have hm:u[k+j]∈(u.drop k).take cnt:=by
  rw[List.mem_iff_getElem?];exact⟨j,by rw[List.getElem?_take,if_pos hj,List.getElem?_drop,yAC hp]⟩
 have h4:=List.all_eq_true.1 c2 _ hm;have h5:=zDD (u:=u) (k:=k+j) (j:=0) (p:=zDs) (by omega);rw[h5]at hx;simp only[Nat.add_zero]at hx;rw[h4]at hx;cases hx
theorem zHH {A:Option Addr} {c g B k n cnt:Nat} {u:List UInt16} {w:World} (hr:Rd w g A n c k) (hn:u.length=n) (ha:Reads w B 1 A n (zAM u)) (hB:B≤g) (hk:k≤n) (hl:n≤4096) (hcnt:cnt≤4) {m e:Nat} {y:UInt16} (hq:zB8 cnt (u.drop k)=(e,y,m)):
 Calls prog 160 #[.pointer (some ⟨g,0,none⟩),.int .i64 (cnt:Int)] w fun ev w'=>ev=.returned (.tuple #[.int .u16 (y.toNat:Int),.int .i64 (e:Int)])∧(e=0→Mv w w' g A n c (k+m))∧w.grownBy w' (some g):=by
 subst hn;have HQ:=zD hq;have HA:=zD ha;have hg:=hr.lt;have hM0:=zD (Mv.refl hr);clear hq ha hr;go_enter func160,ntmps160;go_wp2
 go_loopg [6,8] cnt (fun r v i wr=>∃j vn p,j+r=cnt∧i=.int .i64 (j:Nat)∧v=.int .u16 (vn:Nat)∧vn < 65536∧Hid (p=k+j)∧Hid (Mv w wr g A u.length c p)∧Hid (AtCode u k j vn))
 case atStart=>exact⟨0,0,k,by omega,rfl,rfl,by omega,rfl,hM0,yAF _,rfl,rfl,by decide⟩
 case round=>
  obtain⟨j,v,p,hjr,rfl,rfl,hv,hpj,hM,hat⟩:=hrel;have har:=zD (HA.out.grown hM.out.grown hB (Nat.le_of_lt hg));have hjk:p≤u.length:=by have:=hat.out.1;have:=hpj.out;rw[List.length_drop]at *;omega
  by_cases hlt:j < cnt
  · cases hqx:zBF 0 zDs (u.drop p)with
    | true=>
     have hp:p < u.length:=by
      rcases Nat.lt_or_ge p u.length with h | h
      · exact h
      · rw[zCn (u:=u) (k:=p) (j:=0) (p:=zDs) (by omega)]at hqx;cases hqx
     have hxx:zDs u[p]=true:=by
      have h5:=zDD (u:=u) (k:=p) (j:=0) (p:=zDs) (by omega);rw[h5]at hqx;simpa using hqx
     have hsp:=zD (hat.out.stepQ hpj.out hp hxx);have h16:zGw u[p] < 16:=of_decide_eq_true hxx;have hv4:v < 4096:=by
      have:=hat.out.2.2.2;have h2:16^j≤16^3:=Nat.pow_le_pow_right (by omega) (by omega);omega
     have HI:=zD hqx;clear hqx hxx;go_wp2_with fail;refine(zMT (j:=0) hM.out.rd rfl har.out hjk hl (by omega) HI.out).mono ?_;rintro e1 w1 ⟨rfl,m1,hw1⟩;have hM1:=zD (show Mv w w1 g A u.length c p by rw[hw1];exact hM.out.drewN m1);have har1:=zD (show Reads w1 B 1 A u.length (zAM u) by rw[hw1];exact har.out.drewN m1);clear hw1;have hc0:=hM1.out.rd.c0;have hc1:=hM1.out.rd.c1;have hf1:=hM1.out.rd.f1;obtain⟨blk,off,rfl,_,hcell⟩:=har1.out.spotL (by omega);have hca:=hcell p hp;have hin:(p:Int) < (u.length:Int):=by omega
     obtain⟨x,hxx⟩:∃x,u[p]=x:=⟨_,rfl⟩;rw[hxx]at hca hsp h16;have HH:=zD (zU2 hv4 h16);clear hcell hxx;go_wp2_with fail
     go_quiet (first | (go_at_call 192;refine Calls.quiet_of_same ((zJK _ _).mono fun _ _ h=>zDE h)))
     go_wp2
     go_roundg (gk - 1)
     case measure=>omega
     case rel=>
      refine⟨j+1,16*v+zGw x,p+1,by omega,by go_num,congrArg (Value.int .u16) (by rw[show(v:Int)*16=((16*v:Nat):Int) by omega];exact HH.out),by omega,?_,?_,hsp.out⟩
      · have:=hpj.out;exact zD (by omega)
      · exact Mv.step (hM1.out.drewN _) (by omega)
    | false=>
     have HI:=zD hqx;have hbad:=zD (hat.out.bad hlt (by rw[←hpj.out];exact hqx));clear hqx;go_wp2_with fail;refine(zMT (j:=0) hM.out.rd rfl har.out hjk hl (by omega) HI.out).mono ?_;rintro e1 w1 ⟨rfl,m1,hw1⟩;subst hw1;go_wp2
     go_ret2
     have hz:=hbad.out;rw[HQ.out]at hz;simp only[Prod.mk.injEq]at hz;obtain⟨z1,z2,z3⟩:=hz;subst z1 z2 z3;exact⟨rfl,fun h=>absurd h (by decide),(hM.out.drewN m1).grown⟩
  · obtain rfl:j=cnt:=by omega
    have hdn:=zD hat.out.done;go_wp2
    go_ret2
    have hz:=hdn.out;rw[HQ.out]at hz;simp only[Prod.mk.injEq]at hz;obtain⟨z1,z2,z3⟩:=hz;subst z1 z2 z3;refine⟨?_,fun _=>by rw[←hpj.out];exact hM.out,hM.out.grown⟩;have:(UInt16.ofNat v).toNat=v:=by simp;omega
    rw[this];rfl
theorem zFl (s:ByteArray) (c:Int) (w:World):
 (callFunc 199 #[.string s,.int .u8 c]).run prog w=.ok (.value (.int .i64 (Lib.indexByte s.data.toList c.toNat.toUInt8))) w:=by
 rw[run_callFunc_indexByte func199 (by kernel_rfl) (by kernel_rfl) (by kernel_rfl) (by kernel_rfl),Lib.run_indexByteString];rfl
theorem zFF (s:ByteArray) (c:Int) (w:World):Calls prog 190 #[.string s,.int .u8 c] w fun e w'=>e=.returned (.int .i64 (Lib.indexByte s.data.toList c.toNat.toUInt8))∧w=w':=by
 have hx:=zFl s c;go_enter func190,ntmps190;go_wp2;go_ret;exact⟨rfl,rfl⟩
theorem zDd (s:ByteArray) (c:Int) (w:World) {i:Int} (hi:Lib.indexByte s.data.toList c.toNat.toUInt8=i):Calls prog 159 #[.string s,.int .u8 c] w fun e w'=>e=.returned (.int .i64 i)∧w=w':=by
 subst hi;go_enter func159,ntmps159;go_wp2_with (go_at_call 190;refine(zFF _ _ _).mono ?_;rintro e w' ⟨rfl,rfl⟩);go_ret;exact⟨rfl,rfl⟩
def zRs (x:UInt16):Int:=Lib.indexByte [110,116,114,98,118,102] (IntKind.u8.wrap (x.toNat:Int)).toNat.toUInt8
theorem zMY {x:UInt16} (h:x.toNat < 128) (hs:zB9 x=none):zRs x= -1:=by
 have e:(IntKind.u8.wrap (x.toNat:Int)).toNat=x.toNat:=by rw[IntKind.wrap_u8];omega
 unfold zRs;rw[e];have hne:∀k:UInt16,k∈([110,116,114,98,118,102]:List UInt16)→x≠k:=by
  intro k hk he;subst he;revert hs;simp only[List.mem_cons,List.mem_nil_iff,or_false]at hk;rcases hk with rfl | rfl | rfl | rfl | rfl | rfl<;>decide
 have hb:∀k:UInt16,k∈([110,116,114,98,118,102]:List UInt16)→(k.toNat.toUInt8==x.toNat.toUInt8)=false:=by
  intro k hk;have h1:=hne k hk;rw[yA];intro h2;apply h1;refine UInt16.toNat_inj.1 ?_;have h3:=congrArg UInt8.toNat h2;have h4:k.toNat < 128:=by
   simp only[List.mem_cons,List.mem_nil_iff,or_false]at hk;rcases hk with rfl | rfl | rfl | rfl | rfl | rfl<;>decide
  simp at h3;omega
 have b1:=hb 110 (by simp);have b2:=hb 116 (by simp);have b3:=hb 114 (by simp);have b4:=hb 98 (by simp);have b5:=hb 118 (by simp);have b6:=hb 102 (by simp);have c1:((110:UInt8)==x.toNat.toUInt8)=false:=b1;have c2:((116:UInt8)==x.toNat.toUInt8)=false:=b2;have c3:((114:UInt8)==x.toNat.toUInt8)=false:=b3;have c4:((98:UInt8)==x.toNat.toUInt8)=false:=b4;have c5:((118:UInt8)==x.toNat.toUInt8)=false:=b5;have c6:((102:UInt8)==x.toNat.toUInt8)=false:=b6;generalize x.toNat.toUInt8=z at c1 c2 c3 c4 c5 c6⊢;simp only[Lib.indexByte,c1,c2,c3,c4,c5,c6,Bool.false_eq_true,if_false];rfl
theorem zHI {x y:UInt16} (h:zB9 x=some y):(x=110∧y=10)∨(x=116∧y=9)∨(x=114∧y=13)∨(x=98∧y=8)∨(x=118∧y=11)∨(x=102∧y=12):=by
 unfold zB9 at h
 repeat' split at h
 all_goals simp_all
theorem zSZ {u:List UInt16} {k:Nat} (h:k < u.length):zDb (u.drop k)=if(zB9 u[k]).isSome=true then(0,(zB9 u[k]).getD 0,1)else zR2 u[k] (u.drop (k+1)):=by
 rw[yAI h];rfl
theorem zMZ (p:Nat×UInt16×Nat):(more 1 p).1=p.1∧(more 1 p).2.1=p.2.1∧(p.1=0→(more 1 p).2.2=1+p.2.2):=by
 unfold more;split
 · rename_i h;exact⟨h.symm,rfl,fun _=>rfl⟩
 · rename_i h;exact⟨rfl,rfl,fun h2=>absurd h2 h⟩
theorem zFG {a b c:Nat} {x y:UInt16} {d:Nat} (h:(a,x,b)=(c,y,d)):a=c∧x=y∧b=d:=by
 simp only[Prod.mk.injEq]at h;exact h
theorem zJN {w wc w3:World} {g n c k e e1 m m1:Nat} {A:Option Addr} {y y1:UInt16} (h:more 1 (e1,y1,m1)=(e,y,m)) (hM:e1=0→Mv wc w3 g A n c (k+1+m1)) (hG:wc.grownBy w3 (some g)) (hw:w.grownBy wc (some g)):
 Ending.returned (.tuple #[.int .u16 (y1.toNat:Int),.int .i64 (e1:Int)])=.returned (.tuple #[.int .u16 (y.toNat:Int),.int .i64 (e:Int)])∧(e=0→Mv w w3 g A n c (k+m))∧w.grownBy w3 (some g):=by
 obtain⟨q1,q2,q3⟩:=zMZ (e1,y1,m1);rw[h]at q1 q2 q3;simp only at q1 q2 q3;subst q1 q2;refine⟨rfl,fun he=>?_,zE hw hG⟩;have:=q3 he;have hm:=hM he;rw[show k+m=k+1+m1 by omega];exact⟨hm.rd,zE hw hm.grown⟩
theorem zFH {A:Option Addr} {c g B k n:Nat} {u:List UInt16} {w:World} (hr:Rd w g A n c k) (hn:u.length=n) (ha:Reads w B 1 A n (zAM u)) (hB:B≤g) (hk:k≤n) (hl:n≤4096) {m e:Nat} {y:UInt16} (hq:zDb (u.drop k)=(e,y,m)):
 Calls prog 107 #[.pointer (some ⟨g,0,none⟩)] w fun ev w'=>ev=.returned (.tuple #[.int .u16 (y.toNat:Int),.int .i64 (e:Int)])∧(e=0→Mv w w' g A n c (k+m))∧w.grownBy w' (some g):=by
 subst hn;have hg:=hr.lt;have hc0:=hr.c0;have hc1:=hr.c1;have hf1:=hr.f1
 by_cases hlt:k < u.length
 · rw[zSZ hlt]at hq;have hM0:=zD (Mv.refl hr);have HA:=zD ha;obtain⟨blk,off,rfl,_,hcell⟩:=ha.spotL (by omega);have hca:=hcell k hlt;have hx:=u[k].toNat_lt;obtain⟨x,hxx⟩:∃x,u[k]=x:=⟨_,rfl⟩;rw[hxx]at hca hq hx;have hlt2:(k:Int) < (u.length:Int):=by omega
   have hne:((k:Int)==(u.length:Int))=false:=yA.2 (by omega);have HQ:=zD hq;clear hcell hxx hq ha hr;cases hs:zB9 x with
   | some z=>
    have hq:=HQ.out;rw[hs]at hq;simp only[Option.isSome_some,if_true,Option.getD_some,Prod.mk.injEq]at hq;obtain⟨q1,q2,q3⟩:=hq;have HE:=zD q1;have HY:=zD q2;have HM:=zD q3;clear q1 q2 q3 HQ;rcases zHI hs with⟨rfl,rfl⟩ | ⟨rfl,rfl⟩ | ⟨rfl,rfl⟩ | ⟨rfl,rfl⟩ | ⟨rfl,rfl⟩ | ⟨rfl,rfl⟩
    all_goals clear hs
    all_goals
     go_enter func107,ntmps107;go_wp2_with fail
     go_quiet (fail)
     go_wp2_with fail
     go_quiet (fail)
     go_wp2_with (go_at_call 159;refine(zDd _ _ _ (by rfl)).mono ?_;rintro e1 w1 ⟨rfl,rfl⟩)
     go_ret2
     obtain rfl:=HY.out;obtain rfl:=HE.out;exact⟨rfl,fun _=>by rw[←HM.out];exact(Mv.step (hM0.out.drewN _) (by omega)).below ((Below.refl _ _).alloc (yAD _) _),((Mv.step (hM0.out.drewN _) (k':=k+1) (by omega)).below ((Below.refl _ _).alloc (yAD _) _)).grown⟩
   | none=>
    have HR:=zD (show zR2 x (u.drop (k+1))=(e,y,m) by have h:=HQ.out;rw[hs]at h;simpa using h);obtain⟨i,hi⟩:∃i,Lib.indexByte (⟨#[110,116,114,98,118,102]⟩:ByteArray).data.toList (IntKind.u8.wrap (x.toNat:Int)).toNat.toUInt8=i:=⟨_,rfl⟩;have HI:=zD hi;have hi1:x.toNat < 128→i= -1:=fun h=>by rw[←hi];exact zMY h hs
    have HI1:=zD hi1;clear hi hi1 hs HQ;go_enter func107,ntmps107;go_wp2_with fail
    go_quiet (fail)
    go_wp2_with fail
    go_quiet (fail)
    go_upto_region 6 with(go_at_call 159;refine(zDd _ _ _ HI.out).mono ?_;rintro e1 w1 ⟨rfl,rfl⟩)
    go_cut [41] (fun v wx=>v=.bool false∧Hid (Mv w wx g (some ⟨blk,off,none⟩) u.length c (k+1)))
    case first=>
     by_cases hx8:x.toNat < 128
     · obtain rfl:=HI1.out hx8;go_wp2_with fail;go_meet;exact⟨rfl,Mv.step (hM0.out.drewN _) (by omega)⟩
     · have hx9:¬(x.toNat:Int) < 128:=by omega
       go_wp2_with fail;go_meet;exact⟨rfl,Mv.step (hM0.out.drewN _) (by omega)⟩
    case rest=>
     obtain⟨hv,hM⟩:=hcut;subst hv;clear hc0 hc1 hf1 hca hne HI HI1 hM0;have har:=zD (HA.out.grown hM.out.grown hB (Nat.le_of_lt hg));have hk1:k+1≤u.length:=hlt;have hR:=HR.out;unfold zR2 at hR;obtain⟨d,hd⟩:∃d,zBF 0 zP (u.drop (k+1))=d:=⟨_,rfl⟩;obtain⟨b,hb⟩:∃d,zg [123] (u.drop (k+1))=d:=⟨_,rfl⟩;rw[hd,hb]at hR;have HD:=zD hd;have HB:=zD hb;clear hd hb HR
     by_cases h48:x.toNat=48
     · have e48:((x.toNat:Int)==48)=true:=by rw[h48];rfl
       have hdg:zP x=true:=zBQ.2 (by omega);rw[h48]at hR;cases d with
       | false=>
        have HZ:=zD (show(0,(0:UInt16),1)=(e,y,m) by simpa using hR);clear hR h48;go_wp2_with (first | (go_at_call 71;refine(zAd (j:=0) hM.out.rd rfl har.out hk1 hl (by omega) HD.out).mono ?_;rintro e2 w2 ⟨rfl,m2,hw2⟩;subst hw2) | (go_at_call 68;refine(zAA _ _).mono ?_;rintro e2 w2 ⟨rfl,rfl⟩) | (go_at_call 63;refine(zAJ _ _).mono ?_;rintro e2 w2 ⟨rfl,rfl⟩) | (go_at_call 100;refine(zAx _ _).mono ?_;rintro e2 w2 ⟨rfl,rfl⟩))
        go_ret2
        obtain⟨z1,z2,z3⟩:=zFG HZ.out;subst z1 z2 z3;exact⟨rfl,fun _=>hM.out.drewN _,(hM.out.drewN _).grown⟩
       | true=>
        have HZ:=zD (show(5,(0:UInt16),0)=(e,y,m) by rw[hdg]at hR;simpa using hR);clear hR h48;go_wp2_with (first | (go_at_call 71;refine(zAd (j:=0) hM.out.rd rfl har.out hk1 hl (by omega) HD.out).mono ?_;rintro e2 w2 ⟨rfl,m2,hw2⟩;subst hw2) | (go_at_call 68;refine(zAA _ _).mono ?_;rintro e2 w2 ⟨rfl,rfl⟩) | (go_at_call 63;refine(zAJ _ _).mono ?_;rintro e2 w2 ⟨rfl,rfl⟩) | (go_at_call 100;refine(zAx _ _).mono ?_;rintro e2 w2 ⟨rfl,rfl⟩))
        go_ret2
        obtain⟨z1,z2,z3⟩:=zFG HZ.out;subst z1 z2 z3;exact⟨rfl,fun h=>absurd h (by decide),(hM.out.drewN _).grown⟩
     have e48:((x.toNat:Int)==48)=false:=yA.2 (by omega);rw[show(x.toNat==48)=false from yA.2 h48]at hR;simp only[Bool.false_and,Bool.false_eq_true,if_false]at hR;clear h48;cases hdg:zP x with
     | true=>
      rw[hdg,if_pos rfl]at hR;have HZ:=zD hR;clear hR;go_wp2_with (first | (go_at_call 71;refine(zAd (j:=0) hM.out.rd rfl har.out hk1 hl (by omega) HD.out).mono ?_;rintro e2 w2 ⟨rfl,m2,hw2⟩;subst hw2) | (go_at_call 68;refine(zAA _ _).mono ?_;rintro e2 w2 ⟨rfl,rfl⟩) | (go_at_call 63;refine(zAJ _ _).mono ?_;rintro e2 w2 ⟨rfl,rfl⟩) | (go_at_call 100;refine(zAx _ _).mono ?_;rintro e2 w2 ⟨rfl,rfl⟩))
      go_ret2
      obtain⟨z1,z2,z3⟩:=zFG HZ.out;subst z1 z2 z3;exact⟨rfl,fun h=>absurd h (by decide),hM.out.grown⟩
     | false=>
      rw[hdg]at hR;simp only[Bool.false_eq_true,if_false]at hR;cases hln:zw x with
      | true=>
       rw[hln]at hR;have HZ:=zD (show(6,(0:UInt16),0)=(e,y,m) by simpa using hR);clear hR;go_wp2_with (first | (go_at_call 71;refine(zAd (j:=0) hM.out.rd rfl har.out hk1 hl (by omega) HD.out).mono ?_;rintro e2 w2 ⟨rfl,m2,hw2⟩;subst hw2) | (go_at_call 68;refine(zAA _ _).mono ?_;rintro e2 w2 ⟨rfl,rfl⟩) | (go_at_call 63;refine(zAJ _ _).mono ?_;rintro e2 w2 ⟨rfl,rfl⟩) | (go_at_call 100;refine(zAx _ _).mono ?_;rintro e2 w2 ⟨rfl,rfl⟩))
       go_ret2
       obtain⟨z1,z2,z3⟩:=zFG HZ.out;subst z1 z2 z3;exact⟨rfl,fun h=>absurd h (by decide),hM.out.grown⟩
      | false=>
       rw[hln]at hR;cases hfr:zGP x with
       | true=>
        rw[hfr]at hR;have HZ:=zD (show(6,(0:UInt16),0)=(e,y,m) by simpa using hR);clear hR;go_wp2_with (first | (go_at_call 71;refine(zAd (j:=0) hM.out.rd rfl har.out hk1 hl (by omega) HD.out).mono ?_;rintro e2 w2 ⟨rfl,m2,hw2⟩;subst hw2) | (go_at_call 68;refine(zAA _ _).mono ?_;rintro e2 w2 ⟨rfl,rfl⟩) | (go_at_call 63;refine(zAJ _ _).mono ?_;rintro e2 w2 ⟨rfl,rfl⟩) | (go_at_call 100;refine(zAx _ _).mono ?_;rintro e2 w2 ⟨rfl,rfl⟩))
        go_ret2
        obtain⟨z1,z2,z3⟩:=zFG HZ.out;subst z1 z2 z3;exact⟨rfl,fun h=>absurd h (by decide),hM.out.grown⟩
       | false=>
        rw[hfr]at hR
        by_cases h117:x.toNat=117
        · have e117:((x.toNat:Int)==117)=true:=by rw[h117];rfl
          have e120:((x.toNat:Int)==120)=false:=by rw[h117];rfl
          rw[h117]at hR;clear h117;cases b with
          | true=>
           have HZ:=zD (show(6,(0:UInt16),0)=(e,y,m) by simpa using hR);clear hR;go_wp2_with (first | (go_at_call 71;refine(zAd (j:=0) hM.out.rd rfl har.out hk1 hl (by omega) HD.out).mono ?_;rintro e2 w2 ⟨rfl,m2,hw2⟩;subst hw2) | (go_at_call 68;refine(zAA _ _).mono ?_;rintro e2 w2 ⟨rfl,rfl⟩) | (go_at_call 63;refine(zAJ _ _).mono ?_;rintro e2 w2 ⟨rfl,rfl⟩) | (go_at_call 100;refine(zAx _ _).mono ?_;rintro e2 w2 ⟨rfl,rfl⟩) | (go_at_call 64;refine(zAe ⟨#[123]⟩ hM.out.rd rfl har.out hk1 hl (by decide) HB.out).mono ?_;rintro e2 w2 ⟨rfl,m2,hw2⟩;subst hw2))
           go_ret2
           obtain⟨z1,z2,z3⟩:=zFG HZ.out;subst z1 z2 z3;exact⟨rfl,fun h=>absurd h (by decide),(hM.out.drewN _).grown⟩
          | false=>
           have hR2:more 1 (zB8 4 (u.drop (k+1)))=(e,y,m):=by simpa using hR
           obtain⟨⟨e1,y1,m1⟩,hcq⟩:∃z,zB8 4 (u.drop (k+1))=z:=⟨_,rfl⟩;rw[hcq]at hR2;have HZ:=zD hR2;have HCQ:=zD hcq;clear hR hR2 hcq;go_wp2_with (first | (go_at_call 71;refine(zAd (j:=0) hM.out.rd rfl har.out hk1 hl (by omega) HD.out).mono ?_;rintro e2 w2 ⟨rfl,m2,hw2⟩;subst hw2) | (go_at_call 68;refine(zAA _ _).mono ?_;rintro e2 w2 ⟨rfl,rfl⟩) | (go_at_call 63;refine(zAJ _ _).mono ?_;rintro e2 w2 ⟨rfl,rfl⟩) | (go_at_call 100;refine(zAx _ _).mono ?_;rintro e2 w2 ⟨rfl,rfl⟩) | (go_at_call 64;refine(zAe ⟨#[123]⟩ hM.out.rd rfl har.out hk1 hl (by decide) HB.out).mono ?_;rintro e2 w2 ⟨rfl,m2,hw2⟩;subst hw2) | (go_at_call 160;refine(zHH (cnt:=4) (hM.out.rd.drewN _) rfl (har.out.drewN _) hB hk1 hl (by omega) HCQ.out).mono ?_;rintro e3 w3 ⟨rfl,hM3,hG3⟩))
           go_ret2
           exact zJN HZ.out hM3 hG3 (hM.out.drewN _).grown
        · have e117:((x.toNat:Int)==117)=false:=yA.2 (by omega);rw[show(x.toNat==117)=false from yA.2 h117]at hR;simp only[Bool.or_self,Bool.false_and,Bool.false_eq_true,if_false]at hR
          by_cases h120:x.toNat=120
          · have e120:((x.toNat:Int)==120)=true:=by rw[h120];rfl
            rw[if_pos h120]at hR;obtain⟨⟨e1,y1,m1⟩,hcq⟩:∃z,zB8 2 (u.drop (k+1))=z:=⟨_,rfl⟩;rw[hcq]at hR;have HZ:=zD hR;have HCQ:=zD hcq;clear hR hcq h117 h120;go_wp2_with (first | (go_at_call 71;refine(zAd (j:=0) hM.out.rd rfl har.out hk1 hl (by omega) HD.out).mono ?_;rintro e2 w2 ⟨rfl,m2,hw2⟩;subst hw2) | (go_at_call 68;refine(zAA _ _).mono ?_;rintro e2 w2 ⟨rfl,rfl⟩) | (go_at_call 63;refine(zAJ _ _).mono ?_;rintro e2 w2 ⟨rfl,rfl⟩) | (go_at_call 100;refine(zAx _ _).mono ?_;rintro e2 w2 ⟨rfl,rfl⟩) | (go_at_call 64;refine(zAe ⟨#[123]⟩ hM.out.rd rfl har.out hk1 hl (by decide) HB.out).mono ?_;rintro e2 w2 ⟨rfl,m2,hw2⟩;subst hw2) | (go_at_call 160;refine(zHH (cnt:=2) hM.out.rd rfl har.out hB hk1 hl (by omega) HCQ.out).mono ?_;rintro e3 w3 ⟨rfl,hM3,hG3⟩))
            go_ret2
            exact zJN HZ.out hM3 hG3 hM.out.grown
          · have e120:((x.toNat:Int)==120)=false:=yA.2 (by omega);rw[if_neg h120,if_neg h117]at hR;have HZ:=zD hR;clear hR h117 h120;go_wp2_with (first | (go_at_call 71;refine(zAd (j:=0) hM.out.rd rfl har.out hk1 hl (by omega) HD.out).mono ?_;rintro e2 w2 ⟨rfl,m2,hw2⟩;subst hw2) | (go_at_call 68;refine(zAA _ _).mono ?_;rintro e2 w2 ⟨rfl,rfl⟩) | (go_at_call 63;refine(zAJ _ _).mono ?_;rintro e2 w2 ⟨rfl,rfl⟩) | (go_at_call 100;refine(zAx _ _).mono ?_;rintro e2 w2 ⟨rfl,rfl⟩) | (go_at_call 64;refine(zAe ⟨#[123]⟩ hM.out.rd rfl har.out hk1 hl (by decide) HB.out).mono ?_;rintro e2 w2 ⟨rfl,m2,hw2⟩;subst hw2))
            go_ret2
            obtain⟨z1,z2,z3⟩:=zFG HZ.out;subst z1 z2 z3;exact⟨rfl,fun _=>hM.out,hM.out.grown⟩
 · obtain rfl:k=u.length:=by omega
   rw[List.drop_length]at hq;have HQ:=zD hq;have hM0:=zD (Mv.refl hr);clear hq hr ha;go_enter func107,ntmps107;go_wp2_with fail
   go_quiet (fail)
   go_wp2
   go_ret2
   have hq:=HQ.out;simp only[zDb,Prod.mk.injEq]at hq;obtain⟨q1,q2,q3⟩:=hq;subst q1 q2 q3;exact⟨rfl,fun h=>absurd h (by decide),(hM0.out.drewN _).grown⟩
theorem zPM (q:UInt16):∀(f g:Nat) (l:List UInt16) (acc:List UInt16),l.length < f→l.length < g→zCz q f l acc=zCz q g l acc:=by
 intro f
 induction f with
 | zero=>intro g l acc hf _;omega
 | succ f ih=>
  intro g l acc hf hg;obtain⟨g,rfl⟩:∃m,g=m+1:=⟨g - 1,by omega⟩;cases l with
  | nil=>rfl
  | cons x r=>
   simp only[List.length_cons]at hf hg;unfold zCz;rw[ih g r (acc++[x]) (by omega) (by omega)]
   by_cases he:(zDb r).1≠0
   · simp only[he,if_true,ne_eq,not_false_eq_true]
   · have h5:=zEO (yAL.1 he);rw[ih g (r.drop (zDb r).2.2) (acc++[(zDb r).2.1]) (by rw[List.length_drop];omega) (by rw[List.length_drop];omega)]
def zES (q:UInt16) (l acc:List UInt16):Nat×List UInt16×Nat:=zCz q (l.length+1) l acc
def zHJ (n:Nat) (p:Nat×List UInt16×Nat):Nat×List UInt16×Nat:=(p.1,p.2.1,n+p.2.2)
theorem zPN (q:UInt16) (acc:List UInt16):zES q [] acc=(5,[],0):=rfl
theorem zMa {q x:UInt16} {r acc:List UInt16} (h:zw x=true):zES q (x::r) acc=(5,[],0):=by
 unfold zES;rw[zCz,if_pos h]
theorem zPO {q:UInt16} {r acc:List UInt16} (h:zw q=false):zES q (q::r) acc=(0,acc,1):=by
 unfold zES;rw[zCz,if_neg (by rw[h];simp),if_pos rfl]
theorem zKR {q x:UInt16} {r acc:List UInt16} (h:zw x=false) (h2:x≠q) (h3:x.toNat≠92):zES q (x::r) acc=zHJ 1 (zES q r (acc++[x])):=by
 unfold zES;rw[zCz,if_neg (by rw[h];simp),if_neg h2,if_neg h3];rfl
theorem zPP {q x:UInt16} {r acc:List UInt16} (h:zw x=false) (h2:x≠q) (h3:x.toNat=92) (h4:(zDb r).1≠0):zES q (x::r) acc=((zDb r).1,[],0):=by
 unfold zES;rw[zCz,if_neg (by rw[h];simp),if_neg h2,if_pos h3,if_pos h4]
theorem zPQ {q x y:UInt16} {r acc:List UInt16} {n:Nat} (h:zw x=false) (h2:x≠q) (h3:x.toNat=92) (h4:zDb r=(0,y,n)):zES q (x::r) acc=zHJ (1+n) (zES q (r.drop n) (acc++[y])):=by
 have h5:=zEO (l:=r) (by rw[h4]);rw[h4]at h5;unfold zES;rw[zCz,if_neg (by rw[h];simp),if_neg h2,if_pos h3,h4,if_neg (by simp)];simp only[List.length_cons];rw[zPM q (r.length+1) ((r.drop n).length+1) _ _ (by rw[List.length_drop];omega) (by omega)];rfl
end Go.Proofs.YtlohaclgbfhijaaGreatDoor
