/- Joined for the claim ParseEnds: the parser, the lexer and the trees as they are walked, made short by a program of mine. -/
import Derived.Deep.LoopGhost
import Derived.Deep.RegionLaw
import Derived.Test.YtlohaclgbfhijaaGreatDoorS04
set_option maxHeartbeats 16000000
set_option maxRecDepth 1000000
namespace Go.Proofs.YtlohaclgbfhijaaGreatDoor
open Go.RowKit
section
variable {P:Program} {w0 w:World} {g:Nat} {ops:Array Oper} {o:Oper} {a:Act} {K:Act→World→Prop} {Q:Exit→Act→World→Prop} {E:Prop}
theorem zGD (hgd:o.guard=none) (s x:Operand) (t:TypeId)
 (ho:o.op=.call {callee:=.builtin .append,args:=#[s,x],argTypes:=#[t,t]})
 (e:TypeId) (i:TypeInfo) (z:Value) (bytes:Nat) (ht:P.underlying t=some (.slice e)) (hi:P.info? e=some i) (hz:i.zero=some z)
 (hsize:i.size=1) (hby:i.bytes=bytes) (hzs:z.cells.size=1)
 (v:Value) (xs:List Value) (hs:a.eval s=v) (hm:MadeM w0 w g e v xs)
 (cs:List Value) (m c:Nat) (hx:a.eval x=.slice (some ⟨w.heap.size,0,none⟩) m c) (hl:cs.length=m) (h1:(cs.all fun u=>u.oneCell')=true)
 (hm0:0 < m) (hsz:xs.length+m≤70368744177664) (hb2:bytes≤2)
 (h:∀v' w',MadeM w0 w' g e v' (xs++cs)→w.grownBy w' v.ownBlock→K (a.put o.dst v') w'):
 if Region.wanted o (yielded ops a.tmps)=true then Oper.wp P o a (w.alloc (.cells cs.toArray e)) K Q else E:=by
 subst hl
 refine step_append_lies (w.alloc (.cells cs.toArray e)) hgd s x t ho w0.heap.size e i z 1 bytes ht hi hz hsize hby hzs (by omega) v xs.length xs hs (hm.own.alloc _) ⟨w.heap.size,0,none⟩ _ c cs hx (by omega) ?_ (fun u hu=>List.all_eq_true.1 h1 u hu) hm0 (by unfold maxLen;omega) ?_ (Nat.le_trans hm.grown.size (by simp)) _ rfl ?_
 · intro j u hu
   rw[Addr.add_lit,World.cell?_alloc_at _ _ _ _ rfl]
   simpa using hu
 · calc (xs.length+cs.length)*bytes≤70368744177664*2:=Nat.mul_le_mul hsz hb2
    _≤140737488355328:=by omega
 · intro gg cap w' h1 h2 _ _
   have hgr:w.grownBy w' v.ownBlock:=zF (zL w _ _) h2
   refine h _ w' ⟨by rw[List.length_append];exact h1,⟨hgr.os.trans hm.grown.os,hgr.tape.trans hm.grown.tape,hgr.output.trans hm.grown.output,Nat.le_trans hm.grown.size hgr.size,fun k hk hne=>?_⟩⟩ hgr
   rw[hgr.block k (Nat.lt_of_lt_of_le hk hm.grown.size) (fun e=>by have:=(hm.own.lt k e.symm).1;omega)]
   exact hm.grown.block k hk hne
end
def AtRun (q:UInt16→Bool) (u:List UInt16) (k p:Nat) (bs:List UInt8):Prop:=∃i,p=k+i∧bs=asc ((u.drop k).take i)∧(u.drop k).takeWhile q=(u.drop k).take i++(u.drop p).takeWhile q∧bs.length=i
theorem AtRun.start (q:UInt16→Bool) (u:List UInt16) (k:Nat):AtRun q u k k []:=⟨0,rfl,rfl,by simp,rfl⟩
theorem AtRun.step {q:UInt16→Bool} {u:List UInt16} {k p:Nat} {bs:List UInt8} (h:AtRun q u k p bs) (hp:p < u.length) (h1:q u[p]=true):AtRun q u k (p+1) (bs++[u[p].toUInt8]):=by
 obtain⟨i,hi,hb,he,hl⟩:=h
 have hik:i < (u.drop k).length:=by rw[List.length_drop];omega
 have hx:(u.drop k)[i]=u[p]:=by rw[List.getElem_drop];congr 1;omega
 have ht:(u.drop k).take (i+1)=(u.drop k).take i++[u[p]]:=by rw[List.take_succ_eq_append_getElem hik,hx]
 refine⟨i+1,by omega,?_,?_,by simp[hl]⟩
 · rw[ht,hb];simp[asc]
 · rw[he,ht,List.drop_eq_getElem_cons hp,List.takeWhile_cons_of_pos h1,List.append_assoc];rfl
theorem AtRun.stop {q:UInt16→Bool} {u:List UInt16} {k p:Nat} {bs:List UInt8} (h:AtRun q u k p bs) (h1:zAx 0 q (u.drop p)=false):bs=asc ((u.drop k).takeWhile q)∧p=k+((u.drop k).takeWhile q).length:=by
 obtain⟨i,hi,hb,he,hl⟩:=h
 have h0:(u.drop p).takeWhile q=[]:=by
  cases hd:u.drop p with
  | nil=>rfl
  | cons x r=>
   rw[hd]at h1
   rw[List.takeWhile_cons_of_neg]
   intro h2
   have:zAx 0 q (x::r)=q x:=rfl
   rw[this,h2]at h1
   cases h1
 rw[h0,List.append_nil]at he
 have hl2:=congrArg List.length hb
 rw[he]
 refine⟨hb,?_⟩
 simp only[asc,List.length_map]at hl2
 omega
theorem zHq (x:UInt16):u8v x.toUInt8=.int .u8 (IntKind.u8.wrap (x.toNat:Int)):=by
 unfold u8v
 rw[IntKind.wrap_u8]
 congr 1
theorem zLY {u:List UInt16} {p:Nat} {q:UInt16→Bool} (h:p < u.length):zAx 0 q (u.drop p)=q u[p]:=by
 have:=zCe (u:=u) (k:=p) (j:=0) (p:=q) (by omega)
 simpa using this
theorem zGE {u:List UInt16} {p:Nat} {q:UInt16→Bool} (h:¬p < u.length):zAx 0 q (u.drop p)=false:=zCL (by omega)
theorem zIi {A:Option Addr} {c g B k n:Nat} {u:List UInt16} {w:World} (hr:Rd w g A n c k) (hn:u.length=n) (ha:Reads w B 1 A n (zAH u)) (hB:B≤g) (hk:k≤n) (hl:n≤4096) {l:List UInt16} (hq:(u.drop k).takeWhile zQ=l):
 Calls Tryz.prog 101 #[.pointer (some ⟨g,0,none⟩),.func (.func 68) #[] #[]] w fun e w'=>e=.returned (.string ⟨(asc l).toArray⟩)∧Mv w w' g A n c (k+l.length):=by
 subst hn
 obtain⟨i0,hi0,hz0,hz1,hz2⟩:=info_parts Tryz.info_u8
 have HQ:=zD hq
 have HA:=zD ha
 have hg:=hr.lt
 have hM0:=zD (Mv.refl hr)
 clear hq ha hr
 go_enter Tryz.func101,Tryz.ntmps101
 go_wp2
 go_loopg [5] (u.length - k) (fun r v wr=>∃p bs,p+r=u.length∧Hid (Mv w wr g A u.length c p)∧Hid (AtRun zQ u k p bs)∧MadeM w wr g 5 v (u8s bs))
 case atStart=>exact⟨k,[],by omega,hM0,AtRun.start _ _ _,MadeM.nil (World.grownBy.refl w _) _⟩
 case round=>
  obtain⟨p,bs,hpr,hM,hat,hm⟩:=hrel
  have har:=zD (HA.out.grown hM.out.grown hB (Nat.le_of_lt hg))
  have hbl:bs.length≤p:=by obtain⟨i,hi,_,_,hl⟩:=hat.out;omega
  by_cases hlt:p < u.length
  · have hlt2:(p:Int) < (u.length:Int):=by omega
    cases hqx:zQ u[p]with
    | true=>
     have HI:=zD (show zAx 0 zQ (u.drop p)=true by rw[zLY hlt];exact hqx)
     have hsp:=zD (hat.out.step hlt hqx)
     go_wp2_with fail
     refine(zAU (j:=0) hM.out.rd rfl har.out (by omega) hl (by omega) HI.out).mono ?_
     rintro e1 w1 ⟨rfl,m1,hw1⟩
     subst hw1
     have hM1:=zD (hM.out.drewN m1)
     have hc0:=hM.out.rd.c0
     have hc1:=hM.out.rd.c1
     obtain⟨blk,off,rfl,_,hcell⟩:=har.out.spotL (by omega)
     have hca:=hcell p hlt
     have hx:=u[p].toNat_lt
     have hm0:=zD hm
     have HC:=zD (show u8s [u[p].toUInt8]=[.int .u8 (IntKind.u8.wrap (u[p].toNat:Int))] by rw[u8s,List.map_cons,zHq];rfl)
     obtain⟨x,hxx⟩:∃x,u[p].toNat=x:=⟨_,rfl⟩
     rw[hxx]at hca hx
     rw[hxx]at HC
     clear hcell hxx hm
     go_wp2_with fail
     go_region_law (first | (refine zGD rfl _ _ 51 rfl 5 i0 _ 1 Tryz.underlying51 hi0 hz0 hz1 hz2 rfl _ _ rfl (hm0.out.go hg (zAB wr (some g) (m1+1))) [.int .u8 (IntKind.u8.wrap (x:Int))] 1 1 rfl rfl rfl (by omega) (by rw[zK0];omega) (by omega) ?_;intro v' w' hm' hgr))
     all_goals have hrd:=zD (Rd.appended (hM.out.rd.drewN (m1+1)) (hm0.out.go hg (zAB wr (some g) (m1+1))) hg hgr)
     all_goals have hc2:=hrd.out.c1
     all_goals have hf2:=hrd.out.f1
     all_goals go_wp2
     all_goals go_roundg (gk - 1)
     all_goals first
      | omega
      | exact⟨p+1,_,by omega,⟨hrd.out.setI (by omega),zF hm'.grown (zR w' g 1 _)⟩,hsp,(hm'.go hg (zR w' g 1 _)).cells (by rw[←HC.out];simp[u8s])⟩
    | false=>
     have HI:=zD (show zAx 0 zQ (u.drop p)=false by rw[zLY hlt];exact hqx)
     have hst:=zD (hat.out.stop HI.out)
     go_wp2_with fail
     refine(zAU (j:=0) hM.out.rd rfl har.out (by omega) hl (by omega) HI.out).mono ?_
     rintro e1 w1 ⟨rfl,m1,hw1⟩
     subst hw1
     obtain⟨A',c',rfl,_,_,hr8⟩:=(hm.go hg (zAB wr (some g) m1)).u8
     have hstr:=zEN (c:=c') hr8
     go_wp2
     go_ret
     obtain⟨z1,z2⟩:=hst.out
     rw[HQ.out]at z1 z2
     exact⟨by rw[z1];rfl,by rw[←z2];exact hM.out.drewN m1⟩
  · have HI:=zD (show zAx 0 zQ (u.drop p)=false from zGE hlt)
    have hst:=zD (hat.out.stop HI.out)
    go_wp2_with fail
    refine(zAU (j:=0) hM.out.rd rfl har.out (by omega) hl (by omega) HI.out).mono ?_
    rintro e1 w1 ⟨rfl,m1,hw1⟩
    subst hw1
    obtain⟨A',c',rfl,_,_,hr8⟩:=(hm.go hg (zAB wr (some g) m1)).u8
    have hstr:=zEN (c:=c') hr8
    go_wp2
    go_ret
    obtain⟨z1,z2⟩:=hst.out
    rw[HQ.out]at z1 z2
    exact⟨by rw[z1];rfl,by rw[←z2];exact hM.out.drewN m1⟩
theorem zOH {A:Option Addr} {c g B k n:Nat} {u:List UInt16} {w:World} (hr:Rd w g A n c k) (hn:u.length=n) (ha:Reads w B 1 A n (zAH u)) (hB:B≤g) (hk:k≤n) (hl:n≤4096) {l:List UInt16} (hq:(u.drop k).takeWhile zA0=l):
 Calls Tryz.prog 101 #[.pointer (some ⟨g,0,none⟩),.func (.func 102) #[] #[]] w fun e w'=>e=.returned (.string ⟨(asc l).toArray⟩)∧Mv w w' g A n c (k+l.length):=by
 subst hn
 obtain⟨i0,hi0,hz0,hz1,hz2⟩:=info_parts Tryz.info_u8
 have HQ:=zD hq
 have HA:=zD ha
 have hg:=hr.lt
 have hM0:=zD (Mv.refl hr)
 clear hq ha hr
 go_enter Tryz.func101,Tryz.ntmps101
 go_wp2
 go_loopg [5] (u.length - k) (fun r v wr=>∃p bs,p+r=u.length∧Hid (Mv w wr g A u.length c p)∧Hid (AtRun zA0 u k p bs)∧MadeM w wr g 5 v (u8s bs))
 case atStart=>exact⟨k,[],by omega,hM0,AtRun.start _ _ _,MadeM.nil (World.grownBy.refl w _) _⟩
 case round=>
  obtain⟨p,bs,hpr,hM,hat,hm⟩:=hrel
  have har:=zD (HA.out.grown hM.out.grown hB (Nat.le_of_lt hg))
  have hbl:bs.length≤p:=by obtain⟨i,hi,_,_,hl⟩:=hat.out;omega
  by_cases hlt:p < u.length
  · have hlt2:(p:Int) < (u.length:Int):=by omega
    cases hqx:zA0 u[p]with
    | true=>
     have HI:=zD (show zAx 0 zA0 (u.drop p)=true by rw[zLY hlt];exact hqx)
     have hsp:=zD (hat.out.step hlt hqx)
     go_wp2_with fail
     refine(zG2 (j:=0) hM.out.rd rfl har.out (by omega) hl (by omega) HI.out).mono ?_
     rintro e1 w1 ⟨rfl,m1,hw1⟩
     subst hw1
     have hM1:=zD (hM.out.drewN m1)
     have hc0:=hM.out.rd.c0
     have hc1:=hM.out.rd.c1
     obtain⟨blk,off,rfl,_,hcell⟩:=har.out.spotL (by omega)
     have hca:=hcell p hlt
     have hx:=u[p].toNat_lt
     have hm0:=zD hm
     have HC:=zD (show u8s [u[p].toUInt8]=[.int .u8 (IntKind.u8.wrap (u[p].toNat:Int))] by rw[u8s,List.map_cons,zHq];rfl)
     obtain⟨x,hxx⟩:∃x,u[p].toNat=x:=⟨_,rfl⟩
     rw[hxx]at hca hx
     rw[hxx]at HC
     clear hcell hxx hm
     go_wp2_with fail
     go_region_law (first | (refine zGD rfl _ _ 51 rfl 5 i0 _ 1 Tryz.underlying51 hi0 hz0 hz1 hz2 rfl _ _ rfl (hm0.out.go hg (zAB wr (some g) (m1+1))) [.int .u8 (IntKind.u8.wrap (x:Int))] 1 1 rfl rfl rfl (by omega) (by rw[zK0];omega) (by omega) ?_;intro v' w' hm' hgr))
     all_goals have hrd:=zD (Rd.appended (hM.out.rd.drewN (m1+1)) (hm0.out.go hg (zAB wr (some g) (m1+1))) hg hgr)
     all_goals have hc2:=hrd.out.c1
     all_goals have hf2:=hrd.out.f1
     all_goals go_wp2
     all_goals go_roundg (gk - 1)
     all_goals first
      | omega
      | exact⟨p+1,_,by omega,⟨hrd.out.setI (by omega),zF hm'.grown (zR w' g 1 _)⟩,hsp,(hm'.go hg (zR w' g 1 _)).cells (by rw[←HC.out];simp[u8s])⟩
    | false=>
     have HI:=zD (show zAx 0 zA0 (u.drop p)=false by rw[zLY hlt];exact hqx)
     have hst:=zD (hat.out.stop HI.out)
     go_wp2_with fail
     refine(zG2 (j:=0) hM.out.rd rfl har.out (by omega) hl (by omega) HI.out).mono ?_
     rintro e1 w1 ⟨rfl,m1,hw1⟩
     subst hw1
     obtain⟨A',c',rfl,_,_,hr8⟩:=(hm.go hg (zAB wr (some g) m1)).u8
     have hstr:=zEN (c:=c') hr8
     go_wp2
     go_ret
     obtain⟨z1,z2⟩:=hst.out
     rw[HQ.out]at z1 z2
     exact⟨by rw[z1];rfl,by rw[←z2];exact hM.out.drewN m1⟩
  · have HI:=zD (show zAx 0 zA0 (u.drop p)=false from zGE hlt)
    have hst:=zD (hat.out.stop HI.out)
    go_wp2_with fail
    refine(zG2 (j:=0) hM.out.rd rfl har.out (by omega) hl (by omega) HI.out).mono ?_
    rintro e1 w1 ⟨rfl,m1,hw1⟩
    subst hw1
    obtain⟨A',c',rfl,_,_,hr8⟩:=(hm.go hg (zAB wr (some g) m1)).u8
    have hstr:=zEN (c:=c') hr8
    go_wp2
    go_ret
    obtain⟨z1,z2⟩:=hst.out
    rw[HQ.out]at z1 z2
    exact⟨by rw[z1];rfl,by rw[←z2];exact hM.out.drewN m1⟩
theorem zZ (s:ByteArray) (l:List UInt8):(s.toList==l)=decide (s.data.toList=l):=by
 rw[Bool.eq_iff_iff,decide_eq_true_eq,beq_iff_eq,ByteArray.toList_eq]
theorem za {s:ByteArray} {l:List UInt8} (h:s.data.toList=l):s=⟨l.toArray⟩:=by
 cases s with
 | mk d=>simp only at h;subst h;simp
theorem zLZ (w:World):Calls Tryz.prog 103 #[.string ⟨#[98,114,101,97,107]⟩] w fun e w'=>e=.returned (.int .i64 1)∧w=w':=by
 go_enter Tryz.func103,Tryz.ntmps103
 go_wp2
 go_ret
 exact⟨rfl,rfl⟩
theorem zLa (w:World):Calls Tryz.prog 103 #[.string ⟨#[99,97,116,99,104]⟩] w fun e w'=>e=.returned (.int .i64 1)∧w=w':=by
 go_enter Tryz.func103,Tryz.ntmps103
 go_wp2
 go_ret
 exact⟨rfl,rfl⟩
theorem zLb (w:World):Calls Tryz.prog 103 #[.string ⟨#[99,111,110,115,116]⟩] w fun e w'=>e=.returned (.int .i64 1)∧w=w':=by
 go_enter Tryz.func103,Tryz.ntmps103
 go_wp2
 go_ret
 exact⟨rfl,rfl⟩
theorem zLc (w:World):Calls Tryz.prog 103 #[.string ⟨#[99,111,110,116,105,110,117,101]⟩] w fun e w'=>e=.returned (.int .i64 1)∧w=w':=by
 go_enter Tryz.func103,Tryz.ntmps103
 go_wp2
 go_ret
 exact⟨rfl,rfl⟩
theorem zLd (w:World):Calls Tryz.prog 103 #[.string ⟨#[101,108,115,101]⟩] w fun e w'=>e=.returned (.int .i64 1)∧w=w':=by
 go_enter Tryz.func103,Tryz.ntmps103
 go_wp2
 go_ret
 exact⟨rfl,rfl⟩
theorem zLe (w:World):Calls Tryz.prog 103 #[.string ⟨#[102,97,108,115,101]⟩] w fun e w'=>e=.returned (.int .i64 1)∧w=w':=by
 go_enter Tryz.func103,Tryz.ntmps103
 go_wp2
 go_ret
 exact⟨rfl,rfl⟩
theorem zLf (w:World):Calls Tryz.prog 103 #[.string ⟨#[102,105,110,97,108,108,121]⟩] w fun e w'=>e=.returned (.int .i64 1)∧w=w':=by
 go_enter Tryz.func103,Tryz.ntmps103
 go_wp2
 go_ret
 exact⟨rfl,rfl⟩
theorem zLg (w:World):Calls Tryz.prog 103 #[.string ⟨#[102,111,114]⟩] w fun e w'=>e=.returned (.int .i64 1)∧w=w':=by
 go_enter Tryz.func103,Tryz.ntmps103
 go_wp2
 go_ret
 exact⟨rfl,rfl⟩
theorem zLh (w:World):Calls Tryz.prog 103 #[.string ⟨#[102,117,110,99,116,105,111,110]⟩] w fun e w'=>e=.returned (.int .i64 1)∧w=w':=by
 go_enter Tryz.func103,Tryz.ntmps103
 go_wp2
 go_ret
 exact⟨rfl,rfl⟩
theorem zLi (w:World):Calls Tryz.prog 103 #[.string ⟨#[105,102]⟩] w fun e w'=>e=.returned (.int .i64 1)∧w=w':=by
 go_enter Tryz.func103,Tryz.ntmps103
 go_wp2
 go_ret
 exact⟨rfl,rfl⟩
theorem zIj (w:World):Calls Tryz.prog 103 #[.string ⟨#[105,110]⟩] w fun e w'=>e=.returned (.int .i64 1)∧w=w':=by
 go_enter Tryz.func103,Tryz.ntmps103
 go_wp2
 go_ret
 exact⟨rfl,rfl⟩
theorem zIk (w:World):Calls Tryz.prog 103 #[.string ⟨#[108,101,116]⟩] w fun e w'=>e=.returned (.int .i64 1)∧w=w':=by
 go_enter Tryz.func103,Tryz.ntmps103
 go_wp2
 go_ret
 exact⟨rfl,rfl⟩
theorem zIl (w:World):Calls Tryz.prog 103 #[.string ⟨#[110,101,119]⟩] w fun e w'=>e=.returned (.int .i64 1)∧w=w':=by
 go_enter Tryz.func103,Tryz.ntmps103
 go_wp2
 go_ret
 exact⟨rfl,rfl⟩
theorem zIm (w:World):Calls Tryz.prog 103 #[.string ⟨#[110,117,108,108]⟩] w fun e w'=>e=.returned (.int .i64 1)∧w=w':=by
 go_enter Tryz.func103,Tryz.ntmps103
 go_wp2
 go_ret
 exact⟨rfl,rfl⟩
theorem zIn (w:World):Calls Tryz.prog 103 #[.string ⟨#[114,101,116,117,114,110]⟩] w fun e w'=>e=.returned (.int .i64 1)∧w=w':=by
 go_enter Tryz.func103,Tryz.ntmps103
 go_wp2
 go_ret
 exact⟨rfl,rfl⟩
theorem zIo (w:World):Calls Tryz.prog 103 #[.string ⟨#[116,104,105,115]⟩] w fun e w'=>e=.returned (.int .i64 1)∧w=w':=by
 go_enter Tryz.func103,Tryz.ntmps103
 go_wp2
 go_ret
 exact⟨rfl,rfl⟩
theorem zIp (w:World):Calls Tryz.prog 103 #[.string ⟨#[116,104,114,111,119]⟩] w fun e w'=>e=.returned (.int .i64 1)∧w=w':=by
 go_enter Tryz.func103,Tryz.ntmps103
 go_wp2
 go_ret
 exact⟨rfl,rfl⟩
theorem zIq (w:World):Calls Tryz.prog 103 #[.string ⟨#[116,114,117,101]⟩] w fun e w'=>e=.returned (.int .i64 1)∧w=w':=by
 go_enter Tryz.func103,Tryz.ntmps103
 go_wp2
 go_ret
 exact⟨rfl,rfl⟩
theorem zIr (w:World):Calls Tryz.prog 103 #[.string ⟨#[116,114,121]⟩] w fun e w'=>e=.returned (.int .i64 1)∧w=w':=by
 go_enter Tryz.func103,Tryz.ntmps103
 go_wp2
 go_ret
 exact⟨rfl,rfl⟩
theorem zIs (w:World):Calls Tryz.prog 103 #[.string ⟨#[116,121,112,101,111,102]⟩] w fun e w'=>e=.returned (.int .i64 1)∧w=w':=by
 go_enter Tryz.func103,Tryz.ntmps103
 go_wp2
 go_ret
 exact⟨rfl,rfl⟩
theorem zIt (w:World):Calls Tryz.prog 103 #[.string ⟨#[118,111,105,100]⟩] w fun e w'=>e=.returned (.int .i64 1)∧w=w':=by
 go_enter Tryz.func103,Tryz.ntmps103
 go_wp2
 go_ret
 exact⟨rfl,rfl⟩
theorem zIu (w:World):Calls Tryz.prog 103 #[.string ⟨#[119,104,105,108,101]⟩] w fun e w'=>e=.returned (.int .i64 1)∧w=w':=by
 go_enter Tryz.func103,Tryz.ntmps103
 go_wp2
 go_ret
 exact⟨rfl,rfl⟩
theorem zLj (w:World):Calls Tryz.prog 103 #[.string ⟨#[97,114,103,117,109,101,110,116,115]⟩] w fun e w'=>e=.returned (.int .i64 2)∧w=w':=by
 go_enter Tryz.func103,Tryz.ntmps103
 go_wp2
 go_ret
 exact⟨rfl,rfl⟩
theorem zLk (w:World):Calls Tryz.prog 103 #[.string ⟨#[97,115,121,110,99]⟩] w fun e w'=>e=.returned (.int .i64 2)∧w=w':=by
 go_enter Tryz.func103,Tryz.ntmps103
 go_wp2
 go_ret
 exact⟨rfl,rfl⟩
theorem zLl (w:World):Calls Tryz.prog 103 #[.string ⟨#[97,119,97,105,116]⟩] w fun e w'=>e=.returned (.int .i64 2)∧w=w':=by
 go_enter Tryz.func103,Tryz.ntmps103
 go_wp2
 go_ret
 exact⟨rfl,rfl⟩
theorem zLm (w:World):Calls Tryz.prog 103 #[.string ⟨#[99,97,115,101]⟩] w fun e w'=>e=.returned (.int .i64 2)∧w=w':=by
 go_enter Tryz.func103,Tryz.ntmps103
 go_wp2
 go_ret
 exact⟨rfl,rfl⟩
theorem zLn (w:World):Calls Tryz.prog 103 #[.string ⟨#[99,108,97,115,115]⟩] w fun e w'=>e=.returned (.int .i64 2)∧w=w':=by
 go_enter Tryz.func103,Tryz.ntmps103
 go_wp2
 go_ret
 exact⟨rfl,rfl⟩
theorem zLo (w:World):Calls Tryz.prog 103 #[.string ⟨#[100,101,98,117,103,103,101,114]⟩] w fun e w'=>e=.returned (.int .i64 2)∧w=w':=by
 go_enter Tryz.func103,Tryz.ntmps103
 go_wp2
 go_ret
 exact⟨rfl,rfl⟩
theorem zLp (w:World):Calls Tryz.prog 103 #[.string ⟨#[100,101,102,97,117,108,116]⟩] w fun e w'=>e=.returned (.int .i64 2)∧w=w':=by
 go_enter Tryz.func103,Tryz.ntmps103
 go_wp2
 go_ret
 exact⟨rfl,rfl⟩
theorem zLq (w:World):Calls Tryz.prog 103 #[.string ⟨#[100,101,108,101,116,101]⟩] w fun e w'=>e=.returned (.int .i64 2)∧w=w':=by
 go_enter Tryz.func103,Tryz.ntmps103
 go_wp2
 go_ret
 exact⟨rfl,rfl⟩
theorem zLr (w:World):Calls Tryz.prog 103 #[.string ⟨#[100,111]⟩] w fun e w'=>e=.returned (.int .i64 2)∧w=w':=by
 go_enter Tryz.func103,Tryz.ntmps103
 go_wp2
 go_ret
 exact⟨rfl,rfl⟩
theorem zLs (w:World):Calls Tryz.prog 103 #[.string ⟨#[101,110,117,109]⟩] w fun e w'=>e=.returned (.int .i64 2)∧w=w':=by
 go_enter Tryz.func103,Tryz.ntmps103
 go_wp2
 go_ret
 exact⟨rfl,rfl⟩
theorem zIv (w:World):Calls Tryz.prog 103 #[.string ⟨#[101,118,97,108]⟩] w fun e w'=>e=.returned (.int .i64 2)∧w=w':=by
 go_enter Tryz.func103,Tryz.ntmps103
 go_wp2
 go_ret
 exact⟨rfl,rfl⟩
theorem zIw (w:World):Calls Tryz.prog 103 #[.string ⟨#[101,120,112,111,114,116]⟩] w fun e w'=>e=.returned (.int .i64 2)∧w=w':=by
 go_enter Tryz.func103,Tryz.ntmps103
 go_wp2
 go_ret
 exact⟨rfl,rfl⟩
theorem zIx (w:World):Calls Tryz.prog 103 #[.string ⟨#[101,120,116,101,110,100,115]⟩] w fun e w'=>e=.returned (.int .i64 2)∧w=w':=by
 go_enter Tryz.func103,Tryz.ntmps103
 go_wp2
 go_ret
 exact⟨rfl,rfl⟩
theorem zIy (w:World):Calls Tryz.prog 103 #[.string ⟨#[105,109,112,108,101,109,101,110,116,115]⟩] w fun e w'=>e=.returned (.int .i64 2)∧w=w':=by
 go_enter Tryz.func103,Tryz.ntmps103
 go_wp2
 go_ret
 exact⟨rfl,rfl⟩
theorem zIz (w:World):Calls Tryz.prog 103 #[.string ⟨#[105,109,112,111,114,116]⟩] w fun e w'=>e=.returned (.int .i64 2)∧w=w':=by
 go_enter Tryz.func103,Tryz.ntmps103
 go_wp2
 go_ret
 exact⟨rfl,rfl⟩
theorem zI0 (w:World):Calls Tryz.prog 103 #[.string ⟨#[105,110,115,116,97,110,99,101,111,102]⟩] w fun e w'=>e=.returned (.int .i64 2)∧w=w':=by
 go_enter Tryz.func103,Tryz.ntmps103
 go_wp2
 go_ret
 exact⟨rfl,rfl⟩
theorem zI1 (w:World):Calls Tryz.prog 103 #[.string ⟨#[105,110,116,101,114,102,97,99,101]⟩] w fun e w'=>e=.returned (.int .i64 2)∧w=w':=by
 go_enter Tryz.func103,Tryz.ntmps103
 go_wp2
 go_ret
 exact⟨rfl,rfl⟩
theorem zI2 (w:World):Calls Tryz.prog 103 #[.string ⟨#[112,97,99,107,97,103,101]⟩] w fun e w'=>e=.returned (.int .i64 2)∧w=w':=by
 go_enter Tryz.func103,Tryz.ntmps103
 go_wp2
 go_ret
 exact⟨rfl,rfl⟩
theorem zI3 (w:World):Calls Tryz.prog 103 #[.string ⟨#[112,114,105,118,97,116,101]⟩] w fun e w'=>e=.returned (.int .i64 2)∧w=w':=by
 go_enter Tryz.func103,Tryz.ntmps103
 go_wp2
 go_ret
 exact⟨rfl,rfl⟩
theorem zI4 (w:World):Calls Tryz.prog 103 #[.string ⟨#[112,114,111,116,101,99,116,101,100]⟩] w fun e w'=>e=.returned (.int .i64 2)∧w=w':=by
 go_enter Tryz.func103,Tryz.ntmps103
 go_wp2
 go_ret
 exact⟨rfl,rfl⟩
theorem zI5 (w:World):Calls Tryz.prog 103 #[.string ⟨#[112,117,98,108,105,99]⟩] w fun e w'=>e=.returned (.int .i64 2)∧w=w':=by
 go_enter Tryz.func103,Tryz.ntmps103
 go_wp2
 go_ret
 exact⟨rfl,rfl⟩
theorem zI6 (w:World):Calls Tryz.prog 103 #[.string ⟨#[115,116,97,116,105,99]⟩] w fun e w'=>e=.returned (.int .i64 2)∧w=w':=by
 go_enter Tryz.func103,Tryz.ntmps103
 go_wp2
 go_ret
 exact⟨rfl,rfl⟩
theorem zI7 (w:World):Calls Tryz.prog 103 #[.string ⟨#[115,117,112,101,114]⟩] w fun e w'=>e=.returned (.int .i64 2)∧w=w':=by
 go_enter Tryz.func103,Tryz.ntmps103
 go_wp2
 go_ret
 exact⟨rfl,rfl⟩
theorem zI8 (w:World):Calls Tryz.prog 103 #[.string ⟨#[115,119,105,116,99,104]⟩] w fun e w'=>e=.returned (.int .i64 2)∧w=w':=by
 go_enter Tryz.func103,Tryz.ntmps103
 go_wp2
 go_ret
 exact⟨rfl,rfl⟩
theorem zI9 (w:World):Calls Tryz.prog 103 #[.string ⟨#[118,97,114]⟩] w fun e w'=>e=.returned (.int .i64 2)∧w=w':=by
 go_enter Tryz.func103,Tryz.ntmps103
 go_wp2
 go_ret
 exact⟨rfl,rfl⟩
theorem zJA (w:World):Calls Tryz.prog 103 #[.string ⟨#[119,105,116,104]⟩] w fun e w'=>e=.returned (.int .i64 2)∧w=w':=by
 go_enter Tryz.func103,Tryz.ntmps103
 go_wp2
 go_ret
 exact⟨rfl,rfl⟩
theorem zJB (w:World):Calls Tryz.prog 103 #[.string ⟨#[121,105,101,108,100]⟩] w fun e w'=>e=.returned (.int .i64 2)∧w=w':=by
 go_enter Tryz.func103,Tryz.ntmps103
 go_wp2
 go_ret
 exact⟨rfl,rfl⟩
theorem zJC {s:ByteArray} (h1:s.data.toList∉zDk) (h2:s.data.toList∉zCq) (w:World):Calls Tryz.prog 103 #[.string s] w fun e w'=>e=.returned (.int .i64 0)∧w=w':=by
 have f0_0:(s.toList==[98,114,101,97,107])=false:=by rw[zZ];exact decide_eq_false fun h=>h1 (by rw[h];decide)
 have f0_1:(s.toList==[99,97,116,99,104])=false:=by rw[zZ];exact decide_eq_false fun h=>h1 (by rw[h];decide)
 have f0_2:(s.toList==[99,111,110,115,116])=false:=by rw[zZ];exact decide_eq_false fun h=>h1 (by rw[h];decide)
 have f0_3:(s.toList==[99,111,110,116,105,110,117,101])=false:=by rw[zZ];exact decide_eq_false fun h=>h1 (by rw[h];decide)
 have f0_4:(s.toList==[101,108,115,101])=false:=by rw[zZ];exact decide_eq_false fun h=>h1 (by rw[h];decide)
 have f0_5:(s.toList==[102,97,108,115,101])=false:=by rw[zZ];exact decide_eq_false fun h=>h1 (by rw[h];decide)
 have f0_6:(s.toList==[102,105,110,97,108,108,121])=false:=by rw[zZ];exact decide_eq_false fun h=>h1 (by rw[h];decide)
 have f0_7:(s.toList==[102,111,114])=false:=by rw[zZ];exact decide_eq_false fun h=>h1 (by rw[h];decide)
 have f0_8:(s.toList==[102,117,110,99,116,105,111,110])=false:=by rw[zZ];exact decide_eq_false fun h=>h1 (by rw[h];decide)
 have f0_9:(s.toList==[105,102])=false:=by rw[zZ];exact decide_eq_false fun h=>h1 (by rw[h];decide)
 have f0_10:(s.toList==[105,110])=false:=by rw[zZ];exact decide_eq_false fun h=>h1 (by rw[h];decide)
 have f0_11:(s.toList==[108,101,116])=false:=by rw[zZ];exact decide_eq_false fun h=>h1 (by rw[h];decide)
 have f0_12:(s.toList==[110,101,119])=false:=by rw[zZ];exact decide_eq_false fun h=>h1 (by rw[h];decide)
 have f0_13:(s.toList==[110,117,108,108])=false:=by rw[zZ];exact decide_eq_false fun h=>h1 (by rw[h];decide)
 have f0_14:(s.toList==[114,101,116,117,114,110])=false:=by rw[zZ];exact decide_eq_false fun h=>h1 (by rw[h];decide)
 have f0_15:(s.toList==[116,104,105,115])=false:=by rw[zZ];exact decide_eq_false fun h=>h1 (by rw[h];decide)
 have f0_16:(s.toList==[116,104,114,111,119])=false:=by rw[zZ];exact decide_eq_false fun h=>h1 (by rw[h];decide)
 have f0_17:(s.toList==[116,114,117,101])=false:=by rw[zZ];exact decide_eq_false fun h=>h1 (by rw[h];decide)
 have f0_18:(s.toList==[116,114,121])=false:=by rw[zZ];exact decide_eq_false fun h=>h1 (by rw[h];decide)
 have f0_19:(s.toList==[116,121,112,101,111,102])=false:=by rw[zZ];exact decide_eq_false fun h=>h1 (by rw[h];decide)
 have f0_20:(s.toList==[118,111,105,100])=false:=by rw[zZ];exact decide_eq_false fun h=>h1 (by rw[h];decide)
 have f0_21:(s.toList==[119,104,105,108,101])=false:=by rw[zZ];exact decide_eq_false fun h=>h1 (by rw[h];decide)
 have f1_0:(s.toList==[97,114,103,117,109,101,110,116,115])=false:=by rw[zZ];exact decide_eq_false fun h=>h2 (by rw[h];decide)
 have f1_1:(s.toList==[97,115,121,110,99])=false:=by rw[zZ];exact decide_eq_false fun h=>h2 (by rw[h];decide)
 have f1_2:(s.toList==[97,119,97,105,116])=false:=by rw[zZ];exact decide_eq_false fun h=>h2 (by rw[h];decide)
 have f1_3:(s.toList==[99,97,115,101])=false:=by rw[zZ];exact decide_eq_false fun h=>h2 (by rw[h];decide)
 have f1_4:(s.toList==[99,108,97,115,115])=false:=by rw[zZ];exact decide_eq_false fun h=>h2 (by rw[h];decide)
 have f1_5:(s.toList==[100,101,98,117,103,103,101,114])=false:=by rw[zZ];exact decide_eq_false fun h=>h2 (by rw[h];decide)
 have f1_6:(s.toList==[100,101,102,97,117,108,116])=false:=by rw[zZ];exact decide_eq_false fun h=>h2 (by rw[h];decide)
 have f1_7:(s.toList==[100,101,108,101,116,101])=false:=by rw[zZ];exact decide_eq_false fun h=>h2 (by rw[h];decide)
 have f1_8:(s.toList==[100,111])=false:=by rw[zZ];exact decide_eq_false fun h=>h2 (by rw[h];decide)
 have f1_9:(s.toList==[101,110,117,109])=false:=by rw[zZ];exact decide_eq_false fun h=>h2 (by rw[h];decide)
 have f1_10:(s.toList==[101,118,97,108])=false:=by rw[zZ];exact decide_eq_false fun h=>h2 (by rw[h];decide)
 have f1_11:(s.toList==[101,120,112,111,114,116])=false:=by rw[zZ];exact decide_eq_false fun h=>h2 (by rw[h];decide)
 have f1_12:(s.toList==[101,120,116,101,110,100,115])=false:=by rw[zZ];exact decide_eq_false fun h=>h2 (by rw[h];decide)
 have f1_13:(s.toList==[105,109,112,108,101,109,101,110,116,115])=false:=by rw[zZ];exact decide_eq_false fun h=>h2 (by rw[h];decide)
 have f1_14:(s.toList==[105,109,112,111,114,116])=false:=by rw[zZ];exact decide_eq_false fun h=>h2 (by rw[h];decide)
 have f1_15:(s.toList==[105,110,115,116,97,110,99,101,111,102])=false:=by rw[zZ];exact decide_eq_false fun h=>h2 (by rw[h];decide)
 have f1_16:(s.toList==[105,110,116,101,114,102,97,99,101])=false:=by rw[zZ];exact decide_eq_false fun h=>h2 (by rw[h];decide)
 have f1_17:(s.toList==[112,97,99,107,97,103,101])=false:=by rw[zZ];exact decide_eq_false fun h=>h2 (by rw[h];decide)
 have f1_18:(s.toList==[112,114,105,118,97,116,101])=false:=by rw[zZ];exact decide_eq_false fun h=>h2 (by rw[h];decide)
 have f1_19:(s.toList==[112,114,111,116,101,99,116,101,100])=false:=by rw[zZ];exact decide_eq_false fun h=>h2 (by rw[h];decide)
 have f1_20:(s.toList==[112,117,98,108,105,99])=false:=by rw[zZ];exact decide_eq_false fun h=>h2 (by rw[h];decide)
 have f1_21:(s.toList==[115,116,97,116,105,99])=false:=by rw[zZ];exact decide_eq_false fun h=>h2 (by rw[h];decide)
 have f1_22:(s.toList==[115,117,112,101,114])=false:=by rw[zZ];exact decide_eq_false fun h=>h2 (by rw[h];decide)
 have f1_23:(s.toList==[115,119,105,116,99,104])=false:=by rw[zZ];exact decide_eq_false fun h=>h2 (by rw[h];decide)
 have f1_24:(s.toList==[118,97,114])=false:=by rw[zZ];exact decide_eq_false fun h=>h2 (by rw[h];decide)
 have f1_25:(s.toList==[119,105,116,104])=false:=by rw[zZ];exact decide_eq_false fun h=>h2 (by rw[h];decide)
 have f1_26:(s.toList==[121,105,101,108,100])=false:=by rw[zZ];exact decide_eq_false fun h=>h2 (by rw[h];decide)
 clear h1 h2
 go_enter Tryz.func103,Tryz.ntmps103
 go_wp2
 go_ret
 exact⟨rfl,rfl⟩
theorem zDZ (s:ByteArray) (w:World):Calls Tryz.prog 103 #[.string s] w fun e w'=>e=.returned (.int .i64 (zB2 s.data.toList:Nat))∧w=w':=by
 by_cases h1:s.data.toList∈zDk
 · rw[show zB2 s.data.toList=1 from if_pos h1]
   simp only[zDk,List.mem_cons,List.mem_nil_iff,or_false]at h1
   rcases h1 with h | h | h | h | h | h | h | h | h | h | h | h | h | h | h | h | h | h | h | h | h | h
   · rw[za h];exact zLZ w
   · rw[za h];exact zLa w
   · rw[za h];exact zLb w
   · rw[za h];exact zLc w
   · rw[za h];exact zLd w
   · rw[za h];exact zLe w
   · rw[za h];exact zLf w
   · rw[za h];exact zLg w
   · rw[za h];exact zLh w
   · rw[za h];exact zLi w
   · rw[za h];exact zIj w
   · rw[za h];exact zIk w
   · rw[za h];exact zIl w
   · rw[za h];exact zIm w
   · rw[za h];exact zIn w
   · rw[za h];exact zIo w
   · rw[za h];exact zIp w
   · rw[za h];exact zIq w
   · rw[za h];exact zIr w
   · rw[za h];exact zIs w
   · rw[za h];exact zIt w
   · rw[za h];exact zIu w
 · by_cases h2:s.data.toList∈zCq
   · rw[show zB2 s.data.toList=2 by unfold zB2;rw[if_neg h1,if_pos h2]]
     simp only[zCq,List.mem_cons,List.mem_nil_iff,or_false]at h2
     rcases h2 with h | h | h | h | h | h | h | h | h | h | h | h | h | h | h | h | h | h | h | h | h | h | h | h | h | h | h
     · rw[za h];exact zLj w
     · rw[za h];exact zLk w
     · rw[za h];exact zLl w
     · rw[za h];exact zLm w
     · rw[za h];exact zLn w
     · rw[za h];exact zLo w
     · rw[za h];exact zLp w
     · rw[za h];exact zLq w
     · rw[za h];exact zLr w
     · rw[za h];exact zLs w
     · rw[za h];exact zIv w
     · rw[za h];exact zIw w
     · rw[za h];exact zIx w
     · rw[za h];exact zIy w
     · rw[za h];exact zIz w
     · rw[za h];exact zI0 w
     · rw[za h];exact zI1 w
     · rw[za h];exact zI2 w
     · rw[za h];exact zI3 w
     · rw[za h];exact zI4 w
     · rw[za h];exact zI5 w
     · rw[za h];exact zI6 w
     · rw[za h];exact zI7 w
     · rw[za h];exact zI8 w
     · rw[za h];exact zI9 w
     · rw[za h];exact zJA w
     · rw[za h];exact zJB w
   · rw[show zB2 s.data.toList=0 by unfold zB2;rw[if_neg h1,if_neg h2]]
     exact zJC h1 h2 w
theorem zLt (w:World):Calls Tryz.prog 109 #[.string ⟨#[123]⟩] w fun e w'=>e=.returned (.int .i64 1)∧w=w':=by
 go_enter Tryz.func109,Tryz.ntmps109
 go_wp2
 go_ret
 exact⟨rfl,rfl⟩
theorem zLu (w:World):Calls Tryz.prog 109 #[.string ⟨#[125]⟩] w fun e w'=>e=.returned (.int .i64 1)∧w=w':=by
 go_enter Tryz.func109,Tryz.ntmps109
 go_wp2
 go_ret
 exact⟨rfl,rfl⟩
theorem zLv (w:World):Calls Tryz.prog 109 #[.string ⟨#[40]⟩] w fun e w'=>e=.returned (.int .i64 1)∧w=w':=by
 go_enter Tryz.func109,Tryz.ntmps109
 go_wp2
 go_ret
 exact⟨rfl,rfl⟩
theorem zLw (w:World):Calls Tryz.prog 109 #[.string ⟨#[41]⟩] w fun e w'=>e=.returned (.int .i64 1)∧w=w':=by
 go_enter Tryz.func109,Tryz.ntmps109
 go_wp2
 go_ret
 exact⟨rfl,rfl⟩
theorem zLx (w:World):Calls Tryz.prog 109 #[.string ⟨#[91]⟩] w fun e w'=>e=.returned (.int .i64 1)∧w=w':=by
 go_enter Tryz.func109,Tryz.ntmps109
 go_wp2
 go_ret
 exact⟨rfl,rfl⟩
theorem zLy (w:World):Calls Tryz.prog 109 #[.string ⟨#[93]⟩] w fun e w'=>e=.returned (.int .i64 1)∧w=w':=by
 go_enter Tryz.func109,Tryz.ntmps109
 go_wp2
 go_ret
 exact⟨rfl,rfl⟩
theorem zLz (w:World):Calls Tryz.prog 109 #[.string ⟨#[59]⟩] w fun e w'=>e=.returned (.int .i64 1)∧w=w':=by
 go_enter Tryz.func109,Tryz.ntmps109
 go_wp2
 go_ret
 exact⟨rfl,rfl⟩
theorem zL0 (w:World):Calls Tryz.prog 109 #[.string ⟨#[44]⟩] w fun e w'=>e=.returned (.int .i64 1)∧w=w':=by
 go_enter Tryz.func109,Tryz.ntmps109
 go_wp2
 go_ret
 exact⟨rfl,rfl⟩
theorem zL1 (w:World):Calls Tryz.prog 109 #[.string ⟨#[46]⟩] w fun e w'=>e=.returned (.int .i64 1)∧w=w':=by
 go_enter Tryz.func109,Tryz.ntmps109
 go_wp2
 go_ret
 exact⟨rfl,rfl⟩
theorem zL2 (w:World):Calls Tryz.prog 109 #[.string ⟨#[63]⟩] w fun e w'=>e=.returned (.int .i64 1)∧w=w':=by
 go_enter Tryz.func109,Tryz.ntmps109
 go_wp2
 go_ret
 exact⟨rfl,rfl⟩
theorem zJD (w:World):Calls Tryz.prog 109 #[.string ⟨#[58]⟩] w fun e w'=>e=.returned (.int .i64 1)∧w=w':=by
 go_enter Tryz.func109,Tryz.ntmps109
 go_wp2
 go_ret
 exact⟨rfl,rfl⟩
theorem zJE (w:World):Calls Tryz.prog 109 #[.string ⟨#[126]⟩] w fun e w'=>e=.returned (.int .i64 1)∧w=w':=by
 go_enter Tryz.func109,Tryz.ntmps109
 go_wp2
 go_ret
 exact⟨rfl,rfl⟩
theorem zJF (w:World):Calls Tryz.prog 109 #[.string ⟨#[60]⟩] w fun e w'=>e=.returned (.int .i64 1)∧w=w':=by
 go_enter Tryz.func109,Tryz.ntmps109
 go_wp2
 go_ret
 exact⟨rfl,rfl⟩
theorem zJG (w:World):Calls Tryz.prog 109 #[.string ⟨#[62]⟩] w fun e w'=>e=.returned (.int .i64 1)∧w=w':=by
 go_enter Tryz.func109,Tryz.ntmps109
 go_wp2
 go_ret
 exact⟨rfl,rfl⟩
theorem zJH (w:World):Calls Tryz.prog 109 #[.string ⟨#[60,61]⟩] w fun e w'=>e=.returned (.int .i64 1)∧w=w':=by
 go_enter Tryz.func109,Tryz.ntmps109
 go_wp2
 go_ret
 exact⟨rfl,rfl⟩
theorem zJI (w:World):Calls Tryz.prog 109 #[.string ⟨#[62,61]⟩] w fun e w'=>e=.returned (.int .i64 1)∧w=w':=by
 go_enter Tryz.func109,Tryz.ntmps109
 go_wp2
 go_ret
 exact⟨rfl,rfl⟩
theorem zJJ (w:World):Calls Tryz.prog 109 #[.string ⟨#[61,61]⟩] w fun e w'=>e=.returned (.int .i64 1)∧w=w':=by
 go_enter Tryz.func109,Tryz.ntmps109
 go_wp2
 go_ret
 exact⟨rfl,rfl⟩
theorem zJK (w:World):Calls Tryz.prog 109 #[.string ⟨#[33,61]⟩] w fun e w'=>e=.returned (.int .i64 1)∧w=w':=by
 go_enter Tryz.func109,Tryz.ntmps109
 go_wp2
 go_ret
 exact⟨rfl,rfl⟩
theorem zJL (w:World):Calls Tryz.prog 109 #[.string ⟨#[61,61,61]⟩] w fun e w'=>e=.returned (.int .i64 1)∧w=w':=by
 go_enter Tryz.func109,Tryz.ntmps109
 go_wp2
 go_ret
 exact⟨rfl,rfl⟩
theorem zJM (w:World):Calls Tryz.prog 109 #[.string ⟨#[33,61,61]⟩] w fun e w'=>e=.returned (.int .i64 1)∧w=w':=by
 go_enter Tryz.func109,Tryz.ntmps109
 go_wp2
 go_ret
 exact⟨rfl,rfl⟩
theorem zJN (w:World):Calls Tryz.prog 109 #[.string ⟨#[43]⟩] w fun e w'=>e=.returned (.int .i64 1)∧w=w':=by
 go_enter Tryz.func109,Tryz.ntmps109
 go_wp2
 go_ret
 exact⟨rfl,rfl⟩
theorem zJO (w:World):Calls Tryz.prog 109 #[.string ⟨#[45]⟩] w fun e w'=>e=.returned (.int .i64 1)∧w=w':=by
 go_enter Tryz.func109,Tryz.ntmps109
 go_wp2
 go_ret
 exact⟨rfl,rfl⟩
theorem zJP (w:World):Calls Tryz.prog 109 #[.string ⟨#[42]⟩] w fun e w'=>e=.returned (.int .i64 1)∧w=w':=by
 go_enter Tryz.func109,Tryz.ntmps109
 go_wp2
 go_ret
 exact⟨rfl,rfl⟩
theorem zJQ (w:World):Calls Tryz.prog 109 #[.string ⟨#[47]⟩] w fun e w'=>e=.returned (.int .i64 1)∧w=w':=by
 go_enter Tryz.func109,Tryz.ntmps109
 go_wp2
 go_ret
 exact⟨rfl,rfl⟩
theorem zJR (w:World):Calls Tryz.prog 109 #[.string ⟨#[37]⟩] w fun e w'=>e=.returned (.int .i64 1)∧w=w':=by
 go_enter Tryz.func109,Tryz.ntmps109
 go_wp2
 go_ret
 exact⟨rfl,rfl⟩
theorem zJS (w:World):Calls Tryz.prog 109 #[.string ⟨#[38]⟩] w fun e w'=>e=.returned (.int .i64 1)∧w=w':=by
 go_enter Tryz.func109,Tryz.ntmps109
 go_wp2
 go_ret
 exact⟨rfl,rfl⟩
theorem zJT (w:World):Calls Tryz.prog 109 #[.string ⟨#[124]⟩] w fun e w'=>e=.returned (.int .i64 1)∧w=w':=by
 go_enter Tryz.func109,Tryz.ntmps109
 go_wp2
 go_ret
 exact⟨rfl,rfl⟩
theorem zJU (w:World):Calls Tryz.prog 109 #[.string ⟨#[94]⟩] w fun e w'=>e=.returned (.int .i64 1)∧w=w':=by
 go_enter Tryz.func109,Tryz.ntmps109
 go_wp2
 go_ret
 exact⟨rfl,rfl⟩
theorem zJV (w:World):Calls Tryz.prog 109 #[.string ⟨#[33]⟩] w fun e w'=>e=.returned (.int .i64 1)∧w=w':=by
 go_enter Tryz.func109,Tryz.ntmps109
 go_wp2
 go_ret
 exact⟨rfl,rfl⟩
theorem zJW (w:World):Calls Tryz.prog 109 #[.string ⟨#[38,38]⟩] w fun e w'=>e=.returned (.int .i64 1)∧w=w':=by
 go_enter Tryz.func109,Tryz.ntmps109
 go_wp2
 go_ret
 exact⟨rfl,rfl⟩
theorem zJX (w:World):Calls Tryz.prog 109 #[.string ⟨#[124,124]⟩] w fun e w'=>e=.returned (.int .i64 1)∧w=w':=by
 go_enter Tryz.func109,Tryz.ntmps109
 go_wp2
 go_ret
 exact⟨rfl,rfl⟩
theorem zJY (w:World):Calls Tryz.prog 109 #[.string ⟨#[63,63]⟩] w fun e w'=>e=.returned (.int .i64 1)∧w=w':=by
 go_enter Tryz.func109,Tryz.ntmps109
 go_wp2
 go_ret
 exact⟨rfl,rfl⟩
theorem zJZ (w:World):Calls Tryz.prog 109 #[.string ⟨#[61]⟩] w fun e w'=>e=.returned (.int .i64 1)∧w=w':=by
 go_enter Tryz.func109,Tryz.ntmps109
 go_wp2
 go_ret
 exact⟨rfl,rfl⟩
theorem zJa (w:World):Calls Tryz.prog 109 #[.string ⟨#[43,61]⟩] w fun e w'=>e=.returned (.int .i64 1)∧w=w':=by
 go_enter Tryz.func109,Tryz.ntmps109
 go_wp2
 go_ret
 exact⟨rfl,rfl⟩
theorem zJb (w:World):Calls Tryz.prog 109 #[.string ⟨#[45,61]⟩] w fun e w'=>e=.returned (.int .i64 1)∧w=w':=by
 go_enter Tryz.func109,Tryz.ntmps109
 go_wp2
 go_ret
 exact⟨rfl,rfl⟩
theorem zJc (w:World):Calls Tryz.prog 109 #[.string ⟨#[42,61]⟩] w fun e w'=>e=.returned (.int .i64 1)∧w=w':=by
 go_enter Tryz.func109,Tryz.ntmps109
 go_wp2
 go_ret
 exact⟨rfl,rfl⟩
theorem zJd (w:World):Calls Tryz.prog 109 #[.string ⟨#[47,61]⟩] w fun e w'=>e=.returned (.int .i64 1)∧w=w':=by
 go_enter Tryz.func109,Tryz.ntmps109
 go_wp2
 go_ret
 exact⟨rfl,rfl⟩
theorem zJe (w:World):Calls Tryz.prog 109 #[.string ⟨#[37,61]⟩] w fun e w'=>e=.returned (.int .i64 1)∧w=w':=by
 go_enter Tryz.func109,Tryz.ntmps109
 go_wp2
 go_ret
 exact⟨rfl,rfl⟩
theorem zJf (w:World):Calls Tryz.prog 109 #[.string ⟨#[38,61]⟩] w fun e w'=>e=.returned (.int .i64 1)∧w=w':=by
 go_enter Tryz.func109,Tryz.ntmps109
 go_wp2
 go_ret
 exact⟨rfl,rfl⟩
theorem zJg (w:World):Calls Tryz.prog 109 #[.string ⟨#[124,61]⟩] w fun e w'=>e=.returned (.int .i64 1)∧w=w':=by
 go_enter Tryz.func109,Tryz.ntmps109
 go_wp2
 go_ret
 exact⟨rfl,rfl⟩
theorem zJh (w:World):Calls Tryz.prog 109 #[.string ⟨#[94,61]⟩] w fun e w'=>e=.returned (.int .i64 1)∧w=w':=by
 go_enter Tryz.func109,Tryz.ntmps109
 go_wp2
 go_ret
 exact⟨rfl,rfl⟩
theorem zJi (w:World):Calls Tryz.prog 109 #[.string ⟨#[60,60,61]⟩] w fun e w'=>e=.returned (.int .i64 1)∧w=w':=by
 go_enter Tryz.func109,Tryz.ntmps109
 go_wp2
 go_ret
 exact⟨rfl,rfl⟩
theorem zJj (w:World):Calls Tryz.prog 109 #[.string ⟨#[62,62,61]⟩] w fun e w'=>e=.returned (.int .i64 1)∧w=w':=by
 go_enter Tryz.func109,Tryz.ntmps109
 go_wp2
 go_ret
 exact⟨rfl,rfl⟩
theorem zJk (w:World):Calls Tryz.prog 109 #[.string ⟨#[62,62,62,61]⟩] w fun e w'=>e=.returned (.int .i64 1)∧w=w':=by
 go_enter Tryz.func109,Tryz.ntmps109
 go_wp2
 go_ret
 exact⟨rfl,rfl⟩
theorem zJl (w:World):Calls Tryz.prog 109 #[.string ⟨#[43,43]⟩] w fun e w'=>e=.returned (.int .i64 1)∧w=w':=by
 go_enter Tryz.func109,Tryz.ntmps109
 go_wp2
 go_ret
 exact⟨rfl,rfl⟩
theorem zJm (w:World):Calls Tryz.prog 109 #[.string ⟨#[45,45]⟩] w fun e w'=>e=.returned (.int .i64 1)∧w=w':=by
 go_enter Tryz.func109,Tryz.ntmps109
 go_wp2
 go_ret
 exact⟨rfl,rfl⟩
theorem zJn (w:World):Calls Tryz.prog 109 #[.string ⟨#[60,60]⟩] w fun e w'=>e=.returned (.int .i64 1)∧w=w':=by
 go_enter Tryz.func109,Tryz.ntmps109
 go_wp2
 go_ret
 exact⟨rfl,rfl⟩
theorem zJo (w:World):Calls Tryz.prog 109 #[.string ⟨#[62,62]⟩] w fun e w'=>e=.returned (.int .i64 1)∧w=w':=by
 go_enter Tryz.func109,Tryz.ntmps109
 go_wp2
 go_ret
 exact⟨rfl,rfl⟩
theorem zJp (w:World):Calls Tryz.prog 109 #[.string ⟨#[62,62,62]⟩] w fun e w'=>e=.returned (.int .i64 1)∧w=w':=by
 go_enter Tryz.func109,Tryz.ntmps109
 go_wp2
 go_ret
 exact⟨rfl,rfl⟩
theorem zJq (w:World):Calls Tryz.prog 109 #[.string ⟨#[61,62]⟩] w fun e w'=>e=.returned (.int .i64 1)∧w=w':=by
 go_enter Tryz.func109,Tryz.ntmps109
 go_wp2
 go_ret
 exact⟨rfl,rfl⟩
theorem zL3 (w:World):Calls Tryz.prog 109 #[.string ⟨#[46,46,46]⟩] w fun e w'=>e=.returned (.int .i64 2)∧w=w':=by
 go_enter Tryz.func109,Tryz.ntmps109
 go_wp2
 go_ret
 exact⟨rfl,rfl⟩
theorem zL4 (w:World):Calls Tryz.prog 109 #[.string ⟨#[63,46]⟩] w fun e w'=>e=.returned (.int .i64 2)∧w=w':=by
 go_enter Tryz.func109,Tryz.ntmps109
 go_wp2
 go_ret
 exact⟨rfl,rfl⟩
theorem zL5 (w:World):Calls Tryz.prog 109 #[.string ⟨#[42,42]⟩] w fun e w'=>e=.returned (.int .i64 2)∧w=w':=by
 go_enter Tryz.func109,Tryz.ntmps109
 go_wp2
 go_ret
 exact⟨rfl,rfl⟩
theorem zL6 (w:World):Calls Tryz.prog 109 #[.string ⟨#[42,42,61]⟩] w fun e w'=>e=.returned (.int .i64 2)∧w=w':=by
 go_enter Tryz.func109,Tryz.ntmps109
 go_wp2
 go_ret
 exact⟨rfl,rfl⟩
theorem zL7 (w:World):Calls Tryz.prog 109 #[.string ⟨#[38,38,61]⟩] w fun e w'=>e=.returned (.int .i64 2)∧w=w':=by
 go_enter Tryz.func109,Tryz.ntmps109
 go_wp2
 go_ret
 exact⟨rfl,rfl⟩
theorem zL8 (w:World):Calls Tryz.prog 109 #[.string ⟨#[124,124,61]⟩] w fun e w'=>e=.returned (.int .i64 2)∧w=w':=by
 go_enter Tryz.func109,Tryz.ntmps109
 go_wp2
 go_ret
 exact⟨rfl,rfl⟩
theorem zL9 (w:World):Calls Tryz.prog 109 #[.string ⟨#[63,63,61]⟩] w fun e w'=>e=.returned (.int .i64 2)∧w=w':=by
 go_enter Tryz.func109,Tryz.ntmps109
 go_wp2
 go_ret
 exact⟨rfl,rfl⟩
theorem zJr {s:ByteArray} (h1:s.data.toList∉zBf) (h2:s.data.toList∉zBU) (w:World):Calls Tryz.prog 109 #[.string s] w fun e w'=>e=.returned (.int .i64 0)∧w=w':=by
 have f0_0:(s.toList==[123])=false:=by rw[zZ];exact decide_eq_false fun h=>h1 (by rw[h];decide)
 have f0_1:(s.toList==[125])=false:=by rw[zZ];exact decide_eq_false fun h=>h1 (by rw[h];decide)
 have f0_2:(s.toList==[40])=false:=by rw[zZ];exact decide_eq_false fun h=>h1 (by rw[h];decide)
 have f0_3:(s.toList==[41])=false:=by rw[zZ];exact decide_eq_false fun h=>h1 (by rw[h];decide)
 have f0_4:(s.toList==[91])=false:=by rw[zZ];exact decide_eq_false fun h=>h1 (by rw[h];decide)
 have f0_5:(s.toList==[93])=false:=by rw[zZ];exact decide_eq_false fun h=>h1 (by rw[h];decide)
 have f0_6:(s.toList==[59])=false:=by rw[zZ];exact decide_eq_false fun h=>h1 (by rw[h];decide)
 have f0_7:(s.toList==[44])=false:=by rw[zZ];exact decide_eq_false fun h=>h1 (by rw[h];decide)
 have f0_8:(s.toList==[46])=false:=by rw[zZ];exact decide_eq_false fun h=>h1 (by rw[h];decide)
 have f0_9:(s.toList==[63])=false:=by rw[zZ];exact decide_eq_false fun h=>h1 (by rw[h];decide)
 have f0_10:(s.toList==[58])=false:=by rw[zZ];exact decide_eq_false fun h=>h1 (by rw[h];decide)
 have f0_11:(s.toList==[126])=false:=by rw[zZ];exact decide_eq_false fun h=>h1 (by rw[h];decide)
 have f0_12:(s.toList==[60])=false:=by rw[zZ];exact decide_eq_false fun h=>h1 (by rw[h];decide)
 have f0_13:(s.toList==[62])=false:=by rw[zZ];exact decide_eq_false fun h=>h1 (by rw[h];decide)
 have f0_14:(s.toList==[60,61])=false:=by rw[zZ];exact decide_eq_false fun h=>h1 (by rw[h];decide)
 have f0_15:(s.toList==[62,61])=false:=by rw[zZ];exact decide_eq_false fun h=>h1 (by rw[h];decide)
 have f0_16:(s.toList==[61,61])=false:=by rw[zZ];exact decide_eq_false fun h=>h1 (by rw[h];decide)
 have f0_17:(s.toList==[33,61])=false:=by rw[zZ];exact decide_eq_false fun h=>h1 (by rw[h];decide)
 have f0_18:(s.toList==[61,61,61])=false:=by rw[zZ];exact decide_eq_false fun h=>h1 (by rw[h];decide)
 have f0_19:(s.toList==[33,61,61])=false:=by rw[zZ];exact decide_eq_false fun h=>h1 (by rw[h];decide)
 have f0_20:(s.toList==[43])=false:=by rw[zZ];exact decide_eq_false fun h=>h1 (by rw[h];decide)
 have f0_21:(s.toList==[45])=false:=by rw[zZ];exact decide_eq_false fun h=>h1 (by rw[h];decide)
 have f0_22:(s.toList==[42])=false:=by rw[zZ];exact decide_eq_false fun h=>h1 (by rw[h];decide)
 have f0_23:(s.toList==[47])=false:=by rw[zZ];exact decide_eq_false fun h=>h1 (by rw[h];decide)
 have f0_24:(s.toList==[37])=false:=by rw[zZ];exact decide_eq_false fun h=>h1 (by rw[h];decide)
 have f0_25:(s.toList==[38])=false:=by rw[zZ];exact decide_eq_false fun h=>h1 (by rw[h];decide)
 have f0_26:(s.toList==[124])=false:=by rw[zZ];exact decide_eq_false fun h=>h1 (by rw[h];decide)
 have f0_27:(s.toList==[94])=false:=by rw[zZ];exact decide_eq_false fun h=>h1 (by rw[h];decide)
 have f0_28:(s.toList==[33])=false:=by rw[zZ];exact decide_eq_false fun h=>h1 (by rw[h];decide)
 have f0_29:(s.toList==[38,38])=false:=by rw[zZ];exact decide_eq_false fun h=>h1 (by rw[h];decide)
 have f0_30:(s.toList==[124,124])=false:=by rw[zZ];exact decide_eq_false fun h=>h1 (by rw[h];decide)
 have f0_31:(s.toList==[63,63])=false:=by rw[zZ];exact decide_eq_false fun h=>h1 (by rw[h];decide)
 have f0_32:(s.toList==[61])=false:=by rw[zZ];exact decide_eq_false fun h=>h1 (by rw[h];decide)
 have f0_33:(s.toList==[43,61])=false:=by rw[zZ];exact decide_eq_false fun h=>h1 (by rw[h];decide)
 have f0_34:(s.toList==[45,61])=false:=by rw[zZ];exact decide_eq_false fun h=>h1 (by rw[h];decide)
 have f0_35:(s.toList==[42,61])=false:=by rw[zZ];exact decide_eq_false fun h=>h1 (by rw[h];decide)
 have f0_36:(s.toList==[47,61])=false:=by rw[zZ];exact decide_eq_false fun h=>h1 (by rw[h];decide)
 have f0_37:(s.toList==[37,61])=false:=by rw[zZ];exact decide_eq_false fun h=>h1 (by rw[h];decide)
 have f0_38:(s.toList==[38,61])=false:=by rw[zZ];exact decide_eq_false fun h=>h1 (by rw[h];decide)
 have f0_39:(s.toList==[124,61])=false:=by rw[zZ];exact decide_eq_false fun h=>h1 (by rw[h];decide)
 have f0_40:(s.toList==[94,61])=false:=by rw[zZ];exact decide_eq_false fun h=>h1 (by rw[h];decide)
 have f0_41:(s.toList==[60,60,61])=false:=by rw[zZ];exact decide_eq_false fun h=>h1 (by rw[h];decide)
 have f0_42:(s.toList==[62,62,61])=false:=by rw[zZ];exact decide_eq_false fun h=>h1 (by rw[h];decide)
 have f0_43:(s.toList==[62,62,62,61])=false:=by rw[zZ];exact decide_eq_false fun h=>h1 (by rw[h];decide)
 have f0_44:(s.toList==[43,43])=false:=by rw[zZ];exact decide_eq_false fun h=>h1 (by rw[h];decide)
 have f0_45:(s.toList==[45,45])=false:=by rw[zZ];exact decide_eq_false fun h=>h1 (by rw[h];decide)
 have f0_46:(s.toList==[60,60])=false:=by rw[zZ];exact decide_eq_false fun h=>h1 (by rw[h];decide)
 have f0_47:(s.toList==[62,62])=false:=by rw[zZ];exact decide_eq_false fun h=>h1 (by rw[h];decide)
 have f0_48:(s.toList==[62,62,62])=false:=by rw[zZ];exact decide_eq_false fun h=>h1 (by rw[h];decide)
 have f0_49:(s.toList==[61,62])=false:=by rw[zZ];exact decide_eq_false fun h=>h1 (by rw[h];decide)
 have f1_0:(s.toList==[46,46,46])=false:=by rw[zZ];exact decide_eq_false fun h=>h2 (by rw[h];decide)
 have f1_1:(s.toList==[63,46])=false:=by rw[zZ];exact decide_eq_false fun h=>h2 (by rw[h];decide)
 have f1_2:(s.toList==[42,42])=false:=by rw[zZ];exact decide_eq_false fun h=>h2 (by rw[h];decide)
 have f1_3:(s.toList==[42,42,61])=false:=by rw[zZ];exact decide_eq_false fun h=>h2 (by rw[h];decide)
 have f1_4:(s.toList==[38,38,61])=false:=by rw[zZ];exact decide_eq_false fun h=>h2 (by rw[h];decide)
 have f1_5:(s.toList==[124,124,61])=false:=by rw[zZ];exact decide_eq_false fun h=>h2 (by rw[h];decide)
 have f1_6:(s.toList==[63,63,61])=false:=by rw[zZ];exact decide_eq_false fun h=>h2 (by rw[h];decide)
 clear h1 h2
 go_enter Tryz.func109,Tryz.ntmps109
 go_wp2
 go_ret
 exact⟨rfl,rfl⟩
theorem zMA (s:ByteArray) (w:World):Calls Tryz.prog 109 #[.string s] w fun e w'=>e=.returned (.int .i64 (zBK s.data.toList:Nat))∧w=w':=by
 by_cases h1:s.data.toList∈zBf
 · rw[show zBK s.data.toList=1 from if_pos h1]
   simp only[zBf,List.mem_cons,List.mem_nil_iff,or_false]at h1
   rcases h1 with h | h | h | h | h | h | h | h | h | h | h | h | h | h | h | h | h | h | h | h | h | h | h | h | h | h | h | h | h | h | h | h | h | h | h | h | h | h | h | h | h | h | h | h | h | h | h | h | h | h
   · rw[za h];exact zLt w
   · rw[za h];exact zLu w
   · rw[za h];exact zLv w
   · rw[za h];exact zLw w
   · rw[za h];exact zLx w
   · rw[za h];exact zLy w
   · rw[za h];exact zLz w
   · rw[za h];exact zL0 w
   · rw[za h];exact zL1 w
   · rw[za h];exact zL2 w
   · rw[za h];exact zJD w
   · rw[za h];exact zJE w
   · rw[za h];exact zJF w
   · rw[za h];exact zJG w
   · rw[za h];exact zJH w
   · rw[za h];exact zJI w
   · rw[za h];exact zJJ w
   · rw[za h];exact zJK w
   · rw[za h];exact zJL w
   · rw[za h];exact zJM w
   · rw[za h];exact zJN w
   · rw[za h];exact zJO w
   · rw[za h];exact zJP w
   · rw[za h];exact zJQ w
   · rw[za h];exact zJR w
   · rw[za h];exact zJS w
   · rw[za h];exact zJT w
   · rw[za h];exact zJU w
   · rw[za h];exact zJV w
   · rw[za h];exact zJW w
   · rw[za h];exact zJX w
   · rw[za h];exact zJY w
   · rw[za h];exact zJZ w
   · rw[za h];exact zJa w
   · rw[za h];exact zJb w
   · rw[za h];exact zJc w
   · rw[za h];exact zJd w
   · rw[za h];exact zJe w
   · rw[za h];exact zJf w
   · rw[za h];exact zJg w
   · rw[za h];exact zJh w
   · rw[za h];exact zJi w
   · rw[za h];exact zJj w
   · rw[za h];exact zJk w
   · rw[za h];exact zJl w
   · rw[za h];exact zJm w
   · rw[za h];exact zJn w
   · rw[za h];exact zJo w
   · rw[za h];exact zJp w
   · rw[za h];exact zJq w
 · by_cases h2:s.data.toList∈zBU
   · rw[show zBK s.data.toList=2 by unfold zBK;rw[if_neg h1,if_pos h2]]
     simp only[zBU,List.mem_cons,List.mem_nil_iff,or_false]at h2
     rcases h2 with h | h | h | h | h | h | h
     · rw[za h];exact zL3 w
     · rw[za h];exact zL4 w
     · rw[za h];exact zL5 w
     · rw[za h];exact zL6 w
     · rw[za h];exact zL7 w
     · rw[za h];exact zL8 w
     · rw[za h];exact zL9 w
   · rw[show zBK s.data.toList=0 by unfold zBK;rw[if_neg h1,if_neg h2]]
     exact zJr h1 h2 w
end Go.Proofs.YtlohaclgbfhijaaGreatDoor
