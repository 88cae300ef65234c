/- Joined for the claim ParseEnds: the parser, the lexer and the trees as they are walked, made short by a program of mine. -/
import Derived.Deep.LoopGhost
import Derived.Test.YtlohaclgbfhijaaGreatDoorS04
import Derived.Test.YtlohaclgbfhijaaGreatDoorS09
import Derived.Test.YtlohaclgbfhijaaGreatDoorS03
import Derived.Deep.RegionHeld3
import Derived.Deep.CutBlock
import Derived.Deep.DeepCutAuto
import Derived.Test.YtlohaclgbfhijaaGreatDoorS05
set_option maxHeartbeats 16000000
set_option maxRecDepth 1000000
namespace Go.Proofs.YtlohaclgbfhijaaGreatDoor
open Go.RowKit
theorem zHw {a b:Bool} {m n:Nat} (h:a=b) (h2:m=n):Ending.returned (.tuple #[.bool a,.int .i64 (m:Int)])=.returned (.tuple #[.bool b,.int .i64 (n:Int)]):=by rw[h,h2]
def AtRem (long:Bool) (u:List UInt16) (k p:Nat) (b d:Bool):Prop:=∃i,p=k+2+i∧zBQ long (u.drop (k+2)) false false=zCG i (zBQ long (u.drop p) b d)
theorem AtRem.step {long:Bool} {u:List UInt16} {k p:Nat} {b d:Bool} (h:AtRem long u k p b d) (hp:p < u.length) (h1:(long&&zi [42,47] (u.drop p))=false) (h2:(!long &&zw u[p])=false):
 AtRem long u k (p+1) (b || zw u[p]) (d || zFR u[p]):=by
 obtain⟨i,hi,he⟩:=h
 refine⟨i+1,by omega,?_⟩
 have hd:u.drop p=u[p]::u.drop (p+1):=List.drop_eq_getElem_cons hp
 rw[he,hd,zBQ,if_neg (by rw[←hd,h1];simp),if_neg (by rw[h2];simp)]
 simp only[zCG]
 congr 1
 omega
theorem AtRem.close {u:List UInt16} {k p:Nat} {b d:Bool} (h:AtRem true u k p b d) (hp:p < u.length) (h1:zi [42,47] (u.drop p)=true):
 zBQ true (u.drop (k+2)) false false=(p - (k+2)+2,b,zFS d)∧k+2≤p:=by
 obtain⟨i,hi,he⟩:=h
 have hd:u.drop p=u[p]::u.drop (p+1):=List.drop_eq_getElem_cons hp
 refine⟨?_,by omega⟩
 rw[he,hd,zBQ,if_pos (by rw[←hd,h1];rfl)]
 simp only[zCG]
 congr 1
 omega
theorem AtRem.line {u:List UInt16} {k p:Nat} {b d:Bool} (h:AtRem false u k p b d) (hp:p < u.length) (h1:zw u[p]=true):
 zBQ false (u.drop (k+2)) false false=(p - (k+2),false,zFS d)∧k+2≤p:=by
 obtain⟨i,hi,he⟩:=h
 have hd:u.drop p=u[p]::u.drop (p+1):=List.drop_eq_getElem_cons hp
 refine⟨?_,by omega⟩
 rw[he,hd,zBQ,if_neg (by simp),if_pos (by rw[h1];rfl)]
 simp only[zCG]
 congr 1
 omega
theorem AtRem.stop {long:Bool} {u:List UInt16} {k:Nat} {b d:Bool} (h:AtRem long u k u.length b d):
 zBQ long (u.drop (k+2)) false false=(u.length - (k+2),false,if long=true then 5 else zFS d)∧k+2≤u.length:=by
 obtain⟨i,hi,he⟩:=h
 refine⟨?_,by omega⟩
 rw[he,List.drop_length,zBQ]
 simp only[zCG]
 congr 1
 omega
theorem zRy {u:List UInt16} {k m e:Nat} {nl:Bool} {long:Bool} (hlong:zi [47,42] (u.drop k)=long) (hq:zq (u.drop k)=(m,nl,e)):∀(i:Nat) (b:Bool) (e':Nat),zBQ long (u.drop (k+2)) false false=(i,b,e')→2+i=m∧b=nl∧e'=e:=by
 intro i b e' h
 unfold zq at hq
 rw[hlong,List.drop_drop,h]at hq
 simpa [zCG]using hq
theorem zCM {A:Option Addr} {c g B k n:Nat} {u:List UInt16} {w:World} (hr:Rd w g A n c k) (hn:u.length=n) (ha:Reads w B 1 A n (zAH u)) (hB:B≤g) (hk:k+2≤n) (hl:n≤4096) {m e:Nat} {nl:Bool} (hq:zq (u.drop k)=(m,nl,e)):
 Calls Tryz.prog 65 #[.pointer (some ⟨g,0,none⟩)] w fun ev w'=>ev=.returned (.tuple #[.bool nl,.int .i64 (e:Int)])∧Mv w w' g A n c (k+m):=by
 subst hn
 obtain⟨long,hlong⟩:∃q,zi [47,42] (u.drop k)=q:=⟨_,rfl⟩
 have HQ:=zD (zRy hlong hq)
 have HL:=zD hlong
 have HA:=zD ha
 have HR:=zD hr
 have hg:=hr.lt
 clear hq hlong ha hr
 go_enter Tryz.func65,Tryz.ntmps65
 go_wp2_with fail
 refine(zAV ⟨#[47,42]⟩ HR.out rfl HA.out (by omega) hl (by decide) HL.out).mono ?_
 rintro e1 w1 ⟨rfl,m1,hw1⟩
 subst hw1
 have hc0:=HR.out.c0
 have hc1:=HR.out.c1
 have hf1:=HR.out.f1
 go_wp2
 have hM0:=zD (Mv.step ((Mv.refl HR.out).drewN m1) (z:=(k:Int)+2) (k':=k+2) (by omega))
 clear hc0 hc1 hf1
 go_loopg [5,6] (u.length - (k+2)) (fun r a st wr=>∃p b d,p+r=u.length∧a=.bool b∧st=.bool d∧Hid (Mv w wr g A u.length c p)∧Hid (AtRem long u k p b d))
 case atStart=>exact⟨k+2,false,false,by omega,rfl,rfl,hM0,0,by omega,by simp[zCG]⟩
 case round=>
  obtain⟨p,b,d,hpr,rfl,rfl,hM,hat⟩:=hrel
  have hc0:=hM.out.rd.c0
  have hc1:=hM.out.rd.c1
  have hf1:=hM.out.rd.f1
  have har:=zD (HA.out.grown hM.out.grown hB (Nat.le_of_lt hg))
  by_cases hlt:p < u.length
  · have hlt2:(p:Int) < (u.length:Int):=by omega
    obtain⟨blk,off,rfl,_,hcell⟩:=har.out.spotL (by omega)
    have hca:=hcell p hlt
    have hStep:=zD (fun h1 h2=>hat.out.step hlt h1 h2)
    have hClose:=zD (fun(e:long=true) h1=>(by subst e;exact hat.out.close hlt h1:zBQ long (u.drop (k+2)) false false=(p - (k+2)+2,b,zFS d)∧k+2≤p))
    have hLine:=zD (fun(e:long=false) h1=>(by subst e;exact hat.out.line hlt h1:zBQ long (u.drop (k+2)) false false=(p - (k+2),false,zFS d)∧k+2≤p))
    obtain⟨x,hx⟩:∃x,u[p]=x:=⟨_,rfl⟩
    rw[hx]at hca hStep hLine
    obtain⟨st,hst⟩:∃q,zi [42,47] (u.drop p)=q:=⟨_,rfl⟩
    have HST:=zD hst
    rw[hst]at hStep hClose
    clear hcell hx hst
    cases long with
    | true=>
     cases st with
     | true=>
      have hcl:=zD (hClose.out rfl rfl)
      go_wp2_with fail
      go_quiet (fail)
      go_wp2_with fail
      go_quiet (fail)
      go_wp2_with (first | (go_at_call 64;refine(zAV ⟨#[42,47]⟩ (hM.out.rd.drewN _) rfl (har.out.drewN _) (by omega) hl (by decide) HST.out).mono ?_;rintro e2 w2 ⟨rfl,m2,hw2⟩;subst hw2) | (go_at_call 99;refine(zEM _ _).mono ?_;rintro e2 w2 ⟨rfl,rfl⟩))
      go_ret2
      obtain⟨q1,q2⟩:=hcl.out
      obtain⟨z1,z2,z3⟩:=HQ.out _ _ _ q1
      exact⟨zHw z2 z3,by rw[show k+m=p+2 by omega];exact Mv.step ((hM.out.drewN _)) (by omega)⟩
     | false=>
      have hsp:=zD (hStep.out rfl rfl)
      cases b
      all_goals cases d
      all_goals
       go_wp2_with fail
       go_quiet (fail)
       go_wp2_with fail
       go_quiet (fail)
       go_wp2_with (first | (go_at_call 64;refine(zAV ⟨#[42,47]⟩ (hM.out.rd.drewN _) rfl (har.out.drewN _) (by omega) hl (by decide) HST.out).mono ?_;rintro e2 w2 ⟨rfl,m2,hw2⟩;subst hw2) | (go_at_call 63;refine(zAI _ _).mono ?_;rintro e2 w2 ⟨rfl,rfl⟩) | (go_at_call 100;refine(zAj _ _).mono ?_;rintro e2 w2 ⟨rfl,rfl⟩))
       go_roundg (gk - 1)
       case measure=>omega
       case rel=>exact⟨p+1,_,_,by omega,rfl,rfl,Mv.step (hM.out.drewN _) (by omega),hsp.out⟩
    | false=>
     cases hln:zw x with
     | true=>
      have hcl:=zD (hLine.out rfl hln)
      go_wp2_with fail
      go_quiet (fail)
      go_wp2_with fail
      go_quiet (fail)
      go_wp2_with (first | (go_at_call 63;refine(zAI _ _).mono ?_;rintro e2 w2 ⟨rfl,rfl⟩) | (go_at_call 99;refine(zEM _ _).mono ?_;rintro e2 w2 ⟨rfl,rfl⟩))
      go_ret2
      obtain⟨q1,q2⟩:=hcl.out
      obtain⟨z1,z2,z3⟩:=HQ.out _ _ _ q1
      exact⟨zHw z2 z3,by rw[show k+m=p by omega];exact hM.out.drewN _⟩
     | false=>
      have hsp:=zD (hStep.out (by rfl) (by rw[hln];rfl))
      have HLN:=zD hln
      cases b
      all_goals cases d
      all_goals
       go_wp2_with fail
       go_quiet (fail)
       go_wp2_with fail
       go_quiet (fail)
       go_wp2_with (first | (go_at_call 63;refine(zAI _ _).mono ?_;rintro e2 w2 ⟨rfl,rfl⟩) | (go_at_call 100;refine(zAj _ _).mono ?_;rintro e2 w2 ⟨rfl,rfl⟩))
       go_roundg (gk - 1)
       case measure=>omega
       case rel=>exact⟨p+1,_,_,by omega,rfl,rfl,Mv.step (hM.out.drewN _) (by omega),by first | exact hsp.out | (have z:=hsp.out;rw[HLN.out]at z;exact z)⟩
  · obtain rfl:p=u.length:=by have:=hM.out;omega
    have hst:=zD hat.out.stop
    cases long with
    | true=>
     go_wp2_with fail
     go_quiet (fail)
     go_wp2
     go_ret2
     obtain⟨q1,q2⟩:=hst.out
     obtain⟨z1,z2,z3⟩:=HQ.out _ _ _ q1
     exact⟨zHw (n:=e) (m:=5) z2 z3,by rw[show k+m=u.length by omega];exact hM.out.drewN _⟩
    | false=>
     go_wp2_with fail
     go_quiet (fail)
     go_wp2_with (go_at_call 99;refine(zEM _ _).mono ?_;rintro e2 w2 ⟨rfl,rfl⟩)
     go_ret2
     obtain⟨q1,q2⟩:=hst.out
     obtain⟨z1,z2,z3⟩:=HQ.out _ _ _ q1
     exact⟨zHw z2 z3,by rw[show k+m=u.length by omega];exact hM.out.drewN _⟩
theorem zBl {a b:Bool} (h:(a || b)=false):a=false∧b=false:=by cases a<;>simp_all
theorem zMZ {b:Bool} (h:(false || b)=true):b=true:=h
theorem zMa {a b:Bool} {m n p q:Nat} (h:a=b) (h2:m=n) (h3:p=q):Ending.returned (.tuple #[.bool a,.int .i64 (m:Int),.int .i64 (p:Int)])=.returned (.tuple #[.bool b,.int .i64 (n:Int),.int .i64 (q:Int)]):=by rw[h,h2,h3]
def AtPass (u:List UInt16) (k p:Nat) (b:Bool):Prop:=∃i,p=k+i∧zA4 (u.drop k) false=zCG i (zA4 (u.drop p) b)
theorem AtPass.blank {u:List UInt16} {k p:Nat} {b:Bool} (h:AtPass u k p b) (hp:p < u.length) (h1:(zFQ u[p] || zw u[p])=true):AtPass u k (p+1) (b || zw u[p]):=by
 obtain⟨i,hi,he⟩:=h
 refine⟨i+1,by omega,?_⟩
 rw[he,List.drop_eq_getElem_cons hp,zCK h1]
 simp only[zCG]
 congr 1
 omega
theorem AtPass.remark {u:List UInt16} {k p m:Nat} {b nl:Bool} (h:AtPass u k p b) (hp:p < u.length) (h1:(zFQ u[p] || zw u[p])=false) (h2:(zi [47,47] (u.drop p) || zi [47,42] (u.drop p))=true)
 (hq:zq (u.drop p)=(m,nl,0)):AtPass u k (p+m) (b || nl):=by
 obtain⟨i,hi,he⟩:=h
 refine⟨i+m,by omega,?_⟩
 have hd:u.drop p=u[p]::u.drop (p+1):=List.drop_eq_getElem_cons hp
 rw[hd]at hq h2
 rw[he,hd,zBx h1 h2,hq,if_neg (by simp),←hd,List.drop_drop]
 simp only[zCG]
 congr 1
 omega
theorem AtPass.bad {u:List UInt16} {k p m e:Nat} {b nl:Bool} (h:AtPass u k p b) (hp:p < u.length) (h1:(zFQ u[p] || zw u[p])=false) (h2:(zi [47,47] (u.drop p) || zi [47,42] (u.drop p))=true)
 (hq:zq (u.drop p)=(m,nl,e)) (he0:e≠0):zA4 (u.drop k) false=(p - k,false,e)∧k≤p:=by
 obtain⟨i,hi,he⟩:=h
 refine⟨?_,by omega⟩
 have hd:u.drop p=u[p]::u.drop (p+1):=List.drop_eq_getElem_cons hp
 rw[hd]at hq h2
 rw[he,hd,zBx h1 h2,hq,if_pos he0]
 simp only[zCG]
 congr 1
 omega
theorem AtPass.halt {u:List UInt16} {k p:Nat} {b:Bool} (h:AtPass u k p b) (hp:p < u.length) (h1:(zFQ u[p] || zw u[p])=false) (h2:(zi [47,47] (u.drop p) || zi [47,42] (u.drop p))=false):
 zA4 (u.drop k) false=(p - k,b,0)∧k≤p:=by
 obtain⟨i,hi,he⟩:=h
 refine⟨?_,by omega⟩
 have hd:u.drop p=u[p]::u.drop (p+1):=List.drop_eq_getElem_cons hp
 rw[hd]at h2
 rw[he,hd,zCy h1 h2]
 simp only[zCG]
 congr 1
 omega
theorem AtPass.stop {u:List UInt16} {k:Nat} {b:Bool} (h:AtPass u k u.length b):zA4 (u.drop k) false=(u.length - k,b,0)∧k≤u.length:=by
 obtain⟨i,hi,he⟩:=h
 refine⟨?_,by omega⟩
 rw[he,List.drop_length,zGA]
 simp only[zCG]
 congr 1
 omega
theorem zQy {u:List UInt16} {k m e:Nat} {nl:Bool} (hq:zd (u.drop k)=(m,nl,e)):∀(i:Nat) (b:Bool) (e':Nat),zA4 (u.drop k) false=(i,b,e')→i=m∧b=nl∧e'=e:=by
 intro i b e' h
 have:zd (u.drop k)=zA4 (u.drop k) false:=rfl
 rw[this,h]at hq
 simpa using hq
theorem zMb {A:Option Addr} {c g B k n:Nat} {u:List UInt16} {w:World} (hr:Rd w g A n c k) (hn:u.length=n) (ha:Reads w B 1 A n (zAH u)) (hB:B≤g) (hk:k≤n) (hl:n≤4096) {m e:Nat} {nl:Bool} (hq:zd (u.drop k)=(m,nl,e)):
 Calls Tryz.prog 39 #[.pointer (some ⟨g,0,none⟩)] w fun ev w'=>(ev=.returned (.tuple #[.bool nl,.int .i64 ((if e=0 then 0 else k+m:Nat):Int),.int .i64 (e:Int)]))∧(e=0→Mv w w' g A n c (k+m))∧w.grownBy w' (some g):=by
 subst hn
 have HQ:=zD (zQy hq)
 have HA:=zD ha
 have HR:=zD hr
 have hg:=hr.lt
 have hM0:=zD (Mv.refl hr)
 clear hq ha hr
 go_enter Tryz.func39,Tryz.ntmps39
 go_wp2
 go_step3
 go_wp2
 go_step3
 go_wp2
 go_loopg [5] (u.length - k) (fun r a wr=>∃p b,p+r=u.length∧a=.bool b∧Hid (Mv w wr g A u.length c p)∧Hid (AtPass u k p b))
 case atStart=>exact⟨k,false,by omega,rfl,hM0,0,rfl,by simp[zCG]⟩
 case round=>
  obtain⟨p,b,hpr,rfl,hM,hat⟩:=hrel
  have hc0:=hM.out.rd.c0
  have hc1:=hM.out.rd.c1
  have hf1:=hM.out.rd.f1
  have har:=zD (HA.out.grown hM.out.grown hB (Nat.le_of_lt hg))
  by_cases hlt:p < u.length
  · have hlt2:(p:Int) < (u.length:Int):=by omega
    obtain⟨blk,off,rfl,_,hcell⟩:=har.out.spotL (by omega)
    have hca:=hcell p hlt
    have hBlank:=zD (fun h1=>hat.out.blank hlt h1)
    have hRem:=zD (fun m nl h1 h2 hq=>hat.out.remark (m:=m) (nl:=nl) hlt h1 h2 hq)
    have hBad:=zD (fun m nl e h1 h2 hq he=>hat.out.bad (m:=m) (nl:=nl) (e:=e) hlt h1 h2 hq he)
    have hHalt:=zD (fun h1 h2=>hat.out.halt hlt h1 h2)
    obtain⟨x,hx⟩:∃x,u[p]=x:=⟨_,rfl⟩
    rw[hx]at hca hBlank hRem hBad hHalt
    clear hcell hx
    cases hbl:(zFQ x || zw x)with
    | true=>
     have hsp:=zD (hBlank.out hbl)
     cases hb1:zFQ x with
     | true=>
      cases b
      all_goals
       go_wp2_with fail
       go_quiet (fail)
       go_wp2_with fail
       go_quiet (fail)
       go_wp2_with (first | (go_at_call 63;refine(zAI _ _).mono ?_;rintro e2 w2 ⟨rfl,rfl⟩) | (go_at_call 62;refine(zBR _ _).mono ?_;rintro e2 w2 ⟨rfl,rfl⟩))
       go_roundg (gk - 1)
       case measure=>omega
       case rel=>exact⟨p+1,_,by omega,rfl,Mv.step (hM.out.drewN _) (by omega),hsp.out⟩
     | false=>
      have hl1:zw x=true:=by rw[hb1]at hbl;exact hbl
      cases b
      all_goals
       go_wp2_with fail
       go_quiet (fail)
       go_wp2_with fail
       go_quiet (fail)
       go_wp2_with (first | (go_at_call 63;refine(zAI _ _).mono ?_;rintro e2 w2 ⟨rfl,rfl⟩) | (go_at_call 62;refine(zBR _ _).mono ?_;rintro e2 w2 ⟨rfl,rfl⟩))
       go_roundg (gk - 1)
       case measure=>omega
       case rel=>exact⟨p+1,_,by omega,rfl,Mv.step (hM.out.drewN _) (by omega),by first | exact hsp.out | (have z:=hsp.out;rw[hl1]at z;exact z)⟩
    | false=>
     have hb1:zFQ x=false:=(zBl hbl).1
     have hb2:zw x=false:=(zBl hbl).2
     have HBL:=zD hbl
     clear hbl
     obtain⟨s1,hs1⟩:∃q,zi [47,47] (u.drop p)=q:=⟨_,rfl⟩
     obtain⟨s2,hs2⟩:∃q,zi [47,42] (u.drop p)=q:=⟨_,rfl⟩
     have HS1:=zD hs1
     have HS2:=zD hs2
     have HS:=zD (show(zi [47,47] (u.drop p) || zi [47,42] (u.drop p))=(s1 || s2) by rw[hs1,hs2])
     clear hs1 hs2
     cases hss:(s1 || s2)with
     | false=>
      have h1:s1=false:=(zBl hss).1
      have h2:s2=false:=(zBl hss).2
      have hcl:=zD (hHalt.out HBL.out (by rw[HS.out,hss]))
      subst h1 h2
      clear hss
      go_wp2_with fail
      go_quiet (fail)
      go_wp2_with fail
      go_quiet (fail)
      go_wp2_with (first | (go_at_call 63;refine(zAI _ _).mono ?_;rintro e2 w2 ⟨rfl,rfl⟩) | (go_at_call 62;refine(zBR _ _).mono ?_;rintro e2 w2 ⟨rfl,rfl⟩))
      refine(zAV ⟨#[47,47]⟩ (hM.out.rd.drewN _) rfl (har.out.drewN _) (by omega) hl (by decide) HS1.out).mono ?_
      rintro e2 w2 ⟨rfl,m2,hw2⟩
      subst hw2
      go_wp2_with fail
      refine(zAV ⟨#[47,42]⟩ (hM.out.rd.drewN _) rfl (har.out.drewN _) (by omega) hl (by decide) HS2.out).mono ?_
      rintro e3 w3 ⟨rfl,m3,hw3⟩
      subst hw3
      go_wp2
      (try rw[Exit.noGoto_ret])
      go_ret3
      obtain⟨q1,q2⟩:=hcl.out
      obtain⟨z1,z2,z3⟩:=HQ.out _ _ _ q1
      subst z1 z2 z3
      exact⟨rfl,fun _=>by rw[show k+(p - k)=p by omega];exact hM.out.drewN _,(hM.out.drewN _).grown⟩
     | true=>
      obtain⟨⟨rm,rnl,re⟩,hrem⟩:∃z,zq (u.drop p)=z:=⟨_,rfl⟩
      have hp2:p+2≤u.length:=by
       have:=zBm (l:=u.drop p) (by rw[HS.out,hss])
       rw[List.length_drop]at this
       omega
      have hrl:=zCd (l:=u.drop p) (by rw[List.length_drop];omega)
      rw[hrem,List.length_drop]at hrl
      have HREM:=zD hrem
      by_cases he0:re=0
      · subst he0
        have hsp:=zD (hRem.out rm rnl HBL.out (by rw[HS.out,hss]) hrem)
        clear hrem
        cases s1 with
        | true=>
         cases b
         all_goals
          go_wp2_with fail
          go_quiet (fail)
          go_wp2_with fail
          go_quiet (fail)
          go_wp2_with (first | (go_at_call 63;refine(zAI _ _).mono ?_;rintro e2 w2 ⟨rfl,rfl⟩) | (go_at_call 62;refine(zBR _ _).mono ?_;rintro e2 w2 ⟨rfl,rfl⟩))
          refine(zAV ⟨#[47,47]⟩ (hM.out.rd.drewN _) rfl (har.out.drewN _) (by omega) hl (by decide) HS1.out).mono ?_
          rintro e2 w2 ⟨rfl,m2,hw2⟩
          subst hw2
          go_wp2_with fail
          refine(zCM (hM.out.rd.drewN _) rfl (har.out.drewN _) hB hp2 hl HREM.out).mono ?_
          rintro e4 w4 ⟨rfl,hM3⟩
          go_wp2
          go_roundg (u.length - (p+rm))
          case measure=>omega
          case rel=>exact⟨p+rm,_,by omega,rfl,Mv.then (hM.out.drewN _) hM3,hsp.out⟩
        | false=>
         obtain rfl:s2=true:=zMZ hss
         cases b
         all_goals
          go_wp2_with fail
          go_quiet (fail)
          go_wp2_with fail
          go_quiet (fail)
          go_wp2_with (first | (go_at_call 63;refine(zAI _ _).mono ?_;rintro e2 w2 ⟨rfl,rfl⟩) | (go_at_call 62;refine(zBR _ _).mono ?_;rintro e2 w2 ⟨rfl,rfl⟩))
          refine(zAV ⟨#[47,47]⟩ (hM.out.rd.drewN _) rfl (har.out.drewN _) (by omega) hl (by decide) HS1.out).mono ?_
          rintro e2 w2 ⟨rfl,m2,hw2⟩
          subst hw2
          go_wp2_with fail
          refine(zAV ⟨#[47,42]⟩ (hM.out.rd.drewN _) rfl (har.out.drewN _) (by omega) hl (by decide) HS2.out).mono ?_
          rintro e3 w3 ⟨rfl,m3,hw3⟩
          subst hw3
          go_wp2_with fail
          refine(zCM (hM.out.rd.drewN _) rfl (har.out.drewN _) hB hp2 hl HREM.out).mono ?_
          rintro e4 w4 ⟨rfl,hM3⟩
          go_wp2
          go_roundg (u.length - (p+rm))
          case measure=>omega
          case rel=>exact⟨p+rm,_,by omega,rfl,Mv.then (hM.out.drewN _) hM3,hsp.out⟩
      · have he1:((re:Int) !=0)=true:=by rw[bne_iff_ne];omega
        have hcl:=zD (hBad.out rm rnl re HBL.out (by rw[HS.out,hss]) hrem he0)
        clear hrem
        cases s1 with
        | true=>
         go_wp2_with fail
         go_quiet (fail)
         go_wp2_with fail
         go_quiet (fail)
         go_wp2_with (first | (go_at_call 63;refine(zAI _ _).mono ?_;rintro e2 w2 ⟨rfl,rfl⟩) | (go_at_call 62;refine(zBR _ _).mono ?_;rintro e2 w2 ⟨rfl,rfl⟩))
         refine(zAV ⟨#[47,47]⟩ (hM.out.rd.drewN _) rfl (har.out.drewN _) (by omega) hl (by decide) HS1.out).mono ?_
         rintro e2 w2 ⟨rfl,m2,hw2⟩
         subst hw2
         go_wp2_with fail
         refine(zCM (hM.out.rd.drewN _) rfl (har.out.drewN _) hB hp2 hl HREM.out).mono ?_
         rintro e4 w4 ⟨rfl,hM3⟩
         go_wp2
         (try rw[Exit.noGoto_ret])
         go_ret3
         obtain⟨q1,q2⟩:=hcl.out
         obtain⟨z1,z2,z3⟩:=HQ.out _ _ _ q1
         subst z1 z2 z3
         exact⟨zMa rfl (by rw[if_neg he0];omega) rfl,fun h=>absurd h he0,(Mv.then (hM.out.drewN _) hM3).grown⟩
        | false=>
         obtain rfl:s2=true:=zMZ hss
         go_wp2_with fail
         go_quiet (fail)
         go_wp2_with fail
         go_quiet (fail)
         go_wp2_with (first | (go_at_call 63;refine(zAI _ _).mono ?_;rintro e2 w2 ⟨rfl,rfl⟩) | (go_at_call 62;refine(zBR _ _).mono ?_;rintro e2 w2 ⟨rfl,rfl⟩))
         refine(zAV ⟨#[47,47]⟩ (hM.out.rd.drewN _) rfl (har.out.drewN _) (by omega) hl (by decide) HS1.out).mono ?_
         rintro e2 w2 ⟨rfl,m2,hw2⟩
         subst hw2
         go_wp2_with fail
         refine(zAV ⟨#[47,42]⟩ (hM.out.rd.drewN _) rfl (har.out.drewN _) (by omega) hl (by decide) HS2.out).mono ?_
         rintro e3 w3 ⟨rfl,m3,hw3⟩
         subst hw3
         go_wp2_with fail
         refine(zCM (hM.out.rd.drewN _) rfl (har.out.drewN _) hB hp2 hl HREM.out).mono ?_
         rintro e4 w4 ⟨rfl,hM3⟩
         go_wp2
         (try rw[Exit.noGoto_ret])
         go_ret3
         obtain⟨q1,q2⟩:=hcl.out
         obtain⟨z1,z2,z3⟩:=HQ.out _ _ _ q1
         subst z1 z2 z3
         exact⟨zMa rfl (by rw[if_neg he0];omega) rfl,fun h=>absurd h he0,(Mv.then (hM.out.drewN _) hM3).grown⟩
  · obtain rfl:p=u.length:=by omega
    have hst:=zD hat.out.stop
    go_wp2_with fail
    go_quiet (fail)
    go_wp2
    (try rw[Exit.noGoto_ret])
    go_ret3
    obtain⟨q1,q2⟩:=hst.out
    obtain⟨z1,z2,z3⟩:=HQ.out _ _ _ q1
    subst z1 z2 z3
    exact⟨rfl,fun _=>by rw[show k+(u.length - k)=u.length by omega];exact hM.out.drewN _,(hM.out.drewN _).grown⟩
def LexPost (q:List Tok×Nat×Nat) (w:World) (ev:Ending) (w':World):Prop:=
 ∃v,ev=.returned (.tuple #[v,.int .i64 (q.2.1:Int),.int .i64 (q.2.2:Int)])∧TokL w' w.heap.size q.1 v∧Below w.heap.size w w'
theorem LexPost.mk {q:List Tok×Nat×Nat} {w w':World} {v:Value} {ts:List Tok} {a e:Nat} (hq:q=(ts,a,e)) (h:TokL w' w.heap.size ts v) (hb:Below w.heap.size w w'):LexPost q w (.returned (.tuple #[v,.int .i64 (a:Int),.int .i64 (e:Int)])) w':=by
 subst hq
 exact⟨v,rfl,h,hb⟩
theorem zHE {A:Option Addr} {c B n:Nat} {u:List UInt16} {w:World} (hB:B≤w.heap.size) (hn:u.length=n) (ha:Reads w B 1 A n (zAH u)) (hc:n≤c) (_hc2:c≤maxLen):
 Calls Tryz.prog 19 #[.slice A n c] w (LexPost (zCH u) w):=by
 subst hn
 by_cases hlong:4096 < u.length
 · have HQ:=zD (show zCH u=([],0,3) by unfold zCH;rw[if_pos hlong])
   have hlong2:(4096:Int) < (u.length:Int):=by omega
   go_enter Tryz.func19,Tryz.ntmps19
   go_wp2_with fail
   go_ret3
   exact LexPost.mk HQ.out (TokL.nil _ _) (Below.refl _ _)
 · obtain⟨i0,hi0,hz0,hz1,hz2⟩:=info_parts Tryz.info_tok
   have hl:u.length≤4096:=by omega
   have HF:=zD (zBF hlong)
   have HA:=zD ha
   have HS0:=zD (show LxS w (w.alloc (.cells #[.slice A u.length c,.int .i64 0] 80)) A u.length c 0 (.slice none 0 0) []from
    ⟨⟨by go_simp,by go_simp,by go_simp⟩,(Below.refl _ _).alloc (Nat.le_refl _) _,TokL.nil _ _⟩)
   clear ha hlong
   go_enter Tryz.func19,Tryz.ntmps19
   go_wp2_with fail
   go_loopg [6] (u.length+1) (fun r v wr=>∃(p:Nat) (acc:List Tok),p+r=u.length+1∧Hid (LxS w wr A u.length c p v acc)∧Hid (AtLex u p acc))
   case atStart=>exact⟨0,[],by omega,HS0.out,AtLex.start u⟩
   case round=>
    obtain⟨p,acc,hpr,hS,hat⟩:=hrel
    have hpl:=hat.out.2.1
    have hacl:=hat.out.1
    obtain⟨⟨m,nl,e⟩,hpq⟩:∃q,zd (u.drop p)=q:=⟨_,rfl⟩
    have hple:=zEL (u.drop p)
    rw[hpq,List.length_drop]at hple
    simp only at hple
    have HPQ:=zD hpq
    clear hpq
    have har:=zD (HA.out.below (hS.out.below.mono hB))
    go_wp2_with fail
    refine(zMb hS.out.rd rfl har.out hB hpl hl HPQ.out).mono ?_
    rintro e1 w1 ⟨rfl,hM1,hG1⟩
    have HM1:=zD hM1
    have hb1:=zD (zDG hS.out.below hG1)
    clear hM1 hG1
    by_cases he:e=0
    · subst he
      have hS1:=zD (hS.out.mov (HM1.out rfl))
      clear hS HM1 har hb1
      have hc1:=hS1.out.rd.c1
      rw[if_pos rfl]
      obtain⟨k,hk⟩:∃k,p+m=k:=⟨_,rfl⟩
      rw[hk]at hS1 hc1
      have HK:=zD hk
      have hkl:k≤u.length:=by omega
      have hpk:p≤k:=by omega
      obtain⟨cs,ho,htc⟩:=hS1.out.toks
      obtain⟨Av,cv,hv,_,_⟩:=zb ho
      subst hv
      have HO:=zD ho
      have HTC:=zD htc
      have hbase:w.heap.size+1≤w1.heap.size:=hS1.out.rd.lt
      clear ho htc
      by_cases hend:k=u.length
      · have e1:((k:Int)==(u.length:Int))=true:=by rw[hend];simp
        have hlast:=zD (hat.out.last HPQ.out (by rw[HK.out];exact hend))
        have HEND:=zD hend
        clear hend hk
        go_wp2_with (at_builtin;refine zEY rfl _ _ 35 rfl 44 i0 _ 9 112 Tryz.underlying35 hi0 hz0 hz1 hz2 rfl (by decide) (w.heap.size+1) hbase (.slice Av acc.length cv) cs acc.length rfl HO.out (zDd (setAt zo k nl) (.slice none 0 0) (.slice none 0 0)) 1 1 w1.heap.size rfl rfl rfl rfl (by omega) (by omega) ?_;intro v' w' ho' hgr)
        go_ret3
        have htl:=TokL.snoc HO.out HTC.out (World.ownsRow_nil _ _ _ _) (World.ownsRow_nil _ _ _ _) ho' hgr
        have hS2:=hS1.out.app hgr htl
        rw[HEND.out]at hS2
        exact LexPost.mk (HF.out.trans hlast.out) (hS2.toks.base (by omega)) hS2.below
      · have e1:((k:Int)==(u.length:Int))=false:=beq_eq_false_iff_ne.2 (by omega)
        have hkl2:k < u.length:=by omega
        clear hend hk
        obtain⟨⟨e2,t,tk⟩,htq⟩:∃q,zAo (k==0) (u.drop k)=q:=⟨_,rfl⟩
        have HTQ:=zD htq
        clear htq
        have har:=zD (HA.out.below (hS1.out.below.mono hB))
        go_wp2_with fail
        refine(zJ2 (m:=tk) (e:=e2) (t:=t) hS1.out.rd rfl har.out hB hkl2 hl hc HTQ.out).mono ?_
        rintro e3 w3 ⟨v,rfl,hbad,hgood,hG3⟩
        have HBAD:=zD hbad
        have HGOOD:=zD hgood
        have HG3:=zD hG3
        clear hbad hgood hG3
        by_cases he2:e2=0
        · subst he2
          obtain⟨⟨vs,vm,hv,ho1,ho2⟩,hM4⟩:=HGOOD.out rfl
          subst hv
          obtain⟨As,c1,rfl,_,_⟩:=zb ho1
          obtain⟨Am,cm,rfl,_,_⟩:=zb ho2
          have hmore:=zD (hat.out.more HPQ.out (by rw[HK.out];exact hkl2) (by rw[HK.out];exact HTQ.out))
          rw[HK.out]at hmore
          have hS3:=zD (hS1.out.mov hM4)
          obtain⟨cs3,ho3,htc3⟩:=hS3.out.toks
          have HO3:=zD ho3
          have HTC3:=zD htc3
          have HO1:=zD (zAM ho1 hbase)
          have HO2:=zD (zAM ho2 hbase)
          have hbase3:w.heap.size+1≤w3.heap.size:=hS3.out.rd.lt
          clear ho1 ho2 ho3 htc3 hM4 HGOOD HBAD HO HTC
          go_wp2_with (at_builtin;refine zEY rfl _ _ 35 rfl 44 i0 _ 9 112 Tryz.underlying35 hi0 hz0 hz1 hz2 rfl (by decide) (w.heap.size+1) (by simp;omega) (.slice Av acc.length cv) cs3 acc.length rfl (HO3.out.alloc _) (zDd (setAt t k nl) (.slice As t.str.length c1) (.slice Am t.mag.length cm)) 1 1 (w3.heap.size+1) (by simp) rfl rfl rfl (by omega) (by omega) ?_;intro v' w' ho' hgr)
          have h1k:=hmore.out.2
          go_roundg (u.length+1 - (k+tk))
          case measure=>omega
          case rel=>
           refine⟨k+tk,acc++[setAt t k nl],?_,(hS3.out.new (zL w3 _ none)).app hgr (TokL.snoc (HO3.out.alloc _) (HTC3.out.map fun _ _ _ _ _ h=>h.alloc _) (HO1.out.alloc _) (HO2.out.alloc _) ho' hgr),hmore.out.1⟩
           have:=hmore.out.1.2.1
           omega
        · obtain rfl:=HBAD.out he2
          have e2':((e2:Int) !=0)=true:=by rw[bne_iff_ne];omega
          have hbq:=zD (hat.out.bad HPQ.out (by rw[HK.out];exact hkl2) (by rw[HK.out];exact HTQ.out) he2)
          clear he2
          unfold noV
          go_wp2_with fail
          go_ret3
          rw[HK.out]at hbq
          exact LexPost.mk (HF.out.trans hbq.out) (TokL.nil _ _) ((zDG hS1.out.below HG3.out).alloc (Nat.le_trans hS1.out.below.size HG3.out.size) _)
    · have hpp:=zD (hat.out.pass HPQ.out he)
      have e1:((e:Int) !=0)=true:=by rw[bne_iff_ne];omega
      rw[if_neg he]
      clear he
      go_wp2_with fail
      go_ret3
      exact LexPost.mk (HF.out.trans hpp.out) (TokL.nil _ _) hb1.out
theorem TokC.get {w:World} {base:Nat}:∀{ts:List Tok} {cs:List Value} (_:TokC w base ts cs) (i:Nat) (hi:i < ts.length),∃vs vm,(∀j,j < 9→cs[i*9+j]? =(zDd ts[i] vs vm)[j]?)∧w.ownsRow base 24 1 vs ts[i].str.length (zAH ts[i].str)∧w.ownsRow base 87 1 vm ts[i].mag.length (zBv ts[i].mag):=by
 intro ts
 induction ts with
 | nil=>intro cs h i hi;simp at hi
 | cons t r ih=>
  intro cs h i hi
  obtain⟨vs,vm,rest,rfl,h1,h2,h3⟩:=h
  cases i with
  | zero=>
   refine⟨vs,vm,fun j hj=>?_,h1,h2⟩
   rw[Nat.zero_mul,Nat.zero_add,List.getElem?_append_left (by simp[zDd];omega)]
   rfl
  | succ i=>
   obtain⟨vs',vm',g1,g2,g3⟩:=ih h3 i (by simpa using hi)
   refine⟨vs',vm',fun j hj=>?_,g2,g3⟩
   rw[List.getElem?_append_right (by simp[zDd];omega),show(i+1)*9+j - (zDd t vs vm).length=i*9+j by simp[zDd];omega]
   exact g1 j hj
structure TokAt (w:World) (base g i:Nat) (t:Tok) (As Am:Option Addr) (cs cm:Nat):Prop where
 k0:w.cell? ⟨g,i*9,none⟩=some (.int .i64 (t.kind:Int))
 k1:w.cell? ⟨g,i*9+1,none⟩=some (.string ⟨t.text.toArray⟩)
 k2:w.cell? ⟨g,i*9+2,none⟩=some (.slice As t.str.length cs)
 k3:w.cell? ⟨g,i*9+3,none⟩=some (.int .i64 t.nk)
 k4:w.cell? ⟨g,i*9+4,none⟩=some (.int .i64 t.nn)
 k5:w.cell? ⟨g,i*9+5,none⟩=some (.bool false)
 k6:w.cell? ⟨g,i*9+6,none⟩=some (.slice Am t.mag.length cm)
 k7:w.cell? ⟨g,i*9+7,none⟩=some (.int .i64 (t.pos:Int))
 k8:w.cell? ⟨g,i*9+8,none⟩=some (.bool t.nl)
 str:w.ownsRow base 24 1 (.slice As t.str.length cs) t.str.length (zAH t.str)
 mag:w.ownsRow base 87 1 (.slice Am t.mag.length cm) t.mag.length (zBv t.mag)
theorem TokL.shape {w:World} {base:Nat} {ts:List Tok} {v:Value} (h:TokL w base ts v):∃A c,v=.slice A ts.length c∧ts.length≤c∧c≤maxLen:=by
 obtain⟨cs,ho,_⟩:=h
 exact zb ho
theorem TokL.at_ {w:World} {base n c:Nat} {ts:List Tok} {A:Option Addr} (h:TokL w base ts (.slice A n c)) (h0:0 < ts.length):∃g,A=some ⟨g,0,none⟩∧base≤g∧g < w.heap.size∧∀i (hi:i < ts.length),∃As Am c1 c2,TokAt w base g i ts[i] As Am c1 c2:=by
 obtain⟨cs,ho,htc⟩:=h
 obtain⟨g,cap,hv,hgb,hgl⟩:=ho.form h0
 injection hv with hA hn hc
 subst hA hn hc
 refine⟨g,rfl,hgb,hgl,fun i hi=>?_⟩
 obtain⟨vs,vm,hc,h1,h2⟩:=htc.get i hi
 obtain⟨As,c1,rfl,_,_⟩:=zb h1
 obtain⟨Am,c2,rfl,_,_⟩:=zb h2
 have hcell:∀j (hj:j < 9),w.cell? ⟨g,i*9+j,none⟩=(zDd ts[i] (.slice As ts[i].str.length c1) (.slice Am ts[i].mag.length c2))[j]? :=by
  intro j hj
  rw[ho.cellAt (i*9+j) (by omega),hc j hj]
 exact⟨As,Am,c1,c2,⟨hcell 0 (by omega),hcell 1 (by omega),hcell 2 (by omega),hcell 3 (by omega),hcell 4 (by omega),hcell 5 (by omega),hcell 6 (by omega),hcell 7 (by omega),hcell 8 (by omega),h1,h2⟩⟩
structure Pc where
 g:Nat
 L:List Tok
 A:Option Addr
 N:Nat
 c:Nat
 w0:World
def zQS (L:List Tok) (s:Ps):Nat:=if s.bad=0 then 0 else(zM L s.far).pos
structure Pcx (C:Pc):Prop where
 lst:Lst C.L
 n:C.L.length=C.N
 n4:C.N≤4097
 tok:TokL C.w0 0 C.L (.slice C.A C.N C.c)
 lo:C.w0.heap.size≤C.g
def psV (C:Pc) (s:Ps):List Value:=[.slice C.A C.N C.c,.int .i64 (s.k:Int),.int .i64 (s.bad:Int),.int .i64 (zQS C.L s:Int)]
structure Pa (C:Pc) (s:Ps) (w:World):Prop where
 cx:Pcx C
 keep:Below C.w0.heap.size C.w0 w
 box:Bx w C.g 69 (psV C s)
 hi:s.k≤C.L.length - 1
section
variable {C:Pc} {s:Ps} {w w':World} {r:Option Nat}
theorem Pa.lt (h:Pa C s w):C.g < w.heap.size:=h.box.lt
theorem Pa.grown (h:Pa C s w) (hg:w.grownBy w' r) (hr:∀b,r=some b→C.g < b):Pa C s w':=
 ⟨h.cx,h.keep.grown hg h.keep.size (fun b hb=>by have:=hr b hb;have:=h.cx.lo;omega),h.box.grown hg (fun e=>by have:=hr _ e;omega),h.hi⟩
theorem Pa.new (h:Pa C s w) (hg:w.grownBy w' none):Pa C s w':=h.grown hg (fun b hb=>by cases hb)
theorem Pa.alloc (h:Pa C s w) (o:Obj):Pa C s (w.alloc o):=h.new (zL w o none)
theorem Pa.drew (h:Pa C s w):Pa C s w.drew:=h.new (zAc w none)
theorem Pa.c0 (h:Pa C s w):w.cell? ⟨C.g,0,none⟩=some (.slice C.A C.N C.c):=h.box.cell 0
theorem Pa.c1 (h:Pa C s w):w.cell? ⟨C.g,1,none⟩=some (.int .i64 (s.k:Int)):=h.box.cell 1
theorem Pa.c2 (h:Pa C s w):w.cell? ⟨C.g,2,none⟩=some (.int .i64 (s.bad:Int)):=h.box.cell 2
theorem Pa.c3 (h:Pa C s w):w.cell? ⟨C.g,3,none⟩=some (.int .i64 (zQS C.L s:Int)):=h.box.cell 3
theorem Pa.f (h:Pa C s w) (j:Nat):w.frozen? ⟨C.g,j,none⟩=false:=h.box.frozen j
theorem Pa.kN (h:Pa C s w):s.k < C.N:=by
 have:=h.hi
 have:=h.cx.lst.pos
 have:=h.cx.n
 omega
theorem Pa.to (h:Pa C s w) {z:Int} {k':Nat} (hz:z=(k':Int)) (hk:k'≤C.L.length - 1):Pa C {s with k:=k'} (w.setCell ⟨C.g,1,none⟩ (.int .i64 z)):=by
 subst hz
 exact⟨h.cx,h.keep.grown (zR w C.g 1 _) h.keep.size (fun b hb=>by injection hb with hb;have:=h.cx.lo;omega),h.box.set 1 _,hk⟩
theorem Pa.at_ (h:Pa C s w) (i:Nat) (hi:i < C.N):∃gT As Am c1 c2,C.A=some ⟨gT,0,none⟩∧gT < C.w0.heap.size∧TokAt w 0 gT i (zM C.L i) As Am c1 c2:=by
 have hn:=h.cx.n
 obtain⟨gT,h1,_,h3,h4⟩:=h.cx.tok.at_ (by omega)
 obtain⟨As,Am,c1,c2,t⟩:=h4 i (by omega)
 have e:C.L[i]'(by omega)=zM C.L i:=by
  unfold zM
  rw[List.getD_eq_getElem?_getD,List.getElem?_eq_getElem (by omega)]
  rfl
 rw[e]at t
 have hc:∀(j:Nat) (v:Value),C.w0.cell? ⟨gT,j,none⟩=some v→w.cell? ⟨gT,j,none⟩=some v:=fun j v hv=>(h.keep.cell (p:=⟨gT,j,none⟩) h3).trans hv
 exact⟨gT,As,Am,c1,c2,h1,h3,hc _ _ t.k0,hc _ _ t.k1,hc _ _ t.k2,hc _ _ t.k3,hc _ _ t.k4,hc _ _ t.k5,hc _ _ t.k6,hc _ _ t.k7,hc _ _ t.k8,zDM t.str h.keep,zDM t.mag h.keep⟩
def zRz (t:Tok) (As Am:Option Addr) (c1 c2:Nat):Value:=.agg #[.int .i64 (t.kind:Int),.string ⟨t.text.toArray⟩,.slice As t.str.length c1,.int .i64 t.nk,.int .i64 t.nn,.bool false,.slice Am t.mag.length c2,.int .i64 (t.pos:Int),.bool t.nl]
def zQz (t:Tok) (As Am:Option Addr) (c1 c2:Nat):List Value:=[.int .i64 (t.kind:Int),.string ⟨t.text.toArray⟩,.slice As t.str.length c1,.int .i64 t.nk,.int .i64 t.nn,.bool false,.slice Am t.mag.length c2,.int .i64 (t.pos:Int),.bool t.nl]
def zS2 (C:Pc) (s:Ps) (t:Tok) (w:World) (e:Ending) (w':World):Prop:=
 ∃As Am c1 c2,e=.returned (.agg #[.int .i64 (t.kind:Int),.string ⟨t.text.toArray⟩,.slice As t.str.length c1,.int .i64 t.nk,.int .i64 t.nn,.bool false,.slice Am t.mag.length c2,.int .i64 (t.pos:Int),.bool t.nl])∧
  w'.ownsRow 0 24 1 (.slice As t.str.length c1) t.str.length (zAH t.str)∧w'.ownsRow 0 87 1 (.slice Am t.mag.length c2) t.mag.length (zBv t.mag)∧Pa C s w'∧w.grownBy w' none
def zJ3 (C:Pc) (s:Ps) (b:Bool) (w:World) (e:Ending) (w':World):Prop:=e=.returned (.bool b)∧Pa C s w'∧w.grownBy w' none
def zSV (C:Pc) (s:Ps) (b:Bool) (w:World) (e:Ending) (w':World):Prop:=e=.returned (.bool b)∧Pa C s w'∧w.grownBy w' (some C.g)
def zR0 (C:Pc) (s:Ps) (w:World) (e:Ending) (w':World):Prop:=e=.returned (.tuple #[])∧Pa C s w'∧w.grownBy w' (some C.g)
def zSW (C:Pc) (r:List UInt8×Ps) (w:World) (e:Ending) (w':World):Prop:=e=.returned (.string ⟨r.1.toArray⟩)∧Pa C r.2 w'∧w.grownBy w' (some C.g)
def zCk (C:Pc) (r:Tr×Ps) (w:World) (e:Ending) (w':World):Prop:=
 ∃d0 d1 d2 d3 d4 d5 d6 d7 d8,e=.returned (.agg #[d0,d1,d2,d3,d4,d5,d6,d7,d8])∧TrC w' (w.heap.size≤·) r.1 [d0,d1,d2,d3,d4,d5,d6,d7,d8]∧Pa C r.2 w'∧w.grownBy w' (some C.g)
def LstQ (C:Pc) (r:Tr×Ps) (w:World) (e:Ending) (w':World):Prop:=
 ∃A n c,e=.returned (.slice A n c)∧r.1.subs.length=n∧n≤c∧c≤maxLen∧RowP w' (w.heap.size≤·) (.slice A n c) r.1.subs∧Pa C r.2 w'∧w.grownBy w' (some C.g)
theorem zAL (h:w.grownBy w' none) (r:Option Nat):w.grownBy w' r:=⟨h.os,h.tape,h.output,h.size,fun i hi _=>h.block i hi (by simp)⟩
theorem zBc {a:World} {R:Nat} (h:a.grownBy w r) (hR:a.heap.size≤R) (hg:w.grownBy w' (some R)):a.grownBy w' r:=
 ⟨hg.os.trans h.os,hg.tape.trans h.tape,hg.output.trans h.output,Nat.le_trans h.size hg.size,fun i hi hne=>(hg.block i (Nat.lt_of_lt_of_le hi h.size) (fun e=>by injection e with e;omega)).trans (h.block i hi hne)⟩
theorem zGV {a:World} {v:Value} (h:a.grownBy w r) (hv:∀b,v.ownBlock=some b→a.heap.size≤b) (hg:w.grownBy w' v.ownBlock):a.grownBy w' r:=
 ⟨hg.os.trans h.os,hg.tape.trans h.tape,hg.output.trans h.output,Nat.le_trans h.size hg.size,fun i hi hne=>(hg.block i (Nat.lt_of_lt_of_le hi h.size) (fun e=>by have:=hv i e.symm;omega)).trans (h.block i hi hne)⟩
end
theorem Tryz.info_pnode:(Tryz.prog.info? 72).map (fun i=>(i.zero,i.size,i.bytes))=some (some (.agg #[.int .i64 0,.string ⟨#[]⟩,.slice none 0 0,.int .i64 0,.int .i64 0,.bool false,.slice none 0 0,.slice none 0 0,.slice none 0 0]),9,144):=by kernel_rfl
theorem Bx.set9 {w:World} {R:Nat} {T:TypeId} {cs:List Value} {v0 v1 v2 v3 v4 v5 v6 v7 v8:Value} (h:Bx w R T cs) (hl:cs.length=9):Bx (((((((((w.setCell ⟨R,0,none⟩ v0).setCell ⟨R,1,none⟩ v1).setCell ⟨R,2,none⟩ v2).setCell ⟨R,3,none⟩ v3).setCell ⟨R,4,none⟩ v4).setCell ⟨R,5,none⟩ v5).setCell ⟨R,6,none⟩ v6).setCell ⟨R,7,none⟩ v7).setCell ⟨R,8,none⟩ v8) R T [v0,v1,v2,v3,v4,v5,v6,v7,v8]:=by
 have h9:=((((((((h.set 0 v0).set 1 v1).set 2 v2).set 3 v3).set 4 v4).set 5 v5).set 6 v6).set 7 v7).set 8 v8
 have e:((((((((cs.set 0 v0).set 1 v1).set 2 v2).set 3 v3).set 4 v4).set 5 v5).set 6 v6).set 7 v7).set 8 v8=[v0,v1,v2,v3,v4,v5,v6,v7,v8]:=by
  match cs,hl with
  | [_,_,_,_,_,_,_,_,_],_=>rfl
 rw[e]at h9
 exact h9
theorem Bx.drew {w:World} {R:Nat} {T:TypeId} {cs:List Value} (h:Bx w R T cs):Bx w.drew R T cs:=h
theorem zHx {P:Program} {f:Func} {Q:Ending→World→Prop} {a:Act} {W:World} {F:World→Prop} (h:F W) (k:∀V,F V→bodyPost P f Q .ret a V):bodyPost P f Q .ret a W:=k W h
theorem Bx.nine {w:World} {R:Nat} {T:TypeId} {v0 v1 v2 v3 v4 v5 v6 v7 v8:Value} (h:Bx w R T [v0,v1,v2,v3,v4,v5,v6,v7,v8]):
 w.cell? ⟨R,0,none⟩=some v0∧w.cell? ⟨R,1,none⟩=some v1∧w.cell? ⟨R,2,none⟩=some v2∧w.cell? ⟨R,3,none⟩=some v3∧w.cell? ⟨R,4,none⟩=some v4∧w.cell? ⟨R,5,none⟩=some v5∧w.cell? ⟨R,6,none⟩=some v6∧w.cell? ⟨R,7,none⟩=some v7∧w.cell? ⟨R,8,none⟩=some v8:=
 ⟨h.cell 0,h.cell 1,h.cell 2,h.cell 3,h.cell 4,h.cell 5,h.cell 6,h.cell 7,h.cell 8⟩
theorem Bx.nineF {w:World} {R:Nat} {T:TypeId} {cs:List Value} (h:Bx w R T cs):
 w.frozen? ⟨R,0,none⟩=false∧w.frozen? ⟨R,1,none⟩=false∧w.frozen? ⟨R,2,none⟩=false∧w.frozen? ⟨R,3,none⟩=false∧w.frozen? ⟨R,4,none⟩=false∧w.frozen? ⟨R,5,none⟩=false∧w.frozen? ⟨R,6,none⟩=false∧w.frozen? ⟨R,7,none⟩=false∧w.frozen? ⟨R,8,none⟩=false:=
 ⟨h.frozen 0,h.frozen 1,h.frozen 2,h.frozen 3,h.frozen 4,h.frozen 5,h.frozen 6,h.frozen 7,h.frozen 8⟩
theorem zEa {C:Pc} {s:Ps} {w:World} (h:Pa C s w):
 Calls Tryz.prog 59 #[.pointer (some ⟨C.g,0,none⟩)] w (zS2 C s (zM C.L s.k) w):=by
 have hkN:=h.kN
 obtain⟨W,hW⟩:∃W,w.alloc (.cells zAw.toArray 44)=W:=⟨_,rfl⟩
 have hg0:w.grownBy W none:=by rw[←hW];exact zL w _ none
 have hB0:Bx W w.heap.size 44 zAw:=by rw[←hW];exact Bx.new w zAw 44
 have HP:=zD (h.new hg0)
 have HP0:=zD h
 obtain⟨gT,As,Am,c1,c2,hA,hlt,t⟩:=HP.out.at_ s.k hkN
 have HT:=zD t
 have x0:=HP.out.c0
 have x1:=HP.out.c1
 rw[hA]at x0
 obtain⟨tk,htk⟩:∃tk,zM C.L s.k=tk:=⟨_,rfl⟩
 rw[htk]at t HT⊢
 obtain⟨y0,y1,y2,y3,y4,y5,y6,y7,y8,_,_⟩:=t
 obtain⟨k,hk⟩:∃k,s.k=k:=⟨_,rfl⟩
 rw[hk]at x1 y0 y1 y2 y3 y4 y5 y6 y7 y8 hkN
 have hlen:C.N≤4097:=h.cx.n4
 have HG0:=zD hg0
 have HB0:=zD hB0
 obtain⟨z0,z1,z2,z3,z4,z5,z6,z7,z8⟩:=hB0.nine
 obtain⟨f0,f1,f2,f3,f4,f5,f6,f7,f8⟩:=hB0.nineF
 obtain⟨X,hX⟩:∃X,w.heap.size=X:=⟨_,rfl⟩
 have HX:=zD hX
 unfold zAw at hW
 clear htk hA h hg0 hB0
 go_enter Tryz.func59,Tryz.ntmps59
 go_upto_region 1 with(fail)
 clear hW
 rw[hX]at z0 z1 z2 z3 z4 z5 z6 z7 z8 f0 f1 f2 f3 f4 f5 f6 f7 f8 HB0
 clear hX
 go_region
 all_goals go_wp2_with fail
 all_goals
  refine zHx (F:=fun V=>Bx V X 44 (zQz tk As Am c1 c2)∧W.grownBy V (some X)) ⟨(HB0.out.set9 rfl).drew,zF zBG (zAc _ _)⟩ ?_
  rintro V ⟨hb,hg⟩
  obtain⟨q0,q1,q2,q3,q4,q5,q6,q7,q8⟩:=hb.nine
  refine bodyPost_ret (v:=zRz tk As Am c1 c2) (by simp[results,Tryz.results59,go_sem,q0,q1,q2,q3,q4,q5,q6,q7,q8,zRz]) rfl ?_
  have hz:Fz W (fun _=>False) (some X):=.box HB0.out (by decide) (by decide) (by simp)
  have hXg:C.g < X:=by rw[←HX.out];exact HP0.out.lt
  refine⟨As,Am,c1,c2,rfl,zBa HT.out.str (.inl rfl) hg hz,zBa HT.out.mag (.inr rfl) hg hz,HP.out.grown hg (fun b e=>by injection e with e;omega),?_⟩
  exact zBc HG0.out (by rw[←HX.out];exact Nat.le_refl _) hg
theorem zHF (n k:Nat):((n:Int)==(k:Int))=(n==k):=by
 rw[Bool.eq_iff_iff,beq_iff_eq,beq_iff_eq]
 omega
def zSX (C:Pc) (s:Ps) (kd:Nat) (tx:List UInt8) (st:List UInt16) (nk nn:Int) (mg:List Nat) (ps:Nat) (nl:Bool) (w:World) (e:Ending) (w':World):Prop:=
 ∃As Am c1 c2,e=.returned (.agg #[.int .i64 (kd:Int),.string ⟨tx.toArray⟩,.slice As st.length c1,.int .i64 nk,.int .i64 nn,.bool false,.slice Am mg.length c2,.int .i64 (ps:Int),.bool nl])∧
  w'.ownsRow 0 24 1 (.slice As st.length c1) st.length (zAH st)∧w'.ownsRow 0 87 1 (.slice Am mg.length c2) mg.length (zBv mg)∧Pa C s w'∧w.grownBy w' none
theorem zm {C:Pc} {s:Ps} {w:World} (h:Pa C s w) {kd:Nat} {tx:List UInt8} {st:List UInt16} {nk nn:Int} {mg:List Nat} {ps:Nat} {nl:Bool} (ht:zM C.L s.k=⟨kd,tx,st,nk,nn,mg,ps,nl⟩):
 Calls Tryz.prog 59 #[.pointer (some ⟨C.g,0,none⟩)] w (zSX C s kd tx st nk nn mg ps nl w):=by
 have h1:=zEa h
 rw[ht]at h1
 exact h1
theorem zSY (c0 c1 c2 c3 c4 c5 c6 c7 c8:Value) (w:World):(Instr.field 44 (.agg #[c0,c1,c2,c3,c4,c5,c6,c7,c8]) 0).run Tryz.prog w=.ok c0 w:=by
 unfold Instr.field
 go_simp
 simp[asAgg]
theorem zS3 (c0 c1 c2 c3 c4 c5 c6 c7 c8:Value) (w:World):(Instr.field 44 (.agg #[c0,c1,c2,c3,c4,c5,c6,c7,c8]) 1).run Tryz.prog w=.ok c1 w:=by
 unfold Instr.field
 go_simp
 simp[asAgg]
theorem zS4 (c0 c1 c2 c3 c4 c5 c6 c7 c8:Value) (w:World):(Instr.field 44 (.agg #[c0,c1,c2,c3,c4,c5,c6,c7,c8]) 5).run Tryz.prog w=.ok c7 w:=by
 unfold Instr.field
 go_simp
 simp[asAgg]
theorem zJ4 (c0 c1 c2 c3 c4 c5 c6 c7 c8:Value) (w:World):(Instr.field 44 (.agg #[c0,c1,c2,c3,c4,c5,c6,c7,c8]) 6).run Tryz.prog w=.ok c8 w:=by
 unfold Instr.field
 go_simp
 simp[asAgg]
theorem zQT {t:Tok} {As Am:Option Addr} {c1 c2:Nat} {W:World} (w:List UInt8) {b:Bool} (hb:isT t w=b):
 Calls Tryz.prog 92 #[.agg #[.int .i64 (t.kind:Int),.string ⟨t.text.toArray⟩,.slice As t.str.length c1,.int .i64 t.nk,.int .i64 t.nn,.bool false,.slice Am t.mag.length c2,.int .i64 (t.pos:Int),.bool t.nl],.string ⟨w.toArray⟩] W fun e w'=>e=.returned (.bool b)∧W.grownBy w' none:=by
 go_enter Tryz.func92,Tryz.ntmps92
 go_wp2_with fail
 all_goals go_ret
 all_goals refine⟨?_,zL _ _ _⟩
 all_goals refine zf ?_
 all_goals rw[←hb]
 all_goals unfold isT
 · have h5:t.kind=5:=by omega
   simp[*]
 · rename_i h1 h2
   have e5:((t.kind:Int)==5)=(t.kind==5):=zHF t.kind 5
   have e6:((t.kind:Int)==6)=(t.kind==6):=zHF t.kind 6
   rw[h1,e5,e6]
   simp
 · simp[*]
theorem zCN {kd:Nat} {tx:List UInt8} {st:List UInt16} {nk nn:Int} {mg:List Nat} {ps:Nat} {nl:Bool} {As Am:Option Addr} {c1 c2:Nat} {W:World} (w:List UInt8) {b:Bool} (hb:isT ⟨kd,tx,st,nk,nn,mg,ps,nl⟩ w=b):
 Calls Tryz.prog 92 #[.agg #[.int .i64 (kd:Int),.string ⟨tx.toArray⟩,.slice As st.length c1,.int .i64 nk,.int .i64 nn,.bool false,.slice Am mg.length c2,.int .i64 (ps:Int),.bool nl],.string ⟨w.toArray⟩] W fun e w'=>e=.returned (.bool b)∧W.grownBy w' none:=zQT (t:=⟨kd,tx,st,nk,nn,mg,ps,nl⟩) w hb
theorem zAu {C:Pc} {s:Ps} {w:World} (h:Pa C s w) {b:Bool} (hb:(s.bad==0)=b):
 Calls Tryz.prog 141 #[.pointer (some ⟨C.g,0,none⟩)] w (zJ3 C s b w):=by
 have x2:=h.c2
 have HP:=zD h
 clear h
 go_enter Tryz.func141,Tryz.ntmps141
 go_wp2_with fail
 go_ret
 refine⟨zf ?_,HP.out,World.grownBy.refl _ _⟩
 rw[←hb]
 exact zHF s.bad 0
theorem zAR {C:Pc} {s:Ps} {w:World} (h:Pa C s w) (v:List UInt8) {b:Bool} (hb:onP C.L v s=b):
 Calls Tryz.prog 143 #[.pointer (some ⟨C.g,0,none⟩),.string ⟨v.toArray⟩] w (zJ3 C s b w):=by
 have HP:=zD h
 have HB:=zD hb
 clear h hb
 go_enter Tryz.func143,Tryz.ntmps143
 go_wp2_with fail
 refine(zEa HP.out).mono ?_
 rintro e1 w1 ⟨As,Am,c1,c2,rfl,_,_,hp1,hg1⟩
 have HP1:=zD hp1
 have HG1:=zD hg1
 clear hp1 hg1
 go_wp2_with fail
 refine(zQT v HB.out).mono ?_
 rintro e2 w2 ⟨rfl,hg2⟩
 have HG2:=zD hg2
 clear hg2
 go_wp2_with fail
 go_ret
 exact⟨rfl,HP1.out.new HG2.out,zF HG1.out HG2.out⟩
theorem Pa.last {C:Pc} {s:Ps} {w:World} (h:Pa C s w):((C.N:Int) - 1)=((C.L.length - 1:Nat):Int):=by
 have:=h.cx.n
 have:=h.cx.lst.pos
 omega
theorem Pa.sets {C:Pc} {s s':Ps} {w w':World} (h:Pa C s w) (hg:w.grownBy w' (some C.g)) (hb:Bx w' C.g 69 (psV C s')) (hk:s'.k≤C.L.length - 1):Pa C s' w':=
 ⟨h.cx,h.keep.grown hg h.keep.size (fun b e=>by injection e with e;have:=h.cx.lo;omega),hb,hk⟩
theorem Pa.fail0 {C:Pc} {s:Ps} {w:World} {e:Nat} (h:Pa C s w) (hb:s.bad=0) (he:e≠0) (hl:((C.N:Int) - 1)=((C.L.length - 1:Nat):Int)):Pa C (zB8 C.L e s) (((w.setCell ⟨C.g,2,none⟩ (.int .i64 (e:Int))).setCell ⟨C.g,3,none⟩ (.int .i64 ((zM C.L s.k).pos:Int))).setCell ⟨C.g,1,none⟩ (.int .i64 ((C.N:Int) - 1))):=by
 refine h.sets (zF (zF (zR _ _ _ _) (zR _ _ _ _)) (zR _ _ _ _)) ?_ (Nat.le_refl _)
 have:=((h.box.set 2 (.int .i64 (e:Int))).set 3 (.int .i64 ((zM C.L s.k).pos:Int))).set 1 (.int .i64 ((C.N:Int) - 1))
 have e1:psV C (zB8 C.L e s)=(((psV C s).set 2 (.int .i64 (e:Int))).set 3 (.int .i64 ((zM C.L s.k).pos:Int))).set 1 (.int .i64 ((C.N:Int) - 1)):=by
  unfold psV zB8 zQS
  simp[hb,he,hl]
 rw[e1]
 exact this
theorem Pa.fail1 {C:Pc} {s:Ps} {w:World} {e:Nat} (h:Pa C s w) (hb:¬s.bad=0) (hl:((C.N:Int) - 1)=((C.L.length - 1:Nat):Int)):Pa C (zB8 C.L e s) (w.setCell ⟨C.g,1,none⟩ (.int .i64 ((C.N:Int) - 1))):=by
 refine h.sets (zR _ _ _ _) ?_ (Nat.le_refl _)
 have:=h.box.set 1 (.int .i64 ((C.N:Int) - 1))
 have e1:psV C (zB8 C.L e s)=(psV C s).set 1 (.int .i64 ((C.N:Int) - 1)):=by
  unfold psV zB8 zQS
  simp[hb,hl]
 rw[e1]
 exact this
theorem zB0 {C:Pc} {s:Ps} {w:World} (h:Pa C s w) (e:Nat) (he:e≠0):
 Calls Tryz.prog 177 #[.pointer (some ⟨C.g,0,none⟩),.int .i64 (e:Int)] w (zR0 C (zB8 C.L e s) w):=by
 have x2:=h.c2
 have x0:=h.c0
 have x1:=h.c1
 have f1:=h.f 1
 have hlen:C.N≤4097:=h.cx.n4
 have hl:=zD h.last
 have HP:=zD h
 by_cases hb:s.bad=0
 · have e1:((s.bad:Int)==0)=true:=by rw[hb];rfl
   clear x0 x1 f1 h
   have HB:=zD hb
   clear hb
   go_enter Tryz.func177,Tryz.ntmps177
   go_wp2_with fail
   refine(zEa HP.out).mono ?_
   rintro e1 w1 ⟨As,Am,c1,c2,rfl,_,_,hp1,hg1⟩
   have HP1:=zD hp1
   have HG1:=zD hg1
   have y0:=hp1.c0
   have y1:=hp1.c1
   have y2:=hp1.c2
   have y3:=hp1.c3
   have g1:=hp1.f 1
   have g2:=hp1.f 2
   have g3:=hp1.f 3
   clear hp1 hg1 x2
   have hf:=zS4
   go_wp2_with fail
   go_end0
   exact⟨rfl,HP1.out.fail0 HB.out he hl.out,zF (zAL HG1.out _) (zF (zF (zR _ _ _ _) (zR _ _ _ _)) (zR _ _ _ _))⟩
 · have e1:((s.bad:Int)==0)=false:=by rw[beq_eq_false_iff_ne];omega
   go_enter Tryz.func177,Tryz.ntmps177
   go_wp2_with fail
   go_end0
   exact⟨rfl,HP.out.fail1 hb hl.out,zR _ _ _ _⟩
theorem Pa.stepI {C:Pc} {s:Ps} {w:World} (h:Pa C s w) (hk:s.k < C.L.length - 1) {z:Int} (hz:z=(s.k:Int)+1):Pa C (stepP s) (w.setCell ⟨C.g,1,none⟩ (.int .i64 z)):=
 h.to (k':=s.k+1) (by omega) hk
theorem zx {C:Pc} {s:Ps} {w:World} (h:Pa C s w):
 Calls Tryz.prog 142 #[.pointer (some ⟨C.g,0,none⟩)] w (zR0 C (zc C.L s) w):=by
 have HP:=zD h
 clear h
 go_enter Tryz.func142,Tryz.ntmps142
 go_wp2_with fail
 refine(zEa HP.out).mono ?_
 rintro e1 w1 ⟨As,Am,c1,c2,rfl,_,_,hp1,hg1⟩
 have HP1:=zD hp1
 have HG1:=zD hg1
 clear hp1 hg1
 by_cases hk:(zM C.L s.k).kind=6
 · have e6:(((zM C.L s.k).kind:Int)==6)=true:=by rw[hk];rfl
   by_cases hw:zB2 (zM C.L s.k).text=2
   · have e2:((zB2 (zM C.L s.k).text:Int)==2)=true:=by rw[hw];rfl
     have HQ:=zD (show zc C.L s=zB8 C.L 6 s by unfold zc;rw[if_pos ⟨hk,hw⟩])
     clear hk hw
     go_wp2_with (go_at_call 103;refine(zDZ _ _).mono ?_;rintro e3 w3 ⟨rfl,rfl⟩)
     refine(zB0 (HP1.out.alloc _) 6 (by decide)).mono ?_
     rintro e2 w2 ⟨rfl,hp2,hg2⟩
     have HP2:=zD hp2
     have HG2:=zD hg2
     clear hp2 hg2
     go_wp2_with fail
     refine bodyPost_ret (v:=.tuple #[]) (by simp[results,Tryz.results142,go_sem]) rfl ?_
     rw[HQ.out]
     exact⟨rfl,HP2.out,zF (zAL HG1.out _) (zF (zL _ _ _) HG2.out)⟩
   · have e2:((zB2 (zM C.L s.k).text:Int)==2)=false:=by rw[beq_eq_false_iff_ne];omega
     have HQ:=zD (show zc C.L s=zB8 C.L 5 s by unfold zc;rw[if_neg (fun h=>hw h.2)])
     clear hk hw
     go_wp2_with (go_at_call 103;refine(zDZ _ _).mono ?_;rintro e3 w3 ⟨rfl,rfl⟩)
     refine(zB0 (HP1.out.alloc _) 5 (by decide)).mono ?_
     rintro e2 w2 ⟨rfl,hp2,hg2⟩
     have HP2:=zD hp2
     have HG2:=zD hg2
     clear hp2 hg2
     go_wp2_with fail
     go_end0
     rw[HQ.out]
     exact⟨rfl,HP2.out,zF (zAL HG1.out _) (zF (zL _ _ _) HG2.out)⟩
 · have e6:(((zM C.L s.k).kind:Int)==6)=false:=by rw[beq_eq_false_iff_ne];omega
   have HQ:=zD (show zc C.L s=zB8 C.L 5 s by unfold zc;rw[if_neg (fun h=>hk h.1)])
   clear hk
   go_wp2_with fail
   refine(zB0 (HP1.out.alloc _) 5 (by decide)).mono ?_
   rintro e2 w2 ⟨rfl,hp2,hg2⟩
   have HP2:=zD hp2
   have HG2:=zD hg2
   clear hp2 hg2
   go_wp2_with fail
   go_end0
   rw[HQ.out]
   exact⟨rfl,HP2.out,zF (zAL HG1.out _) (zF (zL _ _ _) HG2.out)⟩
def zSn (b:Bool) (s:Ps):Ps:=if b=true then stepP s else s
theorem zAe {C:Pc} {s:Ps} {w:World} (h:Pa C s w) (v:List UInt8) {b:Bool} (hb:onP C.L v s=b):
 Calls Tryz.prog 95 #[.pointer (some ⟨C.g,0,none⟩),.string ⟨v.toArray⟩] w (zSV C (zSn b s) b w):=by
 have HP:=zD h
 have HB:=zD hb
 have hlen:C.N≤4097:=h.cx.n4
 have hkN:=h.kN
 clear h hb
 go_enter Tryz.func95,Tryz.ntmps95
 go_wp2_with fail
 refine(zAR HP.out v HB.out).mono ?_
 rintro e1 w1 ⟨rfl,hp1,hg1⟩
 have HP1:=zD hp1
 have HG1:=zD hg1
 have x1:=hp1.c1
 have f1:=hp1.f 1
 clear hp1 hg1
 cases b with
 | false=>
  go_wp2_with fail
  go_ret
  exact⟨rfl,HP1.out,zAL HG1.out _⟩
 | true=>
  go_wp2_with fail
  go_ret
  exact⟨rfl,HP1.out.stepI (HP1.out.cx.lst.on HP1.out.hi HB.out) (by omega),zF (zAL HG1.out _) (zR _ _ _ _)⟩
theorem zAE {C:Pc} {s:Ps} {w:World} (h:Pa C s w) (v:List UInt8):
 Calls Tryz.prog 138 #[.pointer (some ⟨C.g,0,none⟩),.string ⟨v.toArray⟩] w (zR0 C (zO C.L v s) w):=by
 have HP:=zD h
 clear h
 by_cases hb:onP C.L v s=true
 · have HQ:=zD (show zO C.L v s=stepP s by unfold zO;rw[if_pos hb])
   have HB:=zD hb
   clear hb
   go_enter Tryz.func138,Tryz.ntmps138
   go_wp2_with fail
   refine(zAe HP.out v HB.out).mono ?_
   rintro e1 w1 ⟨rfl,hp1,hg1⟩
   have HP1:=zD hp1
   have HG1:=zD hg1
   clear hp1 hg1
   go_wp2_with fail
   go_end0
   rw[HQ.out]
   exact⟨rfl,HP1.out,HG1.out⟩
 · have HQ:=zD (show zO C.L v s=zc C.L s by unfold zO;rw[if_neg hb])
   have HB:=zD (show onP C.L v s=false by simpa using hb)
   clear hb
   go_enter Tryz.func138,Tryz.ntmps138
   go_wp2_with fail
   refine(zAe HP.out v HB.out).mono ?_
   rintro e1 w1 ⟨rfl,hp1,hg1⟩
   have HP1:=zD (show Pa C s w1 from hp1)
   have HG1:=zD hg1
   clear hp1 hg1
   go_wp2_with fail
   refine(zx HP1.out).mono ?_
   rintro e2 w2 ⟨rfl,hp2,hg2⟩
   have HP2:=zD hp2
   have HG2:=zD hg2
   clear hp2 hg2
   go_wp2_with fail
   go_end0
   rw[HQ.out]
   exact⟨rfl,HP2.out,zF HG1.out HG2.out⟩
theorem zC0 {C:Pc} {s:Ps} {w:World} (h:Pa C s w):
 Calls Tryz.prog 96 #[.pointer (some ⟨C.g,0,none⟩)] w (zSW C (zg C.L s) w):=by
 have HP:=zD h
 have hlen:C.N≤4097:=h.cx.n4
 have hkN:=h.kN
 clear h
 go_enter Tryz.func96,Tryz.ntmps96
 go_wp2_with fail
 refine(zEa HP.out).mono ?_
 rintro e1 w1 ⟨As,Am,c1,c2,rfl,_,_,hp1,hg1⟩
 have HG1:=zD (zAL hg1 (some C.g))
 by_cases hk:(zM C.L s.k).kind=1
 · have e6:(((zM C.L s.k).kind:Int) !=1)=false:=by rw[hk];rfl
   have HQ:=zD (show zg C.L s=((zM C.L s.k).text,stepP s) by unfold zg;rw[if_pos hk])
   have HK:=zD (hp1.cx.lst.lt hp1.hi (by omega))
   obtain⟨W,hW⟩:∃W,w1.alloc (.cells #[.int .i64 ((zM C.L s.k).kind:Int),.string ⟨(zM C.L s.k).text.toArray⟩,.slice As (zM C.L s.k).str.length c1,.int .i64 (zM C.L s.k).nk,.int .i64 (zM C.L s.k).nn,.bool false,.slice Am (zM C.L s.k).mag.length c2,.int .i64 ((zM C.L s.k).pos:Int),.bool (zM C.L s.k).nl] 44)=W:=⟨_,rfl⟩
   have hgW:w1.grownBy W none:=by rw[←hW];exact zL _ _ _
   have HBW:=zD (show Bx W w1.heap.size 44 (zQz (zM C.L s.k) As Am c1 c2) by rw[←hW];exact Bx.new w1 (zQz (zM C.L s.k) As Am c1 c2) 44)
   have HPW:=zD (hp1.new hgW)
   have HGW:=zD (zAL hgW (some C.g))
   have x1:=HPW.out.c1
   have f1:=HPW.out.f 1
   obtain⟨z0,z1,z2,z3,z4,z5,z6,z7,z8⟩:=HBW.out.nine
   have hlt:=hp1.lt
   clear hk hp1 hg1 hgW
   go_wp2_with fail
   go_ret
   rw[HQ.out]
   exact⟨rfl,HPW.out.stepI HK.out (by omega),zF HG1.out (zF HGW.out (zR _ _ _ _))⟩
 · have e6:(((zM C.L s.k).kind:Int) !=1)=true:=by rw[bne_iff_ne];omega
   have HQ:=zD (show zg C.L s=([],zc C.L s) by unfold zg;rw[if_neg hk])
   have HP1:=zD hp1
   clear hk hp1 hg1
   go_wp2_with fail
   refine(zx (HP1.out.alloc _)).mono ?_
   rintro e2 w2 ⟨rfl,hp2,hg2⟩
   have HP2:=zD hp2
   have HG2:=zD hg2
   clear hp2 hg2
   go_wp2_with fail
   go_ret
   rw[HQ.out]
   exact⟨rfl,HP2.out,zF HG1.out (zF (zL _ _ _) HG2.out)⟩
end Go.Proofs.YtlohaclgbfhijaaGreatDoor
