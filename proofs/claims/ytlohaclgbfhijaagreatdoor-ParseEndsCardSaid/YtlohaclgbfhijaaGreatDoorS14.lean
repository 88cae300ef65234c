/- Joined for the claim ParseEnds: the parser, the lexer and the trees as they are walked, made short by a program of mine. -/
import Derived.Deep.LoopGhost
import Derived.Test.YtlohaclgbfhijaaGreatDoorS11
import Derived.Test.YtlohaclgbfhijaaGreatDoorS12
import Derived.Test.YtlohaclgbfhijaaGreatDoorS03
import Derived.Deep.RegionLaw
set_option maxHeartbeats 16000000
set_option maxRecDepth 1000000
namespace Go.Proofs.YtlohaclgbfhijaaGreatDoor
open Go.RowKit
theorem LstQ.mk {C:Pc} {r:Tr×Ps} {w w':World} {A:Option Addr} {n c:Nat} {l:List Tr} {t:Ps} (e:r=(trK 0 l,t)) (h:RowP w' (w.heap.size≤·) (.slice A n c) l) (hp:Pa C t w') (hg:w.grownBy w' (some C.g)):LstQ C r w (.returned (.slice A n c)) w':=by
 subst e
 obtain⟨h1,h2,h3⟩:=h.bounds
 exact⟨A,n,c,rfl,h1,h2,h3,h,hp,hg⟩
theorem zOv {C:Pc} {v:List UInt8} {s:Ps} {w:World} (hp:Pre C.L (.list v) s) (K:KP C (zh C.L (.list v) s)) (h:Pa C s w):zk C s w (.list v):=by
 show Calls Tryz.prog 221 #[.pointer (some ⟨C.g,0,none⟩),.string ⟨v.toArray⟩] w (LstQ C (zI C.L (.list v) s) w)
 have HL:=zD h.cx.lst
 have hlen:C.N≤4097:=h.cx.n4
 have hNn:=zD h.cx.n
 have hgw:=h.lt
 have HK:=zD K
 have hsk:=hp.1
 have HPRE:=zD hp
 have HP:=zD h
 obtain⟨r,hr⟩:∃r,zI C.L (.list v) s=r:=⟨_,rfl⟩
 rw[hr]
 have HR:=zD hr
 clear hr h K hp
 by_cases hon:onP C.L v s=true
 · have HO:=zD hon
   clear hon
   go_enter Tryz.func221,Tryz.ntmps221
   go_wp2_with fail
   refine(zAe HP.out v HO.out).mono ?_
   rintro ev w1 ⟨rfl,hp1,hg1⟩
   have HP1:=zD (show Pa C (stepP s) w1 from hp1)
   have HG1:=zD hg1
   clear hp1 hg1
   go_wp2_with fail
   go_ret
   refine LstQ.mk (l:=[]) (HR.out.symm.trans (by
    rw[zt HL.out HPRE.out]
    unfold zE
    dsimp only
    rw[if_pos HO.out])) (RowP.nil _ _) HP1.out HG1.out
 · have HO:=zD (show onP C.L v s=false by simpa using hon)
   have HR0:=zD (show zI C.L (.listL v []) s=r from by
    refine Eq.trans ?_ HR.out
    rw[zt HL.out (p:=.list v) HPRE.out]
    unfold zE
    dsimp only
    rw[if_neg hon])
   clear hon
   go_enter Tryz.func221,Tryz.ntmps221
   go_wp2_with fail
   refine(zAe HP.out v HO.out).mono ?_
   rintro ev w1 ⟨rfl,hp1,hg1⟩
   have HP1:=zD (show Pa C s w1 from hp1)
   have HG1:=zD hg1
   clear hp1 hg1
   go_wp2_with fail
   go_loopg [5] (C.L.length - s.k) (fun gk v5 wr=>∃(acc:List Tr) (s':Ps) (A:Option Addr) (n cp:Nat),v5=.slice A n cp∧C.L.length - s'.k≤gk∧s.k≤s'.k∧n≤s'.k∧Hid (zI C.L (.listL v acc) s'=r)∧Hid (Pa C s' wr)∧Hid (RowP wr (w.heap.size≤·) (.slice A n cp) acc)∧Hid (w.grownBy wr (some C.g)))
   case atStart=>exact⟨[],s,none,0,0,rfl,Nat.le_refl _,Nat.le_refl _,Nat.zero_le _,HR0.out,HP1.out,RowP.nil _ _,HG1.out⟩
   case round=>
    clear HP1 HG1 HR0
    obtain⟨acc,s',A,n,cp,rfl,hgk,hsk',hns,HRl,HPl,HWl,HGl⟩:=hrel
    go_wp2_with fail
    refine(Calls.mono (show Calls Tryz.prog 140 #[.pointer (some ⟨C.g,0,none⟩)] wr (zCk C (zI C.L .assign s') wr)from HK.out.rank (q:=.assign) ⟨HPl.out.hi,trivial⟩ HPl.out hsk' (by simp[zn])) ?_)
    rintro ev2 w2 ⟨d0,d1,d2,d3,d4,d5,d6,d7,d8,rfl,ht2,hp2,hg2⟩
    have hgs:=HGl.out.size
    have HP2:=zD hp2
    have HT2:=zD ht2
    have HW2:=zD (HWl.out.keep hg2 (.box HPl.out.box (by decide) (by decide) (by omega)))
    have HG2:=zD (zF HGl.out hg2)
    have hb2:=zD (HWl.out.lt)
    have hs2:=hg2.size
    have hpost:=zD (zV HL.out (p:=.assign) (s:=s') ⟨HPl.out.hi,trivial⟩)
    have hadv:=hpost.out.adv.le
    have hahi:=hpost.out.adv.hi
    have hNN:=hNn.out
    clear ht2 hp2 hg2
    obtain⟨e,he⟩:∃e,zI C.L .assign s'=e:=⟨_,rfl⟩
    rw[he]at HP2 HT2 hpost hadv hahi
    have HE:=zD he
    clear he
    have HN:=zD HWl.out.bounds.1
    go_wp2_with (at_builtin;refine zDH (Px:=fun b=>w.heap.size≤b) (Q:=fun b=>wr.heap.size≤b) rfl _ _ rfl rfl HN.out HW2.out HT2.out (fun b (hb:wr.heap.size≤b) _=>(by omega:w.heap.size≤b)) (fun b hb h2=>(by have:=hb2.out b hb;omega)) (by show w.heap.size≤w2.heap.size+1;omega) (by omega) rfl ?_;intro A3 cp3 w3 hrow hgr)
    have HW3:=zD hrow
    have hwa:=HW2.out.new (zL w2 (.cells #[d0,d1,d2,d3,d4,d5,d6,d7,d8] 72) none)
    have HP3:=zD ((HP2.out.alloc (.cells #[d0,d1,d2,d3,d4,d5,d6,d7,d8] 72)).row hwa (fun b (hb:w.heap.size≤b)=>(by omega:C.g < b)) hgr)
    have HG3:=zD (zFF (zF HG2.out (zL _ _ _)) hwa (fun b hb=>hb) hgr)
    have hs3:=HG3.out.size
    clear hrow hgr hwa HW2 HP2 HG2 HT2
    by_cases hb:e.2.bad=0
    · have HBD:=zD (show(e.2.bad==0)=true by rw[hb];rfl)
      have HBZ:=zD hb
      have hlt:=hpost.out.lt HPl.out.hi (by rw[hb];simp)
      clear hb
      refine(zAu HP3.out HBD.out).mono ?_
      rintro ev4 w4 ⟨rfl,hp4,hg4⟩
      have HP4:=zD hp4
      have HW4:=zD (HW3.out.new hg4)
      have HG4:=zD (zF HG3.out (zAL hg4 _))
      clear hp4 hg4
      by_cases hon:onP C.L v e.2=true
      · have HO2:=zD hon
        clear hon
        go_wp2_with fail
        refine(zAe HP4.out v HO2.out).mono ?_
        rintro ev5 w5 ⟨rfl,hp5,hg5⟩
        have HP5:=zD (show Pa C (stepP e.2) w5 from hp5)
        have HW5:=zD (HW4.out.keep hg5 (.box HP4.out.box (by decide) (by decide) (by omega)))
        have HG5:=zD (zF HG4.out hg5)
        clear hp5 hg5
        go_wp2_with fail
        go_ret
        refine LstQ.mk (l:=acc++[e.1]) (HRl.out.symm.trans (by
         rw[zt HL.out ⟨HPl.out.hi,trivial⟩]
         unfold zE
         dsimp only
         rw[HE.out,if_neg (by rw[HBZ.out];simp),if_pos HO2.out])) HW5.out HP5.out HG5.out
      · have HO2:=zD (show onP C.L v e.2=false by simpa using hon)
        clear hon
        go_wp2_with fail
        refine(zAe HP4.out v HO2.out).mono ?_
        rintro ev5 w5 ⟨rfl,hp5,hg5⟩
        have HP5:=zD (show Pa C e.2 w5 from hp5)
        have HW5:=zD (HW4.out.keep hg5 (.box HP4.out.box (by decide) (by decide) (by omega)))
        have HG5:=zD (zF HG4.out hg5)
        clear hp5 hg5
        go_wp2_with fail
        refine(zAE HP5.out [44]).mono ?_
        rintro ev6 w6 ⟨rfl,hp6,hg6⟩
        have HP6:=zD hp6
        have HW6:=zD (HW5.out.keep hg6 (.box HP5.out.box (by decide) (by decide) (by omega)))
        have HG6:=zD (zF HG5.out hg6)
        clear hp6 hg6
        have HQR:=zD (show zI C.L (.listL v (acc++[e.1])) (zO C.L [44] e.2)=r from Eq.trans (Eq.symm (by
         rw[zt HL.out (p:=.listL v acc) (s:=s') ⟨HPl.out.hi,trivial⟩]
         unfold zE
         dsimp only
         rw[HE.out,if_neg (by rw[HBZ.out];simp),if_neg (by rw[HO2.out];decide)])) HRl.out)
        have hnd:=zD (zS (w:=[44]) HL.out (s:=e.2) hahi).adv
        have hnl:=hnd.out.le
        go_wp2_with fail
        go_roundg (C.L.length - (zO C.L [44] e.2).k)
        case measure=>omega
        case rel=>exact⟨_,_,A3,n+1,cp3,rfl,Nat.le_refl _,by omega,by omega,HQR.out,HP6.out,HW6.out,HG6.out⟩
    · have HBD:=zD (show(e.2.bad==0)=false by rw[beq_eq_false_iff_ne];exact hb)
      have HBZ:=zD hb
      clear hb
      refine(zAu HP3.out HBD.out).mono ?_
      rintro ev4 w4 ⟨rfl,hp4,hg4⟩
      have HP4:=zD hp4
      have HW4:=zD (HW3.out.new hg4)
      have HG4:=zD (zF HG3.out (zAL hg4 _))
      clear hp4 hg4
      go_wp2_with fail
      go_ret
      refine LstQ.mk (l:=acc++[e.1]) (HRl.out.symm.trans (by
       rw[zt HL.out ⟨HPl.out.hi,trivial⟩]
       unfold zE
       dsimp only
       rw[HE.out,if_pos HBZ.out])) HW4.out HP4.out HG4.out
theorem zOw {C:Pc} {s:Ps} {w:World} (hp:Pre C.L .args s) (K:KP C (zh C.L .args s)) (h:Pa C s w):zk C s w .args:=by
 show Calls Tryz.prog 218 #[.pointer (some ⟨C.g,0,none⟩)] w (LstQ C (zI C.L .args s) w)
 have HL:=zD h.cx.lst
 have HK:=zD K
 have HPRE:=zD hp
 have HP:=zD h
 have hn:=zD (zS (w:=[40]) HL.out hp.1)
 have hlt:=zD (hn.out.more hp.2)
 clear h K hp
 go_enter Tryz.func218,Tryz.ntmps218
 go_wp2_with fail
 refine(zAE HP.out [40]).mono ?_
 rintro ev w1 ⟨rfl,hp1,hg1⟩
 have HP1:=zD hp1
 have HG1:=zD hg1
 clear hp1 hg1
 go_wp2_with fail
 refine(Calls.mono (show Calls Tryz.prog 221 #[.pointer (some ⟨C.g,0,none⟩),.string ⟨#[41]⟩] w1 (LstQ C (zI C.L (.list [41]) (zO C.L [40] s)) w1)from HK.out.more (q:=.list [41]) ⟨HP1.out.hi,trivial⟩ HP1.out hlt.out) ?_)
 rintro ev2 w2 ⟨A,n,c,rfl,h1,h2,h3,hr2,hp2,hg2⟩
 have HX:=zD (show RowP w2 (w.heap.size≤·) (.slice A n c) (zI C.L (.list [41]) (zO C.L [40] s)).1.subs from hr2.sub fun b (hb:w1.heap.size≤b) _=>Nat.le_trans HG1.out.size hb)
 have HP2:=zD hp2
 have HG2:=zD (zF HG1.out hg2)
 have H1:=zD h1
 clear h1 hr2 hp2 hg2
 go_wp2_with fail
 go_ret
 have e:zI C.L .args s=zI C.L (.list [41]) (zO C.L [40] s):=by
  rw[zt HL.out HPRE.out]
  rfl
 rw[e]
 exact⟨A,n,c,rfl,H1.out,h2,h3,HX.out,HP2.out,HG2.out⟩
theorem zKA {C:Pc} {s:Ps} {w:World} (hp:Pre C.L (.object) s) (K:KP C (zh C.L (.object) s)) (h:Pa C s w):zk C s w (.object):=by
 refine zAl hp h fun HL hlen hsk r W X HR hW hX F0=>?_
 have HK:=zD K
 clear K h hp
 go_enter Tryz.func222,Tryz.ntmps222
 go_upto_region 1 with(fail)
 clear hW hX
 go_wp2_with fail
 refine F0.made0 _ fun w1 F1=>?_
 have F2:=F1.bt 1 72 rfl
 by_cases hon:onP C.L [125] s=true
 · have HO:=zD hon
   clear hon
   go_wp2_with fail
   refine F2.kM (zA6 F2.P [125] HO.out) fun w3 F3=>?_
   obtain⟨_,_,_,_,_,_,_,_,_⟩:=F3.c 2
   obtain⟨_,_,_,_,_,_,_,_,_⟩:=F3.c 0
   obtain⟨_,_,_,_,_,_,_,_,_⟩:=F3.f 0
   go_wp2_with fail
   refine zP (F3.put 0 1) fun V4 F4=>?_
   have q:=F4.c 0
   exact F4.ret 1 rfl (by simp[results,Tryz.results222,go_sem,q]) rfl (HR.out.symm.trans (by
    unfold zE
    dsimp only
    rw[if_pos HO.out])) (fun _ h=>h)
 · have HO:=zD (show onP C.L [125] s=false by simpa using hon)
   clear hon
   have HR0:=zD (show zI C.L (.objL []) s=r from by
    refine Eq.trans ?_ HR.out
    unfold zE
    dsimp only
    rw[if_neg (by rw[HO.out];decide)])
   go_wp2_with fail
   refine F2.kM (zA9 F2.P [125] HO.out) fun w5 F5=>?_
   go_wp2_with fail
   go_loopg [9] (C.L.length - s.k) (fun gk _ wr=>∃(acc:List Tr) (s':Ps) (A:Option Addr) (n cp:Nat),C.L.length - s'.k≤gk∧s.k≤s'.k∧n≤s'.k∧Hid (zI C.L (.objL acc) s'=r)∧Fr C (w.heap.size≤·) w [(w1.heap.size),X] [.bx X 72 [.int .i64 0,.string ⟨#[]⟩,.slice none 0 0,.int .i64 0,.int .i64 0,.bool false,.slice none 0 0,.slice none 0 0,.slice none 0 0],.bx (w1.heap.size) 72 [.int .i64 39,.string ⟨#[]⟩,.slice none 0 0,.int .i64 0,.int .i64 0,.bool false,.slice none 0 0,.slice none 0 0,.slice A n cp],.ro (.slice A n cp) acc] s' wr)
   case atStart=>exact⟨[],s,none,0,0,Nat.le_refl _,Nat.le_refl _,Nat.zero_le _,HR0.out,F5.nil.pk [(w1.heap.size),X] [0,2,3] (by simp) (by decide) rfl (by simp) (by simp)⟩
   case round=>
    obtain⟨acc,s',A,n,cp,hgk,hsk',hns,HRl,Fl⟩:=hrel
    have hpost:=zD (zV HL.out (p:=.prop) (s:=s') ⟨Fl.P.hi,trivial⟩)
    have hadv:=hpost.out.adv.le
    have hahi:=hpost.out.adv.hi
    have hxh:=Fl.P.hi
    have CL6:=zD (fun Q=>Fl.dr.kR 2 rfl (Q:=Q) (HK.out.rank (q:=.prop) ⟨Fl.dr.P.hi,trivial⟩ Fl.dr.P hsk' (by simp[zn])))
    obtain⟨_,_,_,_,_,_,_,_,_⟩:=Fl.c 1
    have hn6:n≤4097:=by have:=Fl.P.cx.n;omega
    go_wp2_with fail
    go_region_law (first | (go_simp;go_at_call 223;(with_reducible refine CL6.out _ fun w6 d6_0 d6_1 d6_2 d6_3 d6_4 d6_5 d6_6 d6_7 d6_8 F6=>?_);obtain⟨_,_,_,_,_,_,_,_,_⟩:=F6.c 1;obtain⟨_,_,_,_,_,_,_,_,_⟩:=(F6.al (.cells #[d6_0,d6_1,d6_2,d6_3,d6_4,d6_5,d6_6,d6_7,d6_8] 72)).c 1) | (refine F6.snocS 2 3 rfl rfl (fun _ h=>h) hn6 rfl _ _ rfl rfl rfl fun A7 cp7 w7 F7=>?_;obtain⟨_,_,_,_,_,_,_,_,_⟩:=F7.c 1;obtain⟨_,_,_,_,_,_,_,_,_⟩:=F7.f 1))
    all_goals
     have F8:=F7.set 1 8 (.slice A7 (n+1) cp7)
     by_cases hb:(zI C.L .prop s').2.bad=0
     · have HBD:=zD (show((zI C.L .prop s').2.bad==0)=true by rw[hb];rfl)
       have HBZ:=zD hb
       have hlt:=hpost.out.lt Fl.P.hi (by rw[hb];simp)
       clear hb
       go_wp2_with fail
       refine F8.kB (zAu F8.P HBD.out) fun w9 F9=>?_
       by_cases hon2:onP C.L [125] (zI C.L .prop s').2=true
       · have HO2:=zD hon2
         clear hon2
         go_wp2_with fail
         refine F9.kM (zA6 F9.P [125] HO2.out) fun w10 F10=>?_
         obtain⟨_,_,_,_,_,_,_,_,_⟩:=F10.c 1
         obtain⟨_,_,_,_,_,_,_,_,_⟩:=F10.c 0
         obtain⟨_,_,_,_,_,_,_,_,_⟩:=F10.f 0
         go_wp2_with fail
         have F11:=F10.rowK 2 rfl 39
         refine zP (F11.put 0 4) fun V12 F12=>?_
         have q:=F12.c 0
         exact F12.ret 4 rfl (by simp[results,Tryz.results222,go_sem,q]) rfl (HRl.out.symm.trans (by
          rw[zt HL.out (p:=.objL acc) ⟨Fl.P.hi,trivial⟩]
          unfold zE
          dsimp only
          rw[if_neg (by rw[HBZ.out];simp),if_pos HO2.out])) (fun _ h=>h)
       · have HO2:=zD (show onP C.L [125] (zI C.L .prop s').2=false by simpa using hon2)
         clear hon2
         go_wp2_with fail
         refine F9.kM (zA9 F9.P [125] HO2.out) fun w13 F13=>?_
         have HQR:=zD (show zI C.L (.objL (acc++[(zI C.L .prop s').1])) (zO C.L [44] (zI C.L .prop s').2)=r from Eq.trans (Eq.symm (by
          rw[zt HL.out (p:=.objL acc) (s:=s') ⟨Fl.P.hi,trivial⟩]
          unfold zE
          dsimp only
          rw[if_neg (by rw[HBZ.out];simp),if_neg (by rw[HO2.out];decide)])) HRl.out)
         have hnd:=zD (zS (w:=[44]) HL.out (s:=(zI C.L .prop s').2) hahi).adv
         have hnl:=hnd.out.le
         go_wp2_with fail
         refine F13.kN (zAE F13.P [44]) fun w14 F14=>?_
         go_wp2_with fail
         go_roundg (C.L.length - (zO C.L [44] (zI C.L .prop s').2).k)
         case measure=>omega
         case rel=>exact⟨_,_,A7,n+1,cp7,Nat.le_refl _,by omega,by omega,HQR.out,F14.pk [(w1.heap.size),X] [0,1,2] (by simp) (by decide) rfl (by simp) (by simp)⟩
     · have HBD:=zD (show((zI C.L .prop s').2.bad==0)=false by rw[beq_eq_false_iff_ne];exact hb)
       have HBZ:=zD hb
       clear hb
       go_wp2_with fail
       refine F8.kB (zAu F8.P HBD.out) fun w15 F15=>?_
       obtain⟨_,_,_,_,_,_,_,_,_⟩:=F15.c 1
       obtain⟨_,_,_,_,_,_,_,_,_⟩:=F15.c 0
       obtain⟨_,_,_,_,_,_,_,_,_⟩:=F15.f 0
       go_wp2_with fail
       have F16:=F15.rowK 2 rfl 39
       refine zP (F16.put 0 4) fun V17 F17=>?_
       have q:=F17.c 0
       exact F17.ret 4 rfl (by simp[results,Tryz.results222,go_sem,q]) rfl (HRl.out.symm.trans (by
        rw[zt HL.out (p:=.objL acc) ⟨Fl.P.hi,trivial⟩]
        unfold zE
        dsimp only
        rw[if_pos HBZ.out])) (fun _ h=>h)
theorem zMm {C:Pc} {s:Ps} {w:World} (hp:Pre C.L (.block) s) (K:KP C (zh C.L (.block) s)) (h:Pa C s w):zk C s w (.block):=by
 refine zAl hp h fun HL hlen hsk r W X HR hW hX F0=>?_
 have HK:=zD K
 clear K h hp
 go_enter Tryz.func145,Tryz.ntmps145
 go_upto_region 1 with(fail)
 clear hW hX
 go_wp2_with fail
 refine F0.made0 _ fun w1 F1=>?_
 have F2:=F1.bt 1 72 rfl
 have hn:=zD (zS (w:=[123]) HL.out hsk)
 have HR0:=zD (show zI C.L (.blockL []) (zO C.L [123] (s))=r from by
  refine Eq.trans ?_ HR.out
  unfold zE
  rfl)
 go_wp2_with fail
 refine F2.kN (zAE F2.P [123]) fun w3 F3=>?_
 have HK0:=zD (show(zO C.L [123] (s)).bad=0→s.k < (zO C.L [123] (s)).k from fun hb=>hn.out.lt hsk (by rw[hb];simp))
 have HNS:=zD hn.out.adv.le
 go_wp2_with fail
 go_loopg [7] (2*(C.L.length - (zO C.L [123] (s)).k)+(if(zO C.L [123] (s)).bad=0 then 1 else 0)) (fun gk _ wr=>∃(acc:List Tr) (s':Ps) (A:Option Addr) (n cp:Nat),2*(C.L.length - s'.k)+(if s'.bad=0 then 1 else 0)≤gk∧(s'.bad=0→s.k < s'.k)∧(s'.bad=0→n≤s'.k)∧Hid (zI C.L (.blockL acc) s'=r)∧Fr C (w.heap.size≤·) w [(w1.heap.size),X] [.bx X 72 [.int .i64 0,.string ⟨#[]⟩,.slice none 0 0,.int .i64 0,.int .i64 0,.bool false,.slice none 0 0,.slice none 0 0,.slice none 0 0],.bx (w1.heap.size) 72 [.int .i64 4,.string ⟨#[]⟩,.slice none 0 0,.int .i64 0,.int .i64 0,.bool false,.slice none 0 0,.slice none 0 0,.slice A n cp],.ro (.slice A n cp) acc] s' wr)
 case atStart=>exact⟨[],zO C.L [123] (s),none,0,0,Nat.le_refl _,HK0.out,fun _=>Nat.zero_le _,HR0.out,F3.nil.pk [(w1.heap.size),X] [0,2,3] (by simp) (by decide) rfl (by simp) (by simp)⟩
 case round=>
  obtain⟨acc,s',A,n,cp,hgk,hsk',hns,HRl,Fl⟩:=hrel
  by_cases hb:s'.bad=0
  · have HBD:=zD (show(s'.bad==0)=true by rw[hb];rfl)
    have HBZ:=zD hb
    have hskl:=zD (hsk' hb)
    have hgk2:2*(C.L.length - s'.k)+1≤gk:=by rw[if_pos hb]at hgk;exact hgk
    clear hb hgk hsk'
    go_wp2_with fail
    refine Fl.kB (zAu Fl.P HBD.out) fun w4 F4=>?_
    by_cases hon:onP C.L [125] s'=true
    · have HO:=zD hon
      clear hon
      go_wp2_with fail
      refine F4.kM (zA6 F4.P [125] HO.out) fun w5 F5=>?_
      obtain⟨_,_,_,_,_,_,_,_,_⟩:=F5.c 1
      obtain⟨_,_,_,_,_,_,_,_,_⟩:=F5.c 0
      obtain⟨_,_,_,_,_,_,_,_,_⟩:=F5.f 0
      go_wp2_with fail
      have F6:=F5.rowK 2 rfl 4
      refine zP (F6.put 0 3) fun V7 F7=>?_
      have q:=F7.c 0
      exact F7.ret 3 rfl (by simp[results,Tryz.results145,go_sem,q]) rfl (HRl.out.symm.trans (by
       rw[zt HL.out (p:=.blockL acc) ⟨Fl.P.hi,trivial⟩]
       unfold zE
       dsimp only
       rw[if_neg (by rw[HBZ.out];simp),if_pos HO.out])) (fun _ h=>h)
    · have HO:=zD (show onP C.L [125] s'=false by simpa using hon)
      clear hon
      go_wp2_with fail
      refine F4.kM (zA9 F4.P [125] HO.out) fun w8 F8=>?_
      have hpost:=zD (zV HL.out (p:=.item) (s:=s') ⟨Fl.P.hi,trivial⟩)
      have hadv:=hpost.out.adv.le
      have hahi:=hpost.out.adv.hi
      have hxh:=Fl.P.hi
      have hnz:=hns HBZ.out
      have CL9:=zD (fun Q=>F8.dr.kR 2 rfl (Q:=Q) (HK.out.more (q:=.item) ⟨F8.dr.P.hi,trivial⟩ F8.dr.P hskl.out))
      obtain⟨_,_,_,_,_,_,_,_,_⟩:=F8.c 1
      have hn9:n≤4097:=by have:=hns HBZ.out;have:=Fl.P.cx.n;omega
      go_wp2_with fail
      go_region_law (first | (go_simp;go_at_call 60;(with_reducible refine CL9.out _ fun w9 d9_0 d9_1 d9_2 d9_3 d9_4 d9_5 d9_6 d9_7 d9_8 F9=>?_);obtain⟨_,_,_,_,_,_,_,_,_⟩:=F9.c 1;obtain⟨_,_,_,_,_,_,_,_,_⟩:=(F9.al (.cells #[d9_0,d9_1,d9_2,d9_3,d9_4,d9_5,d9_6,d9_7,d9_8] 72)).c 1) | (refine F9.snocS 2 3 rfl rfl (fun _ h=>h) hn9 rfl _ _ rfl rfl rfl fun A10 cp10 w10 F10=>?_;obtain⟨_,_,_,_,_,_,_,_,_⟩:=F10.c 1;obtain⟨_,_,_,_,_,_,_,_,_⟩:=F10.f 1))
      all_goals
       have F11:=F10.set 1 8 (.slice A10 (n+1) cp10)
       have HQR:=zD (show zI C.L (.blockL (acc++[(zI C.L .item s').1])) (zI C.L .item s').2=r from Eq.trans (Eq.symm (by
        rw[zt HL.out (p:=.blockL acc) (s:=s') ⟨Fl.P.hi,trivial⟩]
        unfold zE
        dsimp only
        rw[if_neg (by rw[HBZ.out];simp),if_neg (by rw[HO.out];decide)])) HRl.out)
       have hsl:=hskl.out
       have hms:2*(C.L.length - (zI C.L .item s').2.k)+(if(zI C.L .item s').2.bad=0 then 1 else 0) < gk:=by
        have heat:Eat C.L s' (zI C.L .item s').2:=hpost.out
        by_cases hb:(zI C.L .item s').2.bad=0
        · have:=heat.lt Fl.P.hi (by rw[hb];simp)
          rw[if_pos hb];omega
        · rw[if_neg hb];omega
       have HNB:(zI C.L .item s').2.bad=0→n+1≤(zI C.L .item s').2.k:=fun hb=>by have:=(show Eat C.L s' (zI C.L .item s').2 from hpost.out).lt Fl.P.hi (by rw[hb];simp);omega
       go_wp2_with fail
       go_roundg (2*(C.L.length - (zI C.L .item s').2.k)+(if(zI C.L .item s').2.bad=0 then 1 else 0))
       case measure=>exact hms
       case rel=>exact⟨_,_,A10,n+1,cp10,Nat.le_refl _,fun _=>by omega,HNB,HQR.out,F11.pk [(w1.heap.size),X] [0,1,2] (by simp) (by decide) rfl (by simp) (by simp)⟩
  · have HBD:=zD (show(s'.bad==0)=false by rw[beq_eq_false_iff_ne];exact hb)
    have HBZ:=zD hb
    clear hb hgk hsk'
    go_wp2_with fail
    refine Fl.kB (zAu Fl.P HBD.out) fun w12 F12=>?_
    obtain⟨_,_,_,_,_,_,_,_,_⟩:=F12.c 1
    obtain⟨_,_,_,_,_,_,_,_,_⟩:=F12.c 0
    obtain⟨_,_,_,_,_,_,_,_,_⟩:=F12.f 0
    go_wp2_with fail
    have F13:=F12.rowK 2 rfl 4
    refine zP (F13.put 0 3) fun V14 F14=>?_
    have q:=F14.c 0
    exact F14.ret 3 rfl (by simp[results,Tryz.results145,go_sem,q]) rfl (HRl.out.symm.trans (by
     rw[zt HL.out (p:=.blockL acc) ⟨Fl.P.hi,trivial⟩]
     unfold zE
     dsimp only
     rw[if_pos HBZ.out])) (fun _ h=>h)
theorem zHH {C:Pc} {s:Ps} {w:World} (hp:Pre C.L (.program []) s) (K:KP C (zh C.L (.program []) s)) (h:Pa C s w):zk C s w (.program []):=by
 refine zAl hp h fun HL hlen hsk r W X HR hW hX F0=>?_
 have HK:=zD K
 clear K h hp
 go_enter Tryz.func34,Tryz.ntmps34
 go_upto_region 1 with(fail)
 clear hW hX
 go_wp2_with fail
 refine F0.made0 _ fun w1 F1=>?_
 have F2:=F1.bt 1 72 rfl
 go_wp2_with fail
 go_loopg [5] (C.L.length - s.k) (fun gk _ wr=>∃(acc:List Tr) (s':Ps) (A:Option Addr) (n cp:Nat),C.L.length - s'.k≤gk∧s.k≤s'.k∧n≤s'.k∧Hid (zI C.L (.program acc) s'=r)∧Fr C (w.heap.size≤·) w [(w1.heap.size),X] [.bx X 72 [.int .i64 0,.string ⟨#[]⟩,.slice none 0 0,.int .i64 0,.int .i64 0,.bool false,.slice none 0 0,.slice none 0 0,.slice none 0 0],.bx (w1.heap.size) 72 [.int .i64 1,.string ⟨#[]⟩,.slice none 0 0,.int .i64 0,.int .i64 0,.bool false,.slice none 0 0,.slice none 0 0,.slice A n cp],.ro (.slice A n cp) acc] s' wr)
 case atStart=>exact⟨[],s,none,0,0,Nat.le_refl _,Nat.le_refl _,Nat.zero_le _,(zt HL.out (p:=.program []) ⟨hsk,trivial⟩).trans HR.out,F2.nil.pk [(w1.heap.size),X] [0,2,3] (by simp) (by decide) rfl (by simp) (by simp)⟩
 case round=>
  obtain⟨acc,s',A,n,cp,hgk,hsk',hns,HRl,Fl⟩:=hrel
  have hf0:=zSY
  obtain⟨⟨kd,tx,st,nk,nn,mg,ps,nl⟩,HT⟩:=zU C.L (s').k
  go_wp2_with fail
  refine Fl.kT (zm Fl.P HT.out) fun w3 As Am c1 c2 F3=>?_
  by_cases hk:kd=0
  · have e0:((kd:Int) !=0)=false:=by rw[bne_eq_false_iff_eq];omega
    have HK0:=zD hk
    clear hk
    obtain⟨_,_,_,_,_,_,_,_,_⟩:=F3.c 1
    obtain⟨_,_,_,_,_,_,_,_,_⟩:=F3.c 0
    obtain⟨_,_,_,_,_,_,_,_,_⟩:=F3.f 0
    go_wp2_with fail
    have F4:=F3.rowK 2 rfl 1
    refine zP (F4.put 0 4) fun V5 F5=>?_
    have q:=F5.c 0
    exact F5.ret 4 rfl (by simp[results,Tryz.results34,go_sem,q]) rfl (HRl.out.symm.trans (by
     rw[zt HL.out (p:=.program acc) ⟨Fl.P.hi,trivial⟩]
     unfold zE
     dsimp only
     rw[HT.out,if_pos HK0.out])) (fun _ h=>h)
  · have e0:((kd:Int) !=0)=true:=by rw[bne_iff_ne];omega
    have HK0:=zD hk
    clear hk
    have hlt:=zD (HL.out.lt (s:=s') Fl.P.hi (by rw[HT.out];exact HK0.out))
    have hpost:=zD (zV HL.out (p:=.item) (s:=s') ⟨Fl.P.hi,trivial⟩)
    have hadv:=(show Eat C.L s' (zI C.L .item s').2 from hpost.out).more hlt.out
    have hahi:=hpost.out.adv.hi
    have hxh:=Fl.P.hi
    have CL6:=zD (fun Q=>F3.dr.kR 2 rfl (Q:=Q) (HK.out.rank (q:=.item) ⟨F3.dr.P.hi,trivial⟩ F3.dr.P hsk' (by simp[zn])))
    obtain⟨_,_,_,_,_,_,_,_,_⟩:=F3.c 1
    have hn6:n≤4097:=by have:=Fl.P.cx.n;omega
    go_wp2_with fail
    go_region_law (first | (go_simp;go_at_call 60;(with_reducible refine CL6.out _ fun w6 d6_0 d6_1 d6_2 d6_3 d6_4 d6_5 d6_6 d6_7 d6_8 F6=>?_);obtain⟨_,_,_,_,_,_,_,_,_⟩:=F6.c 1;obtain⟨_,_,_,_,_,_,_,_,_⟩:=(F6.al (.cells #[d6_0,d6_1,d6_2,d6_3,d6_4,d6_5,d6_6,d6_7,d6_8] 72)).c 1) | (refine F6.snocS 2 4 rfl rfl (fun _ h=>h) hn6 rfl _ _ rfl rfl rfl fun A7 cp7 w7 F7=>?_;obtain⟨_,_,_,_,_,_,_,_,_⟩:=F7.c 1;obtain⟨_,_,_,_,_,_,_,_,_⟩:=F7.f 1))
    all_goals
     have F8:=F7.set 1 8 (.slice A7 (n+1) cp7)
     have HQR:=zD (show zI C.L (.program (acc++[(zI C.L .item s').1])) (zI C.L .item s').2=r from Eq.trans (Eq.symm (by
      rw[zt HL.out (p:=.program acc) (s:=s') ⟨Fl.P.hi,trivial⟩]
      unfold zE
      dsimp only
      rw[HT.out,if_neg HK0.out])) HRl.out)
     go_wp2_with fail
     go_roundg (C.L.length - (zI C.L .item s').2.k)
     case measure=>omega
     case rel=>exact⟨_,_,A7,n+1,cp7,Nat.le_refl _,by omega,by omega,HQR.out,F8.pk [(w1.heap.size),X] [0,1,2] (by simp) (by decide) rfl (by simp) (by simp)⟩
theorem zOx {C:Pc} {s:Ps} {w:World} (hp:Pre C.L .params s) (_K:KP C (zh C.L .params s)) (h:Pa C s w):zk C s w .params:=by
 show Calls Tryz.prog 144 #[.pointer (some ⟨C.g,0,none⟩)] w (LstQ C (zI C.L .params s) w)
 have HL:=zD h.cx.lst
 have hlen:C.N≤4097:=h.cx.n4
 have hNn:=zD h.cx.n
 have hgw:=h.lt
 have hsk:=hp.1
 have HPRE:=zD hp
 have HP:=zD h
 obtain⟨r,hr⟩:∃r,zI C.L .params s=r:=⟨_,rfl⟩
 rw[hr]
 have HR:=zD hr
 clear hr h _K hp
 have hn0:=zD (zS (w:=[40]) HL.out hsk)
 by_cases hon:onP C.L [41] (zO C.L [40] s)=true
 · have HO:=zD hon
   clear hon
   go_enter Tryz.func144,Tryz.ntmps144
   go_wp2_with fail
   refine(zAE HP.out [40]).mono ?_
   rintro ev0 w0 ⟨rfl,hp0,hg0⟩
   have HPn:=zD hp0
   have HGn:=zD hg0
   clear hp0 hg0
   go_wp2_with fail
   refine(zAe HPn.out [41] HO.out).mono ?_
   rintro ev w1 ⟨rfl,hp1,hg1⟩
   have HP1:=zD (show Pa C (stepP (zO C.L [40] s)) w1 from hp1)
   have HG1:=zD (zF HGn.out hg1)
   clear hp1 hg1
   go_wp2_with fail
   go_ret
   refine LstQ.mk (l:=[]) (HR.out.symm.trans (by
    rw[zt HL.out HPRE.out]
    unfold zE
    dsimp only
    rw[if_pos HO.out])) (RowP.nil _ _) HP1.out HG1.out
 · have HO:=zD (show onP C.L [41] (zO C.L [40] s)=false by simpa using hon)
   have HR0:=zD (show zI C.L (.paramL []) (zO C.L [40] s)=r from by
    refine Eq.trans ?_ HR.out
    rw[zt HL.out (p:=.params) HPRE.out]
    unfold zE
    dsimp only
    rw[if_neg hon])
   clear hon
   go_enter Tryz.func144,Tryz.ntmps144
   go_wp2_with fail
   refine(zAE HP.out [40]).mono ?_
   rintro ev0 w0 ⟨rfl,hp0,hg0⟩
   have HPn:=zD hp0
   have HGn:=zD hg0
   clear hp0 hg0
   go_wp2_with fail
   refine(zAe HPn.out [41] HO.out).mono ?_
   rintro ev w1 ⟨rfl,hp1,hg1⟩
   have HP1:=zD (show Pa C (zO C.L [40] s) w1 from hp1)
   have HG1:=zD (zF HGn.out hg1)
   clear hp1 hg1
   go_wp2_with fail
   go_loopg [3] (C.L.length - (zO C.L [40] s).k) (fun gk v5 wr=>∃(acc:List Tr) (s':Ps) (A:Option Addr) (n cp:Nat),v5=.slice A n cp∧C.L.length - s'.k≤gk∧s.k≤s'.k∧n≤s'.k∧Hid (zI C.L (.paramL acc) s'=r)∧Hid (Pa C s' wr)∧Hid (RowP wr (w.heap.size≤·) (.slice A n cp) acc)∧Hid (w.grownBy wr (some C.g)))
   case atStart=>exact⟨[],zO C.L [40] s,none,0,0,rfl,Nat.le_refl _,hn0.out.adv.le,Nat.zero_le _,HR0.out,HP1.out,RowP.nil _ _,HG1.out⟩
   case round=>
    clear HP1 HG1 HR0
    obtain⟨acc,s',A,n,cp,rfl,hgk,hsk',hns,HRl,HPl,HWl,HGl⟩:=hrel
    go_wp2_with fail
    refine(zC0 HPl.out).mono ?_
    rintro ev1 w1' ⟨rfl,hp1,hg1⟩
    have hgs:=HGl.out.size
    have HP1:=zD hp1
    have HW1:=zD (HWl.out.keep hg1 (.box HPl.out.box (by decide) (by decide) (by omega)))
    have HG1:=zD (zF HGl.out hg1)
    have hs1:=hg1.size
    clear hp1 hg1
    have hpost:=zD (zAO HL.out HPl.out.hi)
    have hadv:=hpost.out.adv.le
    have hahi:=hpost.out.adv.hi
    have hNN:=hNn.out
    obtain⟨nm,hnm⟩:∃e,zg C.L s'=e:=⟨_,rfl⟩
    rw[hnm]at HP1 hpost hadv hahi
    simp only[hnm]
    have HNM:=zD hnm
    clear hnm
    go_wp2_with fail
    refine(zCE 20 ⟨nm.1.toArray⟩ none 0 0).mono ?_
    rintro ev2 w2 ⟨rfl,hg2⟩
    have HP2:=zD (HP1.out.new hg2)
    have HW2:=zD (HW1.out.new hg2)
    have HG2:=zD (zF HG1.out (zAL hg2 _))
    have hs2:=hg2.size
    have hb2:=zD (HW1.out.lt)
    have HT2:=zD (show TrC w2 (fun b=>w1'.heap.size≤b) (trN 20 nm.1 []) [.int .i64 20,.string ⟨nm.1.toArray⟩,.slice none 0 0,.int .i64 0,.int .i64 0,.bool false,.slice none 0 0,.slice none 0 0,.slice none 0 0]from(RowP.nil w2 _).treeN)
    clear hg2
    have HN:=zD HWl.out.bounds.1
    go_wp2_with (at_builtin;refine zDH (Px:=fun b=>w.heap.size≤b) (Q:=fun b=>w1'.heap.size≤b) rfl _ _ rfl rfl HN.out HW2.out HT2.out (fun b (hb:w1'.heap.size≤b) _=>(by omega:w.heap.size≤b)) (fun b hb h2=>(by have:=hb2.out b hb;omega)) (by show w.heap.size≤w2.heap.size+1;omega) (by omega) rfl ?_;intro A3 cp3 w3 hrow hgr)
    have HW3:=zD hrow
    have hwa:=HW2.out.new (zL w2 (.cells #[.int .i64 20,.string ⟨nm.1.toArray⟩,.slice none 0 0,.int .i64 0,.int .i64 0,.bool false,.slice none 0 0,.slice none 0 0,.slice none 0 0] 72) none)
    have HP3:=zD ((HP2.out.alloc (.cells #[.int .i64 20,.string ⟨nm.1.toArray⟩,.slice none 0 0,.int .i64 0,.int .i64 0,.bool false,.slice none 0 0,.slice none 0 0,.slice none 0 0] 72)).row hwa (fun b (hb:w.heap.size≤b)=>(by omega:C.g < b)) hgr)
    have HG3:=zD (zFF (zF HG2.out (zL _ _ _)) hwa (fun b hb=>hb) hgr)
    have hs3:=HG3.out.size
    clear hrow hgr hwa HW2 HP2 HG2 HT2
    by_cases hb:nm.2.bad=0
    · have HBD:=zD (show(nm.2.bad==0)=true by rw[hb];rfl)
      have HBZ:=zD hb
      have hlt:=hpost.out.lt HPl.out.hi (by rw[hb];simp)
      clear hb
      refine(zAu HP3.out HBD.out).mono ?_
      rintro ev4 w4 ⟨rfl,hp4,hg4⟩
      have HP4:=zD hp4
      have HW4:=zD (HW3.out.new hg4)
      have HG4:=zD (zF HG3.out (zAL hg4 _))
      clear hp4 hg4
      by_cases hon:onP C.L [41] nm.2=true
      · have HO2:=zD hon
        clear hon
        go_wp2_with fail
        refine(zAe HP4.out [41] HO2.out).mono ?_
        rintro ev5 w5 ⟨rfl,hp5,hg5⟩
        have HP5:=zD (show Pa C (stepP nm.2) w5 from hp5)
        have HW5:=zD (HW4.out.keep hg5 (.box HP4.out.box (by decide) (by decide) (by omega)))
        have HG5:=zD (zF HG4.out hg5)
        clear hp5 hg5
        go_wp2_with fail
        go_ret
        refine LstQ.mk (l:=acc++[trN 20 nm.1 []]) (HRl.out.symm.trans (by
         rw[zt HL.out ⟨HPl.out.hi,trivial⟩]
         unfold zE
         dsimp only
         rw[HNM.out,if_neg (by rw[HBZ.out];simp),if_pos HO2.out])) HW5.out HP5.out HG5.out
      · have HO2:=zD (show onP C.L [41] nm.2=false by simpa using hon)
        clear hon
        go_wp2_with fail
        refine(zAe HP4.out [41] HO2.out).mono ?_
        rintro ev5 w5 ⟨rfl,hp5,hg5⟩
        have HP5:=zD (show Pa C nm.2 w5 from hp5)
        have HW5:=zD (HW4.out.keep hg5 (.box HP4.out.box (by decide) (by decide) (by omega)))
        have HG5:=zD (zF HG4.out hg5)
        clear hp5 hg5
        go_wp2_with fail
        refine(zAE HP5.out [44]).mono ?_
        rintro ev6 w6 ⟨rfl,hp6,hg6⟩
        have HP6:=zD hp6
        have HW6:=zD (HW5.out.keep hg6 (.box HP5.out.box (by decide) (by decide) (by omega)))
        have HG6:=zD (zF HG5.out hg6)
        clear hp6 hg6
        have HQR:=zD (show zI C.L (.paramL (acc++[trN 20 nm.1 []])) (zO C.L [44] nm.2)=r from Eq.trans (Eq.symm (by
         rw[zt HL.out (p:=.paramL acc) (s:=s') ⟨HPl.out.hi,trivial⟩]
         unfold zE
         dsimp only
         rw[HNM.out,if_neg (by rw[HBZ.out];simp),if_neg (by rw[HO2.out];decide)])) HRl.out)
        have hnd:=zD (zS (w:=[44]) HL.out (s:=nm.2) hahi).adv
        have hnl:=hnd.out.le
        go_wp2_with fail
        go_roundg (C.L.length - (zO C.L [44] nm.2).k)
        case measure=>omega
        case rel=>exact⟨_,_,A3,n+1,cp3,rfl,Nat.le_refl _,by omega,by omega,HQR.out,HP6.out,HW6.out,HG6.out⟩
    · have HBD:=zD (show(nm.2.bad==0)=false by rw[beq_eq_false_iff_ne];exact hb)
      have HBZ:=zD hb
      clear hb
      refine(zAu HP3.out HBD.out).mono ?_
      rintro ev4 w4 ⟨rfl,hp4,hg4⟩
      have HP4:=zD hp4
      have HW4:=zD (HW3.out.new hg4)
      have HG4:=zD (zF HG3.out (zAL hg4 _))
      clear hp4 hg4
      go_wp2_with fail
      go_ret
      refine LstQ.mk (l:=acc++[trN 20 nm.1 []]) (HRl.out.symm.trans (by
       rw[zt HL.out ⟨HPl.out.hi,trivial⟩]
       unfold zE
       dsimp only
       rw[HNM.out,if_pos HBZ.out])) HW4.out HP4.out HG4.out
theorem zRA {L:List Tok} (hL:Lst L):∀(f:Nat) (acc:List Tr) (s:Ps),s.k≤L.length - 1→(zB6 L f (.paramL acc) s).1.subs.length≤acc.length+(L.length - s.k):=by
 intro f
 induction f with
 | zero=>intro acc s _;exact Nat.zero_le _
 | succ f ih=>
  intro acc s hs
  have hp:=hL.pos
  have he:=zAO hL hs
  show(zE L (zB6 L f) (.paramL acc) s).1.subs.length≤_
  unfold zE
  dsimp only
  split
  · show(acc++[_]).length≤_
    rw[List.length_append,List.length_singleton];omega
  · rename_i hb
    have hlt:=he.lt hs hb
    split
    · show(acc++[_]).length≤_
      rw[List.length_append,List.length_singleton];omega
    · have hn:=(zS (w:=[44]) hL he.adv.hi).adv
      have:=ih (acc++[trN 20 (zg L s).1 []]) (zO L [44] (zg L s).2) hn.hi
      rw[List.length_append,List.length_singleton]at this
      have h1:=hn.le
      have h2:=hn.hi
      omega
theorem zRB {L:List Tok} (hL:Lst L) (w:List UInt8):∀(f:Nat) (acc:List Tr) (s:Ps),s.k≤L.length - 1→(zB6 L f (.listL w acc) s).1.subs.length≤acc.length+(L.length - s.k):=by
 intro f
 induction f with
 | zero=>intro acc s _;exact Nat.zero_le _
 | succ f ih=>
  intro acc s hs
  have hp:=hL.pos
  have he:Eat L s (zB6 L f .assign s).2:=zB4 hL f .assign s ⟨hs,trivial⟩
  show(zE L (zB6 L f) (.listL w acc) s).1.subs.length≤_
  unfold zE
  dsimp only
  split
  · show(acc++[_]).length≤_
    rw[List.length_append,List.length_singleton];omega
  · rename_i hb
    have hlt:=he.lt hs hb
    split
    · show(acc++[_]).length≤_
      rw[List.length_append,List.length_singleton];omega
    · have hn:=(zS (w:=[44]) hL he.adv.hi).adv
      have:=ih (acc++[(zB6 L f .assign s).1]) (zO L [44] (zB6 L f .assign s).2) hn.hi
      rw[List.length_append,List.length_singleton]at this
      have h1:=hn.le
      have h2:=hn.hi
      omega
theorem zEB {L:List Tok} (hL:Lst L) {s:Ps} (hs:s.k≤L.length - 1):(zI L .params s).1.subs.length≤L.length:=by
 rw[zt hL ⟨hs,trivial⟩]
 unfold zE
 dsimp only
 split
 · exact Nat.zero_le _
 · have h:=zRA hL (zh L (.paramL []) (zO L [40] s)+1) [] (zO L [40] s) (zS hL hs).adv.hi
   have h2:(zI L (.paramL []) (zO L [40] s)).1.subs.length≤0+(L.length - (zO L [40] s).k):=h
   omega
theorem zMn {L:List Tok} (hL:Lst L) {w:List UInt8} {s:Ps} (hs:s.k≤L.length - 1):(zI L (.list w) s).1.subs.length≤L.length:=by
 rw[zt hL ⟨hs,trivial⟩]
 unfold zE
 dsimp only
 split
 · exact Nat.zero_le _
 · have h:=zRB hL w (zh L (.listL w []) s+1) [] s hs
   have h2:(zI L (.listL w []) s).1.subs.length≤0+(L.length - s.k):=h
   omega
theorem zGZ {L:List Tok} (hL:Lst L) {s:Ps} (hs:s.k < L.length - 1):(zI L .args s).1.subs.length≤L.length:=by
 rw[zt hL ⟨Nat.le_of_lt hs,hs⟩]
 unfold zE
 dsimp only
 exact zMn hL (zS hL (Nat.le_of_lt hs)).adv.hi
theorem zOy {C:Pc} {k:Int} {n:List UInt8} {s:Ps} {w:World} (hp:Pre C.L (.func k n) s) (K:KP C (zh C.L (.func k n) s)) (h:Pa C s w):zk C s w (.func k n):=by
 refine zAl hp h fun HL hlen hsk r W X HR hW hX F0=>?_
 have HK:=zD K
 clear K h hp
 go_enter Tryz.func97,Tryz.ntmps97
 go_upto_region 1 with(fail)
 clear hW hX
 have hpl:=zD (zEB HL.out (s:=s) hsk)
 have hNN:=zD F0.P.cx.n
 go_wp2_with fail
 refine F0.kL (HK.out.rank (q:=.params) ⟨F0.P.hi,trivial⟩ F0.P (Nat.le_refl _) (by simp[zn])) fun w1 A n0 cp hl1 _ hc1 F1=>?_
 go_wp2_with fail
 refine F1.kQ (zCE _ ⟨(n).toArray⟩ _ _ _) fun w2 F2=>?_
 have F3:=F2.rowN 1 rfl k (n)
 have F4:=F3.bt 2 72 rfl
 have hpost:=zD (zV HL.out (p:=.params) (s:=s) ⟨hsk,trivial⟩)
 have heat:=zD (show Eat C.L s (zI C.L (.params) (s)).2 from hpost.out)
 have CL5:=zD (fun Q=>F4.dr.kR 1 rfl (Q:=Q) (HK.out.rank (q:=.block) ⟨F4.dr.P.hi,trivial⟩ F4.dr.P heat.out.adv.le (by simp[zn])))
 obtain⟨_,_,_,_,_,_,_,_,_⟩:=F4.c 3
 have hn5:n0≤4097:=by have:=hpl.out;have:=hNN.out;have:=hl1.out;omega
 go_upto_region 2 with(fail)
 go_region_law (first | (go_simp;go_at_call 145;(with_reducible refine CL5.out _ fun w5 d5_0 d5_1 d5_2 d5_3 d5_4 d5_5 d5_6 d5_7 d5_8 F5=>?_);obtain⟨_,_,_,_,_,_,_,_,_⟩:=F5.c 3;obtain⟨_,_,_,_,_,_,_,_,_⟩:=(F5.al (.cells #[d5_0,d5_1,d5_2,d5_3,d5_4,d5_5,d5_6,d5_7,d5_8] 72)).c 3) | (refine F5.snocS 1 4 rfl rfl (fun _ h=>h) hn5 rfl _ _ rfl rfl rfl fun A6 cp6 w6 F6=>?_;obtain⟨_,_,_,_,_,_,_,_,_⟩:=F6.c 3;obtain⟨_,_,_,_,_,_,_,_,_⟩:=F6.f 3))
 all_goals
  have F7:=F6.set 3 8 (.slice A6 (n0+1) cp6)
  obtain⟨_,_,_,_,_,_,_,_,_⟩:=F7.c 3
  obtain⟨_,_,_,_,_,_,_,_,_⟩:=F7.c 0
  obtain⟨_,_,_,_,_,_,_,_,_⟩:=F7.f 0
  go_wp2_with fail
  have F8:=F7.rowN 1 rfl k (n)
  refine zP (F8.put 0 5) fun V9 F9=>?_
  have q:=F9.c 0
  exact F9.ret 5 rfl (by simp[results,Tryz.results97,go_sem,q]) rfl (HR.out.symm.trans (by
   unfold zE
   rfl)) (fun _ h=>h)
theorem zRC {C:Pc} {l:List Tr} {s:Ps} {w:World} (hp:Pre C.L (.body l) s) (K:KP C (zh C.L (.body l) s)) (h:Pa C s w) (a:World) (A:Option Addr) (n cp:Nat) (_hln:l.length=n) (hn7:n≤4097) (hga:a.grownBy w (some C.g)) (hgA:C.g < a.heap.size) (hrow:RowP w (a.heap.size≤·) (.slice A n cp) l) (hnl:(zM C.L s.k).nl=true) (hbr:onP C.L [123] (zO C.L [61,62] (zc C.L s))=true):
 Calls Tryz.prog 173 #[.pointer (some ⟨C.g,0,none⟩),.slice A n cp] w (zQU C a (zI C.L (.body l) s)):=by
 refine zSZ hp h hga hgA hrow fun HL hlen hsk r W X HR hW hX F0=>?_
 have HK:=zD K
 have HNL:=zD hnl
 have HBR:=zD hbr
 clear K h hp hga hgA hrow hnl hbr
 go_enter Tryz.func173,Tryz.ntmps173
 go_upto_region 1 with(fail)
 clear hW hX
 obtain⟨⟨kd,tx,st,nk,nn,mg,ps,nl⟩,HT⟩:=zU C.L (s).k
 have hnl2:nl=true:=by have:=HNL.out;rw[HT.out]at this;exact this
 subst hnl2
 have hf6:=zJ4
 go_wp2_with fail
 refine F0.kT (zm F0.P HT.out) fun w1 As Am c1 c2 F1=>?_
 go_wp2_with fail
 refine F1.kN (zx F1.P) fun w2 F2=>?_
 go_wp2_with fail
 refine F2.kN (zAE F2.P [61,62]) fun w3 F3=>?_
 go_wp2_with fail
 refine F3.kQ (zAZ _ _ _ _) fun w4 F4=>?_
 have F5:=F4.rowK 0 rfl 42
 have F6:=F5.bt 3 72 rfl
 go_wp2_with fail
 refine F6.kB (zAR F6.P [123] HBR.out) fun w7 F7=>?_
 have hle:=zD (show s.k≤(zO C.L [61,62] (zc C.L s)).k from(Nat.le_trans (zp hsk).adv.le (zS (w:=[61,62]) HL.out (zp hsk).adv.hi).adv.le))
 have hmo:=zD (show s.k < (zO C.L [61,62] (zc C.L s)).k from((zp hsk).then (zS (w:=[61,62]) HL.out (zp hsk).adv.hi).adv).more (Nat.lt_of_le_of_lt hle.out (HL.out.on (s:=zO C.L [61,62] (zc C.L s)) F7.P.hi HBR.out)))
 have CL8:=zD (fun Q=>F7.dr.kR 0 rfl (Q:=Q) (HK.out.more (q:=.block) ⟨F7.dr.P.hi,trivial⟩ F7.dr.P hmo.out))
 obtain⟨_,_,_,_,_,_,_,_,_⟩:=F7.c 4
 have hn8:n≤4097:=by exact hn7
 go_wp2_with fail
 go_region_law (first | (go_simp;go_at_call 145;(with_reducible refine CL8.out _ fun w8 d8_0 d8_1 d8_2 d8_3 d8_4 d8_5 d8_6 d8_7 d8_8 F8=>?_);obtain⟨_,_,_,_,_,_,_,_,_⟩:=F8.c 4;obtain⟨_,_,_,_,_,_,_,_,_⟩:=(F8.al (.cells #[d8_0,d8_1,d8_2,d8_3,d8_4,d8_5,d8_6,d8_7,d8_8] 72)).c 4) | (refine F8.snocS 0 5 rfl rfl (fun _ h=>h) hn8 rfl _ _ rfl rfl rfl fun A9 cp9 w9 F9=>?_;obtain⟨_,_,_,_,_,_,_,_,_⟩:=F9.c 4;obtain⟨_,_,_,_,_,_,_,_,_⟩:=F9.f 4))
 all_goals
  have F10:=F9.set 4 8 (.slice A9 (n+1) cp9)
  obtain⟨_,_,_,_,_,_,_,_,_⟩:=F10.c 4
  obtain⟨_,_,_,_,_,_,_,_,_⟩:=F10.c 1
  obtain⟨_,_,_,_,_,_,_,_,_⟩:=F10.f 1
  go_wp2_with fail
  have F11:=F10.rowK 0 rfl 42
  refine zP (F11.put 1 6) fun V12 F12=>?_
  have q:=F12.c 1
  exact F12.ret 6 rfl (by simp[results,Tryz.results173,go_sem,q]) rfl (HR.out.symm.trans (by
   unfold zE
   dsimp only
   simp[HNL.out,HBR.out])) (fun _ h=>h)
theorem zRD {C:Pc} {l:List Tr} {s:Ps} {w:World} (hp:Pre C.L (.body l) s) (K:KP C (zh C.L (.body l) s)) (h:Pa C s w) (a:World) (A:Option Addr) (n cp:Nat) (_hln:l.length=n) (hn7:n≤4097) (hga:a.grownBy w (some C.g)) (hgA:C.g < a.heap.size) (hrow:RowP w (a.heap.size≤·) (.slice A n cp) l) (hnl:(zM C.L s.k).nl=true) (hbr:onP C.L [123] (zO C.L [61,62] (zc C.L s))=false):
 Calls Tryz.prog 173 #[.pointer (some ⟨C.g,0,none⟩),.slice A n cp] w (zQU C a (zI C.L (.body l) s)):=by
 refine zSZ hp h hga hgA hrow fun HL hlen hsk r W X HR hW hX F0=>?_
 have HK:=zD K
 have HNL:=zD hnl
 have HBR:=zD hbr
 clear K h hp hga hgA hrow hnl hbr
 go_enter Tryz.func173,Tryz.ntmps173
 go_upto_region 1 with(fail)
 clear hW hX
 obtain⟨⟨kd,tx,st,nk,nn,mg,ps,nl⟩,HT⟩:=zU C.L (s).k
 have hnl2:nl=true:=by have:=HNL.out;rw[HT.out]at this;exact this
 subst hnl2
 have hf6:=zJ4
 go_wp2_with fail
 refine F0.kT (zm F0.P HT.out) fun w1 As Am c1 c2 F1=>?_
 go_wp2_with fail
 refine F1.kN (zx F1.P) fun w2 F2=>?_
 go_wp2_with fail
 refine F2.kN (zAE F2.P [61,62]) fun w3 F3=>?_
 go_wp2_with fail
 refine F3.kQ (zAZ _ _ _ _) fun w4 F4=>?_
 have F5:=F4.rowK 0 rfl 42
 have F6:=F5.bt 3 72 rfl
 go_wp2_with fail
 refine F6.kB (zAR F6.P [123] HBR.out) fun w7 F7=>?_
 have hle:=zD (show s.k≤(zO C.L [61,62] (zc C.L s)).k from(Nat.le_trans (zp hsk).adv.le (zS (w:=[61,62]) HL.out (zp hsk).adv.hi).adv.le))
 have CL8:=zD (fun Q=>F7.dr.kR 0 rfl (Q:=Q) (HK.out.rank (q:=.assign) ⟨F7.dr.P.hi,trivial⟩ F7.dr.P hle.out (by simp[zn])))
 obtain⟨_,_,_,_,_,_,_,_,_⟩:=F7.c 4
 have hn8:n≤4097:=by exact hn7
 go_wp2_with fail
 go_region_law (first | (go_simp;go_at_call 140;(with_reducible refine CL8.out _ fun w8 d8_0 d8_1 d8_2 d8_3 d8_4 d8_5 d8_6 d8_7 d8_8 F8=>?_);obtain⟨_,_,_,_,_,_,_,_,_⟩:=F8.c 4;obtain⟨_,_,_,_,_,_,_,_,_⟩:=(F8.al (.cells #[d8_0,d8_1,d8_2,d8_3,d8_4,d8_5,d8_6,d8_7,d8_8] 72)).c 4) | (refine F8.snocS 0 5 rfl rfl (fun _ h=>h) hn8 rfl _ _ rfl rfl rfl fun A9 cp9 w9 F9=>?_;obtain⟨_,_,_,_,_,_,_,_,_⟩:=F9.c 4;obtain⟨_,_,_,_,_,_,_,_,_⟩:=F9.f 4))
 all_goals
  have F10:=F9.set 4 8 (.slice A9 (n+1) cp9)
  obtain⟨_,_,_,_,_,_,_,_,_⟩:=F10.c 4
  obtain⟨_,_,_,_,_,_,_,_,_⟩:=F10.c 1
  obtain⟨_,_,_,_,_,_,_,_,_⟩:=F10.f 1
  go_wp2_with fail
  have F11:=F10.rowK 0 rfl 42
  refine zP (F11.put 1 6) fun V12 F12=>?_
  have q:=F12.c 1
  exact F12.ret 6 rfl (by simp[results,Tryz.results173,go_sem,q]) rfl (HR.out.symm.trans (by
   unfold zE
   dsimp only
   simp[HNL.out,HBR.out])) (fun _ h=>h)
theorem zRE {C:Pc} {l:List Tr} {s:Ps} {w:World} (hp:Pre C.L (.body l) s) (K:KP C (zh C.L (.body l) s)) (h:Pa C s w) (a:World) (A:Option Addr) (n cp:Nat) (_hln:l.length=n) (hn7:n≤4097) (hga:a.grownBy w (some C.g)) (hgA:C.g < a.heap.size) (hrow:RowP w (a.heap.size≤·) (.slice A n cp) l) (hnl:(zM C.L s.k).nl=false) (hbr:onP C.L [123] (zO C.L [61,62] (s))=true):
 Calls Tryz.prog 173 #[.pointer (some ⟨C.g,0,none⟩),.slice A n cp] w (zQU C a (zI C.L (.body l) s)):=by
 refine zSZ hp h hga hgA hrow fun HL hlen hsk r W X HR hW hX F0=>?_
 have HK:=zD K
 have HNL:=zD hnl
 have HBR:=zD hbr
 clear K h hp hga hgA hrow hnl hbr
 go_enter Tryz.func173,Tryz.ntmps173
 go_upto_region 1 with(fail)
 clear hW hX
 obtain⟨⟨kd,tx,st,nk,nn,mg,ps,nl⟩,HT⟩:=zU C.L (s).k
 have hnl2:nl=false:=by have:=HNL.out;rw[HT.out]at this;exact this
 subst hnl2
 have hf6:=zJ4
 go_wp2_with fail
 refine F0.kT (zm F0.P HT.out) fun w1 As Am c1 c2 F1=>?_
 go_wp2_with fail
 refine F1.kN (zAE F1.P [61,62]) fun w2 F2=>?_
 go_wp2_with fail
 refine F2.kQ (zAZ _ _ _ _) fun w3 F3=>?_
 have F4:=F3.rowK 0 rfl 42
 have F5:=F4.bt 3 72 rfl
 go_wp2_with fail
 refine F5.kB (zAR F5.P [123] HBR.out) fun w6 F6=>?_
 have hle:=zD (show s.k≤(zO C.L [61,62] (s)).k from(zS (w:=[61,62]) HL.out hsk).adv.le)
 have hmo:=zD (show s.k < (zO C.L [61,62] (s)).k from(zS (w:=[61,62]) HL.out hsk).more (Nat.lt_of_le_of_lt hle.out (HL.out.on (s:=zO C.L [61,62] (s)) F6.P.hi HBR.out)))
 have CL7:=zD (fun Q=>F6.dr.kR 0 rfl (Q:=Q) (HK.out.more (q:=.block) ⟨F6.dr.P.hi,trivial⟩ F6.dr.P hmo.out))
 obtain⟨_,_,_,_,_,_,_,_,_⟩:=F6.c 4
 have hn7:n≤4097:=by exact hn7
 go_wp2_with fail
 go_region_law (first | (go_simp;go_at_call 145;(with_reducible refine CL7.out _ fun w7 d7_0 d7_1 d7_2 d7_3 d7_4 d7_5 d7_6 d7_7 d7_8 F7=>?_);obtain⟨_,_,_,_,_,_,_,_,_⟩:=F7.c 4;obtain⟨_,_,_,_,_,_,_,_,_⟩:=(F7.al (.cells #[d7_0,d7_1,d7_2,d7_3,d7_4,d7_5,d7_6,d7_7,d7_8] 72)).c 4) | (refine F7.snocS 0 5 rfl rfl (fun _ h=>h) hn7 rfl _ _ rfl rfl rfl fun A8 cp8 w8 F8=>?_;obtain⟨_,_,_,_,_,_,_,_,_⟩:=F8.c 4;obtain⟨_,_,_,_,_,_,_,_,_⟩:=F8.f 4))
 all_goals
  have F9:=F8.set 4 8 (.slice A8 (n+1) cp8)
  obtain⟨_,_,_,_,_,_,_,_,_⟩:=F9.c 4
  obtain⟨_,_,_,_,_,_,_,_,_⟩:=F9.c 1
  obtain⟨_,_,_,_,_,_,_,_,_⟩:=F9.f 1
  go_wp2_with fail
  have F10:=F9.rowK 0 rfl 42
  refine zP (F10.put 1 6) fun V11 F11=>?_
  have q:=F11.c 1
  exact F11.ret 6 rfl (by simp[results,Tryz.results173,go_sem,q]) rfl (HR.out.symm.trans (by
   unfold zE
   dsimp only
   simp[HNL.out,HBR.out])) (fun _ h=>h)
theorem zRF {C:Pc} {l:List Tr} {s:Ps} {w:World} (hp:Pre C.L (.body l) s) (K:KP C (zh C.L (.body l) s)) (h:Pa C s w) (a:World) (A:Option Addr) (n cp:Nat) (_hln:l.length=n) (hn7:n≤4097) (hga:a.grownBy w (some C.g)) (hgA:C.g < a.heap.size) (hrow:RowP w (a.heap.size≤·) (.slice A n cp) l) (hnl:(zM C.L s.k).nl=false) (hbr:onP C.L [123] (zO C.L [61,62] (s))=false):
 Calls Tryz.prog 173 #[.pointer (some ⟨C.g,0,none⟩),.slice A n cp] w (zQU C a (zI C.L (.body l) s)):=by
 refine zSZ hp h hga hgA hrow fun HL hlen hsk r W X HR hW hX F0=>?_
 have HK:=zD K
 have HNL:=zD hnl
 have HBR:=zD hbr
 clear K h hp hga hgA hrow hnl hbr
 go_enter Tryz.func173,Tryz.ntmps173
 go_upto_region 1 with(fail)
 clear hW hX
 obtain⟨⟨kd,tx,st,nk,nn,mg,ps,nl⟩,HT⟩:=zU C.L (s).k
 have hnl2:nl=false:=by have:=HNL.out;rw[HT.out]at this;exact this
 subst hnl2
 have hf6:=zJ4
 go_wp2_with fail
 refine F0.kT (zm F0.P HT.out) fun w1 As Am c1 c2 F1=>?_
 go_wp2_with fail
 refine F1.kN (zAE F1.P [61,62]) fun w2 F2=>?_
 go_wp2_with fail
 refine F2.kQ (zAZ _ _ _ _) fun w3 F3=>?_
 have F4:=F3.rowK 0 rfl 42
 have F5:=F4.bt 3 72 rfl
 go_wp2_with fail
 refine F5.kB (zAR F5.P [123] HBR.out) fun w6 F6=>?_
 have hle:=zD (show s.k≤(zO C.L [61,62] (s)).k from(zS (w:=[61,62]) HL.out hsk).adv.le)
 have CL7:=zD (fun Q=>F6.dr.kR 0 rfl (Q:=Q) (HK.out.rank (q:=.assign) ⟨F6.dr.P.hi,trivial⟩ F6.dr.P hle.out (by simp[zn])))
 obtain⟨_,_,_,_,_,_,_,_,_⟩:=F6.c 4
 have hn7:n≤4097:=by exact hn7
 go_wp2_with fail
 go_region_law (first | (go_simp;go_at_call 140;(with_reducible refine CL7.out _ fun w7 d7_0 d7_1 d7_2 d7_3 d7_4 d7_5 d7_6 d7_7 d7_8 F7=>?_);obtain⟨_,_,_,_,_,_,_,_,_⟩:=F7.c 4;obtain⟨_,_,_,_,_,_,_,_,_⟩:=(F7.al (.cells #[d7_0,d7_1,d7_2,d7_3,d7_4,d7_5,d7_6,d7_7,d7_8] 72)).c 4) | (refine F7.snocS 0 5 rfl rfl (fun _ h=>h) hn7 rfl _ _ rfl rfl rfl fun A8 cp8 w8 F8=>?_;obtain⟨_,_,_,_,_,_,_,_,_⟩:=F8.c 4;obtain⟨_,_,_,_,_,_,_,_,_⟩:=F8.f 4))
 all_goals
  have F9:=F8.set 4 8 (.slice A8 (n+1) cp8)
  obtain⟨_,_,_,_,_,_,_,_,_⟩:=F9.c 4
  obtain⟨_,_,_,_,_,_,_,_,_⟩:=F9.c 1
  obtain⟨_,_,_,_,_,_,_,_,_⟩:=F9.f 1
  go_wp2_with fail
  have F10:=F9.rowK 0 rfl 42
  refine zP (F10.put 1 6) fun V11 F11=>?_
  have q:=F11.c 1
  exact F11.ret 6 rfl (by simp[results,Tryz.results173,go_sem,q]) rfl (HR.out.symm.trans (by
   unfold zE
   dsimp only
   simp[HNL.out,HBR.out])) (fun _ h=>h)
theorem zOz {C:Pc} {l:List Tr} {s:Ps} {w:World} (hp:Pre C.L (.body l) s) (K:KP C (zh C.L (.body l) s)) (h:Pa C s w):zk C s w (.body l):=by
 intro a A n cp h1 h2 h3 h4 h5
 cases hn:(zM C.L s.k).nl with
 | true=>
  cases hb:onP C.L [123] (zO C.L [61,62] (zc C.L s))with
  | true=>exact zRC hp K h a A n cp h1 h2 h3 h4 h5 hn hb
  | false=>exact zRD hp K h a A n cp h1 h2 h3 h4 h5 hn hb
 | false=>
  cases hb:onP C.L [123] (zO C.L [61,62] s)with
  | true=>exact zRE hp K h a A n cp h1 h2 h3 h4 h5 hn hb
  | false=>exact zRF hp K h a A n cp h1 h2 h3 h4 h5 hn hb
theorem zO0 {C:Pc} {s:Ps} {w:World} (hp:Pre C.L (.item) s) (K:KP C (zh C.L (.item) s)) (h:Pa C s w):zk C s w (.item):=by
 refine zAl hp h fun HL hlen hsk r W X HR hW hX F0=>?_
 have HK:=zD K
 clear K h hp
 go_enter Tryz.func60,Tryz.ntmps60
 go_upto_region 1 with(fail)
 clear hW hX
 obtain⟨⟨kd,tx,st,nk,nn,mg,ps,nl⟩,HT⟩:=zU C.L (s).k
 go_wp2_with fail
 refine F0.kT (zm F0.P HT.out) fun w1 As Am c1 c2 F1=>?_
 have F2:=F1.bt 1 44 rfl
 obtain⟨b1,hb1⟩:∃b,isT ⟨kd,tx,st,nk,nn,mg,ps,nl⟩ [108,101,116]=b:=⟨_,rfl⟩
 have Hb1:=zD hb1
 clear hb1
 obtain⟨b2,hb2⟩:∃b,isT ⟨kd,tx,st,nk,nn,mg,ps,nl⟩ [99,111,110,115,116]=b:=⟨_,rfl⟩
 have Hb2:=zD hb2
 clear hb2
 obtain⟨b3,hb3⟩:∃b,isT ⟨kd,tx,st,nk,nn,mg,ps,nl⟩ [102,117,110,99,116,105,111,110]=b:=⟨_,rfl⟩
 have Hb3:=zD hb3
 clear hb3
 obtain⟨_,_,_,_,_,_,_,_,_⟩:=F2.c 2
 go_wp2_with fail
 refine F2.kQ (zCN [108,101,116] Hb1.out) fun w3 F3=>?_
 cases b1 with
 | true=>
  go_wp2_with fail
  refine F3.kX (HK.out.rank (q:=.declares) ⟨F3.P.hi,trivial⟩ F3.P (Nat.le_refl _) (by simp[zn])) fun rq4 HRQ4 w4 d4_0 d4_1 d4_2 d4_3 d4_4 d4_5 d4_6 d4_7 d4_8 F4=>?_
  obtain⟨_,_,_,_,_,_,_,_,_⟩:=F4.sto 3
  have F5:=F4.bt 3 72 rfl
  go_wp2_with fail
  refine F5.kN (zBW F5.P) fun w6 F6=>?_
  obtain⟨_,_,_,_,_,_,_,_,_⟩:=F6.c 4
  obtain⟨_,_,_,_,_,_,_,_,_⟩:=F6.c 0
  obtain⟨_,_,_,_,_,_,_,_,_⟩:=F6.f 0
  go_wp2_with fail
  refine zP (F6.put 0 3) fun V7 F7=>?_
  have q:=F7.c 0
  exact F7.ret 3 rfl (by simp[results,Tryz.results60,go_sem,q]) rfl (HR.out.symm.trans (by
   unfold zE
   dsimp only
   simp[zCl HT.out,Hb1.out,HRQ4.out])) (fun _ h=>h)
 | false=>
  obtain⟨_,_,_,_,_,_,_,_,_⟩:=F3.c 2
  go_wp2_with fail
  refine F3.kQ (zCN [99,111,110,115,116] Hb2.out) fun w8 F8=>?_
  cases b2 with
  | true=>
   go_wp2_with fail
   refine F8.kX (HK.out.rank (q:=.declares) ⟨F8.P.hi,trivial⟩ F8.P (Nat.le_refl _) (by simp[zn])) fun rq9 HRQ9 w9 d9_0 d9_1 d9_2 d9_3 d9_4 d9_5 d9_6 d9_7 d9_8 F9=>?_
   obtain⟨_,_,_,_,_,_,_,_,_⟩:=F9.sto 3
   have F10:=F9.bt 3 72 rfl
   go_wp2_with fail
   refine F10.kN (zBW F10.P) fun w11 F11=>?_
   obtain⟨_,_,_,_,_,_,_,_,_⟩:=F11.c 4
   obtain⟨_,_,_,_,_,_,_,_,_⟩:=F11.c 0
   obtain⟨_,_,_,_,_,_,_,_,_⟩:=F11.f 0
   go_wp2_with fail
   refine zP (F11.put 0 3) fun V12 F12=>?_
   have q:=F12.c 0
   exact F12.ret 3 rfl (by simp[results,Tryz.results60,go_sem,q]) rfl (HR.out.symm.trans (by
    unfold zE
    dsimp only
    simp[zCl HT.out,Hb1.out,Hb2.out,HRQ9.out])) (fun _ h=>h)
  | false=>
   have HO:=zD ((zCl HT.out).trans Hb3.out)
   cases b3 with
   | true=>
    go_wp2_with fail
    refine F8.kM (zA6 F8.P [102,117,110,99,116,105,111,110] HO.out) fun w13 F13=>?_
    go_wp2_with fail
    refine F13.kS (zC0 F13.P) fun w14 F14=>?_
    have hlt:=zD (HL.out.on hsk HO.out)
    go_wp2_with fail
    refine F14.kX (HK.out.more (q:=.func 19 (zg C.L (stepP s)).1) ⟨F14.P.hi,trivial⟩ F14.P (Nat.lt_of_lt_of_le (Nat.lt_succ_self s.k) (zAO (s:=stepP s) HL.out hlt.out).adv.le)) fun rq15 HRQ15 w15 d15_0 d15_1 d15_2 d15_3 d15_4 d15_5 d15_6 d15_7 d15_8 F15=>?_
    obtain⟨_,_,_,_,_,_,_,_,_⟩:=F15.sto 3
    obtain⟨_,_,_,_,_,_,_,_,_⟩:=F15.c 0
    obtain⟨_,_,_,_,_,_,_,_,_⟩:=F15.f 0
    go_wp2_with fail
    refine zP (F15.put 0 3) fun V16 F16=>?_
    have q:=F16.c 0
    exact F16.ret 3 rfl (by simp[results,Tryz.results60,go_sem,q]) rfl (HR.out.symm.trans (by
     unfold zE
     dsimp only
     simp[zCl HT.out,Hb1.out,Hb2.out,Hb3.out,HRQ15.out])) (fun _ h=>h)
   | false=>
    go_wp2_with fail
    refine F8.kM (zA9 F8.P [102,117,110,99,116,105,111,110] HO.out) fun w17 F17=>?_
    go_wp2_with fail
    refine F17.kX (HK.out.rank (q:=.statement) ⟨F17.P.hi,trivial⟩ F17.P (Nat.le_refl _) (by simp[zn])) fun rq18 HRQ18 w18 d18_0 d18_1 d18_2 d18_3 d18_4 d18_5 d18_6 d18_7 d18_8 F18=>?_
    obtain⟨_,_,_,_,_,_,_,_,_⟩:=F18.sto 3
    obtain⟨_,_,_,_,_,_,_,_,_⟩:=F18.c 0
    obtain⟨_,_,_,_,_,_,_,_,_⟩:=F18.f 0
    go_wp2_with fail
    refine zP (F18.put 0 3) fun V19 F19=>?_
    have q:=F19.c 0
    exact F19.ret 3 rfl (by simp[results,Tryz.results60,go_sem,q]) rfl (HR.out.symm.trans (by
     unfold zE
     dsimp only
     simp[zCl HT.out,Hb1.out,Hb2.out,Hb3.out,HRQ18.out])) (fun _ h=>h)
end Go.Proofs.YtlohaclgbfhijaaGreatDoor
