/- Joined for the claim EarlySame: the parser, the lexer and the trees as they are walked, made short by a program of mine. -/
import Derived.Test.YtjlfhidpmdgloaaGreatDoorH02
import Derived.Test.YtjlfhidpmdgloaaGreatDoorH01
import Derived.Test.YtjlfhidpmdgloaaGreatDoorH04
import Derived.Deep.LoopGhost
import Derived.Deep.RegionLaw
import Derived.Laws.StandIn
import Derived.Lib.Bytealg
import Derived.Deep.CutBlock
import Derived.Deep.DeepCutAuto
import Derived.Deep.RegionWith
import Derived.Deep.RegionHeld3
set_option maxHeartbeats 16000000
set_option maxRecDepth 1000000
namespace Go.Proofs.YtjlfhidpmdgloaaGreatDoor
open Go.Proofs.Tryz
open Go.RowKit
variable {n k c B e m j p d i base:Nat} {A:jQ} {u l r b:jH} {ms outs:List Nat} {t:Tok} {wr:World} {v:Value} {x y:UInt16} {s:ByteArray} {q:UInt16→Bool} {xs:List Value} {z zero:Bool}
theorem Reads.spotL {w:World} (h:Reads w B 1 A n (zAC l)) (g:0 < l.length):
 ∃b off,A=some ⟨b,off,none⟩∧b < B∧∀j (f:j < l.length),w.cell? ⟨b,off+j,none⟩=some (.int .u16 (l[j].toNat:Int)):=by
 obtain⟨d,e,hb,c⟩:=h.u16_0 g;have hs:d.spot=none:=by
  cases hsp:d.spot with
  | none=>rfl
  | some s=>
   exfalso;simp only[World.cell?,hsp]at c;split at c
   · simp at c
   · cases c
 obtain⟨b,off,m⟩:=d;simp only at hs;subst hs;refine⟨b,off,e,hb,fun j f=>?_⟩;obtain⟨k,e',_,h1⟩:=h.u16 f;rw[e]at e';injection e' with e';subst e';rw[Addr.add_lit]at h1;exact h1
theorem zDp {p:UInt16→Bool} (h:k+j < u.length):zBE j p (u.drop k)=p u[k+j]:=by
 unfold zBE;rw[yCM,yAB h];rfl
theorem zDN {p:UInt16→Bool} (h:¬k+j < u.length):zBE j p (u.drop k)=false:=by
 unfold zBE;rw[yCM,yBC jo];rfl
theorem zDq {α:Type} {e e':α} {w w':World} (h:e=e'∧w=w'):e=e'∧w'=w:=⟨h.1,h.2.symm⟩
theorem zHn {g:Nat} {w:World} (o:Rd w g A n c k) (v:u.length=n) (y:Reads w B 1 A n (zAC u)) (hk:k≤n) (E:n≤4096) (F:j≤4096) {q:Bool} (p:zBE j zAx (u.drop k)=q):
 Calls prog 74 #[.pointer (some g),j,.func (.func 69) #[] #[]] w fun e w'=>e=.returned q∧∃m,w'=w.drewN m:=by
 subst v;have C:=o.c0;have D:=o.c1
 by_cases d:k+j < u.length
 · have l:(k:Int)+(j:Int) < (u.length:Int):=by omega
   have r:=zA (show zAx u[k+j]=q by rw[←p,zDp d]);obtain⟨b,off,rfl,_,f⟩:=y.spotL jo;have s:=f (k+j) d;obtain⟨x,t⟩:=jx (u[k+j]);rw[t]at s r;clear f p t o;go_enter func74,ntmps74;go_wp2_with fail
   go_quiet (first | (go_at_call 69;refine Calls.quiet_of_same ((zA4 _ _).mono fun _ _ h=>zDq h)))
   go_wp2;go_ret;exact⟨zF r,_,rfl⟩
 · have l:¬(k:Int)+(j:Int) < (u.length:Int):=by omega
   have z:decide ((k:Int)+(j:Int) < (u.length:Int))=false:=yAI l;have r:=zA (show false=q by rw[←p,zDN d]);clear d p o;go_enter func74,ntmps74;go_wp2_with fail
   go_quiet (fail)
   go_wp2;go_ret;exact⟨zF r,_,rfl⟩
theorem zAn {g:Nat} {w:World} (o:Rd w g A n c k) (v:u.length=n) (y:Reads w B 1 A n (zAC u)) (hk:k≤n) (E:n≤4096) (F:j≤4096) {q:Bool} (p:zBE j zJ (u.drop k)=q):
 Calls prog 74 #[.pointer (some g),j,.func (.func 71) #[] #[]] w fun e w'=>e=.returned q∧∃m,w'=w.drewN m:=by
 subst v;have C:=o.c0;have D:=o.c1
 by_cases d:k+j < u.length
 · have l:(k:Int)+(j:Int) < (u.length:Int):=by omega
   have r:=zA (show zJ u[k+j]=q by rw[←p,zDp d]);obtain⟨b,off,rfl,_,f⟩:=y.spotL jo;have s:=f (k+j) d;obtain⟨x,t⟩:=jx (u[k+j]);rw[t]at s r;clear f p t o;go_enter func74,ntmps74;go_wp2_with fail
   go_quiet (first | (go_at_call 71;refine Calls.quiet_of_same ((zAF _ _).mono fun _ _ h=>zDq h)))
   go_wp2;go_ret;exact⟨zF r,_,rfl⟩
 · have l:¬(k:Int)+(j:Int) < (u.length:Int):=by omega
   have z:decide ((k:Int)+(j:Int) < (u.length:Int))=false:=yAI l;have r:=zA (show false=q by rw[←p,zDN d]);clear d p o;go_enter func74,ntmps74;go_wp2_with fail
   go_quiet (fail)
   go_wp2;go_ret;exact⟨zF r,_,rfl⟩
theorem zKq {g:Nat} {w:World} (o:Rd w g A n c k) (v:u.length=n) (y:Reads w B 1 A n (zAC u)) (hk:k≤n) (E:n≤4096) (F:j≤4096) {q:Bool} (p:zBE j zAu (u.drop k)=q):
 Calls prog 74 #[.pointer (some g),j,.func (.func 112) #[] #[]] w fun e w'=>e=.returned q∧∃m,w'=w.drewN m:=by
 subst v;have C:=o.c0;have D:=o.c1
 by_cases d:k+j < u.length
 · have l:(k:Int)+(j:Int) < (u.length:Int):=by omega
   have r:=zA (show zAu u[k+j]=q by rw[←p,zDp d]);obtain⟨b,off,rfl,_,f⟩:=y.spotL jo;have s:=f (k+j) d;obtain⟨x,t⟩:=jx (u[k+j]);rw[t]at s r;clear f p t o;go_enter func74,ntmps74;go_wp2_with fail
   go_quiet (first | (go_at_call 112;refine Calls.quiet_of_same ((zPC _ _).mono fun _ _ h=>zDq h)))
   go_wp2;go_ret;exact⟨zF r,_,rfl⟩
 · have l:¬(k:Int)+(j:Int) < (u.length:Int):=by omega
   have z:decide ((k:Int)+(j:Int) < (u.length:Int))=false:=yAI l;have r:=zA (show false=q by rw[←p,zDN d]);clear d p o;go_enter func74,ntmps74;go_wp2_with fail
   go_quiet (fail)
   go_wp2;go_ret;exact⟨zF r,_,rfl⟩
theorem zQD {g:Nat} {w:World} (o:Rd w g A n c k) (v:u.length=n) (y:Reads w B 1 A n (zAC u)) (hk:k≤n) (E:n≤4096) (F:j≤4096) {q:Bool} (p:zBE j zEH (u.drop k)=q):
 Calls prog 74 #[.pointer (some g),j,.func (.func 169) #[] #[]] w fun e w'=>e=.returned q∧∃m,w'=w.drewN m:=by
 subst v;have C:=o.c0;have D:=o.c1
 by_cases d:k+j < u.length
 · have l:(k:Int)+(j:Int) < (u.length:Int):=by omega
   have r:=zA (show zEH u[k+j]=q by rw[←p,zDp d]);obtain⟨b,off,rfl,_,f⟩:=y.spotL jo;have s:=f (k+j) d;obtain⟨x,t⟩:=jx (u[k+j]);rw[t]at s r;clear f p t o;go_enter func74,ntmps74;go_wp2_with fail
   go_quiet (first | (go_at_call 169;refine Calls.quiet_of_same ((zNC _ _).mono fun _ _ h=>zDq h)))
   go_wp2;go_ret;exact⟨zF r,_,rfl⟩
 · have l:¬(k:Int)+(j:Int) < (u.length:Int):=by omega
   have z:decide ((k:Int)+(j:Int) < (u.length:Int))=false:=yAI l;have r:=zA (show false=q by rw[←p,zDN d]);clear d p o;go_enter func74,ntmps74;go_wp2_with fail
   go_quiet (fail)
   go_wp2;go_ret;exact⟨zF r,_,rfl⟩
theorem zHo {s:jE}:zg s l=true↔∀i (h:i < s.length),l[i]? =some s[i].toUInt16:=by
 unfold zg;rw[List.isPrefixOf_iff_prefix,List.prefix_iff_getElem?];simp
theorem zJR {s:jE} (h:i < s.length) (b:l[i]? ≠some s[i].toUInt16):zg s l=false:=by
 cases hs:zg s l with
 | false=>rfl
 | true=>exact absurd (zHo.1 hs i h) b
theorem zAo {g:Nat} (s:ByteArray) {w:World} (D:Rd w g A n c k) (L:u.length=n) (E:Reads w B 1 A n (zAC u)) (hk:k≤n) (S:n≤4096) (hs:s.size≤4096) {q:Bool} (F:zg s.data.toList (u.drop k)=q):
 Calls prog 67 #[.pointer (some g),.string s] w fun e w'=>e=.returned q∧∃m,w'=w.drewN m:=by
 subst L;have C:=zA F;have M:=zA E;have G:=zA D;clear F E D;go_enter func67,ntmps67;go_wp2
 go_loopw [8] (fun i wr=>∃j:Nat,j≤s.size∧i=.int .i64 (j:Nat)∧(∃m,wr=w.drewN m)∧Hid (∀i (h:i < s.data.toList.length),i < j→(u.drop k)[i]? =some s.data.toList[i].toUInt16)) (fun i _=>s.size - (intOf i).toNat)
 case atStart=>exact⟨0,yAE _,rfl,⟨0,rfl⟩,fun i _ h=>absurd h jo⟩
 case round=>
  obtain⟨j,T,rfl,⟨m,p⟩,r⟩:=hrel;have Q:wr.cell? g=some (.slice A u.length c):=by rw[p];exact(G.out.drewN m).c0
  have R:wr.cell? ⟨g,1,none⟩=some (.int .i64 (k:Int)):=by rw[p];exact(G.out.drewN m).c1
  have H:Hid (Reads wr B 1 A u.length (zAC u)):=by rw[p];exact M.out.drewN m
  have y:=zA p;clear p
  by_cases I:j < s.size
  · have z:j < s.data.toList.length:=by simpa using I
    by_cases d:k+j < u.length
    · have t:¬(u.length:Int)≤(k:Int)+(j:Int):=by omega
      have N:(k:Int)+(j:Int) < (u.length:Int):=by omega
      have O:decide ((u.length:Int)≤(k:Int)+(j:Int))=false:=yAI t;obtain⟨b,off,rfl,_,f⟩:=H.out.spotL jo;have J:=f (k+j) d;have P:=u[k+j].toNat_lt;have U:=s[j].toNat_lt;obtain⟨x,l⟩:=jx (u[k+j].toNat);rw[l]at J P
      by_cases v:x=s[j].toNat
      · have e1:((x:Int) !=(s[j].toNat:Int))=false:=by rw[v];simp
        have o:=zA (show(u.drop k)[j]? =some s.data.toList[j].toUInt16 by
         rw[yCM,yAB d];congr 1;refine yBS.1 ?_;rw[l,v];simp;rfl)
        clear f v l d;go_wp2_with fail
        go_quiet (fail)
        go_wp2
        go_roundw
        case rel=>
         refine⟨j+1,by omega,by go_num,⟨_,by rw[y.out];exact World.drewN_drewN _ _ _⟩,?_⟩;intro i h hi
         by_cases e:i=j
         · subst e;exact o.out
         · exact r.out i h jo
        case measure=>simp[intOf];omega
      · have e1:((x:Int) !=(s[j].toNat:Int))=true:=by rw[yBM];omega
        have o:=zA (show false=q by
         rw[←C.out,zJR z];rw[yCM,yAB d];intro h;injection h with h;apply v;rw[←l,h];simp;rfl)
        clear f v l d;go_wp2_with fail
        go_quiet (fail)
        go_wp2;go_ret;exact⟨zF o,_,by rw[y.out];exact World.drewN_drewN _ _ _⟩
    · have t:(u.length:Int)≤(k:Int)+(j:Int):=by omega
      have o:=zA (show false=q by
       rw[←C.out,zJR z];rw[yBC (by rw[yAR];omega)];exact fun h=>by cases h)
      clear d;go_wp2_with fail
      go_quiet (fail)
      go_wp2;go_ret;exact⟨zF o,_,by rw[y.out];exact World.drewN_drewN _ _ _⟩
  · have o:=zA (show true=q by
     rw[←C.out,zHo.2];intro i h;exact r.out i h (by have V:i < s.size:=(by simpa using h);omega))
    go_wp2;go_ret;exact⟨zF o,m,y⟩
theorem Reads.spot {w:World} {l:jE} (h:Reads w B 1 A n (u8s l)) (g:0 < l.length):
 ∃b off,A=some ⟨b,off,none⟩∧∀j,j < l.length→w.cell? ⟨b,off+j,none⟩=some (.int .u8 ((l.getD j 0).toNat:Int)):=by
 have k:l.length=n:=by have:=h.1;simpa [u8s]using this
 obtain⟨c,e,hb,d⟩:=h.2 jo;have hs:c.spot=none:=by
  have h1:=d 0 (u8v l[0]) (by rw[u8s,yCH,yAB g];rfl);cases hsp:c.spot with
  | none=>rfl
  | some s=>
   exfalso;simp only[Addr.add,if_true,World.cell?,hsp]at h1;split at h1
   · simp at h1
   · cases h1
 obtain⟨b,off,m⟩:=c;simp only at hs;subst hs;refine⟨b,off,e,fun j f=>?_⟩;have h1:=d j (u8v l[j]) (by rw[u8s,yCH,yAB f];rfl);rw[Addr.add_lit]at h1;rw[h1];simp[u8v,List.getD,f]
theorem zEa {w:World} {l:jE} (h:Reads w B 1 A n (u8s l)):
 (convert 68 9 (.slice A n c)).run prog w=.ok (.string ⟨l.toArray⟩) w:=by
 have d:l.length=n:=by have:=h.1;simpa [u8s]using this
 rcases yCN l.length with f | f
 · have g:l=[]:=yBB f;subst g;have j:n=0:=d.symm;subst j;clear d h;rw[run_convert_bytes_string w _ _ 5 A 0 c underlying68 underlying5 underlying9];cases A with
   | none=>rfl
   | some a=>exact run_bytesToString w a 0 c [] rfl
 · obtain⟨b,off,rfl,k⟩:=h.spot f;rw[run_convert_bytes_arg w _ 5 underlying68 underlying5 b off n c (l.map fun x=>(x.toNat:Int)) (by simpa using d) (fun i hi=>by rw[k i jo];simp[List.getD,show i < l.length by omega]) _ underlying9];congr 3;simp only[strOfNums,List.map_map];congr 1;have e:((fun n:Int=>UInt8.ofNat n.toNat)∘fun x:UInt8=>(x.toNat:Int))=id:=by
    funext x;simp
   rw[e,List.map_id]
def zCM (u:jH):Bool:=u.all fun x=>decide (x.toNat≤127)
def zGo (u:jH):ByteArray:=if zCM u then⟨(u.map (·.toUInt8)).toArray⟩else .empty
theorem zVr {t:ByteArray} {a b:Bool} (h:s=t) (c:a=b):Ending.returned (.tuple #[.string s,a])=.returned (.tuple #[.string t,b]):=by rw[h,c]
theorem zNa (u:jH) (k:Nat) (h:k < u.length):u8s ((u.take (k+1)).map (·.toUInt8))=u8s ((u.take k).map (·.toUInt8))++[u8v u[k].toUInt8]:=by
 rw[yAK h,yCR,u8s,yCR];rfl
theorem zNb (h:x.toNat≤127):u8v x.toUInt8=.int .u8 (x.toNat:Int):=by
 unfold u8v;congr 1;simp;omega
theorem zQE {xs:jH} {w:World} (hB:B≤w.heap.size) (t:Reads w B 1 A xs.length (zAC xs)) (G:xs.length≤70368744177664):
 Calls prog 118 #[.slice A xs.length c] w fun e w'=>e=.returned (.tuple #[.string (zGo xs),(zCM xs)])∧jY w w':=by
 obtain⟨u,l,m,o,p⟩:=info_parts Tryz.info_u8;go_enter func118,ntmps118;go_wp2
 go_loopw [4,9] (fun v i wr=>∃k:Nat,k≤xs.length∧i=.int .i64 k∧Hid (zCM (xs.take k)=true)∧Made w wr 5 v (u8s ((xs.take k).map (·.toUInt8)))) (fun _ i _=>xs.length - (intOf i).toNat)
 case atStart=>exact⟨0,yAE _,rfl,rfl,Made.nil _ _⟩
 case round=>
  obtain⟨k,hk,rfl,b,d⟩:=hrel
  by_cases f:k < xs.length
  · obtain⟨H,y,_,F⟩:=(t.below (d.below.mono hB)).u16 f;subst y;have I:(k:Int) < (xs.length:Int):=by omega
    have z:(u8s ((xs.take k).map (·.toUInt8))).length≤k:=by simp[u8s];omega
    have J:=xs[k].toNat_lt
    by_cases j:xs[k].toNat≤127
    · have C:=zA (zNb j);have D:=zA (zNa xs k f);have g:Hid (zCM (xs.take (k+1))=true):=by
       rw[yAK f,zCM,List.all_append];have:=b.out;rw[zCM]at this;rw[this];simp[j,Hid]
      go_wp2_with (at_builtin;refine zCY rfl _ _ 68 rfl 5 u _ 1 underlying68 l m o p rfl _ _ rfl d _ 1 1 rfl rfl rfl jo jo ?_;intro v' w' q)
      go_roundw
      case rel=>exact⟨k+1,by omega,by go_num,g,q.cells (by rw[D.out,C.out])⟩
      case measure=>simp[intOf];omega
    · have g:Hid (zCM xs=false):=List.all_eq_false.2 ⟨xs[k],yAZ _,by simpa using j⟩;go_wp2
      go_ret2
      exact⟨zVr (by rw[zGo,g.out];rfl) g.out.symm,d.below⟩
  · have r:xs.take k=xs:=yB jo;rw[r]at b d;obtain⟨L,E,rfl,_,_,s⟩:=d.u8;rw[List.length_map]at s⊢;have hs:=zEa (c:=E) s;go_wp2
    go_ret2
    exact⟨zVr (by rw[zGo,b.out];rfl) b.out.symm,d.below⟩
section
variable {P:Program} {w0 w:World} {g:Nat} {ops:Array Oper} {o:Oper} {a:Act} {K:Act→World→Prop} {Q:Exit→Act→World→Prop} {E:Prop}
theorem zJS (f:o.guard=none) (s x:Operand) (t:TypeId)
 (p:o.op=.call {callee:=.builtin .append,args:=#[s,x],argTypes:=#[t,t]})
 (e:TypeId) (i:TypeInfo) (z:Value) (bytes:Nat) (ht:P.underlying t=some (.slice e)) (hi:P.info? e=some i) (hz:i.zero=some z)
 (hsize:i.size=1) (hby:i.bytes=bytes) (hzs:z.cells.size=1)
 (v:Value) (xs:List Value) (hs:a.eval s=v) (hm:MadeM w0 w g e v xs)
 (cs:List Value) (m c:Nat) (hx:a.eval x=.slice (some ⟨w.heap.size,0,none⟩) m c) (hl:cs.length=m) (h1:(cs.all fun u=>u.oneCell')=true)
 (hm0:0 < m) (hsz:xs.length+m≤70368744177664) (hb2:bytes≤2)
 (h:∀v' w',MadeM w0 w' g e v' (xs++cs)→w.grownBy w' v.ownBlock→K (a.put o.dst v') w'):
 if Region.wanted o (yielded ops a.tmps)=true then Oper.wp P o a (w.alloc (.cells cs.toArray e)) K Q else E:=by
 subst hl;refine step_append_lies (w.alloc (.cells cs.toArray e)) f s x t p w0.heap.size e i z 1 bytes ht hi hz hsize hby hzs jo v xs.length xs hs (hm.own.alloc _) ⟨w.heap.size,0,none⟩ _ c cs hx jo ?_ (fun u d=>yBH.1 h1 u d) hm0 (by unfold maxLen;omega) ?_ (yAD hm.grown.size js) _ rfl ?_
 · intro j u d;rw[Addr.add_lit,yBR _ _ _ _ rfl];simpa using d
 · calc (xs.length+cs.length)*bytes≤70368744177664*2:=Nat.mul_le_mul hsz hb2
    _≤140737488355328:=by omega
 · intro gg cap w' h1 q _ _;have b:w.grownBy w' v.ownBlock:=zC (zG w _ _) q;refine h _ w' ⟨by rw[yAN];exact h1,⟨b.os.trans hm.grown.os,b.tape.trans hm.grown.tape,b.output.trans hm.grown.output,yAD hm.grown.size b.size,fun k hk l=>?_⟩⟩ b;rw[b.block k (yAA hk hm.grown.size) (fun e=>by have:=(hm.own.lt k e.symm).1;omega)];exact hm.grown.block k hk l
end
def AtRun (q:UInt16→Bool) (u:jH) (k p:Nat) (bs:jE):Prop:=∃i,p=k+i∧bs=asc ((u.drop k).take i)∧(u.drop k).takeWhile q=(u.drop k).take i++(u.drop p).takeWhile q∧bs.length=i
theorem AtRun.start (q:UInt16→Bool) (u:jH) (k:Nat):AtRun q u k k []:=⟨0,rfl,rfl,by simp,rfl⟩
theorem AtRun.step {b:jE} (h:AtRun q u k p b) (e:p < u.length) (h1:q u[p]=true):AtRun q u k (p+1) (b++[u[p].toUInt8]):=by
 obtain⟨i,hi,hb,f,g⟩:=h;have c:i < (u.drop k).length:=by rw[yAR];omega
 have j:(u.drop k)[i]=u[p]:=by rw[List.getElem_drop];congr 1;omega
 have d:(u.drop k).take (i+1)=(u.drop k).take i++[u[p]]:=by rw[yAK c,j]
 refine⟨i+1,by omega,?_,?_,by simp[g]⟩
 · rw[d,hb];simp[asc]
 · rw[f,d,yAH e,yBY h1,yAL];rfl
theorem AtRun.stop {b:jE} (h:AtRun q u k p b) (h1:zBE 0 q (u.drop p)=false):b=asc ((u.drop k).takeWhile q)∧p=k+((u.drop k).takeWhile q).length:=by
 obtain⟨i,hi,hb,c,g⟩:=h;have e:(u.drop p).takeWhile q=[]:=by
  cases hd:u.drop p with
  | nil=>rfl
  | cons x r=>
   rw[hd]at h1;rw[List.takeWhile_cons_of_neg];intro f;have:zBE 0 q (x::r)=q x:=rfl;rw[this,f]at h1;cases h1
 rw[e,yAS]at c;have d:=congrArg List.length hb;rw[c];refine⟨hb,?_⟩;simp only[asc,List.length_map]at d;omega
theorem zMC (x:UInt16):u8v x.toUInt8=.int .u8 (IntKind.u8.wrap (x.toNat:Int)):=by
 unfold u8v;rw[IntKind.wrap_u8];congr 1
theorem zQF (h:p < u.length):zBE 0 q (u.drop p)=q u[p]:=by
 have:=zDp (u:=u) (k:=p) (j:=0) (p:=q) jo;simpa using this
theorem zJT (h:¬p < u.length):zBE 0 q (u.drop p)=false:=zDN jo
theorem zNc {g:Nat} {w:World} (L:Rd w g A n c k) (hn:u.length=n) (O:Reads w B 1 A n (zAC u)) (hB:B≤g) (hk:k≤n) (F:n≤4096) (P:(u.drop k).takeWhile zJ=l):
 Calls prog 111 #[.pointer (some g),.func (.func 71) #[] #[]] w fun e w'=>e=.returned (asc l)∧Mv w w' g A n c (k+l.length):=by
 subst hn;obtain⟨i0,Q,R,S,T⟩:=info_parts Tryz.info_u8;have U:=zA P;have HA:=zA O;have hg:=L.lt;have V:=zA (Mv.refl L);clear P O L;go_enter func111,ntmps111;go_wp2
 go_loopg [5] (u.length - k) (fun r v wr=>∃p G,p+r=u.length∧Hid (Mv w wr g A u.length c p)∧Hid (AtRun zJ u k p G)∧MadeM w wr g 5 v (u8s G))
 case atStart=>exact⟨k,[],by omega,V,AtRun.start _ _ _,MadeM.nil (World.grownBy.refl w _) _⟩
 case round=>
  obtain⟨p,G,a2,b,o,H⟩:=hrel;have q:=zA (HA.out.grown b.out.grown hB (yAM hg));have a3:G.length≤p:=by obtain⟨i,hi,_,_,F⟩:=o.out;omega
  by_cases d:p < u.length
  · have a1:(p:Int) < (u.length:Int):=by omega
    cases hqx:zJ u[p]with
    | true=>
     have m:=zA (show zBE 0 zJ (u.drop p)=true by rw[zQF d];exact hqx);have W:=zA (o.out.step d hqx);go_wp2_with fail;refine(zAn (j:=0) b.out.rd rfl q jo F jo m).mono ?_;rintro e1 w1 ⟨rfl,m1,f⟩;subst f;have a4:=zA (b.out.drewN m1);have a5:=b.out.rd.c0;have a6:=b.out.rd.c1;obtain⟨blk,off,rfl,_,s⟩:=q.out.spotL jo;have X:=s p d;have hx:=u[p].toNat_lt;have I:=zA H;have Y:=zA (show u8s [u[p].toUInt8]=[.int .u8 (IntKind.u8.wrap (u[p].toNat:Int))] by rw[u8s,List.map_cons,zMC];rfl);obtain⟨x,t⟩:=jx (u[p].toNat);rw[t]at X hx;rw[t]at Y;clear s t H;go_wp2_with fail;go_region_law (first | (refine zJS rfl _ _ 68 rfl 5 i0 _ 1 underlying68 Q R S T rfl _ _ rfl (I.out.go hg (zAA wr (some g) (m1+1))) [.int .u8 (IntKind.u8.wrap (x:Int))] 1 1 rfl rfl rfl jo (by rw[zEU];omega) jo ?_;intro v' w' J a0))
     all_goals have y:=zA (Rd.appended (b.out.rd.drewN (m1+1)) (I.out.go hg (zAA wr (some g) (m1+1))) hg a0)
     all_goals have a7:=y.out.c1
     all_goals have a8:=y.out.f1
     all_goals go_wp2
     all_goals go_roundg (gk - 1)
     all_goals first
      | omega
      | exact⟨p+1,_,by omega,⟨y.out.setI jo,zC J.grown (zM w' g 1 _)⟩,W,(J.go hg (zM w' g 1 _)).cells (by rw[←Y.out];simp[u8s])⟩
    | false=>
     have m:=zA (show zBE 0 zJ (u.drop p)=false by rw[zQF d];exact hqx);have z:=zA (o.out.stop m);go_wp2_with fail;refine(zAn (j:=0) b.out.rd rfl q jo F jo m).mono ?_;rintro e1 w1 ⟨rfl,m1,f⟩;subst f;obtain⟨A',M,rfl,_,_,C⟩:=(H.go hg (zAA wr (some g) m1)).u8;have N:=zEa (c:=M) C;go_wp2;go_ret;obtain⟨D,E⟩:=z.out;rw[U.out]at D E;exact⟨by rw[D];rfl,by rw[←E];exact b.out.drewN m1⟩
  · have m:=zA (show zBE 0 zJ (u.drop p)=false from zJT d);have z:=zA (o.out.stop m);go_wp2_with fail;refine(zAn (j:=0) b.out.rd rfl q jo F jo m).mono ?_;rintro e1 w1 ⟨rfl,m1,f⟩;subst f;obtain⟨A',M,rfl,_,_,C⟩:=(H.go hg (zAA wr (some g) m1)).u8;have N:=zEa (c:=M) C;go_wp2;go_ret;obtain⟨D,E⟩:=z.out;rw[U.out]at D E;exact⟨by rw[D];rfl,by rw[←E];exact b.out.drewN m1⟩
theorem zTY {g:Nat} {w:World} (L:Rd w g A n c k) (hn:u.length=n) (O:Reads w B 1 A n (zAC u)) (hB:B≤g) (hk:k≤n) (F:n≤4096) (P:(u.drop k).takeWhile zAu=l):
 Calls prog 111 #[.pointer (some g),.func (.func 112) #[] #[]] w fun e w'=>e=.returned (asc l)∧Mv w w' g A n c (k+l.length):=by
 subst hn;obtain⟨i0,Q,R,S,T⟩:=info_parts Tryz.info_u8;have U:=zA P;have HA:=zA O;have hg:=L.lt;have V:=zA (Mv.refl L);clear P O L;go_enter func111,ntmps111;go_wp2
 go_loopg [5] (u.length - k) (fun r v wr=>∃p G,p+r=u.length∧Hid (Mv w wr g A u.length c p)∧Hid (AtRun zAu u k p G)∧MadeM w wr g 5 v (u8s G))
 case atStart=>exact⟨k,[],by omega,V,AtRun.start _ _ _,MadeM.nil (World.grownBy.refl w _) _⟩
 case round=>
  obtain⟨p,G,a2,b,o,H⟩:=hrel;have q:=zA (HA.out.grown b.out.grown hB (yAM hg));have a3:G.length≤p:=by obtain⟨i,hi,_,_,F⟩:=o.out;omega
  by_cases d:p < u.length
  · have a1:(p:Int) < (u.length:Int):=by omega
    cases hqx:zAu u[p]with
    | true=>
     have m:=zA (show zBE 0 zAu (u.drop p)=true by rw[zQF d];exact hqx);have W:=zA (o.out.step d hqx);go_wp2_with fail;refine(zKq (j:=0) b.out.rd rfl q jo F jo m).mono ?_;rintro e1 w1 ⟨rfl,m1,f⟩;subst f;have a4:=zA (b.out.drewN m1);have a5:=b.out.rd.c0;have a6:=b.out.rd.c1;obtain⟨blk,off,rfl,_,s⟩:=q.out.spotL jo;have X:=s p d;have hx:=u[p].toNat_lt;have I:=zA H;have Y:=zA (show u8s [u[p].toUInt8]=[.int .u8 (IntKind.u8.wrap (u[p].toNat:Int))] by rw[u8s,List.map_cons,zMC];rfl);obtain⟨x,t⟩:=jx (u[p].toNat);rw[t]at X hx;rw[t]at Y;clear s t H;go_wp2_with fail;go_region_law (first | (refine zJS rfl _ _ 68 rfl 5 i0 _ 1 underlying68 Q R S T rfl _ _ rfl (I.out.go hg (zAA wr (some g) (m1+1))) [.int .u8 (IntKind.u8.wrap (x:Int))] 1 1 rfl rfl rfl jo (by rw[zEU];omega) jo ?_;intro v' w' J a0))
     all_goals have y:=zA (Rd.appended (b.out.rd.drewN (m1+1)) (I.out.go hg (zAA wr (some g) (m1+1))) hg a0)
     all_goals have a7:=y.out.c1
     all_goals have a8:=y.out.f1
     all_goals go_wp2
     all_goals go_roundg (gk - 1)
     all_goals first
      | omega
      | exact⟨p+1,_,by omega,⟨y.out.setI jo,zC J.grown (zM w' g 1 _)⟩,W,(J.go hg (zM w' g 1 _)).cells (by rw[←Y.out];simp[u8s])⟩
    | false=>
     have m:=zA (show zBE 0 zAu (u.drop p)=false by rw[zQF d];exact hqx);have z:=zA (o.out.stop m);go_wp2_with fail;refine(zKq (j:=0) b.out.rd rfl q jo F jo m).mono ?_;rintro e1 w1 ⟨rfl,m1,f⟩;subst f;obtain⟨A',M,rfl,_,_,C⟩:=(H.go hg (zAA wr (some g) m1)).u8;have N:=zEa (c:=M) C;go_wp2;go_ret;obtain⟨D,E⟩:=z.out;rw[U.out]at D E;exact⟨by rw[D];rfl,by rw[←E];exact b.out.drewN m1⟩
  · have m:=zA (show zBE 0 zAu (u.drop p)=false from zJT d);have z:=zA (o.out.stop m);go_wp2_with fail;refine(zKq (j:=0) b.out.rd rfl q jo F jo m).mono ?_;rintro e1 w1 ⟨rfl,m1,f⟩;subst f;obtain⟨A',M,rfl,_,_,C⟩:=(H.go hg (zAA wr (some g) m1)).u8;have N:=zEa (c:=M) C;go_wp2;go_ret;obtain⟨D,E⟩:=z.out;rw[U.out]at D E;exact⟨by rw[D];rfl,by rw[←E];exact b.out.drewN m1⟩
def Blk (w:World) (R:Nat) (cs:List Value):Prop:=R < w.heap.size∧∀j (h:j < cs.length),w.cell? ⟨R,j,none⟩=some cs[j]∧w.frozen? ⟨R,j,none⟩=false
def zBP:List Value:=[(0:Int),"",(),(0:Int),(0:Int),false,(),(0:Int),false]
def noV:Value:=.agg #[(0:Int),"",(),(0:Int),(0:Int),false,(),(0:Int),false]
theorem Blk.new (w:World) (cs:List Value) (T:TypeId):Blk (w.alloc (.cells cs.toArray T)) w.heap.size cs:=by
 refine⟨by simp,fun j h=>⟨?_,?_⟩⟩
 · rw[yBR _ _ _ _ rfl];simp[yAB h]
 · exact World.frozen?_alloc_at _ _ _ _ rfl
theorem Blk.grown {w w':World} {R g:Nat} {cs:List Value} (h:Blk w R cs) (hg:w.grownBy w' (some g)) (b:R≠g):Blk w' R cs:=
 ⟨yAA h.1 hg.size,fun j c=>⟨zBT hg (h.2 j c).1 b,(zDd (p:=⟨R,j,none⟩) hg h.1 b).trans (h.2 j c).2⟩⟩
theorem Blk.below {w w':World} {R D:Nat} {cs:List Value} (h:Blk w R cs) (hb:Below D w w') (b:R < D):Blk w' R cs:=
 ⟨yAA h.1 hb.size,fun j c=>⟨(hb.cell (p:=⟨R,j,none⟩) b).trans (h.2 j c).1,(hb.frozen (p:=⟨R,j,none⟩) b).trans (h.2 j c).2⟩⟩
section
variable {w w0 w':World} {R:Nat} {cs:List Value} {v0 v1 v2 v3 v4 v5 v6 v7 v8:Value}
theorem Blk.cell (h:Blk w R cs) (b:j < cs.length):w.cell? ⟨R,j,none⟩=some cs[j]:=(h.2 j b).1
theorem zFf (h:Blk w R cs) (b:cs.length=9):
 (((((((((w.setCell R v0).setCell ⟨R,1,none⟩ v1).setCell ⟨R,2,none⟩ v2).setCell ⟨R,3,none⟩ v3).setCell ⟨R,4,none⟩ v4).setCell ⟨R,5,none⟩ v5).setCell ⟨R,6,none⟩ v6).setCell ⟨R,7,none⟩ v7).setCell ⟨R,8,none⟩ v8).cell? R=some v0∧(((((((((w.setCell R v0).setCell ⟨R,1,none⟩ v1).setCell ⟨R,2,none⟩ v2).setCell ⟨R,3,none⟩ v3).setCell ⟨R,4,none⟩ v4).setCell ⟨R,5,none⟩ v5).setCell ⟨R,6,none⟩ v6).setCell ⟨R,7,none⟩ v7).setCell ⟨R,8,none⟩ v8).cell? ⟨R,1,none⟩=some v1∧(((((((((w.setCell R v0).setCell ⟨R,1,none⟩ v1).setCell ⟨R,2,none⟩ v2).setCell ⟨R,3,none⟩ v3).setCell ⟨R,4,none⟩ v4).setCell ⟨R,5,none⟩ v5).setCell ⟨R,6,none⟩ v6).setCell ⟨R,7,none⟩ v7).setCell ⟨R,8,none⟩ v8).cell? ⟨R,2,none⟩=some v2∧(((((((((w.setCell R v0).setCell ⟨R,1,none⟩ v1).setCell ⟨R,2,none⟩ v2).setCell ⟨R,3,none⟩ v3).setCell ⟨R,4,none⟩ v4).setCell ⟨R,5,none⟩ v5).setCell ⟨R,6,none⟩ v6).setCell ⟨R,7,none⟩ v7).setCell ⟨R,8,none⟩ v8).cell? ⟨R,3,none⟩=some v3∧(((((((((w.setCell R v0).setCell ⟨R,1,none⟩ v1).setCell ⟨R,2,none⟩ v2).setCell ⟨R,3,none⟩ v3).setCell ⟨R,4,none⟩ v4).setCell ⟨R,5,none⟩ v5).setCell ⟨R,6,none⟩ v6).setCell ⟨R,7,none⟩ v7).setCell ⟨R,8,none⟩ v8).cell? ⟨R,4,none⟩=some v4∧(((((((((w.setCell R v0).setCell ⟨R,1,none⟩ v1).setCell ⟨R,2,none⟩ v2).setCell ⟨R,3,none⟩ v3).setCell ⟨R,4,none⟩ v4).setCell ⟨R,5,none⟩ v5).setCell ⟨R,6,none⟩ v6).setCell ⟨R,7,none⟩ v7).setCell ⟨R,8,none⟩ v8).cell? ⟨R,5,none⟩=some v5∧(((((((((w.setCell R v0).setCell ⟨R,1,none⟩ v1).setCell ⟨R,2,none⟩ v2).setCell ⟨R,3,none⟩ v3).setCell ⟨R,4,none⟩ v4).setCell ⟨R,5,none⟩ v5).setCell ⟨R,6,none⟩ v6).setCell ⟨R,7,none⟩ v7).setCell ⟨R,8,none⟩ v8).cell? ⟨R,6,none⟩=some v6∧(((((((((w.setCell R v0).setCell ⟨R,1,none⟩ v1).setCell ⟨R,2,none⟩ v2).setCell ⟨R,3,none⟩ v3).setCell ⟨R,4,none⟩ v4).setCell ⟨R,5,none⟩ v5).setCell ⟨R,6,none⟩ v6).setCell ⟨R,7,none⟩ v7).setCell ⟨R,8,none⟩ v8).cell? ⟨R,7,none⟩=some v7∧(((((((((w.setCell R v0).setCell ⟨R,1,none⟩ v1).setCell ⟨R,2,none⟩ v2).setCell ⟨R,3,none⟩ v3).setCell ⟨R,4,none⟩ v4).setCell ⟨R,5,none⟩ v5).setCell ⟨R,6,none⟩ v6).setCell ⟨R,7,none⟩ v7).setCell ⟨R,8,none⟩ v8).cell? ⟨R,8,none⟩=some v8:=by
 obtain⟨c0,c⟩:=h.2 0 jo;obtain⟨c1,f1⟩:=h.2 1 jo;obtain⟨c2,d⟩:=h.2 2 jo;obtain⟨c3,f3⟩:=h.2 3 jo;obtain⟨c4,e⟩:=h.2 4 jo;obtain⟨c5,f⟩:=h.2 5 jo;obtain⟨c6,g⟩:=h.2 6 jo;obtain⟨c7,j⟩:=h.2 7 jo;obtain⟨c8,k⟩:=h.2 8 jo;refine⟨?_,?_,?_,?_,?_,?_,?_,?_,?_⟩
 all_goals go_simp
theorem zBh:w.grownBy (((((((((w.setCell R v0).setCell ⟨R,1,none⟩ v1).setCell ⟨R,2,none⟩ v2).setCell ⟨R,3,none⟩ v3).setCell ⟨R,4,none⟩ v4).setCell ⟨R,5,none⟩ v5).setCell ⟨R,6,none⟩ v6).setCell ⟨R,7,none⟩ v7).setCell ⟨R,8,none⟩ v8) (some R):=
 zC (zC (zC (zC (zC (zC (zC (zC (zM w R 0 v0) (zM _ R 1 v1)) (zM _ R 2 v2)) (zM _ R 3 v3)) (zM _ R 4 v4)) (zM _ R 5 v5)) (zM _ R 6 v6)) (zM _ R 7 v7)) (zM _ R 8 v8)
theorem zAD {g:Nat} (h:Mv w0 w g A n c k) (d:w0.heap.size≤R) (hg:g < w0.heap.size):Mv w0 (((((((((w.setCell R v0).setCell ⟨R,1,none⟩ v1).setCell ⟨R,2,none⟩ v2).setCell ⟨R,3,none⟩ v3).setCell ⟨R,4,none⟩ v4).setCell ⟨R,5,none⟩ v5).setCell ⟨R,6,none⟩ v6).setCell ⟨R,7,none⟩ v7).setCell ⟨R,8,none⟩ v8) g A n c k:=by
 have hs:=zBh (w:=w) (R:=R) (v0:=v0) (v1:=v1) (v2:=v2) (v3:=v3) (v4:=v4) (v5:=v5) (v6:=v6) (v7:=v7) (v8:=v8);refine⟨⟨zBT hs h.rd.c0 (show g≠R by omega),zBT hs h.rd.c1 (show g≠R by omega),(zDd (p:=⟨g,1,none⟩) hs h.rd.lt (show g≠R by omega)).trans h.rd.f1⟩,?_⟩;exact⟨hs.os.trans h.grown.os,hs.tape.trans h.grown.tape,hs.output.trans h.grown.output,yAD h.grown.size hs.size,fun i hi b=>(hs.block i (yAA hi h.grown.size) (fun e=>by injection e with e;omega)).trans (h.grown.block i hi b)⟩
theorem zA8 {base e:TypeId} (h:w.ownsRow base e 1 v n xs) (hb:R < base):(((((((((w.setCell R v0).setCell ⟨R,1,none⟩ v1).setCell ⟨R,2,none⟩ v2).setCell ⟨R,3,none⟩ v3).setCell ⟨R,4,none⟩ v4).setCell ⟨R,5,none⟩ v5).setCell ⟨R,6,none⟩ v6).setCell ⟨R,7,none⟩ v7).setCell ⟨R,8,none⟩ v8).ownsRow base e 1 v n xs:=zBl h zBh hb
end
theorem Blk.nine {w:World} {R:Nat} {cs:List Value} (h:Blk w R cs) (b:8 < cs.length:=by decide):(w.cell? R=some cs[0]∧w.frozen? R=false)∧(w.cell? ⟨R,1,none⟩=some cs[1]∧w.frozen? ⟨R,1,none⟩=false)∧(w.cell? ⟨R,2,none⟩=some cs[2]∧w.frozen? ⟨R,2,none⟩=false)∧(w.cell? ⟨R,3,none⟩=some cs[3]∧w.frozen? ⟨R,3,none⟩=false)∧(w.cell? ⟨R,4,none⟩=some cs[4]∧w.frozen? ⟨R,4,none⟩=false)∧(w.cell? ⟨R,5,none⟩=some cs[5]∧w.frozen? ⟨R,5,none⟩=false)∧(w.cell? ⟨R,6,none⟩=some cs[6]∧w.frozen? ⟨R,6,none⟩=false)∧(w.cell? ⟨R,7,none⟩=some cs[7]∧w.frozen? ⟨R,7,none⟩=false)∧w.cell? ⟨R,8,none⟩=some cs[8]∧w.frozen? ⟨R,8,none⟩=false:=
 ⟨h.2 0 _,h.2 1 _,h.2 2 _,h.2 3 _,h.2 4 _,h.2 5 _,h.2 6 _,h.2 7 _,h.2 8 _⟩
theorem zAE {w:World} {R:Nat} {cs:List Value} {fn:Func} {A:Act} {x y:Tmp} {v0 v1 v2 v3 v4 v5 v6 v7 v8:Value} {Q:Ending→World→Prop} (h:Blk w R cs) (e:Value) (b:Q (.returned (.tuple #[.agg #[v0,v1,v2,v3,v4,v5,v6,v7,v8],e])) (((((((((w.setCell R v0).setCell ⟨R,1,none⟩ v1).setCell ⟨R,2,none⟩ v2).setCell ⟨R,3,none⟩ v3).setCell ⟨R,4,none⟩ v4).setCell ⟨R,5,none⟩ v5).setCell ⟨R,6,none⟩ v6).setCell ⟨R,7,none⟩ v7).setCell ⟨R,8,none⟩ v8)) (c:cs.length=9:=by rfl) (hf:fn.results=#[.cell x 78,.tmp y]:=by rfl) (hp:A.tmps[x]?.getD undef=.pointer (some ⟨R,0,none⟩):=by rfl) (he:A.tmps[y]?.getD undef=e:=by rfl) (hd:A.defers=[]:=by rfl):
 bodyPost prog fn Q .ret A (((((((((w.setCell R v0).setCell ⟨R,1,none⟩ v1).setCell ⟨R,2,none⟩ v2).setCell ⟨R,3,none⟩ v3).setCell ⟨R,4,none⟩ v4).setCell ⟨R,5,none⟩ v5).setCell ⟨R,6,none⟩ v6).setCell ⟨R,7,none⟩ v7).setCell ⟨R,8,none⟩ v8):=by
 obtain⟨q0,q1,q2,q3,q4,q5,q6,q7,q8⟩:=zFf (v0:=v0) (v1:=v1) (v2:=v2) (v3:=v3) (v4:=v4) (v5:=v5) (v6:=v6) (v7:=v7) (v8:=v8) h c;refine bodyPost_ret ?_ hd b;simp only[results,hf];simp[hp,he,go_sem,q0,q1,q2,q3,q4,q5,q6,q7,q8]
def zX9 (w:World) (base:Nat) (t:Tok) (v:Value):Prop:=
 ∃vs vm,v=.agg #[t.kind,t.text,vs,t.nk,t.nn,false,vm,t.pos,t.nl]∧
  w.ownsRow base 104 1 vs t.str.length (zAC t.str)∧w.ownsRow base 119 1 vm t.mag.length (t.mag.map fun n:Nat=>Value.int .u32 (n:Int))
theorem zGp {a b:Nat} {s:Tok} (h:((a,t,m):Ans)=(b,s,k)):a=b∧t=s∧m=k:=by
 simp only[yAU]at h;exact h
theorem zCN {x:Nat} {s:Tok} (h:bad x=(e,s,k)):x=e∧zh=s∧0=k:=zGp h
theorem zNd {g:Nat} {w:World} (J:Rd w g A n c k) (S:u.length=n) (L:Reads w B 1 A n (zAC u)) (hB:B≤g) (hk:k≤n) (M:n≤4096) (d:zCm (u.drop k)=(e,t,m)):
 Calls prog 70 #[.pointer (some g)] w fun T w'=>∃v,T=.returned (.tuple #[v,e])∧(e≠0→v=noV)∧(e=0→zX9 w' w.heap.size t v∧Mv w w' g A n c (k+m))∧w.grownBy w' (some g):=by
 subst S;have hg:=J.lt;obtain⟨l,j⟩:=jx ((u.drop k).takeWhile zAu);have N:k+l.length≤u.length:=by
  have h1:=zBR zAu (u.drop k);rw[j,yAR]at h1;omega
 unfold zCm at d;rw[j,yCC]at d;obtain⟨b,hb⟩:=jx (zg [92] (u.drop (k+l.length)));rw[hb]at d;have U:=zA j;have V:=zA hb;have O:=zA d;have W:=zA L;have P:=zA (J.alloc (.cells zBP.toArray 78));have F:=zA (L.alloc (yAD hB (yAM hg)) (.cells zBP.toArray 78));have Q:=zA (Blk.new w zBP 78);have G:=zA (zG w (.cells zBP.toArray 78) (some g));clear j hb d L J;go_enter func70,ntmps70;go_wp2_with fail;refine(zTY P rfl F hB hk M U).mono ?_;rintro e1 w1 ⟨rfl,o⟩;have r:=zA o.rd;have s:=zA (zC G o.grown);have H:=zA (W.out.grown s hB (yAM hg));have I:=zA (Q.out.grown o.grown jo);clear o;go_wp2_with fail;refine(zAo ⟨#[92]⟩ r rfl H N M jd V).mono ?_;rintro e2 w2 ⟨rfl,m2,y⟩;have f:=zA (show Mv w w2 g A u.length c (k+l.length) by rw[y];exact⟨r.out.drewN m2,zC s (zAA _ _ _)⟩);have p:=zA (show Blk w2 w.heap.size zBP by rw[y];exact I.out.grown (zAA w1 (some g) m2) jo);clear y m2 r s H I P F Q G;have:=p.out.nine;cases b with
 | true=>
  have d:=O.out;rw[if_pos rfl]at d;have q:=zA d;clear d;go_wp2;refine zAE p (.int .i64 6) ?_;obtain⟨z,D,E⟩:=zCN q;subst z;exact⟨_,rfl,fun _=>rfl,fun h=>absurd h jd,(zAD f (yAC _) hg).grown⟩
 | false=>
  have d:=O.out;rw[if_neg js]at d;have q:=zA d;clear d
  by_cases R:0 < zCS (asc l)
  · have d:=q.out;rw[if_pos R]at d;have C:=zA d;clear d;go_wp2_with (go_at_call 113;refine(zDl _ _).mono ?_;rintro e3 w3 ⟨rfl,rfl⟩);refine zAE p (.int .i64 0) ?_;obtain⟨z,D,E⟩:=zGp C;subst z D E;exact⟨_,rfl,fun h=>absurd rfl h,fun _=>⟨⟨_,_,rfl,yAJ _ _ _ _,yAJ _ _ _ _⟩,zAD f (yAC _) hg⟩,(zAD f (yAC _) hg).grown⟩
  · have d:=q.out;rw[if_neg R]at d;have C:=zA d;clear d;go_wp2_with (go_at_call 113;refine(zDl _ _).mono ?_;rintro e3 w3 ⟨rfl,rfl⟩);refine zAE p (.int .i64 0) ?_;obtain⟨z,D,E⟩:=zGp C;subst z D E;exact⟨_,rfl,fun h=>absurd rfl h,fun _=>⟨⟨_,_,rfl,yAJ _ _ _ _,yAJ _ _ _ _⟩,zAD f (yAC _) hg⟩,(zAD f (yAC _) hg).grown⟩
theorem zNe (l r:jH):∀v,zEM v (l++r)=zEM (zEM v l) r:=by
 induction l with
 | nil=>intro v;rfl
 | cons x l b=>intro v;exact b _
theorem zKr (l:jH) (x:UInt16):zEM 0 (l++[x])=16*zEM 0 l+zIB x:=by rw[zNe];rfl
theorem zap {a b:Nat} (c:a < 4096) (hb:b < 16):bits .or .u16 ((16*a:Nat):Int) (b:Int)=((16*a+b:Nat):Int):=by
 have e1:(BitVec.ofInt 16 ((16*a:Nat):Int)).toNat=16*a:=by rw[BitVec.ofInt_natCast,BitVec.toNat_ofNat];omega
 have e2:(BitVec.ofInt 16 (b:Int)).toNat=b:=by rw[BitVec.ofInt_natCast,BitVec.toNat_ofNat];omega
 show IntKind.u16.wrap ((BitVec.ofInt 16 ((16*a:Nat):Int) ||| BitVec.ofInt 16 (b:Int)).toNat:Int)=_;rw[BitVec.toNat_or,e1,e2,show 16*a=2^4*a from rfl,←Nat.two_pow_add_eq_or_of_lt (by omega:b < 2^4),IntKind.wrap_u16];omega
def AtCode (u:jH) (k j v:Nat):Prop:=j≤(u.drop k).length∧v=zEM 0 ((u.drop k).take j)∧((u.drop k).take j).all zEH=true∧v < 16^j
theorem AtCode.step {v:Nat} (h:AtCode u k j v) (l:k+j < u.length) (b:zEH u[k+j]=true):AtCode u k (j+1) (16*v+zIB u[k+j]):=by
 obtain⟨h1,e,f,m⟩:=h;have c:j < (u.drop k).length:=by rw[yAR];omega
 have d:(u.drop k).take (j+1)=(u.drop k).take j++[u[k+j]]:=by rw[yAK c,List.getElem_drop]
 have g:zIB u[k+j] < 16:=yBF b;refine⟨by omega,by rw[d,zKr,e],by rw[d,List.all_append,f];simp[b],?_⟩;rw[yCP];omega
theorem AtCode.stepQ {v:Nat} (h:AtCode u k j v) (e:p=k+j) (b:p < u.length) (c:zEH u[p]=true):AtCode u k (j+1) (16*v+zIB u[p]):=by
 subst e;exact h.step b c
theorem AtCode.done {v:Nat} (h:AtCode u k j v):zCT j (u.drop k)=(0,UInt16.ofNat v,j):=by
 obtain⟨h1,b,c,_⟩:=h;unfold zCT;rw[if_pos (by rw[c,yBE h1];rfl),b]
theorem AtCode.bad {v cnt:Nat} (_h:AtCode u k j v) (d:j < cnt) (b:zBE 0 zEH (u.drop (k+j))=false):zCT cnt (u.drop k)=(5,0,0):=by
 unfold zCT;rw[if_neg];intro c;simp only[yAQ,yBG]at c;obtain⟨c1,c2⟩:=c;rw[yAR]at c1;have e:k+j < u.length:=by omega
 have f:u[k+j]∈(u.drop k).take cnt:=by
  rw[List.mem_iff_getElem?];exact⟨j,by rw[List.getElem?_take,if_pos d,yCM,yAB e]⟩
 have g:=yBH.1 c2 _ f;have l:=zDp (u:=u) (k:=k+j) (j:=0) (p:=zEH) jo;rw[l]at b;simp only[Nat.add_zero]at b;rw[g]at b;cases b
theorem zJU {g cnt:Nat} {w:World} (F:Rd w g A n c k) (Y:u.length=n) (O:Reads w B 1 A n (zAC u)) (hB:B≤g) (hk:k≤n) (P:n≤4096) (a0:cnt≤4) (Q:zCT cnt (u.drop k)=(e,y,m)):
 Calls prog 148 #[.pointer (some g),cnt] w fun ev w'=>ev=.returned (.tuple #[.int .u16 (y.toNat:Int),e])∧(e=0→Mv w w' g A n c (k+m))∧w.grownBy w' (some g):=by
 subst Y;have R:=zA Q;have HA:=zA O;have hg:=F.lt;have S:=zA (Mv.refl F);clear Q O F;go_enter func148,ntmps148;go_wp2
 go_loopg [6,8] cnt (fun r v i wr=>∃j G p,j+r=cnt∧i=.int .i64 (j:Nat)∧v=.int .u16 (G:Nat)∧G < 65536∧Hid (p=k+j)∧Hid (Mv w wr g A u.length c p)∧Hid (AtCode u k j G))
 case atStart=>exact⟨0,0,k,by omega,rfl,rfl,by omega,rfl,S,yAE _,rfl,rfl,by decide⟩
 case round=>
  obtain⟨j,v,p,a1,rfl,rfl,hv,d,o,f⟩:=hrel;have z:=zA (HA.out.grown o.out.grown hB (yAM hg));have C:p≤u.length:=by have:=f.out.1;have:=d.out;rw[yAR]at *;omega
  by_cases T:j < cnt
  · cases hqx:zBE 0 zEH (u.drop p)with
    | true=>
     have U:p < u.length:=by
      rcases yBO p u.length with h | h
      · exact h
      · rw[zDN (u:=u) (k:=p) (j:=0) (p:=zEH) jo]at hqx;cases hqx
     have b:zEH u[p]=true:=by
      have h5:=zDp (u:=u) (k:=p) (j:=0) (p:=zEH) jo;rw[h5]at hqx;simpa using hqx
     have D:=zA (f.out.stepQ d U b);have E:zIB u[p] < 16:=yBF b;have V:v < 4096:=by
      have:=f.out.2.2.2;have h2:16^j≤16^3:=Nat.pow_le_pow_right jo jo;omega
     have H:=zA hqx;clear hqx b;go_wp2_with fail;refine(zQD (j:=0) o.out.rd rfl z C P jo H).mono ?_;rintro e1 w1 ⟨rfl,m1,l⟩;have s:=zA (show Mv w w1 g A u.length c p by rw[l];exact o.out.drewN m1);have I:=zA (show Reads w1 B 1 A u.length (zAC u) by rw[l];exact z.out.drewN m1);clear l;have a2:=s.out.rd.c0;have a3:=s.out.rd.c1;have a4:=s.out.rd.f1;obtain⟨blk,off,rfl,_,t⟩:=I.out.spotL jo;have W:=t p U;have a5:(p:Int) < (u.length:Int):=by omega
     obtain⟨x,b⟩:=jx (u[p]);rw[b]at W D E;have HH:=zA (zap V E);clear t b;go_wp2_with fail
     go_quiet (first | (go_at_call 170;refine Calls.quiet_of_same ((zLs _ _).mono fun _ _ h=>zDq h)))
     go_wp2
     go_roundg (gk - 1)
     case measure=>omega
     case rel=>
      refine⟨j+1,16*v+zIB x,p+1,by omega,by go_num,congrArg (Value.int .u16) (by rw[show(v:Int)*16=((16*v:Nat):Int) by omega];exact HH.out),by omega,?_,?_,D⟩
      · have:=d.out;exact zA jo
      · exact Mv.step (s.out.drewN _) jo
    | false=>
     have H:=zA hqx;have J:=zA (f.out.bad T (by rw[←d.out];exact hqx));clear hqx;go_wp2_with fail;refine(zQD (j:=0) o.out.rd rfl z C P jo H).mono ?_;rintro e1 w1 ⟨rfl,m1,l⟩;subst l;go_wp2
     go_ret2
     have q:=J.out;rw[R.out]at q;simp only[yAU]at q;obtain⟨L,M,N⟩:=q;subst L M N;exact⟨rfl,fun h=>absurd h jd,(o.out.drewN m1).grown⟩
  · obtain rfl:j=cnt:=by omega
    have X:=zA f.out.done;go_wp2
    go_ret2
    have q:=X.out;rw[R.out]at q;simp only[yAU]at q;obtain⟨L,M,N⟩:=q;subst L M N;refine⟨?_,fun _=>by rw[←d.out];exact o.out,o.out.grown⟩;have:(UInt16.ofNat v).toNat=v:=by simp;omega
    rw[this];rfl
theorem zHO (s:ByteArray) (c:Int) (w:World):
 (callFunc 178 #[.string s,.int .u8 c]).run prog w=.ok (.value (.int .i64 (Lib.indexByte s.data.toList c.toNat.toUInt8))) w:=by
 rw[run_callFunc_indexByte func178 (by kernel_rfl) (by kernel_rfl) (by kernel_rfl) (by kernel_rfl),Lib.run_indexByteString];rfl
theorem zGq (s:ByteArray) (c:Int) (w:World):Calls prog 168 #[.string s,.int .u8 c] w fun e w'=>e=.returned (Lib.indexByte s.data.toList c.toNat.toUInt8:Int)∧w=w':=by
 have b:=zHO s c;go_enter func168,ntmps168;go_wp2;go_ret;exact⟨rfl,rfl⟩
theorem zES (s:ByteArray) (c:Int) (w:World) {i:Int} (hi:Lib.indexByte s.data.toList c.toNat.toUInt8=i):Calls prog 147 #[.string s,.int .u8 c] w fun e w'=>e=.returned i∧w=w':=by
 subst hi;go_enter func147,ntmps147;go_wp2_with (go_at_call 168;refine(zGq _ _ _).mono ?_;rintro e w' ⟨rfl,rfl⟩);go_ret;exact⟨rfl,rfl⟩
def zVs (x:UInt16):Int:=Lib.indexByte [110,116,114,98,118,102] (IntKind.u8.wrap (x.toNat:Int)).toNat.toUInt8
theorem zQG (h:x.toNat < 128) (hs:zBz x=none):zVs x= -1:=by
 have e:(IntKind.u8.wrap (x.toNat:Int)).toNat=x.toNat:=by rw[IntKind.wrap_u8];omega
 unfold zVs;rw[e];have b:∀k:UInt16,k∈([110,116,114,98,118,102]:jH)→x≠k:=by
  intro k hk c;subst c;revert hs;simp only[yAW,yBV,or_false]at hk;rcases hk with rfl | rfl | rfl | rfl | rfl | rfl<;>decide
 have hb:∀k:UInt16,k∈([110,116,114,98,118,102]:jH)→(k.toNat.toUInt8==x.toNat.toUInt8)=false:=by
  intro k hk;have h1:=b k hk;rw[yA];intro d;apply h1;refine yBS.1 ?_;have f:=congrArg UInt8.toNat d;have q:k.toNat < 128:=by
   simp only[yAW,yBV,or_false]at hk;rcases hk with rfl | rfl | rfl | rfl | rfl | rfl<;>decide
  simp at f;omega
 have g:=hb 110 js;have j:=hb 116 js;have l:=hb 114 js;have m:=hb 98 js;have o:=hb 118 js;have p:=hb 102 js;have c1:((110:UInt8)==x.toNat.toUInt8)=false:=g;have c2:((116:UInt8)==x.toNat.toUInt8)=false:=j;have c3:((114:UInt8)==x.toNat.toUInt8)=false:=l;have c4:((98:UInt8)==x.toNat.toUInt8)=false:=m;have c5:((118:UInt8)==x.toNat.toUInt8)=false:=o;have c6:((102:UInt8)==x.toNat.toUInt8)=false:=p;generalize x.toNat.toUInt8=z at c1 c2 c3 c4 c5 c6⊢;simp only[Lib.indexByte,c1,c2,c3,c4,c5,c6,yCF,if_false];rfl
theorem zJV (h:zBz x=some y):(x=110∧y=10)∨(x=116∧y=9)∨(x=114∧y=13)∨(x=98∧y=8)∨(x=118∧y=11)∨(x=102∧y=12):=by
 unfold zBz at h
 repeat' split at h
 all_goals simp_all
theorem zWw (h:k < u.length):zEI (u.drop k)=if(zBz u[k]).isSome=true then(0,(zBz u[k]).getD 0,1)else zSL u[k] (u.drop (k+1)):=by
 rw[yAH h];rfl
theorem zQH (p:Nat×UInt16×Nat):(more 1 p).1=p.1∧(more 1 p).2.1=p.2.1∧(p.1=0→(more 1 p).2.2=1+p.2.2):=by
 unfold more;split
 · rename_i h;exact⟨h.symm,rfl,fun _=>rfl⟩
 · rename_i h;exact⟨rfl,rfl,fun b=>absurd b h⟩
theorem zGr {a b:Nat} (h:(a,x,b)=(c,y,d)):a=c∧x=y∧b=d:=by
 simp only[yAU]at h;exact h
theorem zMD {w wc w3:World} {g e1 m1:Nat} {b:UInt16} (h:more 1 (e1,b,m1)=(e,y,m)) (l:e1=0→Mv wc w3 g A n c (k+1+m1)) (o:wc.grownBy w3 (some g)) (d:w.grownBy wc (some g)):
 Ending.returned (.tuple #[.int .u16 (b.toNat:Int),e1])=.returned (.tuple #[.int .u16 (y.toNat:Int),e])∧(e=0→Mv w w3 g A n c (k+m))∧w.grownBy w3 (some g):=by
 obtain⟨q1,q2,q3⟩:=zQH (e1,b,m1);rw[h]at q1 q2 q3;simp only at q1 q2 q3;subst q1 q2;refine⟨rfl,fun f=>?_,zC d o⟩;have:=q3 f;have j:=l f;rw[show k+m=k+1+m1 by omega];exact⟨j.rd,zC d j.grown⟩
theorem zGs {g:Nat} {w:World} (M:Rd w g A n c k) (hn:u.length=n) (W:Reads w B 1 A n (zAC u)) (hB:B≤g) (hk:k≤n) (t:n≤4096) (C:zEI (u.drop k)=(e,y,m)):
 Calls prog 117 #[.pointer (some g)] w fun ev w'=>ev=.returned (.tuple #[.int .u16 (y.toNat:Int),e])∧(e=0→Mv w w' g A n c (k+m))∧w.grownBy w' (some g):=by
 subst hn;have hg:=M.lt;have a4:=M.c0;have a5:=M.c1;have a6:=M.f1
 by_cases Q:k < u.length
 · rw[zWw Q]at C;have G:=zA (Mv.refl M);have HA:=zA W;obtain⟨blk,off,rfl,_,N⟩:=W.spotL jo;have Y:=N k Q;have hx:=u[k].toNat_lt;obtain⟨x,a0⟩:=jx (u[k]);rw[a0]at Y C hx;have b0:(k:Int) < (u.length:Int):=by omega
   have a7:((k:Int)==(u.length:Int))=false:=yA.2 jo;have P:=zA C;clear N a0 C W M;cases hs:zBz x with
   | some z=>
    have C:=P.out;rw[hs]at C;simp only[Option.isSome_some,if_true,yCI,yAU]at C;obtain⟨q1,q2,q3⟩:=C;have HE:=zA q1;have HY:=zA q2;have HM:=zA q3;clear q1 q2 q3 P;rcases zJV hs with⟨rfl,rfl⟩ | ⟨rfl,rfl⟩ | ⟨rfl,rfl⟩ | ⟨rfl,rfl⟩ | ⟨rfl,rfl⟩ | ⟨rfl,rfl⟩
    all_goals clear hs
    all_goals
     go_enter func117,ntmps117;go_wp2_with fail
     go_quiet (fail)
     go_wp2_with fail
     go_quiet (fail)
     go_wp2_with (go_at_call 147;refine(zES _ _ _ (by rfl)).mono ?_;rintro e1 w1 ⟨rfl,rfl⟩)
     go_ret2
     obtain rfl:=HY.out;obtain rfl:=HE.out;exact⟨rfl,fun _=>by rw[←HM.out];exact(Mv.step (G.out.drewN _) jo).below (ja),((Mv.step (G.out.drewN _) (k':=k+1) jo).below (ja)).grown⟩
   | none=>
    have HR:=zA (show zSL x (u.drop (k+1))=(e,y,m) by have h:=P.out;rw[hs]at h;simpa using h);obtain⟨i,hi⟩:=jx (Lib.indexByte (⟨#[110,116,114,98,118,102]⟩:ByteArray).data.toList (IntKind.u8.wrap (x.toNat:Int)).toNat.toUInt8);have HI:=zA hi;have a1:x.toNat < 128→i= -1:=fun h=>by rw[←hi];exact zQG h hs
    have a2:=zA a1;clear hi a1 hs P;go_enter func117,ntmps117;go_wp2_with fail
    go_quiet (fail)
    go_wp2_with fail
    go_quiet (fail)
    go_upto_region 6 with(go_at_call 147;refine(zES _ _ _ HI.out).mono ?_;rintro e1 w1 ⟨rfl,rfl⟩)
    go_cut [41] (fun v wx=>v=.bool false∧Hid (Mv w wx g (some ⟨blk,off,none⟩) u.length c (k+1)))
    case first=>
     by_cases a8:x.toNat < 128
     · obtain rfl:=a2.out a8;go_wp2_with fail;go_meet;exact⟨rfl,Mv.step (G.out.drewN _) jo⟩
     · have b1:¬(x.toNat:Int) < 128:=by omega
       go_wp2_with fail;go_meet;exact⟨rfl,Mv.step (G.out.drewN _) jo⟩
    case rest=>
     obtain⟨hv,o⟩:=hcut;subst hv;clear a4 a5 a6 Y a7 HI a2 G;have p:=zA (HA.out.grown o.out.grown hB (yAM hg));have q:k+1≤u.length:=Q;have l:=HR.out;unfold zSL at l;obtain⟨d,hd⟩:=jx (zBE 0 zJ (u.drop (k+1)));obtain⟨b,hb⟩:=jx (zg [123] (u.drop (k+1)));rw[hd,hb]at l;have L:=zA hd;have X:=zA hb;clear hd hb HR
     by_cases J:x.toNat=48
     · have a9:((x.toNat:Int)==48)=true:=by rw[J];rfl
       have O:zJ x=true:=zA2.2 jo;rw[J]at l;cases d with
       | false=>
        have r:=zA (show(0,(0:UInt16),1)=(e,y,m) by simpa using l);clear l J;go_wp2_with (first | (go_at_call 74;refine(zAn (j:=0) o.out.rd rfl p.out q t jo L.out).mono ?_;rintro e2 w2 ⟨rfl,m2,f⟩;subst f) | (go_at_call 71;refine(zAF _ _).mono ?_;rintro e2 w2 ⟨rfl,rfl⟩) | (go_at_call 66;refine(zAQ _ _).mono ?_;rintro e2 w2 ⟨rfl,rfl⟩) | (go_at_call 110;refine(zBB _ _).mono ?_;rintro e2 w2 ⟨rfl,rfl⟩))
        go_ret2
        obtain⟨D,E,F⟩:=zGr r;subst D E F;exact⟨rfl,fun _=>o.out.drewN _,(o.out.drewN _).grown⟩
       | true=>
        have r:=zA (show(5,(0:UInt16),0)=(e,y,m) by rw[O]at l;simpa using l);clear l J;go_wp2_with (first | (go_at_call 74;refine(zAn (j:=0) o.out.rd rfl p.out q t jo L.out).mono ?_;rintro e2 w2 ⟨rfl,m2,f⟩;subst f) | (go_at_call 71;refine(zAF _ _).mono ?_;rintro e2 w2 ⟨rfl,rfl⟩) | (go_at_call 66;refine(zAQ _ _).mono ?_;rintro e2 w2 ⟨rfl,rfl⟩) | (go_at_call 110;refine(zBB _ _).mono ?_;rintro e2 w2 ⟨rfl,rfl⟩))
        go_ret2
        obtain⟨D,E,F⟩:=zGr r;subst D E F;exact⟨rfl,fun h=>absurd h jd,(o.out.drewN _).grown⟩
     have a9:((x.toNat:Int)==48)=false:=yA.2 jo;rw[show(x.toNat==48)=false from yA.2 J]at l;simp only[Bool.false_and,yCF,if_false]at l;clear J;cases O:zJ x with
     | true=>
      rw[O,if_pos rfl]at l;have r:=zA l;clear l;go_wp2_with (first | (go_at_call 74;refine(zAn (j:=0) o.out.rd rfl p.out q t jo L.out).mono ?_;rintro e2 w2 ⟨rfl,m2,f⟩;subst f) | (go_at_call 71;refine(zAF _ _).mono ?_;rintro e2 w2 ⟨rfl,rfl⟩) | (go_at_call 66;refine(zAQ _ _).mono ?_;rintro e2 w2 ⟨rfl,rfl⟩) | (go_at_call 110;refine(zBB _ _).mono ?_;rintro e2 w2 ⟨rfl,rfl⟩))
      go_ret2
      obtain⟨D,E,F⟩:=zGr r;subst D E F;exact⟨rfl,fun h=>absurd h jd,o.out.grown⟩
     | false=>
      rw[O]at l;simp only[yCF,if_false]at l;cases hln:zAG x with
      | true=>
       rw[hln]at l;have r:=zA (show(6,(0:UInt16),0)=(e,y,m) by simpa using l);clear l;go_wp2_with (first | (go_at_call 74;refine(zAn (j:=0) o.out.rd rfl p.out q t jo L.out).mono ?_;rintro e2 w2 ⟨rfl,m2,f⟩;subst f) | (go_at_call 71;refine(zAF _ _).mono ?_;rintro e2 w2 ⟨rfl,rfl⟩) | (go_at_call 66;refine(zAQ _ _).mono ?_;rintro e2 w2 ⟨rfl,rfl⟩) | (go_at_call 110;refine(zBB _ _).mono ?_;rintro e2 w2 ⟨rfl,rfl⟩))
       go_ret2
       obtain⟨D,E,F⟩:=zGr r;subst D E F;exact⟨rfl,fun h=>absurd h jd,o.out.grown⟩
      | false=>
       rw[hln]at l;cases hfr:zH9 x with
       | true=>
        rw[hfr]at l;have r:=zA (show(6,(0:UInt16),0)=(e,y,m) by simpa using l);clear l;go_wp2_with (first | (go_at_call 74;refine(zAn (j:=0) o.out.rd rfl p.out q t jo L.out).mono ?_;rintro e2 w2 ⟨rfl,m2,f⟩;subst f) | (go_at_call 71;refine(zAF _ _).mono ?_;rintro e2 w2 ⟨rfl,rfl⟩) | (go_at_call 66;refine(zAQ _ _).mono ?_;rintro e2 w2 ⟨rfl,rfl⟩) | (go_at_call 110;refine(zBB _ _).mono ?_;rintro e2 w2 ⟨rfl,rfl⟩))
        go_ret2
        obtain⟨D,E,F⟩:=zGr r;subst D E F;exact⟨rfl,fun h=>absurd h jd,o.out.grown⟩
       | false=>
        rw[hfr]at l
        by_cases s:x.toNat=117
        · have a3:((x.toNat:Int)==117)=true:=by rw[s];rfl
          have R:((x.toNat:Int)==120)=false:=by rw[s];rfl
          rw[s]at l;clear s;cases b with
          | true=>
           have r:=zA (show(6,(0:UInt16),0)=(e,y,m) by simpa using l);clear l;go_wp2_with (first | (go_at_call 74;refine(zAn (j:=0) o.out.rd rfl p.out q t jo L.out).mono ?_;rintro e2 w2 ⟨rfl,m2,f⟩;subst f) | (go_at_call 71;refine(zAF _ _).mono ?_;rintro e2 w2 ⟨rfl,rfl⟩) | (go_at_call 66;refine(zAQ _ _).mono ?_;rintro e2 w2 ⟨rfl,rfl⟩) | (go_at_call 110;refine(zBB _ _).mono ?_;rintro e2 w2 ⟨rfl,rfl⟩) | (go_at_call 67;refine(zAo ⟨#[123]⟩ o.out.rd rfl p.out q t jd X.out).mono ?_;rintro e2 w2 ⟨rfl,m2,f⟩;subst f))
           go_ret2
           obtain⟨D,E,F⟩:=zGr r;subst D E F;exact⟨rfl,fun h=>absurd h jd,(o.out.drewN _).grown⟩
          | false=>
           have S:more 1 (zCT 4 (u.drop (k+1)))=(e,y,m):=by simpa using l
           obtain⟨⟨e1,y1,m1⟩,H⟩:=jx (zCT 4 (u.drop (k+1)));rw[H]at S;have r:=zA S;have T:=zA H;clear l S H;go_wp2_with (first | (go_at_call 74;refine(zAn (j:=0) o.out.rd rfl p.out q t jo L.out).mono ?_;rintro e2 w2 ⟨rfl,m2,f⟩;subst f) | (go_at_call 71;refine(zAF _ _).mono ?_;rintro e2 w2 ⟨rfl,rfl⟩) | (go_at_call 66;refine(zAQ _ _).mono ?_;rintro e2 w2 ⟨rfl,rfl⟩) | (go_at_call 110;refine(zBB _ _).mono ?_;rintro e2 w2 ⟨rfl,rfl⟩) | (go_at_call 67;refine(zAo ⟨#[123]⟩ o.out.rd rfl p.out q t jd X.out).mono ?_;rintro e2 w2 ⟨rfl,m2,f⟩;subst f) | (go_at_call 148;refine(zJU (cnt:=4) (o.out.rd.drewN _) rfl (p.out.drewN _) hB q t jo T.out).mono ?_;rintro e3 w3 ⟨rfl,U,V⟩))
           go_ret2
           exact zMD r U V (o.out.drewN _).grown
        · have a3:((x.toNat:Int)==117)=false:=yA.2 jo;rw[show(x.toNat==117)=false from yA.2 s]at l;simp only[Bool.or_self,Bool.false_and,yCF,if_false]at l
          by_cases I:x.toNat=120
          · have R:((x.toNat:Int)==120)=true:=by rw[I];rfl
            rw[if_pos I]at l;obtain⟨⟨e1,y1,m1⟩,H⟩:=jx (zCT 2 (u.drop (k+1)));rw[H]at l;have r:=zA l;have T:=zA H;clear l H s I;go_wp2_with (first | (go_at_call 74;refine(zAn (j:=0) o.out.rd rfl p.out q t jo L.out).mono ?_;rintro e2 w2 ⟨rfl,m2,f⟩;subst f) | (go_at_call 71;refine(zAF _ _).mono ?_;rintro e2 w2 ⟨rfl,rfl⟩) | (go_at_call 66;refine(zAQ _ _).mono ?_;rintro e2 w2 ⟨rfl,rfl⟩) | (go_at_call 110;refine(zBB _ _).mono ?_;rintro e2 w2 ⟨rfl,rfl⟩) | (go_at_call 67;refine(zAo ⟨#[123]⟩ o.out.rd rfl p.out q t jd X.out).mono ?_;rintro e2 w2 ⟨rfl,m2,f⟩;subst f) | (go_at_call 148;refine(zJU (cnt:=2) o.out.rd rfl p.out hB q t jo T.out).mono ?_;rintro e3 w3 ⟨rfl,U,V⟩))
            go_ret2
            exact zMD r U V o.out.grown
          · have R:((x.toNat:Int)==120)=false:=yA.2 jo;rw[if_neg I,if_neg s]at l;have r:=zA l;clear l s I;go_wp2_with (first | (go_at_call 74;refine(zAn (j:=0) o.out.rd rfl p.out q t jo L.out).mono ?_;rintro e2 w2 ⟨rfl,m2,f⟩;subst f) | (go_at_call 71;refine(zAF _ _).mono ?_;rintro e2 w2 ⟨rfl,rfl⟩) | (go_at_call 66;refine(zAQ _ _).mono ?_;rintro e2 w2 ⟨rfl,rfl⟩) | (go_at_call 110;refine(zBB _ _).mono ?_;rintro e2 w2 ⟨rfl,rfl⟩) | (go_at_call 67;refine(zAo ⟨#[123]⟩ o.out.rd rfl p.out q t jd X.out).mono ?_;rintro e2 w2 ⟨rfl,m2,f⟩;subst f))
            go_ret2
            obtain⟨D,E,F⟩:=zGr r;subst D E F;exact⟨rfl,fun _=>o.out,o.out.grown⟩
 · obtain rfl:k=u.length:=by omega
   rw[yBZ]at C;have P:=zA C;have G:=zA (Mv.refl M);clear C M W;go_enter func117,ntmps117;go_wp2_with fail
   go_quiet (fail)
   go_wp2
   go_ret2
   have C:=P.out;simp only[zEI,yAU]at C;obtain⟨q1,q2,q3⟩:=C;subst q1 q2 q3;exact⟨rfl,fun h=>absurd h jd,(G.out.drewN _).grown⟩
theorem zTZ (q:UInt16):∀(f g:Nat) (l:jH) (b:jH),l.length < f→l.length < g→zDH q f l b=zDH q g l b:=by
 intro f
 induction f with
 | zero=>intro g l b c _;omega
 | succ f d=>
  intro g l b c hg;obtain⟨g,rfl⟩:∃m,g=m+1:=⟨g - 1,by omega⟩;cases l with
  | nil=>rfl
  | cons x r=>
   simp only[yAO]at c hg;unfold zDH;rw[d g r (b++[x]) jo jo]
   by_cases e:(zEI r).1≠0
   · simp only[e,if_true,ne_eq,not_false_eq_true]
   · have j:=zFV (Decidable.not_not.1 e);rw[d g (r.drop (zEI r).2.2) (b++[(zEI r).2.1]) (by rw[yAR];omega) (by rw[yAR];omega)]
def zFg (q:UInt16) (l acc:jH):Nat×jH×Nat:=zDH q (l.length+1) l acc
def zJW (n:Nat) (p:Nat×jH×Nat):Nat×jH×Nat:=(p.1,p.2.1,n+p.2.2)
theorem zTb (q:UInt16) (b:jH):zFg q [] b=(5,[],0):=rfl
theorem zQI {q:UInt16} (h:zAG x=true):zFg q (x::r) b=(5,[],0):=by
 unfold zFg;rw[zDH,if_pos h]
theorem zTc {q:UInt16} (h:zAG q=false):zFg q (q::r) b=(0,b,1):=by
 unfold zFg;rw[zDH,if_neg (by rw[h];simp),if_pos rfl]
theorem zNf {q:UInt16} (h:zAG x=false) (c:x≠q) (d:x.toNat≠92):zFg q (x::r) b=zJW 1 (zFg q r (b++[x])):=by
 unfold zFg;rw[zDH,if_neg (by rw[h];simp),if_neg c,if_neg d];rfl
theorem zTd {q:UInt16} (h:zAG x=false) (c:x≠q) (d:x.toNat=92) (e:(zEI r).1≠0):zFg q (x::r) b=((zEI r).1,[],0):=by
 unfold zFg;rw[zDH,if_neg (by rw[h];simp),if_neg c,if_pos d,if_pos e]
theorem zTe {q:UInt16} (h:zAG x=false) (d:x≠q) (e:x.toNat=92) (c:zEI r=(0,y,n)):zFg q (x::r) b=zJW (1+n) (zFg q (r.drop n) (b++[y])):=by
 have f:=zFV (l:=r) (by rw[c]);rw[c]at f;unfold zFg;rw[zDH,if_neg (by rw[h];simp),if_neg d,if_pos e,c,if_neg js];simp only[yAO];rw[zTZ q (r.length+1) ((r.drop n).length+1) _ _ (by rw[yAR];omega) jo];rfl
theorem Blk.grownR {w w':World} {R:Nat} {row:Option Nat} {cs:List Value} (h:Blk w R cs) (hg:w.grownBy w' row) (b:some R≠row):Blk w' R cs:=
 ⟨yAA h.1 hg.size,fun j c=>⟨hg.cell (h.2 j c).1 b,(World.frozen?_of_block (w:=w) (hg.block R h.1 b)).trans (h.2 j c).2⟩⟩
theorem Blk.set {w:World} {R:Nat} {cs:List Value} (h:Blk w R cs) (hi:i < cs.length) (v:Value):Blk (w.setCell ⟨R,i,none⟩ v) R (cs.set i v):=by
 refine⟨by simp;exact h.1,fun j b=>?_⟩;rw[List.length_set]at b;obtain⟨c1,f1⟩:=h.2 j b;obtain⟨c2,c⟩:=h.2 i hi
 by_cases e:i=j
 · subst e;refine⟨?_,by go_simp⟩;rw[List.getElem_set_self]
   go_simp
 · refine⟨?_,by go_simp⟩;rw[List.getElem_set_ne e];have:(⟨R,i,none⟩:Addr)≠⟨R,j,none⟩:=fun h=>e (by injection h)
   go_simp
theorem Blk.setOther {w:World} {R S:Nat} {cs:List Value} (h:Blk w R cs) (b:S≠R) (v:Value):Blk (w.setCell ⟨S,i,none⟩ v) R cs:=
 h.grownR (zM w S i v) (by intro e;injection e with e;exact b e.symm)
def zHp (v:Value):List Value:=[(4:Int),"",v,(0:Int),(0:Int),false,(),(0:Int),false]
structure QuoS (w wr:World) (g:Nat) (A:jQ) (n c p:Nat) (v:Value) (acc:jH):Prop where
 mv:Mv w wr g A n c p
 zero:Blk wr w.heap.size zBP
 tok:Blk wr (w.heap.size+1) (zHp v)
 own:wr.ownsRow (w.heap.size+2) 104 1 v acc.length (zAC acc)
theorem QuoS.mov {w w':World} {g:Nat} {d:jH} (h:QuoS w wr g A n c p v d) (hg:g < w.heap.size) (b:Mv wr w' g A n c e):QuoS w w' g A n c e v d:=
 ⟨h.mv.then b,h.zero.grown b.grown jo,h.tok.grown b.grown jo,zBl h.own b.grown jo⟩
theorem QuoS.app {w w':World} {g:Nat} {v':Value} {m f:jH} (h:QuoS w wr g A n c p v m) (hg:g < w.heap.size) (b:wr.grownBy w' v.ownBlock)
 (q:w'.ownsRow (w.heap.size+2) 104 1 v' f.length (zAC f)):QuoS w (w'.setCell ⟨w.heap.size+1,2,none⟩ v') g A n c p v' f:=by
 have d:∀k,k < w.heap.size+2→some k≠v.ownBlock:=fun k hk e=>by have:=(h.own.lt k e.symm).1;omega
 have j:Rd w' g A n c p:=⟨b.cell h.mv.rd.c0 (d g jo),b.cell h.mv.rd.c1 (d g jo),(World.frozen?_of_block (w:=wr) (b.block g h.mv.rd.lt (d g jo))).trans h.mv.rd.f1⟩;have hs:=zM w' (w.heap.size+1) 2 v';refine⟨⟨⟨zBT hs j.c0 (show g≠w.heap.size+1 by omega),zBT hs j.c1 (show g≠w.heap.size+1 by omega),(zDd (p:=⟨g,1,none⟩) hs j.lt (show g≠w.heap.size+1 by omega)).trans j.f1⟩,?_⟩,?_,?_,?_⟩
 · refine⟨hs.os.trans (b.os.trans h.mv.grown.os),hs.tape.trans (b.tape.trans h.mv.grown.tape),hs.output.trans (b.output.trans h.mv.grown.output),yAD h.mv.grown.size (yAD b.size hs.size),fun k hk o=>?_⟩;have l:=yAA hk h.mv.grown.size;exact(hs.block k (yAA l b.size) (by intro e;injection e with e;omega)).trans ((b.block k l (d k jo)).trans (h.mv.grown.block k hk o))
 · exact(h.zero.grownR b (d _ jo)).setOther jo _
 · exact(h.tok.grownR b (d _ jo)).set (by simp[zHp]) _
 · exact zBl q hs jo
section
variable {P:Program} {w:World} {ops:Array Oper} {rest:List Oper} {o:Oper} {a:Act} {Q:Exit→Act→World→Prop}
theorem zGt (d:o.guard=none) (s x:Operand) (t:TypeId)
 (f:o.op=.call {callee:=.builtin .append,args:=#[s,x],argTypes:=#[t,t]})
 (e:TypeId) (i:TypeInfo) (z:Value) (bytes:Nat) (ht:P.underlying t=some (.slice e)) (hi:P.info? e=some i) (hz:i.zero=some z)
 (hsize:i.size=1) (hby:i.bytes=bytes) (hzs:z.cells.size=1) (base:Nat) (hbase:base≤w.heap.size)
 (v:Value) (xs:List Value) (k:Nat) (hk:xs.length=k) (hs:a.eval s=v) (hm:w.ownsRow base e 1 v k xs)
 (cs:List Value) (m c:Nat) (hx:a.eval x=.slice (some ⟨w.heap.size,0,none⟩) m c) (hl:cs.length=m) (h1:(cs.all fun u=>u.oneCell')=true)
 (hsz:xs.length+m≤70368744177664) (hb2:bytes≤2)
 (h:∀v' w',w'.ownsRow base e 1 v' (xs++cs).length (xs++cs)→w.grownBy w' v.ownBlock→wpList P ops Q rest (a.put o.dst v') w'):wpList P ops Q (o::rest) a (w.alloc (.cells cs.toArray e)):=by
 subst hl hk;refine wpList_append_own (w.alloc (.cells cs.toArray e)) d s x t f base e i z 1 bytes ht hi hz hsize hby hzs jo v xs.length xs hs (hm.alloc _) ⟨w.heap.size,0,none⟩ _ c cs hx jo ?_ (fun u b=>yBH.1 h1 u b) (by unfold maxLen;omega) ?_ (yAD hbase js) ?_
 · intro j u b;rw[Addr.add_lit,yBR _ _ _ _ rfl];simpa using b
 · calc (xs.length+cs.length)*bytes≤70368744177664*2:=Nat.mul_le_mul hsz hb2
    _≤140737488355328:=by omega
 · intro v' w' h1 g _;exact h v' w' (by rw[yAN];exact h1) (zC (zG w _ _) g)
end
theorem zAV {w0 w:World} {R g:Nat} {v0 v1 v2 v3 v4 v5 v6 v7 v8:Value} (h:w0.grownBy w (some g)) (c:w0.heap.size≤R):w0.grownBy (((((((((w.setCell R v0).setCell ⟨R,1,none⟩ v1).setCell ⟨R,2,none⟩ v2).setCell ⟨R,3,none⟩ v3).setCell ⟨R,4,none⟩ v4).setCell ⟨R,5,none⟩ v5).setCell ⟨R,6,none⟩ v6).setCell ⟨R,7,none⟩ v7).setCell ⟨R,8,none⟩ v8) (some g):=by
 have hs:=zBh (w:=w) (R:=R) (v0:=v0) (v1:=v1) (v2:=v2) (v3:=v3) (v4:=v4) (v5:=v5) (v6:=v6) (v7:=v7) (v8:=v8);exact⟨hs.os.trans h.os,hs.tape.trans h.tape,hs.output.trans h.output,yAD h.size hs.size,fun i hi b=>(hs.block i (yAA hi h.size) (fun e=>by injection e with e;omega)).trans (h.block i hi b)⟩
def zWx (q:UInt16) (u:jH) (k p:Nat) (acc:jH):Prop:=∃i,p=k+1+i∧zFg q (u.drop (k+1)) []=zJW i (zFg q (u.drop p) acc)
theorem zKs {q:UInt16} {e':Nat} (h:zAv q r=(e,t,m)) (b:(zFg q r []).1=e') (c:e'≠0):e'=e:=by
 subst b;have d:zKU q r=zFg q r []:=rfl;unfold zAv at h;rw[d,if_pos c]at h;exact(zCN h).1
theorem zJX {q:UInt16} {s:jH} (h:zAv q r=(e,t,m)) (b:zFg q r []=(0,s,i)):e=0∧t={zh with kind:=4,str:=s}∧m=1+i:=by
 unfold zAv at h;have:zKU q r=zFg q r []:=rfl;rw[this,b,if_neg js]at h;obtain⟨h1,c,d⟩:=zGp h;exact⟨h1.symm,c.symm,d.symm⟩
theorem zJY (l:jH) (x:UInt16):zAC l++[.int .u16 (x.toNat:Int)]=zAC (l++[x]):=by simp[zAC,zX6]
theorem zGu {g:Nat} {w:World} (Y:Rd w g A n c k) (hn:u.length=n) (ha:Reads w B 1 A n (zAC u)) (hB:B≤g) (hk:k < u.length) (hl:n≤4096) (hq:zAv u[k] (u.drop (k+1))=(e,t,m)):
 Calls prog 73 #[.pointer (some g)] w fun ev w'=>∃v,ev=.returned (.tuple #[v,e])∧(e≠0→v=noV)∧(e=0→zX9 w' w.heap.size t v∧Mv w w' g A n c (k+m))∧w.grownBy w' (some g):=by
 subst hn;obtain⟨i0,b7,b8,b9,U⟩:=info_parts Tryz.info_u16;have hg:=Y.lt;have HA:=zA ha;obtain⟨q,a9⟩:=jx (u[k]);rw[a9]at hq;have hE:=zA (fun e' h2 f=>zKs (e':=e') hq h2 f);have b5:=zA (fun s i h2=>zJX (s:=s) (i:=i) hq h2);have c2:QuoS w ((w.alloc (.cells zBP.toArray 78)).alloc (.cells (zHp (.slice none 0 0)).toArray 78)) g A u.length c k (.slice none 0 0) []:=by
  have c7:jY w ((w.alloc (.cells zBP.toArray 78)).alloc (.cells (zHp (.slice none 0 0)).toArray 78)):=((Below.refl _ w).alloc (yAC _) _).alloc js _;refine⟨⟨(Y.alloc _).alloc _,zw _ c7⟩,?_,?_,yAJ _ _ _ _⟩
  · exact(Blk.new w zBP 78).below (ja) js
  · have:=Blk.new (w.alloc (.cells zBP.toArray 78)) (zHp (.slice none 0 0)) 78;rwa [show(w.alloc (.cells zBP.toArray 78)).heap.size=w.heap.size+1 by simp]at this
 have b0:=zA c2;have b1:=Y.c0;have F:=Y.c1;obtain⟨blk,off,rfl,d4,D⟩:=ha.spotL jo;have N:=D k hk;rw[a9]at N;have d9:blk < w.heap.size:=by omega
 have c5:(k:Int) < (u.length:Int):=by omega
 clear hq c2 ha Y D a9;go_enter func73,ntmps73;go_upto_region 2 with(fail)
 go_cut [5] (fun x wx=>x=.int .u16 (q.toNat:Int)∧Hid (QuoS w wx g (some ⟨blk,off,none⟩) u.length c k (.slice none 0 0) []))
 case first=>
  go_quiet (fail)
  go_wp2_with fail;go_meet;exact⟨rfl,b0.out.mov hg ((Mv.refl b0.out.mv.rd).drewN _)⟩
 case rest=>
  obtain⟨hx,b⟩:=hcut;subst hx;clear b1 F N b0;have F:=b.out.mv.rd.c1;have O:=b.out.mv.rd.f1;go_wp2;have c8:=zA (b.out.mov hg (Mv.step (Mv.refl b.out.mv.rd) (z:=(k:Int)+1) (k':=k+1) jo));clear F O b
  go_loopg [6] (u.length - (k+1)) (fun r x wr=>∃p d v,p+r=u.length∧Hid (QuoS w wr g (some ⟨blk,off,none⟩) u.length c p v d)∧d.length≤p∧Hid (zWx q u k p d))
  case atStart=>exact⟨k+1,[],.slice none 0 0,by omega,c8,yAE _,0,by omega,by simp[zJW]⟩
  case round=>
   obtain⟨p,d,v,e0,b,d5,I⟩:=hrel;have b1:=b.out.mv.rd.c0;have F:=b.out.mv.rd.c1;have O:=b.out.mv.rd.f1;have P:=zA (HA.out.grown b.out.mv.grown hB (yAM hg))
   by_cases V:p < u.length
   · have c5:(p:Int) < (u.length:Int):=by omega
     obtain⟨d6,d7,b2,_,D⟩:=P.out.spotL jo;injection b2 with b2;injection b2 with e1 e2;subst e1 e2;have N:=D p V;have J:=zA (yAH V);obtain⟨x,hx⟩:=jx (u[p]);rw[hx]at N J;clear D hx;cases hln:zAG x with
     | true=>
      have G:=zA (show(zFg q (u.drop (k+1)) []).1=5 by
       obtain⟨i,hi,f⟩:=I.out;rw[f,J.out,zQI hln];rfl)
      have j:=zA b.out.zero;have:=j.out.nine;go_wp2_with fail
      go_quiet (first | (go_at_call 66;refine Calls.quiet_of_same ((zAQ _ _).mono fun _ _ h=>zDq h)))
      go_wp2;obtain⟨q0,q1,q2,q3,q4,q5,q6,q7,q8⟩:=zFf (v0:=(0:Int)) (v1:= "") (v2:=()) (v3:=(0:Int)) (v4:=(0:Int)) (v5:=false) (v6:=()) (v7:=(0:Int)) (v8:=false) (j.out.grown (zAA wr (some g) nq) jo) rfl;refine bodyPost_ret (v:=.tuple #[.agg #[(0:Int),"",(),(0:Int),(0:Int),false,(),(0:Int),false],(5:Int)]) (by simp[results,results73,go_sem,q0,q1,q2,q3,q4,q5,q6,q7,q8]) rfl ?_;obtain rfl:=hE.out _ G jd;exact⟨_,rfl,fun _=>rfl,fun h=>absurd h (by first | decide | assumption),(zAD (b.out.mv.drewN _) (yAC _) hg).grown⟩
     | false=>
      have W:=zA hln;go_wp2_with fail
      go_quiet (first | (go_at_call 66;refine Calls.quiet_of_same ((zAQ _ _).mono fun _ _ h=>zDq h)))
      go_upto_region 5 with(fail)
      go_cut [6] (fun xx wx=>xx=.int .u16 (x.toNat:Int)∧Hid (QuoS w wx g (some ⟨blk,off,none⟩) u.length c p v d))
      case first=>
       go_quiet (fail)
       go_wp2_with fail;go_meet;exact⟨rfl,b.out.mov hg (((Mv.refl b.out.mv.rd).drewN _).drewN _)⟩
      case rest=>
       obtain⟨c9,Q⟩:=hcut;subst c9;clear b1 F O N b P;have F:=Q.out.mv.rd.c1;have O:=Q.out.mv.rd.f1;go_upto_region 6 with(fail)
       go_cut [5] (fun qq wx=>qq=.int .u16 (q.toNat:Int)∧Hid (QuoS w wx g (some ⟨blk,off,none⟩) u.length c (p+1) v d))
       case first=>
        go_wp2_with fail;go_meet;exact⟨rfl,Q.out.mov hg (Mv.step (Mv.refl Q.out.mv.rd) jo)⟩
       case rest=>
        obtain⟨d0,b⟩:=hcut;subst d0;clear F O Q;have b6:w.heap.size+2≤wc.heap.size:=b.out.tok.1;have M:some (w.heap.size+1)≠v.ownBlock:=fun e=>by have:=(b.out.own.lt _ e.symm).1;omega
        by_cases o:x=q
        · have e1:((x.toNat:Int)==(q.toNat:Int))=true:=by rw[o];simp
          have G:=zA (show∃i,p=k+1+i∧zFg q (u.drop (k+1)) []=(0,d,i+1) by
           obtain⟨i,hi,f⟩:=I.out;refine⟨i,hi,?_⟩;rw[f,J.out,o,zTc (by rw[←o];exact W.out)];rfl)
          obtain⟨Av,cv,rfl,_,_⟩:=zP b.out.own;have E:=zA b.out.tok;have j:=zA b.out.zero;have a0:wc.cell? ⟨w.heap.size+1,0,none⟩=some (.int .i64 4):=(E.out.2 0 (by simp[zHp])).1;have a1:wc.cell? ⟨w.heap.size+1,1,none⟩=some (.string ⟨#[]⟩):=(E.out.2 1 (by simp[zHp])).1;have a2:wc.cell? ⟨w.heap.size+1,2,none⟩=some (.slice Av d.length cv):=(E.out.2 2 (by simp[zHp])).1;have a3:wc.cell? ⟨w.heap.size+1,3,none⟩=some (.int .i64 0):=(E.out.2 3 (by simp[zHp])).1;have a4:wc.cell? ⟨w.heap.size+1,4,none⟩=some (.int .i64 0):=(E.out.2 4 (by simp[zHp])).1;have a5:wc.cell? ⟨w.heap.size+1,5,none⟩=some (.bool false):=(E.out.2 5 (by simp[zHp])).1;have a6:wc.cell? ⟨w.heap.size+1,6,none⟩=some (.slice none 0 0):=(E.out.2 6 (by simp[zHp])).1;have a7:wc.cell? ⟨w.heap.size+1,7,none⟩=some (.int .i64 0):=(E.out.2 7 (by simp[zHp])).1;have a8:wc.cell? ⟨w.heap.size+1,8,none⟩=some (.bool false):=(E.out.2 8 (by simp[zHp])).1;have:=j.out.nine;clear o;go_wp2;refine zAE j (.int .i64 0) ?_;obtain⟨i,hi,U⟩:=G.out;obtain⟨z1,z2,z3⟩:=b5.out _ _ U;subst z1 z2 z3;refine⟨_,rfl,fun h=>absurd rfl h,fun _=>⟨⟨.slice Av d.length cv,_,rfl,zAY (zA8 b.out.own jo) jo,yAJ _ _ _ _⟩,?_⟩,(zAD b.out.mv (yAC _) hg).grown⟩;rw[show k+(1+(i+1))=p+1 by omega];exact zAD b.out.mv (yAC _) hg
        · have e1:((x.toNat:Int)==(q.toNat:Int))=false:=by
           rw[yA];intro h;exact o (yBS.1 jo)
          have d8:=x.toNat_lt
          by_cases R:x.toNat=92
          · have e2:((x.toNat:Int)==92)=true:=by rw[R];rfl
            have c3:=zA R;clear R;obtain⟨⟨ee,y,ne⟩,C⟩:=jx (zEI (u.drop (p+1)));have b3:=zA C;have P:=zA (HA.out.grown b.out.mv.grown hB (yAM hg))
            by_cases X:ee=0
            · subst X;have c6:=zFV (l:=u.drop (p+1)) (by rw[C]);rw[C,yAR]at c6;have G:=zA (fun i (hi:p=k+1+i) (f:zFg q (u.drop (k+1)) []=zJW i (zFg q (u.drop p) d))=>(by
               refine⟨i+(1+ne),by omega,?_⟩;rw[f,J.out,zTe W.out o c3.out C,yCC];simp only[zJW];congr 2;omega:zWx q u k (p+1+ne) (d++[y])))
              clear C o;go_wp2_with fail;refine(zGs b.out.mv.rd rfl P hB V hl b3).mono ?_;rintro e5 w5 ⟨rfl,c4,S⟩;have L:=zA (b.out.mov hg (c4 rfl));have b4:w.heap.size+2≤w5.heap.size:=L.out.tok.1;have a2:w5.cell? ⟨w.heap.size+1,2,none⟩=some v:=(L.out.tok.2 2 (by simp[zHp])).1;clear c4 S;go_wp2_with (at_builtin;refine zGt rfl _ _ 27 rfl 104 i0 _ 2 underlying27 b7 b8 b9 U rfl (w.heap.size+2) b4 v (zAC d) d.length (zCR _) rfl L.out.own [.int .u16 (y.toNat:Int)] 1 1 rfl rfl rfl (by rw[zCR];omega) jo ?_;intro v' w' T H;obtain⟨Av,cv,rfl,_,_⟩:=zP T;have d2:w'.cell? ⟨w.heap.size+1,2,none⟩=some v:=((L.out.tok.grownR H M).2 2 (by simp[zHp])).1;have d1:=((L.out.tok.grownR H M).2 2 (by simp[zHp])).2)
              go_roundg (u.length - (p+1+ne))
              case measure=>omega
              case rel=>
               refine⟨p+1+ne,d++[y],_,by omega,L.out.app hg H (by rw[zJY,zCR]at T;rw[show(zAC d).length+1=(d++[y]).length by simp[zAC]];exact T),by simp;omega,?_⟩;obtain⟨i,hi,f⟩:=I.out;exact G.out i hi f
            · have G:=zA (show(zFg q (u.drop (k+1)) []).1=ee by
               obtain⟨i,hi,f⟩:=I.out;rw[f,J.out,zTd W.out o c3.out (by rw[C];exact X),C];rfl)
              have e3:((ee:Int) !=0)=true:=by rw[yBM];omega
              clear C o;go_wp2_with fail;refine(zGs b.out.mv.rd rfl P hB V hl b3).mono ?_;rintro e5 w5 ⟨rfl,_,S⟩;have j:=zA (b.out.zero.grown S jo);have d3:=zA (zC b.out.mv.grown S);clear S;have:=j.out.nine;go_wp2;refine zAE j (.int .i64 (ee:Int)) ?_;obtain rfl:=hE.out _ G X;exact⟨_,rfl,fun _=>rfl,fun h=>absurd h X,zAV d3 (yAC _)⟩
          · have e2:((x.toNat:Int)==92)=false:=yA.2 jo;have G:=zA (fun i (hi:p=k+1+i) (f:zFg q (u.drop (k+1)) []=zJW i (zFg q (u.drop p) d))=>(by
             refine⟨i+1,by omega,?_⟩;rw[f,J.out,zNf W.out o R];simp only[zJW];congr 2;omega:zWx q u k (p+1) (d++[x])))
            clear R o;have a2:wc.cell? ⟨w.heap.size+1,2,none⟩=some v:=(b.out.tok.2 2 (by simp[zHp])).1;go_wp2_with (at_builtin;refine zGt rfl _ _ 27 rfl 104 i0 _ 2 underlying27 b7 b8 b9 U rfl (w.heap.size+2) b6 v (zAC d) d.length (zCR _) rfl b.out.own [.int .u16 (x.toNat:Int)] 1 1 rfl rfl rfl (by rw[zCR];omega) jo ?_;intro v' w' T H;obtain⟨Av,cv,rfl,_,_⟩:=zP T;have d2:w'.cell? ⟨w.heap.size+1,2,none⟩=some v:=((b.out.tok.grownR H M).2 2 (by simp[zHp])).1;have d1:=((b.out.tok.grownR H M).2 2 (by simp[zHp])).2)
            go_roundg (gk - 1)
            case measure=>omega
            case rel=>
             refine⟨p+1,d++[x],_,by omega,b.out.app hg H (by rw[zJY,zCR]at T;rw[show(zAC d).length+1=(d++[x]).length by simp[zAC]];exact T),by simp;omega,?_⟩;obtain⟨i,hi,f⟩:=I.out;exact G.out i hi f
   · obtain rfl:p=u.length:=by omega
     have G:=zA (show(zFg q (u.drop (k+1)) []).1=5 by
      obtain⟨i,hi,f⟩:=I.out;rw[f,yBZ,zTb];rfl)
     have j:=zA b.out.zero;have:=j.out.nine;go_wp2_with fail
     go_quiet (fail)
     go_wp2;obtain⟨q0,q1,q2,q3,q4,q5,q6,q7,q8⟩:=zFf (v0:=(0:Int)) (v1:= "") (v2:=()) (v3:=(0:Int)) (v4:=(0:Int)) (v5:=false) (v6:=()) (v7:=(0:Int)) (v8:=false) (j.out.grown (zAA wr (some g) nq) jo) rfl;refine bodyPost_ret (v:=.tuple #[.agg #[(0:Int),"",(),(0:Int),(0:Int),false,(),(0:Int),false],(5:Int)]) (by simp[results,results73,go_sem,q0,q1,q2,q3,q4,q5,q6,q7,q8]) rfl ?_;obtain rfl:=hE.out _ G jd;exact⟨_,rfl,fun _=>rfl,fun h=>absurd h jd,(zAD (b.out.mv.drewN nq) (yAC _) hg).grown⟩
theorem Tryz.info_u32:(prog.info? 119).map (fun i=>(i.zero,i.size,i.bytes))=some (some (.int .u32 0),1,4):=by kernel_rfl
def zQJ (v:Nat) (w:World) (e:Ending) (w':World):Prop:=
 ∃(X:jQ) (mx cx er:Nat),e=.returned (.tuple #[.agg #[false,.slice X mx cx],er])∧jY w w'∧
  (er=0∧v < zGM∧w'.ownsRow w.heap.size 119 1 (.slice X mx cx) (limbs v).length (zBg (limbs v))∨er=3∧zGM≤v)
def AtMul (ms:List Nat) (d k c:Nat) (outs:List Nat):Prop:=outs.length=k∧zCg ms d=(outs++(zCg (ms.drop k) c).1,(zCg (ms.drop k) c).2)
theorem AtMul.start (ms:List Nat) (d:Nat):AtMul ms d 0 d []:=⟨rfl,rfl⟩
theorem AtMul.step (h:AtMul ms d k c outs) (hk:k < ms.length):AtMul ms d (k+1) ((c+10*ms[k]) / 4294967296) (outs++[(c+10*ms[k]) % 4294967296]):=by
 obtain⟨h1,b⟩:=h;refine⟨by simp[h1],?_⟩;rw[b,yAH hk,zCg];simp
theorem AtMul.done (h:AtMul ms d ms.length c outs):zCg ms d=(outs,c):=by
 obtain⟨h1,b⟩:=h;rw[b,yBZ];simp[zCg]
def zCt (ms outs:List Nat):List Nat:=outs++ms.drop outs.length
theorem zJZ (h:outs.length < ms.length):(zCt ms outs)[outs.length]? =some ms[outs.length]:=by
 unfold zCt;rw[yAX (yAC _),yCS,yCM];simp[yAB h]
theorem zJa (h:outs.length < ms.length) (x:Nat):(zCt ms outs).set outs.length x=zCt ms (outs++[x]):=by
 unfold zCt;rw[List.set_append_right _ _ (yAC _),yCS,yAH h,List.set_cons_zero];simp
theorem zTf (l:List Nat) (k x:Nat):(zBg l).set k (.int .u32 (x:Int))=zBg (l.set k x):=by
 simp[zBg,List.map_set]
section
variable {P:Program} {w:World} {ops:Array Oper} {rest:List Oper} {o:Oper} {a:Act} {Q:Exit→Act→World→Prop}
theorem zEb (d:o.guard=none) (s x:Operand) (t:TypeId)
 (f:o.op=.call {callee:=.builtin .append,args:=#[s,x],argTypes:=#[t,t]})
 (e:TypeId) (i:TypeInfo) (z:Value) (size bytes:Nat) (ht:P.underlying t=some (.slice e)) (hi:P.info? e=some i) (hz:i.zero=some z)
 (hsize:i.size=size) (hby:i.bytes=bytes) (hzs:z.cells.size=size) (hsz0:0 < size) (base:Nat) (hbase:base≤w.heap.size)
 (v:Value) (xs:List Value) (k:Nat) (hs:a.eval s=v) (hm:w.ownsRow base e size v k xs)
 (cs:List Value) (m c:Nat) (hx:a.eval x=.slice (some ⟨w.heap.size,0,none⟩) m c) (hl:cs.length=m*size) (h1:(cs.all fun u=>u.oneCell')=true)
 (hsz:k+m≤70368744177664) (hb2:(k+m)*bytes≤140737488355328)
 (h:∀v' w',w'.ownsRow base e size v' (k+m) (xs++cs)→w.grownBy w' v.ownBlock→wpList P ops Q rest (a.put o.dst v') w'):wpList P ops Q (o::rest) a (w.alloc (.cells cs.toArray e)):=by
 refine wpList_append_own (w.alloc (.cells cs.toArray e)) d s x t f base e i z size bytes ht hi hz hsize hby hzs hsz0 v k xs hs (hm.alloc _) ⟨w.heap.size,0,none⟩ _ c cs hx hl ?_ (fun u b=>yBH.1 h1 u b) (by unfold maxLen;omega) hb2 (yAD hbase js) ?_
 · intro j u b;rw[Addr.add_lit,yBR _ _ _ _ rfl];simpa using b
 · intro v' w' h1 g _;exact h v' w' h1 (zC (zG w _ _) g)
end
theorem zFh {w:World} {R:Nat} {cs:List Value} {v0 v1:Value} (h:Blk w R cs) (b:cs.length=2):((w.setCell R v0).setCell ⟨R,1,none⟩ v1).cell? R=some v0∧((w.setCell R v0).setCell ⟨R,1,none⟩ v1).cell? ⟨R,1,none⟩=some v1:=by
 obtain⟨c0,c⟩:=h.2 0 jo;obtain⟨c1,f1⟩:=h.2 1 jo;refine⟨?_,?_⟩
 all_goals go_simp
theorem zFi {w0 w:World} {R:Nat} {v0 v1:Value} (h:jY w0 w) (b:w0.heap.size≤R):jY w0 ((w.setCell R v0).setCell ⟨R,1,none⟩ v1):=(h.setCell b _).setCell b _
theorem zTg {w:World} {R:Nat} {v0 v1:Value} (h:w.ownsRow base e 1 v n xs) (hb:R < base):((w.setCell R v0).setCell ⟨R,1,none⟩ v1).ownsRow base e 1 v n xs:=
 zBl (zBl h (zM w R 0 v0) hb) (zM _ R 1 v1) hb
theorem zQK {xs:List Nat} {w:World} (b:xs.length=n) (f:Reads w B 1 A n (zBg xs)) (hB:B≤w.heap.size) (g:n≤4096) (j:n≤c) (d:c≤maxLen) (k:zAe xs=xs) (l:n=0):
 Calls prog 161 #[.slice A n c,false] w fun e w'=>e=.returned (.agg #[false,()])∧jY w w':=by
 have:=zMB (c:=c) b f hB g j d (m:=n) (by rw[k,b]);unfold zQB at this;rwa[if_pos l]at this
theorem zQL {xs:List Nat} {w:World} (b:xs.length=n) (f:Reads w B 1 A n (zBg xs)) (hB:B≤w.heap.size) (g:n≤4096) (j:n≤c) (d:c≤maxLen) (k:zAe xs=xs) (l:n≠0):
 Calls prog 161 #[.slice A n c,false] w fun e w'=>e=.returned (.agg #[false,.slice A n c])∧jY w w':=by
 have:=zMB (c:=c) b f hB g j d (m:=n) (by rw[k,b]);unfold zQB at this;rwa[if_neg l]at this
structure PaS (w wr:World) (v:Value) (n:Nat) (ms:List Nat):Prop where
 own:wr.ownsRow (w.heap.size+1) 119 1 v n (zBg ms)
 res:Blk wr w.heap.size [false,()]
 below:jY w wr
theorem PaS.grown {w w':World} {v':Value} {b:List Nat} (h:PaS w wr v n ms) (hg:wr.grownBy w' v.ownBlock) (d:w'.ownsRow (w.heap.size+1) 119 1 v' c (zBg b)):PaS w w' v' c b:=
 ⟨d,h.res.grownR hg (fun e=>by have:=(h.own.lt _ e.symm).1;omega),h.below.grown hg h.below.size (fun k hk=>by have:=(h.own.lt k hk).1;omega)⟩
def AtPar (l:jH) (i:Nat) (ms:List Nat):Prop:=i≤l.length∧zn (l.take i) < zGM∧ms=limbs (zn (l.take i))
theorem PaS.below' {w w':World} (h:PaS w wr v n ms) (hb:jY wr w'):PaS w w' v n ms:=
 ⟨zC2 h.own hb,h.res.below hb h.res.1,h.below.trans (hb.mono h.below.size)⟩
theorem PaS.trimmed {w w':World} {b:jQ} {cp:Nat} {zs:List Nat} (h:PaS w wr (.slice A n cp) n outs) (hg:wr.grownBy w' (Value.ownBlock (.slice A n cp))) (g:w'.ownsRow (w.heap.size+1) 119 1 (.slice b (n+1) d) (n+1) (zBg (outs++[c])))
 (e:zAe (outs++[c])=zs) (f:zs.length=m) (k:m≤n+1):PaS w w' (.slice b m d) m zs:=by
 refine h.grown hg ?_;have h1:=zL7 (j:=m) g k;rw[zJK,←f,←e,←zD5,e,f]at h1;exact h1
theorem AtPar.start (l:jH):AtPar l 0 []:=⟨yAE _,by rw[List.take_zero];exact Nat.pow_pos jo,rfl⟩
theorem AtPar.step (h:AtPar l k ms) (hk:k < l.length) (e:l[k].toNat=d+48) (b:d≤9) (f:zCg ms d=(outs,c)):zAe (outs++[c])=limbs (zn (l.take (k+1))):=by
 obtain⟨_,g,j⟩:=h;subst j;have:=zNU g b;rw[f]at this;rw[this,zDT l k hk,e];congr 1
theorem AtPar.go (hk:k < l.length) (b:ms=limbs (zn (l.take (k+1)))) (c:ms.length≤8):AtPar l (k+1) ms:=by
 refine⟨hk,?_,b⟩;rcases yBO (zn (l.take (k+1))) zGM with h | h
 · exact h
 · have:=zTM h;rw[←b]at this;omega
theorem AtPar.over (b:ms=limbs (zn (l.take (k+1)))) (c:¬ms.length≤8):zGM≤zn l:=by
 rcases yBO (zn (l.take (k+1))) zGM with h | h
 · have:=zE2 h;rw[←b]at this;omega
 · exact yAD h (zEL l (k+1))
theorem AtPar.done (h:AtPar l l.length ms):zn l < zGM∧ms=limbs (zn l):=by
 obtain⟨_,b,c⟩:=h;rw[List.take_length]at b c;exact⟨b,c⟩
theorem PaS.drewN {w:World} (h:PaS w wr v n ms) (m:Nat):PaS w (wr.drewN m) v n ms:=
 ⟨h.own.kept (row:=none) ⟨rfl,rfl,rfl,yAC _,fun _ _ _=>rfl⟩ (by cases hv:v.ownBlock<;>simp),h.res.grown (g:=w.heap.size+1) (zAA wr _ m) jo,zv h.below m⟩
theorem zNg (h:s.data.toList=asc l) (hd:∀x∈l,zJ x=true) (h0:0 < l.length) (hz:l[0]≠48∨l=[48]) (hl:l.length≤4096) (w:World):
 Calls prog 137 #[.string s] w (zQJ (zn l) w):=by
 obtain⟨i0,a2,a3,a4,a5⟩:=info_parts Tryz.info_u32;obtain⟨hs,I⟩:=zQC h hd;have HG:=zA I;have a6:0 < s.size:=by omega
 have d7:s.size≤4096:=by omega
 have HD:=zA (fun w=>zNZ h hd h0 hz hl w);have d8:=(I 0 a6 h0).2;have d9:((s[0].toNat:Int)==45)=false:=yA.2 jo;have d4:(s.toList==[45,48])=false:=by
  rw[yA,ByteArray.toList_eq];intro h3;have h4:s.data.toList[0]? =some 45:=by rw[h3];rfl
  have h5:s.data.toList[0]? =some s[0]:=by rw[yAB (by simpa using a6)];rfl
  rw[h5]at h4;have h6:s[0].toNat=45:=by rw[yBI h4];rfl
  omega
 have c7:=zA (show PaS w (w.alloc (.cells #[false,()] 55)) (.slice none 0 0) ([]:List Nat).length []from⟨yAJ _ _ _ _,Blk.new w [false,()] _,ja⟩);have HL:=zA hs;clear I h hd hz hs;go_enter func137,ntmps137;go_wp2_with fail
 go_quiet (fail)
 go_wp2_with (go_at_call 160;refine(HD.out _).mono ?_;rintro e1 w1 ⟨rfl,rfl⟩)
 go_loopg [6,33] l.length (fun r m i wr=>∃(k:Nat) (ms:List Nat) (n:Nat),k+r=l.length∧i=.int .i64 k∧Hid (ms.length=n)∧Hid (PaS w wr m n ms)∧Hid (AtPar l k ms))
 case atStart=>exact⟨0,[],0,by omega,rfl,rfl,c7.out.drewN _,AtPar.start l⟩
 case round=>
  obtain⟨k,ms,n,e0,rfl,D,U,q⟩:=hrel;obtain⟨G,rfl⟩:∃G,G=gk:=⟨_,rfl⟩;obtain⟨wo,rfl⟩:∃wo,wo=wr:=⟨_,rfl⟩;obtain⟨A,cp,rfl,a7,a8⟩:=zP U.out.own;have a9:=HL.out;have d5:n≤8:=by have:=zE2 q.out.2.1;rwa[←q.out.2.2,D.out]at this
  by_cases O:k < l.length
  · have b2:k < s.size:=by omega
    have e2:=(HG.out k b2 O).2;obtain⟨d,V⟩:∃d,s[k].toNat=d+48:=⟨s[k].toNat - 48,by omega⟩;have e4:=zA V;have J:l[k].toNat=d+48:=by rw[←(HG.out k b2 O).1,V]
    have J:=zA J;have e5:(s[k].toNat:Int)=(d:Int)+48:=by omega
    have b3:d≤9:=by omega
    clear V a9;go_wp2_with fail
    go_loopg [8,43] n (fun r c8 c9 wi=>∃(j c:Nat) (outs:List Nat),j+r=n∧c8=.int .u64 c∧c9=.int .i64 j∧c≤9∧Hid (PaS w wi (.slice A n cp) n (zCt ms outs))∧Hid (AtMul ms d j c outs))
    case atStart=>exact⟨0,d,[],by omega,rfl,rfl,b3,U,AtMul.start ms d⟩
    case round=>
     obtain⟨j,c,outs,e6,rfl,rfl,e7,o,f⟩:=hrel
     by_cases e8:j < n
     · have t:0 < n:=by omega
       obtain⟨g,cap,hv,e9,f0⟩:=o.out.own.form t;injection hv with hA _ hcap;subst hA hcap;have W:outs.length=j:=f.out.1;have d0:ms.length=n:=D.out;have X:j < ms.length:=by omega
       have b4:=zF7 (zn (l.take k)) ms[j] (by rw[←q.out.2.2];exact yAZ X);have d1:wr.cell? ⟨g,j,none⟩=some (.int .u32 (ms[j]:Int)):=by
        rw[o.out.own.cellAt j jo];subst W;have h1:=zJZ X;simp only[zBg,yCH,h1];rfl
       have f1:=o.out.own.frozenAt j;have c5:=zA (fun x:Nat=>zJa (ms:=ms) (outs:=outs) jo x);have P:=zA (f.out.step X);obtain⟨x,hx⟩:=jx (ms[j]);rw[hx]at d1 P b4;have f2:(x:Int)≤4294967295:=by omega
       have u:=zA W;clear hx W d0 b4;go_wp2_with fail
       go_roundg (gk - 1)
       case measure=>omega
       case rel=>
        refine⟨j+1,(c+10*x) / 4294967296,outs++[(c+10*x) % 4294967296],by omega,congrArg (Value.int .u64) jo,by go_num,by omega,?_,P⟩;have p:=o.out.own.stored j (.int .u32 (((c+10*x) % 4294967296:Nat):Int));have h1:=p.1;rw[zTf,show j=outs.length from u.out.symm,c5.out]at h1;have h2:=o.out.grown (by rw[show j=outs.length from u.out.symm]at p;exact p.2) h1;have e:(((c+10*x) % 4294967296:Nat):Int)=((c:Int)+10*(x:Int)) % 4294967296:=by omega
        rw[e,u.out]at h2;exact h2
     · obtain rfl:j=n:=by omega
       have Y:outs.length=ms.length:=by rw[f.out.1,D.out]
       have b5:zCt ms outs=outs:=by unfold zCt;rw[Y,yBZ,yAS]
       have Q:=(show AtMul ms d ms.length c outs by have:=f.out;rwa [←D.out]at this).done;have E:=zA (show PaS w wr (.slice A j cp) j outs by have:=o.out;rwa [b5]at this);have p:=q.out.step O J b3 Q;obtain⟨zs,R⟩:=jx (zAe (outs++[c]));obtain⟨m,hm⟩:=jx zs.length;have b6:m≤j+1:=by
        have:=zJI (outs++[c]);rwa[R,hm,yAN,f.out.1]at this
       rw[R]at p;have S:=zA R;have L:=zA hm;have b7:=zA p;have u:=zA (show outs.length=j from f.out.1);have T:w.heap.size+1≤wr.heap.size:=E.out.res.1;have d2:∀v:World,v.heap.size=v.heap.size:=fun _=>rfl;clear d2 R hm p Y b5 Q o U f
       by_cases h8:m≤8
       · go_wp2_with (at_builtin;refine zEb rfl _ _ 53 rfl 119 i0 _ 1 4 underlying53 a2 a3 a4 a5 rfl jd (w.heap.size+1) T (.slice A j cp) (zBg outs) j rfl E.out.own [.int .u32 (c:Int)] 1 1 rfl rfl rfl jo jo ?_;intro v' w' B F;obtain⟨Av,cv,rfl,M,N⟩:=zP B);have y:=zA (Reads.of_own (by rw[zF8 outs [c] |>.symm];exact B):Reads w' w'.heap.size 1 Av (j+1) (zBg (outs++[c])));have HP:=zA (E.out.trimmed (m:=m) (zs:=zs) F (by rw[zF8 outs [c] |>.symm];exact B) S L b6);clear B F;refine(zE3 (xs:=outs++[c]) (m:=m) (by rw[yAN,u.out];rfl) y jo M N (by rw[S.out,L.out])).mono ?_;rintro e3 w3 ⟨rfl,rfl⟩;go_wp2_with fail
         go_roundg (G - 1)
         case measure=>omega
         case rel=>exact⟨k+1,zs,m,by omega,by go_num,L,HP,AtPar.go O b7 (by rw[L.out];exact h8)⟩
       · have d3:=zA (AtPar.over b7 (by rw[L.out];exact h8));go_wp2_with (at_builtin;refine zEb rfl _ _ 53 rfl 119 i0 _ 1 4 underlying53 a2 a3 a4 a5 rfl jd (w.heap.size+1) T (.slice A j cp) (zBg outs) j rfl E.out.own [.int .u32 (c:Int)] 1 1 rfl rfl rfl jo jo ?_;intro v' w' B F;obtain⟨Av,cv,rfl,M,N⟩:=zP B);have y:=zA (Reads.of_own (by rw[zF8 outs [c] |>.symm];exact B):Reads w' w'.heap.size 1 Av (j+1) (zBg (outs++[c])));have HP:=zA (E.out.trimmed (m:=m) (zs:=zs) F (by rw[zF8 outs [c] |>.symm];exact B) S L b6);clear B F;refine(zE3 (xs:=outs++[c]) (m:=m) (by rw[yAN,u.out];rfl) y jo M N (by rw[S.out,L.out])).mono ?_;rintro e3 w3 ⟨rfl,rfl⟩;have hR:=zA HP.out.res;obtain⟨b0,b8⟩:=hR.out.2 0 jd;obtain⟨b1,b9⟩:=hR.out.2 1 jd;go_wp2_with fail;obtain⟨q0,q1⟩:=zFh (v0:=false) (v1:=()) hR rfl;refine bodyPost_ret (v:=.tuple #[.agg #[false,()],(3:Int)]) (by simp[results,results137,go_sem,q0,q1]) rfl ?_;exact⟨none,0,0,3,rfl,zFi HP.out.below (yAC _),.inr ⟨rfl,d3⟩⟩
  · have c0:k=l.length:=by omega
    obtain⟨a0,a1⟩:=(show AtPar l l.length ms by have:=q.out;rwa [c0]at this).done;clear c0;have c1:zAe ms=ms:=by rw[a1];exact zNV a0
    have c2:=zA c1;have c3:=zA a0;have c4:=zA a1;have y:=zA (Reads.of_own U.out.own);have d6:¬k < s.size:=by omega
    clear c1 a0 a1 q a9
    by_cases C:n=0
    · have t:=zA C;clear C;go_wp2_with fail;refine(zQK D y (yAC _) jo a7 a8 c2 t).mono ?_;rintro e3 w3 ⟨rfl,H⟩;have b:=zA (U.out.below' H);clear H;obtain⟨b0,b8⟩:=b.out.res.2 0 jd;obtain⟨b1,b9⟩:=b.out.res.2 1 jd;go_wp2_with fail;obtain⟨q0,q1⟩:=zFh (v0:=false) (v1:=()) b.out.res rfl;refine bodyPost_ret (v:=.tuple #[.agg #[false,()],(0:Int)]) (by simp[results,results137,go_sem,q0,q1]) rfl ?_;have c6:limbs (zn l)=[]:=by rw[←c4.out];exact yBB (by rw[D.out,t.out])
      exact⟨none,0,0,0,rfl,zFi b.out.below (yAC _),.inl ⟨rfl,c3,by rw[c6];exact yAJ _ _ _ _⟩⟩
    · have t:=zA C;clear C;go_wp2_with fail;refine(zQL D y (yAC _) jo a7 a8 c2 t).mono ?_;rintro e3 w3 ⟨rfl,H⟩;have b:=zA (U.out.below' H);clear H;obtain⟨b0,b8⟩:=b.out.res.2 0 jd;obtain⟨b1,b9⟩:=b.out.res.2 1 jd;go_wp2_with fail;obtain⟨q0,q1⟩:=zFh (v0:=false) (v1:=.slice A n cp) b.out.res rfl;refine bodyPost_ret (v:=.tuple #[.agg #[false,.slice A n cp],(0:Int)]) (by simp[results,results137,go_sem,q0,q1]) rfl ?_;exact⟨A,n,cp,0,rfl,zFi b.out.below (yAC _),.inl ⟨rfl,c3,by rw[←c4.out,D.out];exact zAY (zTg b.out.own jo) jo⟩⟩
structure BgS (w wr:World) (g:Nat) (A:jQ) (n c k R:Nat) (X:jQ) (mx cx:Nat):Prop where
 mv:Mv w wr g A n c k
 zero:Blk wr w.heap.size zBP
 box:Blk wr R [false,.slice X mx cx]
theorem BgS.drewN {w:World} {g R b cx:Nat} {X:jQ} (h:BgS w wr g A n c k R X b cx) (hg:g < w.heap.size) (d:w.heap.size≤R) (m:Nat):BgS w (wr.drewN m) g A n c k R X b cx:=
 ⟨h.mv.drewN m,h.zero.grown (zAA wr (some g) m) jo,h.box.grown (zAA wr (some g) m) jo⟩
theorem zJb {w:World} (h:w.ownsRow base e 1 v n xs) (m:Nat):(w.drewN m).ownsRow base e 1 v n xs:=
 h.kept (row:=none) ⟨rfl,rfl,rfl,yAC _,fun _ _ _=>rfl⟩ (by cases hv:v.ownBlock<;>simp)
theorem zQM {v:Nat} (h:zGM≤v) (b:zIy v n r=(e,t,m)):6=e∧zh=t∧0=m:=by
 unfold zIy at b;rw[if_pos h]at b;exact zCN b
theorem zME {v:Nat} (h:v < zGM) (c:(zBE 0 zAx r || zBE 0 zJ r)=true) (b:zIy v n r=(e,t,m)):5=e∧zh=t∧0=m:=by
 unfold zIy at b;rw[if_neg (Nat.not_le.2 h),if_pos c]at b;exact zCN b
theorem zQN {v:Nat} (h:v < zGM) (c:(zBE 0 zAx r || zBE 0 zJ r)=false) (b:zIy v n r=(e,t,m)):0=e∧{zh with kind:=3,mag:=limbs v}=t∧n+1=m:=by
 unfold zIy at b;rw[if_neg (Nat.not_le.2 h),if_neg (by rw[c];simp)]at b;exact zGp b
theorem zKt {g:Nat} {w:World} {d:jH} (P:s.data.toList=asc d) (hd:∀x∈d,zJ x=true) (h0:0 < d.length) (hz:d[0]≠48∨d=[48]) (Q:d.length≤4096)
 (T:Rd w g A n c k) (hn:u.length=n) (ha:Reads w B 1 A n (zAC u)) (hB:B≤g) (hk:k≤n) (hl:n≤4096) (hq:zIy (zn d) d.length (u.drop k)=(e,t,m)):
 Calls prog 114 #[.pointer (some g),.string s] w fun ev w'=>∃v,ev=.returned (.tuple #[v,e])∧(e≠0→v=noV)∧(e=0→zX9 w' w.heap.size t v∧Mv w w' g A n c k∧m=d.length+1)∧w.grownBy w' (some g):=by
 have hg:=T.lt;have HP:=zA (zNg P hd h0 hz Q (w.alloc (.cells zBP.toArray 78)));have M:=zA hq;have HA:=zA ha;have HR:=zA T;obtain⟨U,R⟩:=jx (zBE 0 zAx (u.drop k));obtain⟨b2,o⟩:=jx (zBE 0 zJ (u.drop k));have C:=zA R;have F:=zA o;have HN:=zA hn;clear hq ha T P hd h0 hz Q R o hn;go_enter func114,ntmps114;go_wp2_with fail;refine HP.out.mono ?_;rintro e1 w1 ⟨X,p,cx,V,rfl,D,E⟩;have b9:w.heap.size+1≤w1.heap.size:=by have:=D.size;simpa using this
 have y:=zA (show BgS w (w1.alloc (.cells #[false,.slice X p cx] 55)) g A n c k w1.heap.size X p cx from by
  have o:jY w w1:=((Below.refl _ w).alloc (yAC _) _).trans (D.mono js);refine⟨⟨(HR.out.below o hg).alloc _,zC (zw _ o) (zG _ _ _)⟩,?_,Blk.new w1 [false,.slice X p cx] _⟩;exact((Blk.new w zBP 78).below D js).grownR (zG w1 _ none) js)
 have G:=zA E;clear D E
 by_cases H:V=0
 · have q:zn d < zGM:=by
    rcases G with⟨_,h,_⟩ | ⟨h,_⟩
    · exact h
    · omega
   have I:=zA (show w1.ownsRow (w.alloc (.cells zBP.toArray 78)).heap.size 119 1 (.slice X p cx) (limbs (zn d)).length (zBg (limbs (zn d))) by
    rcases G with⟨_,_,h⟩ | ⟨h,_⟩
    · exact h
    · omega)
   have e1:((V:Int) !=0)=false:=by rw[H];rfl
   have r:=zA q;clear H G q;go_wp2_with fail;refine(zHn (j:=0) y.out.mv.rd HN (HA.out.grown y.out.mv.grown hB (yAM hg)) hk hl jo C).mono ?_;rintro e3 w3 ⟨rfl,W,J⟩;have l:=zA (show BgS w w3 g A n c k w1.heap.size X p cx by rw[J];exact y.out.drewN hg jo W);have S:=zA (show w3.ownsRow (w.heap.size+1) 119 1 (.slice X p cx) (limbs (zn d)).length (zBg (limbs (zn d))) by
    rw[J];exact zJb (zAY (I.out.alloc _) js) W)
   clear J W y I;cases U with
   | true=>
    obtain⟨b0,a0⟩:=l.out.zero.2 0 jd;obtain⟨U,a1⟩:=l.out.zero.2 1 jd;obtain⟨b2,a2⟩:=l.out.zero.2 2 jd;obtain⟨b3,a3⟩:=l.out.zero.2 3 jd;obtain⟨b4,a4⟩:=l.out.zero.2 4 jd;obtain⟨b5,a5⟩:=l.out.zero.2 5 jd;obtain⟨b6,a6⟩:=l.out.zero.2 6 jd;obtain⟨b7,a7⟩:=l.out.zero.2 7 jd;obtain⟨b8,a8⟩:=l.out.zero.2 8 jd;go_wp2_with fail;refine zAE l.out.zero (.int .i64 5) ?_;obtain⟨z,N,O⟩:=zME r (by rw[C.out];rfl) M;subst z;exact⟨_,rfl,fun _=>rfl,fun h=>absurd h jd,(zAD l.out.mv (yAC _) hg).grown⟩
   | false=>
    go_wp2_with fail;refine(zAn (j:=0) l.out.mv.rd HN (HA.out.grown l.out.mv.grown hB (yAM hg)) hk hl jo F).mono ?_;rintro e4 w4 ⟨rfl,Y,L⟩;have f:=zA (show BgS w w4 g A n c k w1.heap.size X p cx by rw[L];exact l.out.drewN hg jo Y);have a9:=zA (show w4.ownsRow (w.heap.size+1) 119 1 (.slice X p cx) (limbs (zn d)).length (zBg (limbs (zn d))) by
     rw[L];exact zJb S Y)
    clear L Y l S;obtain⟨b0,a0⟩:=f.out.zero.2 0 jd;obtain⟨U,a1⟩:=f.out.zero.2 1 jd;obtain⟨c0,a2⟩:=f.out.zero.2 2 jd;obtain⟨b3,a3⟩:=f.out.zero.2 3 jd;obtain⟨b4,a4⟩:=f.out.zero.2 4 jd;obtain⟨b5,a5⟩:=f.out.zero.2 5 jd;obtain⟨b6,a6⟩:=f.out.zero.2 6 jd;obtain⟨b7,a7⟩:=f.out.zero.2 7 jd;obtain⟨b8,a8⟩:=f.out.zero.2 8 jd;obtain⟨x0,c1⟩:=f.out.box.2 0 js;obtain⟨x1,c2⟩:=f.out.box.2 1 js;cases b2 with
    | true=>
     go_wp2_with fail;refine zAE f.out.zero (.int .i64 5) ?_;obtain⟨z,N,O⟩:=zME r (by rw[C.out,F.out];rfl) M;subst z;exact⟨_,rfl,fun _=>rfl,fun h=>absurd h jd,(zAD f.out.mv (yAC _) hg).grown⟩
    | false=>
     go_wp2_with fail;refine zAE f.out.zero (.int .i64 0) ?_;obtain⟨z,N,O⟩:=zQN r (by rw[C.out,F.out];rfl) M;subst z N O;exact⟨_,rfl,fun h=>absurd rfl h,fun _=>⟨⟨_,_,rfl,yAJ _ _ _ _,zAY (zA8 a9 jo) jo⟩,zAD f.out.mv (yAC _) hg,rfl⟩,(zAD f.out.mv (yAC _) hg).grown⟩
 · have q:zGM≤zn d:=by
    rcases G with⟨h,_,_⟩ | ⟨_,h⟩
    · omega
    · exact h
   have e1:((V:Int) !=0)=true:=by rw[yBM];omega
   have r:=zA q;clear H G q;have:=y.out.zero.nine;go_wp2_with fail;refine zAE y.out.zero (.int .i64 6) ?_;obtain⟨z,N,O⟩:=zQM r M;subst z;exact⟨_,rfl,fun _=>rfl,fun h=>absurd h jd,(zAD y.out.mv (yAC _) hg).grown⟩
theorem zQO {xs:jH} {w:World} (hB:B≤w.heap.size) (d:xs.length=n) (f:Reads w B 1 A n (zAC xs)) (j:n≤4096) {b:Bool} (h1:zGo xs=s) (g:zCM xs=b):
 Calls prog 118 #[.slice A n c] w fun e w'=>e=.returned (.tuple #[.string s,b])∧jY w w':=by
 subst d h1 g;exact zQE hB f jo
theorem zQP (h:l.length≤n) (d:n≤4):zBa l 4=zBa l (min 4 l.length):=by
 have b:∀k,l.length < k→zAy l k=0:=by
  intro k hk;unfold zAy;rw[if_neg];rw[yAI (by omega:¬k≤l.length)];simp
 have h1:∀k,l.length≤k→zBa l k=zBa l l.length:=by
  intro k
  induction k with
  | zero=>
   intro hk;have:l.length=0:=by omega
   rw[this]
  | succ k c=>
   intro hk
   by_cases e:l.length=k+1
   · rw[e]
   · rw[zBa,if_neg (by rw[b (k+1) jo];simp)];exact c jo
 rw[h1 4 jo,Nat.min_eq_right jo]
theorem zKu (l:jH):zBa l 4=zBa l (min 4 l.length):=by
 by_cases h:l.length≤4
 · exact zQP h (yAC _)
 · rw[Nat.min_eq_left jo]
theorem zFj (h:zAy l (n+1)=0):zBa l (n+1)=zBa l n:=by
 rw[zBa,if_neg (by rw[h];simp)]
theorem zJc (h:zAy l (n+1)≠0):zBa l (n+1)=some (n+1):=by
 rw[zBa,if_pos h]
theorem zQQ (b:n≤l.length):zAy l n=if(zCM (l.take n)&& !(decide (asc (l.take n)=[63,46])&&zBE 2 zJ l))=true then zCA (asc (l.take n))else 0:=by
 unfold zAy zCM;rw[yBE b,yC]
theorem zQR (h:zCM l=true):zGo l=⟨(asc l).toArray⟩:=by
 unfold zGo;rw[if_pos h];rfl
theorem zD7 {l:jE} (hs:s=⟨l.toArray⟩) (h:zCA l=n) (w:World):Calls prog 119 #[.string s] w fun e w'=>e=.returned n∧w=w':=by
 subst hs h;exact zPE ⟨l.toArray⟩ w
theorem zQS (l:jE):zCA l=0∨zCA l=1∨zCA l=2:=by
 unfold zCA;split
 · simp
 · split<;>simp
theorem zMF (h1:zBa l 4=zBa l (j+1)) (c:zAy l (j+1)=2) (b:zCI z l=(e,t,m)):6=e∧zh=t∧0=m:=by
 unfold zCI at b;rw[h1,zJc (by rw[c];decide)]at b;simp only at b;rw[if_pos c]at b;exact zCN b
theorem zWy (h1:zBa l 4=zBa l (j+1)) (c:zAy l (j+1)=1) (b:zCI z l=(e,t,m)):0=e∧{zh with kind:=5,text:=asc (l.take (j+1))}=t∧j+1=m:=by
 unfold zCI at b;rw[h1,zJc (by rw[c];decide)]at b;simp only at b;rw[if_neg (by rw[c];decide)]at b;exact zGp b
theorem zQT (h1:zBa l 4=none) (b:zCI z l=(e,t,m)):(if(zBE 0 (fun x=>decide (128≤x.toNat) || x.toNat==96 || x.toNat==92) l || (z&&zg [35,33] l))=true then 6 else 5)=e:=by
 unfold zCI at b;rw[h1]at b;simp only at b;split at b
 · rename_i h;rw[if_pos h];exact(zCN b).1
 · rename_i h;rw[if_neg h];exact(zCN b).1
structure SgS (w wr:World) (g:Nat) (A:jQ) (n c k:Nat):Prop where
 mv:Mv w wr g A n c k
 zero:Blk wr w.heap.size zBP
theorem SgS.below {w w':World} {g:Nat} (h:SgS w wr g A n c k) (_b:g < w.heap.size) (hb:jY wr w'):SgS w w' g A n c k:=
 ⟨h.mv.below hb,h.zero.below hb h.zero.1⟩
theorem SgS.drewN {w:World} {g:Nat} (h:SgS w wr g A n c k) (hg:g < w.heap.size) (m:Nat):SgS w (wr.drewN m) g A n c k:=
 ⟨h.mv.drewN m,h.zero.grown (zAA wr (some g) m) jo⟩
theorem SgS.drew {w:World} {g:Nat} (h:SgS w wr g A n c k) (hg:g < w.heap.size):SgS w wr.drew g A n c k:=
 ⟨h.mv.drew,h.zero.grown (zAw wr (some g)) jo⟩
theorem zHq {g:Nat} {w:World} (hr:Rd w g A n c k) (hn:u.length=n) (ha:Reads w B 1 A n (zAC u)) (hB:B≤g) (hk:k < u.length) (hl:n≤4096) (hc:n≤c) (hq:zCI (k==0) (u.drop k)=(e,t,m)):
 Calls prog 75 #[.pointer (some g)] w fun ev w'=>∃v,ev=.returned (.tuple #[v,e])∧(e≠0→v=noV)∧(e=0→zX9 w' w.heap.size t v∧Mv w w' g A n c (k+m))∧w.grownBy w' (some g):=by
 subst hn;have hg:=hr.lt;have HA:=zA ha;have HQ:=zA hq;have a1:=zA (show SgS w (w.alloc (.cells zBP.toArray 78)) g A u.length c k from⟨⟨hr.alloc _,zG w _ _⟩,Blk.new w zBP 78⟩);have P:=hr.c0;have Q:=hr.c1;clear hq ha hr;go_enter func75,ntmps75;go_upto_region 1 with(fail)
 go_cut [4] (fun v wx=>v=.int .i64 ((min 4 (u.length - k):Nat):Int)∧Hid (SgS w wx g A u.length c k))
 case first=>
  go_region
  all_goals go_wp2_with fail
  all_goals go_meet
  all_goals first | exact⟨congrArg (Value.int .i64) jo,a1.out.drew hg⟩ | exact⟨congrArg (Value.int .i64) jo,a1⟩
 case rest=>
  obtain⟨hv,o⟩:=hcut;subst hv;clear P Q a1;go_wp2
  go_loopg [4] (min 4 (u.length - k)) (fun r v wr=>v=.int .i64 (r:Int)∧r≤4∧k+r≤u.length∧Hid (SgS w wr g A u.length c k)∧Hid (zBa (u.drop k) 4=zBa (u.drop k) r))
  case atStart=>exact⟨rfl,by omega,by omega,o,by have:=zKu (u.drop k);rwa[yAR]at this⟩
  case round=>
   obtain⟨rfl,h4,d0,o,H⟩:=hrel;have P:=o.out.mv.rd.c0;have Q:=o.out.mv.rd.c1;have a9:=o.out.mv.rd.f1;have C:=zA (HA.out.grown o.out.mv.grown hB (yAM hg))
   by_cases d1:0 < gk
   · obtain⟨j,rfl⟩:∃j,gk=j+1:=⟨gk - 1,by omega⟩;obtain⟨blk,off,hA,_,G⟩:=C.out.spotL jo;subst hA;clear G;have E:=C.out.cut16 (k:=k) jo hc;rw[jn]at E;have E:=E.take16 (k:=j+1) (by rw[yAR];omega);obtain⟨xs,R⟩:=jx ((u.drop k).take (j+1));have a2:xs.length=j+1:=by rw[←R,yBK,yAR];omega
     rw[R,a2]at E;have E:Reads wr B 1 (some ⟨blk,off+k,none⟩) (j+1) (zAC xs):=by
      have e:Option.map (fun x:Addr=>x.add k) (some ⟨blk,off,none⟩)=some ⟨blk,off+k,none⟩:=congrArg some (Addr.add_lit _ _ _);rw[←e];exact E
     obtain⟨sv,a3⟩:=jx (zGo xs);obtain⟨ok,X⟩:=jx (zCM xs);obtain⟨d,hd⟩:=jx (zBE 2 zJ (u.drop k));have b0:zAy (u.drop k) (j+1)=if(ok&& !(decide (asc xs=[63,46])&&d))=true then zCA (asc xs)else 0:=by
      rw[zQQ (by rw[yAR];omega),R,X,hd]
     have b1:ok=true→sv=⟨(asc xs).toArray⟩:=fun h=>by rw[←a3];exact zQR (by rw[X,h])
     have b6:=zA E;have b7:=zA a2;have b8:=zA R;have HP:=zA (And.intro a3 X);have HD:=zA hd;have Y:=zA b0;have b9:=zA b1;have c2:B≤wr.heap.size:=by have:=o.out.mv.grown.size;omega
     obtain⟨h,hh⟩:=jx (k+(j+1));have c3:IntKind.i64.wrap ((k:Int)+((j:Int)+1))=(h:Int):=by rw[IntKind.wrap_i64];omega
     have g1:0≤(h:Int):=by omega
     have g2:(h:Int)≤(c:Int):=by omega
     have g3:k≤h:=by omega
     have g4:¬c=k:=by omega
     have g5:h - k=j+1:=by omega
     have HH:=zA hh;clear hh;clear E a2 R a3 X hd b0 b1;go_upto_region 4 with(fail)
     go_cut [5,6] (fun v5 v6 wx=>v5=.string sv∧v6=.bool ok∧Hid (SgS w wx g (some ⟨blk,off,none⟩) u.length c k))
     case first=>
      have a4:=zA (o.out.mv.rd.drew);have b2:g < wr.drew.heap.size:=o.out.mv.rd.lt;go_region_held3 (fun w'=>w'.cell? g=some (.slice (some ⟨blk,off,none⟩) u.length c)∧w'.cell? ⟨g,1,none⟩=some (.int .i64 (k:Int)))
       (first | (exact⟨P,Q⟩) | (exact⟨(a4.out.below a5 b2).c0,(a4.out.below a5 b2).c1⟩) | go_keep)
       (first | (go_at_call 118;go_split_ands;refine(zQO (w:=wr.drew) c2 b7.out (by exact b6.out) jo HP.out.1 HP.out.2).mono ?_;rintro e4 w4 ⟨rfl,a5⟩))
      all_goals go_wp2_with fail
      all_goals go_meet
      all_goals exact⟨rfl,rfl,(o.out.drew hg).below hg a5⟩
     case rest=>
      obtain⟨h5,h6,s⟩:=hcut;subst h5 h6;clear P Q a9 c3 o C;have P:=s.out.mv.rd.c0;have Q:=s.out.mv.rd.c1;have a9:=s.out.mv.rd.f1;have C:=zA (HA.out.grown s.out.mv.grown hB (yAM hg));cases ok with
      | false=>
       have y:=zA (show zAy (u.drop k) (j+1)=0 by rw[Y.out];simp);go_wp2_with fail
       go_roundg j
       case measure=>omega
       case rel=>exact⟨congrArg (Value.int .i64) jo,by omega,by omega,s,H.out.trans (zFj y)⟩
      | true=>
       have N:=zA (b9.out rfl);obtain⟨I,a6⟩:=jx (zCA (asc xs));have a0:I=0∨I=1∨I=2:=by rw[←a6];exact zQS _
       have J:=zA a6;clear a6
       by_cases h0:I=0
       · subst h0;have y:=zA (show zAy (u.drop k) (j+1)=0 by rw[Y.out,J.out];simp);clear a0;go_wp2_with (go_at_call 119;refine(zD7 N.out J.out _).mono ?_;rintro e3 w3 ⟨rfl,rfl⟩)
         go_roundg j
         case measure=>omega
         case rel=>exact⟨congrArg (Value.int .i64) jo,by omega,by omega,s,H.out.trans (zFj y)⟩
       · have c4:((I:Int)==0)=false:=yA.2 jo
         by_cases F:asc xs=[63,46]
         · have h2:I=2:=by rw[←J.out,F];decide
           subst h2;have L:=zA (show zAy (u.drop k) (j+1)=if d=true then 0 else 2 by rw[Y.out,J.out,F];cases d<;>rfl);obtain rfl:sv=⟨#[63,46]⟩:=by rw[N.out,F]
           have d2:=zA F;clear F c4 h0 a0;have a7:=zA (show zCA [63,46]=2 by decide);cases d with
           | true=>
            have y:=zA (show zAy (u.drop k) (j+1)=0 by rw[L.out];rfl);go_wp2_with (go_at_call 119;refine(zD7 (l:=[63,46]) rfl a7.out _).mono ?_;rintro e3 w3 ⟨rfl,rfl⟩);refine(zAn (j:=2) s.out.mv.rd rfl C jo hl jo HD).mono ?_;rintro e4 w4 ⟨rfl,M,D⟩;subst D;go_wp2_with fail
            go_roundg j
            case measure=>omega
            case rel=>exact⟨congrArg (Value.int .i64) jo,by omega,by omega,s.out.drewN hg M,H.out.trans (zFj y)⟩
           | false=>
            have y:=zA (show zAy (u.drop k) (j+1)=2 by rw[L.out];rfl);go_wp2_with (go_at_call 119;refine(zD7 (l:=[63,46]) rfl a7.out _).mono ?_;rintro e3 w3 ⟨rfl,rfl⟩);refine(zAn (j:=2) s.out.mv.rd rfl C jo hl jo HD).mono ?_;rintro e4 w4 ⟨rfl,M,D⟩;subst D;have f:=zA (s.out.drewN hg M).zero;have:=f.out.nine;go_wp2_with (go_at_call 119;refine(zD7 (l:=[63,46]) rfl a7.out _).mono ?_;rintro e3 w3 ⟨rfl,rfl⟩);refine zAE f (.int .i64 6) ?_;obtain⟨z1,z2,z3⟩:=zMF H y HQ;subst z1;exact⟨_,rfl,fun _=>rfl,fun h=>absurd h jd,(zAD (s.out.drewN hg M).mv (yAC _) hg).grown⟩
         · have L:=zA (show zAy (u.drop k) (j+1)=I by rw[Y.out,J.out,yAI F];rfl);have d3:(sv.toList==[63,46])=false:=by rw[zPD,N.out];exact yAI F
           clear F;have f:=zA s.out.zero;have:=f.out.nine
           by_cases h2:I=2
           · subst h2;clear a0 h0;go_wp2_with (go_at_call 119;refine(zD7 N.out J.out _).mono ?_;rintro e3 w3 ⟨rfl,rfl⟩);refine zAE f (.int .i64 6) ?_;obtain⟨z1,z2,z3⟩:=zMF H L HQ;subst z1;exact⟨_,rfl,fun _=>rfl,fun h=>absurd h jd,(zAD s.out.mv (yAC _) hg).grown⟩
           · obtain rfl:I=1:=by omega
             clear a0 h0 h2;have b3:=zA (Mv.step s.out.mv (k':=k+(j+1)) (z:=(k:Int)+((j:Int)+1)) jo);go_wp2_with (go_at_call 119;refine(zD7 N.out J.out _).mono ?_;rintro e3 w3 ⟨rfl,rfl⟩);have b5:=zA (f.out.setOther (S:=g) (i:=1) jo (.int .i64 ((k:Int)+((j:Int)+1))));refine zAE b5 (.int .i64 0) ?_;obtain⟨z1,z2,z3⟩:=zWy H L HQ;subst z1 z2 z3;exact⟨_,rfl,fun h=>absurd rfl h,fun _=>⟨⟨_,_,by rw[N.out,b8.out];rfl,yAJ _ _ _ _,yAJ _ _ _ _⟩,zAD b3 (yAC _) hg⟩,(zAD b3 (yAC _) hg).grown⟩
   · have c5:=zA (show zBa (u.drop k) 4=none by rw[H.out,show gk=0 by omega];rfl);obtain⟨blk,off,rfl,_,G⟩:=C.out.spotL jo;have c6:=G k hk;have HX:=zA (fun p=>zQF (q:=p) hk);obtain⟨x,hx⟩:=jx (u[k]);rw[hx]at c6 HX;have W:=zA (zQT c5 HQ);rw[HX.out]at W;clear G hx;have c9:=x.toNat_lt
     by_cases a8:128≤x.toNat
     · have e0:((x.toNat:Int)≥128):=by omega
       have y:=zA (show 6=e by rw[←W.out];simp[a8]);go_wp2_with fail
       go_quiet (fail)
       have f:=zA (o.out.drewN hg nq).zero;have:=f.out.nine;go_wp2;refine zAE f (.int .i64 6) ?_;obtain rfl:=y.out;exact⟨_,rfl,fun _=>rfl,fun h=>absurd h jd,(zAD (o.out.drewN hg nq).mv (yAC _) hg).grown⟩
     · by_cases O:x.toNat=96
       · have e1:((x.toNat:Int)==96)=true:=by rw[O];rfl
         have c7:=zA O;clear O;have y:=zA (show 6=e by rw[←W.out];simp[c7.out]);go_wp2_with fail
         go_quiet (fail)
         have f:=zA (o.out.drewN hg nq).zero;have:=f.out.nine;go_wp2;refine zAE f (.int .i64 6) ?_;obtain rfl:=y.out;exact⟨_,rfl,fun _=>rfl,fun h=>absurd h jd,(zAD (o.out.drewN hg nq).mv (yAC _) hg).grown⟩
       · have e1:((x.toNat:Int)==96)=false:=yA.2 jo
         by_cases T:x.toNat=92
         · have e2:((x.toNat:Int)==92)=true:=by rw[T];rfl
           have c8:=zA T;clear T O;have y:=zA (show 6=e by rw[←W.out];simp[c8.out]);go_wp2_with fail
           go_quiet (fail)
           have f:=zA (o.out.drewN hg nq).zero;have:=f.out.nine;go_wp2;refine zAE f (.int .i64 6) ?_;obtain rfl:=y.out;exact⟨_,rfl,fun _=>rfl,fun h=>absurd h jd,(zAD (o.out.drewN hg nq).mv (yAC _) hg).grown⟩
         · have e2:((x.toNat:Int)==92)=false:=yA.2 jo;have b4:=zA (And.intro a8 (And.intro O T));clear O T
           by_cases U:k=0
           · have e3:((k:Int)==0)=true:=by rw[U];rfl
             have HK:=zA (show(k==0)=true by rw[U];rfl);clear U;obtain⟨b,hb⟩:=jx (zg [35,33] (u.drop k));have HB:=zA hb;clear hb;cases b with
             | true=>
              have y:=zA (show 6=e by rw[←W.out];rw[HB.out,HK.out];simp);go_wp2_with fail
              go_quiet (fail)
              go_wp2_with fail;refine(zAo ⟨#[35,33]⟩ (o.out.drewN hg nq).mv.rd rfl (C.out.drewN _) (yAM hk) hl jd HB).mono ?_;rintro e4 w4 ⟨rfl,M,D⟩;have V:=zA (show SgS w w4 g (some ⟨blk,off,none⟩) u.length c k by rw[D];exact(o.out.drewN hg nq).drewN hg M);clear D M;have f:=zA V.out.zero;have:=f.out.nine;go_wp2;refine zAE f (.int .i64 6) ?_;obtain rfl:=y.out;exact⟨_,rfl,fun _=>rfl,fun h=>absurd h jd,(zAD V.out.mv (yAC _) hg).grown⟩
             | false=>
              have y:=zA (show 5=e by rw[←W.out];have:=b4.out;rw[HB.out,HK.out];simp[this]);go_wp2_with fail
              go_quiet (fail)
              go_wp2_with fail;refine(zAo ⟨#[35,33]⟩ (o.out.drewN hg nq).mv.rd rfl (C.out.drewN _) (yAM hk) hl jd HB).mono ?_;rintro e4 w4 ⟨rfl,M,D⟩;have V:=zA (show SgS w w4 g (some ⟨blk,off,none⟩) u.length c k by rw[D];exact(o.out.drewN hg nq).drewN hg M);clear D M;have f:=zA V.out.zero;have:=f.out.nine;go_wp2;refine zAE f (.int .i64 5) ?_;obtain rfl:=y.out;exact⟨_,rfl,fun _=>rfl,fun h=>absurd h jd,(zAD V.out.mv (yAC _) hg).grown⟩
           · have e3:((k:Int)==0)=false:=yA.2 jo;have HK:=zA (show(k==0)=false from yA.2 U);clear U;have y:=zA (show 5=e by rw[←W.out];have:=b4.out;simp[HK.out,this]);go_wp2_with fail
             go_quiet (fail)
             have f:=zA (o.out.drewN hg nq).zero;have:=f.out.nine;go_wp2;refine zAE f (.int .i64 5) ?_;obtain rfl:=y.out;exact⟨_,rfl,fun _=>rfl,fun h=>absurd h jd,(zAD (o.out.drewN hg nq).mv (yAC _) hg).grown⟩
theorem zIV (x:UInt16) (Z:Nat) (zero:Bool) (w:World) (p:w.cell? Z=some (.bool zero)):Calls prog 138 #[.int .u16 (x.toNat:Int),.pointer (some Z)] w fun e w'=>e=.returned (zy zero x)∧w=w':=by
 by_cases c:x.toNat=46
 · have e0:((x.toNat:Int)==46)=true:=by rw[c];rfl
   have b:=zA (show zy zero x=true by unfold zy;rw[c];cases zero<;>rfl);clear c;go_enter func138,ntmps138;go_wp2;go_ret;exact⟨zF b.out.symm,rfl⟩
 have e0:((x.toNat:Int)==46)=false:=yA.2 jo
 by_cases h1:x.toNat=101
 · have e1:((x.toNat:Int)==101)=true:=by rw[h1];rfl
   have b:=zA (show zy zero x=true by unfold zy;rw[h1];cases zero<;>rfl);clear h1;go_enter func138,ntmps138;go_wp2;go_ret;exact⟨zF b.out.symm,rfl⟩
 have e1:((x.toNat:Int)==101)=false:=yA.2 jo
 by_cases d:x.toNat=69
 · have e2:((x.toNat:Int)==69)=true:=by rw[d];rfl
   have b:=zA (show zy zero x=true by unfold zy;rw[d];cases zero<;>rfl);clear d;go_enter func138,ntmps138;go_wp2;go_ret;exact⟨zF b.out.symm,rfl⟩
 have e2:((x.toNat:Int)==69)=false:=yA.2 jo
 by_cases f:x.toNat=95
 · have e3:((x.toNat:Int)==95)=true:=by rw[f];rfl
   have b:=zA (show zy zero x=true by unfold zy;rw[f];cases zero<;>rfl);clear f;go_enter func138,ntmps138;go_wp2;go_ret;exact⟨zF b.out.symm,rfl⟩
 have e3:((x.toNat:Int)==95)=false:=yA.2 jo
 by_cases g:x.toNat=120
 · have e4:((x.toNat:Int)==120)=true:=by rw[g];rfl
   have b:=zA (show zy zero x=zero by unfold zy;rw[g];cases zero<;>rfl);clear g;go_enter func138,ntmps138;go_wp2;go_ret;exact⟨zF b.out.symm,rfl⟩
 have e4:((x.toNat:Int)==120)=false:=yA.2 jo
 by_cases j:x.toNat=88
 · have e5:((x.toNat:Int)==88)=true:=by rw[j];rfl
   have b:=zA (show zy zero x=zero by unfold zy;rw[j];cases zero<;>rfl);clear j;go_enter func138,ntmps138;go_wp2;go_ret;exact⟨zF b.out.symm,rfl⟩
 have e5:((x.toNat:Int)==88)=false:=yA.2 jo
 by_cases h6:x.toNat=111
 · have e6:((x.toNat:Int)==111)=true:=by rw[h6];rfl
   have b:=zA (show zy zero x=zero by unfold zy;rw[h6];cases zero<;>rfl);clear h6;go_enter func138,ntmps138;go_wp2;go_ret;exact⟨zF b.out.symm,rfl⟩
 have e6:((x.toNat:Int)==111)=false:=yA.2 jo
 by_cases k:x.toNat=79
 · have e7:((x.toNat:Int)==79)=true:=by rw[k];rfl
   have b:=zA (show zy zero x=zero by unfold zy;rw[k];cases zero<;>rfl);clear k;go_enter func138,ntmps138;go_wp2;go_ret;exact⟨zF b.out.symm,rfl⟩
 have e7:((x.toNat:Int)==79)=false:=yA.2 jo
 by_cases l:x.toNat=98
 · have e8:((x.toNat:Int)==98)=true:=by rw[l];rfl
   have b:=zA (show zy zero x=zero by unfold zy;rw[l];cases zero<;>rfl);clear l;go_enter func138,ntmps138;go_wp2;go_ret;exact⟨zF b.out.symm,rfl⟩
 have e8:((x.toNat:Int)==98)=false:=yA.2 jo
 by_cases m:x.toNat=66
 · have o:((x.toNat:Int)==66)=true:=by rw[m];rfl
   have b:=zA (show zy zero x=zero by unfold zy;rw[m];cases zero<;>rfl);clear m;go_enter func138,ntmps138;go_wp2;go_ret;exact⟨zF b.out.symm,rfl⟩
 have o:((x.toNat:Int)==66)=false:=yA.2 jo;have b:=zA (show zy zero x=false by
  unfold zy;rw[show(x.toNat==46)=false from yA.2 c,show(x.toNat==101)=false from yA.2 h1,show(x.toNat==69)=false from yA.2 d,show(x.toNat==95)=false from yA.2 f,show(x.toNat==120)=false from yA.2 g,show(x.toNat==88)=false from yA.2 j,show(x.toNat==111)=false from yA.2 h6,show(x.toNat==79)=false from yA.2 k,show(x.toNat==98)=false from yA.2 l,show(x.toNat==66)=false from yA.2 m];cases zero<;>rfl)
 clear c h1 d f g j h6 k l m;go_enter func138,ntmps138;go_wp2;go_ret;exact⟨zF b.out.symm,rfl⟩
theorem zKv {g Z:Nat} {w:World} (s:w.cell? Z=some (.bool zero)) (o:Rd w g A n c k) (y:u.length=n) (z:Reads w B 1 A n (zAC u)) (hk:k≤n) (G:n≤4096) (H:j≤4096) {q:Bool} (p:zBE j (zy zero) (u.drop k)=q):
 Calls prog 74 #[.pointer (some g),j,.func (.func 138) #[] #[.pointer (some Z)]] w fun e w'=>e=.returned q∧∃m,w'=w.drewN m:=by
 subst y;have E:=o.c0;have F:=o.c1
 by_cases d:k+j < u.length
 · have l:(k:Int)+(j:Int) < (u.length:Int):=by omega
   have r:=zA (show zy zero u[k+j]=q by rw[←p,zDp d]);obtain⟨b,off,rfl,_,f⟩:=z.spotL jo;have t:=f (k+j) d;obtain⟨x,v⟩:=jx (u[k+j]);rw[v]at t r;have C:=zA s;clear f p v o s;go_enter func74,ntmps74;go_wp2_with fail
   go_quiet (first | (go_at_call 138;refine Calls.quiet_of_same ((zIV _ _ _ _ (by exact C.out)).mono fun _ _ h=>zDq h)))
   go_wp2;go_ret;exact⟨zF r,_,rfl⟩
 · have l:¬(k:Int)+(j:Int) < (u.length:Int):=by omega
   have D:decide ((k:Int)+(j:Int) < (u.length:Int))=false:=yAI l;have r:=zA (show false=q by rw[←p,zDN d]);clear d p o;go_enter func74,ntmps74;go_wp2_with fail
   go_quiet (fail)
   go_wp2;go_ret;exact⟨zF r,_,rfl⟩
theorem zJd {g:Nat} {w:World} (b:Rd w g A n c k) (o:u.length=n) (d:Reads w B 1 A n (zAC u)) (hB:B≤g) (hk:k≤n) (p:n≤4096) {q:Bool} (f:zBE 0 (zy zero) (u.drop k)=q):
 Calls prog 115 #[.pointer (some g),zero] w fun e w'=>e=.returned q∧jY w w':=by
 have r:=zA (b.alloc (.cells #[zero] 4));have hg:=b.lt;have s:=zA (d.alloc (yAD hB (yAM hg)) (.cells #[zero] 4));have t:=zA (show(w.alloc (.cells #[zero] 4)).cell? w.heap.size=some (.bool zero) by go_simp);have v:=zA f;clear b d f;go_enter func115,ntmps115;go_wp2_with fail;refine(zKv (j:=0) t r o s hk p jo v).mono ?_;rintro e1 w1 ⟨rfl,m,l⟩;have hb:jY w w1:=by rw[l];exact zv ((Below.refl _ w).alloc (yAC _) _) m
 clear l;go_wp2;go_ret;exact⟨rfl,hb⟩
end Go.Proofs.YtjlfhidpmdgloaaGreatDoor
