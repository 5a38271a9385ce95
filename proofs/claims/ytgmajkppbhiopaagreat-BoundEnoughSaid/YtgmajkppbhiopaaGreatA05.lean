/- No condition. -/
import Derived.Test.YtgmajkppbhiopaaGreatA00
import Derived.Test.YtgmajkppbhiopaaGreatA04
import Derived.Test.YtgmajkppbhiopaaGreatA02
import Derived.WalkSpells
import Derived.Test.YtgmajkppbhiopaaGreatA01
import Derived.Test.YtgmajkppbhiopaaGreatProg
import Derived.BigQuiet
import Derived.Deep.QuietTactic
import Derived.Deep.RegionHeld3
import Derived.IntWalk
set_option linter.unusedSimpArgs false
set_option linter.unusedVariables false
set_option maxRecDepth 100000
set_option maxHeartbeats 4000000
namespace Go.Proofs.YtgmajkppbhiopaaGreat
open Go.RowKit
theorem mt {α β:Type} {g:α→List β} {n:Nat} (hn:∀a,(g a).length=n):∀{l:List α} {i:Nat} {a:α},l[i]?=some a→∀f,f<n→(l.flatMap g)[i*n+f]?=(g a)[f]?
 | [],_,_,h,_,_=>by simp at h
 | x::l,0,a,h,f,hf=>by
  simp only [Fl,Option.some.injEq] at h
  subst h
  rw [List.flatMap_cons,Nat.zero_mul,FI,Ft (by rw [hn];exact hf)]
 | x::l,i+1,a,h,f,hf=>by
  simp only [Fk] at h
  rw [List.flatMap_cons,Fu (by rw [hn,FG];omega),hn,show (i+1)*n+f-n=i*n+f by rw [FG];omega]
  exact mt hn h f hf
theorem Dv (a:Acn):(aE a).length=9:=rfl
theorem sZ {w:World} {base n g c:Nat} {l:List Acn} {e:TypeId} (h:w.ownsRow base e 9 (.slice (some ⟨g,0,none⟩) n c) n (cR l)) {i:Nat} {a:Acn} (o:l[i]?=some a) (hl:l.length=n):
  ∀f,f<9→w.cell? ⟨g,i*9+f,none⟩=(aE a)[f]?:=fun f u=>by
 have y:i<l.length:=(Fq.1 o).1
 have x:=h.1
 have v:=mt Dv o f u
 rw [h.cellAt _ (by omega),cR,v]
theorem zE {b:Rg} {k:Nat} {M:Nat} (h:1≤k) (o:b.1≤b.2) (hb:b.2≤M):∀r∈cG b k,r.2≤M:=by
 intro r hr
 simp only [cG,shR,eh,List.map_map,List.mem_map,List.mem_range,Function.comp] at hr
 obtain ⟨i,u,rfl⟩:=hr
 have c:=eT (b.2-b.1) k (i+1) h (by omega)
 simp only
 omega
theorem nQ (n c:Nat):bT n c≤n:=by
 unfold bT
 split
 ·omega
 ·have:=Nat.div_le_self (n-1) c
  omega
theorem nU {b:Rg} {W c s M:Nat} (u:1≤W) (o:b.1≤b.2) (hb:b.2≤M):(chR (ay (cG b W) s) c).length≤M:=by
 rw [kD]
 have h:=nQ ((ay (cG b W) s).2-(ay (cG b W) s).1) c
 rcases Fa s (cG b W).length with i | i
 ·have:=zE u o hb _ (List.getElem_mem i)
  rw [←bq _ _ i] at this
  omega
 ·have:ay (cG b W) s=(0,0):=by simp [ay,List.getD,i]
  rw [this] at h ⊢
  exact ES h (EQ _)
theorem xo {st bk:Nat} {b:Rg} {W c w ph r M:Nat} (i:1≤W) (h:b.1≤b.2) (hb:b.2≤M):(bH st bk b W c w ph r).length≤2*M:=by
 rw [fZ]
 have o:=nU (c:=c) (s:=cU W w ph r) i h hb
 have u:=nU (c:=c) (s:=dV W w ph r) i h hb
 omega
def eA (p:Pln) (w st k lo:Nat) (n:Nat):List Itm:=(List.range' lo n).flatMap fun j=>aN p w st (k/(p.W-1)) (k%(p.W-1)) j
def aX (p:Pln) (w st:Nat) (g:Rg) (k:Nat):List Itm:=(List.range k).flatMap fun k=>eA p w st k g.1 (g.2-g.1)
theorem jX (p:Pln) (w st k lo n:Nat):eA p w st k lo (n+1)=eA p w st k lo n++aN p w st (k/(p.W-1)) (k%(p.W-1)) (lo+n):=by
 simp [eA,List.range'_concat]
theorem eJ (p:Pln) (w st:Nat) (g:Rg) (k:Nat):aX p w st g (k+1)=aX p w st g k++eA p w st k g.1 (g.2-g.1):=by
 simp [aX,FF]
theorem nu {p:Pln} {w st k lo n M:Nat} (h:∀ph r j,(aN p w st ph r j).length≤M):(eA p w st k lo n).length≤n*M:=by
 induction n with
 | zero=>simp [eA]
 | succ n ih=>rw [jX,Fp,FG];have:=h (k/(p.W-1)) (k%(p.W-1)) (lo+n);omega
theorem fY {p:Pln} {w st k M:Nat} {g:Rg} (h:∀ph r j,(aN p w st ph r j).length≤M):(aX p w st g k).length≤k*((g.2-g.1)*M):=by
 induction k with
 | zero=>simp [aX]
 | succ k ih=>rw [eJ,Fp,FG];have:=nu (w:=w) (st:=st) (k:=k) (lo:=g.1) (n:=g.2-g.1) h;omega
theorem mY {p:Pln} {w st k lo n m:Nat} (hm:p.W-1=m) {ph r:Nat} (h:k/m=ph) (i:k%m=r):eA p w st k lo n=(List.range' lo n).flatMap fun j=>aN p w st ph r j:=by
 unfold eA
 rw [hm,h,i]
theorem lV (p:Pln) (w st:Nat) (g:Rg):aX p w st g (2*(p.W-1))=(List.range 2).flatMap fun ph=>(List.range (p.W-1)).flatMap fun r=>(List.range' g.1 (g.2-g.1)).flatMap fun j=>aN p w st ph r j:=by
 obtain ⟨m,hm⟩:∃m,p.W-1=m:=⟨_,rfl⟩
 obtain ⟨F,v⟩:∃F:Nat→Nat→List Itm,(fun ph r=>(List.range' g.1 (g.2-g.1)).flatMap fun j=>aN p w st ph r j)=F:=⟨_,rfl⟩
 have h:∀ph r,((List.range' g.1 (g.2-g.1)).flatMap fun j=>aN p w st ph r j)=F ph r:=fun ph r=>by rw [←v]
 have u:∀k,k≤m→aX p w st g k=(List.range k).flatMap (F 0):=by
  intro k
  induction k with
  | zero=>intro _;rfl
  | succ k ih=>
   intro hk
   have e:=mY (w:=w) (st:=st) (lo:=g.1) (n:=g.2-g.1) hm (Nat.div_eq_of_lt (show k<m by omega)) (Nat.mod_eq_of_lt (show k<m by omega))
   rw [eJ,ih (by omega),e,h,FF,List.flatMap_append]
   simp only [List.flatMap_cons,List.flatMap_nil,List.append_nil]
 have o:∀k,k≤m→aX p w st g (m+k)=aX p w st g m++(List.range k).flatMap (F 1):=by
  intro k
  induction k with
  | zero=>intro _;simp only [Nat.add_zero,List.range_zero,List.flatMap_nil,List.append_nil]
  | succ k ih=>
   intro hk
   have d:(m+k)/m=1:=by rw [Nat.add_div_left k (by omega),Nat.div_eq_of_lt (by omega)]
   have i:(m+k)%m=k:=by rw [Nat.add_mod_left,Nat.mod_eq_of_lt (by omega)]
   have e:=mY (w:=w) (st:=st) (lo:=g.1) (n:=g.2-g.1) hm d i
   rw [←FH,eJ,ih (by omega),e,h,FF,List.flatMap_append,Fw]
   simp only [List.flatMap_cons,List.flatMap_nil,List.append_nil]
 simp only [h]
 rw [hm,show 2*m=m+m by omega,o m (EM _),u m (EM _)]
 show _=List.flatMap (fun ph=>(List.range m).flatMap (F ph)) [0,1]
 simp only [List.flatMap_cons,List.flatMap_nil,List.append_nil]
structure aT (p:Pln):Prop where
 W1:1≤p.W
 W8:p.W≤8
 mi:p.mi≤20
 n:p.n≤60
 bu:1≤p.bu
 ck:1≤p.ck
 ck2:p.ck≤1048576
 wi:1≤p.wi
theorem wh {n s:Nat}:∀r∈j0 n s,r.1≤r.2∧r.2≤n:=by
 intro r hr
 simp only [j0,List.mem_reverse,dA,List.mem_map,List.mem_range] at hr
 obtain ⟨i,h,rfl⟩:=hr
 have:=ft h
 exact ⟨by simp only;omega,by simp only;omega⟩
theorem aT.buks {p:Pln} (h:aT p):p.buks.length≤60:=by
 have:=nQ p.n p.bu
 have:=h.n
 rw [Pln.buks,jn];omega
theorem aT.buk {p:Pln} (h:aT p) (j:Nat):(ay p.buks j).1≤(ay p.buks j).2∧(ay p.buks j).2≤60:=by
 rcases Fa j p.buks.length with i | i
 ·have:=wh _ (List.getElem_mem i)
  rw [←bq _ _ i] at this
  have hn:=h.n
  exact ⟨this.1,by omega⟩
 ·have:ay p.buks j=(0,0):=by simp [ay,List.getD,i]
  rw [this];simp
theorem aT.round {p:Pln} (h:aT p) (w st ph r j:Nat):(aN p w st ph r j).length≤120:=by
 unfold aN
 rw [List.length_map]
 exact xo h.W1 (h.buk j).1 (h.buk j).2
theorem tQ (p:Pln) (L base st x:Nat) (lo A:Nat) (a0 a1 a2 a3 a5 a6 a7 a8 b0 b4 b6:Value) (BA:Option Addr) (bc:Nat) (v:Value) (l:List Itm) (w:World)
  (hp:aT p) (hl:ep w L base st v l) (hb:base≤w.heap.size) (cr:Rd w BA (az p.buks)) (cl:∀y,BA=some y→y.block<base)
  (hL:base≤L) (hx:x<p.W) (hg:A≤p.buks.length) (ej:l.length≤8000000):
  Calls Tryz.prog 161 #[.agg #[a0,a1,a2,a3,FQ (p.W:Nat),a5,a6,a7,a8,FQ (p.ck:Nat),b0,b4,.slice BA p.buks.length bc,b6],.pointer (some ⟨L,0,none⟩),FQ x,.agg #[FQ (lo:Nat),FQ (A:Nat)]] w fun e o=>e=.returned (.tuple #[])∧
   ∃v',ep o L base st v' (l++aX p x st (lo,A) (2*(p.W-1)))∧Apd L w v o v':=by
 obtain ⟨B,R⟩:∃B,(w.alloc (.cells #[a0,a1,a2,a3,FQ (p.W:Nat),a5,a6,a7,a8,FQ (p.ck:Nat),b0,b4,.slice BA p.buks.length bc,b6] 225)).alloc (.cells #[FQ (lo:Nat),FQ (A:Nat)] 148)=B:=⟨_,rfl⟩
 have g0:B.heap[w.heap.size]?=some (.cells #[a0,a1,a2,a3,FQ (p.W:Nat),a5,a6,a7,a8,FQ (p.ck:Nat),b0,b4,.slice BA p.buks.length bc,b6] 225 (0,0)):=by
  rw [←R,E0 _ _ _ (by simp)];exact EN w _
 have g1:B.heap[w.heap.size+1]?=some (.cells #[FQ (lo:Nat),FQ (A:Nat)] 148 (0,0)):=by
  rw [←R];have:=EN (w.alloc (.cells #[a0,a1,a2,a3,FQ (p.W:Nat),a5,a6,a7,a8,FQ (p.ck:Nat),b0,b4,.slice BA p.buks.length bc,b6] 225)) (.cells #[FQ (lo:Nat),FQ (A:Nat)] 148);simpa using this
 have b5:Below w.heap.size w B:=by rw [←R];exact ((br w).alloc (EM _) _).alloc (by simp) _
 have I:=hl.below b5
 have dG:=EL I.1
 have d8:=EL hl.1
 have kS:=fun o (q:Keep (fun j=>j=L∨v.ownBlock=some j) B o)=>(q.block _ (EL g0) (fun e=>e.elim (fun h=>by omega) (fun h=>an g0 (by decide) I.2 h.symm))).trans g0
 have kG:=fun o (q:Keep (fun j=>j=L∨v.ownBlock=some j) B o)=>(q.block _ (EL g1) (fun e=>e.elim (fun h=>by omega) (fun h=>an g1 (by decide) I.2 h.symm))).trans g1
 have b9:Rd B BA (az p.buks):=cr.below b5
 have kB:=fun o (q:Keep (fun j=>j=L∨v.ownBlock=some j) B o)=>q.rd b9 (fun y hy=>by
  have:=cl y hy
  rintro (h | h)
  ·omega
  ·have:=(hl.2.lt _ h).1;omega)
 have cb:=fun j=>hp.buk j
 have hrl:=fun ph r j=>hp.round x st ph r j
 obtain ⟨m,hm⟩:∃m,p.W-1=m:=⟨_,rfl⟩
 have dp:=hp.W1;have ei:=hp.W8;have d7:=hp.ck;have cs:=hp.ck2;have el:=hp.buks
 have ek:(p.W:Int)-1=(m:Int):=by omega
 obtain ⟨T,hT⟩:∃T,2*m=T:=⟨_,rfl⟩
 have ec:(2:Int)*(m:Int)=(T:Int):=by omega
 have ef:IntKind.i64.wrap (m:Int)=m:=ER _ (by omega)
 have ea:IntKind.i64.wrap (T:Int)=T:=ER _ (by omega)
 rw [hm,hT]
 obtain ⟨dT,cj,d6,HS,HG,HB,dk,bw⟩:=aj R b5 I kS kG kB cb hrl;obtain ⟨Hm,HT⟩:=ab hm hT
 have tS:=fun o (q:Below B.heap.size B o)=>B7 (kS o (Keep.below q))
 have q0:=br B
 clear R g0 g1 b5 I hl cr b9 kS kG kB cb hrl hm hT hp dG d8 cl
 go_enter Tryz.func161,Tryz.ntmps161
 go_wp2_with fail
 rw [dT.out]
 clear tS q0
 go_loopw [19] (fun y wr=>∃k:Nat,k≤T∧y=FQ k∧∃v',ep wr L base st v' (l++aX p x st (lo,A) k)∧Apd L B v wr v') (fun y _=>T-(intOf y).toNat)
 case atStart=>exact ⟨0,EQ _,rfl,v,by simpa [aX] using d6.out,Apd.refl _ _ _⟩
 case round=>
  obtain ⟨k,hk,rfl,v1,b3,A1⟩:=hrel
  by_cases e9:k<T
  ·have da:(k:Int)<T:=by omega
   have bX:0<m:=by have:=HT.out;omega
   have e7:IntKind.i64.wrap ((k:Int)+1)=((k+1:Nat):Int):=by rw [ER _ (by omega)];push_cast;rfl
   obtain ⟨wq,rfl⟩:∃wq:World,wq=wr:=⟨_,rfl⟩
   have uG:=fun o (q:Below wq.heap.size wq o)=>bx2 (sb (HG.out wq A1.1) o q)
   have q1:=br wq
   obtain ⟨bi,bh⟩:=ab b3 A1;clear b3 A1
   go_wp2_with fail
   clear uG q1
   go_loopw [9] (fun y wr=>∃j:Nat,lo≤j∧(j≤A∨j=lo)∧y=FQ j∧∃v2,ep wr L base st v2 (l++aX p x st (lo,A) k++eA p x st k lo (j-lo))∧Apd L B v wr v2) (fun y _=>A-(intOf y).toNat)
   case atStart=>exact ⟨lo,EM _,.inr rfl,rfl,v1,by simpa [eA] using bi.out,bh.out⟩
   case round=>
    obtain ⟨j,hj,em,rfl,v2,C,A2⟩:=hrel
    have uG:=fun o (q:Below wr.heap.size wr o)=>bx2 (sb (HG.out wr A2.1) o q)
    by_cases e5:j<A
    ·have dv:(j:Int)<A:=by omega
     obtain ⟨u,rfl⟩:∃u:World,u=wr:=⟨_,rfl⟩
     have dr:j<p.buks.length:=by omega
     have e3:(j:Int)<p.buks.length:=by omega
     have bd:=dm dr
     obtain ⟨bb,bo,rfl,bv⟩:=HB.out u A2.1 _ _ bd.1
     obtain ⟨d4,e0,e',a4⟩:=HB.out u A2.1 _ _ bd.2
     obtain ⟨rfl,rfl⟩:d4=bb∧e0=bo:=by simpa using e'.symm
     rw [←FH] at a4
     have cd:=dk.out j
     obtain ⟨b1,bz⟩:∃b1,(ay p.buks j).1=b1:=⟨_,rfl⟩
     obtain ⟨b2,bl⟩:∃b2,(ay p.buks j).2=b2:=⟨_,rfl⟩
     rw [bz] at bv cd
     rw [bl] at a4 cd
     have d0:=fun o (q:Below u.heap.size u o)=>am q bv
     have d1:=fun o (q:Below u.heap.size u o)=>am q a4
     have uS:=fun o (q:Below u.heap.size u o)=>B7 (sb (HS.out u A2.1) o q)
     have uL:=fun o (q:Below u.heap.size u o)=>bx2 (sb C.1 o q)
     obtain ⟨D,Q,d9,dw⟩:=af C A2 bz bl
     have q1:=br u
     clear C A2 bz bl bd e' bv a4
     go_wp2_with fail
     refine XA.g 18 (fun o:World=>Below u.heap.size u o) ?_
     refine XA.t ?_ [0,1,2,3,4,5,6,7,8,9,10,11,12,13,14,15,16] q1.drew ?_
     refine XA.v 17 (u.drew.alloc (.cells FW 296)) (.pointer (some ⟨u.heap.size,0,none⟩)) (q1.drew.alloc (EM _) _) ?_
     refine XA.e ?_
     simp only [Fm,Fo]
     have dc:=EL (HG.out u Q.out.1)
     go_wp2_with fail
     obtain ⟨H,O⟩:∃H,(u.alloc (.cells #[FQ (st:Nat),FQ (j:Nat),FQ (b1:Nat),FQ (b2:Nat),FQ (p.W:Nat),FQ (p.ck:Nat)] 296)).drew=H:=⟨_,rfl⟩
     have h7:H.heap[u.heap.size]?=some (.cells #[FQ (st:Nat),FQ (j:Nat),FQ (b1:Nat),FQ (b2:Nat),FQ (p.W:Nat),FQ (p.ck:Nat)] 296 (0,0)):=by rw [←O];exact EN u _
     have k7:Below u.heap.size u H:=by rw [←O];exact (q1.alloc (EM _) _).drew
     rw [O]
     have t7:=fun o (q:Below H.heap.size H o)=>bx6 (sb h7 o q)
     have t8:=fun o (q:Below H.heap.size H o)=>uS o (bt k7 q)
     have co:(k:Int).tdiv (m:Int)=((k/m:Nat):Int):=rfl
     have cc:(k:Int)/(m:Int)=((k/m:Nat):Int):=rfl
     have bO:(k:Int).tmod (m:Int)=((k%m:Nat):Int):=rfl
     have bI:(k:Int)%(m:Int)=((k%m:Nat):Int):=rfl
     have eb:¬(m=0):=by omega
     have bs:k/m<2:=by rw [Nat.div_lt_iff_lt_mul bX];have:=HT.out;omega
     have d2:k%m<m:=Nat.mod_lt _ bX
     have e8:aN p x st (k/(p.W-1)) (k%(p.W-1)) j=(bH st j (b1,b2) p.W p.ck x (k/m) (k%m)).map (eO st):=by
      unfold aN
      rw [Hm.out,←d9.out,←dw.out]
     have hrl:=bw.out (k/(p.W-1)) (k%(p.W-1)) j
     rw [e8,List.length_map] at hrl
     obtain ⟨ph,V⟩:∃q,k/m=q:=⟨_,rfl⟩
     obtain ⟨r,bn⟩:∃q,k%m=q:=⟨_,rfl⟩
     rw [V] at co cc bs
     rw [bn] at bO bI d2
     rw [V,bn] at e8 hrl
     have d5:IntKind.i64.wrap (ph:Int)=ph:=ER _ (by omega)
     obtain ⟨H7,K7,E8,Z⟩:=af O k7 e8 hrl
     have q7:=br H
     clear O h7 k7 uS uL uG d0 d1 q1 V bn e8 hrl dc
     refine HA.g (fun o:World=>Below H.heap.size H o) ?_
     refine HA.t ?_ [0,1,2,3,4,5,6,7,8,9,10,11,12,13,16] q7.drew ?_
     refine HA.c 14 (xn st j b1 b2 p.W p.ck x ph r _ dp (by omega) hx bs (by have:=Hm.out;omega) (by omega) (by omega) d7 cs) ?_
     rintro e w8 ⟨v8,rfl,o8,k8⟩
     have q8:=bt q7.drew k8
     refine ⟨_,rfl,q8,fun _=>?_⟩
     obtain ⟨A8,c8,rfl,_⟩:=av o8
     refine HA.t ?_ [15] q8 ?_
     refine HA.d ?_
     simp only [Exit.then]
     obtain ⟨X,hX⟩:∃X,bH st j (b1,b2) p.W p.ck x ph r=X:=⟨_,rfl⟩
     rw [hX] at E8 Z o8 ⊢
     obtain ⟨N,hN⟩:∃N,X.length=N:=⟨_,rfl⟩
     rw [hN] at Z o8 ⊢
     have l8:=(D.out.below K7.out).below q8
     have bM:Apd L B v w8 v2:=Q.out.trans (Apd.below (bt K7.out q8))
     have ct:=fun o (q:Keep (fun j=>j=L∨v2.ownBlock=some j) w8 o)=>q.own o8 (fun k hk e=>by
      have h1:=(o8.lt k hk).1
      have h2:=EL D.out.1
      have h3:=K7.out.size
      rcases e with e | e
      ·have h4:H.heap.size≤k:=h1
       omega
      ·have h5:k<u.heap.size:=(D.out.2.lt k e).2
       have h4:H.heap.size≤k:=h1
       omega)
     obtain ⟨L8,bG,dn,HN⟩:=af l8 bM ct hN;clear o8 l8 bM ct k8 q8 q7 t7 t8 hX hN co cc bO bI d5 d2 bs D Q H7
     go_wp2_with fail
     go_loopw [63] (fun y wr=>∃i:Nat,i≤N∧y=FQ i∧∃v3,ep wr L base st v3 (l++aX p x st (lo,A) k++eA p x st k lo (j-lo)++(X.take i).map (eO st))∧Apd L w8 v2 wr v3) (fun y _=>N-(intOf y).toNat)
     case atStart=>exact ⟨0,EQ _,rfl,v2,by simpa using L8.out,Apd.refl _ _ _⟩
     case round=>
      obtain ⟨i,e6,rfl,v3,l3,A3⟩:=hrel
      by_cases e2:i<N
      ·have e1:(i:Int)<N:=by omega
       have ee:IntKind.i64.wrap ((i:Int)+1)=((i+1:Nat):Int):=by rw [ER _ (by have:=Z.out;omega)];push_cast;rfl
       have oX:=dn.out wr A3.1
       obtain ⟨J,rfl⟩:∃J,A8=some ⟨J,0,none⟩:=by
        obtain ⟨g,e,hv,_⟩:=oX.form (by omega)
        simp only [FD] at hv
        exact ⟨g,hv.1⟩
       have ds:i<X.length:=by rw [HN.out];exact e2
       obtain ⟨a,ha⟩:∃a,X[i]=a:=⟨_,rfl⟩
       have d3:X[i]?=some a:=by rw [←ha];simp
       have Y:=sZ oX d3 HN.out
       have cx:X.take (i+1)=X.take i++[a]:=by rw [List.take_succ_eq_append_getElem ds,ha]
       have b7:(l++aX p x st (lo,A) k++eA p x st k lo (j-lo)++(X.take i).map (eO st)).length≤8388608:=by
        have h1:=fY (w:=x) (st:=st) (k:=k) (g:=(lo,A)) (M:=120) (p:=p) (fun ph r j=>bw.out ph r j)
        have h2:=nu (w:=x) (st:=st) (k:=k) (lo:=lo) (n:=j-lo) (M:=120) (p:=p) (fun ph r j=>bw.out ph r j)
        have h3:(X.take i).length≤120:=by rw [Fv];have:=Z.out;omega
        have h4:k*((A-lo)*120)≤14*(60*120):=Nat.mul_le_mul (by have:=HT.out;omega) (Nat.mul_le_mul (by omega) (EM _))
        have h5:(j-lo)*120≤60*120:=Nat.mul_le_mul (by omega) (EM _)
        simp only [Fp,List.length_map]
        dsimp only at h1
        omega
       obtain ⟨snd,ad,c9,cw,bA,bN,cq,cv,bV⟩:=a
       have c0:wr.cell? ⟨J,i*9,none⟩=some (.bool snd):=Y 0 (by omega)
       have c1:wr.cell? ⟨J,i*9+1,none⟩=some (.bool ad):=Y 1 (by omega)
       have c2:wr.cell? ⟨J,i*9+2,none⟩=some (FQ (c9:Nat)):=Y 2 (by omega)
       have c3:wr.cell? ⟨J,i*9+3,none⟩=some (FQ (cw:Nat)):=Y 3 (by omega)
       have c4:wr.cell? ⟨J,i*9+4,none⟩=some (FQ (bA:Nat)):=Y 4 (by omega)
       have c5:wr.cell? ⟨J,i*9+5,none⟩=some (FQ (bN:Nat)):=Y 5 (by omega)
       have c6:wr.cell? ⟨J,i*9+6,none⟩=some (FQ (cq:Nat)):=Y 6 (by omega)
       have c7:wr.cell? ⟨J,i*9+7,none⟩=some (FQ (cv:Nat)):=Y 7 (by omega)
       have c8:wr.cell? ⟨J,i*9+8,none⟩=some (FQ (bV:Nat)):=Y 8 (by omega)
       have U:=fun (kd:Int) (kn:Nat) hk o (q:Below wr.heap.size wr o)=>yi L base st kd kn hk ⟨snd,ad,c9,cw,bA,bN,cq,cv,bV⟩ v3 _ o (l3.below q) (ES (ES hb (ES cj.out.size (bG.out.trans A3).1.size)) q.size) b7
       dsimp only at U
       obtain ⟨ci,b8,cn⟩:=ae A3 U cx;clear oX Y l3 A3 U cx d3 b7
       cases snd
       ·go_wp2_with fail
        refine (b8.out 4 4 rfl _ ((br wr).alloc (EM _) _)).mono ?_
        rintro e w9 ⟨rfl,v9,l9,A9⟩
        obtain ⟨L9,B9⟩:=ab l9 (ci.out.trans ((Apd.below ((br wr).alloc (EM _) _)).trans A9));clear l9 A9 c0 c1 c2 c3 c4 c5 c6 c7 c8
        go_wp2_with fail
        go_roundw
        case rel=>exact ⟨i+1,by omega,by go_num,v9,by rw [cn.out,List.map_append,←Fw];exact L9.out,B9.out⟩
        case measure=>simp [intOf];omega
       ·go_wp2_with fail
        refine (b8.out 3 3 rfl _ ((br wr).alloc (EM _) _)).mono ?_
        rintro e w9 ⟨rfl,v9,l9,A9⟩
        obtain ⟨L9,B9⟩:=ab l9 (ci.out.trans ((Apd.below ((br wr).alloc (EM _) _)).trans A9));clear l9 A9 c0 c1 c2 c3 c4 c5 c6 c7 c8
        go_wp2_with fail
        go_roundw
        case rel=>exact ⟨i+1,by omega,by go_num,v9,by rw [cn.out,List.map_append,←Fw];exact L9.out,B9.out⟩
        case measure=>simp [intOf];omega
      ·obtain rfl:N=i:=by omega
       have e1:¬((N:Int)<N):=by omega
       have e4:IntKind.i64.wrap ((j:Int)+1)=((j+1:Nat):Int):=by rw [ER _ (by omega)];push_cast;rfl
       rw [List.take_of_length_le (by rw [HN.out];exact EM _),←E8.out,Fw,show eA p x st k lo (j-lo)++aN p x st (k/(p.W-1)) (k%(p.W-1)) j=eA p x st k lo (j+1-lo) from by rw [show j+1-lo=(j-lo)+1 by omega,jX,show lo+(j-lo)=j by omega]] at l3
       obtain ⟨L3,B3⟩:=ab l3 (bG.out.trans A3);clear l3 A3
       go_wp2_with fail
       go_roundw
       case rel=>exact ⟨j+1,by omega,by omega,by go_num,v3,L3.out,B3.out⟩
       case measure=>simp [intOf];omega
    ·have dv:¬((j:Int)<A):=by omega
     have q1:=br wr
     rw [show j-lo=A-lo by omega] at C
     have e:=eJ p x st (lo,A) k
     dsimp only at e
     rw [Fw,←e] at C
     obtain ⟨D,Q⟩:=ab C A2;clear C A2 e
     go_wp2_with fail
     go_roundw
     case rel=>exact ⟨k+1,by omega,by go_num,v2,D.out,Q.out⟩
     case measure=>simp [intOf];omega
  ·obtain rfl:T=k:=by omega
   have da:¬((T:Int)<T):=by omega
   obtain ⟨bi,bh⟩:=ab b3 A1;clear b3 A1
   go_wp2_with fail
   go_end0
   exact ⟨rfl,v1,bi.out,(Apd.below (v:=v) (bt (br w) (cj.out))).trans bh.out⟩
theorem Cc {n s:Nat}:∀r∈dA n s,r.1≤r.2∧r.2≤n:=by
 intro r hr
 simp only [dA,List.mem_map,List.mem_range] at hr
 obtain ⟨i,h,rfl⟩:=hr
 have:=ft h
 exact ⟨by simp only;omega,by simp only;omega⟩
theorem aT.grp {p:Pln} (h:aT p) {i:Nat} (o:i<p.grps.length):(ay p.grps i).1≤(ay p.grps i).2∧(ay p.grps i).2≤p.buks.length:=by
 have:=Cc _ (List.getElem_mem o)
 rwa [←bq _ _ o] at this
theorem aT.grps {p:Pln} (h:aT p):p.grps.length≤60:=by
 have:=nQ p.buks.length p.wi
 have:=h.buks
 rw [Pln.grps,cY];omega
theorem yr {p:Pln} (h:aT p) (w st:Nat) (g:Rg) (i:g.2-g.1≤60):(bU p w st g).length≤100920:=by
 unfold bU
 rw [←lV]
 simp only [Fp,List.length_map,List.length_range']
 have v:=fY (w:=w) (st:=st) (k:=2*(p.W-1)) (g:=g) (M:=120) (p:=p) (fun ph r j=>h.round w st ph r j)
 have o:=h.W8
 have u:2*(p.W-1)*((g.2-g.1)*120)≤14*(60*120):=Nat.mul_le_mul (by omega) (Nat.mul_le_mul i (EM _))
 omega
def cy (p:Pln) (w st k:Nat):List Itm:=(List.range p.mi).map (fun a=>(⟨1,st,a,none⟩:Itm))++(p.grps.take k).flatMap (bU p w st)
theorem jZ {p:Pln} (w st:Nat) {k:Nat} (hk:k<p.grps.length):cy p w st (k+1)=cy p w st k++bU p w st (ay p.grps k):=by
 unfold cy
 rw [List.take_succ_eq_append_getElem hk,←bq _ _ hk,List.flatMap_append,←Fw]
 simp
theorem jl {p:Pln} (h:aT p) (w st:Nat) {k:Nat} (hk:k≤p.grps.length):(cy p w st k).length≤20+k*100920:=by
 induction k with
 | zero=>have:=h.mi;simp [cy];omega
 | succ k ih=>
  have i:=h.grp (show k<p.grps.length by omega)
  have o:=h.buks
  have:=yr h w st (ay p.grps k) (by omega)
  rw [jZ w st (by omega),Fp]
  have:=ih (by omega)
  omega
def bR (st lo n:Nat) (h:Nat):List Itm:=(List.range' lo n).map (fun j=>(⟨h,st,j,none⟩:Itm))
theorem iT (st lo n h:Nat):bR st lo (n+1) h=bR st lo n h++[(⟨h,st,lo+n,none⟩:Itm)]:=by simp [bR,List.range'_concat]
theorem fQ (st lo n h:Nat):(bR st lo n h).length=n:=by simp [bR]
theorem pT (p:Pln) (w st lo h:Nat):bU p w st (lo,h)=bR st lo (h-lo) 2++aX p w st (lo,h) (2*(p.W-1))++bR st lo (h-lo) 5:=by
 rw [lV];rfl
theorem lY (st k:Nat):(List.range (k+1)).map (fun a=>(⟨1,st,a,none⟩:Itm))=(List.range k).map (fun a=>(⟨1,st,a,none⟩:Itm))++[(⟨1,st,k,none⟩:Itm)]:=by simp [FF]
theorem pP (p:Pln) (st x:Nat) (a0 a1 a2 a3 a5 a7 a8 N T:Value) (BA GA:Option Addr) (bc gc:Nat) (w:World)
  (hp:aT p) (hx:x<p.W) (bN:Rd w BA (az p.buks)) (bw:Rd w GA (az p.grps)) (b6:∀y,BA=some y→y.block<w.heap.size) (bO:∀y,GA=some y→y.block<w.heap.size):
  Calls Tryz.prog 126 #[.agg #[a0,a1,a2,a3,FQ (p.W:Nat),a5,FQ (p.mi:Nat),a7,a8,FQ (p.ck:Nat),N,T,.slice BA p.buks.length bc,.slice GA p.grps.length gc],FQ x,FQ (st:Nat)] w fun e o=>∃v,e=.returned v∧o.ownsRow w.heap.size 152 12 v (aw p x st).length (bJ (aw p x st))∧Below w.heap.size w o:=by
 obtain ⟨u,J⟩:∃u,(w.alloc (.cells #[a0,a1,a2,a3,FQ (p.W:Nat),a5,FQ (p.mi:Nat),a7,a8,FQ (p.ck:Nat),N,T,.slice BA p.buks.length bc,.slice GA p.grps.length gc] 225)).alloc (.cells #[FQ (st:Nat),FR] 276)=u:=⟨_,rfl⟩
 have g0:u.heap[w.heap.size]?=some (.cells #[a0,a1,a2,a3,FQ (p.W:Nat),a5,FQ (p.mi:Nat),a7,a8,FQ (p.ck:Nat),N,T,.slice BA p.buks.length bc,.slice GA p.grps.length gc] 225 (0,0)):=by
  rw [←J,E0 _ _ _ (by simp)];exact EN w _
 have g1:u.heap[w.heap.size+1]?=some (.cells #[FQ (st:Nat),FR] 276 (0,0)):=by
  rw [←J];have:=EN (w.alloc (.cells #[a0,a1,a2,a3,FQ (p.W:Nat),a5,FQ (p.mi:Nat),a7,a8,FQ (p.ck:Nat),N,T,.slice BA p.buks.length bc,.slice GA p.grps.length gc] 225)) (.cells #[FQ (st:Nat),FR] 276);simpa using this
 have Z:Below w.heap.size w u:=by rw [←J];exact ((br w).alloc (EM _) _).alloc (by simp) _
 have bn:ep u (w.heap.size+1) (w.heap.size+1) st (FR) []:=⟨g1,EZ _ _ _ _⟩
 have bA:w.heap.size+1+1=u.heap.size:=by rw [←J];simp
 have hz:w.heap.size+1<u.heap.size:=by omega
 have kS:=fun o (q:Keep (fun j=>j=w.heap.size+1∨(Value.slice none 0 0).ownBlock=some j) u o)=>(q.block _ (EL g0) (fun e=>e.elim (fun h=>by omega) (fun h=>by cases h))).trans g0
 have b0:Rd u BA (az p.buks):=bN.below Z
 have ad:Rd u GA (az p.grps):=bw.below Z
 have kB:=fun o (q:Keep (fun j=>j=w.heap.size+1∨(Value.slice none 0 0).ownBlock=some j) u o)=>q.rd b0 (fun y hy=>by
  have:=b6 y hy
  rintro (h | h)
  ·omega
  ·cases h)
 have kG:=fun o (q:Keep (fun j=>j=w.heap.size+1∨(Value.slice none 0 0).ownBlock=some j) u o)=>q.rd ad (fun y hy=>by
  have:=bO y hy
  rintro (h | h)
  ·omega
  ·cases h)
 have ct:=hp.grps;have b4:=hp.buks;have cw:=hp.mi
 obtain ⟨cq,ci,cc,HS,cl,bM,U,cn⟩:=aj J Z bn kS kB kG bA b6
 have tS:=fun o (q:Below u.heap.size u o)=>B7 (kS o (Keep.below q))
 have q0:=br u
 clear J g0 g1 Z bn bN b0 bw ad kS kB kG bA b6 bO
 go_enter Tryz.func126,Tryz.ntmps126
 go_wp2_with fail
 rw [cq.out]
 clear tS q0
 go_loopw [22] (fun y wr=>∃k:Nat,k≤p.mi∧y=FQ k∧∃v',ep wr (w.heap.size+1) (w.heap.size+1) st v' ((List.range k).map (fun a=>(⟨1,st,a,none⟩:Itm)))∧Apd (w.heap.size+1) u (Value.slice none 0 0) wr v') (fun y _=>p.mi-(intOf y).toNat)
 case atStart=>exact ⟨0,EQ _,rfl,_,cc.out,Apd.refl _ _ _⟩
 case round=>
  obtain ⟨k,hk,rfl,v1,l1,A1⟩:=hrel
  by_cases Y:k<p.mi
  ·have b3:(k:Int)<p.mi:=by omega
   have bv:IntKind.i64.wrap ((k:Int)+1)=((k+1:Nat):Int):=by rw [ER _ (by omega)];push_cast;rfl
   have hc:=jy (w.heap.size+1) (w.heap.size+1) st k 1 1 rfl v1 _ wr l1 (by have:=A1.1.size;have:=U.out;omega) (by simp;omega)
   obtain ⟨Hc,b2⟩:=ab hc A1;clear hc A1 l1
   go_wp2_with fail
   refine Hc.out.mono ?_
   rintro e w5 ⟨rfl,v5,D,R⟩
   rw [←lY] at D
   obtain ⟨L5,B5⟩:=ab D (b2.out.trans R);clear D R
   go_wp2_with fail
   go_roundw
   case rel=>exact ⟨k+1,by omega,by go_num,v5,L5.out,B5.out⟩
   case measure=>simp [intOf];omega
  ·obtain rfl:p.mi=k:=by omega
   have b3:¬((p.mi:Int)<p.mi):=by omega
   have tS:=fun o (q:Below wr.heap.size wr o)=>B7 (sb (HS.out wr A1.1) o q)
   have q0:=br wr
   obtain ⟨cd,b2⟩:=ab l1 A1;clear l1 A1
   go_wp2_with fail
   clear tS q0
   go_loopw [33] (fun y wr=>∃k:Nat,k≤p.grps.length∧y=FQ k∧∃v',ep wr (w.heap.size+1) (w.heap.size+1) st v' (cy p x st k)∧Apd (w.heap.size+1) u (Value.slice none 0 0) wr v') (fun y _=>p.grps.length-(intOf y).toNat)
   case atStart=>exact ⟨0,EQ _,rfl,_,by simpa [cy] using cd.out,b2.out⟩
   case round=>
    obtain ⟨k,hk,rfl,v2,l2,A2⟩:=hrel
    by_cases Y:k<p.grps.length
    ·have b3:(k:Int)<p.grps.length:=by omega
     have d0:IntKind.i64.wrap ((k:Int)+1)=((k+1:Nat):Int):=by rw [ER _ (by omega)];push_cast;rfl
     obtain ⟨wi,rfl⟩:∃wi:World,wi=wr:=⟨_,rfl⟩
     have b1:=dm Y
     obtain ⟨bb,bo,rfl,b9⟩:=bM.out wi A2.1 _ _ b1.1
     obtain ⟨bi,bV,e',V⟩:=bM.out wi A2.1 _ _ b1.2
     obtain ⟨rfl,rfl⟩:bi=bb∧bV=bo:=by simpa using e'.symm
     rw [←FH] at V
     have a6:=hp.grp Y
     have I:=jZ (p:=p) x st Y
     have H:=jl hp x st hk
     obtain ⟨lo,i,c7⟩:∃lo i,ay p.grps k=(lo,i):=⟨_,_,rfl⟩
     rw [c7] at a6 b9 V I
     rw [pT] at I
     dsimp only at a6 b9 V
     obtain ⟨W3,a4⟩:∃W3,wi.alloc (.cells #[FQ (lo:Nat),FQ (i:Nat)] 148)=W3:=⟨_,rfl⟩
     have h3:W3.heap[wi.heap.size]?=some (.cells #[FQ (lo:Nat),FQ (i:Nat)] 148 (0,0)):=by rw [←a4];exact EN wi _
     have k3:Below wi.heap.size wi W3:=by rw [←a4];exact (br wi).alloc (EM _) _
     have cx:(w.heap.size+1)<wi.heap.size:=by have:=A2.1.size;have:=U.out;omega
     have bh:=l2.below k3
     have bs:=fun o (q:Keep (fun j=>j=(w.heap.size+1)∨v2.ownBlock=some j) W3 o)=>(q.block _ (EL h3) (fun e=>e.elim (fun h=>by omega) (fun h=>an h3 (by decide) bh.2 h.symm))).trans h3
     have bl:(w.heap.size+1)≤W3.heap.size:=by have:=k3.size;omega
     have bX:=A2.trans (Apd.below k3)
     obtain ⟨cj,b7,bd,b5,co,bI,Q⟩:=ai a4 bs bl bX bh I H;clear a4 h3 k3 bh bs bl bX I H l2 A2 b1 e' c7
     go_wp2_with fail
     rw [cj.out]
     clear b9 V
     have hrl:(aX p x st (lo,i) (2*(p.W-1))).length≤100800:=by
      have h1:=fY (w:=x) (st:=st) (k:=2*(p.W-1)) (g:=(lo,i)) (M:=120) (p:=p) (fun ph r j=>hp.round x st ph r j)
      have h2:=hp.W8
      have h4:2*(p.W-1)*((i-lo)*120)≤14*(60*120):=Nat.mul_le_mul (by omega) (Nat.mul_le_mul (by omega) (EM _))
      dsimp only at h1
      omega
     have c6:=aa hrl;clear hrl
     go_loopw [12] (fun y wr=>∃j:Nat,lo≤j∧j≤i∧y=FQ j∧∃v3,ep wr (w.heap.size+1) (w.heap.size+1) st v3 (cy p x st k++bR st lo (j-lo) 2)∧Apd (w.heap.size+1) W3 v2 wr v3) (fun y _=>i-(intOf y).toNat)
     case atStart=>exact ⟨lo,EM _,a6.1,rfl,v2,by simpa [bR] using co.out,Apd.refl _ _ _⟩
     case round=>
      obtain ⟨j,hj,cs,rfl,v3,O,C⟩:=hrel
      have uR:=fun o (q:Below wr.heap.size wr o)=>bx2 (sb (b7.out wr C.1) o q)
      have q1:=br wr
      by_cases c9:j<i
      ·have b8:(j:Int)<i:=by omega
       have bv:IntKind.i64.wrap ((j:Int)+1)=((j+1:Nat):Int):=by rw [ER _ (by omega)];push_cast;rfl
       have e:cy p x st k++bR st lo (j+1-lo) 2=(cy p x st k++bR st lo (j-lo) 2)++[(⟨2,st,j,none⟩:Itm)]:=by rw [show j+1-lo=(j-lo)+1 by omega,iT,show lo+(j-lo)=j by omega];simp only [Fw]
       have A:(cy p x st k++bR st lo (j-lo) 2).length≤8388608:=by
        have:=Q.out
        have:=c6.out
        simp only [Fp,fQ]
        omega
       have hc:=jy (w.heap.size+1) (w.heap.size+1) st j 2 2 rfl v3 _ wr O (by have:=C.1.size;have:=bd.out;omega) A
       obtain ⟨Hc,L,He⟩:=ae hc C e;clear hc C e O A
       go_wp2_with fail
       refine Hc.out.mono ?_
       rintro e w5 ⟨rfl,v5,D,R⟩
       rw [←He.out] at D
       obtain ⟨L5,B5⟩:=ab D (L.out.trans R);clear D R uR q1
       go_wp2_with fail
       go_roundw
       case rel=>exact ⟨j+1,by omega,by omega,by go_num,v5,L5.out,B5.out⟩
       case measure=>simp [intOf];omega
      ·have b8:¬((j:Int)<i):=by omega
       obtain rfl:i=j:=by omega
       have uS:=fun o (q:Below wr.heap.size wr o)=>B7 (sb (HS.out wr (b5.out.trans C).1) o q)
       have bz:=tQ p (w.heap.size+1) (w.heap.size+1) st x lo i a0 a1 a2 a3 a5 (FQ (p.mi:Nat)) a7 a8 N T (.slice (some ⟨bi,bV,none⟩) p.grps.length gc) BA bc v3 _ wr hp O (by have:=C.1.size;have:=bd.out;omega) (cl.out wr (b5.out.trans C).1) (fun y hy=>by have:=cn.out y hy;omega) (EM _) hx (by omega) (by
        have:=Q.out
        simp only [Fp,fQ]
        omega)
       obtain ⟨c8,L⟩:=ab bz C;clear bz C O
       go_wp2_with fail
       refine c8.out.mono ?_
       rintro e w6 ⟨rfl,v6,l6,A6⟩
       have A7:=L.out.trans A6
       have cb:=fun o (q:Below w6.heap.size w6 o)=>bx2 (sb (b7.out w6 A7.1) o q)
       have q6:=br w6
       obtain ⟨L6,cr⟩:=ab l6 A7;clear l6 A7 A6 uR q1 uS
       go_wp2_with fail
       clear cb q6
       go_loopw [13] (fun y wr=>∃j:Nat,lo≤j∧j≤i∧y=FQ j∧∃v3,ep wr (w.heap.size+1) (w.heap.size+1) st v3 ((cy p x st k++bR st lo (i-lo) 2++aX p x st (lo,i) (2*(p.W-1)))++bR st lo (j-lo) 5)∧Apd (w.heap.size+1) W3 v2 wr v3) (fun y _=>i-(intOf y).toNat)
       case atStart=>exact ⟨lo,EM _,a6.1,rfl,v6,by simpa [bR] using L6.out,cr.out⟩
       case round=>
        obtain ⟨j,hj,cs,rfl,v3,O,C⟩:=hrel
        have uR:=fun o (q:Below wr.heap.size wr o)=>bx2 (sb (b7.out wr C.1) o q)
        have q1:=br wr
        by_cases c9:j<i
        ·have b8:(j:Int)<i:=by omega
         have bv:IntKind.i64.wrap ((j:Int)+1)=((j+1:Nat):Int):=by rw [ER _ (by omega)];push_cast;rfl
         have e:(cy p x st k++bR st lo (i-lo) 2++aX p x st (lo,i) (2*(p.W-1)))++bR st lo (j+1-lo) 5=((cy p x st k++bR st lo (i-lo) 2++aX p x st (lo,i) (2*(p.W-1)))++bR st lo (j-lo) 5)++[(⟨5,st,j,none⟩:Itm)]:=by rw [show j+1-lo=(j-lo)+1 by omega,iT,show lo+(j-lo)=j by omega];simp only [Fw]
         have A:((cy p x st k++bR st lo (i-lo) 2++aX p x st (lo,i) (2*(p.W-1)))++bR st lo (j-lo) 5).length≤8388608:=by
          have:=Q.out
          have:=c6.out
          simp only [Fp,fQ]
          omega
         have hc:=jy (w.heap.size+1) (w.heap.size+1) st j 5 5 rfl v3 _ wr O (by have:=C.1.size;have:=bd.out;omega) A
         obtain ⟨Hc,L,He⟩:=ae hc C e;clear hc C e O A
         go_wp2_with fail
         refine Hc.out.mono ?_
         rintro e w5 ⟨rfl,v5,D,R⟩
         rw [←He.out] at D
         obtain ⟨L5,B5⟩:=ab D (L.out.trans R);clear D R uR q1
         go_wp2_with fail
         go_roundw
         case rel=>exact ⟨j+1,by omega,by omega,by go_num,v5,L5.out,B5.out⟩
         case measure=>simp [intOf];omega
        ·have b8:¬((j:Int)<i):=by omega
         obtain rfl:i=j:=by omega
         rw [Fw,Fw] at O
         rw [show cy p x st k++(bR st lo (i-lo) 2++(aX p x st (lo,i) (2*(p.W-1))++bR st lo (i-lo) 5))=cy p x st (k+1) by rw [bI.out];simp only [Fw]] at O
         obtain ⟨L9,B9⟩:=ab O (b5.out.trans C);clear O C
         go_wp2_with fail
         go_roundw
         case rel=>exact ⟨k+1,by omega,by go_num,v3,L9.out,B9.out⟩
         case measure=>simp [intOf];omega
    ·have b3:¬((k:Int)<p.grps.length):=by omega
     have bG:k=p.grps.length:=by omega
     have H:=jl hp x st hk
     have hc:=jy (w.heap.size+1) (w.heap.size+1) st 0 6 6 rfl v2 _ wr l2 (by have:=A2.1.size;have:=U.out;omega) (by omega)
     have e:cy p x st k++[(⟨6,st,0,none⟩:Itm)]=aw p x st:=by
      unfold cy aw
      rw [bG,FB]
     rw [e] at hc
     obtain ⟨Hc,cf⟩:=ab hc A2;clear hc A2 l2 e bG H
     go_wp2_with fail
     refine Hc.out.mono ?_
     rintro e w5 ⟨rfl,v5,D,R⟩
     have b4:=(cf.out.trans R).1.toBelow (B:=w.heap.size) (by have:=U.out;omega) (by
      rintro j (rfl | hj)
      ·omega
      ·cases hj)
     have xL:=bx2 D.1
     have cv:=EL D.1
     obtain ⟨O5,HB⟩:=ab (aA (base':=w.heap.size) D.2 (by omega)) (ci.out.trans b4);clear D R b4
     go_wp2_with fail
     go_ret
     exact ⟨_,rfl,O5.out,HB.out⟩
def jk (p:Pln) (m:Nat):List Int:=(List.range m).map fun x=>((aw p x 0).length:Int)
theorem uB (p:Pln) (m:Nat):jk p (m+1)=jk p m++[((aw p m 0).length:Int)]:=by simp [jk,FF]
theorem pN (p:Pln) (m:Nat):(jk p m).length=m:=by simp [jk]
def db (w:World) (P:Nat) (p:Pln) (v a1 x B C y h:Value):Prop:=∃BA bc o A i u,w.heap[P]?=some (.cells #[v,a1,x,B,FQ (p.W:Nat),C,FQ (p.mi:Nat),y,FQ (p.bu:Nat),FQ (p.ck:Nat),FQ (p.wi:Nat),h,.slice BA p.buks.length bc,.slice o p.grps.length A,.slice i p.W u] 227 (0,0))∧Rd w BA (az p.buks)∧Rd w o (az p.grps)∧Rd w i (ar .i64 (jk p p.W))
theorem db.below {w u:World} {P:Nat} {p:Pln} {o a1 v y A x i:Value} (h:db w P p o a1 v y A x i) (hb:Below w.heap.size w u):db u P p o a1 v y A x i:=by
 obtain ⟨BA,bc,N,J,H,B,I,C,L,D⟩:=h
 exact ⟨BA,bc,N,J,H,B,sb I _ hb,C.below hb,L.below hb,D.below hb⟩
theorem db.agr {B:Nat} {u v:World} {P:Nat} {p:Pln} {o a1 x A C y i:Value} (h:db (dX B u) P p o a1 x A C y i) (hb:Agr B u v):db v P p o a1 x A C y i:=by
 obtain ⟨BA,bc,Q,N,J,D,L,H,O,I⟩:=h
 exact ⟨BA,bc,Q,N,J,D,mC (xs:=[_,_,_,_,_,_,_,_,_,_,_,_,_,_]) L hb,iE H hb,iE O hb,iE I hb⟩
theorem pC (p:Pln) (R a1 T U Q I A:Value) (w:World) (hp:aT p) (hn:1≤p.n) (cr:p.bu≤1048576) (cn:p.wi≤1048576)
  (bn:∀i,Below w.heap.size w i→Calls Tryz.prog 76 #[.agg #[R,a1,T,U,FQ (p.W:Nat),Q,FQ (p.mi:Nat),I,FQ (p.bu:Nat),FQ (p.ck:Nat),FQ (p.wi:Nat),A]] i fun e a8=>e=.returned (FQ 0)∧Below i.heap.size i a8):
  Calls Tryz.prog 82 #[.agg #[R,a1,T,U,FQ (p.W:Nat),Q,FQ (p.mi:Nat),I,FQ (p.bu:Nat),FQ (p.ck:Nat),FQ (p.wi:Nat),A],FQ (p.n:Nat)] w fun e i=>∃P,e=.returned (.tuple #[.pointer (some ⟨P,0,none⟩),.bool true])∧w.heap.size≤P∧db (dX w.heap.size i) P p R a1 T U Q I A∧Below w.heap.size w i:=by
 obtain ⟨W0,a4⟩:∃W0,w.alloc (.cells #[R,a1,T,U,FQ (p.W:Nat),Q,FQ (p.mi:Nat),I,FQ (p.bu:Nat),FQ (p.ck:Nat),FQ (p.wi:Nat),A] 24)=W0:=⟨_,rfl⟩
 have g0:W0.heap[w.heap.size]?=some (.cells #[R,a1,T,U,FQ (p.W:Nat),Q,FQ (p.mi:Nat),I,FQ (p.bu:Nat),FQ (p.ck:Nat),FQ (p.wi:Nat),A] 24 (0,0)):=by rw [←a4];exact EN w _
 have a6:Below w.heap.size w W0:=by rw [←a4];exact (br w).alloc (EM _) _
 have bI:=fun i (q:Below W0.heap.size W0 i)=>bn i (a6.trans (q.mono a6.size))
 have t0:=fun i q=>fx (sb g0 i q)
 have d2:¬((p.n:Int)<1):=by omega
 have d1:=hp.n
 have da:¬((p.n:Int)>1048576):=by omega
 have d5:¬(1048576<(p.n:Int)):=by omega
 have d7:=hp.W1;have d8:=hp.W8;have bN:=hp.bu;have bb:=hp.wi
 have b1:p.buks=j0 p.n p.bu:=rfl
 have b0:p.grps=dA p.buks.length p.wi:=rfl
 have d6:=hp.buks
 obtain ⟨cv,N,cf,d9,bw,bA⟩:=ah a4 a6 bI g0 b1 b0
 have q0:=br W0
 clear a4 g0 a6 bI bn b1 b0
 go_enter Tryz.func82,Tryz.ntmps82
 go_wp2_with fail
 rw [cv.out]
 refine (cf.out _ q0).mono ?_
 rintro e w1 ⟨rfl,k1⟩
 have q1:=bt q0 k1
 go_wp2_with fail
 refine (sW p.n p.bu _ (by omega) bN cr).mono ?_
 rintro e w2 ⟨v2,rfl,o2,k2⟩
 have q2:=bt q1 k2
 rw [←bw.out] at o2
 obtain ⟨BA,bc,rfl,_⟩:=av o2
 go_wp2_with fail
 refine HA.g (fun i:World=>Below W0.heap.size W0 i) ?_
 refine HA.t ?_ [0,1,2,3,4,5] q2.drew ?_
 refine HA.c 6 (uI p.buks.length p.wi _ (by omega) bb cn) ?_
 rintro e C ⟨v3,rfl,o3,k3⟩
 have q3:=bt q2.drew k3
 rw [←bA.out] at o3
 obtain ⟨GA,gc,rfl,_⟩:=av o3
 refine ⟨_,rfl,q3,fun _=>?_⟩
 refine HA.t ?_ [7,8] q3 ?_
 obtain ⟨D,O⟩:∃D,C.alloc (.cells #[R,a1,T,U,FQ (p.W:Nat),Q,FQ (p.mi:Nat),I,FQ (p.bu:Nat),FQ (p.ck:Nat),FQ (p.wi:Nat),A,.slice BA p.buks.length bc,.slice GA p.grps.length gc,FR] 227)=D:=⟨_,rfl⟩
 have k5:Below C.heap.size C D:=by rw [←O];exact (br C).alloc (EM _) _
 refine HA.v 9 D (.pointer (some ⟨C.heap.size,0,none⟩)) (bt q3 k5) ?_ (he:=by subst O;go_simp)
 refine HA.t ?_ [10] (bt q3 k5) ?_
 refine HA.d ?_
 simp only [Exit.then]
 have g5:D.heap[C.heap.size]?=some (.cells #[R,a1,T,U,FQ (p.W:Nat),Q,FQ (p.mi:Nat),I,FQ (p.bu:Nat),FQ (p.ck:Nat),FQ (p.wi:Nat),A,.slice BA p.buks.length bc,.slice GA p.grps.length gc,FR] 227 (0,0)):=by rw [←O];exact EN C _
 have Z:D.heap.size=C.heap.size+1:=by rw [←O];simp
 have q5:=bt q3 k5
 have bz:=(N.out.trans (q2.mono N.out.size))
 have bs:w.heap.size≤C.heap.size:=ES bz.size (ES (EM _) k3.size)
 have b5:=aq (aq (bC o2 1) k3) k5
 have b7:=aq o3 k5
 have bl:=Rd.own b5
 have bO:=Rd.own b7
 have co:∀y,BA=some y→y.block<D.heap.size:=fun y x=>(fd b5 y x).2
 have c9:∀y,GA=some y→y.block<D.heap.size:=fun y x=>(fd b7 y x).2
 have ad:∀y,BA=some y→w.heap.size≤y.block∧y.block<C.heap.size:=fun y x=>⟨ES (ES N.out.size q1.size) (fd o2 y x).1,ET (fd o2 y x).2 k3.size⟩
 have b2:∀y,GA=some y→w.heap.size≤y.block∧y.block<C.heap.size:=fun y x=>⟨ES bz.size (fd o3 y x).1,(fd o3 y x).2⟩
 obtain ⟨bd,bX,J,L,H5,bG,cl,b9⟩:=aj bl bO ad b2 g5 Z q5 bs
 have t5:=fun i q=>t0 i (bt q5 q)
 have cb:=br D
 clear O g5 Z b5 b7 o2 o3 bl bO co c9 ad b2 k3 k5 q0 q1 q2 q3 q5 t0 bs
 go_wp2_with fail
 clear t5 cb
 go_loopw [36] (fun y wr=>∃m:Nat,m≤p.W∧y=FQ m∧∃v,wr.heap[C.heap.size]?=some (.cells #[R,a1,T,U,FQ (p.W:Nat),Q,FQ (p.mi:Nat),I,FQ (p.bu:Nat),FQ (p.ck:Nat),FQ (p.wi:Nat),A,.slice BA p.buks.length bc,.slice GA p.grps.length gc,v] 227 (0,0))∧wr.ownsRow D.heap.size 3 1 v m (ar .i64 (jk p m))∧Keep (fun j=>j=C.heap.size) D wr) (fun y _=>p.W-(intOf y).toNat)
 case atStart=>exact ⟨0,EQ _,rfl,_,H5.out,EZ _ _ _ _,Keep.refl _ _⟩
 case round=>
  obtain ⟨m,hm,rfl,v,hP,V,H⟩:=hrel
  by_cases ci:m<p.W
  ·have cq:(m:Int)<p.W:=by omega
   have d4:IntKind.i64.wrap ((m:Int)+1)=((m+1:Nat):Int):=by rw [ER _ (by omega)];push_cast;rfl
   have cc:=EL hP
   have kP:=fun i (q:Keep (fun j=>v.ownBlock=some j) wr i)=>(q.block _ cc (fun h=>an hP (by decide) V h.symm)).trans hP
   have tP:=fun i q=>hZ (kP i q)
   have Z:=bG.out
   have bv:∀i,Keep (fun j=>v.ownBlock=some j) wr i→Calls Tryz.prog 126 #[.agg #[R,a1,T,U,FQ (p.W:Nat),Q,FQ (p.mi:Nat),I,FQ (p.bu:Nat),FQ (p.ck:Nat),FQ (p.wi:Nat),A,.slice BA p.buks.length bc,.slice GA p.grps.length gc],FQ (m:Nat),FQ 0] i fun e a8=>∃v,e=.returned v∧a8.ownsRow i.heap.size 152 12 v (aw p m 0).length (bJ (aw p m 0))∧Below i.heap.size i a8:=fun i q=>
    pP p 0 m R a1 T U Q I (FQ (p.bu:Nat)) (FQ (p.wi:Nat)) A BA GA bc gc i hp ci
     (q.rd (H.rd bd.out (fun y x=>by have:=J.out y x;omega)) (fun y x e=>by have:=(V.lt _ e).1;have:=J.out y x;omega))
     (q.rd (H.rd bX.out (fun y x=>by have:=L.out y x;omega)) (fun y x e=>by have:=(V.lt _ e).1;have:=L.out y x;omega))
     (fun y x=>by have:=J.out y x;have:=q.size;have:=H.size;omega) (fun y x=>by have:=L.out y x;have:=q.size;have:=H.size;omega)
   have cx:(aw p m 0).length≤8000000:=by
    have h1:=jl hp m 0 (EM p.grps.length)
    have h2:=hp.grps
    have:(aw p m 0).length=(cy p m 0 p.grps.length).length+1:=by simp [aw,cy];omega
    omega
   have cd:=H.size
   obtain ⟨cj,bo,HO,HK⟩:=af kP bv V H
   have q0:Keep (fun j=>v.ownBlock=some j) wr wr.drew:=(Keep.refl _ _).drew
   obtain ⟨n,hn⟩:∃n,(aw p m 0).length=n:=⟨_,rfl⟩
   have b8:=uB p m
   rw [hn] at cx bo b8
   have cs:=aa b8;clear kP bv hP V H hn b8
   go_wp2_with fail
   refine XA.g 14 (fun i:World=>Keep (fun j=>v.ownBlock=some j) wr i) ?_
   refine XA.t ?_ [0,1,2,3,4,5,6,7,8,9] q0 ?_
   refine XA.c 10 (bo.out _ q0) ?_
   rintro e w6 ⟨v6,rfl,o6,k6⟩
   obtain ⟨A6,c6,rfl,_⟩:=av o6
   have q6:Keep (fun j=>v.ownBlock=some j) wr w6:=q0.trans (Keep.below k6)
   refine ⟨_,rfl,q6,fun _=>?_⟩
   refine XA.t ?_ [11] q6 ?_
   refine XA.v 12 (w6.alloc (.cells #[FQ (n:Nat)] 3)) (.slice (some ⟨w6.heap.size,0,none⟩) 1 1) (q6.alloc _) ?_
   refine XA.o 13 (fun K' bV=>?_)
   have bh:=(aq (HO.out.drew) k6).alloc (.cells #[FQ (n:Nat)] 3)
   have d3:=q6.size
   refine bS fq (.tmp 43) (.tmp 51) rfl rfl D.heap.size v m _ rfl bh (some ⟨w6.heap.size,0,none⟩) 1 1 [FQ (n:Nat)] rfl (fun k u hu=>⟨_,_,rfl,by rw [FI,EO _ w6.heap.size k _ 3 (0,0) (EN w6 _)];simpa using hu⟩) rfl (by simp [Value.oneCell']) (by omega) (by unfold maxLen;omega) (by simp;omega) ?_
   intro A7 c7 w7 b4 d0 bM _
   have Y:Keep (fun j=>v.ownBlock=some j) wr w7:=(q6.alloc _).grown bM (fun k hk=>.inr hk)
   refine bV.out _ _ Y fun _=>?_
   refine XA.e ?_
   simp only [Fm,Fo]
   have b6:=cj.out w7 Y
   have e3:=FN w7 C.heap.size 14 _ _ (.slice A7 (m+1) c7) b6
   have k1:Keep (fun j=>j=C.heap.size) w7 (w7.setCell ⟨C.heap.size,14,none⟩ (.slice A7 (m+1) c7)):=Keep.setCell (S:=fun j=>j=C.heap.size) (Keep.refl _ _) ⟨C.heap.size,14,none⟩ (.inr rfl) _
   have o8:=k1.own b4 (fun j hj e=>an b6 (by decide) b4 (by rw [hj,e]))
   have kk:Keep (fun j=>j=C.heap.size) D (w7.setCell ⟨C.heap.size,14,none⟩ (.slice A7 (m+1) c7)):=by
    refine Keep.trans (b:=w7) ?_ k1
    have h1:=HK.out
    refine ⟨Y.os.trans h1.os,Y.tape.trans h1.tape,Y.output.trans h1.output,ES h1.size Y.size,fun j hj hn=>(Y.block j (ET hj h1.size) (fun e=>by have:=(HO.out.lt _ e).1;omega)).trans (h1.block j hj hn)⟩
   rw [show ar .i64 (jk p m)++[Value.int .i64 (n:Nat)]=ar .i64 (jk p (m+1)) by rw [cs.out,ez];rfl] at o8
   obtain ⟨E3,O8,KK⟩:=ae e3 o8 kk
   have xP:=tP w7 Y
   clear b4 d0 bM b6 e3 k1 o8 kk tP bV K' Y q6 q0 bh o6 k6
   go_wp2_with fail
   go_roundw
   case rel=>exact ⟨m+1,by omega,by go_num,_,by simpa using E3.out,O8.out,KK.out⟩
   case measure=>simp [intOf];omega
  ·have cq:¬((m:Int)<p.W):=by omega
   have bi:m=p.W:=by omega
   have Z:=bG.out
   have cd:=H.size
   obtain ⟨LA,lc,rfl,_⟩:=av V
   rw [bi] at V hP
   have c8:db (dX w.heap.size wr) C.heap.size p R a1 T U Q I A:=by
    have hw:=b9.out
    refine ⟨BA,bc,GA,gc,LA,lc,(fh hw).trans hP,(mA _ _).rd (H.rd bd.out (fun y x=>by have:=(J.out y x).2;omega)) (fun y x=>by have:=(J.out y x).1;omega),(mA _ _).rd (H.rd bX.out (fun y x=>by have:=(L.out y x).2;omega)) (fun y x=>by have:=(L.out y x).1;omega),Rd.own (dC V (by omega))⟩
   have ct:=aa c8
   have b3:=N.out.trans (cl.out.mono N.out.size)
   have cw:=aa (b3.trans (H.toBelow (B:=w.heap.size) b3.size (fun j hj=>by have:=b9.out;omega)));clear hP V H c8 b3 bi
   go_wp2_with fail
   go_ret2
   exact ⟨_,rfl,b9.out,ct.out,cw.out⟩
theorem DK (l:List Rg):∀u∈az l,u.oneCell'=true:=by
 intro u i
 simp only [az,List.mem_flatMap,List.mem_cons,List.not_mem_nil,or_false] at i
 obtain ⟨r,_,h | h⟩:=i<;>subst h<;>rfl
theorem uO (A:Option Addr) (l:List Rg) (n c:Nat) (w:World) (C:Rd w A (az l)) (hn:l.length=n) (hl:n≤1048576):
  Calls Tryz.prog 131 #[.slice A n c] w fun e B=>∃v,e=.returned v∧B.ownsRow w.heap.size 148 2 v n (az l)∧Below w.heap.size w B:=by
 subst hn
 have q:=fun (w:World)=>Lib.run_eql_slice_nil (P:=Tryz.prog) w 170 148 A l.length c 0 0 Tryz.underlying170
 cases A with
 | none=>
  have D:l=[]:=by
   cases l with
   | nil=>rfl
   | cons z l=>obtain ⟨b,o,h,_⟩:=C 0 (FQ (z.1:Int)) (by simp [az]);cases h
  subst D
  clear q
  have q:=fun (w:World)=>Lib.run_eql_slice_nil (P:=Tryz.prog) w 170 148 none 0 c 0 0 Tryz.underlying170
  simp only [Option.isNone_none] at q
  rw [List.length_nil]
  go_enter Tryz.func131,Tryz.ntmps131
  go_wp2
  go_ret
  exact ⟨_,rfl,EZ _ _ _ _,EP _ _⟩
 | some a=>
  go_enter Tryz.func131,Tryz.ntmps131
  go_wp2_with (at_builtin;refine dE iW _ rfl (.tmp 5) (.tmp 6) rfl w.heap.size _ 0 [] rfl (fP w 148 2) _ l.length c (az l) rfl (C.alloc _) (jQ l) (DK l) (by omega) (by unfold maxLen;omega) (by simp) ?_)
  intro J I H i hb _ _
  have x:=((EP _ w).alloc (EM _) (.cells #[] 148)).trans hb
  obtain ⟨u,y⟩:=ab i x;clear i hb x
  go_wp2
  go_ret
  exact ⟨_,rfl,by simpa using u.out,y.out⟩
theorem At (p:Pln) (P:Nat) (T a1 V D H y h:Value) (w:World) (L:aT p) (Y:db w P p T a1 V D H y h):
  Calls Tryz.prog 85 #[.pointer (some ⟨P,0,none⟩)] w fun e o=>∃v,e=.returned v∧o.ownsRow w.heap.size 148 2 v p.buks.length (az p.buks)∧Below w.heap.size w o:=by
 obtain ⟨BA,bc,GA,gc,LA,Z,hb,hB,Q,J⟩:=Y
 have x:=L.buks
 have hc:=uO BA p.buks p.buks.length bc w hB rfl (by omega)
 obtain ⟨⟨t0,t1,t2,t3,t4,t5,t6,t7,t8,t9,A,R,O,I,N⟩,tf⟩:=hZ hb
 have C:=aa hc;clear hc hb hB Q J
 go_enter Tryz.func85,Tryz.ntmps85
 go_wp2_with fail
 refine C.out.mono ?_
 rintro e w1 ⟨v,rfl,u,i⟩
 obtain ⟨U,B⟩:=ab u i;clear u i
 go_wp2_with fail
 go_ret
 exact ⟨_,rfl,U.out,B.out⟩
theorem rC (p:Pln) (P x:Nat) (O a1 Q B D v h:Value) (w:World) (o:x<p.W) (R:db w P p O a1 Q B D v h):
  Calls Tryz.prog 132 #[.pointer (some ⟨P,0,none⟩),FQ x] w fun e u=>e=.returned (FQ ((aw p x 0).length:Nat))∧w=u:=by
 obtain ⟨BA,bc,GA,gc,LA,T,hb,hB,L,i⟩:=R
 obtain ⟨lb,lo,rfl,c0⟩:=i.num (k:=x) (by rw [pN];exact o)
 have e:nth (jk p p.W) x=((aw p x 0).length:Int):=by
  rw [cW _ _ (by rw [pN];exact o)];simp [jk]
 rw [e] at c0
 obtain ⟨⟨t0,t1,t2,U,V,t5,Z,Y,t8,t9,y,N,I,C,H⟩,tf⟩:=hZ hb
 have A:(x:Int)<p.W:=by omega
 have J:¬((p.W:Int)≤x):=by omega
 clear hb hB L i e
 go_enter Tryz.func132,Tryz.ntmps132
 go_wp2
 go_ret
 exact ⟨rfl,rfl⟩
theorem gr {p:Pln} (i:aT p) (x st:Nat):(aw p x st).length=(aw p x 0).length:=by
 rw [jY p x st i.wi,jY p x 0 i.wi]
 have h:∀j ph r,(aN p x st ph r j).length=(aN p x 0 ph r j).length:=fun j ph r=>by
  unfold aN
  rw [List.length_map,List.length_map,fZ,fZ]
 simp only [h]
theorem fR (p:Pln) (x st:Nat):0<(aw p x st).length:=by unfold aw;simp;omega
theorem sP {n s:Nat} (h:1≤n):0<bT n s:=by unfold bT;rw [if_neg (by omega)];exact Nat.succ_pos _
theorem sV {p:Pln} (hn:1≤p.n):0<p.buks.length:=by rw [Pln.buks,jn];exact sP hn
theorem Bj {p:Pln} (hn:1≤p.n):0<p.grps.length:=by rw [Pln.grps,cY];exact sP (sV hn)
theorem DA {w:World} {A:Option Addr} {l:List Rg} (h:Rd w A (az l)) (hl:0<l.length):∀y,A=some y→y.block<w.heap.size:=fun y i=>by
 obtain ⟨b,o,e,c⟩:=h _ _ (dm hl).1
 rw [i] at e
 injection e with e
 subst e
 exact au c
theorem pA (p:Pln) (P x st h:Nat) (B a1 C u y i:Value) (w:World) (hp:aT p) (hn:1≤p.n) (N:x<p.W) (U:st<h) (O:db w P p B a1 C u y (FQ (h:Nat)) i):
  Calls Tryz.prog 87 #[.pointer (some ⟨P,0,none⟩),FQ x,FQ (st:Nat)] w fun e J=>∃v,e=.returned v∧J.ownsRow w.heap.size 152 12 v (aw p x st).length (bJ (aw p x st))∧Below w.heap.size w J:=by
 have hl:=rC p P x B a1 C u y (FQ (h:Nat)) i w N O
 obtain ⟨BA,bc,GA,gc,LA,lc,hb,hB,A,hL⟩:=O
 have hc:=pP p st x B a1 C u y (FQ (h:Nat)) (FQ (p.bu:Nat)) (FQ (p.wi:Nat)) i BA GA bc gc w hp N hB A (DA hB (sV hn)) (DA A (Bj hn))
 have H:=fR p x 0
 obtain ⟨n,o⟩:∃n,(aw p x 0).length=n:=⟨_,rfl⟩
 rw [o] at hl H
 have D:¬((n:Int)=0):=by omega
 have R:((n:Int)==0)=false:=by simpa using D
 have a8:¬((h:Int)≤st):=by omega
 obtain ⟨⟨t0,t1,t2,t3,t4,t5,t6,t7,t8,t9,T,ad,a7,a4,a6⟩,tf⟩:=hZ hb
 obtain ⟨Z,Y⟩:=ab hc hl;clear hc hl hb hB A hL o
 go_enter Tryz.func87,Tryz.ntmps87
 go_wp2_with fail
 refine Y.out.mono ?_
 rintro e Q ⟨rfl,rfl⟩
 go_wp2_with fail
 refine Z.out.mono ?_
 rintro e Q ⟨v,rfl,L,I⟩
 obtain ⟨O1,V⟩:=ab L I;clear L I
 go_wp2_with fail
 go_ret
 exact ⟨_,rfl,O1.out,V.out⟩
theorem pz (p:Pln) (P x st h:Nat) (B a1 C y A o:Value) (w:World) (Y:x<p.W) (L:h≤st) (D:db w P p B a1 C y A (FQ (h:Nat)) o):
  Calls Tryz.prog 87 #[.pointer (some ⟨P,0,none⟩),FQ x,FQ (st:Nat)] w fun e H=>e=.returned (FR)∧w=H:=by
 have hl:=rC p P x B a1 C y A (FQ (h:Nat)) o w Y D
 obtain ⟨BA,bc,GA,gc,LA,lc,hb,hB,V,O⟩:=D
 have v:=fR p x 0
 obtain ⟨n,i⟩:∃n,(aw p x 0).length=n:=⟨_,rfl⟩
 rw [i] at hl v
 have u:¬((n:Int)=0):=by omega
 have I:((n:Int)==0)=false:=by simpa using u
 have U:(h:Int)≤st:=by omega
 obtain ⟨⟨t0,t1,t2,t3,t4,t5,t6,t7,t8,t9,J,Z,T,Q,R⟩,tf⟩:=hZ hb
 have N:=aa hl;clear hl hb hB V O i
 go_enter Tryz.func87,Tryz.ntmps87
 go_wp2_with fail
 refine N.out.mono ?_
 rintro e w1 ⟨rfl,rfl⟩
 go_wp2_with fail
 go_ret
 exact ⟨rfl,rfl⟩
noncomputable def cT (sz:List Int):Int:=@ite _ (cO sz) (Classical.propDecidable _) 0 (@ite _ (bE sz) (Classical.propDecidable _) 4 5)
theorem gL {sz:List Int} (h:cO sz):cT sz=0:=by unfold cT;rw [if_pos h]
theorem je {sz:List Int} (h:¬cO sz) (hr:bE sz):cT sz=4:=by unfold cT;rw [if_neg h,if_pos hr]
theorem eI {sz:List Int} (h:¬bE sz):cT sz=5:=by unfold cT;rw [if_neg (fun g=>h g.1),if_neg h]
theorem tr (sz:List Int):cT sz=0↔cO sz:=by
 constructor
 ·intro h
  by_cases i:cO sz
  ·exact i
  ·by_cases hr:bE sz
   ·rw [je i hr] at h;omega
   ·rw [eI hr] at h;omega
 ·exact gL
theorem cQ (b:Bool):b=false∨b=true:=by cases b<;>simp
structure Cfg where
 sizes:List Int
 shift:Int
 rate:Int
 mom:Int
 workers:Int
 batch:Int
 micros:Int
 steps:Int
 bucket:Int
 chunk:Int
 window:Int
 cap:Int
def okB (n:Int):Bool:=decide (1≤n∧n≤1048576)
theorem iq {n:Int} (h:okB n=true):1≤n∧n≤1048576:=by simpa [okB] using h
theorem xU {n:Int} (h:okB n=false):¬(1≤n∧n≤1048576):=by
 intro i;unfold okB at h;rw [FJ i] at h;cases h
def mN (n:Int):Bool:=decide (0≤n∧n≤1048576)
def kq (k:Cfg):Bool:=okB k.micros&&okB k.bucket&&okB k.chunk&&okB k.window&&okB k.cap&&mN k.steps
def wkB (k:Cfg):Bool:=decide (1≤k.workers∧k.workers≤64)
def shB (k:Cfg):Bool:=decide (1≤k.shift∧k.shift≤62)
def baB (k:Cfg):Bool:=decide (k.workers≤k.batch∧k.batch≤1048576)
noncomputable def aM (k:Cfg):Int:=if wkB k=false then 6 else if shB k=false then 9 else if cT k.sizes≠0 then cT k.sizes else if kq k=false then 2 else if baB k=false then 7 else 0
theorem BV {k:Cfg} (h:wkB k=false):aM k=6:=by unfold aM;rw [if_pos h]
theorem BT {k:Cfg} (i:wkB k=true) (h:shB k=false):aM k=9:=by unfold aM;rw [if_neg (by simp [i]),if_pos h]
theorem BS {k:Cfg} (i:wkB k=true) (o:shB k=true) (h:cT k.sizes≠0):aM k=cT k.sizes:=by unfold aM;rw [if_neg (by simp [i]),if_neg (by simp [o]),if_pos h]
theorem BY {k:Cfg} (i:wkB k=true) (o:shB k=true) (u:cT k.sizes=0) (h:kq k=false):aM k=2:=by unfold aM;rw [if_neg (by simp [i]),if_neg (by simp [o]),if_neg (by simp [u]),if_pos h]
theorem BU {k:Cfg} (u:wkB k=true) (i:shB k=true) (v:cT k.sizes=0) (o:kq k=true) (h:baB k=false):aM k=7:=by unfold aM;rw [if_neg (by simp [u]),if_neg (by simp [i]),if_neg (by simp [v]),if_neg (by simp [o]),if_pos h]
theorem BZ {k:Cfg} (u:wkB k=true) (i:shB k=true) (v:cT k.sizes=0) (o:kq k=true) (h:baB k=true):aM k=0:=by unfold aM;rw [if_neg (by simp [u]),if_neg (by simp [i]),if_neg (by simp [v]),if_neg (by simp [o]),if_neg (by simp [h])]
structure fL (k:Cfg):Prop where
 w:1≤k.workers∧k.workers≤64
 s:1≤k.shift∧k.shift≤62
 z:cO k.sizes
 mi:1≤k.micros∧k.micros≤1048576
 bu:1≤k.bucket∧k.bucket≤1048576
 ch:1≤k.chunk∧k.chunk≤1048576
 wi:1≤k.window∧k.window≤1048576
 ca:1≤k.cap∧k.cap≤1048576
 st:0≤k.steps∧k.steps≤1048576
 ba:k.workers≤k.batch∧k.batch≤1048576
theorem dN {k:Cfg}:aM k=0↔fL k:=by
 constructor
 ·intro h
  cases h1:wkB k with
  | false=>rw [BV h1] at h;omega
  | true=>
   cases h2:shB k with
   | false=>rw [BT h1 h2] at h;omega
   | true=>
    by_cases i:cT k.sizes=0
    ·cases h4:kq k with
     | false=>rw [BY h1 h2 i h4] at h;omega
     | true=>
      cases h5:baB k with
      | false=>rw [BU h1 h2 i h4 h5] at h;omega
      | true=>
       simp only [kq,Bool.and_eq_true] at h4
       obtain ⟨⟨⟨⟨⟨a1,u⟩,v⟩,o⟩,x⟩,y⟩:=h4
       exact ⟨by simpa [wkB] using h1,by simpa [shB] using h2,(tr _).1 i,iq a1,iq u,iq v,iq o,iq x,by simpa [mN] using y,by simpa [baB] using h5⟩
    ·rw [BS h1 h2 i] at h;exact absurd h i
 ·intro h
  refine BZ (by simpa [wkB] using h.w) (by simpa [shB] using h.s) (gL h.z) ?_ (by simpa [baB] using h.ba)
  simp only [kq,Bool.and_eq_true]
  exact ⟨⟨⟨⟨⟨by simpa [okB] using h.mi,by simpa [okB] using h.bu⟩,by simpa [okB] using h.ch⟩,by simpa [okB] using h.wi⟩,by simpa [okB] using h.ca⟩,by simpa [mN] using h.st⟩
theorem jR (A:Option Addr) (sz:List Int) (m c:Nat) (w:World) (hA:Rd w A (ar .i64 sz)) (T:bE sz) (h1:1≤m) (hm:m≤sz.length):
  Calls Tryz.prog 57 #[.slice A m c] w fun e w'=>e=.returned (FQ (aZ sz (m-1):Int))∧∃n,w'=w.drewN n:=by
 have a2:m≤16:=by have:=T.1.2;omega
 obtain ⟨u,J,Hm⟩:=ae hA T hm;clear hA T hm
 go_enter Tryz.func57,Tryz.ntmps57
 go_wp2_with fail
 go_loopw [3,4] (fun v i wr=>∃k:Nat,k+1≤m∧i=FQ k∧v=FQ (aZ sz k:Int)∧∃n,wr=w.drewN n) (fun _ i _=>m-(intOf i).toNat)
 case atStart=>exact ⟨0,h1,rfl,rfl,0,rfl⟩
 case round=>
  obtain ⟨k,hk,rfl,rfl,n,rfl⟩:=hrel
  by_cases a0:k+1<m
  ·have hm:=Hm.out
   have Q:=J.out.at (k:=k) (by omega)
   have D:=J.out.at (k:=k+1) (by omega)
   obtain ⟨b,o,rfl,p0⟩:=u.out.num (show k<sz.length by omega)
   obtain ⟨_,_,I,p1⟩:=u.out.num (show k+1<sz.length by omega)
   injection I with I;injection I with e1 e2 _;subst e1;subst e2
   have hb:=J.out.bound (k:=k+1) (by omega)
   rw [Q.2.2] at p0
   rw [D.2.2] at p1
   have hc:aZ sz (k+1)=aZ sz k+(szN sz k+1)*szN sz (k+1):=rfl
   obtain ⟨a,ha⟩:∃a,szN sz k=a:=⟨_,rfl⟩
   obtain ⟨d,Z⟩:∃d,szN sz (k+1)=d:=⟨_,rfl⟩
   obtain ⟨N,V⟩:∃N,aZ sz k=N:=⟨_,rfl⟩
   obtain ⟨M,x⟩:∃M,aZ sz (k+1)=M:=⟨_,rfl⟩
   obtain ⟨p,L⟩:∃p,(a+1)*d=p:=⟨_,rfl⟩
   rw [ha] at p0 Q hc
   rw [Z] at p1 D hc
   rw [V,x,L] at hc
   rw [x] at hb
   rw [V]
   have HM:=aa x;clear x V ha Z
   have y:(k:Int)+1<m:=by omega
   have Y:(k:Int)<m:=by omega
   have H:(0:Int)≤(k:Int)+1:=by omega
   have R:((k:Int)+1).toNat=k+1:=by omega
   have U:IntKind.i64.wrap ((k:Int)+1)=(k:Int)+1:=ER _ (by omega)
   have O:IntKind.i64.wrap ((a:Int)+1)=(a:Int)+1:=ER _ (by omega)
   have h:((a:Int)+1)*(d:Int)=(p:Int):=by rw [←L];push_cast;rfl
   have C:IntKind.i64.wrap (((a:Int)+1)*(d:Int))=(p:Int):=by rw [h];exact ER _ (by omega)
   have B:IntKind.i64.wrap ((N:Int)+(p:Int))=(M:Int):=by rw [ER _ (by omega)];omega
   clear h L hc hb Q D
   go_wp2_with fail
   go_quiet (fail)
   clear U O C B Y y H R
   go_wp2_with fail
   go_roundw
   case rel=>exact ⟨k+1,by omega,by go_num,by rw [HM.out],_,by first | rfl | exact World.drewN_drewN _ _ _⟩
   case measure=>simp [intOf];omega
  ·obtain rfl:k=m-1:=by omega
   have a1:IntKind.i64.wrap (((m-1:Nat):Int)+1)=(m:Int):=by rw [ER _ (by omega)];omega
   go_wp2_with fail
   go_ret
   exact ⟨rfl,n,rfl⟩
theorem qs (A:Option Addr) (sz:List Int) (c:Nat) (w:World) (hl:sz.length≤17592186043904) (h:¬(2≤sz.length∧sz.length≤16)):
  Calls Tryz.prog 92 #[.slice A sz.length c] w fun e i=>e=.returned (FQ 5)∧w=i:=by
 by_cases u:sz.length<2
 ·go_enter Tryz.func92,Tryz.ntmps92
  go_wp2
  go_ret
  exact ⟨rfl,rfl⟩
 ·have o:16<sz.length:=by omega
  go_enter Tryz.func92,Tryz.ntmps92
  go_wp2
  go_ret
  exact ⟨rfl,rfl⟩
def pV (sz:List Int):Int:=if 1048576<aZ sz (sz.length-1) then 4 else 0
theorem rz (A:Option Addr) (sz:List Int) (c:Nat) (w:World) (V:Rd w A (ar .i64 sz)) (h:2≤sz.length∧sz.length≤16):
  Calls Tryz.prog 92 #[.slice A sz.length c] w fun e T=>((bE sz∧e=.returned (FQ (pV sz)))∨(¬bE sz∧e=.returned (FQ 5)))∧∃n,T=w.drewN n:=by
 obtain ⟨h1,h2⟩:=h
 obtain ⟨n,hn⟩:∃n,sz.length=n:=⟨_,rfl⟩
 have J:=fun (C:bE sz)=>jR A sz n c w V C (by omega) (by omega)
 have C:(∀k,k<n→1≤nth sz k∧nth sz k≤1048576)→bE sz:=fun h=>⟨by omega,by rw [hn];exact h⟩
 have L:bE sz→∀k,k<n→1≤nth sz k∧nth sz k≤1048576:=fun h=>by rw [←hn];exact h.2
 have R:pV sz=if 1048576<aZ sz (n-1) then 4 else 0:=by unfold pV;rw [hn]
 rw [hn] at h1 h2 ⊢
 obtain ⟨Y,Q,HR,N,Z,O⟩:=ah V J C L hn R;clear V J C L hn R
 go_enter Tryz.func92,Tryz.ntmps92
 go_wp2_with fail
 go_loop [3] (fun i=>∃k:Nat,k≤n∧i=FQ k∧Hid (∀j,j<k→1≤nth sz j∧nth sz j≤1048576)) (fun i=>n-(intOf i).toNat)
 case atStart=>exact ⟨0,EQ _,rfl,Lib.hid fun j hj=>by omega⟩
 case round=>
  obtain ⟨k,hk,rfl,y⟩:=hrel
  by_cases D:k<n
  ·obtain ⟨b,o,rfl,p⟩:=Y.out.num (show k<sz.length by rw [Z.out];exact D)
   by_cases a0:nth sz k<1
   ·have u:¬bE sz:=fun h=>by have:=N.out h k D;omega
    have I:=aa u;clear u
    go_wp2_with fail
    go_ret
    exact ⟨.inr ⟨I.out,rfl⟩,0,rfl⟩
   ·by_cases a1:1048576<nth sz k
    ·have u:¬bE sz:=fun h=>by have:=N.out h k D;omega
     have I:=aa u;clear u
     go_wp2_with fail
     go_ret
     exact ⟨.inr ⟨I.out,rfl⟩,0,rfl⟩
    ·have Hz:=aa (show 1≤nth sz k∧nth sz k≤1048576 by omega)
     go_wp2_with fail
     go_round
     case rel=>exact ⟨k+1,by omega,by go_num,Lib.hid (p:=∀j,j<k+1→1≤nth sz j∧nth sz j≤1048576) fun j hj=>by
      rcases Fa j k with h | h
      ·exact y.out j h
      ·obtain rfl:j=k:=by omega
       exact Hz.out⟩
     case measure=>simp [intOf];omega
  ·obtain rfl:k=n:=by omega
   have C:=HR.out y.out
   have hb:=C.bound (k:=k-1) (by rw [Z.out];omega)
   have x:=aa C;clear C
   by_cases B:1048576<aZ sz (k-1)
   ·have U:(1048576:Int)<aZ sz (k-1):=by omega
    have v:pV sz=4:=by rw [O.out,if_pos B]
    have H:=aa v;clear v
    go_wp2_with fail
    refine (Q.out x.out).mono ?_
    rintro e T ⟨rfl,m,rfl⟩
    go_wp2_with fail
    go_ret
    exact ⟨.inl ⟨x.out,by rw [H.out];rfl⟩,m,rfl⟩
   ·have U:¬(1048576:Int)<aZ sz (k-1):=by omega
    have v:pV sz=0:=by rw [O.out,if_neg B]
    have H:=aa v;clear v
    go_wp2_with fail
    refine (Q.out x.out).mono ?_
    rintro e T ⟨rfl,m,rfl⟩
    go_wp2_with fail
    go_ret
    exact ⟨.inl ⟨x.out,by rw [H.out];rfl⟩,m,rfl⟩
end Go.Proofs.YtgmajkppbhiopaaGreat
