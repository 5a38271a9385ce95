/- No condition. -/
import Derived.Test.YtgmajkppbhiopaaGreatA00
import Derived.Test.YtgmajkppbhiopaaGreatA10
import Derived.Test.YtgmajkppbhiopaaGreatA05
import Derived.Test.YtgmajkppbhiopaaGreatA09
import Derived.Test.YtgmajkppbhiopaaGreatA03
import Derived.Test.YtgmajkppbhiopaaGreatA02
set_option linter.unusedSimpArgs false
set_option linter.unusedVariables false
set_option maxRecDepth 100000
set_option maxHeartbeats 4000000
namespace Go.Proofs.YtgmajkppbhiopaaGreat
open Go.RowKit
theorem mv:cH Tryz.prog 258 189 (.agg FV) 9 64:=⟨Tryz.underlying258,info_parts (by kernel_rfl),rfl,by decide⟩
theorem zQ (st bk lo C W c x ph r:Nat) (w:World) (R:1≤W) (O:W≤1048576) (U:x<W) (T:ph<2) (hr:r+1<W):
  Calls Tryz.prog 171 #[.agg #[FQ (st:Nat),FQ (bk:Nat),FQ (lo:Nat),FQ (C:Nat),FQ (W:Nat),FQ (c:Nat)],FQ x,FQ ph,FQ r,.bool true] w fun e u=>e=.returned (.tuple #[FQ (cU W x ph r:Nat),.bool true])∧Below w.heap.size w u:=by
 obtain ⟨s,J⟩:∃s,x+(2*W+ph-r)=s:=⟨_,rfl⟩
 have Y:(x:Int)-r+ph+2*W=(s:Int):=by omega
 have D:cU W x ph r=s%W:=by unfold cU;rw [←J]
 rw [D]
 have A:(s:Int).tmod (W:Int)=((s%W:Nat):Int):=rfl
 have B:(s:Int)%(W:Int)=((s%W:Nat):Int):=rfl
 have L:¬(W=0):=by omega
 have Q:¬((W:Int)≤x):=by omega
 have V:¬(1<(ph:Int)):=by omega
 have Z:¬((W:Int)-2<(r:Int)):=by omega
 obtain ⟨q,I⟩:∃q,s%W=q:=⟨_,rfl⟩
 rw [I] at A B ⊢
 obtain ⟨i,h⟩:∃i,w.alloc (.cells #[FQ (st:Nat),FQ (bk:Nat),FQ (lo:Nat),FQ (C:Nat),FQ (W:Nat),FQ (c:Nat)] 261)=i:=⟨_,rfl⟩
 have H:i.heap[w.heap.size]?=some (.cells #[FQ (st:Nat),FQ (bk:Nat),FQ (lo:Nat),FQ (C:Nat),FQ (W:Nat),FQ (c:Nat)] 261 (0,0)):=by rw [←h];exact EN w _
 have o:Below w.heap.size w i:=by rw [←h];exact (br w).alloc (EM _) _
 have t0:=fun u q=>bx6 (sb H u q)
 obtain ⟨y,v⟩:=ab h o
 have N:=br i
 clear h H o J I D
 go_enter Tryz.func171,Tryz.ntmps171
 go_wp2_with fail
 try rw [y.out]
 try go_wp2_with fail
 go_ret2
 exact ⟨rfl,v.out⟩
theorem CH (st bk lo C W c x ph r:Nat) (w:World) (R:1≤W) (O:W≤1048576) (U:x<W) (T:ph<2) (hr:r+1<W):
  Calls Tryz.prog 171 #[.agg #[FQ (st:Nat),FQ (bk:Nat),FQ (lo:Nat),FQ (C:Nat),FQ (W:Nat),FQ (c:Nat)],FQ x,FQ ph,FQ r,.bool false] w fun e u=>e=.returned (.tuple #[FQ (dV W x ph r:Nat),.bool true])∧Below w.heap.size w u:=by
 obtain ⟨s,J⟩:∃s,x+(2*W+ph-r-1)=s:=⟨_,rfl⟩
 have Y:(x:Int)-r+ph-1+2*W=(s:Int):=by omega
 have D:dV W x ph r=s%W:=by unfold dV;rw [←J]
 rw [D]
 have A:(s:Int).tmod (W:Int)=((s%W:Nat):Int):=rfl
 have B:(s:Int)%(W:Int)=((s%W:Nat):Int):=rfl
 have L:¬(W=0):=by omega
 have Q:¬((W:Int)≤x):=by omega
 have V:¬(1<(ph:Int)):=by omega
 have Z:¬((W:Int)-2<(r:Int)):=by omega
 obtain ⟨q,I⟩:∃q,s%W=q:=⟨_,rfl⟩
 rw [I] at A B ⊢
 obtain ⟨i,h⟩:∃i,w.alloc (.cells #[FQ (st:Nat),FQ (bk:Nat),FQ (lo:Nat),FQ (C:Nat),FQ (W:Nat),FQ (c:Nat)] 261)=i:=⟨_,rfl⟩
 have H:i.heap[w.heap.size]?=some (.cells #[FQ (st:Nat),FQ (bk:Nat),FQ (lo:Nat),FQ (C:Nat),FQ (W:Nat),FQ (c:Nat)] 261 (0,0)):=by rw [←h];exact EN w _
 have o:Below w.heap.size w i:=by rw [←h];exact (br w).alloc (EM _) _
 have t0:=fun u q=>bx6 (sb H u q)
 obtain ⟨y,v⟩:=ab h o
 have N:=br i
 clear h H o J I D
 go_enter Tryz.func171,Tryz.ntmps171
 go_wp2_with fail
 try rw [y.out]
 try go_wp2_with fail
 go_ret2
 exact ⟨rfl,v.out⟩
theorem vC {b:Rg} {k:Nat} (h:1≤k) (hb:b.1≤b.2):∀r∈cG b k,r.1≤r.2∧r.2≤b.2:=by
 intro r hr
 simp only [cG,shR,eh,List.map_map,List.mem_map,List.mem_range,Function.comp] at hr
 obtain ⟨i,o,rfl⟩:=hr
 have c:=eT (b.2-b.1) k (i+1) h (by omega)
 have d:=n5 (b.2-b.1) k (show i≤i+1 by omega)
 exact ⟨by simp only;omega,by simp only;omega⟩
theorem vJ (st bk lo h W c s:Nat) (w:World) (Y:1≤W) (h2:W≤1048576) (hs:s<W) (Z:lo≤h) (h4:h≤1048576) (h5:1≤c) (h6:c≤1048576):
  Calls Tryz.prog 172 #[.agg #[FQ (st:Nat),FQ (bk:Nat),FQ (lo:Nat),FQ (h:Nat),FQ (W:Nat),FQ (c:Nat)],FQ s] w fun e y=>∃v,e=.returned v∧y.ownsRow w.heap.size 187 2 v (chR (ay (cG (lo,h) W) s) c).length (az (chR (ay (cG (lo,h) W) s) c))∧Below w.heap.size w y:=by
 obtain ⟨u,i⟩:∃u,w.alloc (.cells #[FQ (st:Nat),FQ (bk:Nat),FQ (lo:Nat),FQ (h:Nat),FQ (W:Nat),FQ (c:Nat)] 261)=u:=⟨_,rfl⟩
 have V:u.heap[w.heap.size]?=some (.cells #[FQ (st:Nat),FQ (bk:Nat),FQ (lo:Nat),FQ (h:Nat),FQ (W:Nat),FQ (c:Nat)] 261 (0,0)):=by rw [←i];exact EN w _
 have C:Below w.heap.size w u:=by rw [←i];exact (br w).alloc (EM _) _
 have t0:=fun y q=>bx6 (sb V y q)
 have J:=vC (b:=(lo,h)) Y Z
 have N:=kg (lo,h) W
 have a0:(s:Int)<W:=by omega
 obtain ⟨L,x⟩:=ab i C
 have U:=br u
 clear i V C
 go_enter Tryz.func172,Tryz.ntmps172
 go_wp2_with fail
 rw [L.out]
 refine HA.g (fun y:World=>Below u.heap.size u y) ?_
 refine HA.t ?_ [0,1,2,3,5,8,9] U.drew ?_
 refine HA.c 4 (xk lo h W _ Y h2 Z h4) ?_
 rintro e T ⟨v2,rfl,O,k2⟩
 have A:=bt U.drew k2
 obtain ⟨g,c2,rfl,_⟩:=O.form (by omega)
 have Q:=fj O hs
 have o:=J (ay (cG (lo,h) W) s) (by rw [bq _ _ (by rw [N];exact hs)];exact List.getElem_mem _)
 try dsimp only at o
 obtain ⟨D,I,B⟩:∃D I,ay (cG (lo,h) W) s=(D,I):=⟨_,_,rfl⟩
 rw [B] at Q o
 try dsimp only at Q o
 obtain ⟨d0,d1⟩:=Q
 refine ⟨_,rfl,A,fun _=>?_⟩
 refine HA.v 6 T (.pointer (some ⟨g,s*2,none⟩)) A ?_
 refine HA.v 7 T (.agg #[FQ (D:Nat),FQ (I:Nat)]) A ?_
 refine HA.c 10 (xy D I c T h5 h6 o.1 (by omega)) ?_
 rintro e w4 ⟨v4,rfl,R,k4⟩
 have H:=bt A k4
 refine ⟨_,rfl,H,fun _=>?_⟩
 refine HA.t ?_ [11] H ?_
 refine HA.d ?_
 have hB:=aa (x.out.trans (H.mono x.out.size))
 rw [←B] at R
 have O4:=aa (aA (base':=w.heap.size) R (ES x.out.size A.size));clear R O k2 k4 A H t0
 go_wp2_with fail
 go_ret
 exact ⟨_,rfl,O4.out,hB.out⟩
theorem tM (st bk lo I W c x ph r:Nat) (w:World) (h1:1≤W) (h2:W≤1048576) (hx:x<W) (hp:ph<2) (hr:r+1<W) (h3:lo≤I) (h4:I≤1048576) (h5:1≤c) (h6:c≤1048576):
  Calls Tryz.prog 149 #[.agg #[FQ (st:Nat),FQ (bk:Nat),FQ (lo:Nat),FQ (I:Nat),FQ (W:Nat),FQ (c:Nat)],FQ x,FQ ph,FQ r] w fun e A=>∃v,e=.returned v∧A.ownsRow w.heap.size 189 9 v (bH st bk (lo,I) W c x ph r).length (cR (bH st bk (lo,I) W c x ph r))∧Below w.heap.size w A:=by
 obtain ⟨W0,bb⟩:∃W0,w.alloc (.cells #[FQ (st:Nat),FQ (bk:Nat),FQ (lo:Nat),FQ (I:Nat),FQ (W:Nat),FQ (c:Nat)] 261)=W0:=⟨_,rfl⟩
 have h0:W0.heap[w.heap.size]?=some (.cells #[FQ (st:Nat),FQ (bk:Nat),FQ (lo:Nat),FQ (I:Nat),FQ (W:Nat),FQ (c:Nat)] 261 (0,0)):=by rw [←bb];exact EN w _
 have cj:Below w.heap.size w W0:=by rw [←bb];exact (br w).alloc (EM _) _
 have t0:=fun A q=>bx6 (sb h0 A q)
 obtain ⟨cs,bI,H0⟩:=ae bb cj h0
 have q0:=br W0
 clear bb h0 cj
 go_enter Tryz.func149,Tryz.ntmps149
 go_wp2_with fail
 rw [cs.out]
 refine (zQ st bk lo I W c x ph r W0 h1 h2 hx hp hr).mono ?_
 rintro e w1 ⟨rfl,k1⟩
 have q1:=bt q0 k1
 go_wp2_with fail
 refine (CH st bk lo I W c x ph r w1 h1 h2 hx hp hr).mono ?_
 rintro e w2 ⟨rfl,k2⟩
 have q2:=bt q1 k2
 have cl:cU W x ph r<W:=Nat.mod_lt _ h1
 have cc:dV W x ph r<W:=Nat.mod_lt _ h1
 go_wp2_with fail
 refine (vJ st bk lo I W c _ w2 h1 h2 cl h3 h4 h5 h6).mono ?_
 rintro e w3 ⟨v3,rfl,o3,k3⟩
 have q3:=bt q2 k3
 obtain ⟨A3,c3,rfl,_⟩:=av o3
 go_wp2_with fail
 refine (vJ st bk lo I W c _ w3 h1 h2 cc h3 h4 h5 h6).mono ?_
 rintro e w4 ⟨v4,rfl,o4,k4⟩
 have q4:=bt q3 k4
 obtain ⟨A4,c4,rfl,_⟩:=av o4
 have bV:=aq o3 k4
 have cr:(chR (ay (cG (lo,I) W) (cU W x ph r)) c).length≤1048576:=nU h1 h3 h4
 have co:(chR (ay (cG (lo,I) W) (dV W x ph r)) c).length≤1048576:=nU h1 h3 h4
 have HR:Hid (bH st bk (lo,I) W c x ph r=fA (chR (ay (cG (lo,I) W) (cU W x ph r)) c) (chR (ay (cG (lo,I) W) (dV W x ph r)) c) (fun i s=>(⟨true,false,st,bk,ph,r,i,s⟩:Acn)) (fun i s=>(⟨false,ph==0,st,bk,ph,r,i,s⟩:Acn))):=Lib.hid rfl
 obtain ⟨X,hX⟩:∃X,chR (ay (cG (lo,I) W) (cU W x ph r)) c=X:=⟨_,rfl⟩
 obtain ⟨Y,hY⟩:∃Y,chR (ay (cG (lo,I) W) (dV W x ph r)) c=Y:=⟨_,rfl⟩
 rw [hX] at bV cr HR ⊢
 rw [hY] at o4 co HR ⊢
 obtain ⟨so,bl⟩:∃so,cU W x ph r=so:=⟨_,rfl⟩
 obtain ⟨si,bn⟩:∃si,dV W x ph r=si:=⟨_,rfl⟩
 rw [bl] at cl ⊢
 rw [bn] at cc ⊢
 obtain ⟨M,hM⟩:∃M:Nat,max X.length Y.length=M:=⟨_,rfl⟩
 obtain ⟨O3,O4,Q4,HM⟩:=af bV o4 q4 hM;clear o3 bV o4 q0 q1 q2 q3 q4 k1 k2 k3 k4 hX hY bl bn hM t0
 go_wp2_with fail
 go_loopw [15,16] (fun v y wr=>∃m:Nat,m≤M∧y=FQ m∧wr.ownsRow w4.heap.size 189 9 v (gi X Y (fun i s=>(⟨true,false,st,bk,ph,r,i,s⟩:Acn)) (fun i s=>(⟨false,ph==0,st,bk,ph,r,i,s⟩:Acn)) m).length (cR (gi X Y (fun i s=>(⟨true,false,st,bk,ph,r,i,s⟩:Acn)) (fun i s=>(⟨false,ph==0,st,bk,ph,r,i,s⟩:Acn)) m))∧Below w4.heap.size w4 wr) (fun _ y _=>M-(intOf y).toNat)
 case atStart=>exact ⟨0,EQ _,rfl,EZ _ _ _ _,EP _ _⟩
 case round=>
  obtain ⟨m,hm,rfl,ho,q⟩:=hrel
  have cw:=rE X Y (fun i s=>(⟨true,false,st,bk,ph,r,i,s⟩:Acn)) (fun i s=>(⟨false,ph==0,st,bk,ph,r,i,s⟩:Acn)) m
  have d0:M≤1048576:=by have:=HM.out;omega
  obtain ⟨Av,cv,rfl,_⟩:=av ho
  obtain ⟨v,hv⟩:∃v,Value.slice Av (gi X Y (fun i s=>(⟨true,false,st,bk,ph,r,i,s⟩:Acn)) (fun i s=>(⟨false,ph==0,st,bk,ph,r,i,s⟩:Acn)) m).length cv=v:=⟨_,rfl⟩
  rw [hv] at ho ⊢
  clear hv
  have bh:((ph:Int)==0)=(ph==0):=by rw [Bool.eq_iff_iff];simp
  have cx:IntKind.i64.wrap ((m:Int)+1)=((m+1:Nat):Int):=by rw [ER _ (by omega)];push_cast;rfl
  have uJ:=fun A (q':Below wr.heap.size wr A)=>bx6 (sb H0.out A (bt Q4.out (q.trans (q'.mono q.size))))
  obtain ⟨B,bi⟩:∃B,wr.alloc (.cells #[FQ (st:Nat),FQ (bk:Nat),FQ (ph:Nat),FQ (r:Nat),FQ (m:Nat)] 77)=B:=⟨_,rfl⟩
  have gT:B.heap[wr.heap.size]?=some (.cells #[FQ (st:Nat),FQ (bk:Nat),FQ (ph:Nat),FQ (r:Nat),FQ (m:Nat)] 77 (0,0)):=by rw [←bi];exact EN wr _
  have kt:Below wr.heap.size wr B:=by rw [←bi];exact (br wr).alloc (EM _) _
  have qr:=br wr
  obtain ⟨Ho,HT,HQ,C,D,bw⟩:=ah ho gT q (q.trans (kt.mono q.size)) (aq ho kt) bi;clear ho q gT kt bi
  by_cases h1:m<X.length
  ·have ct:(m:Int)<X.length:=by omega
   obtain ⟨gx,rfl⟩:∃gx,A3=some ⟨gx,0,none⟩:=by
    obtain ⟨g,e,hv,_⟩:=O3.out.form (by omega)
    simp only [FD] at hv
    exact ⟨g,hv.1⟩
   have px:=fj O3.out h1
   have bA:ay X m=((ay X m).1,(ay X m).2):=rfl
   obtain ⟨b1,cn⟩:∃b,(ay X m).1=b:=⟨_,rfl⟩
   obtain ⟨b2,cf⟩:∃b,(ay X m).2=b:=⟨_,rfl⟩
   rw [cn,cf] at px bA
   obtain ⟨b9,bd,ci⟩:=ae px.1 px.2 bA;clear px cn cf bA
   by_cases h2:m<Y.length
   ·have c7:(m:Int)<Y.length:=by omega
    obtain ⟨gy,rfl⟩:∃gy,A4=some ⟨gy,0,none⟩:=by
     obtain ⟨g,e,hv,_⟩:=O4.out.form (by omega)
     simp only [FD] at hv
     exact ⟨g,hv.1⟩
    have py:=fj O4.out h2
    have R:ay Y m=((ay Y m).1,(ay Y m).2):=rfl
    obtain ⟨b3,a4⟩:∃b,(ay Y m).1=b:=⟨_,rfl⟩
    obtain ⟨b4,b7⟩:∃b,(ay Y m).2=b:=⟨_,rfl⟩
    rw [a4,b7] at py R
    obtain ⟨a3,ad,bv⟩:=ae py.1 py.2 R;clear py a4 b7 R
    go_wp2_with fail
    rw [bw.out]
    clear uJ qr
    have T:=fun A (q:Keep (fun j=>v.ownBlock=some j) B A)=>(q.block _ (EL HT.out) (fun e=>an HT.out (by decide) D.out e.symm)).trans HT.out
    have bG:=fun A q=>bx5 (T A q)
    have V:∀g,g<w4.heap.size→¬v.ownBlock=some g:=fun g hg e=>by
     have h:=(D.out.lt g e).1
     omega
    have bz:=fun A (q:Keep (fun j=>v.ownBlock=some j) B A)=>q.cell (am C.out b9.out) (V _ (au b9.out))
    have c9:=fun A (q:Keep (fun j=>v.ownBlock=some j) B A)=>q.cell (am C.out bd.out) (V _ (au bd.out))
    have J:Keep (fun j=>v.ownBlock=some j) B B.drew:=(Keep.refl _ _).drew
    have N:=aa T;clear T V
    refine HA.g (fun A:World=>Keep (fun j=>v.ownBlock=some j) B A) ?_
    refine HA.t ?_ [0,1,2,3,4,5,6] J ?_
    obtain ⟨a5,Q⟩:∃a:Acn,a=⟨true,false,st,bk,ph,r,m,(b1,b2)⟩:=⟨_,rfl⟩
    refine HA.v 7 (B.drew.alloc (.cells (aE a5).toArray 189)) (.slice (some ⟨B.heap.size,0,none⟩) 1 1) (J.alloc _) ?_ (he:=by subst Q;go_simp;simp [aE,bh];try rfl)
    refine HA.o 8 (fun K' hK=>?_)
    have a1:=(D.out.drew).alloc (.cells (aE a5).toArray 189)
    have a8:=C.out.size
    refine bS mv (.tmp 66) (.tmp 73) rfl rfl w4.heap.size v _ _ rfl a1 (some ⟨B.heap.size,0,none⟩) 1 1 (aE a5) rfl (fun k u hu=>⟨_,_,rfl,by rw [FI,EO _ B.heap.size k (aE a5).toArray 189 (0,0) (EN B.drew _)];simpa using hu⟩) rfl (by simp [aE,Value.oneCell']) (by omega) (by unfold maxLen;omega) (by simp;omega) ?_
    intro A5 c5 O a2 bX b8 _
    have q5:Keep (fun j=>v.ownBlock=some j) B O:=(J.alloc _).grown b8 (fun k hk=>.inr hk)
    refine hK.out _ _ q5 fun _=>?_
    refine HA.t ?_ [9] q5 ?_
    refine HA.d ?_
    try simp only [Exit.then]
    obtain ⟨O5,T5,Q5,bo⟩:=af a2 (N.out O q5) (C.out.trans (q5.toBelow C.out.size (fun j hj=>(D.out.lt j hj).1))) Q;clear a2 bX b8 bG bz c9 J q5 hK K' a1 Q N a8
    go_wp2_with fail
    obtain ⟨v5,cd⟩:∃v,Value.slice A5 ((gi X Y (fun i s=>(⟨true,false,st,bk,ph,r,i,s⟩:Acn)) (fun i s=>(⟨false,ph==0,st,bk,ph,r,i,s⟩:Acn)) m).length+1) c5=v:=⟨_,rfl⟩
    rw [cd] at O5 ⊢
    clear cd
    have U:=fun A (q:Keep (fun j=>v5.ownBlock=some j) O A)=>(q.block _ (EL T5.out) (fun e=>an T5.out (by decide) O5.out e.symm)).trans T5.out
    have bM:=fun A q=>bx5 (U A q)
    have Z:∀g,g<w4.heap.size→¬v5.ownBlock=some g:=fun g hg e=>by
     have h:=(O5.out.lt g e).1
     omega
    have bO:=fun A (q:Keep (fun j=>v5.ownBlock=some j) O A)=>q.cell (am Q5.out a3.out) (Z _ (au a3.out))
    have bs:=fun A (q:Keep (fun j=>v5.ownBlock=some j) O A)=>q.cell (am Q5.out ad.out) (Z _ (au ad.out))
    have H:Keep (fun j=>v5.ownBlock=some j) O O.drew:=(Keep.refl _ _).drew
    have L:=aa U;clear U Z
    refine HA.g (fun A:World=>Keep (fun j=>v5.ownBlock=some j) O A) ?_
    refine HA.t ?_ [0,1,2,3,4,5,6,7,8] H ?_
    obtain ⟨a6,a0⟩:∃a:Acn,a=⟨false,ph==0,st,bk,ph,r,m,(b3,b4)⟩:=⟨_,rfl⟩
    refine HA.v 9 (O.drew.alloc (.cells (aE a6).toArray 189)) (.slice (some ⟨O.heap.size,0,none⟩) 1 1) (H.alloc _) ?_ (he:=by subst a0;go_simp;simp [aE,bh];try rfl)
    refine HA.o 10 (fun K' hK=>?_)
    have b6:=(O5.out.drew).alloc (.cells (aE a6).toArray 189)
    have b5:=Q5.out.size
    refine bS mv (.tmp 79) (.tmp 88) rfl rfl w4.heap.size v5 _ _ rfl b6 (some ⟨O.heap.size,0,none⟩) 1 1 (aE a6) rfl (fun k u hu=>⟨_,_,rfl,by rw [FI,EO _ O.heap.size k (aE a6).toArray 189 (0,0) (EN O.drew _)];simpa using hu⟩) rfl (by simp [aE,Value.oneCell']) (by omega) (by unfold maxLen;omega) (by simp;omega) ?_
    intro A6 c6 w6 a7 bN b0 _
    have q6:Keep (fun j=>v5.ownBlock=some j) O w6:=(H.alloc _).grown b0 (fun k hk=>.inr hk)
    refine hK.out _ _ q6 fun _=>?_
    refine HA.t ?_ [11] q6 ?_
    refine HA.d ?_
    try simp only [Exit.then]
    obtain ⟨O6,T6,Q6,c8⟩:=af a7 (L.out w6 q6) (Q5.out.trans (q6.toBelow Q5.out.size (fun j hj=>(O5.out.lt j hj).1))) a0;clear a7 bN b0 bM bO bs H q6 hK K' b6 a0 L b5
    go_wp2_with fail
    go_roundw
    case rel=>exact ⟨m+1,by have:=HM.out;omega,by go_num,by rw [←jx];simp only [fC,h1,h2,if_true,if_false,Bool.not_true,Bool.not_false,Bool.false_and,Bool.true_and];have:=O6.out;rw [bo.out,c8.out] at this;simpa [cR,ci.out,bv.out,Fp] using this,Q6.out⟩
    case measure=>have:=HM.out;simp [intOf];omega
   ·have c7:¬((m:Int)<Y.length):=by omega
    go_wp2_with fail
    rw [bw.out]
    clear uJ qr
    have T:=fun A (q:Keep (fun j=>v.ownBlock=some j) B A)=>(q.block _ (EL HT.out) (fun e=>an HT.out (by decide) D.out e.symm)).trans HT.out
    have bG:=fun A q=>bx5 (T A q)
    have V:∀g,g<w4.heap.size→¬v.ownBlock=some g:=fun g hg e=>by
     have h:=(D.out.lt g e).1
     omega
    have bz:=fun A (q:Keep (fun j=>v.ownBlock=some j) B A)=>q.cell (am C.out b9.out) (V _ (au b9.out))
    have c9:=fun A (q:Keep (fun j=>v.ownBlock=some j) B A)=>q.cell (am C.out bd.out) (V _ (au bd.out))
    have J:Keep (fun j=>v.ownBlock=some j) B B.drew:=(Keep.refl _ _).drew
    have N:=aa T;clear T V
    refine HA.g (fun A:World=>Keep (fun j=>v.ownBlock=some j) B A) ?_
    refine HA.t ?_ [0,1,2,3,4,5,6] J ?_
    obtain ⟨a5,Q⟩:∃a:Acn,a=⟨true,false,st,bk,ph,r,m,(b1,b2)⟩:=⟨_,rfl⟩
    refine HA.v 7 (B.drew.alloc (.cells (aE a5).toArray 189)) (.slice (some ⟨B.heap.size,0,none⟩) 1 1) (J.alloc _) ?_ (he:=by subst Q;go_simp;simp [aE,bh];try rfl)
    refine HA.o 8 (fun K' hK=>?_)
    have a1:=(D.out.drew).alloc (.cells (aE a5).toArray 189)
    have a8:=C.out.size
    refine bS mv (.tmp 66) (.tmp 73) rfl rfl w4.heap.size v _ _ rfl a1 (some ⟨B.heap.size,0,none⟩) 1 1 (aE a5) rfl (fun k u hu=>⟨_,_,rfl,by rw [FI,EO _ B.heap.size k (aE a5).toArray 189 (0,0) (EN B.drew _)];simpa using hu⟩) rfl (by simp [aE,Value.oneCell']) (by omega) (by unfold maxLen;omega) (by simp;omega) ?_
    intro A5 c5 O a2 bX b8 _
    have q5:Keep (fun j=>v.ownBlock=some j) B O:=(J.alloc _).grown b8 (fun k hk=>.inr hk)
    refine hK.out _ _ q5 fun _=>?_
    refine HA.t ?_ [9] q5 ?_
    refine HA.d ?_
    try simp only [Exit.then]
    obtain ⟨O5,T5,Q5,bo⟩:=af a2 (N.out O q5) (C.out.trans (q5.toBelow C.out.size (fun j hj=>(D.out.lt j hj).1))) Q;clear a2 bX b8 bG bz c9 J q5 hK K' a1 Q N a8
    go_wp2_with fail
    go_roundw
    case rel=>exact ⟨m+1,by have:=HM.out;omega,by go_num,by rw [←jx];simp only [fC,h1,h2,if_true,if_false,Bool.not_true,Bool.not_false,Bool.false_and,Bool.true_and];have:=O5.out;rw [bo.out] at this;simpa [cR,ci.out,Fp] using this,Q5.out⟩
    case measure=>have:=HM.out;simp [intOf];omega
  ·have ct:¬((m:Int)<X.length):=by omega
   by_cases h2:m<Y.length
   ·have c7:(m:Int)<Y.length:=by omega
    obtain ⟨gy,rfl⟩:∃gy,A4=some ⟨gy,0,none⟩:=by
     obtain ⟨g,e,hv,_⟩:=O4.out.form (by omega)
     simp only [FD] at hv
     exact ⟨g,hv.1⟩
    have py:=fj O4.out h2
    have R:ay Y m=((ay Y m).1,(ay Y m).2):=rfl
    obtain ⟨b3,a4⟩:∃b,(ay Y m).1=b:=⟨_,rfl⟩
    obtain ⟨b4,b7⟩:∃b,(ay Y m).2=b:=⟨_,rfl⟩
    rw [a4,b7] at py R
    obtain ⟨a3,ad,bv⟩:=ae py.1 py.2 R;clear py a4 b7 R
    go_wp2_with fail
    rw [bw.out]
    clear uJ qr
    have U:=fun A (q:Keep (fun j=>v.ownBlock=some j) B A)=>(q.block _ (EL HT.out) (fun e=>an HT.out (by decide) D.out e.symm)).trans HT.out
    have bM:=fun A q=>bx5 (U A q)
    have Z:∀g,g<w4.heap.size→¬v.ownBlock=some g:=fun g hg e=>by
     have h:=(D.out.lt g e).1
     omega
    have bO:=fun A (q:Keep (fun j=>v.ownBlock=some j) B A)=>q.cell (am C.out a3.out) (Z _ (au a3.out))
    have bs:=fun A (q:Keep (fun j=>v.ownBlock=some j) B A)=>q.cell (am C.out ad.out) (Z _ (au ad.out))
    have H:Keep (fun j=>v.ownBlock=some j) B B.drew:=(Keep.refl _ _).drew
    have L:=aa U;clear U Z
    refine HA.g (fun A:World=>Keep (fun j=>v.ownBlock=some j) B A) ?_
    refine HA.t ?_ [0,1,2,3,4,5,6,7,8] H ?_
    obtain ⟨a6,a0⟩:∃a:Acn,a=⟨false,ph==0,st,bk,ph,r,m,(b3,b4)⟩:=⟨_,rfl⟩
    refine HA.v 9 (B.drew.alloc (.cells (aE a6).toArray 189)) (.slice (some ⟨B.heap.size,0,none⟩) 1 1) (H.alloc _) ?_ (he:=by subst a0;go_simp;simp [aE,bh];try rfl)
    refine HA.o 10 (fun K' hK=>?_)
    have b6:=(D.out.drew).alloc (.cells (aE a6).toArray 189)
    have b5:=C.out.size
    refine bS mv (.tmp 79) (.tmp 88) rfl rfl w4.heap.size v _ _ rfl b6 (some ⟨B.heap.size,0,none⟩) 1 1 (aE a6) rfl (fun k u hu=>⟨_,_,rfl,by rw [FI,EO _ B.heap.size k (aE a6).toArray 189 (0,0) (EN B.drew _)];simpa using hu⟩) rfl (by simp [aE,Value.oneCell']) (by omega) (by unfold maxLen;omega) (by simp;omega) ?_
    intro A6 c6 w6 a7 bN b0 _
    have q6:Keep (fun j=>v.ownBlock=some j) B w6:=(H.alloc _).grown b0 (fun k hk=>.inr hk)
    refine hK.out _ _ q6 fun _=>?_
    refine HA.t ?_ [11] q6 ?_
    refine HA.d ?_
    try simp only [Exit.then]
    obtain ⟨O6,T6,Q6,c8⟩:=af a7 (L.out w6 q6) (C.out.trans (q6.toBelow C.out.size (fun j hj=>(D.out.lt j hj).1))) a0;clear a7 bN b0 bM bO bs H q6 hK K' b6 a0 L b5
    go_wp2_with fail
    go_roundw
    case rel=>exact ⟨m+1,by have:=HM.out;omega,by go_num,by rw [←jx];simp only [fC,h1,h2,if_true,if_false,Bool.not_true,Bool.not_false,Bool.false_and,Bool.true_and];have:=O6.out;rw [c8.out] at this;simpa [cR,bv.out,Fp] using this,Q6.out⟩
    case measure=>have:=HM.out;simp [intOf];omega
   ·have c7:¬((m:Int)<Y.length):=by omega
    have cq:m=M:=by have:=HM.out;omega
    have hb:=aA (base':=w.heap.size) Ho.out (ES bI.out.size Q4.out.size)
    have cb:bH st bk (lo,I) W c x ph r=gi X Y (fun i s=>(⟨true,false,st,bk,ph,r,i,s⟩:Acn)) (fun i s=>(⟨false,ph==0,st,bk,ph,r,i,s⟩:Acn)) m:=by
     rw [HR.out,cq,←HM.out];rfl
    rw [←cb] at hb
    obtain ⟨Hb,Hq⟩:=ab hb (bI.out.trans ((bt Q4.out (HQ.out)).mono bI.out.size));clear hb cb uJ
    go_wp2_with fail
    go_ret
    exact ⟨_,rfl,Hb.out,Hq.out⟩
theorem tu (S n b steps t:Nat) (l:List Int) (w:World) (h:dB w S n b steps l) (hb:1≤b) (hn:n≤1048576) (y:1≤n/b) (Y:steps≤1048576) (ht:t<steps):
  Calls Tryz.prog 247 #[.pointer (some ⟨S,0,none⟩),FQ t] w fun e w'=>∃A c,e=.returned (.slice A b c)∧b≤c∧Rd w' A (ar .i64 (et l n b t))∧Below w.heap.size w w':=by
 have u:=tD S n b steps t l w h hn y Y ht
 obtain ⟨Ab,cb,Ao,co,vs,C,R,h3,h4,h5⟩:=h
 have a1:=Nat.div_le_self n b
 have he:=BH (n:=n) (b:=b) ht
 have hm:=Nat.mod_lt t y
 have J:=mz n b _ hm
 have O:=wN n b _ hb hm
 have i:=ve (n-n%b) b hm
 rw [O] at i
 obtain ⟨A1,c1,k1,k2,T⟩:=h5 _ he
 have H:et l n b t=((im l n ((t/(n/b))*(n-1))).drop (t%(n/b)*b)).take b:=rfl
 rw [H]
 have a2:epN n b steps≤steps:=dR _ _
 obtain ⟨pl,B⟩:∃pl,im l n ((t/(n/b))*(n-1))=pl:=⟨_,rfl⟩
 have a3:pl.length=n:=by rw [←B];exact pE _ _ _
 rw [B] at T ⊢
 obtain ⟨E,hE⟩:∃E,epN n b steps=E:=⟨_,rfl⟩
 rw [hE] at he C h4 a2
 obtain ⟨V,D⟩:∃V,t/(n/b)=V:=⟨_,rfl⟩
 obtain ⟨U,Q⟩:∃U,t%(n/b)=U:=⟨_,rfl⟩
 rw [D] at u he k1
 rw [Q] at u hm J i ⊢
 obtain ⟨nb,x⟩:∃nb,n/b=nb:=⟨_,rfl⟩
 rw [x] at C R y hm a1 i
 obtain ⟨lo,L⟩:∃lo,U*b=lo:=⟨_,rfl⟩
 rw [L] at J i ⊢
 obtain ⟨bb,ob,rfl,q0⟩:=R _ _ i.1
 obtain ⟨_,_,e2,q1⟩:=R _ _ i.2
 injection e2 with e2;injection e2 with i1 i2 _;subst i1;subst i2
 obtain ⟨bo,oo,rfl,q2⟩:=h3 _ _ k1
 obtain ⟨bg,og,rfl,q3⟩:=T.num (show 0<pl.length by omega)
 rw [←FH] at q1
 have ad:(U:Int)<nb:=by omega
 have bd:(V:Int)<E:=by omega
 have a6:(lo:Int)≤((lo+b:Nat):Int):=by omega
 have b5:((lo+b:Nat):Int)≤c1:=by omega
 have b0:lo≤lo+b:=by omega
 have b6:lo+b≤c1:=by omega
 have b9:¬(c1=lo):=by omega
 have b1:bo<w.heap.size:=au q2
 have b2:bb<w.heap.size:=au q0
 obtain ⟨⟨r0,r1,r2,r3⟩,rf⟩:=bx4 C
 have b3:S<w.heap.size:=EL C
 obtain ⟨H1,Z,K3⟩:=ae C u T;clear u T C R h3 h4 h5 hE D Q x L B a3 i k1 q3 O H
 go_enter Tryz.func247,Tryz.ntmps247
 go_wp2_with fail
 refine Z.out.mono ?_
 rintro e w' ⟨rfl,d,rfl⟩
 have o:Below w.heap.size w (w.drewN d):=EW (EP _ _) d
 have v:(w.drewN d).heap.size=w.heap.size:=by simp
 generalize w.drewN d=w1 at o v ⊢
 have b4:=am o q0
 have a8:=am o q1
 have bi:=am o q2
 have I:=(o.block _ b3).trans H1.out
 obtain ⟨⟨y0,y1,y2,y3⟩,yf⟩:=bx4 I
 rw [←v] at b1 b2 b3
 obtain ⟨N,a0⟩:=ab o v;clear q0 q1 q2 r0 r1 r2 r3 rf o v I
 go_wp2_with fail
 have b7:(lo:Int)+b≤c1:=by omega
 have b8:((lo:Int)+b).toNat=lo+b:=by omega
 have a5:(0:Int)≤(lo:Int)+b:=by omega
 have bh:(lo:Int)≤(lo:Int)+b:=by omega
 have a4:lo+b-lo=b:=by omega
 have a7:¬(lo+b=lo):=by omega
 go_quiet (fail)
 go_wp2_with fail
 go_ret
 refine ⟨_,_,rfl,EM _,?_,EW (N.out.alloc (by have:=a0.out;omega) _) _⟩
 have:=((((K3.out.below N.out).alloc (.cells #[FQ (lo:Int),FQ ((lo:Int)+b)] 148)).drewN nq).drop lo).take b
 rwa [dP,du] at this
def cV (l:List Int) (k i:Nat):List Int:=(l.drop (bdN l.length k i)).take (bdN l.length k (i+1)-bdN l.length k i)
theorem jS (l:List Int) {k i:Nat} (hk:1≤k) (h:i<k):(cV l k i).length=bdN l.length k (i+1)-bdN l.length k i:=by
 have o:=eT l.length k (i+1) hk h
 simp only [cV,Fv,Fy]
 omega
def jW (l:List Int) (W x mi a:Nat):List Int:=cV (cV l W x) mi a
def Ed (L:List Int) (m:Nat) (w:World) (e:Ending) (h:World):Prop:=∃i o,e=.returned (.slice i m o)∧m≤o∧Rd h i (ar .i64 L)∧Below w.heap.size w h
theorem pD (A:Option Addr) (l:List Int) (c k i:Nat) (w:World) (O:Rd w A (ar .i64 l)) (hc:l.length≤c) (hl:l.length≤1048576) (hn:0<l.length) (hk:1≤k) (L:k≤1048576) (J:i<k):
  Calls Tryz.prog 248 #[.slice A l.length c,FQ i,FQ k] w (Ed (cV l k i) (cV l k i).length w):=by
 have u:=nJ l.length k w hk L hl
 obtain ⟨b,o,rfl,_⟩:=O.num hn
 have x:=jS l hk J
 have I:cV l k i=(l.drop (bdN l.length k i)).take (bdN l.length k (i+1)-bdN l.length k i):=rfl
 have U:=n5 l.length k (Nat.le_succ i)
 have R:=eT l.length k (i+1) hk J
 have B:=dm (l:=eh l.length k) (j:=i) (by rw [dy];exact J)
 have hr:ay (eh l.length k) i=(bdN l.length k i,bdN l.length k (i+1)):=by
  rw [bq _ _ (by rw [dy];exact J)];simp [eh]
 rw [hr] at B
 rw [x]
 obtain ⟨P,Y⟩:∃P,cV l k i=P:=⟨_,rfl⟩
 obtain ⟨lo,H⟩:∃lo,bdN l.length k i=lo:=⟨_,rfl⟩
 obtain ⟨h,y⟩:∃h,bdN l.length k (i+1)=h:=⟨_,rfl⟩
 simp only [Nat.succ_eq_add_one] at U
 rw [Y] at I ⊢
 rw [H,y] at I U B ⊢
 rw [y] at R
 obtain ⟨V,Z⟩:∃V,az (eh l.length k)=V:=⟨_,rfl⟩
 rw [Z] at u B
 obtain ⟨n,D⟩:∃n,l.length=n:=⟨_,rfl⟩
 rw [D] at u hc hl hn R ⊢
 have a2:(i:Int)<k:=by omega
 have a3:¬(i:Int)<0:=by omega
 obtain ⟨N,HA,T,HP⟩:=af u O B I;clear u O B I hr x Y H y D Z
 go_enter Tryz.func248,Tryz.ntmps248
 go_wp2_with fail
 refine N.out.mono ?_
 rintro e w1 ⟨v,rfl,ov,Q⟩
 obtain ⟨g,cv,rfl,_⟩:=ov.form (by omega)
 have c0:=ov.cellAt (i*2) (by omega)
 have c1:=ov.cellAt (i*2+1) (by omega)
 rw [T.out.1] at c0
 rw [T.out.2] at c1
 have lg:=(ov.lt g rfl).2
 have C:=aa Q;clear ov Q
 by_cases hz:h=lo
 ·subst hz
  go_wp2_with fail
  go_ret
  refine ⟨_,0,by rw [Nat.sub_self];rfl,by omega,?_,C.out.alloc C.out.size _⟩
  rw [HP.out,Nat.sub_self,List.take_zero]
  exact Rd.nil _ _
 ·have a0:¬(h:Int)=lo:=by omega
  have a1:¬h-lo=0:=by omega
  go_wp2_with fail
  go_ret
  refine ⟨_,_,rfl,EM _,?_,C.out.alloc C.out.size _⟩
  have:=(((HA.out.below C.out).alloc (.cells #[FQ (lo:Int),FQ (h:Int)] 148)).drop lo).take (h-lo)
  rwa [dP,du,←HP.out] at this
theorem ya (S n b steps t W x mi a:Nat) (l:List Int) (w:World) (h:dB w S n b steps l) (hb:1≤b) (a5:b≤n) (hn:n≤1048576) (a1:steps≤1048576) (ht:t<steps) (hW:1≤W) (a7:W≤b) (hx:x<W) (hm:1≤mi) (a2:mi≤1048576) (ha:a<mi):
  Calls Tryz.prog 232 #[.pointer (some ⟨S,0,none⟩),FQ t,FQ x,FQ W,FQ a,FQ mi] w (Ed (jW (et l n b t) W x mi a) (jW (et l n b t) W x mi a).length w):=by
 have U:1≤n/b:=Nat.div_pos a5 hb
 have y:=j3 l (t:=t) U
 have hv:=fun i (q:Below w.heap.size w i)=>tu S n b steps t l i (h.below q) hb hn U a1 ht
 obtain ⟨B,hB⟩:∃B,et l n b t=B:=⟨_,rfl⟩
 rw [hB] at y hv ⊢
 have hP:=jS B hW hx
 have Y:bdN B.length W x+1≤bdN B.length W (x+1):=by
  rw [n4]
  have:1≤B.length/W:=Nat.div_pos (by omega) (by omega)
  unfold szE
  omega
 have o:=fun A c i (I:Rd i A (ar .i64 B)) (hc:B.length≤c)=>pD A B c W x i I hc (by omega) (by omega) hW (by omega) hx
 obtain ⟨Q,hQ⟩:∃Q,cV B W x=Q:=⟨_,rfl⟩
 have L:jW B W x mi a=cV Q mi a:=by unfold jW;rw [hQ]
 rw [hQ] at hP o
 have H:Q.length≤1048576:=by have:=eT B.length W (x+1) hW hx;omega
 have u:=fun A c i (I:Rd i A (ar .i64 Q)) (hc:Q.length≤c)=>pD A Q c mi a i I hc H (by omega) hm a2 ha
 have T:=jS Q hm ha
 have Z:=eT Q.length mi (a+1) hm ha
 rw [L]
 obtain ⟨M,hM⟩:∃M,cV Q mi a=M:=⟨_,rfl⟩
 rw [hM] at u T ⊢
 have C:=fun A c i (I:Rd i A (ar .i64 M))=>iU A M c i I (by omega)
 rw [y] at o
 obtain ⟨qn,D⟩:∃qn,Q.length=qn:=⟨_,rfl⟩
 rw [D] at o u
 obtain ⟨V,R⟩:∃V,M.length=V:=⟨_,rfl⟩
 rw [R] at u C ⊢
 obtain ⟨Hv,a0,a3,a4⟩:=af hv o u C;clear hv o u C h T Z hP Y y H R D hM L hQ hB
 go_enter Tryz.func232,Tryz.ntmps232
 go_wp2_with fail
 refine (Hv.out w (br w)).mono ?_
 rintro e w1 ⟨A1,c1,rfl,J,r1,k1⟩
 obtain ⟨H1,K1⟩:=ab (a0.out A1 c1 w1 r1 J) k1;clear J r1 k1
 go_wp2_with fail
 refine H1.out.mono ?_
 rintro e w2 ⟨A2,c2,rfl,O,r2,k2⟩
 obtain ⟨H2,K2⟩:=ab (a3.out A2 c2 w2 r2 O) (bt K1.out k2);clear O r2 k2
 go_wp2_with fail
 refine H2.out.mono ?_
 rintro e w3 ⟨A3,c3,rfl,a6,r3,k3⟩
 obtain ⟨H3,K3⟩:=ab (a4.out A3 c3 w3 r3) (bt K2.out k3);clear a6 r3 k3
 go_wp2_with fail
 refine H3.out.mono ?_
 rintro e w4 ⟨v,rfl,o4,k4⟩
 obtain ⟨A4,c4,rfl,N⟩:=av o4
 have HP:=aa (⟨A4,c4,rfl,N,Rd.own o4,bt K3.out k4⟩:Ed M V w (.returned (.slice A4 V c4)) w4);clear o4 k4 N
 go_wp2_with fail
 go_ret
 exact HP.out
section
variable {P:Program} {ops:Array Oper} {Q:Exit→Act→World→Prop} {S:World→Prop}
theorem HA.sole {L:List Nat} {a:Act} {w:World} (i:Nat) (u:HAS P ops Q S i L a w) (hr:bW ops L=[i]:=by decide +kernel):HA P ops Q S L a w:=by
 obtain ⟨o,v,h⟩:=u
 exact HA.one i v hr h
theorem HAS.st {L:List Nat} {a:Act} {w:World} {i:Nat} {o:Oper} {v:TypeId} {x y:Operand} {b m:Nat} {xs h:Array Value} {t:TypeId} (hb:w.heap[b]?=some (.cells xs t (0,0))) (hr:dt P v m)
  (k:∀u,u.heap[b]?=some (.cells h t (0,0))→Keep (fun j=>j=b) w u→S u∧HA P ops Q S (i::L) (a.put o.dst undef) u)
  (A:ops[i]?=some o:=by (simp only [Fj,Fk,Fl];rfl)) (hop:o.op=.store v x y:=by rfl) (hx:a.eval x=.pointer (some ⟨b,0,none⟩):=by rfl) (hy:a.eval y=.agg h:=by rfl)
  (hn:h.size=m:=by rfl) (hs:xs.size=h.size:=by rfl) (h1:h.toList.all (·.oneCell')=true:=by rfl) (hw:Region.wanted o (yielded ops a.tmps)=true:=by rfl):HAS P ops Q S i L a w:=by
 obtain ⟨B,k⟩:=k _ (setRow_heap w b xs h t (0,0) hb) (jf w b h)
 refine ⟨o,A,fun D C=>?_⟩
 rw [if_pos hw]
 unfold Oper.wp
 have he:(execOp a.eval o).run P w=.ok .skip (w.setRow b h):=by
  unfold execOp
  simp only [hop,hx,hy,Instr.storeAt,Instr.sureAddr,Sem.run_bind,Sem.run_pure,Result.andThen_ok,run_storeVar_row w b t v xs h hb (by rw [hn];exact hr.s) hs (by rw [←Array.all_toList];exact h1)]
 rw [he]
 exact C.out _ _ B fun _=>k
end
theorem CK {w v i h:World} {U V:Nat} {x y:Array Value} {t:TypeId} (ne:U≠V) (B:w.heap.size≤U) (o:w.heap.size≤V) (hb:Below w.heap.size w v) (C:i.heap[U]?=some (.cells x t (0,0))) (D:Keep (fun j=>j=U) v i)
  (H:h.heap[V]?=some (.cells y t (0,0))) (u:Keep (fun j=>j=V) i h):h.heap[U]?=some (.cells x t (0,0))∧h.heap[V]?=some (.cells y t (0,0))∧U≠V∧w.heap.size≤U∧w.heap.size≤V∧Below w.heap.size w h:=
 have A:=hb.trans (D.toBelow hb.size (fun j e=>by rw [e];exact B))
 ⟨(u.block U (EL C) ne).trans C,H,ne,B,o,A.trans (u.toBelow A.size (fun j e=>by rw [e];exact o))⟩
theorem Ce {w h:World} {B U:Nat} {W1:World} (q:Below B W1 w) (k:Keep (fun j=>j=U) w h) (hB:B≤w.heap.size) (i:B≤U):Below B W1 h:=q.trans (k.toBelow hB (fun j e=>by rw [e];exact i))
theorem Ei {w:World} {b:Nat} {t:TypeId} {I A v H x D C B u y i o v0 v1 v2 v3 v4 v5 v6 v7 v8 v9 v10 v11:Value} (h:w.heap[b]?=some (.cells #[I,A,v,H,x,D,C,B,u,y,i,o] t (0,0))):
  ((((((((((((w.setCell ⟨b,0,none⟩ v0).setCell ⟨b,1,none⟩ v1).setCell ⟨b,2,none⟩ v2).setCell ⟨b,3,none⟩ v3).setCell ⟨b,4,none⟩ v4).setCell ⟨b,5,none⟩ v5).setCell ⟨b,6,none⟩ v6).setCell ⟨b,7,none⟩ v7).setCell ⟨b,8,none⟩ v8).setCell ⟨b,9,none⟩ v9).setCell ⟨b,10,none⟩ v10).setCell ⟨b,11,none⟩ v11).heap[b]?=some (.cells #[v0,v1,v2,v3,v4,v5,v6,v7,v8,v9,v10,v11] t (0,0)):=ss (ss (ss (ss (ss (ss (ss (ss (ss (ss (ss (ss h rfl) rfl) rfl) rfl) rfl) rfl) rfl) rfl) rfl) rfl) rfl) (by simp)
theorem nv (x:Itm):(aS x).length=12:=by
 rcases x with ⟨k,s,n,a⟩
 cases a<;>rfl
theorem Da {w:World} {A:Option Addr} {l:List Itm} (h:Rd w A (bJ l)) {i:Nat} {y:Itm} (B:l[i]?=some y):∃b o,A=some ⟨b,o,none⟩∧∀f,f<12→w.cell? ⟨b,o+(i*12+f),none⟩=(aS y)[f]?:=by
 have D:=mt nv B 0 (by omega)
 obtain ⟨b,o,e,_⟩:=h _ ((aS y)[0]'(by rw [nv];omega)) (D.trans (Fr _))
 refine ⟨b,o,e,fun f v=>?_⟩
 have C:=mt nv B f v
 have x:(aS y)[f]?=some ((aS y)[f]'(by rw [nv];exact v)):=Fr _
 obtain ⟨H,I,u,c⟩:=h _ _ (C.trans x)
 rw [e] at u
 injection u with u
 injection u with e1 e2 _
 subst e1;subst e2
 rw [c,x]
theorem vQ (b nx il ic u x:Nat) (c0 c1 c2 c3 c4 c5 c6 c7 c8 c9 a4 b4 a7 b5 a2 ad a5:Value) (Z Y J:Int) (H L:Bool) (Q V T R I O U:Int) (w:World)
  (hb:w.heap[b]?=some (.cells #[c0,c1,c2,c3,c4,c5,c6,c7,c8,c9,a4,b4,a7,b5,a2,.slice (some ⟨u,x,none⟩) il ic,FQ (nx:Nat),ad,a5] 179 (0,0))) (hx:nx<il)
  (hc:w.cell? ⟨u,x+nx*12,none⟩=some (FQ Z)∧w.cell? ⟨u,x+nx*12+1,none⟩=some (FQ Y)∧w.cell? ⟨u,x+nx*12+2,none⟩=some (FQ J)∧w.cell? ⟨u,x+nx*12+3,none⟩=some (.bool H)∧w.cell? ⟨u,x+nx*12+4,none⟩=some (.bool L)∧w.cell? ⟨u,x+nx*12+5,none⟩=some (FQ Q)∧w.cell? ⟨u,x+nx*12+6,none⟩=some (FQ V)∧w.cell? ⟨u,x+nx*12+7,none⟩=some (FQ T)∧w.cell? ⟨u,x+nx*12+8,none⟩=some (FQ R)∧w.cell? ⟨u,x+nx*12+9,none⟩=some (FQ I)∧w.cell? ⟨u,x+nx*12+10,none⟩=some (FQ O)∧w.cell? ⟨u,x+nx*12+11,none⟩=some (FQ U)):
  Calls Tryz.prog 218 #[.pointer (some ⟨b,0,none⟩)] w fun e i=>e=.returned (.tuple #[.agg #[FQ Z,FQ Y,FQ J,.bool H,.bool L,FQ Q,FQ V,FQ T,FQ R,FQ I,FQ O,FQ U],.bool true])∧Below w.heap.size w i:=by
 obtain ⟨o,B⟩:∃o,w.alloc (.cells FU 152)=o:=⟨_,rfl⟩
 have g0:o.heap[w.heap.size]?=some (.cells FU 152 (0,0)):=by rw [←B];exact EN w _
 have h:Below w.heap.size w o:=by rw [←B];exact (br w).alloc (EM _) _
 have hs:=EL hb
 have kb:=fun i (q:Keep (fun j=>j=w.heap.size) o i)=>(q.block b (by have:=h.size;omega) (by omega)).trans (sb hb o h)
 have tb:=fun i q=>Eo (kb i q)
 obtain ⟨h0,h1,h2,h3,h4,h5,h6,h7,h8,h9,N,a0⟩:=hc
 have b9:u<w.heap.size:=au h0
 have y:¬u=w.heap.size:=by omega
 have d0:=fun i (q:Keep (fun j=>j=w.heap.size) o i)=>q.cell (am h h0) y
 have d1:=fun i (q:Keep (fun j=>j=w.heap.size) o i)=>q.cell (am h h1) y
 have d2:=fun i (q:Keep (fun j=>j=w.heap.size) o i)=>q.cell (am h h2) y
 have d3:=fun i (q:Keep (fun j=>j=w.heap.size) o i)=>q.cell (am h h3) y
 have d4:=fun i (q:Keep (fun j=>j=w.heap.size) o i)=>q.cell (am h h4) y
 have d5:=fun i (q:Keep (fun j=>j=w.heap.size) o i)=>q.cell (am h h5) y
 have d6:=fun i (q:Keep (fun j=>j=w.heap.size) o i)=>q.cell (am h h6) y
 have d7:=fun i (q:Keep (fun j=>j=w.heap.size) o i)=>q.cell (am h h7) y
 have d8:=fun i (q:Keep (fun j=>j=w.heap.size) o i)=>q.cell (am h h8) y
 have d9:=fun i (q:Keep (fun j=>j=w.heap.size) o i)=>q.cell (am h h9) y
 have b6:=fun i (q:Keep (fun j=>j=w.heap.size) o i)=>q.cell (am h N) y
 have a3:=fun i (q:Keep (fun j=>j=w.heap.size) o i)=>q.cell (am h a0) y
 have q0:Keep (fun j=>j=w.heap.size) o o:=Keep.refl _ _
 have b7:(nx:Int)<il:=by omega
 have bb:¬((il:Int)≤nx):=by omega
 obtain ⟨b3,a8,G0⟩:=ae B h g0;clear B h g0 kb hb h0 h1 h2 h3 h4 h5 h6 h7 h8 h9 N a0
 go_enter Tryz.func218,Tryz.ntmps218
 go_wp2_with fail
 rw [b3.out]
 refine HA.g (fun i:World=>Keep (fun j=>j=w.heap.size) o i) ?_
 refine HA.t ?_ [0,1,2,3,4,5,6,7,8,9,10,11,12,13] q0.drew ?_
 refine HA.d ?_
 try simp only [Exit.then]
 have q1:=q0.drew
 go_wp2_with fail
 refine HA.g (fun i:World=>Keep (fun j=>j=w.heap.size) o i) ?_
 refine HA.t ?_ [0,1,2,3,4,5,6,7,8,9] q1.drew ?_
 obtain ⟨W1,A⟩:∃W1,o.drew.drew=W1:=⟨_,rfl⟩
 have g1:W1.heap[w.heap.size]?=some (.cells FU 152 (0,0)):=by rw [←A];exact G0.out
 have q2:Keep (fun j=>j=w.heap.size) o W1:=by rw [←A];exact q0.drew.drew
 have a1:Below w.heap.size w W1:=by rw [←A];exact (a8.out.drew).drew
 rw [A]
 clear A
 have D:=Ei (v0:=(FQ Z)) (v1:=(FQ Y)) (v2:=(FQ J)) (v3:=(.bool H)) (v4:=(.bool L)) (v5:=(FQ Q)) (v6:=(FQ V)) (v7:=(FQ T)) (v8:=(FQ R)) (v9:=(FQ I)) (v10:=(FQ O)) (v11:=(FQ U)) g1
 obtain ⟨W9,C⟩:∃W9,((((((((((((W1.setCell ⟨w.heap.size,0,none⟩ (FQ Z)).setCell ⟨w.heap.size,1,none⟩ (FQ Y)).setCell ⟨w.heap.size,2,none⟩ (FQ J)).setCell ⟨w.heap.size,3,none⟩ (.bool H)).setCell ⟨w.heap.size,4,none⟩ (.bool L)).setCell ⟨w.heap.size,5,none⟩ (FQ Q)).setCell ⟨w.heap.size,6,none⟩ (FQ V)).setCell ⟨w.heap.size,7,none⟩ (FQ T)).setCell ⟨w.heap.size,8,none⟩ (FQ R)).setCell ⟨w.heap.size,9,none⟩ (FQ I)).setCell ⟨w.heap.size,10,none⟩ (FQ O)).setCell ⟨w.heap.size,11,none⟩ (FQ U))=W9:=⟨_,rfl⟩
 have k9:Keep (fun j=>j=w.heap.size) W1 W9:=by rw [←C];exact Keep.setCell (S:=fun j=>j=w.heap.size) (Keep.setCell (S:=fun j=>j=w.heap.size) (Keep.setCell (S:=fun j=>j=w.heap.size) (Keep.setCell (S:=fun j=>j=w.heap.size) (Keep.setCell (S:=fun j=>j=w.heap.size) (Keep.setCell (S:=fun j=>j=w.heap.size) (Keep.setCell (S:=fun j=>j=w.heap.size) (Keep.setCell (S:=fun j=>j=w.heap.size) (Keep.setCell (S:=fun j=>j=w.heap.size) (Keep.setCell (S:=fun j=>j=w.heap.size) (Keep.setCell (S:=fun j=>j=w.heap.size) (Keep.setCell (S:=fun j=>j=w.heap.size) (Keep.refl _ _) _ (.inr rfl) _) _ (.inr rfl) _) _ (.inr rfl) _) _ (.inr rfl) _) _ (.inr rfl) _) _ (.inr rfl) _) _ (.inr rfl) _) _ (.inr rfl) _) _ (.inr rfl) _) _ (.inr rfl) _) _ (.inr rfl) _) _ (.inr rfl) _
 rw [C] at D
 have u0:=fx g1
 have lu:=EL g1
 refine HA.s 10 W9 (q2.trans k9) ?_ (he:=by subst C;go_simp)
 refine HA.t ?_ [11] (q2.trans k9) ?_
 refine HA.d ?_
 obtain ⟨⟨r0,r1,r2,r3,r4,r5,r6,r7,r8,r9,b2,a6⟩,rf⟩:=fx D
 have HB:=aa (a1.trans (k9.toBelow a1.size (fun j hj=>by omega)))
 have b8:=EL D
 clear D k9 g1 u0 lu q0 q1 q2 tb C d0 d1 d2 d3 d4 d5 d6 d7 d8 d9 b6 a3
 go_wp2_with fail
 exact E7 (v:=.tuple #[.agg #[FQ Z,FQ Y,FQ J,.bool H,.bool L,FQ Q,FQ V,FQ T,FQ R,FQ I,FQ O,FQ U],.bool true]) (by simp [results,Tryz.results218,go_sem,r0,r1,r2,r3,r4,r5,r6,r7,r8,r9,b2,a6]) rfl ⟨rfl,HB.out⟩
theorem pL {H:Nat→Prop} {w:World} {b x:Nat} {i:Inp} {a:MAd} {m:Mst} (h:aC H w b i x a m) {y:Itm} (A:(bf i x m.st)[m.nx]?=some y):
  Calls Tryz.prog 218 #[.pointer (some ⟨b,0,none⟩)] w fun e C=>e=.returned (.tuple #[.agg (aS y).toArray,.bool true])∧Below w.heap.size w C:=by
 have hl:m.nx<(bf i x m.st).length:=(Fq.1 A).1
 obtain ⟨v,u,e,hc⟩:=Da (aJ h.it (dM _ w)) A
 have hb:=h.blk
 rw [e] at hb
 have o:∀f,f<12→w.cell? ⟨v,u+m.nx*12+f,none⟩=(aS y)[f]?:=fun f o=>by rw [FH];exact hc f o
 rcases y with ⟨D,st,n,B⟩
 cases B with
 | none=>
  exact vQ b m.nx _ _ v u _ _ _ _ _ _ _ _ _ _ _ _ _ _ _ _ _ _ _ _ _ _ _ _ _ _ _ _ _ w hb hl ⟨o 0 (by omega),o 1 (by omega),o 2 (by omega),o 3 (by omega),o 4 (by omega),o 5 (by omega),o 6 (by omega),o 7 (by omega),o 8 (by omega),o 9 (by omega),o 10 (by omega),o 11 (by omega)⟩
 | some B=>
  exact vQ b m.nx _ _ v u _ _ _ _ _ _ _ _ _ _ _ _ _ _ _ _ _ _ _ _ _ _ _ _ _ _ _ _ _ w hb hl ⟨o 0 (by omega),o 1 (by omega),o 2 (by omega),o 3 (by omega),o 4 (by omega),o 5 (by omega),o 6 (by omega),o 7 (by omega),o 8 (by omega),o 9 (by omega),o 10 (by omega),o 11 (by omega)⟩
theorem vR {H:Nat→Prop} {w:World} {b x:Nat} {i:Inp} {a:MAd} {m:Mst} (h:aC H w b i x a m) (hn:(bf i x m.st).length≤m.nx):
  Calls Tryz.prog 218 #[.pointer (some ⟨b,0,none⟩)] w fun e C=>e=.returned (.tuple #[.agg FU,.bool false])∧Below w.heap.size w C:=by
 obtain ⟨O,D⟩:∃O,(bf i x m.st).length=O:=⟨_,rfl⟩
 have hb:=h.blk
 rw [D] at hb hn
 obtain ⟨o,y⟩:∃o,w.alloc (.cells FU 152)=o:=⟨_,rfl⟩
 have g0:o.heap[w.heap.size]?=some (.cells FU 152 (0,0)):=by rw [←y];exact EN w _
 have B:Below w.heap.size w o:=by rw [←y];exact (br w).alloc (EM _) _
 have tb:=fun C q=>Eo (sb (sb hb o B) C q)
 obtain ⟨n,I⟩:∃n,m.nx=n:=⟨_,rfl⟩
 rw [I] at tb hn
 have a2:(O:Int)≤n:=by omega
 have Y:=br o
 obtain ⟨R,Q,G0⟩:=ae y B g0;clear y B g0 hb h D I
 go_enter Tryz.func218,Tryz.ntmps218
 go_wp2_with fail
 rw [R.out]
 refine HA.g (fun C:World=>Below o.heap.size o C) ?_
 refine HA.t ?_ [0,1,2,3,4,5,6,7,8,9,10,11,12,13] Y.drew ?_
 refine HA.d ?_
 try simp only [Exit.then]
 obtain ⟨W1,u⟩:∃W1,o.drew=W1:=⟨_,rfl⟩
 have g1:W1.heap[w.heap.size]?=some (.cells FU 152 (0,0)):=by rw [←u];exact G0.out
 have J:Below w.heap.size w W1:=by rw [←u];exact Q.out.drew
 rw [u]
 clear u Y tb
 obtain ⟨⟨u0,u1,u2,u3,u4,u5,u6,u7,u8,u9,a1,a0⟩,uf⟩:=fx g1
 have lu:=EL g1
 have N:=Ei (v0:=FQ 0) (v1:=FQ 0) (v2:=FQ 0) (v3:=.bool false) (v4:=.bool false) (v5:=FQ 0) (v6:=FQ 0) (v7:=FQ 0) (v8:=FQ 0) (v9:=FQ 0) (v10:=FQ 0) (v11:=FQ 0) g1
 have V:=aa N
 have kk:Keep (fun j=>j=w.heap.size) W1 (((((((((((((W1.setCell ⟨w.heap.size,0,none⟩ (FQ 0)).setCell ⟨w.heap.size,1,none⟩ (FQ 0)).setCell ⟨w.heap.size,2,none⟩ (FQ 0)).setCell ⟨w.heap.size,3,none⟩ (.bool false)).setCell ⟨w.heap.size,4,none⟩ (.bool false)).setCell ⟨w.heap.size,5,none⟩ (FQ 0)).setCell ⟨w.heap.size,6,none⟩ (FQ 0)).setCell ⟨w.heap.size,7,none⟩ (FQ 0)).setCell ⟨w.heap.size,8,none⟩ (FQ 0)).setCell ⟨w.heap.size,9,none⟩ (FQ 0)).setCell ⟨w.heap.size,10,none⟩ (FQ 0)).setCell ⟨w.heap.size,11,none⟩ (FQ 0))):=Keep.setCell (S:=fun j=>j=w.heap.size) (Keep.setCell (S:=fun j=>j=w.heap.size) (Keep.setCell (S:=fun j=>j=w.heap.size) (Keep.setCell (S:=fun j=>j=w.heap.size) (Keep.setCell (S:=fun j=>j=w.heap.size) (Keep.setCell (S:=fun j=>j=w.heap.size) (Keep.setCell (S:=fun j=>j=w.heap.size) (Keep.setCell (S:=fun j=>j=w.heap.size) (Keep.setCell (S:=fun j=>j=w.heap.size) (Keep.setCell (S:=fun j=>j=w.heap.size) (Keep.setCell (S:=fun j=>j=w.heap.size) (Keep.setCell (S:=fun j=>j=w.heap.size) (Keep.refl _ _) _ (.inr rfl) _) _ (.inr rfl) _) _ (.inr rfl) _) _ (.inr rfl) _) _ (.inr rfl) _) _ (.inr rfl) _) _ (.inr rfl) _) _ (.inr rfl) _) _ (.inr rfl) _) _ (.inr rfl) _) _ (.inr rfl) _) _ (.inr rfl) _
 obtain ⟨KK,L⟩:=ab kk J;clear N kk g1 J
 go_wp2_with fail
 obtain ⟨W9,A⟩:∃W9,((((((((((((W1.setCell ⟨w.heap.size,0,none⟩ (FQ 0)).setCell ⟨w.heap.size,1,none⟩ (FQ 0)).setCell ⟨w.heap.size,2,none⟩ (FQ 0)).setCell ⟨w.heap.size,3,none⟩ (.bool false)).setCell ⟨w.heap.size,4,none⟩ (.bool false)).setCell ⟨w.heap.size,5,none⟩ (FQ 0)).setCell ⟨w.heap.size,6,none⟩ (FQ 0)).setCell ⟨w.heap.size,7,none⟩ (FQ 0)).setCell ⟨w.heap.size,8,none⟩ (FQ 0)).setCell ⟨w.heap.size,9,none⟩ (FQ 0)).setCell ⟨w.heap.size,10,none⟩ (FQ 0)).setCell ⟨w.heap.size,11,none⟩ (FQ 0))=W9:=⟨_,rfl⟩
 rw [A]
 have Z:=V.out
 rw [A] at Z
 obtain ⟨⟨r0,r1,r2,r3,r4,r5,r6,r7,r8,r9,T,U⟩,rf⟩:=fx Z
 have k9:=KK.out
 rw [A] at k9
 have HB:=L.out.trans (k9.toBelow L.out.size (fun j hj=>by omega))
 exact E7 (v:=.tuple #[.agg FU,.bool false]) (by simp [results,Tryz.results218,go_sem,r0,r1,r2,r3,r4,r5,r6,r7,r8,r9,T,U]) rfl ⟨rfl,HB⟩
theorem s6.rd {H:Nat→Prop} {w:World} {b x:Nat} {i:Inp} {a:MAd} {m:Mst} (h:aC H w b i x a m):cZ rEx 2 w (some ⟨a.rb,0,none⟩) m.rc:=by
 obtain ⟨rows,v,o,y,u⟩:=h.re
 exact ⟨rows,Rd.own v,o,y,fun j x A=>cz (u j x A) (dM _ w)⟩
end Go.Proofs.YtgmajkppbhiopaaGreat
