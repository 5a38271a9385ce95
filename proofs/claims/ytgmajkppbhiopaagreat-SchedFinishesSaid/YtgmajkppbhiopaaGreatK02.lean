/- No condition. -/
import Derived.Test.YtgmajkppbhiopaaGreatK01
import Derived.Deep.DeepCutAuto
import Derived.BigRegion
set_option linter.unusedSimpArgs false
set_option linter.unusedVariables false
set_option maxRecDepth 100000
set_option maxHeartbeats 4000000
namespace Go.Proofs.YtgmajkppbhiopaaGreat
open Go.RowKit Tryz
variable {y:Itm} {rows:List (R7)} {h o:List Nat} {A:N_} {B U base' batch c ct j k m n ph r s size st steps wi x:Nat} {d:Nat->Nat} {H H' S:Nat->Prop} {p:Pln} {P:Program} {ms ps sz ys:Q_} {xs:R7} {W u w wr:R8} {t:R9} {l:Rl} {v z:Value}
section
open Go.Shelf
attribute [local go_sem] Oper.semAt_some
def nz (ms:Q_) (c k:Nat):Q_:=dU c λj=>nth ms (k*c+j)
def Gg (ms:Q_) (r c:Nat) (xs:Q_) (q:Int):Q_:=dU r λk=>vE (nz ms c k) xs q
theorem jo (ms:Q_) (c k:Nat):(nz ms c k).length=c:=cD _ _
theorem rv (hk:k<r):k*c+c<=r*c:=by
 have:=QY c (show k+1<=r by omega)
 rwa [QM] at this
theorem eI (l:Q_) (m j:Nat):nth (l.drop m) j=nth l (m+j):=by simp [nth,List.getD_eq_getElem?_getD,List.getElem?_drop]
theorem eH {l:Q_} (h:j<m):nth (l.take m) j=nth l j:=by simp [nth,List.getD_eq_getElem?_getD,List.getElem?_take,h]
theorem MQ (hk:k<r) (hl:ms.length=r*c):(ms.drop (k*c)).take c=nz ms c k:=by
 have:=rv (c:=c) hk;refine fN (by rw [Qy,QB];omega) λj h=>?_;rw [eH h,eI]
theorem D3 {g o:Nat} (h:Rd W (some (ar g o)) (aA .i64 ms)) (hk:k<r) (hl:ms.length=r*c):Rd W (some (ar g (o+k*c))) (aA .i64 (nz ms c k)):=by
 have:=(h.drop (k*c)).take c
 rwa [dK,dH,MQ hk hl] at this
theorem Ad (h:W64 ms) (hk:k<r) (hl:ms.length=r*c):W64 (nz ms c k):=eZ λj i=>h _ (by have:=rv (c:=c) hk;omega)
theorem Kj (r c k:Nat) (g o:Nat) (ms:Q_) (B:N_) (xs:Q_) (e:Nat) (q:Int) (W:R8) (hk:k<r) (hc:1<=c/\c<=1048576) (i:ms.length=r*c) (hA:Rd W (some (ar g o)) (aA .i64 ms)) (v:W64 ms) (hB:Rd W B (aA .i64 xs)) (h:xs.length=c) (u:W64 xs):Vj 274 #[Vf g (o+k*c) c c,.slice B c e,QZ q] W λe p=>Vi e (.tuple #[QZ (vE (nz ms c k) xs q),.bool true])/\aq W p:=by
 have:=Nd (some (ar g (o+k*c))) B (nz ms c k) xs c e q W (D3 hA hk i) hB (by rw [jo,h]) (by rw [jo];omega) (Ad v hk i) u
 rwa [jo,h] at this
theorem Ka (ms:Q_) (r c:Nat) (xs:Q_) (q:Int):((List.finRange r).map λk=>vE (nz ms c k.1) xs q)=Gg ms r c xs q:=by
 refine fN V3 λk hk=>?_;rw [dN _ _ (by simpa using hk)];simp
theorem Kh (r c:Nat) (g o y d:Nat) (ms:Q_) (B:N_) (xs:Q_) (e:Nat) (q:Int) (w:R8) (hr:1<=r/\r<=1048576) (hc:1<=c/\c<=1048576) (a2:y=r*c) (hd:y<=d) (hm:y<=17592186043904) (b3:ms.length=y) (hA:Rd w (some (ar g o)) (aA .i64 ms)) (wm:W64 ms) (hB:Rd w B (aA .i64 xs)) (av:xs.length=c) (wx:W64 xs):Vj 266 #[.agg #[QZ r,QZ c,.slice (some (ar g o)) y d],.slice B c e,QZ q] w λe w'=>∃A' c',Vi e (.tuple #[.slice A' r c',.bool true])/\w'.ownsRow w.heap.size 2 1 (.slice A' r c') r (aA .i64 (Gg ms r c xs q))/\aq w w':=by
 have ao:=λw'=>nX r c (some (ar g o)) y d w' hr hc a2 hm;have aR:=λcs w'=>tI cs w';obtain ⟨be,bf,a3,b9,bb,HA,HB,WM⟩:=ak ao aR a2 b3 av hA hB wm;have WX:=aa wx;clear ao aR a2 b3 av hA hB wm wx;refine (callsIn_wide (n:=3)).1 ?_;refine callsIn_of_wp_marks func266 rfl trivial ?_ rfl;simp only [ntmps266,List.size_toArray,List.length_cons,List.length_nil,Nat.reduceAdd,Nat.reduceSub,Array.replicate_succ,Array.replicate_zero,List.push_toArray,List.append_toArray,List.nil_append,List.cons_append]
 gi_wp2_with fail
 refine ⟨trivial,?_⟩;refine (callsIn_wide.2 (be.o _)).mono ?_;rintro e w1 ⟨rfl,rfl⟩
 gi_wp2_with fail
 refine ⟨trivial,?_⟩;refine (callsIn_wide.2 (bf.o _ _)).mono ?_;rintro e w2 ⟨rfl,rfl⟩
 gi_wp2_with fail
 obtain ⟨p,H⟩:∃p,p=((((w.alloc (.cells #[QZ r,QZ c,.slice (some (ar g o)) y d] 354)).alloc (.cells #[.slice B c e] 139)).alloc (.cells #[QZ q] 3)).alloc (.cells #[QZ r,QZ c,.slice (some (ar g o)) y d] 354)):=⟨_,rfl⟩;have Y:p.heap.size=w.heap.size+1+1+1+1:=by rw [H];simp
 have b4:Boxed p (w.heap.size+1) 139 (.slice B c e):=by
  rw [H];have:=((Boxed.new (w.alloc (.cells #[QZ r,QZ c,.slice (some (ar g o)) y d] 354)) 139 (.slice B c e)).alloc (.cells #[QZ q] 3)).alloc (.cells #[QZ r,QZ c,.slice (some (ar g o)) y d] 354);simpa using this
 have b5:Boxed p (w.heap.size+1+1) 3 (QZ q):=by
  rw [H];have:=(Boxed.new ((w.alloc (.cells #[QZ r,QZ c,.slice (some (ar g o)) y d] 354)).alloc (.cells #[.slice B c e] 139)) 3 (QZ q)).alloc (.cells #[QZ r,QZ c,.slice (some (ar g o)) y d] 354);simpa using this
 have J:aq w p:=by rw [H];exact ((((PY _ w).alloc (PV _) _).alloc V3 _).alloc V6 _).alloc V6 _
 rw [<-H,<-Y];have bO:=(Boxed.new p 139 (Ra)).alloc (.cells #[QZ r,QZ c,.slice (some (ar g o)) y d] 354)
 have bM:((p.alloc (.cells #[Ra] 139)).alloc (.cells #[QZ r,QZ c,.slice (some (ar g o)) y d] 354)).heap[p.heap.size+1]?=some (.cells #[QZ r,QZ c,.slice (some (ar g o)) y d] 354 (0,0)):=by
  have:=PW (p.alloc (.cells #[Ra] 139)) (.cells #[QZ r,QZ c,.slice (some (ar g o)) y d] 354);simpa using this
 obtain ⟨a7,u,b1⟩:=af Y J bM;clear H;clear Y J bM
 refine' wpIn_rangeFunc_ownG (F:=Fence.wide) (n:=3) rfl ap (gf:=268) (lb:=#[(au (p.heap.size+1))]) rfl trivial (enters_of func268 V1 rfl)
  (pJ _ (p.heap.size+1) w.heap.size g o r c y d hr.2 hc a3.o hd _ b1.o) mG (mH (by have:=u.o.size;simp;omega) V3) (PY _ _) (λ_=>rfl)
  (λ(i:List (Fin r)) W=>((∃v,Boxed W p.heap.size 139 v/\W.ownsRow w.heap.size 2 1 v i.length (aA .i64 (i.map λk=>vE (nz ms c k.1) xs q))/\True)/\Boxed W (w.heap.size+1) 139 (.slice B c e)/\Boxed W (w.heap.size+1+1) 3 (QZ q)/\W.heap[p.heap.size+1]?=some (.cells #[QZ r,QZ c,.slice (some (ar g o)) y d] 354 (0,0)))/\aq w W)
  (λ_ _ _=>False)
  (OwnFrom.and (OwnFrom.and (Own.from (holdsRow_own w.heap.size p.heap.size 139 2 1 (λi:List (Fin r)=>i.length) (λi=>aA .i64 (i.map λk=>vE (nz ms c k.1) xs q)) (λ_ _=>True)) _) (OwnFrom.and (gH _ _ _ rfl) (OwnFrom.and (gH _ _ _ rfl) (gH _ _ _ rfl)))) (ownFrom_below (PV _) (by have:=u.o.size;simp;omega)))
  (λ_ _ _ _ _ hs _ _=>hs)
  ⟨⟨⟨_,bO,Qb _ _ _ _,trivial⟩,(b4.alloc _).alloc _,(b5.alloc _).alloc _,b1.o⟩,(u.o.alloc (by have:=u.o.size;omega) _).alloc (by have:=u.o.size;simp;omega) _⟩
  _ ?assign ?body ?done ?stop
 case assign=>
  intro l x W K hK;unfold qZ
  gi_wp2
  exact hK
 case body=>
  rintro l i x W ⟨⟨⟨v,hv,C,_⟩,N,O,V⟩,Q⟩ aG;have bh:=N.cell;have bo:=O.cell;obtain ⟨Hv,a6,HM,L,H4,H5,bv⟩:=aj hv C V Q N O aG;clear hv C V Q N O aG
  gi_wp2_with fail
  refine ⟨trivial,?_⟩;refine (CallsIn.inRound l (callsIn_wide.2 (Kj r c x.1 g o ms B xs _ q W x.2 hc (b9.o.trans a3.o) (HA.o.below L.o) WM.o (HB.o.below L.o) bb.o WX.o))).mono ?_;rintro e w3 ⟨rfl,A⟩;have a0:Boxed w3 p.heap.size 139 v:=(A.block _ (Boxed.lt Hv.o)).trans Hv.o;have bi:=a0.cell;have I:=az a6.o A;have a4:w.heap.size<=w3.heap.size:=P4 L.o.size A.size;have aP:w.heap.size<=p.heap.size:=u.o.size;have b0:i.length<r:=bv.o;have T:=(A.block _ (PU HM.o)).trans HM.o;have U:=(A.block _ (PU H4.o)).trans H4.o;have R:=(A.block _ (PU H5.o)).trans H5.o;obtain ⟨a9,ab,a8,bn,aM,Z,bs,bd⟩:=ak T U R a0 A I a4 aP;have ad:=aa b0;clear a0 A I a4 aP b0 T U R bh bo;obtain ⟨dv,a1⟩:∃dv,dv=vE (nz ms c x.1) xs q:=⟨_,rfl⟩;have bl:=aa a1;rw [<-a1];clear a1
  gi_wp2_with (gi_at_builtin;refine oZ mY w3 rfl (.tmp 34) (.tmp 36) rfl w.heap.size p.heap.size v i.length _ rfl bn.o V0 Z.o [QZ dv] rfl rfl (cU .i64 [dv]) (by have:=ad.o;have:=hr.2;omega) (by have:=ad.o;have:=hr.2;unfold maxLen;omega) bs.o bd.o ?_)
  intro g1 c1 w1 k1 k2 k3 k4 k5 k6;have bz:=k1.cell;have bw:=k1.frozen;obtain ⟨K2,K3,K4,K5,K6⟩:=ah k2 k3 k4 k5 k6;clear k1 k2 k3 k4 k5 k6 bi
  gi_wp2_with fail
  have b6:Below w.heap.size W (w1.setCell (ar p.heap.size 0) (.slice (some (ar g1 0)) (i.length+1) c1)):=(aM.o.mono L.o.size).trans K5.o;have b8:p.heap.size+1≠p.heap.size:=ap;have b7:w.heap.size+1≠p.heap.size:=by have:=a7.o;omega
  have b2:w.heap.size+1+1≠p.heap.size:=by have:=a7.o;omega
  have a5:=K6.o _ _ _ _ _ b8 V0 a9.o;refine ⟨((KeepsOthers.of_grownBy (row:=none) (mW aM.o) (λ_ _ h=>by cases h)).trans K4.o).from _,⟨b6,λ_=>a5.trans HM.o.symm⟩,⟨⟨_,K2.o,?_,trivial⟩,K6.o _ _ _ _ _ b7 V0 ab.o,K6.o _ _ _ _ _ b2 V0 a8.o,a5⟩,L.o.trans b6⟩;have h:=K3.o;rw [bl.o] at h;simpa [aA] using h
 case done=>
  rintro D ys W hD rfl ⟨⟨⟨v,hv,C,_⟩,N,O,V⟩,Q⟩ hK;have hc:=hv.cell
  gi_wp2
  refine ⟨by simp,.inl ⟨_,_,rfl,run_takeDeferred hK,?_⟩⟩;obtain ⟨A',c',rfl,_⟩:=aC C;rw [List.length_finRange,Ka] at *;refine ⟨.tuple #[.slice A' r c',.bool true],by simp [results,results266,go_sem],A',c',rfl,ownsRow_putObj C _ hK rfl,Q.trans (belowK_b (w:=w) (PV _) W D _ _ (by have:=u.o.size;simp at hD;omega) hK rfl rfl)⟩
 case stop=>
  rintro D c i W _ _ h _;exact h.elim
end
def ww (l:Q_):Q_:=dU l.length λi=>max (nth l i) 0
def zL (sz ps:Q_) (q:Int) (k:Nat) (v:Q_):Q_:=eT (Gg (wL sz ps k) (szN sz (k+1)) (szN sz k) v q) (bL sz ps k)
def dJ (sz ps:Q_) (q:Int) (x:Q_):Nat->Q_
 | 0=>x
 | k+1=>if k+1<sz.length-1 then ww (zL sz ps q k (dJ sz ps q x k)) else zL sz ps q k (dJ sz ps q x k)
theorem W64.nth {l:Q_} (h:W64 l) (k:Nat): -9223372036854775808<=nth l k/\nth l k<=9223372036854775807:=by
 by_cases hk:k<l.length
 .exact h k hk
 .have:Go.Proofs.YtgmajkppbhiopaaGreat.nth l k=0:=by unfold Go.Proofs.YtgmajkppbhiopaaGreat.nth;simp [List.getD,List.getElem?_eq_none (show l.length<=k by omega)]
  omega
theorem Ir (h:W64 ps) (sz:Q_) (k:Nat):W64 (wL sz ps k):=eZ λ_ _=>h.nth _
theorem zY (ms:Q_) (r c:Nat) (xs:Q_) (q:Int):(Gg ms r c xs q).length=r:=cD _ _
theorem gK (xs ys:Q_):(eT xs ys).length=xs.length:=cD _ _
theorem vm (xs ys:Q_):W64 (eT xs ys):=eZ λ_ _=>fD _
theorem Fv (l:Q_):(ww l).length=l.length:=cD _ _
theorem Fw {l:Q_} (h:W64 l):W64 (ww l):=eZ λk _=>by have:=h.nth k;omega
theorem xD (sz ps:Q_) (q:Int) (k:Nat) (v:Q_):(zL sz ps q k v).length=szN sz (k+1):=by unfold zL;rw [gK,zY]
theorem Ij (sz ps:Q_) (q:Int) (k:Nat) (v:Q_):W64 (zL sz ps q k v):=vm _ _
theorem fA {q:Int} {x:Q_} (h:x.length=szN sz 0) (k:Nat):(dJ sz ps q x k).length=szN sz k:=by
 cases k with
 | zero=>exact h
 | succ k=>
  unfold dJ
  split
  .rw [Fv,xD]
  .rw [xD]
theorem ql {q:Int} {x:Q_} (h:W64 x) (k:Nat):W64 (dJ sz ps q x k):=by
 cases k with
 | zero=>exact h
 | succ k=>
  unfold dJ
  split
  .exact Fw (Ij _ _ _ _ _)
  .exact Ij _ _ _ _ _
def jD (w:R8) (vals:R7) (n:Nat) (f:Nat->Q_):Prop:=vals.length=n/\∀j,j<n->∃A c,vals[j]?=some (.slice A (f j).length c)/\(f j).length<=c/\Rd w A (aA .i64 (f j))
theorem jD.below {i:R8} {vals:R7} {f:Nat->Q_} (h:jD w vals n f) (hb:aq w i):jD i vals n f:=
 ⟨h.1,λj o=>by obtain ⟨A,c,h1,p,u⟩:=h.2 j o;exact ⟨A,c,h1,p,u.below hb⟩⟩
structure vn (w:R8) (As Ap:N_) (sz ps:Q_) (cs:Nat):Prop where
 hA:Rd w As (aA .i64 sz)
 hP:Rd w Ap (aA .i64 ps)
 hg:dX sz
 hl:ps.length=bT sz (sz.length-1)
 hc:sz.length<=cs
 wp:W64 ps
theorem vn.below {i:R8} {o u:N_} {p:Nat} (h:vn w o u sz ps p) (hb:aq w i):vn i o u sz ps p:=⟨h.hA.below hb,h.hP.below hb,h.hg,h.hl,h.hc,h.wp⟩
theorem nW (i u:N_) (n m p cp:Nat) (q:Int) (w:R8) (hn:1<=n/\n<=1000):Vj 143 #[.agg #[.slice i n p,.slice u m cp,QZ q]] w λe o=>Vi e (QZ ((n-1:Nat):Int))/\aq w o:=by
 obtain ⟨h1,v⟩:=hn;have hw:IntKind.i64.wrap ((n:Int)-1)=((n-1:Nat):Int):=by rw [P3 _ ap];omega
 have h:(n:Int)-1=((n-1:Nat):Int):=ap;rw [h] at hw;go_enter func143,ntmps143;go_wp2;go_ret;refine ⟨by first | rfl | (rw [h];rfl),?_⟩;exact am
theorem sd (Z Ap:N_) (sz ps:Q_) (C cp k r c:Nat) (q:Int) (w:R8) (h:vn w Z Ap sz ps C) (hk:k+1<sz.length) (hr:r<szN sz (k+1)) (hc:c<szN sz k):Vj 170 #[.agg #[.slice Z sz.length C,.slice Ap ps.length cp,QZ q],QZ k,QZ r,QZ c] w λe u=>Vi e (QZ (nth ps (bT sz k+r*szN sz k+c)))/\aq w u:=by
 have T:=h.hg.1;have L:=T.1.2;have z0:=T.at (k:=k) ap;have O:=h.hg.mul hk
 have i:bT sz k+r*szN sz k+c<ps.length:=by
  have h1:=fL sz k;have h2:=gn sz (show k+1<=sz.length-1 by omega)
  have h3:r*szN sz k+szN sz k<=szN sz (k+1)*szN sz k:=by
   have:=QY (szN sz k) (show r+1<=szN sz (k+1) by omega)
   rwa [QM] at this
  have h4:=h.hl;unfold dL at h1;omega
 have x:=λu (hb:aq w u)=>qt Z sz k C u (h.hA.below hb) T hk h.hc;have V:ps.length<=1048576:=by rw [h.hl];exact h.hg.2
 obtain ⟨b,o,rfl,R⟩:=h.hA.num (show k<sz.length by omega);obtain ⟨D,J,rfl,H⟩:=h.hP.num i;have A:r*szN sz k<=szN sz (k+1)*szN sz k:=QY _ ap;rw [z0.2.2] at R;obtain ⟨a,ha⟩:=Vb (szN sz k);obtain ⟨N,hN⟩:=Vb (bT sz k);obtain ⟨n,hn⟩:=Vb sz.length;obtain ⟨m,hm⟩:=Vb ps.length;rw [ha] at R H i hc A z0 |-;rw [hN] at H i x |-;rw [hn] at x hk L |-;rw [hm] at i V |-;obtain ⟨ra,B⟩:=Vb (r*a);rw [B] at H i A |-;have U:b<(Ve w):=aB R;have Q:D<(Ve w):=aB H;have I:(r:Int)*(a:Int)=(ra:Int):=by rw [<-B];push_cast;rfl
 have Y:=aa x;clear x h T O A z0 hn hm hN ha B hr;have a7:IntKind.i64.wrap ((r:Int)*(a:Int))=(ra:Int):=by rw [I];exact P3 _ ap
 have a3:IntKind.i64.wrap ((N:Int)+(ra:Int))=(N:Int)+ra:=P3 _ ap;have a2:IntKind.i64.wrap ((N:Int)+(ra:Int)+(c:Int))=(N:Int)+ra+c:=P3 _ ap;have a1:(0:Int)<=(N:Int)+ra+c:=ap;have a5:(N:Int)+ra+c<m:=ap;have a8:((N:Int)+ra+c).toNat=N+ra+c:=ap;have a6:(k:Int)<n:=ap;have a4:k<n:=ap;have a9:=DL;clear I;go_enter func170,ntmps170;go_wp2
 go_region_held3 (λu=>u.cell? ⟨Ve w,0,none⟩=some (.slice (some ⟨b,o,none⟩) n C)/\u.cell? ⟨Ve w,1,none⟩=some (.slice (some ⟨D,J,none⟩) m cp)/\u.cell? ⟨b,o+k,none⟩=some (QZ a)/\u.cell? ⟨D,J+(N+ra+c),none⟩=some (QZ (nth ps (N+ra+c)))) (simp [go_sem,World.cell?_alloc_past, *])
  ((go_at_call 182;refine (Y.o _ ?_).mono ?_;(focus (exact am;done));rintro e w1 ⟨rfl,y⟩;have v:aq w w1:=Below.trans (by exact am) (y.mono V3);have g0:=aw y (PX _ (Ve w) 0 _ _ _ (PW w (.cells #[.slice (some ⟨b,o,none⟩) n C,.slice (some ⟨D,J,none⟩) m cp,QZ q] 198)));have g1:=aw y (PX _ (Ve w) 1 _ _ _ (PW w (.cells #[.slice (some ⟨b,o,none⟩) n C,.slice (some ⟨D,J,none⟩) m cp,QZ q] 198)));have g2:=(v.cell (p:=⟨b,o+k,none⟩) U).trans R;have g3:=(v.cell (p:=⟨D,J+(N+ra+c),none⟩) Q).trans H;have a0:=aa v;clear y v))
 go_wp2;go_ret;exact ⟨rfl,a0.o⟩
theorem FA (L T:N_) (sz ps:Q_) (A cp k r:Nat) (q:Int) (w:R8) (h:vn w L T sz ps A) (hk:k+1<sz.length) (hr:r<szN sz (k+1)):Vj 181 #[.agg #[.slice L sz.length A,.slice T ps.length cp,QZ q],QZ k,QZ r] w λe v=>Vi e (QZ (nth ps (dL sz k+r)))/\aq w v:=by
 have O:=h.hg.1;have D:=O.1.2
 have y:dL sz k+r<ps.length:=by
  have h1:=fL sz k;have h2:=gn sz (show k+1<=sz.length-1 by omega);have h4:=h.hl;omega
 have i:=λv (hb:aq w v)=>zC L sz k A v (h.hA.below hb) O hk h.hc;have J:ps.length<=1048576:=by rw [h.hl];exact h.hg.2
 obtain ⟨b,o,rfl,p0⟩:=h.hA.num (show k<sz.length by omega);obtain ⟨B,C,rfl,I⟩:=h.hP.num y;obtain ⟨M,R⟩:=Vb (dL sz k);obtain ⟨n,hn⟩:=Vb sz.length;obtain ⟨m,hm⟩:=Vb ps.length;rw [R] at I y i |-;rw [hn] at i hk D |-;rw [hm] at y J |-;have H:B<(Ve w):=aB I;have Q:=aa i;clear i h O hn hm R hr p0;have Y:IntKind.i64.wrap ((M:Int)+(r:Int))=(M:Int)+r:=P3 _ ap;have U:(0:Int)<=(M:Int)+r:=ap;have Z:(M:Int)+r<m:=ap;have a0:((M:Int)+r).toNat=M+r:=ap;have a1:=DL;go_enter func181,ntmps181;go_wp2
 go_region_held3 (λv=>v.cell? ⟨Ve w,0,none⟩=some (.slice (some ⟨b,o,none⟩) n A)/\v.cell? ⟨Ve w,1,none⟩=some (.slice (some ⟨B,C,none⟩) m cp)/\v.cell? ⟨B,C+(M+r),none⟩=some (QZ (nth ps (M+r)))) (simp [go_sem,World.cell?_alloc_past, *])
  ((go_at_call 192;refine (Q.o _ ?_).mono ?_;(focus (exact am;done));rintro e V ⟨rfl,u⟩;have x:aq w V:=Below.trans (by exact am) (u.mono V3);have g0:=aw u (PX _ (Ve w) 0 _ _ _ (PW w (.cells #[.slice (some ⟨b,o,none⟩) n A,.slice (some ⟨B,C,none⟩) m cp,QZ q] 198)));have g1:=aw u (PX _ (Ve w) 1 _ _ _ (PW w (.cells #[.slice (some ⟨b,o,none⟩) n A,.slice (some ⟨B,C,none⟩) m cp,QZ q] 198)));have g3:=(x.cell (p:=⟨B,C+(M+r),none⟩) H).trans I;have N:=aa x;clear u x))
 go_wp2;go_ret;exact ⟨rfl,N.o⟩
def sH (sz ps:Q_) (q:Int) (k r:Nat) (v:Q_):Nat->Int
 | 0=>nth ps (dL sz k+r)
 | c+1=>wrap64 (sH sz ps q k r v c+fJ (nth ps (bT sz k+r*szN sz k+c)) (nth v c) q)
theorem Jd (L H:N_) (sz ps:Q_) (J cp k r:Nat) (q:Int) (V:N_) (v:Q_) (cv:Nat) (w:R8) (h:vn w L H sz ps J) (hk:k+1<sz.length) (hr:r<szN sz (k+1)) (hV:Rd w V (aA .i64 v)) (hv:v.length=szN sz k) (wv:W64 v):Vj 168 #[.agg #[.slice L sz.length J,.slice H ps.length cp,QZ q],QZ k,QZ r,.slice V v.length cv] w λe A=>Vi e (QZ (sH sz ps q k r v v.length))/\aq w A:=by
 have I:=λA (hb:aq w A)=>FA L H sz ps J cp k r q A (h.below hb) hk hr;have B:=λc (hc:c<szN sz k) A (hb:aq w A)=>sd L H sz ps J cp k r c q A (h.below hb) hk hr hc;have a2:v.length<=1048576:=by rw [hv];exact (h.hg.1.at (k:=k) ap).2.1
 obtain ⟨n,hn⟩:=Vb sz.length;obtain ⟨m,hm⟩:=Vb ps.length;obtain ⟨x,hx⟩:=Vb v.length;rw [hn,hm] at I B |-;rw [hx] at a2 |-;obtain ⟨a9,a4,HV,Hv,Hx,WV,WP⟩:=aj I B hV hv hx wv h.wp;clear I B hV hv hx wv h hn hm hr hk;go_enter func168,ntmps168;go_wp2_with fail;refine (a9.o _ ?_).mono ?_
 .exact am
 rintro e w1 ⟨rfl,N⟩;have u:=(N.block w.heap.size V3).trans (PW w (.cells #[.slice L n J,.slice H m cp,QZ q] 198));have Q:aq w w1:=((PY _ w).alloc (PV _) _).trans (N.mono V3);obtain ⟨D,a7⟩:=ae u Q;clear N u Q;go_wp2
 go_loopw [9,10] (λs i wr=>∃c:Nat,c<=x/\i=QZ c/\s=QZ (sH sz ps q k r v c)/\Vg wr w.heap.size #[.slice L n J,.slice H m cp,QZ q] 198/\aq w wr) (λ_ i _=>x-(intOf i).toNat)
 .exact ⟨0,PZ _,rfl,rfl,D.o,a7.o⟩
 case round=>
  obtain ⟨c,hc,rfl,rfl,u,O⟩:=hrel;by_cases a1:c<x
  .obtain ⟨bv,ov,rfl,pv⟩:=HV.o.num (show c<v.length by rw [Hx.o];exact a1);have a3:bv<w.heap.size:=aB pv;have a6:=(O.cell (p:=⟨bv,ov+c,none⟩) a3).trans pv;obtain ⟨⟨x0,x1,x2⟩,xf⟩:=bx3 u;have R:=PU u;have ab:bv<wr.heap.size:=by have:=O.size;omega
   have B:=a4.o c (by have:=Hv.o;have:=Hx.o;omega);have T:=λA=>tT (nth ps (bT sz k+r*szN sz k+c)) (nth v c) q A (WP.o.nth _) (WV.o.nth _);obtain ⟨a8,a0,U,D⟩:=ag B T O u;clear B T O u pv;have ad:(c:Int)<x:=ap;go_wp2
   go_region_held3 (λA=>A.cell? ⟨w.heap.size,0,none⟩=some (.slice L n J)/\A.cell? ⟨w.heap.size,1,none⟩=some (.slice H m cp)/\A.cell? ⟨w.heap.size,2,none⟩=some (QZ q)/\A.cell? ⟨bv,ov+c,none⟩=some (QZ (nth v c))) (simp [go_sem, *])
    ((first | (go_at_call 170;refine (a8.o wr.drew U.o.drew).mono ?_;rintro e w3 ⟨rfl,y⟩;have g0:=aw y x0;have g1:=aw y x1;have g2:=aw y x2;have g3:=aw y a6;have C:=(y.block w.heap.size R).trans D.o;have Z:=U.o.trans (((PY wr.heap.size wr).drew.trans y).mono U.o.size);obtain ⟨Y,a5⟩:=ae C Z;clear y C Z) | (go_at_call 100;refine (a0.o _).mono ?_;rintro e w4 ⟨rfl,rfl⟩)))
   go_wp2;go_roundw
   .exact ⟨c+1,ap,Vc,by rw [IntKind.wrap_i64,sH,wrap64],Y.o,a5.o⟩
   .simp [intOf];omega
  .obtain rfl:c=x:=ap;have U:=aa O;clear O u;go_wp2;go_ret;exact ⟨rfl,U.o⟩
theorem Nb:dM prog 361 139 (Ra) 1 24:=⟨underlying361,info_parts V1,rfl,by decide⟩
theorem Bv (P base:Nat) (A B:N_) (n c m d:Nat) (xs:R7) (w:R8) (hP:Vg w P #[.slice A n c] 361) (O:w.ownsRow base 139 1 (.slice A n c) n xs) (hn:n<=1000000) (u:base<=w.heap.size) (Z:base<=P):Vj 265 #[.slice B m d,(au P)] w λe I=>(∃v,Vi e v)/\∃N x,Vg I P #[.slice N (n+1) x] 361/\I.ownsRow base 139 1 (.slice N (n+1) x) (n+1) (xs++[.slice B m d])/\
   Keep (λi=>i=P\/(Value.slice A n c).ownBlock=some i) w I:=by
 obtain ⟨p0,pf⟩:=bx1 hP;have J:=PU hP;obtain ⟨R,Q⟩:=ae hP O;clear hP O;go_enter func265,ntmps265;go_wp2_with (at_builtin;refine aV Nb w rfl (.tmp 3) (.tmp 5) rfl base (.slice A n c) n xs rfl Q.o [.slice B m d] rfl rfl V5 ap V2 u ?_);intro g x H y L h;have p:=(h.block P J (ay R.o V0 Q.o)).trans R.o;have h:Keep (λi=>i=P\/(Value.slice A n c).ownBlock=some i) w H:=(Keep.refl _ w).grown h (λk hk=>.inr (.inr hk));obtain ⟨q0,qf⟩:=bx1 p;obtain ⟨C,D,V⟩:=af p y h;clear p y L h;go_wp2_with fail;have h9:=QX H P 0 _ _ (Vf g 0 (n+1) x) C.o;have U:Keep (λi=>i=P) H (H.setCell (ar P 0) (Vf g 0 (n+1) x)):=Vk P (Keep.refl _ _) (ar P 0) (.inr rfl) _;have o9:=U.own D.o (λi Y e=>ay C.o V0 D.o (by rw [Y,e]));have T:=V.o.setCell (ar P 0) (.inr (.inl rfl)) (Vf g 0 (n+1) x)
 go_end0
 exact ⟨⟨_,rfl⟩,_,_,h9,o9,T⟩
theorem OK (b:Nat) (sz ps:Q_) (q:Int) (A:N_) (m c:Nat) (w:R8) (h:mt 212 352 w b sz ps q) (hg:dX sz) (hm:m≠szN sz 0):Vj 256 #[(au b),.slice A m c] w λe C=>Vi e (.tuple #[Ra,.bool false])/\aq w C:=by
 obtain ⟨S,Ap,cp,Al,cl,rows,u,h1,D,R,J,O,V⟩:=h;obtain ⟨⟨L,H,U,y⟩,N⟩:=bx4 u;have hs:=nj S sz w h1 (by have:=hg.1.1.2;omega);have v:=hg.1.at (k:=0) (by have:=hg.1.1.1;omega);have i:0<sz.length:=by have:=hg.1.1.1;omega
 have B:((m:Int) != (szN sz 0:Int))=true:=by simp;omega
 obtain ⟨I,T⟩:=ae hs v.2.2;clear hs u h1 D R J O V hg v hm;go_enter func256,ntmps256;go_wp2_with fail;refine I.o.mono ?_;rintro e Z ⟨A1,c1,rfl,p,hb⟩;obtain ⟨g,c',x,_,_⟩:=p.form i;simp only [QH] at x;obtain ⟨rfl,_,rfl⟩:=x;have Y:=cS p i;rw [T.o] at Y;have Q:=aa hb;clear hb p L H U y N;go_wp2;go_ret2;exact ⟨rfl,Q.o⟩
theorem wI (w:R8) (e:R9) (v:Value) (base:Nat) (hb:base<=w.heap.size):(w.alloc (.cells #[v] e)).ownsRow base e 1 (Vf w.heap.size 0 1 1) 1 [v]:=
 ⟨by simp,.inr ⟨w.heap.size,1,#[v],rfl,hb,PW w _,PV _,by unfold maxLen;omega,by simp,by simp⟩⟩
def Ow (sz ps:Q_) (q:Int) (x:Q_) (P n₀:Nat) (k:Nat) (o w:R8):Prop:=
 ∃A c vals,w.heap[P]?=some (.cells #[.slice A (k+1) c] 361 (0,0))/\w.ownsRow n₀ 139 1 (.slice A (k+1) c) (k+1) vals/\
  (∀j,j<=k->∃i h,vals[j]?=some (.slice i (szN sz j) h)/\w.ownsRow n₀ 2 1 (.slice i (szN sz j) h) (szN sz j) (aA .i64 (dJ sz ps q x j)))/\Below n₀ o w
theorem Ix (b:Nat) (sz ps:Q_) (q:Int) (A:N_) (x:Q_) (c:Nat) (w:R8) (h:mt 212 352 w b sz ps q) (hg:dX sz) (wp:W64 ps) (hA:Rd w A (aA .i64 x)) (hx:x.length=szN sz 0) (wx:W64 x):Vj 256 #[.pointer (some ⟨b,0,none⟩),.slice A x.length c] w λe O=>∃A' c' vals,Vi e (.tuple #[.slice A' sz.length c',.bool true])/\Rd O A' vals/\jD O vals sz.length (dJ sz ps q x)/\sz.length<=c'/\aq w O:=by
 have cb:=h.lt;obtain ⟨S,Ap,cp,Al,cl,rows,h0,h1,h2,h3,h4,h5,h6⟩:=h;obtain ⟨⟨r0,r1,r2,r3⟩,rf⟩:=bx4 h0;have z0:=hg.1.at (k:=0) (by have:=hg.1.1.1;omega);have hs:=nj S sz w h1 (by have:=hg.1.1.2;omega);have B:=λO (k:aq w O)=>fP A x c O (hA.below k) ap;obtain ⟨n,hn⟩:=Vb (sz.length-1);have aR:sz.length=n+1:=by have:=hg.1.1.1;omega
 have eo:1<=n/\n<=15:=by have:=hg.1.1;omega
 obtain ⟨m,hm⟩:=Vb (szN sz 0);rw [hn] at r3 h4 h6;rw [hx,hm] at B |-;have b2:0<sz.length:=ap;have b8:((m:Int) != (m:Int))=false:=by simp
 have ew:m<=1048576:=by rw [<-hm];exact z0.2.1
 rw [hm] at z0;obtain ⟨Hs,Z0,dG,HG,Hn,aM,Hm,H0⟩:=ak hs z0.2.2 B hg hn aR hm h0;obtain ⟨H3,H4,H5,H6,WP,WX,Hx,HA⟩:=ak h3 h4 h5 h6 wp wx hx hA;clear hs B h0 h1 h2 h3 h4 h5 h6 hg z0 hm hn aR wp wx hx hA;go_enter func256,ntmps256;go_wp2_with fail;refine Hs.o.mono ?_;rintro e w1 ⟨A1,c1,rfl,ho,hb⟩;obtain ⟨g,c',hv,_,_⟩:=ho.form b2;simp only [QH] at hv;obtain ⟨rfl,_,rfl⟩:=hv;have p0:=cS ho b2;rw [Z0.o] at p0;have Hb:=aa hb;clear hb ho r0 r1 r2 r3 rf;go_wp2_with fail;refine (dG.o _ Hb.o).mono ?_;rintro e w2 ⟨A2,c2,rfl,en,c7,c6⟩;have ao:=Hb.o.trans (c6.mono Hb.o.size);have ab:=(ao.block b cb).trans H0.o;obtain ⟨⟨r0,r1,r2,r3⟩,rf⟩:=bx4 ab;have e8:=PU ab;have d3:=Hx.o;rw [Hm.o] at d3;have b0:=Hb.o.size;obtain ⟨d1,a9,ee⟩:=af (aF c7 b0) ao ab;clear c7 c6 ao ab b0;rw [Hn.o] at r3;go_wp2
 go_loopw [37] (λi wr=>∃k:Nat,k<=n/\i=QZ k/\Ow sz ps q x (w2.heap.size+1) w.heap.size k w wr) (λi _=>n-(intOf i).toNat)
 case atStart=>
  refine ⟨0,PZ _,rfl,some ⟨w2.heap.size,0,none⟩,1,[.slice A2 m c2],?_,?_,?_,?_⟩
  .have:=PW (w2.alloc (.cells #[.slice A2 m c2] 139)) (.cells #[.slice (some ⟨w2.heap.size,0,none⟩) 1 1] 361);simpa using this
  .exact (wI w2 139 (.slice A2 m c2) w.heap.size a9.o.size).alloc _
  .intro j hj;obtain rfl:j=0:=ap;refine ⟨A2,c2,by rw [Hm.o];rfl,?_⟩;rw [Hm.o];exact (d1.o.alloc _).alloc _
  .have ao:=a9.o;have er:=a9.o.size;exact am
 case round=>
  obtain ⟨k,hk,rfl,Ao,co,vals,hP,ho,hv,hW⟩:=hrel;have d0:k<sz.length:=by have:=aM.o;omega
  have aP:=(hW.block b cb).trans H0.o;obtain ⟨⟨r0,r1,r2,r3⟩,rf⟩:=bx4 aP;obtain ⟨p0,pf⟩:=bx1 hP;obtain ⟨go,ea,cr,ey,_⟩:=ho.form ap;simp only [QH] at cr;obtain ⟨rfl,d6,rfl⟩:=cr;clear d6;have d8:=PU hP;have ek:b<wr.heap.size:=PU aP;have hz:=hW.size;obtain ⟨HP,Ho,Hv,HW,eu⟩:=ah hP ho hv hW aP;clear hP ho hv hW aP;rw [Hn.o] at r3;by_cases L:k<n
  .have hR:=HG.o.1;have cy:k+1<sz.length:=by have:=aM.o;omega
   have z0:=hR.at d0;have z1:=hR.at cy;have cs:=HG.o.mul cy;obtain ⟨gl,ol,dl,Bl,el,hcs,hd,cc,hrb⟩:=H6.o k L;have hrl:(bS rows k).length=4:=H5.o _ (by rw [qY (by rw [H4.o];exact L)];exact List.getElem_mem _);have B:∀t,t<4->(List.flatten rows)[k*4+t]?=(bS rows k)[t]?:=λt ht=>nH H5.o k t (by rw [H4.o];exact L) ht;have e0:=B 0 ap;have R:=B 1 ap;have e2:=B 2 ap;have e3:=B 3 ap;rw [hcs] at e0 R e2 e3;simp only [Nat.add_zero,Qp,Qo] at e0 R e2 e3;obtain ⟨bl,oo,da,q0⟩:=H3.o _ _ e0;obtain ⟨_,_,Y,q1⟩:=H3.o _ _ R;obtain ⟨_,_,T,q2⟩:=H3.o _ _ e2;obtain ⟨_,_,Z,q3⟩:=H3.o _ _ e3;subst da;injection Y with Y;injection Y with i1 i2 _;subst i1;subst i2
   injection T with T;injection T with i1 i2 _;subst i1;subst i2
   injection Z with Z;injection Z with i1 i2 _;subst i1;subst i2
   have a8:bl<w.heap.size:=aB q0;have bG:=(HW.o.cell (p:=⟨bl,oo+k*4,none⟩) a8).trans q0;have bb:=(HW.o.cell (p:=⟨bl,oo+(k*4+1),none⟩) a8).trans q1;have bo:=(HW.o.cell (p:=⟨bl,oo+(k*4+2),none⟩) a8).trans q2;have bh:=(HW.o.cell (p:=⟨bl,oo+(k*4+3),none⟩) a8).trans q3;rw [<-QO] at bb bo bh;obtain ⟨Aj,cj,cw,bO⟩:=Hv.o k (PV _);have pj:=(Rd.own Ho.o) k _ cw;obtain ⟨_,_,ej,pj⟩:=pj;injection ej with ej;injection ej with i1 i2 _;subst i1;subst i2
   rw [QP] at pj;have wv:=ql (sz:=sz) (ps:=ps) (q:=q) WX.o k;have a7:=fA (sz:=sz) (ps:=ps) (q:=q) Hx.o k;have a1:=λW (h:aq wr W)=>Kh (szN sz (k+1)) (szN sz k) gl ol (szN sz (k+1)*szN sz k) dl (wL sz ps k) Aj (dJ sz ps q x k) cj q W ⟨z1.1,z1.2.1⟩ ⟨z0.1,z0.2.1⟩ rfl hd ap (Bq _ _ _) ((cc.below HW.o).below h) (Ir WP.o sz k) ((Rd.own bO).below h) a7 wv;obtain ⟨r,hr⟩:=Vb (szN sz (k+1));obtain ⟨c0,av⟩:=Vb (szN sz k);obtain ⟨nn,bs⟩:=Vb (szN sz (k+1)*szN sz k);rw [bs] at a1 bo cs hd;rw [hr] at a1 bG bh z1;rw [av] at a1 bb z0;have bi:=pj;rw [av] at bi;have b5:=hrb.below HW.o;obtain ⟨dc,Hr,dv,e9,cM,ef⟩:=ai a1 hr av bs b5 a7;clear a1 hr av bs hrb b5 cc hd q0 q1 q2 q3 e0 R e2 e3 B hrl hcs pj a7 cw bO;go_wp2_with fail;obtain ⟨V,hV⟩:∃V,V=wr.alloc (.cells #[QZ r,QZ c0,.slice (some ⟨gl,ol,none⟩) nn dl,.slice Bl r el] 358):=⟨_,rfl⟩;have b9:Vg V wr.heap.size #[QZ r,QZ c0,.slice (some ⟨gl,ol,none⟩) nn dl,.slice Bl r el] 358:=by rw [hV];exact PW wr _
   have Q:aq wr V:=by rw [hV];exact (PY _ _).alloc (PV _) _
   rw [<-hV];clear hV;have v2:=aw Q r2;have v3:=aw Q r3;have vp:=aw Q p0;have vj:=aw Q bi;obtain ⟨⟨y0,y1,y2,y3⟩,yf⟩:=bx4 b9;have bA:b<V.heap.size:=aB v2;have dr:w2.heap.size+1<V.heap.size:=aB vp;have ev:wr.heap.size<V.heap.size:=aB y0;have em:go<V.heap.size:=aB vj;obtain ⟨k1,a4⟩:=Vb (k+1);have eb:k<k1:=ap;rw [a4] at vp;have es:=aa a4;clear a4;obtain ⟨H,eq⟩:=ae Q b9;clear Q b9 r0 r1 r2 r3 rf p0 pf bi bG bb bo bh
   go_region_held3 (λO=>O.cell? ⟨wr.heap.size,0,none⟩=some (QZ r)/\O.cell? ⟨wr.heap.size,1,none⟩=some (QZ c0)/\O.cell? ⟨wr.heap.size,2,none⟩=some (.slice (some ⟨gl,ol,none⟩) nn dl)/\O.cell? ⟨w2.heap.size+1,0,none⟩=some (.slice (some ⟨go,0,none⟩) k1 co)/\O.cell? ⟨go,k,none⟩=some (.slice Aj c0 cj)/\O.cell? ⟨b,2,none⟩=some (QZ q)) (simp [go_sem, *])
    ((go_at_call 266;refine (dc.o V.drew H.o.drew).mono ?_;rintro e w5 ⟨A5,c5,rfl,bw,y⟩;have g0:=aw y y0;have g1:=aw y y1;have g2:=aw y y2;have g3:=aw y y3;have g4:=aw y vp;have g5:=aw y vj;have g6:=aw y v2;have g7:=aw y v3;obtain ⟨aG,ad⟩:=ae bw y;clear bw y))
   go_wp2_with fail;have b7:aq wr w5:=(H.o.drew).trans (ad.o.mono (by have:=H.o.size;simp;omega))
   have b8:∀a b',A5=some a->Bl=some b'->a.block≠b'.block:=λa b' ha dn=>by
    obtain ⟨b1,o1,R,e5⟩:=cM.o.num (k:=0) (by rw [LL,Hr.o];omega);rw [dn] at R;injection R with R
    subst R;have l1:b1<wr.heap.size:=aB e5;have l2:=(aG.o.lt a.block (by rw [ha];rfl)).1;have l3:=H.o.size;simp at l2 |-;omega
   refine (yI _ A5 Bl _ (bL sz ps k) r c5 el w5 aG.o (cM.o.below b7) (by rw [LL,Hr.o]) ap b8).mono ?_;rintro e w6 ⟨rfl,a2,bX⟩;have bI:eT (Gg (wL sz ps k) r c0 (dJ sz ps q x k) q) (bL sz ps k)=zL sz ps q k (dJ sz ps q x k):=by unfold zL;rw [Hr.o,dv.o]
   rw [bI] at a2;have a2:=aF (base':=V.heap.size) a2 V3;have a6:∀i,(Value.slice A5 r c5).ownBlock=some i->V.heap.size<=i:=λi hi=>by have:=(aG.o.lt i hi).1;simpa using this
   have a5:aq V w6:=((PY _ V).drew.trans (ad.o.mono V3)).trans (bX.toBelow (by have:=ad.o.size;simpa using this) a6);have u2:=(a5.cell (p:=⟨b,2,none⟩) bA).trans v2;have u3:=(a5.cell (p:=⟨b,3,none⟩) bA).trans v3;have up:=(a5.cell (p:=⟨w2.heap.size+1,0,none⟩) dr).trans vp;obtain ⟨cf,c9,e6⟩:=af a2 a5 a6;have cA:IntKind.i64.wrap ((k:Int)+1)=(k:Int)+1:=P3 _ ap;have ec:=aa cA;clear cA a2 a5 bX bI a6 b8 aG ad b7 g0 g1 g2 g3 g4 g5 g6 g7 v2 v3 vp vj y0 y1 y2 y3 yf
   go_upto_if 67 with (fail)
   go_cut [] (λwx=>aq V wx/\wx.ownsRow V.heap.size 2 1 (.slice A5 r c5) r (aA .i64 (dJ sz ps q x (k+1))))
   case first=>
    by_cases bn:k+1<n
    .have D:dJ sz ps q x (k+1)=ww (zL sz ps q k (dJ sz ps q x k)):=by
      have:=Hn.o
      show (if k+1<sz.length-1 then _ else _)=_
      rw [if_pos ap]
     have U:=xD sz ps q k (dJ sz ps q x k);rw [Hr.o] at U;obtain ⟨z,hz⟩:=Vb (zL sz ps q k (dJ sz ps q x k));rw [hz] at U D;have N:=cf.o;rw [hz] at N;have b4:=jS z (λi=>max (nth z i) 0);unfold ww at D;rw [<-b4,U] at D;obtain ⟨cP,bf,be⟩:=af U N D;clear b4 U hz D N u2 u3 up;go_wp2_with fail;have b3:decide ((k:Int)+1<n)=true:=QS ap;rw [b3];clear bn b3
     go_loopw [70] (λi wx=>∃j:Nat,j<=r/\i=QZ j/\wx.ownsRow V.heap.size 2 1 (.slice A5 r c5) r (aA .i64 (lq z j (λi=>max (nth z i) 0)))/\aq V wx) (λi _=>r-(intOf i).toNat)
     .exact ⟨0,PZ _,rfl,by rw [iS];exact bf.o,c9.o⟩
     case round=>
      obtain ⟨j,hj,rfl,v,C⟩:=hrel;by_cases L:j<r
      .obtain ⟨g7,d7,cv,dp,_⟩:=v.form ap;simp only [QH] at cv;obtain ⟨rfl,dw,rfl⟩:=cv;clear dw;have bd:j<z.length:=by rw [cP.o];exact L
       have p1:=cS v L;rw [ii _ bd,if_neg ap] at p1;have f1:=v.frozenAt j;have bN:=jR (l:=z) (k:=j) (λi=>max (nth z i) 0) bd;obtain ⟨HO,HB,d2⟩:=af v C bN;clear v C bN bd;go_wp2_with fail;refine (Ju _ _).mono ?_;rintro e w9 ⟨rfl,rfl⟩;go_wp2;go_roundw
       .exact ⟨j+1,ap,Vc,by rw [<-d2.o];exact eC HO.o j _,HB.o.setCell (p:=⟨g7,j,none⟩) dp _⟩
       .simp [intOf];omega
      .obtain rfl:j=r:=ap;obtain ⟨HO,HB⟩:=ae v C;clear v C;go_wp2;go_meet;exact ⟨HB.o,by rw [be.o];exact HO.o⟩
    .have D:dJ sz ps q x (k+1)=zL sz ps q k (dJ sz ps q x k):=by
      have:=Hn.o
      show (if k+1<sz.length-1 then _ else _)=_
      rw [if_neg ap]
     have be:=aa D;clear D;go_wp2;go_meet;exact ⟨c9.o,by rw [be.o];exact cf.o⟩
   case rest=>
    obtain ⟨C,N⟩:=hcut;have J:aq wr wc:=H.o.trans (C.mono H.o.size);have cd:=(J.block _ d8).trans HP.o;have b6:=az Ho.o J;obtain ⟨ei,bf,bv,I,a3⟩:=ah C N cd b6 J;clear C N cd b6 J u2 u3 up;have bV:w.heap.size<=wc.heap.size:=by have:=a3.o.size;omega
    have cx:w.heap.size<=w2.heap.size+1:=by have:=a9.o.size;omega
    have bz:=Bv (w2.heap.size+1) w.heap.size (some ⟨go,0,none⟩) A5 (k+1) co r c5 vals wc bv.o I.o ap bV cx;have ds:=aa bz;clear bz;go_wp2_with fail;refine ds.o.mono ?_;rintro e w8 ⟨⟨v8,rfl⟩,A8,c8,dT,d4,ci⟩
    have cO:aq w w8:=(HW.o.trans (a3.o.mono HW.o.size)).trans (ci.toBelow bV (λi hi=>by
     rcases hi with rfl | hi
     .exact cx
     .exact (I.o.lt i hi).1))
    have a0:∀{m:Nat} {u:Value} {ys:R7},wc.ownsRow w.heap.size 2 1 u m ys->w8.ownsRow w.heap.size 2 1 u m ys:=λh=>ci.own h (λi hi e=>by
     rcases e with rfl | e
     .exact ay bv.o V0 h hi.symm
     .exact jP I.o h V0 i e hi)
    have e7:=I.o.1;go_wp2;go_roundw
    case rel=>
     refine ⟨k+1,ap,Vc,A8,c8,vals++[.slice A5 r c5],dT,d4,λj hj=>?_,cO⟩;rcases Qf j (k+1) with d9 | d9
     .obtain ⟨Aj,cj,h1,h2⟩:=Hv.o j ap;exact ⟨Aj,cj,by rw [Qw ap];exact h1,a0 (az h2 a3.o)⟩
     .obtain rfl:j=k+1:=ap;refine ⟨A5,c5,?_,?_⟩
      .rw [Qx ap,Hr.o];simp [show vals.length=k+1 by omega]
      .rw [Hr.o];exact a0 (aF bf.o (by have:=H.o.size;omega))
    case measure=>exact Va
  .obtain rfl:k=n:=ap;have aR:=aM.o
   have cn:jD wr vals sz.length (dJ sz ps q x):=by
    refine ⟨?_,λj hj=>?_⟩
    .have:=Ho.o.1;omega
    .obtain ⟨Aj,cj,h1,h2⟩:=Hv.o j ap;have a7:=fA (sz:=sz) (ps:=ps) (q:=q) Hx.o j;obtain ⟨A',c',e,hc⟩:=aC h2;injection e with R e2 e3
     subst R;subst e3;rw [a7];exact ⟨_,_,h1,hc,Rd.own h2⟩
   have cL:sz.length<=co:=by
    obtain ⟨A',c',e,hc⟩:=aC Ho.o;injection e with R e2 e3
    omega
   have bM:=Rd.own Ho.o;obtain ⟨d5,dk,e4⟩:=af bM cn cL;clear bM cn cL;clear aR;go_wp2;go_ret2;exact ⟨some ⟨go,0,none⟩,co,vals,(by rw [aM.o];rfl),d5.o,dk.o,e4.o,HW.o⟩
def pw (a y:Q_):Q_:=dU a.length λi=>wrap64 (nth a i-nth y i)
theorem Gq (a y:Q_):(pw a y).length=a.length:=cD _ _
theorem Gr (a y:Q_):W64 (pw a y):=eZ λ_ _=>fD _
theorem MR (b:Nat) (sz ps:Q_) (q:Int) (A B:N_) (x y:Q_) (c d:Nat) (w:R8) (h:mt 212 352 w b sz ps q) (hg:dX sz) (wp:W64 ps) (hA:Rd w A (aA .i64 x)) (hx:x.length=szN sz 0) (wx:W64 x) (hB:Rd w B (aA .i64 y)) (hy:y.length=szN sz (sz.length-1)):Vj 249 #[(au b),.slice A x.length c,.slice B y.length d] w λe H=>∃A' c' D dc vals,Vi e (.tuple #[.slice A' sz.length c',.slice D y.length dc,.bool true])/\Rd H A' vals/\jD H vals sz.length (dJ sz ps q x)/\sz.length<=c'/\
   H.ownsRow w.heap.size 2 1 (.slice D y.length dc) y.length (aA .i64 (pw (dJ sz ps q x (sz.length-1)) y))/\aq w H:=by
 have ht:=Ix b sz ps q A x c w h hg wp hA hx wx;have hv:=fA (sz:=sz) (ps:=ps) (q:=q) hx (sz.length-1);have hl:=hg.1.1;have a9:=(hg.1.at (k:=sz.length-1) ap).2.1;have I:((y.length:Int) != (szN sz (sz.length-1):Int))=false:=by simp;omega
 obtain ⟨n,hn⟩:=Vb sz.length;obtain ⟨m,hm⟩:=Vb y.length;rw [hn] at ht hl hv I hy a9 |-;rw [<-hy,hm] at hv I a9;rw [hm];obtain ⟨a,ha⟩:=Vb (dJ sz ps q x (n-1));have L:=jS a (λi=>wrap64 (nth a i-nth y i));rw [ha] at hv |-;unfold pw;rw [<-L,hv];clear L;have Ha:=aa ha;clear ha;obtain ⟨Ht,Hv,HB,Hm⟩:=ag ht hv hB hm;clear ht h hg wp hA hx wx hn hv hm hB hy;obtain ⟨b4,b7⟩:=hl;go_enter func249,ntmps249;go_wp2_with fail;refine Ht.o.mono ?_;rintro e w1 ⟨A',c',vals,rfl,hr,Y,hc,hb⟩;obtain ⟨Aj,cj,e1,e2,e3⟩:=Y.2 (n-1) ap;rw [Ha.o,Hv.o] at e1 e2;rw [Ha.o] at e3;have ab:=hr;obtain ⟨bo,oo,rfl,p0⟩:=hr _ _ e1;have a1:(n:Int)-1=((n-1:Nat):Int):=ap;have hw:IntKind.i64.wrap ((n:Int)-1)=((n-1:Nat):Int):=by rw [P3 _ ap];omega
 have hi:((n-1:Nat):Int)<n:=ap;have av:n-1<n:=ap;have Q:=Hv.o;have Z:=fP Aj a cj w1 e3 ap;rw [Q] at Z;obtain ⟨b0,b2,Hb,aM,b1,Hc⟩:=ai Z Q hb Y ab hc;clear hr ab Y e1 e2 e3 hb Z Q hc;rw [a1] at hw;go_wp2_with fail;refine b0.o.mono ?_;rintro e w2 ⟨D,dc,rfl,b3,v,V⟩;have a5:=Hb.o.trans (V.mono Hb.o.size);have ao:=Hb.o.size;have a4:=aa v;have v:=aF v ao;obtain ⟨a2,a0,a7⟩:=af a5 v V;clear a5 v V p0 hw a1 hi av I;go_wp2
 go_loopw [42] (λi wr=>∃k:Nat,k<=m/\i=QZ k/\wr.ownsRow w.heap.size 2 1 (.slice D m dc) m (aA .i64 (lq a k (λi=>wrap64 (nth a i-nth y i))))/\Keep (λi=>(Value.slice D m dc).ownBlock=some i) w2 wr) (λi _=>m-(intOf i).toNat)
 .exact ⟨0,PZ _,rfl,by rw [iS];exact a0.o,Keep.refl _ _⟩
 case round=>
  obtain ⟨k,hk,rfl,u,O⟩:=hrel;by_cases R:k<m
  .obtain ⟨g7,d7,a8,b6,_⟩:=u.form ap;simp only [QH] at a8;obtain ⟨rfl,aR,rfl⟩:=a8;clear aR;have T:k<a.length:=by rw [b2.o];exact R
   have p1:=cS u R;rw [ii _ T,if_neg ap] at p1;have f1:=u.frozenAt k;have a3:=jR (l:=a) (k:=k) (λi=>wrap64 (nth a i-nth y i)) T;obtain ⟨C,oy,rfl,py⟩:=HB.o.num (show k<y.length by rw [Hm.o];exact R);have aG:C<w.heap.size:=aB py;have I:g7≠C:=ap;have a6:aq w wr:=a2.o.trans (O.toBelow a2.o.size (λi hi=>(a0.o.lt i hi).1));have aP:=(a6.cell (p:=(ar C (oy+k))) aG).trans py;obtain ⟨HO,HK,ad⟩:=af u O a3;clear u O a3 T a6 py;go_wp2_with fail;have b5:(k:Int)<m:=ap;have J:(λH:R8=>Vh H g7 k (QZ (nth a k))/\Vh H C (oy+k) (QZ (nth y k))) wr.drew:=⟨p1,aP⟩;refine XA.g 11 (λH:R8=>Vh H g7 k (QZ (nth a k))/\Vh H C (oy+k) (QZ (nth y k))) ?_;refine XA.t ?_ [0,1,2,3,4,5,6,7,8,9] J ?_;refine XA.o 10 (λK O=>?_);go_simp;refine (DA _ _ _).mono ?_;rintro e w9 ⟨rfl,rfl⟩;dsimp only;refine O.out _ _ J (λJ=>?_);clear O K J;refine XA.e ?_;simp only [Qq,Qs];go_wp2;go_roundw
   case rel=>
    refine ⟨k+1,ap,Vc,?_,?_⟩
    .rw [<-ad.o];exact eC (bZ HO.o 1) k _
    .exact Keep.setCell (HK.o.drewN 1) (ar g7 k) (.inr rfl) _
   case measure=>exact Va
  .obtain rfl:k=m:=ap;have N:aq w1 wr:=a7.o.trans (O.toBelow a7.o.size (λi hi=>(a4.o.lt i hi).1));obtain ⟨HO,U⟩:=ae u N;clear u N O;go_wp2;go_ret3;exact ⟨_,_,_,_,vals,rfl,b1.o.below U.o,aM.o.below U.o,Hc.o,HO.o,Hb.o.trans (U.o.mono Hb.o.size)⟩
section
open Go.Shelf
attribute [local go_sem] Oper.semAt_some
theorem wJ {base:Nat} {e:R9} {G:Nat} {o:Obj} (h:W.ownsRow base e size (Vf G 0 n c) n xs) (v:W.heap[G]?=some o):o.isCells=true:=by
 rcases h.2 with ⟨x,_⟩ | ⟨g,cap,u,p,_,i,_⟩
 .cases x
 .simp only [QH,Option.some.injEq,Addr.mk.injEq] at p;rw [<-p.1.1,v] at i
  cases i;rfl
def pD (ms:Q_) (c:Nat) (ys:Q_) (q:Int) (h:Q_) (k:Nat):Q_:=eT h (qT (nz ms c k) (nth ys k) q)
def pC (ms:Q_) (r c:Nat) (ys:Q_) (q:Int):Q_:=(List.range r).foldl (pD ms c ys q) (List.replicate c 0)
theorem xt (ms:Q_) (c:Nat) (ys:Q_) (q:Int) (h:Q_) (k:Nat):(pD ms c ys q h k).length=h.length:=cD _ _
theorem LI (ms:Q_) (r c:Nat) (ys:Q_) (q:Int):((List.finRange r).foldl (λi k=>pD ms c ys q i k.1) (List.replicate c 0))=pC ms r c ys q:=by
 unfold pC;have h:List.range r=(List.finRange r).map (·.1):=List.ext_getElem V3 V3;rw [h,List.foldl_map]
theorem CF (r c k:Nat) (g o:Nat) (ms:Q_) (y q:Int) (W:R8) (hk:k<r) (hc:1<=c/\c<=1048576) (h:ms.length=r*c) (hA:Rd W (some (ar g o)) (aA .i64 ms)) (x:W64 ms) (v: -9223372036854775808<=y/\y<=9223372036854775807):Vj 261 #[Vf g (o+k*c) c c,QZ y,QZ q] W λe i=>∃u p,Vi e (.slice u c p)/\i.ownsRow W.heap.size 2 1 (.slice u c p) c (aA .i64 (qT (nz ms c k) y q))/\aq W i:=by
 have:=EZ (some (ar g (o+k*c))) (nz ms c k) c y q W (D3 hA hk h) (by rw [jo];omega) (Ad x hk h) v
 rwa [jo] at this
def Me (r c:Nat) (g o p d:Nat) (ms:Q_) (B:N_) (ys:Q_) (e:Nat) (q:Int) (w:R8) (G N M:Nat) (h:List (Fin r)) (W:R8):Prop:= (W.ownsRow w.heap.size 2 1 (.slice (some (ar G 0)) c c) c (aA .i64 (h.foldl (λi k=>pD ms c ys q i k.1) (List.replicate c 0)))/\Boxed W N 139 (.slice (some (ar G 0)) c c)/\Boxed W (w.heap.size+1) 139 (.slice B r e)/\Boxed W (w.heap.size+1+1) 3 (QZ q)/\W.heap[M]?=some (.cells #[QZ r,QZ c,.slice (some (ar g o)) p d] 354 (0,0)))/\aq w W
theorem Ic (r c:Nat) (g o y d:Nat) (ms:Q_) (B:N_) (ys:Q_) (e:Nat) (q:Int) (w:R8) (G N M K:Nat) (u:w.heap.size<=K):OwnFrom K (Me r c g o y d ms B ys e q w G N M):=by
 intro s W C row hs hg hr;obtain ⟨⟨h1,i,A,p,x⟩,h⟩:=hs;have v:=ownFrom_below (β:=Unit) (PV _) u () W C row h hg hr;exact ⟨⟨zJ h1 hg hr,eQ rfl i hg hr,eQ rfl A hg hr,eQ rfl p hg hr,eQ rfl x hg hr⟩,v⟩
theorem Gw (r c:Nat) (g o Q d:Nat) (ms:Q_) (B:N_) (ys:Q_) (e:Nat) (q:Int) (w:R8) (hr:1<=r/\r<=1048576) (hc:1<=c/\c<=1048576) (aM:Q=r*c) (hd:Q<=d) (hm:Q<=17592186043904) (bn:ms.length=Q) (hA:Rd w (some (ar g o)) (aA .i64 ms)) (wm:W64 ms) (hB:Rd w B (aA .i64 ys)) (bs:ys.length=r) (wy:W64 ys):Vj 251 #[.agg #[QZ r,QZ c,Vf g o Q d],.slice B r e,QZ q] w λe R=>∃A' c',Vi e (.tuple #[.slice A' c c',.bool true])/\R.ownsRow w.heap.size 2 1 (.slice A' c c') c (aA .i64 (pC ms r c ys q))/\aq w R:=by
 have b6:=λR=>nX r c (some (ar g o)) Q d R hr hc aM hm;have bh:=λcs R=>tI cs R;have be:(8:Nat)*c<=281474976710656:=ap;have cl:=aa be;clear be;obtain ⟨c6,c7,aP,bA,c8,HA,HB,WM⟩:=ak b6 bh aM bn bs hA hB wm;have WY:=aa wy;clear b6 bh aM bn bs hA hB wm wy;refine (callsIn_wide (n:=3)).1 ?_;refine callsIn_of_wp_marks func251 rfl trivial ?_ rfl;simp only [ntmps251,List.size_toArray,List.length_cons,List.length_nil,Nat.reduceAdd,Nat.reduceSub,Array.replicate_succ,Array.replicate_zero,List.push_toArray,List.append_toArray,List.nil_append,List.cons_append]
 gi_wp2_with fail
 refine ⟨trivial,?_⟩;refine (callsIn_wide.2 (c6.o _)).mono ?_;rintro e w1 ⟨rfl,rfl⟩
 gi_wp2_with (gi_at_make;refine yP mY _ rfl (.tmp 22) (.tmp 22) rfl rfl c rfl rfl cl.o V2 ?_)
 intro w2 y U;rw [fB] at y;have a9:aq w w2:=Below.trans (((((PY _ w).alloc (PV _) _).alloc V3 _).alloc V6 _).alloc V6 _) (U.mono ap)
 have h3:Vg w2 w.heap.size #[QZ r,QZ c,Vf g o Q d] 354:=by
  refine (U.block w.heap.size ap).trans ?_;refine (Qc _ _ _ V8).trans ((Qc _ _ _ V8).trans ((Qc _ _ _ V3).trans (PW w _)))
 have h4:Boxed w2 (w.heap.size+1) 139 (.slice B r e):=by
  refine (U.block (w.heap.size+1) ap).trans ?_;refine (Qc _ _ _ V8).trans ((Qc _ _ _ V3).trans ?_);have:=PW (w.alloc (.cells #[QZ r,QZ c,Vf g o Q d] 354)) (.cells #[.slice B r e] 139);simpa using this
 have h5:Boxed w2 (w.heap.size+1+1) 3 (QZ q):=by
  refine (U.block (w.heap.size+1+1) ap).trans ?_;refine (Qc _ _ _ V3).trans ?_;have:=PW ((w.alloc (.cells #[QZ r,QZ c,Vf g o Q d] 354)).alloc (.cells #[.slice B r e] 139)) (.cells #[QZ q] 3);simpa using this
 obtain ⟨G,hG⟩:=Vb (w.heap.size+1+1+1+1);rw [hG] at y U |-;obtain ⟨a0,bv,HG,H3,H4,H5⟩:=ai y a9 hG h3 h4 h5;obtain ⟨⟨m0,m1,m2⟩,mf⟩:=bx3 h3;have bI:w.heap.size<w2.heap.size:=PU h3;clear y U a9 hG h3 h4 h5
 gi_wp2_with fail
 refine ⟨trivial,?_⟩;refine (callsIn_wide.2 (c7.o _ _)).mono ?_;rintro e w1 ⟨rfl,rfl⟩
 gi_wp2_with fail
 obtain ⟨H,C⟩:∃H,H=w2.alloc (.cells #[Vf G 0 c c] 139):=⟨_,rfl⟩;rw [<-C];have a7:H.heap.size=w2.heap.size+1:=by rw [C];simp
 have bO:Boxed H w2.heap.size 139 (Vf G 0 c c):=by rw [C];exact Boxed.new w2 _ _
 have b4:Boxed H (w.heap.size+1) 139 (.slice B r e):=by rw [C];exact H4.o.alloc _
 have b5:Boxed H (w.heap.size+1+1) 3 (QZ q):=by rw [C];exact H5.o.alloc _
 have r0:H.ownsRow w.heap.size 2 1 (Vf G 0 c c) c (aA .i64 (List.replicate c 0)):=by rw [C];exact aF (a0.o.alloc _) (by have:=HG.o;omega)
 have a1:aq w H:=by rw [C];exact bv.o.alloc ap _
 have bM:Vg (H.alloc (.cells #[QZ r,QZ c,Vf g o Q d] 354)) H.heap.size #[QZ r,QZ c,Vf g o Q d] 354:=PW H _;obtain ⟨N,hN⟩:∃N,N=w2.heap.size:=⟨_,rfl⟩;rw [<-hN] at bO a7 |-;rw [<-a7];obtain ⟨bG,O,bi,bV,bz,cf,ci,HN⟩:=ak a7 a1 bM bO b4 b5 r0 hN;have cL:=aa C;clear a7 a1 bM bO b4 b5 r0 hN C m0 m1 m2 mf bI;have cd:Me r c g o Q d ms B ys e q w G N H.heap.size [] (H.alloc (.cells #[QZ r,QZ c,Vf g o Q d] 354)):=⟨⟨ci.o.alloc _,bV.o.alloc _,bz.o.alloc _,cf.o.alloc _,bi.o⟩,O.o.alloc (by have:=O.o.size;omega) _⟩
 refine' wpIn_rangeFunc_ownG (F:=Fence.wide) (n:=3) rfl ap (gf:=268) (lb:=#[(au H.heap.size)]) rfl trivial (enters_of func268 V1 rfl)
  (pJ _ H.heap.size w.heap.size g o r c Q d hr.2 hc aP.o hd _ bi.o) mG (mH (by have:=O.o.size;simp;omega) V3) (PY _ _) (λ_=>rfl)
  (Me r c g o Q d ms B ys e q w G N H.heap.size)
  (λ_ _ _=>False)
  (Ic r c g o Q d ms B ys e q w G N H.heap.size _ (by have:=O.o.size;simp;omega))
  (λ_ _ _ _ _ hs _ _=>hs)
  cd
  _ ?assign ?body ?done ?stop
 case assign=>
  intro l x W K hK;unfold qZ
  gi_wp2
  exact hK
 case body=>
  rintro l c9 x W ⟨⟨L,Y,a4,a5,av⟩,a6⟩ b9;have bb:=a4.cell;have bo:=a5.cell;have b0:=Y.cell;obtain ⟨T,HO,HM,a8,H4,H5,cM⟩:=aj L Y av a6 a4 a5 b9;clear L av a6 a4 a5 b9 Y
  have cw:G<W.heap.size:=by
   obtain ⟨g6,d6,I,_,Z⟩:=T.o.form (by omega:0<c);simp only [QH,Option.some.injEq,Addr.mk.injEq] at I;rw [I.1.1];exact Z
  gi_wp2_with fail
  have a3:x.1<ys.length:=by rw [c8.o];exact x.2
  have b7:=λW' (k:aq W W')=>CF r c x.1 g o ms (nth ys x.1) q W' x.2 hc (bA.o.trans aP.o) ((HA.o.below a8.o).below k) WM.o (WY.o _ a3);have cy:(x.1:Int)<r:=by have:=x.2;omega
  obtain ⟨b2,o2,cj,p2⟩:=(HB.o.below a8.o).num a3;subst cj
  have cr:G<N:=by
   obtain ⟨g6,d6,I,_,Z⟩:=a0.o.form (by omega:0<c);simp only [QH,Option.some.injEq,Addr.mk.injEq] at I;have:=HN.o;have h7:G<w2.heap.size:=by rw [I.1.1];exact Z
   omega
  have b8:¬G=N:=ap;have bl:¬G=w.heap.size+1:=by have:=HG.o;omega
  have bf:¬G=w.heap.size+1+1:=by have:=HG.o;omega
  have co:¬G=b2:=by
   obtain ⟨b3,o3,e3,p3⟩:=HB.o.num a3;have J:b3<w.heap.size:=aB p3;simp only [Option.some.injEq,Addr.mk.injEq] at e3;have:=HG.o;omega
  have bN:=aa b7;clear b7 a3;refine nl (λR=>Vh R N 0 (Vf G 0 c c)/\Vh R (w.heap.size+1) 0 (Vf b2 o2 r e)/\Vh R (w.heap.size+1+1) 0 (QZ q)/\Vh R b2 (o2+x.1) (QZ (nth ys x.1))) V1 V1 (by rintro ⟨_,_,h⟩;exact h) ?_;have u:(λR:R8=>Vh R N 0 (Vf G 0 c c)/\Vh R (w.heap.size+1) 0 (Vf b2 o2 r e)/\Vh R (w.heap.size+1+1) 0 (QZ q)/\Vh R b2 (o2+x.1) (QZ (nth ys x.1))) W.drew:=⟨b0,bb,bo,p2⟩;clear b0 bb bo p2;refine wpAnyH_take (i:=0) (v:=?_) rfl V1 V1 V1 (λ_ _ _ h=>h) (Or.inl ⟨by rfl,?_⟩) u ?_;rotate_left
  .intro w9 p;(try dsimp only at p);obtain ⟨s1,s2,s3,s4⟩:=p;go_simp;(try with_reducible rfl)
  simp only [Qh,Qi,Qj,Act.put,Qk,Ql,Qm];refine wpAnyH_take (i:=1) (v:=?_) rfl V1 V1 V1 (λ_ _ _ h=>h) (Or.inl ⟨by rfl,?_⟩) u ?_;rotate_left
  .intro w9 p;(try dsimp only at p);obtain ⟨s1,s2,s3,s4⟩:=p;go_simp;(try with_reducible rfl)
  simp only [Qh,Qi,Qj,Act.put,Qk,Ql,Qm];refine wpAnyH_take (i:=2) (v:=?_) rfl V1 V1 V1 (λ_ _ _ h=>h) (Or.inl ⟨by rfl,?_⟩) u ?_;rotate_left
  .intro w9 p;(try dsimp only at p);obtain ⟨s1,s2,s3,s4⟩:=p;go_simp;(try with_reducible rfl)
  simp only [Qh,Qi,Qj,Act.put,Qk,Ql,Qm];refine wpAnyH_take (i:=3) (v:=?_) rfl V1 V1 V1 (λ_ _ _ h=>h) (Or.inl ⟨by rfl,?_⟩) u ?_;rotate_left
  .intro w9 p;(try dsimp only at p);obtain ⟨s1,s2,s3,s4⟩:=p;go_simp;(try with_reducible rfl)
  simp only [Qh,Qi,Qj,Act.put,Qk,Ql,Qm];refine wpAnyH_take (i:=4) (v:=?_) rfl V1 V1 V1 (λ_ _ _ h=>h) (Or.inl ⟨by rfl,?_⟩) u ?_;rotate_left
  .intro w9 p;(try dsimp only at p);obtain ⟨s1,s2,s3,s4⟩:=p;go_simp;(try with_reducible rfl)
  simp only [Qh,Qi,Qj,Act.put,Qk,Ql,Qm];refine wpAnyH_take (i:=5) (v:=?_) rfl V1 V1 V1 (λ_ _ _ h=>h) (Or.inl ⟨by rfl,?_⟩) u ?_;rotate_left
  .intro w9 p;(try dsimp only at p);obtain ⟨s1,s2,s3,s4⟩:=p;go_simp;(try with_reducible rfl)
  simp only [Qh,Qi,Qj,Act.put,Qk,Ql,Qm];refine wpAnyH_take (i:=6) (v:=?_) rfl V1 V1 V1 (λ_ _ _ h=>h) (Or.inl ⟨by rfl,?_⟩) u ?_;rotate_left
  .intro w9 p;(try dsimp only at p);obtain ⟨s1,s2,s3,s4⟩:=p;go_simp;(try with_reducible rfl)
  simp only [Qh,Qi,Qj,Act.put,Qk,Ql,Qm];refine wpAnyH_ready (rs:=[7]) V1 V3 ?_;refine AllReadyH.cons rfl (λK hK=>?_) AllReadyH.nil;simp only [Qh,Qi,Qj];go_simp;refine (bN.o _ ?_).mono ?_
  .exact (PY _ W).drew
  rintro e w3 ⟨A',c',rfl,A,J⟩;dsimp only;refine hK.out _ _ ?_ (λp=>?_)
  .exact ⟨aw J u.1,aw J u.2.1,aw J u.2.2.1,aw J u.2.2.2⟩
  clear hK K;have aG:=az (w:=W.drew) T.o J
  have ad:∀a b,(some (ar G 0):N_)=some a->A'=some b->a.block≠b.block:=λa b ha hb=>by
   cases ha;subst hb
   have h1:=(A.form (by omega:0<c));obtain ⟨g5,d5,bd,cn,_⟩:=h1;simp only [QH,Option.some.injEq] at bd;rw [bd.1];have h2:=T.o.form (by omega:0<c);obtain ⟨g6,d6,I,_,Z⟩:=h2;simp only [QH,Option.some.injEq,Addr.mk.injEq] at I;have h7:G<W.heap.size:=by rw [I.1.1];exact Z
   show G≠g5
   have h8:W.heap.size<=g5:=cn;omega
  have ab:=yI w.heap.size (some (ar G 0)) A' _ _ c c c' w3 aG (Rd.own A) (by unfold qT;rw [cD,jo]) ap ad;refine wpAnyH_ready (rs:=[8]) V1 V3 ?_;refine AllReadyH.cons rfl (λK hK=>?_) AllReadyH.nil;simp only [Qh,Qi,Qj,Act.put,Qk,Ql,Qm];obtain ⟨b1,cx,cb,bX⟩:=ag ab aG A J;clear ab aG A J ad;go_simp;refine b1.o.mono ?_;rintro e w4 ⟨rfl,ao,a2⟩;dsimp only;refine hK.out _ _ ?_ (λcv=>?_)
  .exact ⟨a2.cell p.1 (by simp [Value.ownBlock];exact b8),a2.cell p.2.1 (by simp [Value.ownBlock];exact bl),a2.cell p.2.2.1 (by simp [Value.ownBlock];exact bf),a2.cell p.2.2.2 (by simp [Value.ownBlock];exact co)⟩
  refine wpAnyH_done V1 ?_ _;have V:Keep (λi=>(Vf G 0 c c).ownBlock=some i) W w4:=((Keep.refl _ W).drew.trans (Keep.below bX.o)).trans a2;have cA:w.heap.size<=G:=by have:=HG.o;omega
  have bw:Below w.heap.size W w4:=V.toBelow a8.o.size (λk hk=>by simp [Value.ownBlock] at hk;omega);have cc:¬G=H.heap.size:=by have:=bG.o;omega
  have aR:=(V.block _ (PU HM.o) (by simp [Value.ownBlock];exact cc)).trans HM.o;refine ⟨(no V λk o hk ho=>?_).from _,⟨bw,λ_=>aR.trans HM.o.symm⟩,⟨⟨?_,?_,?_,?_,aR⟩,a8.o.trans bw⟩⟩
  .simp only [Value.ownBlock,Option.some.injEq] at hk;subst hk;exact wJ T.o ho
  .rw [List.foldl_append];exact ao
  .exact (V.block _ (PU HO.o) (by simp [Value.ownBlock];exact b8)).trans HO.o
  .exact (V.block _ (PU H4.o) (by simp [Value.ownBlock];exact bl)).trans H4.o
  .exact (V.block _ (PU H5.o) (by simp [Value.ownBlock];exact bf)).trans H5.o
 case done=>
  rintro D zs W hD rfl ⟨⟨L,Y,a4,a5,av⟩,a6⟩ hK;have hc:=Y.cell
  gi_wp2
  refine ⟨by simp,.inl ⟨_,_,rfl,run_takeDeferred hK,?_⟩⟩;rw [LI] at L;refine ⟨.tuple #[Vf G 0 c c,.bool true],by simp [results,results251,go_sem],_,_,rfl,ownsRow_putObj L _ hK rfl,a6.trans (belowK_b (w:=w) (PV _) W D _ _ (by have:=O.o.size;simp at hD;omega) hK rfl rfl)⟩
 case stop=>
  rintro D c c9 W _ _ h _;exact h.elim
end
def MK (c:Nat) (ys xs:Q_) (q:Int) (i:Nat):Int:=fJ (nth ys (i/c)) (nth xs (i%c)) q
def mN (r c:Nat) (ys xs:Q_) (q:Int):Q_:=dU (r*c) (MK c ys xs q)
def oT (r c:Nat) (ys xs:Q_) (q:Int) (h:List Nat) (x j:Nat):Q_:=dU (r*c) λi=>if i/c∈h\/(i/c=x/\i%c<j) then MK c ys xs q i else 0
theorem qB (r c:Nat) (ys xs:Q_) (q:Int) (h:List Nat) (x j:Nat):(oT r c ys xs q h x j).length=r*c:=cD _ _
theorem FO (r c:Nat) (ys xs:Q_) (q:Int) (x:Nat):List.replicate (r*c) 0=oT r c ys xs q [] x 0:=
 fN V3 λk hk=>by
  rw [dN _ _ (by simpa using hk)];simp
theorem JN {xs:Q_} {q:Int} (J:x<r) (H:j<c):(oT r c ys xs q o x j).set (x*c+j) (fJ (nth ys x) (nth xs j) q)=oT r c ys xs q o x (j+1):=by
 have p:x*c+j<r*c:=by
  have:=QY c (show x+1<=r by omega);rw [QM] at this;omega
 have C:(x*c+j)/c=x:=by rw [Nat.add_comm,Nat.add_mul_div_right _ _ ap,Nat.div_eq_of_lt H,QP]
 have y:(x*c+j)%c=j:=by rw [Nat.add_comm,Nat.add_mul_mod_self_right,Nat.mod_eq_of_lt H]
 refine gQ (by rw [List.length_set,qB,qB]) λi B=>?_;rw [List.length_set,qB] at B;rw [jc,qB];unfold oT;rw [bJ _ B,bJ _ B];by_cases h:i=x*c+j
 .subst h;rw [if_pos ⟨rfl,p⟩,if_pos (.inr ⟨C,ap⟩)];unfold MK;rw [C,y]
 .rw [if_neg (λu=>h u.1)];have A:¬(i/c=x/\i%c=j):=λu=>h (by rw [<-u.1,<-u.2,Nat.mul_comm];exact (Nat.div_add_mod i c).symm);by_cases h1:i/c∈o\/(i/c=x/\i%c<j)
  .rw [if_pos h1,if_pos (h1.imp id λu=>⟨u.1,ap⟩)]
  .rw [if_neg h1,if_neg];rintro (v | ⟨v,I⟩)
   .exact h1 (.inl v)
   .exact h1 (.inr ⟨v,by
     rcases Qf (i%c) j with D | D
     .exact D
     .exact absurd ⟨v,ap⟩ A⟩)
theorem JO {xs:Q_} {q:Int} (hc:1<=c) (y:Nat):oT r c ys xs q o x c=oT r c ys xs q (o++[x]) y 0:=by
 unfold oT;refine fv λi v=>?_;have hm:i%c<c:=Nat.mod_lt _ ap;by_cases h1:i/c∈o\/(i/c=x/\i%c<c)
 .rw [if_pos h1,if_pos];rcases h1 with h | ⟨h,_⟩
  .exact .inl (QI.2 (.inl h))
  .exact .inl (QI.2 (.inr (by simp [h])))
 .rw [if_neg h1,if_neg];rintro (p | ⟨_,u⟩)
  .rcases QI.1 p with h | h
   .exact h1 (.inl h)
   .exact h1 (.inr ⟨by simpa using h,hm⟩)
  .omega
theorem CC {xs:Q_} {q:Int} (x y:Nat):oT r c ys xs q h x 0=oT r c ys xs q h y 0:=by
 unfold oT;exact fv λi o=>by simp
theorem FQ {xs:Q_} {q:Int} (hc:1<=c) (y:Nat):oT r c ys xs q (List.range r) y 0=mN r c ys xs q:=by
 unfold oT mN;refine fv λi h=>?_;rw [if_pos];refine .inl (List.mem_range.2 ?_);exact (Nat.div_lt_iff_lt_mul ap).2 h
def AG (v d:Q_):Q_:=dU d.length λi=>if 0<nth v i then nth d i else 0
theorem GO (v d:Q_):(AG v d).length=d.length:=cD _ _
theorem GP {v d:Q_} (h:W64 d):W64 (AG v d):=eZ λk hk=>by
 split
 .exact h k hk
 .omega
theorem rH (ms:Q_) (r c:Nat) (ys:Q_) (q:Int):(pC ms r c ys q).length=c:=by
 unfold pC
 have:∀(l:List Nat) (i:Q_),i.length=c->(l.foldl (pD ms c ys q) i).length=c:=by
  intro l
  induction l with
  | nil=>intro i h;exact h
  | cons a l ih=>intro i h;exact ih _ (by rw [xt];exact h)
 exact this _ _ V3
theorem Ib (ms:Q_) (r c:Nat) (ys:Q_) (q:Int):W64 (pC ms r c ys q):=by
 unfold pC
 have:∀(l:List Nat) (i:Q_),W64 i->W64 (l.foldl (pD ms c ys q) i):=by
  intro l
  induction l with
  | nil=>intro i h;exact h
  | cons a l ih=>intro i h;exact ih _ (vm _ _)
 exact this _ _ (λk hk=>by rw [dN _ _ hk];simp)
def gw (sz ps:Q_) (q:Int) (x y:Q_):Nat->Q_
 | 0=>pw (dJ sz ps q x (sz.length-1)) y
 | j+1=>AG (dJ sz ps q x (sz.length-2-j)) (pC (wL sz ps (sz.length-2-j)) (szN sz (sz.length-1-j)) (szN sz (sz.length-2-j)) (gw sz ps q x y j) q)
def qK (sz ps:Q_) (q:Int) (x y:Q_):Nat->Q_
 | 0=>[]
 | j+1=>mN (szN sz (sz.length-1-j)) (szN sz (sz.length-2-j)) (gw sz ps q x y j) (dJ sz ps q x (sz.length-2-j)) q++(gw sz ps q x y j++qK sz ps q x y j)
def fR (sz ps:Q_) (q:Int) (x y:Q_):Q_:=qK sz ps q x y (sz.length-1)
theorem CB (r c:Nat) (ys xs:Q_) (q:Int):(mN r c ys xs q).length=r*c:=cD _ _
theorem mg {q:Int} {x y:Q_} (h:x.length=szN sz 0) (j:Nat):(gw sz ps q x y j).length=szN sz (sz.length-1-j):=by
 cases j with
 | zero=>show (pw _ _).length=_;rw [Gq,fA h];rfl
 | succ j=>show (AG _ _).length=_;rw [GO,rH,show sz.length-1-(j+1)=sz.length-2-j by omega]
theorem uV (sz ps:Q_) (q:Int) (x y:Q_) (j:Nat):W64 (gw sz ps q x y j):=by
 cases j with
 | zero=>exact Gr _ _
 | succ j=>exact GP (Ib _ _ _ _ _)
theorem N9 (h:r<szN sz (k+1)):nth (bL sz ps k) r=nth ps (dL sz k+r):=bJ _ h
theorem JZ (hr:r<szN sz (k+1)) (hc:c<szN sz k):nth (wL sz ps k) (r*szN sz k+c)=nth ps (bT sz k+r*szN sz k+c):=by
 unfold wL;rw [bJ _ (by have:=QY (szN sz k) (show r+1<=szN sz (k+1) by omega);rw [QM] at this;omega),QO]
theorem Mn {q:Int} {v:Q_} (wp:W64 ps) (hr:r<szN sz (k+1)):∀c,c<=szN sz k->sH sz ps q k r v c=wrap64 (C7 (nz (wL sz ps k) (szN sz k) r) v q c+nth (bL sz ps k) r):=by
 intro c
 induction c with
 | zero=>
  intro _;have h:=wp.nth (dL sz k+r);rw [sH,C7,N9 hr,Int.zero_add,nT h.1 h.2]
 | succ c ih=>
  intro hc;rw [sH,C7,ih ap,show nth (nz (wL sz ps k) (szN sz k) r) c=nth (wL sz ps k) (r*szN sz k+c) from bJ _ ap,JZ hr ap,tc,tc]
  congr 1
  omega
theorem Mm {q:Int} {v:Q_} (wp:W64 ps) (hr:r<szN sz (k+1)) (h:v.length=szN sz k):sH sz ps q k r v v.length=nth (zL sz ps q k v) r:=by
 rw [h,Mn wp hr _ (PV _)];unfold zL eT;rw [bJ _ (by rw [zY];exact hr)];unfold Gg;rw [bJ _ hr];unfold vE;rw [jo]
theorem Iu {q:Int} {x:Q_} (wp:W64 ps) (h:x.length=szN sz 0) (hr:r<szN sz (k+1)):
  nth (dJ sz ps q x (k+1)) r=if k+1<sz.length-1 then (if 0<sH sz ps q k r (dJ sz ps q x k) (dJ sz ps q x k).length then sH sz ps q k r (dJ sz ps q x k) (dJ sz ps q x k).length else 0) else sH sz ps q k r (dJ sz ps q x k) (dJ sz ps q x k).length:=by
 rw [Mm wp hr (fA h k)];rw [dJ]
 split
 .unfold ww;rw [bJ _ (by rw [xD];exact hr)]
  split
  .omega
  .omega
 .rfl
def uU (sz ps:Q_) (q:Int) (k c:Nat) (e:Q_):Nat->Int
 | 0=>0
 | r+1=>wrap64 (uU sz ps q k c e r+fJ (nth ps (bT sz k+r*szN sz k+c)) (nth e r) q)
theorem mb {α:Type} (f:α->Nat->α) (a:α) (n:Nat):(List.range (n+1)).foldl f a=f ((List.range n).foldl f a) n:=by rw [QL,List.foldl_append];rfl
theorem Ph {q:Int} (r:Nat):((List.range r).foldl (pD ms c ys q) (List.replicate c 0)).length=c:=by
 induction r with
 | zero=>simp
 | succ r ih=>rw [mb,xt,ih]
theorem Li {q:Int} {e:Q_} (hc:c<szN sz k):∀r,r<=szN sz (k+1)->uU sz ps q k c e r=nth ((List.range r).foldl (pD (wL sz ps k) (szN sz k) e q) (List.replicate (szN sz k) 0)) c:=by
 intro r
 induction r with
 | zero=>
  intro _;rw [uU,List.range_zero,List.foldl_nil,dN _ _ (by simpa using hc)];simp
 | succ r ih=>
  intro hr;rw [uU,ih ap,mb];unfold pD eT;rw [bJ _ (by have:=Ph (ms:=wL sz ps k) (c:=szN sz k) (ys:=e) (q:=q) r;unfold pD eT at this;omega)]
  congr 2
  unfold qT;rw [bJ _ (by rw [jo];exact hc),show nth (nz (wL sz ps k) (szN sz k) r) c=nth (wL sz ps k) (r*szN sz k+c) from bJ _ hc,JZ ap hc]
theorem Lj {q:Int} {x y:Q_} (h:x.length=szN sz 0) (i:j+2<=sz.length) (hc:c<szN sz (sz.length-2-j)):
  nth (gw sz ps q x y (j+1)) c=if 0<nth (dJ sz ps q x (sz.length-2-j)) c then uU sz ps q (sz.length-2-j) c (gw sz ps q x y j) (gw sz ps q x y j).length else 0:=by
 have hl:(gw sz ps q x y j).length=szN sz (sz.length-2-j+1):=by rw [mg h,show sz.length-1-j=sz.length-2-j+1 by omega]
 rw [hl,Li hc _ (PV _)];rw [gw];unfold AG;rw [bJ _ (by rw [rH];exact hc)];unfold pC;rw [show sz.length-1-j=sz.length-2-j+1 by omega]
theorem lB:dM prog 26 2 (QZ 0) 1 8:=⟨underlying26,info_parts V1,rfl,by decide⟩
theorem La:dM prog 200 26 (Ra) 1 24:=⟨underlying200,info_parts V1,rfl,by decide⟩
def Ns (sz ps:Q_) (q:Int) (x:Q_) (X:N_) (p n₀:Nat) (o:Obj) (k:Nat) (v:Value) (u w:R8):Prop:=
 ∃A c vals,v=.slice A (k+1) c/\w.ownsRow n₀ 26 1 (.slice A (k+1) c) (k+1) vals/\vals[0]?=some (.slice X (szN sz 0) p)/\
  (∀j,1<=j->j<=k->∃i h,vals[j]?=some (.slice i (szN sz j) h)/\w.ownsRow n₀ 2 1 (.slice i (szN sz j) h) (szN sz j) (aA .i64 (dJ sz ps q x j)))/\w.heap[n₀]?=some o/\Below n₀ u w
theorem BU (As Ap X:N_) (sz ps x:Q_) (cs cp cx:Nat) (q:Int) (w:R8) (h:vn w As Ap sz ps cs) (hX:Rd w X (aA .i64 x)) (hx:x.length=szN sz 0) (wx:W64 x) (bi:x.length<=cx):Vj 141 #[.agg #[.slice As sz.length cs,.slice Ap ps.length cp,QZ q],.slice X x.length cx] w λe B=>∃A' c' vals,Vi e (.slice A' sz.length c')/\Rd B A' vals/\jD B vals sz.length (dJ sz ps q x)/\sz.length<=c'/\aq w B:=by
 have hg:=h.hg;have cd:=hg.1.1;have b8:=λk r V v cv B (hb:aq w B) (hk:k+1<sz.length) (hr:r<szN sz (k+1)) (hV:Rd B V (aA .i64 v)) (hv:v.length=szN sz k) (wv:W64 v)=>Jd As Ap sz ps cs cp k r q V v cv B (h.below hb) hk hr hV hv wv;have av:=λB=>nW As Ap sz.length ps.length cs cp q B ap;obtain ⟨b,o,rfl,bX⟩:=h.hA.num (show 0<sz.length by omega);have dc:b<w.heap.size:=aB bX;have bo:=h.hA;have ci:=h.wp;obtain ⟨m,hm⟩:=Vb ps.length;obtain ⟨n,hn⟩:=Vb (sz.length-1);obtain ⟨L,hL⟩:=Vb sz.length;obtain ⟨x0,ad⟩:=Vb x.length;rw [hL] at hn;rw [hL,hm] at b8 av;rw [hn] at av;rw [hL] at cd |-;rw [hm,ad];rw [ad] at bi;have bN:L=n+1:=ap;obtain ⟨da,bf,HG,d4,WP,HX,Hx,WX⟩:=ak b8 av hg bo ci hX hx wx;obtain ⟨HL,cr,b6,Hn⟩:=ag hL ad bN hn;clear b8 av hg bo ci hX hx wx hL ad h bX hm bN hn;go_enter func141,ntmps141;go_wp2
 go_loopw [5,6] (λv i wr=>∃k:Nat,k<=n/\i=QZ k/\Ns sz ps q x X cx w.heap.size (.cells #[Vf b o L cs,.slice Ap m cp,QZ q] 198 (0,0)) k v w wr) (λ_ i _=>n-(intOf i).toNat)
 case atStart=>
  refine ⟨0,PZ _,rfl,some (ar (w.heap.size+1) 0),1,[.slice X x0 cx],rfl,?_,?_,λj h1 h2=>ap,?_,?_⟩
  .have:=wI (w.alloc (.cells #[Vf b o L cs,.slice Ap m cp,QZ q] 198)) 26 (.slice X x0 cx) w.heap.size V3;simpa using this
  .rw [<-Hx.o,cr.o];rfl
  .exact (Qc _ _ _ V3).trans (PW w _)
  .exact am
 case round=>
  obtain ⟨wq,rfl⟩:∃wq:R8,wq=wr:=⟨_,rfl⟩;obtain ⟨k,hk,rfl,Ao,co,vals,rfl,ho,cL,hv,A,hW⟩:=hrel;obtain ⟨⟨y0,y1,y2⟩,yf⟩:=bx3 A;have a0:=PU A;have hz:=hW.size;obtain ⟨Ho,bd,Hv,bI,HW⟩:=ah ho cL hv A hW;clear ho cL hv A hW;by_cases e7:k<n
  .have hR:=HG.o.1;have cf:k+1<sz.length:=by have:=b6.o;have:=HL.o;omega
   have z1:=hR.at cf;have e6:=hR.1.2;have p1:=(d4.o.num cf);obtain ⟨_,_,e',p1⟩:=p1;injection e' with e';injection e' with e1 e2 _;subst e1;subst e2
   have b7:=(HW.o.cell (p:=⟨b,o+(k+1),none⟩) dc).trans p1;rw [z1.2.2] at b7;obtain ⟨go,e5,cc,ee,_⟩:=Ho.o.form ap;simp only [QH] at cc;obtain ⟨rfl,d3,rfl⟩:=cc;clear d3
   have cA:∃Ak ck,vals[k]?=some (.slice Ak (szN sz k) ck)/\Rd wq Ak (aA .i64 (dJ sz ps q x k)):=by
    rcases Nat.eq_zero_or_pos k with rfl | a2
    .exact ⟨X,cx,bd.o,HX.o.below HW.o⟩
    .obtain ⟨Aj,cj,h1,h2⟩:=Hv.o k a2 (PV _);exact ⟨Aj,cj,h1,Rd.own h2⟩
   obtain ⟨Ak,ck,c6,bl⟩:=cA;obtain ⟨_,_,ek,pk⟩:=(Rd.own Ho.o) k _ c6;injection ek with ek;injection ek with i1 i2 _;subst i1;subst i2
   rw [QP] at pk;have Z:=fA (sz:=sz) (ps:=ps) (q:=q) Hx.o k;have dw:=ql (sz:=sz) (ps:=ps) (q:=q) WX.o k;have y:=λr (hr:r<szN sz (k+1))=>Iu (sz:=sz) (ps:=ps) (q:=q) (x:=x) (k:=k) (r:=r) WP.o Hx.o hr;have bV:=HL.o;have I:=λr (hr:r<szN sz (k+1)) B (hb:aq wq B)=>da.o k r Ak (dJ sz ps q x k) ck B (HW.o.trans (hb.mono HW.o.size)) ap hr (bl.below hb) Z dw;rw [Z] at I y;rw [bV] at y;rw [Hn.o] at y;obtain ⟨r1,b3⟩:=Vb (szN sz (k+1));obtain ⟨c0,b9⟩:=Vb (szN sz k);have bh:=fA (sz:=sz) (ps:=ps) (q:=q) Hx.o (k+1);rw [b3] at I y b7 z1 bh;rw [b9] at I y pk;obtain ⟨dk,d0,bA,ec,bv⟩:=ah I y b3 b9 bh;clear I y b3 b9 c6 bl Z p1 bh bV;have e8:(k:Int)+1<L:=by have:=b6.o;omega
   have b2:IntKind.i64.wrap ((k:Int)+1)=(k:Int)+1:=P3 _ ap;have dp:=aa b2;clear b2;go_wp2_with fail;refine (bf.o wq).mono ?_;rintro e w3 ⟨rfl,U⟩;have y0:=aw U y0;have pk:=aw U pk;have bO:go<w3.heap.size:=aB pk;have cP:w.heap.size<w3.heap.size:=aB y0;have T:=aa U;clear U;go_wp2
   go_loopw [7,8] (λv i wx=>∃r:Nat,r<=r1/\i=QZ r/\wx.ownsRow w3.heap.size 2 1 v r (aA .i64 ((dJ sz ps q x (k+1)).take r))/\aq w3 wx) (λ_ i _=>r1-(intOf i).toNat)
   .exact ⟨0,PZ _,rfl,Qb _ _ _ _,PY _ _⟩
   case round=>
    obtain ⟨wo,rfl⟩:∃wo:R8,wo=wr:=⟨_,rfl⟩;obtain ⟨r,hr,rfl,ab,A⟩:=hrel;obtain ⟨Al,cl,rfl,ds⟩:=aC ab;have J:aq wq wo:=T.o.trans (A.mono T.o.size);have x0:=(A.cell (p:=(ar w.heap.size 0)) cP).trans y0;have x1:=(J.cell (p:=(ar w.heap.size 1)) a0).trans y1;have x2:=(J.cell (p:=(ar w.heap.size 2)) a0).trans y2;have eb:=(J.cell (p:=⟨b,o+(k+1),none⟩) (show b<_ by omega)).trans b7;have b5:=(A.cell (p:=(ar go k)) bO).trans pk;have d6:w.heap.size<wo.heap.size:=aB x0;have dT:go<wo.heap.size:=aB b5;have d5:w3.heap.size<=wo.heap.size:=A.size;obtain ⟨b1,bn,C⟩:=af ab A J;clear ab A J ds;have b2:=dp.o;have dG:(0:Int)<=(k:Int)+1:=ap;have e0:((k:Int)+1).toNat=k+1:=ap;by_cases b4:r<r1
    .have I:=dk.o r b4;have c9:=aa I;clear I;go_wp2_with fail;have d1:k<k+1:=Nat.lt_succ_self k;have cy:(k:Int)<(k:Int)+1:=ap;have R:(λB:R8=>Vh B w.heap.size 0 (Vf b o L cs)/\Vh B w.heap.size 1 (.slice Ap m cp)/\Vh B w.heap.size 2 (QZ q)/\Vh B go k (.slice Ak c0 ck)) wo.drew:=⟨x0,x1,x2,b5⟩;refine HA.g (λB:R8=>Vh B w.heap.size 0 (Vf b o L cs)/\Vh B w.heap.size 1 (.slice Ap m cp)/\Vh B w.heap.size 2 (QZ q)/\Vh B go k (.slice Ak c0 ck)) ?_;refine HA.t ?_ [0,1,2,3,4,5,6] R ?_;refine HA.o 7 (λK hK=>?_);go_simp;refine (c9.o _ C.o.drew).mono ?_;rintro e w5 ⟨rfl,H⟩;have bz:=P7 (aw H x0) (P7 (aw H x1) (P7 (aw H x2) (aw H b5)));have g0:=aw H x0;have aM:=bn.o.trans (((PY wo.heap.size wo).drew.trans H).mono d5);have a8:=az b1.o ((PY wo.heap.size wo).drew.trans H);have d8:=H.size;simp only [QG] at d8;obtain ⟨aR,bb⟩:=ae aM a8;clear H aM a8 R d1 cy;dsimp only;refine hK.out _ _ bz (λR=>?_);clear hK K bz;refine HA.t ?_ [8] R ?_;refine HA.d ?_;have g1:=R.2.1;have g2:=R.2.2.1;clear R;go_wp2_with fail;refine (bf.o _).mono ?_;rintro e w6 ⟨rfl,ao⟩;have y:=d0.o r b4;have a5:=aR.o.trans (ao.mono aR.o.size);have a1:=az bb.o ao;have ea:=ao.size;have e4:=a5.size;obtain ⟨aP,a9⟩:=ae a5 a1;clear ao a5 a1 g0 g1 g2 x0 x1 x2;have bs:r<(dJ sz ps q x (k+1)).length:=by rw [bv.o];exact b4
     have cn:=fE _ r bs;have c8:=aa cn;clear cn bs;by_cases D:k+1<n
     .have cO:((k:Int)+1<n):=ap;have bw:decide ((k:Int)+1<n)=true:=QS ap;rw [if_pos D] at y;have a6:=aa y;clear y D;go_wp2_with fail;refine (wt _ _ _).mono ?_;rintro e w7 ⟨rfl,rfl⟩;rw [<-a6.o];go_wp2_with (at_builtin;refine aV lB w6 rfl (.tmp 44) (.tmp 46) rfl w3.heap.size (.slice Al r cl) r _ rfl a9.o [QZ (nth (dJ sz ps q x (k+1)) r)] rfl rfl V5 ap V2 ap ?_);intro g7 c7 w7 N Q Y;have O:=aP.o.trans Q;obtain ⟨a4,a7⟩:=ae N O;clear N Q Y O;go_wp2;go_roundw
      .exact ⟨r+1,ap,Vc,by rw [c8.o,dd];exact a4.o,a7.o⟩
      .simp [intOf];omega
     .have cO:¬((k:Int)+1<n):=ap;have bw:decide ((k:Int)+1<n)=false:=QT ap;rw [if_neg D] at y;have a6:=aa y;clear y D;go_wp2_with (at_builtin;refine aV lB w6 rfl (.tmp 44) (.tmp 46) rfl w3.heap.size (.slice Al r cl) r _ rfl a9.o [QZ (sH sz ps q k r (dJ sz ps q x k) c0)] rfl rfl V5 ap V2 ap ?_);rw [<-a6.o];intro g7 c7 w7 N Q Y;have O:=aP.o.trans Q;obtain ⟨a4,a7⟩:=ae N O;clear N Q Y O;go_wp2;go_roundw
      .exact ⟨r+1,ap,Vc,by rw [c8.o,dd];exact a4.o,a7.o⟩
      .simp [intOf];omega
    .obtain rfl:r=r1:=ap;have bG:=az Ho.o C.o;have be:=aa bG;clear bG;go_wp2_with (at_builtin;refine aV La wo rfl (.tmp 48) (.tmp 50) rfl w.heap.size (Vf go 0 (k+1) co) (k+1) vals rfl be.o [.slice Al r cl] rfl rfl V5 ap V2 ap ?_);intro g7 c7 w7 N Q Y;have Z:=Ho.o.1
     have a3:∀{mm:Nat} {u:Value} {ys:R7} {b0:Nat},wo.ownsRow b0 2 1 u mm ys->w7.ownsRow b0 2 1 u mm ys:=λh=>h.kept Y (by
      rename_i u _ _
      cases hu:u.ownBlock with
      | none=>exact .inl rfl
      | some i=>exact .inr λe9=>jP be.o h V0 i e9.symm hu)
     have aG:=(Y.block _ d6 (ay ((C.o.block _ a0).trans bI.o) V0 be.o)).trans ((C.o.block _ a0).trans bI.o);have O:=(HW.o.trans (C.o.mono HW.o.size)).trans Q;obtain ⟨a4,a7,dn⟩:=af N O aG;clear N Q Y O aG;go_wp2;go_roundw
     case rel=>
      refine ⟨k+1,ap,Vc,some (ar g7 0),c7,vals++[.slice Al r cl],rfl,a4.o,?_,λj h1 h2=>?_,dn.o,a7.o⟩
      .rw [Qw ap];exact bd.o
      .rcases Qf j (k+1) with d7 | d7
       .obtain ⟨Aj,cj,e1,e2⟩:=Hv.o j h1 ap;exact ⟨Aj,cj,by rw [Qw ap];exact e1,a3 (az e2 C.o)⟩
       .obtain rfl:j=k+1:=ap;refine ⟨Al,cl,?_,?_⟩
        .rw [Qx ap,bA.o];simp [show vals.length=k+1 by omega]
        .have:=a3 b1.o;rw [List.take_of_length_le (by rw [bv.o];exact PV _)] at this;rw [bA.o];exact aF this (by have:=T.o.size;omega)
     case measure=>exact Va
  .obtain rfl:k=n:=ap;have cM:=b6.o
   have cb:jD wq vals sz.length (dJ sz ps q x):=by
    refine ⟨?_,λj hj=>?_⟩
    .have:=Ho.o.1;have:=HL.o;omega
    .have Z:=fA (sz:=sz) (ps:=ps) (q:=q) Hx.o j;rcases Nat.eq_zero_or_pos j with rfl | a2
     .refine ⟨X,cx,?_,?_,HX.o.below HW.o⟩
      .rw [Z];exact bd.o
      .show x.length<=cx
       rw [cr.o];exact bi
     .obtain ⟨Aj,cj,h1,h2⟩:=Hv.o j a2 (by have:=HL.o;omega);obtain ⟨A',c',e,hc⟩:=aC h2;injection e with e1 e2 e3
      subst e1;subst e3;rw [Z];exact ⟨_,_,h1,hc,Rd.own h2⟩
   have cw:L<=co:=by
    obtain ⟨A',c',e,hc⟩:=aC Ho.o;injection e with e1 e2 e3
    omega
   have bM:=Rd.own Ho.o;obtain ⟨d2,d9,dr,dv⟩:=ag bM cb cw cM;clear bM cb cw cM;go_wp2_with fail;refine (bf.o wq).mono ?_;rintro e w3 ⟨rfl,U⟩;have T:=aa U;clear U;go_wp2;go_ret;refine ⟨Ao,co,vals,by rw [dv.o];rfl,d2.o.below T.o,?_,dr.o,HW.o.trans (T.o.mono HW.o.size)⟩;have:=d9.o.below T.o
   rwa [HL.o] at this
theorem Nc:dM prog 27 253 (.int .u64 0) 1 8:=⟨underlying27,info_parts V1,rfl,by decide⟩
theorem Bt (A:N_) (zs:Q_) (c:Nat) (w:R8) (hA:Rd w A (aA .u64 zs)) (hl:zs.length<=17592186043904):Vj 155 #[.slice A zs.length c] w λe y=>∃v,Vi e v/\y.ownsRow w.heap.size 253 1 v zs.length (aA .u64 zs)/\aq w y:=by
 have q:=λ(w:R8)=>Lib.run_eql_slice_nil (P:=prog) w 27 253 A zs.length c 0 0 underlying27
 cases A with
 | none=>
  have B:zs=[]:=by
   cases zs with
   | nil=>rfl
   | cons z l=>obtain ⟨b,o,h,_⟩:=hA 0 _ rfl;cases h
  subst B;clear q;have q:=λ(w:R8)=>Lib.run_eql_slice_nil (P:=prog) w 27 253 none 0 c 0 0 underlying27;simp only [Option.isNone_none] at q;rw [List.length_nil];go_enter func155,ntmps155;go_wp2;go_ret;exact ⟨_,rfl,Qb _ _ _ _,PY _ _⟩
 | some a=>
  go_enter func155,ntmps155;go_wp2_with (at_builtin;refine dQ Nc _ rfl (.tmp 5) (.tmp 6) rfl (Ve w) _ 0 [] rfl (fg w 253 1) _ zs.length c (aA .u64 zs) rfl (hA.alloc _) (by rw [cq];omega) (cU _ _) ap V2 V3 ?_);intro H D C i hb _ _;have u:=((PY _ w).alloc (PV _) (.cells #[] 253)).trans hb;obtain ⟨p,x⟩:=ae i u;clear i hb u;go_wp2;go_ret;exact ⟨_,rfl,p.o,x.o⟩
def U64 (l:Q_):Prop:=∀k,k<l.length->0<=nth l k/\nth l k<=18446744073709551615
theorem Keep.below2 {i o:R8} (h:Keep S w i) (hb:Below w.heap.size i o):Keep S w o:=
 ⟨hb.os.trans h.os,hb.tape.trans h.tape,hb.output.trans h.output,P4 h.size hb.size,λk hk hn=>(hb.block k hk).trans (h.block k hk hn)⟩
structure df (w:R8) (b:Nat) (A:N_) (c:Nat) (l:Q_) (i:Nat):Prop where
 blk:w.heap[b]?=some (.cells #[.slice A l.length c,QZ (i:Int)] 270 (0,0))
 rd:Rd w A (aA .u64 l)
 ne:∀a,A=some a->a.block≠b
theorem df.lt {b i:Nat} {l:Q_} (h:df w b A c l i):b<w.heap.size:=PU h.blk
theorem df.below {o:R8} {b i:Nat} {l:Q_} (h:df w b A c l i) (hb:aq w o):df o b A c l i:=
 ⟨(hb.block b h.lt).trans h.blk,h.rd.below hb,h.ne⟩
theorem df.drewN {b i:Nat} {l:Q_} (h:df w b A c l i) (n:Nat):df (w.drewN n) b A c l i:=⟨h.blk,h.rd.drewN n,h.ne⟩
theorem Lm (A:N_) (l:Q_) (c:Nat) (w:R8) (hA:Rd w A (aA .u64 l)) (hl:l.length<=17592186043904):Vj 120 #[.slice A l.length c] w λe I=>∃b u B,Vi e ((au b))/\df I b u B l 0/\(∀a,u=some a->w.heap.size<=a.block)/\w.heap.size<=b/\aq w I:=by
 have hc:=Bt A l c w hA hl;have N:=aa hc;clear hc hA;go_enter func120,ntmps120;go_wp2_with fail;refine N.o.mono ?_;rintro e H ⟨v,rfl,x,hb⟩;obtain ⟨u,B,rfl,_⟩:=aC x;have h:=x.lt;obtain ⟨D,C,y⟩:=af x hb h;clear x hb h;go_wp2;go_ret
 have p:∀a,u=some a->w.heap.size<=a.block/\a.block<H.heap.size:=λa i=>by
  subst i;rcases D.o.2 with ⟨hn,_⟩ | ⟨g,cap,L,J,_⟩
  .cases hn
  .simp only [QH,Option.some.injEq] at J;obtain ⟨rfl,_,_⟩:=J;exact y.o g rfl
 exact ⟨_,u,B,rfl,⟨PW H _,(Rd.own D.o).alloc _,λa i O=>by have:=(p a i).2;omega⟩,λa i=>(p a i).1,C.o.size,C.o.alloc C.o.size _⟩
theorem rV (b c i:Nat) (A:N_) (l:Q_) (w:R8) (h:df w b A c l i) (v:i<=l.length) (hl:l.length<=17592186043904):Vj 176 #[(au b)] w λe o=>Vi e (QZ ((l.length-i:Nat):Int))/\∃d,o=w.drewN d:=by
 obtain ⟨h1,p,u⟩:=h;obtain ⟨n,hn⟩:=Vb l.length;rw [hn] at h1 v hl |-;obtain ⟨⟨x,B⟩,y⟩:=bx2 h1;have hb:=PU h1;clear h1 p u hn;go_enter func176,ntmps176;go_wp2
 go_quiet (fail)
 go_wp2;go_ret;exact ⟨bE ap,_,rfl⟩
theorem yU (b c i m:Nat) (A:N_) (l:Q_) (w:R8) (h:df w b A c l i) (H:i<l.length) (hl:l.length<=17592186043904) (L:U64 l) (hm:1<=m) (R:m<=1048576):Vj 178 #[(au b),QZ m] w λe B=>Vi e (.tuple #[QZ (nth l i%m),.bool true])/\df B b A c l (i+1)/\Keep (λj=>j=b) w B:=by
 have u:=rV b c i A l w h ap hl;obtain ⟨h1,v,N⟩:=h;obtain ⟨bA,oA,rfl,p⟩:=v.num H;obtain ⟨x,O⟩:=Vb (nth l i);have D:=L i H;rw [O] at p D |-;obtain ⟨n,hn⟩:=Vb l.length;obtain ⟨T,Y,I,Hn⟩:=ag h1 v N hn;rw [hn] at h1 H hl u;obtain ⟨⟨x0,x1⟩,xf⟩:=bx2 h1;have hb:=PU h1;have C:=aa u;clear h1 v N hn O u L;have Q:(((n-i:Nat):Int)==0)=false:=by rw [beq_eq_false_iff_ne];omega
 have a0:¬((m:Int)<1):=ap;have V:(i:Int)<n:=ap
 have hw:wrap64 (x%(m:Int))=x%(m:Int):=by
  have h1:=Int.emod_nonneg x (show (m:Int)≠0 by omega);have v:=Int.emod_lt_of_pos x (show (0:Int)<(m:Int) by omega);generalize x%(m:Int)=y at h1 v |-;unfold wrap64;omega
 have U:=aa hw;clear hw;go_enter func178,ntmps178;go_wp2_with fail;refine C.o.mono ?_;rintro e B ⟨rfl,d,rfl⟩;go_wp2
 go_quiet (fail)
 go_wp2;go_ret2;have J:Keep (λj=>j=b) w ((w.drewN (d+nq)).setCell (ar b 1) (QZ ((i:Int)+1))):=Vk b ((Keep.refl _ w).drewN _) (ar b 1) (.inr rfl) _;refine ⟨by rw [U.o];rfl,⟨?_,J.rd Y.o (λa Z=>I.o a Z),I.o⟩,J⟩;have:=QX (w.drewN (d+nq)) b 1 _ _ (QZ ((i:Int)+1)) T.o;simpa using this
section
open Go.ChangeShapes Go.WideShapes Go.ChangeAt
theorem jI:kH prog 3 1 (NX .i64):=wN underlying3 V1
theorem pR:kH prog 26 1 (DR .i64):=pQ underlying26 underlying2 V1 V1 V1
theorem uk:kH prog 22 1 (DR .i64):=pQ underlying22 underlying3 V1 V1 V1
theorem xG {l:Q_} (h:∀z∈l,(Lit.int .i64 z).wf=true):W64 l:=λk hk=>by
 have:=h _ (ym hk);simpa [Lit.wf,IntKind.min,IntKind.max,IntKind.signed,IntKind.bits] using this
structure OB (w:R8) (A:N_) (l:Q_) (c:Nat):Prop where
 hc:l.length<=c
 hm:c<=9223372036854775807
 hl:l.length<=17592186043904
 hr:Rd w A (aA .i64 l)
 hw:W64 l
end
theorem Lh:dM prog 25 91 (.agg #[Ra,Ra]) 2 48:=⟨underlying25,info_parts V1,rfl,by decide⟩
abbrev Ex:=Q_×Q_
structure cG (w:R8) (A:N_) (l:Q_) (c:Nat):Prop where
 hc:l.length<=c
 hl:l.length<=17592186043904
 hr:Rd w A (aA .i64 l)
 hw:W64 l
theorem cG.below {i:R8} {l:Q_} (h:cG w A l c) (hb:aq w i):cG i A l c:=⟨h.hc,h.hl,h.hr.below hb,h.hw⟩
def rEx:fl Ex:=λw h e=>∃A c B d,h=[.slice A e.1.length c,.slice B e.2.length d]/\cG w A e.1 c/\cG w B e.2 d
theorem dB:Es rEx:=λhb ⟨A,c,B,d,h1,h,i⟩=>⟨A,c,B,d,h1,h.below hb,i.below hb⟩
def eA (w:R8) (base:Nat) (h:R7) (e:Ex):Prop:=∃u v,h=[u,v]/\w.ownsRow base 2 1 u e.1.length (aA .i64 e.1)/\w.ownsRow base 2 1 v e.2.length (aA .i64 e.2)/\
 e.1.length<=17592186043904/\e.2.length<=17592186043904/\W64 e.1/\W64 e.2
theorem eA.rd {base:Nat} {o:R7} {e:Ex} (h:eA w base o e):rEx w o e:=by
 obtain ⟨u,v,rfl,h1,i,D,y,C,x⟩:=h;obtain ⟨A,c,rfl,hc⟩:=aC h1;obtain ⟨B,d,rfl,p⟩:=aC i;exact ⟨A,c,B,d,rfl,⟨hc,D,Rd.own h1,C⟩,⟨p,y,Rd.own i,x⟩⟩
theorem eA.below {i:R8} {base:Nat} {o:R7} {e:Ex} (h:eA w base o e) (hb:aq w i):eA i base o e:=by
 obtain ⟨u,v,rfl,h1,p,x⟩:=h;exact ⟨u,v,rfl,az h1 hb,az p hb,x⟩
theorem eA.base {base:Nat} {i:R7} {e:Ex} (h:eA w base i e) (hb:base'<=base):eA w base' i e:=by
 obtain ⟨u,v,rfl,h1,o,p⟩:=h;exact ⟨u,v,rfl,aF h1 hb,aF o hb,p⟩
theorem fx {p:R8} {i e h:Nat} {u:Value} {ys:R7} {base:Nat} (o:W.ownsRow base' i h u m ys) (x:W.ownsRow base e size v n xs) (hg:W.grownBy p v.ownBlock) (h1:e≠i):p.ownsRow base' i h u m ys:=by
 refine o.kept hg ?_
 cases hub:u.ownBlock with
 | none=>exact .inl rfl
 | some k=>exact .inr λy=>jP x o h1 k y.symm hub
theorem eA.pushed {p:R8} {e:Nat} {base:Nat} {o:R7} {x:Ex} (h:eA W base' o x) (i:W.ownsRow base e size v n xs) (hg:W.grownBy p v.ownBlock) (h1:e≠2):eA p base' o x:=by
 obtain ⟨u,v',rfl,y,A,B⟩:=h;exact ⟨u,v',rfl,fx y i hg h1,fx A i hg h1,B⟩
theorem uz (A:N_) (zs:Q_) (c:Nat) (w:R8) (hA:Rd w A (aA .i64 zs)) (hl:zs.length<=17592186043904):Vj 151 #[.slice A zs.length c] w λe y=>∃v,Vi e v/\y.ownsRow w.heap.size 2 1 v zs.length (aA .i64 zs)/\aq w y:=by
 have q:=λ(w:R8)=>Lib.run_eql_slice_nil (P:=prog) w 26 2 A zs.length c 0 0 underlying26
 cases A with
 | none=>
  have B:zs=[]:=by
   cases zs with
   | nil=>rfl
   | cons z l=>obtain ⟨b,o,h,_⟩:=hA 0 _ rfl;cases h
  subst B;clear q;have q:=λ(w:R8)=>Lib.run_eql_slice_nil (P:=prog) w 26 2 none 0 c 0 0 underlying26;simp only [Option.isNone_none] at q;rw [List.length_nil];go_enter func151,ntmps151;go_wp2;go_ret;exact ⟨_,rfl,Qb _ _ _ _,PY _ _⟩
 | some a=>
  go_enter func151,ntmps151;go_wp2_with (at_builtin;refine dQ lB _ rfl (.tmp 5) (.tmp 6) rfl (Ve w) _ 0 [] rfl (fg w 2 1) _ zs.length c (aA .i64 zs) rfl (hA.alloc _) (by rw [cq];omega) (cU _ _) ap V2 V3 ?_);intro H D C i hb _ _;have u:=((PY _ w).alloc (PV _) (.cells #[] 2)).trans hb;obtain ⟨p,x⟩:=ae i u;clear i hb u;go_wp2;go_ret;exact ⟨_,rfl,p.o,x.o⟩
theorem Da (cs:R7) (x:Ex) (w:R8) (h:rEx w cs x):Vj 130 #[.agg cs.toArray] w λe C=>∃us:R7,Vi e (.agg us.toArray)/\eA C w.heap.size us x/\aq w C:=by
 obtain ⟨A,c,B,d,rfl,h1,h2⟩:=h;obtain ⟨x,y⟩:=x;dsimp only at h1 h2 |-;have R:=λC (k:aq w C)=>uz A x c C (h1.hr.below k) h1.hl;have V:=λC (k:aq w C)=>uz B y d C (h2.hr.below k) h2.hl;obtain ⟨H1,H2⟩:=ae h1 h2;obtain ⟨n,hn⟩:=Vb x.length;obtain ⟨m,hm⟩:=Vb y.length;rw [hn] at R |-;rw [hm] at V |-;obtain ⟨aG,aR,Hn,Hm⟩:=ag R V hn hm;clear R V hn hm h1 h2;go_enter func130,ntmps130;go_wp2_with fail;have hz:=PW (w.alloc (.cells #[.slice A n c,.slice B m d] 91)) (.cells #[Ra,Ra] 91);rw [show (w.alloc (.cells #[.slice A n c,.slice B m d] 91)).heap.size=w.heap.size+1 by simp] at hz;have hy:=(Qc (w.alloc (.cells #[.slice A n c,.slice B m d] 91)) (.cells #[Ra,Ra] 91) w.heap.size V3).trans (PW w _);have Y:aq w ((w.alloc (.cells #[.slice A n c,.slice B m d] 91)).alloc (.cells #[Ra,Ra] 91)):=((PY _ w).alloc (PV _) _).alloc V3 _;have T:((w.alloc (.cells #[.slice A n c,.slice B m d] 91)).alloc (.cells #[Ra,Ra] 91)).heap.size=w.heap.size+2:=by simp
 obtain ⟨W0,a2⟩:∃W0,W0=(w.alloc (.cells #[.slice A n c,.slice B m d] 91)).alloc (.cells #[Ra,Ra] 91):=⟨_,rfl⟩;rw [<-a2] at hz hy Y T |-;obtain ⟨⟨y0,y1⟩,yf⟩:=bx2 hy;obtain ⟨Hz,a0,J⟩:=af hz Y T;clear hz hy Y T a2;have i:(λC:R8=>Vh C w.heap.size 0 (.slice A n c)/\Vh C w.heap.size 1 (.slice B m d)) W0.drew:=⟨y0,y1⟩;refine XA.g 7 (λC:R8=>Vh C w.heap.size 0 (.slice A n c)/\Vh C w.heap.size 1 (.slice B m d)) ?_;refine XA.t ?_ [0,1,3,4] i ?_;refine XA.o 2 (λK hK=>?_);go_simp;refine (aG.o _ a0.o.drew).mono ?_;rintro e w1 ⟨u,rfl,H,D⟩;obtain ⟨A1,c1,rfl,_⟩:=aC H;have a4:=P7 (aw D i.1) (aw D i.2);have a3:=(D.block (w.heap.size+1) (by simp [J.o])).trans Hz.o;have a1:=a0.o.drew.trans (D.mono (by simp [J.o]));have aP:=D.size;simp only [QG,J.o] at aP;have H:=aF (base':=w.heap.size) H (by simp [J.o]);obtain ⟨aM,ao,N⟩:=af H a3 a1;clear H a3 a1 D i;dsimp only;refine hK.out _ _ a4 (λi=>?_);clear hK K a4;refine XA.o 5 (λK hK=>?_);go_simp;refine (aR.o _ N.o).mono ?_;rintro e w2 ⟨v,rfl,I,p⟩;obtain ⟨Z,c2,rfl,_⟩:=aC I;have a5:=P7 (aw p i.1) (aw p i.2);have L:=(p.block (w.heap.size+1) ap).trans ao.o;have a6:=N.o.trans (p.mono N.o.size);have b2:=p.size;have I:=aF (base':=w.heap.size) I N.o.size;have Q:=az aM.o p;obtain ⟨⟨z0,z1⟩,zf⟩:=bx2 L;have l2:w.heap.size+1<w2.heap.size:=PU L;obtain ⟨a8,O,U,b0⟩:=ag I Q L a6;clear I Q L a6 p i;dsimp only;refine hK.out _ _ a5 (λi=>?_);clear hK K a5;refine XA.t ?_ [6] i ?_;refine XA.e ?_;clear i;simp only [Qq,Qs];go_wp2_with fail;have e1:=QX w2 (w.heap.size+1) 0 _ _ (.slice A1 n c1) U.o;have e2:=QX _ (w.heap.size+1) 1 _ _ (.slice Z m c2) e1;have e3:Vg ((w2.setCell (ar (w.heap.size+1) 0) (.slice A1 n c1)).setCell (ar (w.heap.size+1) 1) (.slice Z m c2)) (w.heap.size+1) #[(.slice A1 n c1),(.slice Z m c2)] 91:=by simpa using e2
 have hk:Keep (λj=>j=w.heap.size+1) w2 ((w2.setCell (ar (w.heap.size+1) 0) (.slice A1 n c1)).setCell (ar (w.heap.size+1) 1) (.slice Z m c2)):=Vk (w.heap.size+1) (Vk (w.heap.size+1) (Keep.refl _ _) (ar (w.heap.size+1) 0) (.inr rfl) _) (ar (w.heap.size+1) 1) (.inr rfl) _;obtain ⟨W9,av⟩:∃W9,W9=(w2.setCell (ar (w.heap.size+1) 0) (.slice A1 n c1)).setCell (ar (w.heap.size+1) 1) (.slice Z m c2):=⟨_,rfl⟩;rw [<-av] at e3 hk |-;obtain ⟨⟨x0,x1⟩,xf⟩:=bx2 e3;have b1:=hk.own O.o (λj hj e=>ay U.o V0 O.o (by rw [hj,e]));have ad:=hk.own a8.o (λj hj e=>ay U.o V0 a8.o (by rw [hj,e]));have ab:aq w W9:=b0.o.trans (hk.toBelow ap (λj hj=>ap));have a7:=H1.o;have a9:=H2.o;exact Qd (v:=.agg #[(.slice A1 n c1),(.slice Z m c2)]) (by simp [results,results130,go_sem,x0,x1]) rfl ⟨[(.slice A1 n c1),(.slice Z m c2)],rfl,⟨_,_,rfl,by rw [Hn.o];exact b1,by rw [Hm.o];exact ad,a7.hl,a9.hl,a7.hw,a9.hw⟩,ab⟩
theorem fS (h:dx rEx 2 w A l) {x:Ex} (B:l[j]?=some x):
  ∃b o A1 c1 i c2,A=some (ar b o)/\b<w.heap.size/\Vh w b (o+j*2) (.slice A1 x.1.length c1)/\Vh w b (o+j*2+1) (.slice i x.2.length c2)/\cG w A1 x.1 c1/\cG w i x.2 c2:=by
 obtain ⟨b,o,C,rfl,hb,hl,⟨A1,c1,i,c2,rfl,p,u⟩,v,y⟩:=h.get V0 B;exact ⟨b,o,A1,c1,i,c2,rfl,hb,v,y 1 V0,p,u⟩
def jE (w wr:R8) (l:Rl) (k:Nat) (v:Value):Prop:=∃rows,wr.ownsRow w.heap.size 91 2 v k (List.flatten rows)/\rows.length=k/\(∀r∈rows,r.length=2)/\ (∀j x,j<k->l[j]?=some x->eA wr w.heap.size (bS rows j) x)/\aq w wr
theorem jE.zero (w:R8) (l:Rl):jE w w l 0 (Ra):=⟨[],Qb _ _ _ _,rfl,by simp,λj x h=>ap,PY _ _⟩
theorem jE.form (h:jE w wr l k v):∃A c,v=.slice A k c:=by
 obtain ⟨rows,h1,_⟩:=h;obtain ⟨A,c,e,_⟩:=aC h1;exact ⟨A,c,e⟩
theorem jE.b (h:jE w wr l k v):aq w wr:=by
 obtain ⟨rows,_,_,_,_,h⟩:=h;exact h
theorem jE.below {i:R8} (h:jE w wr l k v) (hb:aq wr i):jE w i l k v:=by
 obtain ⟨rows,h1,p,A,y,o⟩:=h;exact ⟨rows,az h1 hb,p,A,λj x u B=>(y j x u B).below hb,o.trans (hb.mono o.size)⟩
theorem jE.done (h:jE w wr l n (.slice A n c)) (hn:l.length=n):dx rEx 2 wr A l:=by
 obtain ⟨rows,h1,u,p,o,v⟩:=h;exact ⟨rows,Rd.own h1,ap,p,λj x i=>(o j x (by have:=(Qu.1 i).1;omega) i).rd⟩
theorem jE.doneT (h:jE w wr l n (.slice A n c)) (hn:l.length=n):dx rEx 2 (gt w.heap.size wr) A l:=by
 obtain ⟨rows,h1,D,C,B,H⟩:=h
 exact ⟨rows,Rd.own (fK h1 (PV _)),ap,C,λj x i=>by
  obtain ⟨u,v,e,o,p,y⟩:=B j x (by have:=(Qu.1 i).1;omega) i
  exact eA.rd ⟨u,v,e,fK o (PV _),fK p (PV _),y⟩⟩
theorem jE.push {i A:R8} {v':Value} {p o:Value} {x:Ex} (h1:i.ownsRow w.heap.size 91 2 v k (List.flatten rows)) (B:rows.length=k) (J:∀r∈rows,r.length=2) (D:∀j x,j<k->l[j]?=some x->eA i (Ve w) (bS rows j) x) (H:aq w i) (L:l[k]?=some x) (I:eA i (Ve w) [p,o] x) (C:A.ownsRow w.heap.size 91 2 v' (k+1) (List.flatten rows++[p,o])) (hb:Below (Ve w) i A) (hg:i.grownBy A v.ownBlock):jE w A l (k+1) v':=by
 refine ⟨rows++[[p,o]],by rw [QE,List.flatten_cons,List.flatten_nil,List.append_nil];exact C,by simp [B],?_,?_,H.trans hb⟩
 .intro r hr;rcases QI.1 hr with hr | hr
  .exact J r hr
  .rw [List.mem_singleton.1 hr];rfl
 .intro j y N u;rcases Qf j k with h | h
  .have e:bS (rows++[[p,o]]) j=bS rows j:=by simp [bS,Qw (show j<rows.length by omega)]
   rw [e];exact (D j y h u).pushed h1 hg V0
  .obtain rfl:j=k:=ap;rw [L] at u;injection u with u
   subst u;have e:bS (rows++[[p,o]]) j=[p,o]:=by rw [<-B];simp [bS]
   rw [e];exact I.pushed h1 hg V0
def xC (w:R8) (x:Ex) (e:Ending) (i:R8):Prop:=∃A1 c1 h c2,e=.returned (.tuple #[.agg #[.slice A1 x.1.length c1,.slice h x.2.length c2],.bool true])/\eA i w.heap.size [.slice A1 x.1.length c1,.slice h x.2.length c2] x/\aq w i
theorem GW (A:N_) (c:Nat) (B:N_) (d:Nat) (x:Ex) (w:R8) (h1:cG w A x.1 c) (y:cG w B x.2 d):Vj 130 #[.agg #[.slice A x.1.length c,.slice B x.2.length d]] w λe i=>∃A1 c1 h c2,Vi e (.agg #[.slice A1 x.1.length c1,.slice h x.2.length c2])/\eA i (Ve w) [.slice A1 x.1.length c1,.slice h x.2.length c2] x/\aq w i:=by
 refine (Da [.slice A x.1.length c,.slice B x.2.length d] x w ⟨A,c,B,d,rfl,h1,y⟩).mono ?_;rintro e i ⟨D,rfl,⟨u,v,rfl,p,o,C⟩,hb⟩;obtain ⟨A1,c1,rfl,_⟩:=aC p;obtain ⟨h,c2,rfl,_⟩:=aC o;exact ⟨A1,c1,h,c2,rfl,⟨_,_,rfl,p,o,C⟩,hb⟩
theorem xn (n m:Nat) (A:N_) (c:Nat) (B:N_) (d:Nat) (x:Ex) (w:R8) (hn:x.1.length=n) (hm:x.2.length=m) (h1:cG w A x.1 c) (o:cG w B x.2 d):Vj 130 #[.agg #[.slice A n c,.slice B m d]] w λe i=>∃A1 c1 h c2,Vi e (.agg #[.slice A1 n c1,.slice h m c2])/\eA i (Ve w) [.slice A1 n c1,.slice h m c2] x/\aq w i:=by
 subst hn;subst hm;exact GW A c B d x w h1 o
theorem Dc (A:N_) (c:Nat) (B:N_) (d:Nat) (x:Ex) (w:R8) (h1:cG w A x.1 c) (Y:cG w B x.2 d):Vj 129 #[.agg #[.slice A x.1.length c,.slice B x.2.length d]] w (xC w x):=by
 have h:=λn m (hn:x.1.length=n) (hm:x.2.length=m) V (k:aq w V)=>xn n m A c B d x V hn hm (h1.below k) (Y.below k);unfold xC;obtain ⟨n,hn⟩:=Vb x.1.length;obtain ⟨m,hm⟩:=Vb x.2.length;have h:=h n m hn hm;rw [hn,hm];have O:=aa h;clear h hn hm h1 Y;go_enter func129,ntmps129;go_wp2_with fail;refine (O.o _ ?_).mono ?_
 .exact am
 rintro e p ⟨A1,c1,i,c2,rfl,Z,y⟩;have I:Vg p (w.heap.size+1) #[Ra,Ra] 91:=(y.block (w.heap.size+1) V3).trans (by rw [<-show (w.alloc (.cells #[.slice A n c,.slice B m d] 91)).heap.size=w.heap.size+1 by simp];exact PW (w.alloc (.cells #[.slice A n c,.slice B m d] 91)) (.cells #[Ra,Ra] 91));have C:aq w p:=(((PY _ w).alloc (PV _) _).alloc V3 _).trans (y.mono V7);have D:=Z.base (base':=w.heap.size) V7;have lz:=PU I;obtain ⟨⟨z0,z1⟩,zf⟩:=bx2 I;obtain ⟨N,H,R⟩:=af I C D;clear I C D y Z;go_wp2_with fail;have e1:=QX p (w.heap.size+1) 0 _ _ (.slice A1 n c1) N.o;have e2:=QX _ (w.heap.size+1) 1 _ _ (.slice i m c2) e1;have e3:Vg ((p.setCell (ar (w.heap.size+1) 0) (.slice A1 n c1)).setCell (ar (w.heap.size+1) 1) (.slice i m c2)) (w.heap.size+1) #[.slice A1 n c1,.slice i m c2] 91:=by simpa using e2
 have hk:Keep (λj=>j=w.heap.size+1) p ((p.setCell (ar (w.heap.size+1) 0) (.slice A1 n c1)).setCell (ar (w.heap.size+1) 1) (.slice i m c2)):=Vk (w.heap.size+1) (Vk (w.heap.size+1) (Keep.refl _ _) (ar (w.heap.size+1) 0) (.inr rfl) _) (ar (w.heap.size+1) 1) (.inr rfl) _;obtain ⟨T,Q⟩:∃T,T=(p.setCell (ar (w.heap.size+1) 0) (.slice A1 n c1)).setCell (ar (w.heap.size+1) 1) (.slice i m c2):=⟨_,rfl⟩;rw [<-Q] at e3 hk |-;obtain ⟨⟨x0,x1⟩,xf⟩:=bx2 e3
 have L:eA T w.heap.size [.slice A1 n c1,.slice i m c2] x:=by
  obtain ⟨u,v,e,U,k2,k3⟩:=R.o;exact ⟨u,v,e,hk.own U (λj J e=>ay N.o V0 U (by rw [J,e])),hk.own k2 (λj J e=>ay N.o V0 k2 (by rw [J,e])),k3⟩
 exact Qd (v:=.tuple #[.agg #[.slice A1 n c1,.slice i m c2],.bool true]) (by simp [results,results129,go_sem,x0,x1]) rfl ⟨A1,c1,i,c2,rfl,L,H.o.trans (hk.toBelow H.o.size (λj J=>ap))⟩
theorem Gx (A:N_) (l:Rl) (c:Nat) (w:R8) (h:dx rEx 2 w A l) (hl:l.length<=1048576):Vj 128 #[.slice A l.length c,.func (.func 129) #[] #[]] w λe Y=>∃v,Vi e (.tuple #[v,.bool true])/\jE w Y l l.length v:=by
 obtain ⟨n,hn⟩:=Vb l.length;rw [hn] at hl |-;obtain ⟨H,Hn⟩:=ae h hn;clear h hn;go_enter func128,ntmps128;go_wp2
 go_loopw [6,13] (λv i wr=>∃k:Nat,k<=n/\i=QZ k/\jE w wr l k v) (λ_ i _=>n-(intOf i).toNat)
 .exact ⟨0,PZ _,rfl,jE.zero w l⟩
 case round=>
  obtain ⟨k,hk,rfl,y⟩:=hrel;obtain ⟨Al,cl,rfl⟩:=y.form;by_cases a0:k<n
  .obtain ⟨x,hx⟩:∃x,l[k]?=some x:=⟨_,Qv (by rw [Hn.o];exact a0)⟩;have hb:=y.b;obtain ⟨b,o,A1,c1,A2,c2,rfl,a5,p1,p2,r1,r2⟩:=fS (H.o.below dB hb) hx;have p:=λY (q:aq wr Y)=>Dc A1 c1 A2 c2 x Y (r1.below q) (r2.below q);unfold xC at p;obtain ⟨B,I⟩:=Vb x.1.length;obtain ⟨C,R⟩:=Vb x.2.length;rw [I] at p1 p;rw [R] at p2 p;obtain ⟨a1,Z,Hx⟩:=af p y hx;clear p y hx r1 r2 I R hb;go_wp2_with fail;refine (a1.o _ ?_).mono ?_
   .exact am
   rintro e w3 ⟨B1,d1,B2,V,rfl,ho,T⟩;have u:aq wr w3:=((PY _ wr).alloc (PV _) _).trans (T.mono V7);have L:=(Z.o.below u).below ((PY _ _).alloc (PV _) (.cells #[.slice B1 B d1,.slice B2 C V] 91));have J:=(ho.base (base':=w.heap.size) (by have:=Z.o.b.size;first | omega | (simp;done) | (simp;omega))).below ((PY _ _).alloc (PV _) (.cells #[.slice B1 B d1,.slice B2 C V] 91));obtain ⟨a3,a4⟩:=ae L J;clear L J ho T u p1 p2;obtain ⟨rows,h1,h2,h3,h4,h5⟩:=a3.o;obtain ⟨R1,R2,R3,R4,R5⟩:=ah h1 h2 h3 h4 h5;clear h1 h2 h3 h4 h5;have Q:=aa (show (w3.alloc (.cells #[.slice B1 B d1,.slice B2 C V] 91)).heap.size=w3.heap.size+1 by simp);go_wp2_with (at_builtin;refine aV Lh _ rfl (.tmp 25) (.tmp 27) rfl w.heap.size (.slice Al k cl) k _ rfl R1.o [.slice B1 B d1,.slice B2 C V] (congrArg (λb:Nat=>Vf b 0 1 1) Q.o.symm) rfl V5 ap V2 R5.o.size ?_);intro g6 c6 w6 D N O;have U:=jE.push R1.o R2.o R3.o R4.o R5.o Hx.o a4.o D N O;have a2:=aa U;clear D N O U;go_wp2;go_roundw
   .exact ⟨k+1,ap,Vc,a2.o⟩
   .simp [intOf];omega
  .obtain rfl:n=k:=ap;have Z:=aa y;clear y;go_wp2;go_ret2;exact ⟨_,rfl,Z.o⟩
theorem AX (A:N_) (l:Rl) (c:Nat) (w:R8) (h:dx rEx 2 w A l) (hl:l.length<=1048576):Vj 84 #[.slice A l.length c] w λe u=>∃p x,Vi e (.slice p l.length x)/\dx rEx 2 (gt (Ve w) u) p l/\aq w u:=by
 have hm:=Gx A l c w h hl;obtain ⟨n,hn⟩:=Vb l.length;rw [hn] at hm |-;obtain ⟨B,C⟩:=ae hm hn;clear hm hn h;go_enter func84,ntmps84;go_wp2_with fail;refine B.o.mono ?_;rintro e D ⟨v,rfl,i⟩;obtain ⟨p,x,rfl⟩:=i.form;have y:=aa i;clear i;go_wp2;go_ret;exact ⟨_,_,rfl,y.o.doneT C.o,y.o.b⟩
def cI (l:Rl) (h:Q_):Rl:=h.map λi=>l.getD i.toNat ([],[])
theorem oc (l:Rl) (h:Q_):(cI l h).length=h.length:=by simp [cI]
theorem zH (l:Rl) (i:Q_) (h:k<i.length):(cI l i)[k]?=some (l.getD (nth i k).toNat ([],[])):=by simp [cI,dN _ _ h,h]
theorem FJ (P n c:Nat) (A:N_) (i:Int) (w:R8) (hP:Vg w P #[.slice A n c] 25) (B:i<0\/(n:Int)<=i):Vj 246 #[QZ i,(au P)] w λe C=>Vi e (.tuple #[.agg #[Ra,Ra],.bool false])/\aq w C:=by
 obtain ⟨J,N⟩:=bx1 hP;have H:=PU hP;clear hP;rcases Int.lt_or_le i 0 with y | y
 .have I:i<0:=y;clear B;go_enter func246,ntmps246;go_wp2_with fail;have p:=PW w (.cells #[Ra,Ra] 91);obtain ⟨o,h⟩:∃o,o=w.alloc (.cells #[Ra,Ra] 91):=⟨_,rfl⟩;have hb:aq w o:=by rw [h];exact (PY _ _).alloc (PV _) _
  rw [<-h] at p |-;obtain ⟨⟨u,x⟩,D⟩:=bx2 p;exact Qd (v:=.tuple #[.agg #[Ra,Ra],.bool false]) (by simp [results,results246,go_sem,u,x]) rfl ⟨rfl,hb⟩
 .have h1:(n:Int)<=i:=ap;have L:¬i<0:=ap;clear B;go_enter func246,ntmps246;go_wp2_with fail;have p:=PW w (.cells #[Ra,Ra] 91);obtain ⟨o,h⟩:∃o,o=w.alloc (.cells #[Ra,Ra] 91):=⟨_,rfl⟩;have hb:aq w o:=by rw [h];exact (PY _ _).alloc (PV _) _
  rw [<-h] at p |-;obtain ⟨⟨u,x⟩,D⟩:=bx2 p;exact Qd (v:=.tuple #[.agg #[Ra,Ra],.bool false]) (by simp [results,results246,go_sem,u,x]) rfl ⟨rfl,hb⟩
theorem Cz (P c j:Nat) (A:N_) (l:Rl) (x:Ex) (w:R8) (hP:Vg w P #[.slice A l.length c] 25) (h:dx rEx 2 w A l) (hx:l[j]?=some x):Vj 246 #[QZ j,(au P)] w (xC w x):=by
 have I:=(Qu.1 hx).1;obtain ⟨b,o,A1,c1,A2,c2,rfl,a0,p1,p2,r1,r2⟩:=fS h hx;have i:=λn m (hn:x.1.length=n) (hm:x.2.length=m) w' (k:aq w w')=>xn n m A1 c1 A2 c2 x w' hn hm (r1.below k) (r2.below k);unfold xC;obtain ⟨n,hn⟩:=Vb x.1.length;obtain ⟨m,hm⟩:=Vb x.2.length;have i:=i n m hn hm;rw [hn] at p1;rw [hm] at p2;rw [hn,hm];obtain ⟨N,hN⟩:=Vb l.length;rw [hN] at hP I;obtain ⟨p0,pf⟩:=bx1 hP;have a3:=PU hP;have a2:(j:Int)<N:=ap;have a4:¬((j:Int)<0):=ap;have a1:¬((N:Int)<=j):=ap;have U:=aa i;clear i hn hm r1 r2 hx h hN hP;go_enter func246,ntmps246;go_wp2_with fail;refine (U.o _ ?_).mono ?_
 .exact am
 rintro e D ⟨B,y,C,p,rfl,ho,H⟩;have Q:Vg D w.heap.size #[Ra,Ra] 91:=(H.block w.heap.size V3).trans (PW w _);have J:aq w D:=((PY _ w).alloc (PV _) _).trans (H.mono V7);have L:=ho.base (base':=w.heap.size) V7;have lz:=PU Q;obtain ⟨⟨z0,z1⟩,zf⟩:=bx2 Q;obtain ⟨T,O,Y⟩:=af Q J L;clear Q J L H ho p0 pf p1 p2;go_wp2_with fail;have e1:=QX D w.heap.size 0 _ _ (.slice B n y) T.o;have e2:=QX _ w.heap.size 1 _ _ (.slice C m p) e1;have e3:Vg ((D.setCell (ar w.heap.size 0) (.slice B n y)).setCell (ar w.heap.size 1) (.slice C m p)) w.heap.size #[.slice B n y,.slice C m p] 91:=by simpa using e2
 have hk:Keep (λj=>j=w.heap.size) D ((D.setCell (ar w.heap.size 0) (.slice B n y)).setCell (ar w.heap.size 1) (.slice C m p)):=Vk w.heap.size (Vk w.heap.size (Keep.refl _ _) (ar w.heap.size 0) (.inr rfl) _) (ar w.heap.size 1) (.inr rfl) _;obtain ⟨Z,V⟩:∃Z,Z=(D.setCell (ar w.heap.size 0) (.slice B n y)).setCell (ar w.heap.size 1) (.slice C m p):=⟨_,rfl⟩;rw [<-V] at e3 hk |-;obtain ⟨⟨x0,x1⟩,xf⟩:=bx2 e3
 have R:eA Z w.heap.size [.slice B n y,.slice C m p] x:=by
  obtain ⟨u,v,e,k1,k2,k3⟩:=Y.o;exact ⟨u,v,e,hk.own k1 (λj I e=>ay T.o V0 k1 (by rw [I,e])),hk.own k2 (λj I e=>ay T.o V0 k2 (by rw [I,e])),k3⟩
 exact Qd (v:=.tuple #[.agg #[.slice B n y,.slice C m p],.bool true]) (by simp [results,results246,go_sem,x0,x1]) rfl ⟨B,y,C,p,rfl,R,O.o.trans (hk.toBelow O.o.size (λj I=>ap))⟩
def kv (n:Nat) (i:Int):Prop:=0<=i/\i<n
instance (n:Nat) (i:Int):Decidable (kv n i):=by unfold kv;exact inferInstance
def Dt (l:Rl) (h:Q_) (w:R8) (e:Ending) (i:R8):Prop:=aq w i/\ (((∀k,k<h.length->kv l.length (nth h k))/\∃v,e=.returned (.tuple #[v,.bool true])/\jE w i (cI l h) h.length v)\/((¬∀k,k<h.length->kv l.length (nth h k))/\e=.returned (.tuple #[Ra,.bool false])))
theorem CK (P c d:Nat) (A B:N_) (l:Rl) (u:Q_) (w:R8) (hP:Vg w P #[.slice A l.length c] 25) (h:dx rEx 2 w A l) (hl:l.length<=1048576) (hB:Rd w B (aA .i64 u)) (hi:u.length<=1048576):Vj 245 #[.slice B u.length d,.func (.func 246) #[] #[(au P)]] w (Dt l u w):=by
 obtain ⟨n,hn⟩:=Vb u.length;unfold Dt;rw [hn] at hi |-;obtain ⟨N,hN⟩:=Vb l.length;have T:=oc l u;have V:=λk (hk:k<u.length)=>zH l u hk;rw [hn] at T V;have ao:=hP;rw [hN] at hl hP |-;obtain ⟨H,Hn,HN,HB,HP,b1,b2,aG⟩:=ak h hn hN hB hP ao T V;clear h hn hN hB hP ao T V;go_enter func245,ntmps245;go_wp2
 go_loopw [6,13] (λv i wr=>∃k:Nat,k<=n/\i=QZ k/\jE w wr (cI l u) k v/\an (∀j,j<k->kv N (nth u j))) (λ_ i _=>n-(intOf i).toNat)
 .exact ⟨0,PZ _,rfl,jE.zero w _,aa λj hj=>ap⟩
 case round=>
  obtain ⟨k,hk,rfl,L,Q⟩:=hrel;obtain ⟨Al,cl,rfl⟩:=L.form;by_cases R:k<n
  .have hb:=L.b;obtain ⟨b,o,rfl,p⟩:=(HB.o.below hb).num (show k<u.length by rw [Hn.o];exact R);obtain ⟨i,C⟩:=Vb (nth u k);rw [C] at p;have I:=(hb.block P (PU HP.o)).trans HP.o;by_cases hg:kv N i
   .obtain ⟨j,rfl⟩:∃j:Nat,i=(j:Int):=⟨i.toNat,by have:=hg.1;omega⟩;have aR:j<N:=by have:=hg.2;omega
    have J:=aG.o k R;rw [C,Int.toNat_natCast] at J;have a7:j<l.length:=by rw [HN.o];exact aR
    obtain ⟨x,hx⟩:∃x,l[j]?=some x:=⟨_,Qv a7⟩;have a1:l.getD j ([],[])=x:=by simp [hx]
    rw [a1] at J;have y:=Cz P c j A l x wr (by rw [HN.o];exact I) (H.o.below dB hb) hx;unfold xC at y;obtain ⟨Z,a2⟩:=Vb x.1.length;obtain ⟨Y,ad⟩:=Vb x.2.length;rw [a2,ad] at y;obtain ⟨U,O,Hx,Hg,Hi⟩:=ah y L J hg C;clear y L hx a2 ad hb hg C J a1 I a7;go_wp2_with fail;refine U.o.mono ?_;rintro e w3 ⟨B1,d1,B2,d2,rfl,ho,D⟩;have a4:=(O.o.below D).below ((PY _ _).alloc (PV _) (.cells #[.slice B1 Z d1,.slice B2 Y d2] 91));have a3:=(ho.base (base':=Ve w) O.o.b.size).below ((PY _ _).alloc (PV _) (.cells #[.slice B1 Z d1,.slice B2 Y d2] 91));obtain ⟨aP,b0⟩:=ae a4 a3;clear a4 a3 ho D p;obtain ⟨rows,h1,h2,h3,h4,h5⟩:=aP.o;obtain ⟨R1,R2,R3,R4,R5⟩:=ah h1 h2 h3 h4 h5;clear h1 h2 h3 h4 h5;have ab:=aa (show (w3.alloc (.cells #[.slice B1 Z d1,.slice B2 Y d2] 91)).heap.size=Ve w3+1 by simp);go_wp2_with (at_builtin;refine aV Lh _ rfl (.tmp 25) (.tmp 27) rfl (Ve w) (.slice Al k cl) k _ rfl R1.o [.slice B1 Z d1,.slice B2 Y d2] (congrArg (λb:Nat=>Vf b 0 1 1) ab.o.symm) rfl V5 ap V2 R5.o.size ?_);intro g6 c6 w6 a0 a8 a9;have av:=jE.push R1.o R2.o R3.o R4.o R5.o Hx.o b0.o a0 a8 a9;have aM:=aa av;clear a0 a8 a9 av;go_wp2;go_roundw
    case rel=>exact ⟨k+1,ap,Vc,aM.o,aa (p:=∀j,j<k+1->kv N (nth u j)) λt ht=>by
     rcases Qf t k with h | h
     .exact Q.out t h
     .obtain rfl:t=k:=ap
      rw [Hi.o];exact Hg.o⟩
    case measure=>exact Va
   .have a5:i<0\/(N:Int)<=i:=by unfold kv at hg;omega
    have y:=FJ P N c A i wr I a5;obtain ⟨U,O,Hg,Hi⟩:=ag y L hg C;clear y L hb hg a5 C I;go_wp2_with fail;refine U.o.mono ?_;rintro e w3 ⟨rfl,D⟩;have a6:=aa (O.o.b.trans (D.mono O.o.b.size));clear D p;go_wp2;go_ret2;exact ⟨a6.o.alloc a6.o.size _,.inr ⟨λh=>Hg.o (by have:=h k R;rwa [Hi.o] at this),rfl⟩⟩
  .obtain rfl:n=k:=ap;have O:=aa L;clear L;go_wp2;go_ret2;exact ⟨O.o.b,.inl ⟨Q.out,_,rfl,O.o⟩⟩
def fC (a b:Nat) (x:Ex):Prop:=x.1.length=a/\x.2.length=b
instance (a b:Nat) (x:Ex):Decidable (fC a b x):=by unfold fC;exact inferInstance
theorem Dd (x y n m a b c d:Nat) (A B:N_) (w:R8) (h1:Vg w x #[QZ a] 3) (u:Vg w y #[QZ b] 3):Vj 116 #[.agg #[.slice A n c,.slice B m d],(au x),(au y)] w λe C=>Vi e (.bool (!decide (n=a/\m=b)))/\aq w C:=by
 obtain ⟨I,L⟩:=bx1 h1;obtain ⟨H,D⟩:=bx1 u;have l1:=PU h1;have J:=PU u;clear h1 u;by_cases i:n=a
 .by_cases p:m=b
  .have o:((n:Int) != (a:Int))=false:=by rw [i];simp
   have v:((m:Int) != (b:Int))=false:=by rw [p];simp
   have h:(!decide (n=a/\m=b))=false:=by simp [i,p]
   rw [h];clear i p h;go_enter func116,ntmps116;go_wp2;go_ret;exact ⟨rfl,(PY _ w).alloc (PV _) _⟩
  .have o:((n:Int) != (a:Int))=false:=by rw [i];simp
   have v:((m:Int) != (b:Int))=true:=by rw [bne_iff_ne];omega
   have h:(!decide (n=a/\m=b))=true:=by simp [p]
   rw [h];clear i p h;go_enter func116,ntmps116;go_wp2;go_ret;exact ⟨rfl,(PY _ w).alloc (PV _) _⟩
 .have o:((n:Int) != (a:Int))=true:=by rw [bne_iff_ne];omega
  have h:(!decide (n=a/\m=b))=true:=by simp [i]
  rw [h];clear i h;go_enter func116,ntmps116;go_wp2;go_ret;exact ⟨rfl,(PY _ w).alloc (PV _) _⟩
def yO (l:Rl) (a b:Nat) (w:R8) (e:Ending) (h:R8):Prop:=∃d:Int,e=.returned (QZ d)/\ -1<=d/\d<=1048576/\(d<0↔∀x∈l,fC a b x)/\aq w h
theorem AO (Y Z a b c:Nat) (A:N_) (l:Rl) (w:R8) (h1:Vg w Y #[QZ a] 3) (T:Vg w Z #[QZ b] 3) (h:dx rEx 2 w A l) (hl:l.length<=1048576):Vj 115 #[.slice A l.length c,.func (.func 116) #[] #[(au Y),(au Z)]] w (yO l a b w):=by
 unfold yO;have N:=λn m A c B d w' (k:aq w w')=>Dd Y Z n m a b c d A B w' ((k.block _ (PU h1)).trans h1) ((k.block _ (PU T)).trans T);obtain ⟨n,hn⟩:=Vb l.length;rw [hn] at hl |-;obtain ⟨H,Hn,U⟩:=af h hn N;clear h hn N h1 T;go_enter func115,ntmps115;go_wp2
 go_loopw [5,8] (λ_ i wr=>∃k:Nat,k<=n/\i=QZ k/\an (∀j x,j<k->l[j]?=some x->fC a b x)/\aq w wr) (λ_ i _=>n-(intOf i).toNat)
 .exact ⟨0,PZ _,rfl,aa λj x O=>ap,PY _ _⟩
 case round=>
  obtain ⟨k,hk,rfl,v,hb⟩:=hrel;by_cases Q:k<n
  .obtain ⟨x,I⟩:∃x,l[k]?=some x:=⟨_,Qv (by rw [Hn.o];exact Q)⟩;obtain ⟨b',o,A1,c1,A2,c2,rfl,a0,p1,p2,r1,r2⟩:=fS (H.o.below dB hb) I;have hc:=U.o x.1.length x.2.length A1 c1 A2 c2 wr hb;by_cases J:fC a b x
   .have L:(!decide (x.1.length=a/\x.2.length=b))=false:=by
     have:=J;unfold fC at this;simp [this.1,this.2]
    rw [L] at hc;obtain ⟨V,R,Hf,C⟩:=ag hc I J hb;clear hc I J L r1 r2 hb;go_wp2_with fail;refine V.o.mono ?_;rintro e w1 ⟨rfl,u⟩;have D:=aa (C.o.trans (u.mono C.o.size));clear u p1 p2;go_wp2;go_roundw
    case rel=>exact ⟨k+1,ap,Vc,aa (p:=∀j x,j<k+1->l[j]?=some x->fC a b x) λj y O hy=>by
     rcases Qf j k with h | h
     .exact v.out j y h hy
     .obtain rfl:j=k:=ap
      have:=R.o;rw [hy] at this;injection this with this;rw [this];exact Hf.o,D.o⟩
    case measure=>exact Va
   .have L:(!decide (x.1.length=a/\x.2.length=b))=true:=by
     have:=J;unfold fC at this;simp only [Bool.not_eq_true',QU];exact this
    rw [L] at hc;obtain ⟨V,R,Hf,C⟩:=ag hc I J hb;clear hc I J L r1 r2 hb;go_wp2_with fail;refine V.o.mono ?_;rintro e w1 ⟨rfl,u⟩;have D:=aa (C.o.trans (u.mono C.o.size));clear u p1 p2;go_wp2;go_ret;exact ⟨k,rfl,ap,ap,⟨λh=>ap,λh=>absurd (h x (List.mem_of_getElem? R.o)) Hf.o⟩,D.o⟩
  .obtain rfl:n=k:=ap;have C:=aa hb;clear hb;go_wp2;go_ret;refine ⟨-1,rfl,ap,ap,⟨λ_ x I=>?_,λ_=>ap⟩,C.o⟩;obtain ⟨j,O⟩:=List.getElem?_of_mem I;exact v.out j x (by have:=(Qu.1 O).1;have:=Hn.o;omega) O
def rQ (l:Rl) (a b:Nat) (w:R8) (e:Ending) (h:R8):Prop:=aq w h/\∃d:Int,((∀x∈l,fC a b x)/\e=.returned (.tuple #[QZ d,.bool true]))\/((¬∀x∈l,fC a b x)/\e=.returned (.tuple #[QZ d,.bool false]))
theorem C9 (a b c:Nat) (A:N_) (l:Rl) (w:R8) (h:dx rEx 2 w A l) (hl:l.length<=1048576):Vj 78 #[.slice A l.length c,QZ a,QZ b] w (rQ l a b w):=by
 have v:∀(B y:Obj),aq w ((w.alloc B).alloc y):=λB y=>((PY _ w).alloc (PV _) _).alloc V3 _
 have u:=AO w.heap.size (w.heap.size+1) a b c A l ((w.alloc (.cells #[QZ a] 3)).alloc (.cells #[QZ b] 3)) ((Qc _ _ _ V3).trans (PW w _))
  (by have:=PW (w.alloc (.cells #[QZ a] 3)) (.cells #[QZ b] 3);rwa [show (w.alloc (.cells #[QZ a] 3)).heap.size=w.heap.size+1 by simp] at this) (h.below dB (v _ _)) hl
 obtain ⟨n,hn⟩:=Vb l.length;unfold yO at u;unfold rQ;rw [hn] at u |-;obtain ⟨J,L⟩:=ae u v;clear u v h hn;go_enter func78,ntmps78;go_wp2_with fail;refine J.o.mono ?_;rintro e N ⟨d,rfl,D,C,p,hb⟩;obtain ⟨x,i⟩:=ae ((L.o (.cells #[QZ a] 3) (.cells #[QZ b] 3)).trans (hb.mono V6)) p;clear hb p;by_cases I:d<0
 .have H:decide (d<0)=true:=by simp;omega
  go_wp2_with fail
  all_goals
   go_ret2;exact ⟨x.o,_,.inl ⟨i.o.1 I,rfl⟩⟩
 .have H:decide (d<0)=false:=by simp;omega
  go_wp2_with fail
  all_goals
   go_ret2;exact ⟨x.o,_,.inr ⟨λh=>by have:=i.o.2 h;omega,rfl⟩⟩
def swp (p:Q_) (i j:Nat):Q_:=(p.set i (nth p j)).set j (nth p i)
theorem Mi (p:Q_) (i j:Nat):(swp p i j).length=p.length:=by simp [swp]
theorem Dy {p:Q_} {i:Nat} (o:i<p.length) (h:j<p.length) (k:Nat):nth (swp p i j) k=if k=j then nth p i else if k=i then nth p j else nth p k:=by
 unfold swp;rw [jc,jc,List.length_set];simp only [o,h,and_true]
theorem yS {p:Q_} {i:Nat} (o:i<p.length) (h:j<p.length):(p.set j (nth p i)).set i (nth p j)=swp p i j:=by
 refine gQ (by simp [swp]) λk hk=>?_;rw [Dy o h,jc,jc,List.length_set];simp only [o,h,and_true];by_cases h1:k=i
 .subst h1;by_cases u:k=j
  .subst u;simp
  .simp [u]
 .simp [h1]
def uD (n:Nat):Q_:=dU n λk=>(k:Int)
theorem KE (n:Nat):(uD n).length=n:=cD _ _
def iw (n:Nat) (d:Nat->Nat):Nat->Q_
 | 0=>uD n
 | k+1=>swp (iw n d k) (n-1-k) (d k)
theorem lU (n:Nat) (d:Nat->Nat) (k:Nat):(iw n d k).length=n:=by
 induction k with
 | zero=>exact KE n
 | succ k ih=>rw [iw,Mi,ih]
theorem IS (k:Nat) (p:∀j,j<k->d j<n-j) (hk:k<=n-1):∀i,i<n->0<=nth (iw n d k) i/\nth (iw n d k) i<n:=by
 induction k with
 | zero=>intro i o;unfold iw uD;rw [bJ _ o];omega
 | succ k h=>
  have h:=h (λj u=>p j ap) ap;have h1:=p k ap;intro i o;rw [iw,Dy (by rw [lU];omega) (by rw [lU];omega)]
  split
  .exact h _ ap
  .split
   .exact h _ ap
   .exact h _ o
def iG (l:Q_) (n i k:Nat):Nat:=(nth l (i+k)%((n-k:Nat):Int)).toNat
theorem uX (l:Q_) {i:Nat} (h:k<n):iG l n i k<n-k:=by
 unfold iG;have h1:=Int.emod_nonneg (nth l (i+k)) (show ((n-k:Nat):Int)≠0 by omega);have o:=Int.emod_lt_of_pos (nth l (i+k)) (show (0:Int)<((n-k:Nat):Int) by omega);omega
theorem xj (l:Q_) {i:Nat} (h:k<n):(iG l n i k:Int)=nth l (i+k)%((n-k:Nat):Int):=by
 unfold iG;have h1:=Int.emod_nonneg (nth l (i+k)) (show ((n-k:Nat):Int)≠0 by omega);omega
def gr (l:Q_) (n i:Nat):Q_:=iw n (iG l n i) (n-1)
theorem jO (l:Q_) (n i:Nat):(gr l n i).length=n:=lU _ _ _
theorem JK (l:Q_) (n i:Nat):∀k,k<n->0<=nth (gr l n i) k/\nth (gr l n i) k<n:=IS _ (λj h=>uX l ap) (PV _)
def jb (l:Q_) (n e:Nat):List (Q_):=(List.range e).map λk=>gr l n (k*(n-1))
theorem sx (l:Q_) (n e:Nat):(jb l n e).length=e:=by simp [jb]
theorem uj (l:Q_) (n:Nat) {e:Nat} (h:k<e):(jb l n e)[k]?=some (gr l n (k*(n-1))):=by simp [jb,h]
theorem Ks (n:Int) (w:R8) (h:1<=n):Vj 177 #[QZ n] w λe i=>Vi e (.bool false)/\w=i:=by
 have h1:¬n<1:=ap;go_enter func177,ntmps177;go_wp2;go_ret;exact ⟨dC (by first | rfl | (simp;omega) | (simp;done)),rfl⟩
theorem CG (A:N_) (l:Q_) (c:Nat) (w:R8) (hA:Rd w A (aA .i64 l)) (hl:l.length<=17592186043904) (hb:∀k,k<l.length->1<=nth l k):Vj 154 #[.slice A l.length c,.func (.func 177) #[] #[]] w λe v=>Vi e (QZ (-1))/\w=v:=by
 obtain ⟨n,hn⟩:=Vb l.length;have hw:=λk (hk:k<l.length)=>Ks (nth l k) w (hb k hk);rw [hn] at hl hw |-;obtain ⟨HA,y,x⟩:=af hA hn hw;clear hA hn hw hb;go_enter func154,ntmps154;go_wp2
 go_loop [5,8] (λ_ i=>∃k:Nat,k<=n/\i=QZ k) (λ_ i=>n-(intOf i).toNat)
 .exact ⟨0,PZ _,rfl⟩
 case round=>
  obtain ⟨k,hk,rfl⟩:=hrel;by_cases h:k<n
  .obtain ⟨b,o,rfl,p⟩:=HA.o.num (show k<l.length by rw [y.o];exact h);have hw:=x.o k h;have u:=aa hw;clear hw;go_wp2_with fail;refine u.o.mono ?_;rintro e v ⟨rfl,rfl⟩;go_wp2;go_round
   .exact ⟨k+1,ap,Vc⟩
   .simp [intOf];omega
  .obtain rfl:k=n:=ap;go_wp2;go_ret;exact ⟨rfl,rfl⟩
theorem yo (A:N_) (l:Q_) (c:Nat) (w:R8) (hA:Rd w A (aA .i64 l)) (hl:l.length<=17592186043904) (hb:∀k,k<l.length->1<=nth l k):Vj 113 #[.slice A l.length c,.func (.func 177) #[] #[]] w λe h=>Vi e (.bool false)/\w=h:=by
 have i:=CG A l c w hA hl hb;have p:=aa i;clear i hA hb;go_enter func113,ntmps113;go_wp2_with fail;refine p.o.mono ?_;rintro e h ⟨rfl,rfl⟩;go_wp2;go_ret;exact ⟨rfl,rfl⟩
theorem GK (n:Nat) (w:R8) (hn:n<=1048576):Vj 157 #[QZ n] w λe H=>∃v,Vi e v/\H.ownsRow w.heap.size 3 1 v n (aA .i64 (uD n))/\aq w H:=by
 go_enter func157,ntmps157;go_wp2
 go_loopw [3,6] (λv i wr=>∃k:Nat,k<=n/\i=QZ k/\wr.ownsRow w.heap.size 3 1 v k (aA .i64 (uD k))/\aq w wr) (λ_ i _=>n-(intOf i).toNat)
 .exact ⟨0,PZ _,rfl,Qb _ _ _ _,PY _ _⟩
 case round=>
  obtain ⟨k,hk,rfl,h,hb⟩:=hrel;by_cases I:k<n
  .obtain ⟨L,J,rfl,_⟩:=aC h;obtain ⟨p,A⟩:=ae h hb;clear h hb;go_wp2_with (at_builtin;refine aV gi _ rfl (.tmp 9) (.tmp 11) rfl (Ve w) (.slice L k J) k _ rfl p.o [QZ (k:Int)] rfl rfl (cU .i64 [_]) ap V2 A.o.size ?_);intro N O Q x y D;have u:=A.o.trans y;obtain ⟨C,B⟩:=ae x u;clear x y D u;go_wp2;go_roundw
   case rel=>
    refine ⟨k+1,ap,Vc,?_,B.o⟩;have:uD (k+1)=uD k++[(k:Int)]:=iN _ _;rw [this,dd];exact C.o
   case measure=>exact Va
  .obtain rfl:k=n:=ap;obtain ⟨p,A⟩:=ae h hb;clear h hb;go_wp2;go_ret;exact ⟨_,rfl,p.o,A.o⟩
theorem Kr (b c i:Nat) (A:N_) (l:Q_) (B:N_) (bs:Q_) (d:Nat) (w:R8) (h:df w b A c l i) (hi:i+bs.length<=l.length) (hl:l.length<=1048576) (hu:U64 l) (hB:Rd w B (aA .i64 bs)) (a0:∀a,B=some a->a.block≠b) (J:∀k,k<bs.length->1<=nth bs k/\nth bs k<=1048576):Vj 156 #[(au b),.slice B bs.length d] w λe O=>∃v,Vi e (.tuple #[v,.bool true])/\O.ownsRow w.heap.size 3 1 v bs.length (aA .i64 (dU bs.length λk=>nth l (i+k)%nth bs k))/\df O b A c l (i+bs.length)/\Keep (λj=>j=b) w O:=by
 have U:=rV b c i A l w h ap ap;have Q:=λn=>yo B bs d (w.drewN n) (hB.drewN n) ap (λk hk=>(J k hk).1);have C:=λj m O (h:df O b A c l j) (hj:j<l.length)=>yU b c j m A l O h hj ap hu;obtain ⟨n,hn⟩:=Vb bs.length;rw [hn] at hi Q J |-;obtain ⟨N,hN⟩:=Vb l.length;rw [hN] at hi hl U C;have ad:=h.lt;obtain ⟨ab,a9,a8,H,HB,Hn,aR,aM⟩:=ak U Q C h hB hn J a0;clear U Q C h hB hn J hu a0 hN;have hq:decide (((N-i:Nat):Int)<(n:Int))=false:=by simp;omega
 have b2:decide (N-i<n)=false:=by simp;omega
 go_enter func156,ntmps156;go_wp2_with fail;refine ab.o.mono ?_;rintro e O ⟨rfl,a,rfl⟩;go_wp2_with fail;refine (a9.o a).mono ?_;rintro e O ⟨rfl,rfl⟩;clear hq b2;go_wp2
 go_loopw [6,26] (λv x wr=>∃k:Nat,k<=n/\x=QZ k/\wr.ownsRow w.heap.size 3 1 v k (aA .i64 (dU k λk=>nth l (i+k)%nth bs k))/\df wr b A c l (i+k)/\Keep (λj=>j=b) w wr) (λ_ x _=>n-(intOf x).toNat)
 .exact ⟨0,PZ _,rfl,Qb _ _ _ _,H.o.drewN a,(Keep.refl _ _).drewN a⟩
 case round=>
  obtain ⟨k,hk,rfl,u,hS,V⟩:=hrel;by_cases Z:k<n
  .obtain ⟨Al,cl,rfl,_⟩:=aC u;have a4:=V.rd HB.o (λa ha e=>aM.o a ha e);obtain ⟨bB,oB,rfl,p⟩:=a4.num (show k<bs.length by rw [Hn.o];exact Z);have b1:=aR.o k Z;obtain ⟨m,hm⟩:∃m:Nat,nth bs k=(m:Int):=⟨(nth bs k).toNat,ap⟩;rw [hm] at p b1;have C:=a8.o (i+k) m wr hS ap ap ap;obtain ⟨y,hy⟩:=Vb (nth l (i+k)%(m:Int));rw [hy] at C;have b4:=V.size;have a6:=u.lt;obtain ⟨D,HK,Hm,a5,Hy,av⟩:=ai u V hm C hy a6;clear u V hS a4 hm C hy a6;go_wp2_with fail;refine a5.o.mono ?_;rintro e w1 ⟨rfl,a3,L⟩;have I:=L.own D.o (λx hx e=>by have:=(av.o x hx).1;omega);have b3:=L.size;obtain ⟨ao,aG,T⟩:=af a3 L I;clear a3 L I;go_wp2_with (at_builtin;refine aV gi _ rfl (.tmp 36) (.tmp 38) rfl w.heap.size (.slice Al k cl) k _ rfl T.o [QZ y] rfl rfl (cU .i64 [_]) ap V2 ap ?_);intro g6 c6 w6 Y R b0;obtain ⟨aP,a7⟩:=ae Y R;have a1:=(HK.o.trans aG.o).below2 R;have a2:=aa a1;clear Y R b0 a1;go_wp2;go_roundw
   case rel=>
    refine ⟨k+1,ap,Vc,?_,?_,a2.o⟩
    .rw [iN,dd,Hm.o,Hy.o];exact aP.o
    .exact ⟨(a7.o.block b ad).trans ao.o.blk,a2.o.rd H.o.rd (λa ha e=>H.o.ne a ha e),H.o.ne⟩
   case measure=>exact Va
  .obtain rfl:k=n:=ap;obtain ⟨D,HK,HS⟩:=af u V hS;clear u V hS;go_wp2;go_ret2;exact ⟨_,rfl,D.o,HS.o,HK.o⟩
theorem kz {p q:Addr} {x:Value} (h:w.cell? q=some v):∃v',(w.setCell p x).cell? q=some v':=by
 by_cases e:p=q
 .subst e;exact ⟨x,World.cell?_setCell_same w p x h⟩
 .exact ⟨v,(World.cell?_setCell_other w p q x e).trans h⟩
theorem gF {base:Nat} {e:R9} (h:w.ownsRow base e size (.slice A n c) m xs):∀a,A=some a->base<=a.block/\a.block<w.heap.size:=λa p=>by
 subst p;rcases h.2 with ⟨hn,_⟩ | ⟨g,cap,o,i,_⟩
 .cases hn
 .simp only [QH,Option.some.injEq] at i;obtain ⟨rfl,_,_⟩:=i;exact h.lt g rfl
theorem IG (P g n c base i j:Nat) (p:Q_) (w:R8) (hP:Vg w P #[Vf g 0 n c] 22) (h:w.ownsRow base 3 1 (Vf g 0 n c) n (aA .i64 p)) (T:i<n) (V:j<n) (hn:n<=1048576):Vj 158 #[QZ i,QZ j,(au P)] w λe B=>Vi e (.tuple #[])/\B.ownsRow base 3 1 (Vf g 0 n c) n (aA .i64 (swp p i j))/\Keep (λk=>k=g) w B:=by
 have y:=ln h;have O:=cS h T;have D:=cS h V;have Z:=h.frozenAt i;have f2:=h.frozenAt j;have v:=yS (p:=p) (i:=i) (j:=j) ap ap;obtain ⟨A,Y⟩:=bx1 hP;have R:(i:Int)<n:=ap;have N:(j:Int)<n:=ap;have u:g≠P:=λe=>ay hP V0 h (by rw [<-e];rfl);have L:=(World.cell?_setCell_other w (ar g i) (ar P 0) (QZ (nth p j)) (by simp [u])).trans A;have C:=(World.cell?_setCell_other w (ar g j) (ar P 0) (QZ (nth p i)) (by simp [u])).trans A;obtain ⟨v1,H⟩:=kz (w:=w) (p:=(ar g i)) (x:=QZ (nth p j)) (q:=(ar g j)) D;obtain ⟨v2,I⟩:=kz (w:=w) (p:=(ar g j)) (x:=QZ (nth p i)) (q:=(ar g i)) O;obtain ⟨Q,U,J⟩:=af h y v;clear h y hP v;go_enter func158,ntmps158;go_wp2
 go_region
 all_goals go_wp2_with fail
 all_goals
  go_end0
  refine ⟨rfl,?_,?_⟩
 .exact bZ (eC (eC Q.o i _) j _) 1
 .exact (Vk g (Vk g (Keep.refl _ w) (ar g i) (.inr rfl) _) (ar g j) (.inr rfl) _).drew
theorem yX (n b c i:Nat) (A:N_) (l:Q_) (w:R8) (h:df w b A c l i) (hn:1<=n) (b3:n<=1048576) (hi:i+(n-1)<=l.length) (hl:l.length<=1048576) (hu:U64 l):Vj 122 #[QZ n,(au b)] w λe O=>∃v,Vi e (.tuple #[v,.bool true])/\O.ownsRow w.heap.size 3 1 v n (aA .i64 (gr l n i))/\df O b A c l (i+(n-1))/\Keep (λj=>j=b) w O:=by
 obtain ⟨m,hm⟩:=Vb (n-1);rw [hm] at hi |-;have b4:gr l n i=iw n (iG l n i) m:=by unfold gr;rw [hm]
 rw [b4];have c8:m<n:=ap;have bV:n<=m+1:=ap;clear hm b4;have Q:=λB d O (h:df O b A c l i) (hB:Rd O B (aA .i64 (dU m λk=>((n-k:Nat):Int)))) I=>Kr b c i A l B (dU m λk=>((n-k:Nat):Int)) d O h (by rw [cD];exact hi) hl hu hB I (λk hk=>by rw [cD] at hk;rw [bJ _ hk];omega)
 simp only [cD] at Q;have he:(dU m λk=>nth l (i+k)%nth (dU m λk=>((n-k:Nat):Int)) k)=dU m λk=>(iG l n i k:Int):=fv λk hk=>by rw [bJ _ hk,xj l ap]
 rw [he] at Q;have aP:=λO=>GK n O b3;have c9:=h.lt;obtain ⟨bM,a9,H⟩:=af Q aP h;clear Q he aP h hu;go_enter func122,ntmps122;go_wp2
 go_loopw [6,7] (λv x wr=>∃k:Nat,k<=m/\x=QZ ((n:Int)-k)/\wr.ownsRow w.heap.size 3 1 v k (aA .i64 (dU k λk=>((n-k:Nat):Int)))/\aq w wr) (λ_ x _=>(intOf x).toNat)
 .exact ⟨0,PZ _,Vc,Qb _ _ _ _,PY _ _⟩
 case round=>
  obtain ⟨k,hk,rfl,u,hb⟩:=hrel;by_cases Y:k<m
  .obtain ⟨Al,cl,rfl,_⟩:=aC u;obtain ⟨D,Hb⟩:=ae u hb;clear u hb;go_wp2_with (at_builtin;refine aV gi _ rfl (.tmp 29) (.tmp 31) rfl w.heap.size (.slice Al k cl) k _ rfl D.o [QZ ((n:Int)-k)] rfl rfl (cU .i64 [_]) ap V2 Hb.o.size ?_);intro g6 c6 w6 ao aG bz;have T:=Hb.o.trans aG;obtain ⟨bw,bd⟩:=ae ao T;clear ao aG bz T;go_wp2;go_roundw
   case rel=>
    refine ⟨k+1,ap,Vc,?_,bd.o⟩;rw [iN,dd,show ((n-k:Nat):Int)=(n:Int)-k by omega];exact bw.o
   case measure=>exact Va
  .obtain rfl:m=k:=ap;obtain ⟨Al,cl,rfl,_⟩:=aC u
   have I:∀a,Al=some a->a.block≠b:=λa ha e=>by
    subst ha;have:=gF u a rfl;omega
   have b5:=bM.o Al cl wr (H.o.below hb) (Rd.own u) I;obtain ⟨bv,Hb⟩:=ae b5 hb;clear u hb b5 I;obtain ⟨wq,rfl⟩:∃wq:R8,wq=wr:=⟨_,rfl⟩;go_wp2_with fail;refine bv.o.mono ?_;rintro e w1 ⟨v1,rfl,N,b2,U⟩;obtain ⟨A1,c1,rfl,_⟩:=aC N;have a3:=gF N;have a7:=Rd.own N;have cb:=U.size;have Z:=(Keep.below (S:=λj=>j=b) Hb.o).trans U;have c7:=Z.size;obtain ⟨b6,b7,bb,b8⟩:=ag b2 Z a7 a3;clear b2 U a7 N a3 Z;go_wp2_with fail;refine (a9.o w1).mono ?_;rintro e w2 ⟨v2,rfl,L,a1⟩;obtain ⟨g,c2,rfl,_⟩:=L.form hn;have b9:=a1.size;have bX:=L.lt g rfl;have hP:=PW w2 (.cells #[.slice (some (ar g 0)) n c2] 22);have V:=a1.alloc b9 (.cells #[.slice (some (ar g 0)) n c2] 22);have b0:=L.alloc (.cells #[.slice (some (ar g 0)) n c2] 22);have ad:=bb.o.below V;obtain ⟨HP,av,a8,aR⟩:=ag hP V b0 ad;clear hP V b0 ad L a1;go_wp2_with fail;obtain ⟨R,C⟩:∃R,R=w2.alloc (.cells #[.slice (some (ar g 0)) n c2] 22):=⟨_,rfl⟩;have bO:w2.heap.size<R.heap.size:=by rw [C];simp
   have bf:an (R.heap[w2.heap.size]?=some (.cells #[.slice (some (ar g 0)) n c2] 22 (0,0))):=aa (by rw [C];exact HP.o);have aM:an (aq w1 R):=aa (by rw [C];exact av.o);have bn:an (R.ownsRow w1.heap.size 3 1 (.slice (some (ar g 0)) n c2) n (aA .i64 (uD n))):=aa (by rw [C];exact a8.o);have bN:an (Rd R A1 (aA .i64 (dU m λk=>(iG l n i k:Int)))):=aa (by rw [C];exact aR.o);rw [<-C];clear HP av a8 aR C
   go_loopw [46] (λx wr=>∃k:Nat,k<=m/\x=QZ k/\wr.heap[w2.heap.size]?=some (.cells #[.slice (some (ar g 0)) n c2] 22 (0,0))/\wr.ownsRow w1.heap.size 3 1 (.slice (some (ar g 0)) n c2) n (aA .i64 (iw n (iG l n i) k))/\Keep (λj=>j=g) R wr) (λx _=>m-(intOf x).toNat)
   .exact ⟨0,PZ _,rfl,bf.out,bn.out,Keep.refl _ _⟩
   case round=>
    obtain ⟨k,hk,rfl,hP,u,hK⟩:=hrel;by_cases Y:k<m
    .have hr:=hK.rd bN.out (λa ha e=>by have:=(b8.o a ha).2;omega);obtain ⟨bA,oA,rfl,p⟩:=hr.num (show k<_ by rw [cD];exact Y);rw [bJ _ Y] at p;have bh:=uX l (n:=n) (i:=i) (k:=k) ap;have y:=IG w2.heap.size g n c2 w1.heap.size (n-1-k) (iG l n i k) (iw n (iG l n i) k) wr hP u ap ap b3;rw [show ((n-1-k:Nat):Int)=(n:Int)-1-k by omega] at y;have bi:=PU hP;obtain ⟨a4,HP,HK⟩:=af y hP hK;clear y hP u hK hr;obtain ⟨dk,J⟩:=Vb (iG l n i k);rw [J] at p;have y:=a4.o;rw [J] at y bh;obtain ⟨ab,be⟩:=ae y J;clear a4 y J;go_wp2_with fail;refine ab.o.mono ?_;rintro e w5 ⟨rfl,a5,a0⟩;have a6:=(a0.block _ bi ap).trans HP.o;obtain ⟨bI,bs,bG⟩:=af a6 a5 (HK.o.trans a0);clear a6 a5 a0 p;go_wp2;go_roundw
     case rel=>
      refine ⟨k+1,ap,Vc,bI.o,?_,bG.o⟩;rw [iw,be.o];exact bs.o
     case measure=>exact Va
    .obtain rfl:m=k:=ap;obtain ⟨x0,xf⟩:=bx1 hP;have a2:Keep (λj=>j=b) w wr:=b7.o.below2 ((aM.out.mono ap).trans (hK.toBelow ap (λj hj=>ap)));have b1:df wr b A c l (i+m):=⟨(hK.block b ap ap).trans ((aM.out.block b ap).trans b6.o.blk),a2.rd H.o.rd (λa ha e=>H.o.ne a ha e),H.o.ne⟩;obtain ⟨bl,bo,D⟩:=af a2 b1 (aF (base':=w.heap.size) u ap);clear a2 b1 u hK hP;go_wp2;go_ret2;exact ⟨_,rfl,D.o,bo.o,bl.o⟩
theorem AR:dM prog 126 22 (Ra) 1 24:=⟨underlying126,info_parts V1,rfl,by decide⟩
def Nv (S n b c i k base:Nat) (A:N_) (l:Q_) (u x y:Value) (vs:R7) (w:R8) (e:Ending) (h:R8):Prop:=
 e=.returned (.bool true)/\∃A1 c1 p o,h.heap[S]?=some (.cells #[u,x,y,.slice p (k+1) o] 218 (0,0))/\
  h.ownsRow base 22 1 (.slice p (k+1) o) (k+1) (vs++[.slice A1 n c1])/\n<=c1/\h.ownsRow base 3 1 (.slice A1 n c1) n (aA .i64 (gr l n i))/\
  h.heap[b]?=some (.cells #[.slice A l.length c,QZ ((i+(n-1):Nat):Int)] 270 (0,0))/\
  (∀base' m v xs,w.ownsRow base' 3 1 v m xs->h.ownsRow base' 3 1 v m xs)/\Keep (λj=>j=b\/j=S\/base<=j) w h
theorem GT (N P1 P2 S n b c i k base:Nat) (A:N_) (l:Q_) (Ao:N_) (co:Nat) (x0 x1 x2:Value) (vs:R7) (w:R8) (hN:Vg w N #[QZ n] 3) (aM:Vg w P1 #[(au b)] 219) (L:Vg w P2 #[(au S)] 162) (hS:Vg w S #[x0,x1,x2,.slice Ao k co] 218) (h:df w b A c l i) (a2:w.ownsRow base 22 1 (.slice Ao k co) k vs) (a0:base<=w.heap.size) (hk:k<=1048576) (hn:1<=n) (bv:n<=1048576) (hi:i+(n-1)<=l.length) (hl:l.length<=1048576) (hu:U64 l):Vj 121 #[(au N),(au P1),(au P2)] w (Nv S n b c i k base A l x0 x1 x2 vs w):=by
 have b2:=yX n b c i A l w h hn bv hi hl hu
 have aG:b≠S:=λe=>by
  have h1:=h.blk;rw [e,hS] at h1;simp at h1
 have aR:b≠P2:=λe=>by
  have h1:=h.blk;rw [e,L] at h1;simp at h1
 have a9:∀j,(Value.slice Ao k co).ownBlock=some j->j≠b:=λj I e=>ay h.blk V0 a2 (by rw [<-e,I]);have R:∀base' m v xs,w.ownsRow base' 3 1 v m xs->∀j,v.ownBlock=some j->j≠b:=λbase' m v xs hr j I e=>ay h.blk V0 hr (by rw [<-e,I]);obtain ⟨p0,pf⟩:=bx1 hN;obtain ⟨q0,qf⟩:=bx1 aM;have b6:=PU L;have bb:=PU hS;obtain ⟨be,b8,HS,bl,bh,a7,ao,bd⟩:=ak b2 L hS a2 a9 R aG aR;clear b2 L hS a2 a9 R aG aR hN aM h hu;go_enter func121,ntmps121;go_wp2_with fail;refine be.o.mono ?_;rintro e w1 ⟨v1,rfl,a3,b0,y⟩;obtain ⟨A1,c1,rfl,b3⟩:=aC a3;have Z:=(y.block P2 b6 (λe=>bd.o e.symm)).trans b8.o;have Y:=(y.block S bb (λe=>ao.o e.symm)).trans HS.o;have U:=y.own bl.o (λj I e=>bh.o j I e);have bI:=y.size;obtain ⟨t0,tf⟩:=bx1 Z;obtain ⟨⟨y0,y1,y2,y3⟩,yf⟩:=bx4 Y;obtain ⟨bo,b5,D,bs,b9,u,bz⟩:=aj a3 b0 y Z Y U b3;clear a3 b0 y Z Y U b3 p0 pf q0 qf;go_wp2_with fail;have B:(λw':R8=>Vh w' P2 0 ((au S))/\Vh w' S 3 (.slice Ao k co)) w1.drew:=⟨t0,y3⟩;refine XA.g 8 (λw':R8=>Vh w' P2 0 ((au S))/\Vh w' S 3 (.slice Ao k co)) ?_;refine XA.t ?_ [0,1,2,3,4,5] B ?_;refine XA.o 6 (λK hK=>?_);go_simp;refine hK.out _ _ ⟨aJ B.1 _,aJ B.2 _⟩ (λB=>?_);clear hK K;refine XA.o 7 (λK hK=>?_);refine bY AR (.tmp 16) (.tmp 18) rfl rfl base (.slice Ao k co) k vs rfl (bZ (u.o.alloc _) 1) (some (ar (Ve w1) 0)) 1 1 [.slice A1 n c1] rfl (dW w1 _ _ _ rfl) rfl V5 ap V2 V6 ?_;intro A7 c7 O ab b1 x _;have x:=qI x;have J:=eh (o:=.cells #[.slice A1 n c1] 22 (0,0)) b9.o V0 u.o x;have av:=eh (o:=.cells #[.slice A1 n c1] 22 (0,0)) bs.o V0 u.o x;have T:=eh (o:=.cells #[.slice A1 n c1] 22 (0,0)) b5.o.blk V0 u.o x;have i0:=PX O _ 0 _ _ _ av;have i3:=PX O _ 3 _ _ _ J;have bG:=P8 O _ 3 _ _ J;obtain ⟨ad,a4,b4,C,aP⟩:=ah ab J x b1 T;clear ab J x b1 av T;dsimp only;refine hK.out _ _ ⟨i0,i3⟩ (λB=>?_);clear hK K B;refine XA.e ?_;simp only [Qq,Qs];go_wp2_with fail;have a5:=QX O S 3 _ _ (.slice A7 (k+1) c7) a4.o;have p:Keep (λj=>j=S) O (O.setCell (ar S 3) (.slice A7 (k+1) c7)):=Vk S (Keep.refl _ _) (ar S 3) (.inr rfl) _;have a6:=p.own ad.o (λj I e=>ay a4.o V0 ad.o (by rw [I,e]));have a8:=(p.block b (by have:=PU aP.o;omega) (λe=>ao.o e)).trans aP.o;have V:∀base' m v xs,w1.ownsRow base' 3 1 v m xs->(O.setCell (ar S 3) (.slice A7 (k+1) c7)).ownsRow base' 3 1 v m xs:=λbase' m v xs h=>zK h u.o b4.o a4.o V0 V0
 have H:Keep (λj=>j=b\/j=S\/base<=j) w (O.setCell (ar S 3) (.slice A7 (k+1) c7)):=by
  refine ⟨p.os.trans (C.o.os.trans D.o.os),p.tape.trans (C.o.tape.trans D.o.tape),p.output.trans (C.o.output.trans D.o.output),?_,λj I hn=>?_⟩
  .have:=C.o.size;have:=p.size;simp at *;omega
  .have bf:¬j=b:=λe=>hn (.inl e);have bn:¬j=S:=λe=>hn (.inr (.inl e));have bA:j<base:=by rcases Qf j base with h | h;exact h;exact absurd (.inr (.inr h)) hn
   have h1:=D.o.block j I bf;have h2:=C.o.block j bA;have h3:=p.block j (by have:=C.o.size;simp at this;omega) bn;refine h3.trans (h2.trans (Eq.trans ?_ h1));exact Qc w1 _ j ap
 obtain ⟨bi,bw,b7,Q,a1⟩:=ah a5 a6 a8 V H;clear a5 p a6 a8 V H;go_ret;refine ⟨rfl,A1,c1,A7,c7,bi.o,bw.o,bz.o,?_,b7.o,λbase' m v xs hr=>Q.o _ _ _ _ (D.o.own hr (λj I e=>a7.o _ _ _ _ hr j I e)),a1.o⟩;exact Q.o _ _ _ _ (aF bo.o a0)
def epN (n batch steps:Nat):Nat:=di steps (n/batch)
def gC (w:R8) (S n batch steps:Nat) (l:Q_):Prop:=
 ∃h u o v vs,w.heap[S]?=some (.cells #[QZ batch,QZ steps,.slice h (n/batch) u,.slice o (epN n batch steps) v] 218 (0,0))/\
  Rd w h (gq (n-n%batch) batch (n/batch))/\Rd w o vs/\vs.length=epN n batch steps/\
  ∀j,j<epN n batch steps->∃p i,vs[j]?=some (.slice p n i)/\n<=i/\Rd w p (aA .i64 (gr l n (j*(n-1))))
theorem Iy {v:R8} {S:Nat} {l:Q_} (h:gC (gt B u) S n batch steps l) (i:Agr B u v):gC v S n batch steps l:=by
 obtain ⟨p,x,O,L,vs,h1,D,N,H,J⟩:=h
 exact ⟨p,x,O,L,vs,tt h1 i,mx D i,mx N i,H,λj C=>by
  obtain ⟨Q,I,o,y,A⟩:=J j C
  exact ⟨Q,I,o,y,mx A i⟩⟩
theorem gC.below {i:R8} {S:Nat} {l:Q_} (h:gC w S n batch steps l) (hb:aq w i):gC i S n batch steps l:=by
 obtain ⟨p,u,J,H,vs,h1,A,I,B,D⟩:=h
 exact ⟨p,u,J,H,vs,(hb.block _ (PU h1)).trans h1,A.below hb,I.below hb,B,λj y=>by
  obtain ⟨L,C,o,v,x⟩:=D j y
  exact ⟨L,C,o,v,x.below hb⟩⟩
def NB (h wr:R8) (S n b c k:Nat) (A:N_) (l:Q_) (v x y:Value):Prop:=
 ∃p o vs,wr.heap[S]?=some (.cells #[v,x,y,.slice p k o] 218 (0,0))/\wr.ownsRow h.heap.size 22 1 (.slice p k o) k vs/\
  (∀j,j<k->∃u i,vs[j]?=some (.slice u n i)/\n<=i/\wr.ownsRow h.heap.size 3 1 (.slice u n i) n (aA .i64 (gr l n (j*(n-1)))))/\
  wr.heap[b]?=some (.cells #[.slice A l.length c,QZ ((k*(n-1):Nat):Int)] 270 (0,0))/\Keep (λj=>j=b\/j=S) h wr
theorem xT (A:N_) (l:Q_) (c n batch steps:Nat) (w:R8) (hA:Rd w A (aA .u64 l)) (hl:l.length<=1048576) (hu:U64 l) (hb:1<=batch) (cw:batch<=n) (hn:n<=1048576) (aG:steps<=1048576) (hd:epN n batch steps*(n-1)<=l.length):Vj 81 #[QZ n,QZ batch,QZ steps,.slice A l.length c] w λe w'=>∃S,Vi e (.tuple #[(au S),QZ 0])/\gC (gt w.heap.size w') S n batch steps l/\w.heap.size<=S/\aq w w':=by
 have eb:¬((n:Int)<1):=ap;have e6:¬((1048576:Int)<n):=ap;have e2:¬((steps:Int)<0):=ap;have e3:¬((1048576:Int)<steps):=ap;have ec:¬((batch:Int)<1):=ap;have ee:¬((n:Int)<batch):=ap;obtain ⟨N,hN⟩:=Vb l.length;have a6:=λw'=>m6 (n-n%batch) batch w' ap hb ap;rw [Db n batch hb cw] at a6;obtain ⟨nb,a4⟩:=Vb (n/batch);have cn:1<=nb:=by rw [<-a4];exact Nat.div_pos cw hb
 have dw:nb<=n:=by rw [<-a4];exact Nat.div_le_self _ _
 obtain ⟨r,hr⟩:=Vb (n%batch);have dG:r<=n:=by rw [<-hr];exact Nat.mod_le _ _
 rw [hr,a4] at a6;have ea:(n:Int).tmod (batch:Int)=(r:Int):=by rw [<-hr];rfl
 have dT:(n:Int)%(batch:Int)=(r:Int):=by rw [<-hr];rfl
 have e9:IntKind.i64.wrap (r:Int)=(r:Int):=P3 _ ap;have e0:IntKind.i64.wrap ((n:Int)-(r:Int))=((n-r:Nat):Int):=by rw [P3 _ ap];omega
 have e4:¬(batch=0):=ap;obtain ⟨HA,Hu,Hd,HN,cs,bz,Hr⟩:=aj hA hu hd hN a6 a4 hr;rw [hN] at hl |-;clear hA hu hd hN a6 a4 hr;go_enter func81,ntmps81;go_wp2_with fail
 go_cut [10] (λv wx=>∃P2 S I J,v=(au P2)/\wx.heap[P2]?=some (.cells #[(au S)] 162 (0,0))/\wx.heap[S]?=some (.cells #[QZ batch,QZ steps,.slice I nb J,Ra] 218 (0,0))/\
  wx.ownsRow (w.heap.size+1) 148 2 (.slice I nb J) nb (gq (n-r) batch nb)/\w.heap.size+1<=P2/\w.heap.size+1<=S/\Below (w.heap.size+1) (w.alloc (.cells #[QZ n] 3)) wx)
 case first=>
  have da:=PX (w.alloc (.cells #[QZ n] 3)) w.heap.size 0 _ _ _ (PW w _);have i:(λw':R8=>w'.cell? (ar w.heap.size 0)=some (QZ n)) (w.alloc (.cells #[QZ n] 3)).drew:=da;refine kO 12 (λw':R8=>w'.cell? (ar w.heap.size 0)=some (QZ n)) V1 ?_;refine wX 0 i ?_;refine wX 1 i ?_;refine wX 2 i ?_;refine wX 3 i ?_;refine wX 4 i ?_;refine wX 5 i ?_;refine wX 6 i ?_;refine wX 7 i ?_;simp only [Qh,Qi,Qj,Act.put,Qk,Ql,Qm];refine cJ (rs:=[8,11]) V1 V3 ?_;refine aT.cons rfl (λK p=>?_) (aT.cons rfl (λK p=>?_) aT.nil)
  .simp only [Qh,Qi,Qj];go_simp;refine (cs.o _).mono ?_;rintro e B ⟨v,rfl,ho,u⟩;obtain ⟨I,J,rfl,_⟩:=aC ho;have a9:=aw u i;have u:Below _ _ _:=u;simp only [QG,Qg] at ho u;obtain ⟨Ho,T⟩:=ae ho u;clear ho u i;dsimp only;refine p.out _ _ a9 (λi=>?_);clear p K a9;refine wX 9 i ?_;simp only [Qh,Qi,Qj,Act.put,Qk,Ql,Qm];refine cJ (rs:=[10,11]) V1 V3 ?_;refine aT.cons rfl (λK p=>?_) (aT.cons rfl (λK p=>?_) aT.nil)
   .simp only [Qh,Qi,Qj];go_simp;refine p.out _ _ (aJ i _) (λi=>?_);clear p K;refine cJ (rs:=[11]) V1 V3 ?_;refine aT.cons rfl (λK p=>?_) aT.nil;simp only [Qh,Qi,Qj];go_simp;refine p.out _ _ (aJ i _) (λi=>?_);clear p K i;refine fq (by rfl) V1 ?_;simp only [Qq,Qs];go_wp2;go_meet;have a7:=T.o.size;simp at a7;refine ⟨B.heap.size+1,B.heap.size,I,J,rfl,?_,?_,(Ho.o.alloc _).alloc _,ap,ap,?_⟩
    .have:=PW (B.alloc (.cells #[QZ batch,QZ steps,.slice I nb J,Ra] 218)) (.cells #[(au B.heap.size)] 162);simpa using this
    .exact (Qc _ _ _ V3).trans (PW B _)
    .exact ((((PY _ _).drew).trans T.o).alloc ap _).alloc V6 _
   .simp only [Qh,Qi,Qj];go_simp;refine p.out _ _ (aJ i _) (λi=>?_);clear p K;refine cJ (rs:=[10]) V1 V3 ?_;refine aT.cons rfl (λK p=>?_) aT.nil;simp only [Qh,Qi,Qj];go_simp;refine p.out _ _ (aJ i _) (λi=>?_);clear p K i;refine fq (by rfl) V1 ?_;simp only [Qq,Qs];go_wp2;go_meet;have a7:=T.o.size;simp at a7;refine ⟨B.heap.size,B.heap.size+1,I,J,rfl,?_,?_,(Ho.o.alloc _).alloc _,ap,ap,?_⟩
    .exact (Qc _ _ _ V3).trans (PW B _)
    .have:=PW (B.alloc (.cells #[(au (B.heap.size+1))] 162)) (.cells #[QZ batch,QZ steps,.slice I nb J,Ra] 218);simpa using this
    .exact ((((PY _ _).drew).trans T.o).alloc ap _).alloc V6 _
  .simp only [Qh,Qi,Qj];go_simp;refine p.out _ _ (aJ i _) (λi=>?_);clear p K;refine cJ (rs:=[8]) V1 V3 ?_;refine aT.cons rfl (λK p=>?_) aT.nil;simp only [Qh,Qi,Qj];go_simp;refine (cs.o _).mono ?_;rintro e B ⟨v,rfl,ho,u⟩;have C:B.heap[w.heap.size+1]?=some (.cells #[.pointer none] 162 (0,0)):=(u.block (w.heap.size+1) V3).trans (by rw [<-show (w.alloc (.cells #[QZ n] 3)).heap.size=w.heap.size+1 by simp];exact PW _ _);obtain ⟨t0,tf⟩:=bx1 C;have cM:=PU C;have a1:=aa C;clear C;obtain ⟨I,J,rfl,_⟩:=aC ho;have a9:=aw u i;have u:Below _ _ _:=u;simp only [QG,Qg] at ho u;obtain ⟨Ho,T⟩:=ae ho u;clear ho u i;dsimp only;refine p.out _ _ a9 (λi=>?_);clear p K a9;refine wX 9 i ?_;simp only [Qh,Qi,Qj,Act.put,Qk,Ql,Qm];refine cJ (rs:=[10]) V1 V3 ?_;refine aT.cons rfl (λK p=>?_) aT.nil;simp only [Qh,Qi,Qj];go_simp;refine p.out _ _ (aJ i _) (λi=>?_);clear p K i;refine fq (by rfl) V1 ?_;simp only [Qq,Qs];go_wp2;go_meet;have a7:=T.o.size;simp at a7;have hk:Keep (λj=>j=w.heap.size+1) B (B.setCell (ar (w.heap.size+1) 0) ((au B.heap.size))):=Vk (w.heap.size+1) (Keep.refl _ _) (ar (w.heap.size+1) 0) (.inr rfl) _;have h0:Below (w.heap.size+1) (w.alloc (.cells #[QZ n] 3)) B:=((PY _ _).alloc V3 _).drew.trans (T.o.mono ap);refine ⟨w.heap.size+1,B.heap.size,I,J,rfl,?_,?_,?_,ap,ap,?_⟩
   .exact (Qc _ _ _ (by simpa using cM)).trans (QX B (w.heap.size+1) 0 _ _ _ a1.o)
   .have:=PW (B.setCell (ar (w.heap.size+1) 0) ((au B.heap.size))) (.cells #[QZ batch,QZ steps,.slice I nb J,Ra] 218)
    rwa [show (B.setCell (ar (w.heap.size+1) 0) ((au B.heap.size))).heap.size=B.heap.size by simp] at this
   .exact aF ((hk.own Ho.o (λj L e=>ay a1.o V0 Ho.o (by rw [L,e]))).alloc _) ap
   .exact (h0.trans (hk.toBelow ap (λj L=>ap))).alloc V6 _
 case rest=>
  obtain ⟨P2,S,I,J,rfl,C,hS,c8,e8,e7,bi⟩:=hcut;have bw:aq w wc:=((PY _ w).alloc (PV _) _).trans (bi.mono ap);have bX:=(bi.block w.heap.size ap).trans (PW w (.cells #[QZ n] 3));have bo:=Lm A l c wc (HA.o.below bw) (by have:=HN.o;omega);rw [HN.o] at bo;obtain ⟨a1,HS,d3,bn,cj,cO⟩:=ai C hS c8 bw bX bo;clear C hS c8 bw bX bo bi;go_wp2_with fail;refine cO.o.mono ?_;rintro e w3 ⟨b,A3,c3,rfl,b4,cl,d7,O⟩;have aM:=(O.block _ (PU a1.o)).trans a1.o;have ao:=(O.block _ (PU HS.o)).trans HS.o;have bM:=(O.block _ (PU cj.o)).trans cj.o;have b8:=az d3.o O;have b1:=bn.o.trans (O.mono bn.o.size);have e1:=O.size;obtain ⟨t0,tf⟩:=bx1 aM;obtain ⟨⟨y0,y1,y2,y3⟩,yf⟩:=bx4 ao;have l1:=PU aM;have l2:=PU ao;obtain ⟨c7,c9,bv,aR,be,b5,d9⟩:=aj aM ao bM b8 b1 b4 cl;clear aM ao bM b8 b1 b4 cl O;go_wp2_with fail;have he:epN n batch steps=di steps nb:=by unfold epN;rw [bz.o]
  have d8:=gj steps nb;have hd:=Hd.o;rw [he] at hd;rw [HN.o] at hd;obtain ⟨E,hE⟩:=Vb (di steps nb);rw [hE] at he d8 hd;have bl:=xk steps nb (w3.alloc (.cells #[(au b)] 219)) aG cn ap;rw [hE] at bl;obtain ⟨He,ds,bG⟩:=af he hd bl;clear he hd bl hE;refine bG.o.mono ?_;rintro e w' ⟨rfl,rfl⟩;obtain ⟨Z,Q⟩:∃Z,Z=w3.alloc (.cells #[(au b)] 219):=⟨_,rfl⟩;have aP:Z.heap[w3.heap.size]?=some (.cells #[(au b)] 219 (0,0)):=by rw [Q];exact PW w3 _
  have R:aq w3 Z:=by rw [Q];exact (PY _ _).alloc (PV _) _
  have d2:w3.heap.size<Z.heap.size:=PU aP;have a2:=(R.block _ l2).trans c9.o;have a8:=(R.block _ l1).trans c7.o;have av:=(R.block _ (PU bv.o)).trans bv.o;have H:=az aR.o R;have y:=b5.o.below R;have b7:=be.o.trans (R.mono be.o.size);rw [<-Q];have dp:=PU av;have a6:=y.lt
  have ci:b≠S:=λe=>by
   have h1:=y.blk;rw [e,a2] at h1;simp at h1
  have U:∀{x t},Z.heap[x]?=some (.cells #[t] 3 (0,0))\/Z.heap[x]?=some (.cells #[t] 219 (0,0))\/Z.heap[x]?=some (.cells #[t] 162 (0,0))->¬(x=b\/x=S):=λh=>by
   rintro (rfl | rfl)
   .have h1:=y.blk;rcases h with h | h | h<;>(rw [h1] at h;simp at h)
   .rcases h with h | h | h<;>(rw [a2] at h;simp at h)
  have cx:=U (.inl av);have bf:=U (.inr (.inl aP));have b3:=U (.inr (.inr a8));have bN:=H.lt
  have c6:∀a,A3=some a->¬(a.block=b\/a.block=S):=λa ha=>by
   rintro (h | h)
   .exact y.ne a ha h
   .have:=d9.o a ha;have:=PU HS.o;omega
  have bh:∀j,(Value.slice I nb J).ownBlock=some j->¬(j=b\/j=S):=λj L=>by
   rintro (rfl | rfl)
   .exact ay y.blk V0 H L.symm
   .exact ay a2 V0 H L.symm
  obtain ⟨dr,cP,b2,cL,cd,a5,ab,dk⟩:=ak aP a2 a8 av H y b7 cx;obtain ⟨cf,bd,dv,cc,e5⟩:=ah bf b3 c6 bh ci;clear aP a2 a8 av H y b7 cx bf b3 c6 bh ci U bN R Q bG c7 c9 bv aR b5 t0 tf y0 y1 y2 y3 yf;go_wp2
  go_loopw [57] (λx wr=>∃k:Nat,k<=E/\x=QZ k/\NB Z wr S n b c3 k A3 l (QZ batch) (QZ steps) (.slice I nb J)) (λx _=>E-(intOf x).toNat)
  case atStart=>
   refine ⟨0,PZ _,rfl,none,0,[],cP.o,Qb _ _ _ _,λj L=>ap,?_,Keep.refl _ _⟩;rw [Nat.zero_mul];exact a5.o.blk
  case round=>
   obtain ⟨k,hk,rfl,Ao,co,vs,hS,a3,D,bA,p⟩:=hrel;by_cases d0:k<E
   .have d1:k*(n-1)+(n-1)<=N:=by
     have h1:(k+1)*(n-1)<=E*(n-1):=QY _ d0;rw [QM] at h1;have:=ds.o;omega
    have aG:df wr b A3 c3 l (k*(n-1)):=⟨bA,p.rd a5.o.rd (λa ha e=>dv.o a ha e),a5.o.ne⟩
    have cr:=GT w.heap.size w3.heap.size P2 S n b c3 (k*(n-1)) k Z.heap.size A3 l Ao co (QZ batch) (QZ steps) (.slice I nb J) vs wr
     ((p.block _ dp dk.o).trans cL.o) ((p.block _ d2 cf.o).trans dr.o) ((p.block _ ap bd.o).trans b2.o) hS aG a3 p.size ap ap hn (by rw [HN.o];exact d1) (by rw [HN.o];exact hl) Hu.o
    obtain ⟨d4,bs,HK⟩:=af cr D p;clear cr D p aG hS a3 bA;go_wp2_with fail;refine d4.o.mono ?_;rintro e w5 ⟨rfl,A1,c1,dc,cA,bO,ad,cy,bI,cv,a0,Y⟩
    have b0:Keep (λj=>j=b\/j=S) Z w5:=⟨Y.os.trans HK.o.os,Y.tape.trans HK.o.tape,Y.output.trans HK.o.output,P4 HK.o.size Y.size,λj L hn=>(Y.block j (P6 L HK.o.size) (λh=>by
     rcases h with h | h | h
     .exact hn (.inl h)
     .exact hn (.inr h)
     .omega)).trans (HK.o.block j L hn)⟩
    have V:∀j,j<k+1->∃A' c',(vs++[Value.slice A1 n c1])[j]?=some (.slice A' n c')/\n<=c'/\w5.ownsRow Z.heap.size 3 1 (.slice A' n c') n (aA .i64 (gr l n (j*(n-1)))):=λj L=>by
     have dn:vs.length=k:=by have:=ad.1;simp at this;omega
     rcases Qf j k with h | h
     .obtain ⟨A',c',k1,k2,k3⟩:=bs.o j h;exact ⟨A',c',by rw [Qw ap];exact k1,k2,a0 _ _ _ _ k3⟩
     .obtain rfl:j=k:=ap;exact ⟨A1,c1,by rw [Qx ap,dn];simp,cy,bI⟩
    have b6:NB Z w5 S n b c3 (k+1) A3 l (QZ batch) (QZ steps) (.slice I nb J):=⟨dc,cA,_,bO,ad,V,by rw [QM];exact cv,b0⟩;have d5:=aa b6;clear b6 bO ad cy bI cv a0 Y b0 V;go_wp2;go_roundw
    .exact ⟨k+1,ap,Vc,d5.o⟩
    .simp [intOf];omega
   .obtain rfl:E=k:=ap;have C:=(p.block _ ap bd.o).trans b2.o;have Q:=ab.o.size
    have bb:gC (gt w.heap.size wr) S n batch steps l/\w.heap.size<=S:=by
     refine ⟨?_,ap⟩;refine ⟨I,J,Ao,co,vs,?_,?_,Rd.own (fK a3 Q),?_,?_⟩
     .rw [He.o,bz.o,iY ap];exact hS
     .rw [Hr.o,bz.o];exact Rd.own (fK (p.own cd.o cc.o) ap)
     .have:=a3.1;rw [He.o];omega
     .intro j L;rw [He.o] at L;obtain ⟨A',c',k1,k2,k3⟩:=D j L;exact ⟨A',c',k1,k2,Rd.own (fK k3 Q)⟩
    have bV:aq w wr:=ab.o.trans (p.toBelow ab.o.size (λj L=>by have:=d7;have:=bn.o.size;rcases L with h | h<;>omega));obtain ⟨t0,tf⟩:=bx1 C;obtain ⟨b9,d6⟩:=ae bb bV;clear bb bV hS a3 D bA p C;go_wp2;go_ret2;exact ⟨S,rfl,b9.o.1,b9.o.2,d6.o⟩
structure Inp where
 cfg:Cfg
 data:Rl
 start:Q_
 draws:Q_
def ny (n b st:Nat):Nat:=epN n b st*(n-1)
theorem Om (n b st:Nat):epN n b st<=st:=gj _ _
theorem zX {b:Nat} (hn:n<=1048576) (hs:st<=1048576):ny n b st<=1099511627776:=by
 have h1:=Om n b st;have h:epN n b st*(n-1)<=1048576*1048576:=Nat.mul_le_mul ap ap;unfold ny;omega
def inN (i:Inp):Nat:=szN i.cfg.sizes 0
def yh (i:Inp):Nat:=szN i.cfg.sizes (i.cfg.sizes.length-1)
def cnt (i:Inp):Nat:=bT i.cfg.sizes (i.cfg.sizes.length-1)
def nK (i:Inp):Bool:=decide (i.cfg.batch<=i.data.length/\i.data.length<=1048576)
def Og (i:Inp):Bool:=decide (∀x∈i.data,fC (inN i) (yh i) x)
def mz (i:Inp):Bool:=Og i&&decide (i.start.length=cnt i)
def rD (i:Inp):Bool:=decide (ny i.data.length i.cfg.batch.toNat i.cfg.steps.toNat<=i.draws.length)
noncomputable def ez (i:Inp):Int:=if cK i.cfg≠0 then cK i.cfg else if nK i=false then 7 else if mz i=false then 5 else if rD i=false then 8 else 0
theorem Ob {i:Inp} (h:cK i.cfg≠0):ez i=cK i.cfg:=by unfold ez;rw [if_pos h]
theorem Od {i:Inp} (o:cK i.cfg=0) (h:nK i=false):ez i=7:=by unfold ez;rw [if_neg (by simp [o]),if_pos h]
theorem Oe {i:Inp} (o:cK i.cfg=0) (h1:nK i=true) (h:mz i=false):ez i=5:=by unfold ez;rw [if_neg (by simp [o]),if_neg (by simp [h1]),if_pos h]
theorem Oc {i:Inp} (p:cK i.cfg=0) (h1:nK i=true) (o:mz i=true) (h:rD i=false):ez i=8:=by unfold ez;rw [if_neg (by simp [p]),if_neg (by simp [h1]),if_neg (by simp [o]),if_pos h]
theorem Of {i:Inp} (p:cK i.cfg=0) (h1:nK i=true) (o:mz i=true) (h:rD i=true):ez i=0:=by unfold ez;rw [if_neg (by simp [p]),if_neg (by simp [h1]),if_neg (by simp [o]),if_neg (by simp [h])]
structure iX (i:Inp):Prop where
 c:jL i.cfg
 b:i.cfg.batch<=i.data.length/\i.data.length<=1048576
 f:∀x∈i.data,fC (inN i) (yh i) x
 s:i.start.length=cnt i
 d:ny i.data.length i.cfg.batch.toNat i.cfg.steps.toNat<=i.draws.length
theorem oE {i:Inp}:ez i=0↔iX i:=by
 constructor
 .intro h;by_cases o:cK i.cfg=0
  .cases h1:nK i with
   | false=>rw [Od o h1] at h;omega
   | true=>
    cases h2:mz i with
    | false=>rw [Oe o h1 h2] at h;omega
    | true=>
     cases h3:rD i with
     | false=>rw [Oc o h1 h2 h3] at h;omega
     | true=>
      simp only [mz,Bool.and_eq_true] at h2;exact ⟨iI.1 o,of_decide_eq_true h1,of_decide_eq_true h2.1,of_decide_eq_true h2.2,of_decide_eq_true h3⟩
  .rw [Ob o] at h;exact absurd h o
 .intro h;refine Of (iI.2 h.c) (QS h.b) ?_ (QS h.d);simp only [mz,Bool.and_eq_true];exact ⟨QS h.f,QS h.s⟩
theorem lT (n:Int) (w:R8):Vj 111 #[QZ n] w λe h=>Vi e (.bool (okB n))/\w=h:=by
 by_cases h1:n<1
 .go_enter func111,ntmps111;go_wp2;go_ret;exact ⟨dC (by unfold okB;simp;omega),rfl⟩
 .by_cases i:1048576<n
  .go_enter func111,ntmps111;go_wp2;go_ret;exact ⟨dC (by unfold okB;simp;omega),rfl⟩
  .go_enter func111,ntmps111;go_wp2;go_ret;exact ⟨dC (by unfold okB;simp;omega),rfl⟩
def Pm (sz:Q_) (w:R8) (e:Ending) (h:R8):Prop:=aq w h/\((dX sz/\∃b,e=.returned (.tuple #[(au b),QZ 0])/\cT 212 h b sz/\w.heap.size<=b)\/(¬dX sz/\e=.returned (.tuple #[.pointer none,QZ (ff sz)])))
def Ox (sz:Q_) (w:R8) (e:Ending) (h:R8):Prop:=aq w h/\((dX sz/\∃b,e=.returned (.tuple #[(au b),QZ 0])/\cT 212 (gt w.heap.size h) b sz/\w.heap.size<=b)\/(¬dX sz/\e=.returned (.tuple #[.pointer none,QZ (ff sz)])))
theorem tB (A:N_) (sz:Q_) (c:Nat) (w:R8) (hA:Rd w A (aA .i64 sz)) (hc:sz.length<=c) (hm:c<=9223372036854775807):Vj 77 #[.slice A sz.length c] w (Ox sz w):=by
 by_cases h1:2<=sz.length/\sz.length<=16
 .by_cases i:∀k,k<sz.length->1<=nth sz k/\nth sz k<=1048576
  .refine (yV A sz c w hA hc hm ⟨h1,i⟩).mono λe o ⟨hb,h⟩=>⟨hb,?_⟩;rcases h with ⟨h,he⟩ | ⟨h,b,he,hs,p⟩
   .have hg:¬dX sz:=λhg=>by have:=hg.2;omega
    exact .inr ⟨hg,by rw [nc hg ⟨h1,i⟩];exact he⟩
   .exact .inl ⟨⟨⟨h1,i⟩,h⟩,b,he,hs,p⟩
  .refine (BJ A sz c w hA hc hm h1 i).mono λe o ⟨he,hw⟩=>?_;subst hw;exact ⟨PY _ _,.inr ⟨λhg=>i hg.1.2,by rw [iv (λhr=>i hr.2)];exact he⟩⟩
 .refine (BK A sz c w hc hm h1).mono λe o ⟨he,hw⟩=>?_;subst hw;exact ⟨PY _ _,.inr ⟨λhg=>h1 hg.1.1,by rw [iv (λhr=>h1 hr.1)];exact he⟩⟩
theorem vX (A:N_) (sz:Q_) (c:Nat) (w:R8) (hA:Rd w A (aA .i64 sz)) (hc:sz.length<=c) (hm:c<=9223372036854775807):Vj 77 #[.slice A sz.length c] w (Pm sz w):=by
 refine (tB A sz c w hA hc hm).mono ?_;rintro e o ⟨hb,⟨hg,b,he,hs,i⟩ | h⟩
 .exact ⟨hb,.inl ⟨hg,b,he,nU hs (Agr.refl _ _),i⟩⟩
 .exact ⟨hb,.inr h⟩
abbrev dF (A:N_) (c:Nat) (k:Cfg):R6:=#[.slice A k.sizes.length c,QZ k.shift,QZ k.rate,QZ k.mom,QZ k.workers,QZ k.batch,QZ k.micros,QZ k.steps,QZ k.bucket,QZ k.chunk,QZ k.window,QZ k.cap]
structure lD (w:R8) (A:N_) (c:Nat) (k:Cfg):Prop where
 hc:k.sizes.length<=c
 hm:c<=9223372036854775807
 hl:k.sizes.length<=17592186043904
 hr:Rd w A (aA .i64 k.sizes)
theorem lD.below {i:R8} {k:Cfg} (h:lD w A c k) (hb:aq w i):lD i A c k:=⟨h.hc,h.hm,h.hl,h.hr.below hb⟩
theorem rE (A:N_) (c:Nat) (k:Cfg) (w:R8) (h:lD w A c k):Vj 76 #[.agg (dF A c k)] w λe D=>Vi e (QZ (cK k))/\aq w D:=by
 have J:=λD (q:aq w D)=>vX A k.sizes c D (h.hr.below q) h.hc h.hm;have f6:=@Lw k;have f9:=@Lu k;have fs:=@Lt k;have f2:=@Lx k;have f7:=@Lv k;have f0:=@Ly k;unfold wkB shB qF baB tA at *;obtain ⟨B,C⟩:=Vb (cK k);rw [C] at f6 f9 fs f2 f7 f0 |-;clear C h;obtain ⟨sz,sh,ra,mo,H,ba,mi,st,bu,ch,wi,ca⟩:=k;dsimp only [dF] at *;obtain ⟨L,hL⟩:=Vb sz.length;rw [hL] at J |-;obtain ⟨a3,F6,F9,Fs,Y,F7,F0⟩:=aj J f6 f9 fs f2 f7 f0;clear J f6 f9 fs f2 f7 f0 hL;go_enter func76,ntmps76;go_wp2_with fail;have hz:=PW w (.cells #[.slice A L c,QZ sh,QZ ra,QZ mo,QZ H,QZ ba,QZ mi,QZ st,QZ bu,QZ ch,QZ wi,QZ ca] 24);have hB:=(PY _ w).alloc (PV _) (.cells #[.slice A L c,QZ sh,QZ ra,QZ mo,QZ H,QZ ba,QZ mi,QZ st,QZ bu,QZ ch,QZ wi,QZ ca] 24);refine (a3.o _ hB).mono ?_;rintro e w1 ⟨x,hs⟩;have a0:=(x.block _ (PU hz)).trans hz;have u:=aa (hB.trans (x.mono hB.size));obtain ⟨⟨z0,z1,z2,z3,z4,z5,z6,z7,z8,z9,a4,a7⟩,zf⟩:=lL a0;clear hz hB x a0
 -- the sizes' B
 obtain ⟨p,sc,rfl,a1⟩:∃p sc,Vi e (.tuple #[.pointer p,QZ sc])/\ff sz=sc:=by
  rcases hs with ⟨hg,b,rfl,_⟩ | ⟨hg,rfl⟩
  .exact ⟨_,0,rfl,kR hg⟩
  .exact ⟨_,_,rfl,rfl⟩
 have i:=aa a1;clear hs a1;by_cases h1:H<1
 .go_wp2;go_ret;exact ⟨bE (F6.o (by rw [QU];omega)).symm,u.o⟩
 by_cases a6:64<H
 .go_wp2;go_ret;exact ⟨bE (F6.o (by rw [QU];omega)).symm,u.o⟩
 have v:=aa (show decide (1<=H/\H<=64)=true by rw [QV];omega);by_cases h2:sh<1
 .go_wp2;go_ret;exact ⟨bE (F9.o v.o (by rw [QU];omega)).symm,u.o⟩
 by_cases a5:62<sh
 .go_wp2;go_ret;exact ⟨bE (F9.o v.o (by rw [QU];omega)).symm,u.o⟩
 have y:=aa (show decide (1<=sh/\sh<=62)=true by rw [QV];omega);by_cases h3:sc≠0
 .have hq:(sc != 0)=true:=by rw [bne_iff_ne];exact h3
  have H3:=aa h3;clear h3;go_wp2;go_ret;exact ⟨bE (by rw [Fs.o v.o y.o (by rw [i.o];exact H3.o)];exact i.o.symm),u.o⟩
 obtain rfl:sc=0:=ap;clear h3;go_wp2_with fail;refine (lT mi _).mono ?_;rintro e D ⟨rfl,rfl⟩;obtain ⟨b0,Q⟩:∃b,okB mi=b:=⟨_,rfl⟩;have I:=aa Q;rw [Q];clear Q;rcases eD b0 with rfl | rfl
 .go_wp2;go_ret;exact ⟨bE (Y.o v.o y.o i.o (by simp [I.o])).symm,u.o⟩
 go_wp2_with fail;refine (lT bu _).mono ?_;rintro e D ⟨rfl,rfl⟩;obtain ⟨b1,x⟩:∃b,okB bu=b:=⟨_,rfl⟩;have U:=aa x;rw [x];clear x;rcases eD b1 with rfl | rfl
 .go_wp2;go_ret;exact ⟨bE (Y.o v.o y.o i.o (by simp [I.o,U.o])).symm,u.o⟩
 go_wp2_with fail;refine (lT ch _).mono ?_;rintro e D ⟨rfl,rfl⟩;obtain ⟨b2,R⟩:∃b,okB ch=b:=⟨_,rfl⟩;have Z:=aa R;rw [R];clear R;rcases eD b2 with rfl | rfl
 .go_wp2;go_ret;exact ⟨bE (Y.o v.o y.o i.o (by simp [I.o,U.o,Z.o])).symm,u.o⟩
 go_wp2_with fail;refine (lT wi _).mono ?_;rintro e D ⟨rfl,rfl⟩;obtain ⟨b3,V⟩:∃b,okB wi=b:=⟨_,rfl⟩;have O3:=aa V;rw [V];clear V;rcases eD b3 with rfl | rfl
 .go_wp2;go_ret;exact ⟨bE (Y.o v.o y.o i.o (by simp [I.o,U.o,Z.o,O3.o])).symm,u.o⟩
 go_wp2_with fail;refine (lT ca _).mono ?_;rintro e D ⟨rfl,rfl⟩;obtain ⟨b4,T⟩:∃b,okB ca=b:=⟨_,rfl⟩;have O4:=aa T;rw [T];clear T;rcases eD b4 with rfl | rfl
 .go_wp2;go_ret;exact ⟨bE (Y.o v.o y.o i.o (by simp [I.o,U.o,Z.o,O3.o,O4.o])).symm,u.o⟩
 by_cases h4:st=0
 .have hq:(st != 0)=false:=by rw [h4];rfl
  have N:=aa (show (okB mi&&okB bu&&okB ch&&okB wi&&okB ca&&decide (0<=st/\st<=1048576))=true by rw [I.o,U.o,Z.o,O3.o,O4.o];simp;omega);clear h4;by_cases h5:ba<H
  .go_wp2;go_ret;exact ⟨bE (F7.o v.o y.o i.o N.o (by rw [QU];omega)).symm,u.o⟩
  by_cases a2:1048576<ba
  .go_wp2;go_ret;exact ⟨bE (F7.o v.o y.o i.o N.o (by rw [QU];omega)).symm,u.o⟩
  go_wp2;go_ret;exact ⟨bE (F0.o v.o y.o i.o N.o (by rw [QV];omega)).symm,u.o⟩
 .have hq:(st != 0)=true:=by rw [bne_iff_ne];exact h4
  have H4:=aa h4;clear h4;go_wp2_with fail;refine (lT st _).mono ?_;rintro e D ⟨rfl,rfl⟩;obtain ⟨b5,O⟩:∃b,okB st=b:=⟨_,rfl⟩;have O5:=aa O;rw [O];clear O;rcases eD b5 with rfl | rfl
  .go_wp2;go_ret;exact ⟨bE (Y.o v.o y.o i.o (by rw [I.o,U.o,Z.o,O3.o,O4.o];have:=FY O5.o;have:=H4.o;simp;omega)).symm,u.o⟩
  have N:=aa (show (okB mi&&okB bu&&okB ch&&okB wi&&okB ca&&decide (0<=st/\st<=1048576))=true by rw [I.o,U.o,Z.o,O3.o,O4.o];have:=lY O5.o;simp;omega);by_cases h5:ba<H
  .go_wp2;go_ret;exact ⟨bE (F7.o v.o y.o i.o N.o (by rw [QU];omega)).symm,u.o⟩
  by_cases a2:1048576<ba
  .go_wp2;go_ret;exact ⟨bE (F7.o v.o y.o i.o N.o (by rw [QU];omega)).symm,u.o⟩
  go_wp2;go_ret;exact ⟨bE (F0.o v.o y.o i.o N.o (by rw [QV];omega)).symm,u.o⟩
theorem FG (n:Nat) (w:R8) (hn:1<=n) (i:n<=1048576):Vj 118 #[QZ n] w λe h=>Vi e (QZ ((n-1:Nat):Int))/\w=h:=by
 have h1:(0:Int)<=(n:Int)-1:=ap;go_enter func118,ntmps118;go_wp2
 all_goals
  go_ret;exact ⟨bE ap,rfl⟩
theorem C6 (A:N_) (c n:Nat) (k:Cfg) (w:R8) (h:lD w A c k) (hg:jL k) (hn:k.batch<=n/\(n:Int)<=1048576):Vj 117 #[.agg (dF A c k),QZ n] w λe D=>Vi e (QZ (epN n k.batch.toNat k.steps.toNat:Int))/\aq w D:=by
 have x:=λD (q:aq w D)=>rE A c k D (h.below q);rw [iI.2 hg] at x;have g1:=hg.w;have g2:=hg.ba;have g3:=hg.st;clear h hg;obtain ⟨sz,sh,ra,O,R,ba,mi,st,bu,ch,wi,ca⟩:=k;dsimp only [dF] at *;obtain ⟨bt,rfl⟩:∃bt:Nat,ba=bt:=⟨ba.toNat,ap⟩;obtain ⟨sn,rfl⟩:∃sn:Nat,st=sn:=⟨st.toNat,ap⟩;rw [Int.toNat_natCast,Int.toNat_natCast];obtain ⟨L,T⟩:=Vb sz.length;rw [T] at x |-;obtain ⟨i,p⟩:=Vb (n/bt);have y:1<=i:=by rw [<-p];exact Nat.div_pos ap ap
 have J:i<=n:=by rw [<-p];exact Nat.div_le_self _ _
 have U:epN n bt sn=(sn+i-1)/i:=by unfold epN;rw [p,sX _ _ y]
 rw [U];have I:(sn+i-1)/i<=sn+i-1:=Nat.div_le_self _ _;obtain ⟨E,v⟩:=Vb ((sn+i-1)/i);rw [v] at I |-;have Y:(n:Int).tdiv (bt:Int)=(i:Int):=by rw [<-p];rfl
 have V:(n:Int)/(bt:Int)=(i:Int):=by rw [<-p];rfl
 have u:(sn:Int)+i-1=((sn+i-1:Nat):Int):=ap;have a5:((sn:Int)+i-1).tdiv (i:Int)=(E:Int):=by rw [u,<-v];rfl
 have Q:((sn:Int)+i-1)/(i:Int)=(E:Int):=by rw [u,<-v];rfl
 have a2:¬(bt=0):=ap;have a4:¬(i=0):=ap;have a1:¬((n:Int)<bt):=ap;have a0:¬((1048576:Int)<n):=ap;have H:=aa x;clear x T p U v u;go_enter func117,ntmps117;go_wp2_with fail;have N:=PW w (.cells #[.slice A L c,QZ sh,QZ ra,QZ O,QZ R,QZ bt,QZ mi,QZ sn,QZ bu,QZ ch,QZ wi,QZ ca] 24);have hB:=(PY _ w).alloc (PV _) (.cells #[.slice A L c,QZ sh,QZ ra,QZ O,QZ R,QZ bt,QZ mi,QZ sn,QZ bu,QZ ch,QZ wi,QZ ca] 24);refine (H.o _ hB).mono ?_;rintro e w1 ⟨rfl,B⟩;have C:=(B.block _ (PU N)).trans N;have HB:=aa (hB.trans (B.mono hB.size));obtain ⟨⟨z0,z1,z2,z3,z4,z5,z6,z7,z8,z9,Z,a3⟩,zf⟩:=lL C;clear N hB B C;go_wp2;go_ret;exact ⟨rfl,HB.o⟩
theorem J1 (A:N_) (c n:Nat) (k:Cfg) (w:R8) (h:lD w A c k) (hg:jL k) (hn:k.batch<=n/\(n:Int)<=1048576):Vj 80 #[.agg (dF A c k),QZ n] w λe v=>Vi e (QZ (ny n k.batch.toNat k.steps.toNat:Int))/\aq w v:=by
 have i:=λv (q:aq w v)=>C6 A c n k v (h.below q) hg hn;have g1:=hg.w;have U:=hg.ba;have Y:=hg.st;have u:=λv=>FG n v ap ap;have p:=zX (n:=n) (b:=k.batch.toNat) (st:=k.steps.toNat) ap ap;unfold ny at p |-;clear h hg;obtain ⟨sz,sh,ra,H,I,ba,mi,st,bu,ch,wi,ca⟩:=k;dsimp only [dF] at *;obtain ⟨L,J⟩:=Vb sz.length;rw [J] at i |-;obtain ⟨E,N⟩:=Vb (epN n ba.toNat st.toNat);obtain ⟨m,hm⟩:=Vb (n-1);rw [N] at i p |-;rw [hm] at u p |-;obtain ⟨y,D⟩:=Vb (E*m);rw [D] at p |-;have O:(E:Int)*(m:Int)=(y:Int):=by rw [<-D];push_cast;rfl
 obtain ⟨B,C⟩:=ae i u;clear i u J N hm D;go_enter func80,ntmps80;go_wp2_with fail;have R:=PW w (.cells #[.slice A L c,QZ sh,QZ ra,QZ H,QZ I,QZ ba,QZ mi,QZ st,QZ bu,QZ ch,QZ wi,QZ ca] 24);have hB:=(PY _ w).alloc (PV _) (.cells #[.slice A L c,QZ sh,QZ ra,QZ H,QZ I,QZ ba,QZ mi,QZ st,QZ bu,QZ ch,QZ wi,QZ ca] 24);refine (B.o _ hB).mono ?_;rintro e T ⟨rfl,x⟩;have Q:=aa (hB.trans (x.mono hB.size));clear R hB x;go_wp2_with fail;refine (C.o _).mono ?_;rintro e V ⟨rfl,rfl⟩;go_wp2;go_ret;exact ⟨rfl,Q.o⟩
abbrev aL (A:N_) (c:Nat) (D:N_) (cd:Nat) (T:N_) (ct:Nat) (R:N_) (cr:Nat) (i:Inp):R6:=
 #[.slice A i.cfg.sizes.length c,QZ i.cfg.shift,QZ i.cfg.rate,QZ i.cfg.mom,QZ i.cfg.workers,QZ i.cfg.batch,QZ i.cfg.micros,QZ i.cfg.steps,QZ i.cfg.bucket,QZ i.cfg.chunk,QZ i.cfg.window,QZ i.cfg.cap,
  .slice D i.data.length cd,.slice T i.start.length ct,.slice R i.draws.length cr]
structure gM (w:R8) (A:N_) (c:Nat) (D:N_) (T:N_) (ct:Nat) (R:N_) (i:Inp):Prop where
 c:lD w A c i.cfg
 d:dx rEx 2 w D i.data
 dl:i.data.length<=1048576
 t:cG w T i.start ct
 tl:i.start.length<=1048576
 r:Rd w R (aA .u64 i.draws)
 rl:i.draws.length<=1048576
 ru:U64 i.draws
 ra: -9223372036854775808<=i.cfg.rate/\i.cfg.rate<=9223372036854775807
 rm: -9223372036854775808<=i.cfg.mom/\i.cfg.mom<=9223372036854775807
theorem gM.below {o:R8} {D T R:N_} {i:Inp} (h:gM w A c D T ct R i) (hb:aq w o):gM o A c D T ct R i:=
 ⟨h.c.below hb,h.d.below dB hb,h.dl,h.t.below hb,h.tl,h.r.below hb,h.rl,h.ru,h.ra,h.rm⟩
theorem xc (A:N_) (c:Nat) (D:N_) (cd:Nat) (T:N_) (ct:Nat) (R:N_) (cr:Nat) (i:Inp) (w:R8) (h:gM w A c D T ct R i):Vj 43 #[.agg (aL A c D cd T ct R cr i)] w λe u=>Vi e (QZ (ez i))/\aq w u:=by
 have ab:=λu (q:aq w u)=>rE A c i.cfg u (h.c.below q);have b8:=λu (q:aq w u)=>vX A i.cfg.sizes c u (h.c.hr.below q) h.c.hc h.c.hm;have aP:=λS u (hS:cT 212 u S i.cfg.sizes)=>le S i.cfg.sizes u hS;have a9:=λa b u (q:aq w u)=>C9 a b cd D i.data u (h.d.below dB q) h.dl;have Y:=λ(hg:jL i.cfg) (hb:i.cfg.batch<=i.data.length/\(i.data.length:Int)<=1048576) u (q:aq w u)=>J1 A c i.data.length i.cfg u (h.c.below q) hg hb;have fc:=@Ob i;have f7:=@Od i;have f5:=@Oe i;have J:=@Oc i;have O:=@Of i;have b5:=@iI i.cfg;have bh:=h.c.hr;have ci:=h.dl;have co:=h.tl;have hrl:=h.rl;unfold rQ at a9;unfold nK at f7 f5 J O;unfold mz Og inN yh cnt at f5 J O;unfold rD at J O;obtain ⟨b2,a7⟩:=Vb (ez i);rw [a7] at fc f7 f5 J O |-;clear a7 h;obtain ⟨⟨sz,sh,ra,mo,wk,ba,mi,st,bu,ch,wi,ca⟩,data,start,draws⟩:=i;dsimp only [aL,dF] at *;obtain ⟨L,hL⟩:=Vb sz.length;obtain ⟨N,hN⟩:=Vb data.length;obtain ⟨M,hM⟩:=Vb start.length;obtain ⟨Q,hQ⟩:=Vb draws.length;obtain ⟨cc,bG⟩:=Vb (cK ⟨sz,sh,ra,mo,wk,ba,mi,st,bu,ch,wi,ca⟩);rw [hL] at ab b8 aP Y f5 J O |-;rw [hN] at a9 Y f7 f5 J O ci |-;rw [hM] at f5 J O co |-;rw [hQ] at J O hrl |-;rw [bG] at ab fc f7 f5 J O b5;obtain ⟨CN,b7⟩:=Vb (bT sz (L-1));rw [b7] at aP f5 J O;obtain ⟨ND,bi⟩:=Vb (ny N ba.toNat st.toNat);rw [bi] at Y J O;obtain ⟨cn,bX,cl,cx,cv,Fc,F7,F5⟩:=ak ab b8 aP a9 Y fc f7 f5;obtain ⟨F8,F0,c9,bn,HL,cM⟩:=ai J O b5 bh hL b7;clear ab b8 aP a9 Y fc f7 f5 J O b5 bh hL hN hM hQ bG b7 bi;go_enter func43,ntmps43;go_wp2_with fail;have hz:=(Qc (w.alloc (.cells #[.slice A L c,QZ sh,QZ ra,QZ mo,QZ wk,QZ ba,QZ mi,QZ st,QZ bu,QZ ch,QZ wi,QZ ca,.slice D N cd,.slice T M ct,.slice R Q cr] 29)) (.cells #[.slice A L c,QZ sh,QZ ra,QZ mo,QZ wk,QZ ba,QZ mi,QZ st,QZ bu,QZ ch,QZ wi,QZ ca] 24) (Ve w) V3).trans (PW w _);have hy:=PW (w.alloc (.cells #[.slice A L c,QZ sh,QZ ra,QZ mo,QZ wk,QZ ba,QZ mi,QZ st,QZ bu,QZ ch,QZ wi,QZ ca,.slice D N cd,.slice T M ct,.slice R Q cr] 29)) (.cells #[.slice A L c,QZ sh,QZ ra,QZ mo,QZ wk,QZ ba,QZ mi,QZ st,QZ bu,QZ ch,QZ wi,QZ ca] 24);rw [show (w.alloc (.cells #[.slice A L c,QZ sh,QZ ra,QZ mo,QZ wk,QZ ba,QZ mi,QZ st,QZ bu,QZ ch,QZ wi,QZ ca,.slice D N cd,.slice T M ct,.slice R Q cr] 29)).heap.size=Ve w+1 by simp] at hy;have hB:aq w ((w.alloc (.cells #[.slice A L c,QZ sh,QZ ra,QZ mo,QZ wk,QZ ba,QZ mi,QZ st,QZ bu,QZ ch,QZ wi,QZ ca,.slice D N cd,.slice T M ct,.slice R Q cr] 29)).alloc (.cells #[.slice A L c,QZ sh,QZ ra,QZ mo,QZ wk,QZ ba,QZ mi,QZ st,QZ bu,QZ ch,QZ wi,QZ ca] 24)):=((PY _ w).alloc (PV _) _).alloc V3 _;obtain ⟨W0,bo⟩:∃W0,W0=(w.alloc (.cells #[.slice A L c,QZ sh,QZ ra,QZ mo,QZ wk,QZ ba,QZ mi,QZ st,QZ bu,QZ ch,QZ wi,QZ ca,.slice D N cd,.slice T M ct,.slice R Q cr] 29)).alloc (.cells #[.slice A L c,QZ sh,QZ ra,QZ mo,QZ wk,QZ ba,QZ mi,QZ st,QZ bu,QZ ch,QZ wi,QZ ca] 24):=⟨_,rfl⟩;rw [<-bo] at hz hy hB |-;clear bo;refine (cn.o _ hB).mono ?_;rintro e w1 ⟨rfl,b0⟩;have aR:=(b0.block _ (PU hz)).trans hz;have a8:=(b0.block _ (PU hy)).trans hy;have HB:=aa (hB.trans (b0.mono hB.size));obtain ⟨⟨z0,z1,z2,z3,z4,z5,z6,z7,z8,z9,Z,a1,U,a0,I⟩,zf⟩:=jB aR;obtain ⟨⟨y0,y1,y2,y3,y4,y5,y6,y7,y8,y9,B,C⟩,yf⟩:=lL a8;have lz:=PU aR;have ly:=PU a8;obtain ⟨HZ,HY⟩:=ae aR a8;clear hz hy hB b0 aR a8;by_cases h3:cc≠0
 .have hq:(cc != 0)=true:=by rw [bne_iff_ne];exact h3
  have H3:=aa h3;clear h3;go_wp2;go_ret;exact ⟨bE (Fc.o H3.o).symm,HB.o⟩
 obtain rfl:cc=0:=ap;clear h3;have hg:=c9.o.1 rfl;have g1:=hg.w;have g2:=hg.ba;have g3:=hg.st;have gz:=hg.z;have HG:=aa hg;dsimp only at g1 g2 g3 gz;clear hg;have bv:=gz.1.1;rw [HL.o] at bv;have s0:=gz.1.at (k:=0) (by have:=HL.o;omega);have s1:=gz.1.at (k:=L-1) (by have:=HL.o;omega);obtain ⟨bz,oz,rfl,p0⟩:=bn.o.num (show 0<sz.length by have:=HL.o;omega);obtain ⟨_,_,e',p1⟩:=bn.o.num (show L-1<sz.length by have:=HL.o;omega);injection e' with e';injection e' with e1 e2 _;subst e1;subst e2
 rw [s0.2.2,Nat.add_zero] at p0;rw [s1.2.2] at p1;obtain ⟨n0,b9⟩:=Vb (szN sz 0);obtain ⟨n1,b6⟩:=Vb (szN sz (L-1));have f5:=F5.o;have J:=F8.o;have O:=F0.o;rw [b9,b6] at f5 J O;rw [b9] at p0 s0;rw [b6] at p1 s1;obtain ⟨F5,F8,F0,cw⟩:=ag f5 J O gz;have bO:bz<(Ve w):=aB p0;obtain ⟨P0,P1⟩:=ae p0 p1;clear f5 J O gz b9 b6 p0 p1 s0 s1;obtain ⟨bt,rfl⟩:∃bt:Nat,ba=bt:=⟨ba.toNat,ap⟩;go_wp2_with fail;refine (bX.o _ HB.o).mono ?_;rintro e w2 ⟨av,hs⟩
 obtain ⟨S,rfl,hS⟩:∃S,Vi e (.tuple #[(au S),QZ 0])/\cT 212 w2 S sz:=by
  rcases hs with ⟨_,S,he,hS,_⟩ | ⟨bV,_⟩
  .exact ⟨S,he,hS⟩
  .exact absurd cw.o bV
 clear hs;have aM:=(av.block _ lz).trans HZ.o;have ao:=(av.block _ ly).trans HY.o;have a6:=aa (HB.o.trans (av.mono HB.o.size));clear z0 z1 z2 z3 z4 z5 z6 z7 z8 z9 Z a1 U a0 I zf y0 y1 y2 y3 y4 y5 y6 y7 y8 y9 B C yf lz ly;obtain ⟨⟨z0,z1,z2,z3,z4,z5,z6,z7,z8,z9,Z,a1,U,a0,I⟩,zf⟩:=jB aM;obtain ⟨⟨y0,y1,y2,y3,y4,y5,y6,y7,y8,y9,B,C⟩,yf⟩:=lL ao;have lz:=PU aM;have ly:=PU ao;obtain ⟨cb,cs,HS⟩:=af aM ao hS;clear av aM ao hS;have p0:=(a6.o.cell (p:=(ar bz oz)) bO).trans P0.o;have p1:=(a6.o.cell (p:=⟨bz,oz+(L-1),none⟩) bO).trans P1.o;have c6:IntKind.i64.wrap ((L:Int)-1)=((L-1:Nat):Int):=by rw [P3 _ ap];omega
 have cP:((L-1:Nat):Int)<L:=ap;have cO:L-1<L:=ap;have cL:0<L:=ap;have cy:(0:Int)<L:=ap;go_wp2_with fail;have v:(λu:R8=>Vh u (Ve w) 12 (.slice D N cd)/\Vh u (Ve w+1) 0 (Vf bz oz L c)/\Vh u bz oz (QZ n0)/\u.cell? ⟨bz,oz+(L-1),none⟩=some (QZ n1)) w2.drew:=⟨U,y0,p0,p1⟩;refine HA.g (λu:R8=>Vh u (Ve w) 12 (.slice D N cd)/\Vh u (Ve w+1) 0 (Vf bz oz L c)/\Vh u bz oz (QZ n0)/\u.cell? ⟨bz,oz+(L-1),none⟩=some (QZ n1)) ?_;refine HA.t ?_ [0,1,2,3,4,5,6,7,8,9,10,11,12,13] v ?_;refine HA.o 14 (λK hK=>?_);go_simp;refine (cx.o n0 n1 _ a6.o.drew).mono ?_;rintro e w3 ⟨a3,d,hd⟩;have bf:=P7 (aw a3 v.1) (P7 (aw a3 v.2.1) (P7 (aw a3 v.2.2.1) (aw a3 v.2.2.2)));have H:aq w2 w3:=(PY (Ve w2) w2).drew.trans a3;have a2:=(H.block _ lz).trans cb.o;have a4:=(H.block _ ly).trans cs.o;have bd:=HS.o.below H;obtain ⟨aG,bI,bl,cf⟩:=ag (a6.o.trans (H.mono a6.o.size)) a2 a4 bd
 obtain ⟨ad,rfl,b4⟩:∃ad,Vi e (.tuple #[QZ d,.bool ad])/\decide (∀x∈data,fC n0 n1 x)=ad:=by
  rcases hd with ⟨ha,rfl⟩ | ⟨ha,rfl⟩
  .exact ⟨true,rfl,QS ha⟩
  .exact ⟨false,rfl,QT ha⟩
 have a5:=aa b4;clear a3 H a2 a4 bd hd b4 v;dsimp only;refine hK.out _ _ bf (λv=>?_);clear hK K bf;refine HA.t ?_ [15,16,17,18,19] v ?_;refine HA.d ?_;clear v z0 z1 z2 z3 z4 z5 z6 z7 z8 z9 Z a1 U a0 I zf y0 y1 y2 y3 y4 y5 y6 y7 y8 y9 B C yf lz ly c6;have a2:=bI.o;have a4:=bl.o;obtain ⟨⟨z0,z1,z2,z3,z4,z5,z6,z7,z8,z9,Z,a1,U,a0,I⟩,zf⟩:=jB a2;obtain ⟨⟨y0,y1,y2,y3,y4,y5,y6,y7,y8,y9,B,C⟩,yf⟩:=lL a4;have lz:=PU a2;have ly:=PU a4;clear a2 a4;by_cases h7:N<bt
 .have hq:(N:Int)<bt:=ap;go_wp2;go_ret;exact ⟨bE (F7.o trivial (by rw [QU];omega)).symm,aG.o⟩
 have d0:¬((N:Int)<bt):=ap;have cA:¬((1048576:Int)<N):=ap;have G1:=aa (show decide ((bt:Int)<=N/\N<=1048576)=true by rw [QV];omega);rcases eD ad with rfl | rfl
 .go_wp2
  go_quiet (fail)
  go_wp2;go_ret;exact ⟨bE (F5.o trivial G1.o (by rw [a5.o];rfl)).symm,Qa aG.o _⟩
 have b1:=λu (q:aq w3 u)=>cl.o S u (cf.o.below q);have b3:=aa b1;clear b1;by_cases h5:M≠CN
 .have hq:((M:Int) != (CN:Int))=true:=by rw [bne_iff_ne];omega
  have H5:=aa h5;clear h5;go_wp2
  go_quiet ((go_at_call 79;refine Calls.quiet_of ((b3.o _ ?_).mono λe u ⟨he,hw⟩=>⟨he,0,hw.symm⟩);exact am))
  go_wp2;go_ret;exact ⟨bE (F5.o trivial G1.o (by rw [a5.o,QT H5.o];rfl)).symm,Qa aG.o _⟩
 have hq:((M:Int) != (CN:Int))=false:=by rw [bne_eq_false_iff_eq];omega
 have G2:=aa (show (decide (∀x∈data,fC n0 n1 x)&&decide (M=CN))=true by rw [a5.o,QS (show M=CN by omega)];rfl);clear h5;go_wp2
 go_quiet ((go_at_call 79;refine Calls.quiet_of ((b3.o _ ?_).mono λe u ⟨he,hw⟩=>⟨he,0,hw.symm⟩);exact am))
 go_wp2_with fail;obtain ⟨V,hV⟩:∃V,V=w3.drewN nq:=⟨_,rfl⟩;have bN:aq w V:=by rw [hV];exact Qa aG.o _
 have be:Vg V (Ve w) #[Vf bz oz L c,QZ sh,QZ ra,QZ mo,QZ wk,QZ bt,QZ mi,QZ st,QZ bu,QZ ch,QZ wi,QZ ca,.slice D N cd,.slice T M ct,.slice R Q cr] 29:=by rw [hV];exact bI.o
 have bM:Vg V (Ve w+1) #[Vf bz oz L c,QZ sh,QZ ra,QZ mo,QZ wk,QZ bt,QZ mi,QZ st,QZ bu,QZ ch,QZ wi,QZ ca] 24:=by rw [hV];exact bl.o
 clear z0 z1 z2 z3 z4 z5 z6 z7 z8 z9 Z a1 U a0 I zf y0 y1 y2 y3 y4 y5 y6 y7 y8 y9 B C yf;rw [<-hV];clear hV;obtain ⟨⟨z0,z1,z2,z3,z4,z5,z6,z7,z8,z9,Z,a1,U,a0,I⟩,zf⟩:=jB be;obtain ⟨⟨y0,y1,y2,y3,y4,y5,y6,y7,y8,y9,B,C⟩,yf⟩:=lL bM;have bb:=aa bN;clear bN be bM;have Y:=cv.o HG.o ap V.drew bb.o.drew;have bs:=aa Y;clear Y;have v:(λu:R8=>Vh u (Ve w) 14 (.slice R Q cr)/\Vh u (Ve w+1) 0 (Vf bz oz L c)/\Vh u (Ve w+1) 1 (QZ sh)/\Vh u (Ve w+1) 2 (QZ ra)/\Vh u (Ve w+1) 3 (QZ mo)/\Vh u (Ve w+1) 4 (QZ wk)/\Vh u (Ve w+1) 5 (QZ bt)/\Vh u (Ve w+1) 6 (QZ mi)/\Vh u (Ve w+1) 7 (QZ st)/\Vh u (Ve w+1) 8 (QZ bu)/\Vh u (Ve w+1) 9 (QZ ch)/\Vh u (Ve w+1) 10 (QZ wi)/\Vh u (Ve w+1) 11 (QZ ca)) V.drew:=⟨I,y0,y1,y2,y3,y4,y5,y6,y7,y8,y9,B,C⟩;refine HA.g (λu:R8=>Vh u (Ve w) 14 (.slice R Q cr)/\Vh u (Ve w+1) 0 (Vf bz oz L c)/\Vh u (Ve w+1) 1 (QZ sh)/\Vh u (Ve w+1) 2 (QZ ra)/\Vh u (Ve w+1) 3 (QZ mo)/\Vh u (Ve w+1) 4 (QZ wk)/\Vh u (Ve w+1) 5 (QZ bt)/\Vh u (Ve w+1) 6 (QZ mi)/\Vh u (Ve w+1) 7 (QZ st)/\Vh u (Ve w+1) 8 (QZ bu)/\Vh u (Ve w+1) 9 (QZ ch)/\Vh u (Ve w+1) 10 (QZ wi)/\Vh u (Ve w+1) 11 (QZ ca)) ?_;refine HA.t ?_ [0,1,2,3,4] v ?_;refine HA.o 5 (λK hK=>?_);go_simp;refine bs.o.mono ?_;rintro e w4 ⟨rfl,y⟩;have bw:=aa (bb.o.trans ((PY (Ve V) V).drew.trans y |>.mono bb.o.size));have bA:=P7 (aw y v.1) (P7 (aw y v.2.1) (P7 (aw y v.2.2.1) (P7 (aw y v.2.2.2.1) (P7 (aw y v.2.2.2.2.1) (P7 (aw y v.2.2.2.2.2.1) (P7 (aw y v.2.2.2.2.2.2.1) (P7 (aw y v.2.2.2.2.2.2.2.1) (P7 (aw y v.2.2.2.2.2.2.2.2.1) (P7 (aw y v.2.2.2.2.2.2.2.2.2.1) (P7 (aw y v.2.2.2.2.2.2.2.2.2.2.1) (P7 (aw y v.2.2.2.2.2.2.2.2.2.2.2.1) (aw y v.2.2.2.2.2.2.2.2.2.2.2.2))))))))))));clear y v;dsimp only;refine hK.out _ _ bA (λv=>?_);clear hK K bA;refine HA.t ?_ [6,7] v ?_;refine HA.d ?_;clear v z0 z1 z2 z3 z4 z5 z6 z7 z8 z9 Z a1 U a0 I zf y0 y1 y2 y3 y4 y5 y6 y7 y8 y9 B C yf;by_cases h8:ND<=Q
 .have c7:¬((Q:Int)<ND):=ap;have cj:decide ((Q:Int)<ND)=false:=by simp;omega
  have c8:decide (Q<ND)=false:=by simp;omega
  have G8:=aa (QS h8);go_wp2;go_ret;exact ⟨bE (F0.o trivial G1.o G2.o G8.o).symm,bw.o⟩
 .have c7:(Q:Int)<ND:=ap;have cj:decide ((Q:Int)<ND)=true:=by simp;omega
  have c8:decide (Q<ND)=true:=by simp;omega
  have G8:=aa (QT h8);go_wp2;go_ret;exact ⟨bE (F8.o trivial G1.o G2.o G8.o).symm,bw.o⟩
section
open Go.Shelf
attribute [local go_sem] Oper.semAt_some
def tv (l:Q_):Int:=l.foldl (λa x=>wrap64 (a+x)) 0
theorem EE (l:Q_) (x:Int):tv (l++[x])=wrap64 (tv l+x):=by simp [tv]
def xI (zs:Q_) {m:Nat} (k:Fin m):R6:=#[QZ (nth zs k.1)]
theorem Mf {zs:Q_} (h:zs.length=m):((List.finRange m).map λk=>nth zs k.1)=zs:=by
 refine gQ (by simp [h]) λk hk=>?_;rw [dN _ _ hk];simp
theorem zN {β:Type} (B b:Nat) (o:List β->Obj) (i:∀p,(o p).isCells=true):OwnFrom B (λ(p:List β) W=>W.heap[b]?=some (o p)):=λp W h row hs hg hr=>gH (β:=List β) B b (o p) (i p) p W h row hs hg hr
theorem It (n l Y n₀ m d:Nat) (A:N_) (zs:Q_) (T:zs.length=m) (hm:m<=1048576) (a7:Y<n₀) (R:∀a,A=some a->a.block<n₀) (J Jx:List (Fin m)->R8->Prop) (hY:∀u x W,J u W->u.length<m->YieldAt Fence.wide (n-1) prog l (xI zs x) W λe I=> (Vi e (.bool true)/\J (u++[x]) I/\jt n₀ Y W I)\/(Vi e (.bool false)/\Jx (u++[x]) I)) (W:R8) (H:Vg W Y #[.slice A m d] 26) (hA:Rd W A (aA .i64 zs)) (h0:J [] W):
  CallsIn Fence.wide n prog 276 #[.func (.yield l) #[] #[],(au Y)] W λe I=>(∃v,Vi e v)/\
   ((∃ys,ys=List.finRange m/\J ys I)\/(∃u,True/\Jx u I)):=by
 obtain ⟨e0,ef⟩:=bx1 H;obtain ⟨a6,HA,Z,a3⟩:=ag H hA T R;clear H hA T R;refine callsIn_of_wp func276 rfl trivial ?_ rfl;simp only [ntmps276,List.size_toArray,List.length_cons,List.length_nil,Nat.reduceAdd,Nat.reduceSub,Array.replicate_succ,Array.replicate_zero,List.push_toArray,List.append_toArray,List.nil_append,List.cons_append]
 gi_wp2
 gi_loopw [7] (λi wr=>∃k:Nat,k<=m/\i=QZ k/\J ((List.finRange m).take k) wr/\Rd wr A (aA .i64 zs))
  (λi _=>m-(intOf i).toNat)
 .exact ⟨0,PZ _,rfl,h0,HA.o⟩
 case round=>
  obtain ⟨k,hk,rfl,y,B⟩:=hrel;clear e0 ef;by_cases D:k<m
  .have U:((List.finRange m).take k).length<m:=by simp;omega
   have a2:=aa B;obtain ⟨b,o,rfl,p⟩:=B.num (show k<zs.length by rw [Z.o];exact D);obtain ⟨fn,tmps,V,a5,hy,hR⟩:=hY _ ⟨k,D⟩ wr y U;unfold xI at hy;dsimp only at hy;clear B y
   gi_wp2
   refine ⟨(λh=>by cases h),?_⟩;refine hR.mono ?_;rintro e w5 (⟨rfl,L,Q⟩ | ⟨rfl,O⟩)
   .have N:=a2.o.belowB Q.1 a3.o;obtain ⟨a0,a4⟩:=ae N L;clear N L Q p
    gi_wp2
    go_roundw
    .exact ⟨k+1,ap,Vc,by rw [Ed D];exact a4.o,a0.o⟩
    .simp [intOf];omega
   .gi_wp2
    refine Qd (results_none rfl _ _ _) rfl ?_;exact ⟨⟨_,rfl⟩,.inr ⟨_,trivial,O⟩⟩
  .obtain rfl:k=m:=ap;have C:(List.finRange k).take k=List.finRange k:=List.take_of_length_le V3;rw [C] at y;have a1:=aa y;clear y C B
   gi_wp2
   go_end0
   exact ⟨⟨_,rfl⟩,.inl ⟨_,rfl,a1.o⟩⟩
theorem Br (n i n₀ m d:Nat) (A:N_) (zs:Q_) (u:zs.length=m) (hm:m<=1048576) (p:i<n₀) (o:∀a,A=some a->a.block<n₀) (w:R8) (h:Vg w i #[.slice A m d] 26) (hA:Rd w A (aA .i64 zs)):
  SeqStopsK Fence.wide n prog 276 #[(au i)] (xI zs (m:=m)) (jt n₀ i) (λys=>ys=List.finRange m) (λ_=>True) m w:=λl J y W v _ _ B x=>
 It n l i n₀ m d A zs u hm p o J y B W ((v.block _ (PU h)).trans h) (hA.below v) x
theorem EA (L m d:Nat) (A:N_) (zs:Q_) (w:R8) (C:Vg w L #[.slice A m d] 26) (hA:Rd w A (aA .i64 zs)) (y:zs.length=m) (hm:m<=1048576) (J:∀a,A=some a->a.block<w.heap.size):Vj 272 #[.func (.func 276) #[] #[(au L)]] w λe w'=>Vi e (QZ (tv zs))/\aq w w':=by
 have N:=PU C;have H:=Br 2 L w.heap.size m d A zs y hm N J (w.alloc (.cells #[QZ 0] 2)) ((Qc w _ _ N).trans C) (hA.alloc _);obtain ⟨V,T⟩:=ae H y;clear H C hA y J;refine (callsIn_wide (n:=3)).1 ?_;refine callsIn_of_wp_marks func272 rfl trivial ?_ rfl;simp only [ntmps272,List.size_toArray,List.length_cons,List.length_nil,Nat.reduceAdd,Nat.reduceSub,Array.replicate_succ,Array.replicate_zero,List.push_toArray,List.append_toArray,List.nil_append,List.cons_append]
 gi_wp2_with fail
 refine' wpIn_rangeFunc_ownG (F:=Fence.wide) (n:=3) rfl ap (gf:=276) (lb:=#[(au L)]) rfl trivial (enters_of func276 V1 rfl)
  V.o mG (mH V3 V6) (PY _ _) (λ_=>rfl)
  (λ(p:List (Fin m)) W=>(Vg W w.heap.size #[QZ (tv (p.map λk=>nth zs k.1))] 2)/\aq w W)
  (λ_ _ _=>False)
  (OwnFrom.and (zN _ _ (λp:List (Fin m)=>.cells #[QZ (tv (p.map λk=>nth zs k.1))] 2 (0,0)) (λ_=>rfl)) (ownFrom_below (PV _) V3))
  (λ_ _ _ _ _ hs _ _=>hs)
  ⟨PW w _,(PY _ w).alloc (PV _) _⟩
  _ ?assign ?body ?done ?stop
 case assign=>
  intro l x W K Q;unfold xI
  gi_wp2
  exact Q
 case body=>
  rintro l p x W ⟨u,i⟩ U;obtain ⟨R,v⟩:∃R,tv (p.map λk=>nth zs k.1)=R:=⟨_,rfl⟩;obtain ⟨O,B⟩:=Vb (nth zs x.1);rw [v] at u;obtain ⟨p0,pf⟩:=bx1 u;have a0:=PU u;obtain ⟨HS,HB,Z,Y⟩:=ag u i v B;clear u i U v;simp only [B];clear B
  gi_wp2_with fail
  have hk:Keep (λj=>j=w.heap.size) W (W.setCell (ar w.heap.size 0) (QZ (wrap64 (R+O)))):=Vk w.heap.size (Keep.refl _ _) (ar w.heap.size 0) (.inr rfl) _;have hb:Below w.heap.size W (W.setCell (ar w.heap.size 0) (QZ (wrap64 (R+O)))):=hk.toBelow HB.o.size (λj hj=>ap);refine ⟨(no hk (λk o hs I=>by rw [hs,HS.o] at I;injection I with e;subst e;rfl)).from _,⟨hb,λh=>hk.block L h ap⟩,?_,HB.o.trans hb⟩;rw [List.map_append,List.map_cons,List.map_nil,EE,Z.o,Y.o];exact QX W w.heap.size 0 _ _ _ HS.o
 case done=>
  rintro D ys W hD rfl ⟨u,i⟩ Q;rw [Mf T.o] at u;obtain ⟨p0,pf⟩:=bx1 u
  gi_wp2
  refine ⟨by simp,.inl ⟨_,_,rfl,run_takeDeferred Q,?_⟩⟩;exact ⟨QZ (tv zs),by simp [results,results272,go_sem],rfl,i.trans (belowK_b (w:=w) (PV _) W D _ _ (by simp at hD;omega) Q rfl rfl)⟩
 case stop=>
  rintro D c p W _ _ h _;exact h.elim
theorem Is (A:N_) (m d:Nat) (w:R8):Vj 273 #[.slice A m d] w λe h=>Vi e (.func (.func 276) #[] #[(au (Ve w))])/\h=w.alloc (.cells #[.slice A m d] 26):=by
 go_enter func273,ntmps273;go_wp2;go_ret;exact ⟨rfl,rfl⟩
theorem KQ (A:N_) (m d:Nat) (zs:Q_) (w:R8) (hA:Rd w A (aA .i64 zs)) (i:zs.length=m) (hm:m<=1048576) (h:∀a,A=some a->a.block<w.heap.size):Vj 262 #[.slice A m d] w λe u=>Vi e (QZ (tv zs))/\aq w u:=by
 have p:=EA (Ve w) m d A zs (w.alloc (.cells #[.slice A m d] 26)) (PW w _) (hA.alloc _) i hm (λa v=>by have:=h a v;simp;omega);have x:=aa p;clear p hA i h;go_enter func262,ntmps262;go_wp2_with fail;refine (Is A m d w).mono ?_;rintro e B ⟨rfl,rfl⟩;go_wp2_with fail;refine x.o.mono ?_;rintro e C ⟨rfl,hb⟩;have y:=aa (((PY _ w).alloc (PV _) _).trans (hb.mono V3));clear hb;go_wp2;go_ret;exact ⟨rfl,y.o⟩
end
theorem IJ (a b:Int):tv [a,b]=wrap64 (a+b):=by
 show wrap64 (wrap64 (0+a)+b)=wrap64 (a+b)
 unfold wrap64;omega
def eE (h q m g:Int):Int:=wrap64 (fJ h m q+g)
def kU (ra q p m:Int):Int:=wrap64 (p-fJ ra m q)
def apM (h q:Int) (ms g:Q_) (lo k:Nat):Q_:=dU ms.length λj=>if lo<=j/\j<lo+k then eE h q (nth ms j) (nth g (j-lo)) else nth ms j
def apP (ra h q:Int) (ps ms g:Q_) (lo k:Nat):Q_:=dU ps.length λj=>if lo<=j/\j<lo+k then kU ra q (nth ps j) (eE h q (nth ms j) (nth g (j-lo))) else nth ps j
theorem Bg (h q:Int) (ms g:Q_) (lo:Nat):apM h q ms g lo 0=ms:=(fN rfl λk _=>by rw [if_neg ap]).symm
theorem Bf (ra h q:Int) (ps ms g:Q_) (lo:Nat):apP ra h q ps ms g lo 0=ps:=(fN rfl λk _=>by rw [if_neg ap]).symm
theorem oQ (h q:Int) (ms g:Q_) (lo k:Nat):(apM h q ms g lo k).length=ms.length:=cD _ _
theorem oN (ra h q:Int) (ps ms g:Q_) (lo k:Nat):(apP ra h q ps ms g lo k).length=ps.length:=cD _ _
theorem Ov (i q:Int) (ms g:Q_) (lo k:Nat) (h:lo+k<ms.length):nth (apM i q ms g lo k) (lo+k)=nth ms (lo+k):=by
 unfold apM;rw [bJ _ h,if_neg ap]
theorem Ou (ra i q:Int) (ps ms g:Q_) (lo k:Nat) (h:lo+k<ps.length):nth (apP ra i q ps ms g lo k) (lo+k)=nth ps (lo+k):=by
 unfold apP;rw [bJ _ h,if_neg ap]
theorem Eo (i q:Int) (ms g:Q_) (lo k:Nat) (h:lo+k<ms.length):(apM i q ms g lo k).set (lo+k) (eE i q (nth ms (lo+k)) (nth g k))=apM i q ms g lo (k+1):=by
 refine gQ (by simp [oQ]) λj o=>?_;rw [List.length_set,oQ] at o;rw [jc,oQ];unfold apM;rw [bJ _ o,bJ _ o];by_cases h1:j=lo+k
 .subst h1;rw [if_pos ⟨rfl,h⟩,if_pos ap,show lo+k-lo=k by omega]
 .rw [if_neg ap];by_cases p:lo<=j/\j<lo+k
  .rw [if_pos p,if_pos ap]
  .rw [if_neg p,if_neg ap]
theorem Em (ra i q:Int) (ps ms g:Q_) (lo k:Nat) (h:lo+k<ps.length):(apP ra i q ps ms g lo k).set (lo+k) (kU ra q (nth ps (lo+k)) (eE i q (nth ms (lo+k)) (nth g k)))=apP ra i q ps ms g lo (k+1):=by
 refine gQ (by simp [oN]) λj o=>?_;rw [List.length_set,oN] at o;rw [jc,oN];unfold apP;rw [bJ _ o,bJ _ o];by_cases h1:j=lo+k
 .subst h1;rw [if_pos ⟨rfl,h⟩,if_pos ap,show lo+k-lo=k by omega]
 .rw [if_neg ap];by_cases p:lo<=j/\j<lo+k
  .rw [if_pos p,if_pos ap]
  .rw [if_neg p,if_neg ap]
theorem yH {i q:Int} {g:Q_} {lo:Nat} (h:W64 ms):W64 (apM i q ms g lo k):=eZ λj o=>by
 split
 .exact fD _
 .exact h j o
def nv (h q:Int) (ms g:Q_):Q_:=dU ms.length λj=>eE h q (nth ms j) (nth g j)
def nu (ra h q:Int) (ps ms g:Q_):Q_:=dU ps.length λj=>kU ra q (nth ps j) (eE h q (nth ms j) (nth g j))
theorem Nj (h q:Int) (ms g:Q_):apM h q ms g 0 ms.length=nv h q ms g:=fv λk hk=>by rw [if_pos ap,Nat.sub_zero]
theorem Ni (ra h q:Int) (ps ms g:Q_):apP ra h q ps ms g 0 ps.length=nu ra h q ps ms g:=fv λk hk=>by rw [if_pos ap,Nat.sub_zero]
theorem Gd (h q:Int) (ms g:Q_):(nv h q ms g).length=ms.length:=cD _ _
theorem F4 (ra h q:Int) (ps ms g:Q_):(nu ra h q ps ms g).length=ps.length:=cD _ _
theorem Ge (h q:Int) (ms g:Q_):W64 (nv h q ms g):=eZ λ_ _=>fD _
theorem Gc (ra h q:Int) (ps ms g:Q_):W64 (nu ra h q ps ms g):=eZ λ_ _=>fD _
theorem Fb (lo i:Nat) (w:R8) (h:lo<=i) (x:i<=17592186043904):Vj 175 #[.agg #[QZ lo,QZ i]] w λe v=>Vi e (QZ ((i-lo:Nat):Int))/\aq w v:=by
 have h1:(0:Int)<=(i:Int)-lo:=ap;have p:max ((i:Int)-lo) 0=((i-lo:Nat):Int):=ap;have u:=aa p;clear p;go_enter func175,ntmps175;go_wp2
 all_goals
  go_ret;exact ⟨bE (by have:=u.o;omega),(PY _ w).alloc (PV _) _⟩
theorem Bs (ra I q g:Int) (base n i y cp x cm:Nat) (ps ms:Q_) (w:R8) (hp:w.ownsRow base 2 1 (Vf y 0 n cp) n (aA .i64 ps)) (hm:w.ownsRow base 2 1 (Vf x 0 n cm) n (aA .i64 ms)) (b8:y≠x) (hi:i<n) (wr: -9223372036854775808<=ra/\ra<=9223372036854775807) (wo: -9223372036854775808<=I/\I<=9223372036854775807) (wm:W64 ms):Vj 253 #[.agg #[QZ ra,QZ I,QZ q],.pointer (some (ar y i)),.pointer (some (ar x i)),QZ g] w λe u=>Vi e (.tuple #[])/\
   u.ownsRow base 2 1 (Vf y 0 n cp) n (aA .i64 (ps.set i (kU ra q (nth ps i) (eE I q (nth ms i) g))))/\u.ownsRow base 2 1 (Vf x 0 n cm) n (aA .i64 (ms.set i (eE I q (nth ms i) g)))/\Keep (λj=>j=y\/j=x) w u:=by
 have a8:=ln hm;have p1:=cS hp hi;have p2:=cS hm hi;have f1:=hp.frozenAt i;have f2:=hm.frozenAt i;have l1:=(hp.lt y rfl).2;have l2:=(hm.lt x rfl).2;have Z:=λu=>uK I (nth ms i) q u wo (wm i ap);have R:=λm' u (h: -9223372036854775808<=m'/\m'<=9223372036854775807)=>uK ra m' q u wr h;obtain ⟨m0,b1⟩:=Vb (nth ms i);obtain ⟨p0,aG⟩:=Vb (nth ps i);rw [b1] at p2 Z |-;rw [aG] at p1 |-;obtain ⟨m1,B⟩:=Vb (eE I q m0 g);have b5: -9223372036854775808<=m1/\m1<=9223372036854775807:=by rw [<-B];exact fD _
 obtain ⟨mu,N⟩:=Vb (fJ I m0 q);have aR:tv [mu,g]=m1:=by rw [IJ,<-B,<-N];rfl
 rw [B];rw [N] at Z;have R:=λu=>R m1 u b5;obtain ⟨pu,L⟩:=Vb (fJ ra m1 q);rw [L] at R;obtain ⟨p9,a9⟩:=Vb (kU ra q p0 m1);have a1:wrap64 (p0-pu)=p9:=by rw [<-a9,<-L];rfl
 rw [a9];have ab:=λu=>DA p0 pu u;rw [a1] at ab;have a7:=λA u (hA:Rd u A (aA .i64 [mu,g])) ha=>KQ A 2 2 [mu,g] u hA rfl ap ha;rw [aR] at a7;obtain ⟨bh,bl,bo,bi,HP,HM,bb,b2⟩:=ak Z R ab a7 hp hm aG b8;clear Z R ab a7 hp hm b1 aG B N aR L a9 a1 wr wo wm a8 b5;go_enter func253,ntmps253;go_wp2_with fail;have hz:=PW w (.cells #[QZ ra,QZ I,QZ q] 172);have D:aq w (w.alloc (.cells #[QZ ra,QZ I,QZ q] 172)):=(PY _ w).alloc (PV _) _;obtain ⟨W0,b3⟩:∃W0,W0=w.alloc (.cells #[QZ ra,QZ I,QZ q] 172):=⟨_,rfl⟩;rw [<-b3] at hz D |-;clear b3;have q1:=aw D p1;have q2:=aw D p2;obtain ⟨⟨y0,y1,y2⟩,yf⟩:=bx3 hz;have a0:=az HP.o D;have a4:=az HM.o D;have b9:=PU hz;obtain ⟨HZ,bs,bd,bz⟩:=ag hz D a0 a4;clear hz D a0 a4 p1 p2 f1 f2;have p:(λu:R8=>Vh u w.heap.size 1 (QZ I)/\Vh u w.heap.size 2 (QZ q)/\Vh u x i (QZ m0)) W0.drew:=⟨y1,y2,q2⟩;refine XA.g 12 (λu:R8=>Vh u w.heap.size 1 (QZ I)/\Vh u w.heap.size 2 (QZ q)/\Vh u x i (QZ m0)) ?_;refine XA.t ?_ [0,1,2,3,4,5,6,7,9] p ?_;refine XA.o 8 (λK H=>?_);go_simp;refine (bh.o _).mono ?_;rintro e w1 ⟨rfl,v⟩;have b0:=P7 (aw v p.1) (P7 (aw v p.2.1) (aw v p.2.2));have ad:=aa ((PY W0.heap.size W0).drew.trans v);clear v p;dsimp only;refine H.out _ _ b0 (λp=>?_);clear H K b0;refine XA.o 10 (λK H=>?_);go_simp;refine H.out _ _ ⟨aJ p.1 _,aJ p.2.1 _,aJ p.2.2 _⟩ (λp=>?_);clear H K;refine XA.o 11 (λK H=>?_);go_simp;refine (bi.o _ _ ?_ ?_).mono ?_
 .exact dW _ [QZ mu,QZ g] 2 _ V3
 .intro a ha;injection ha with ha;subst ha;simp
 rintro e w2 ⟨rfl,v⟩;have av:=P7 (aw v p.1) (P7 (aw v p.2.1) (aw v p.2.2));have C:aq W0 w2:=(ad.o.alloc ad.o.size _).trans (v.mono (by have:=ad.o.size;simp;omega));have ao:=az bd.o C;have B:=az bz.o C;have bf:=aw C q1;have g1:=B.frozenAt i;have g2:=ao.frozenAt i;have b7:=(C.block _ b9).trans HZ.o;have bX:=C.size;obtain ⟨bI,bN,b4,bM⟩:=ag ao B C b7;clear ao B C v b7 p y0 y1 y2 yf q1 q2;dsimp only;refine H.out _ _ av (λp=>?_);clear H K;have q3:=av.2.2;refine XA.e ?_;clear p av;simp only [Qq,Qs];go_wp2_with fail;have Q:Keep (λj=>j=x) w2 (w2.setCell (ar x i) (QZ m1)):=Vk x (Keep.refl _ _) (ar x i) (.inr rfl) _;have U:=eC bN.o i m1
 have a2:∀j,(Vf y 0 n cp).ownBlock=some j->¬j=x:=λj hj e=>by
  have h1:y=j:=by simpa [Value.ownBlock] using hj
  exact b2.o ap
 have a3:∀j,(Vf x 0 n cm).ownBlock=some j->¬j=y:=λj hj e=>by
  have h1:x=j:=by simpa [Value.ownBlock] using hj
  exact b2.o ap
 have Y:=Q.own bI.o a2;have aM:=aa a3;clear a2 a3;have O:=(Q.block _ (by have:=b4.o.size;omega) ap).trans bM.o;obtain ⟨V,hV⟩:∃V,V=w2.setCell (ar x i) (QZ m1):=⟨_,rfl⟩;rw [<-hV] at Q U Y O |-;clear hV bf q3 g1 g2;have r1:=cS Y hi;have r2:=cS U hi;have a8:=ln HM.o;rw [jc,if_pos ⟨rfl,ap⟩] at r2;rw [bb.o] at r1;obtain ⟨⟨y0,y1,y2⟩,yf⟩:=bx3 O;have bO:=PU O;obtain ⟨bw,bA,be,bV⟩:=ag Q U Y O;clear Q U Y O a8;have p:(λu:R8=>Vh u w.heap.size 0 (QZ ra)/\Vh u w.heap.size 2 (QZ q)/\Vh u y i (QZ p0)/\Vh u x i (QZ m1)) V.drew:=⟨y0,y2,r1,r2⟩;refine XA.g 13 (λu:R8=>Vh u w.heap.size 0 (QZ ra)/\Vh u w.heap.size 2 (QZ q)/\Vh u y i (QZ p0)/\Vh u x i (QZ m1)) ?_;refine XA.t ?_ [0,1,2,3,4,5,6,7,8,9,10] p ?_;refine XA.o 11 (λK H=>?_);go_simp;refine (bl.o _).mono ?_;rintro e w3 ⟨rfl,J⟩;have a6:=P7 (aw J p.1) (P7 (aw J p.2.1) (P7 (aw J p.2.2.1) (aw J p.2.2.2)));have T:aq V w3:=(PY V.heap.size V).drew.trans J;have a5:=az be.o T;have b6:=az bA.o T;have g2:=a5.frozenAt i;have q3:=a6.2.2.1;obtain ⟨bv,bn,bG⟩:=af T a5 b6;clear J T a5 b6 p;dsimp only;refine H.out _ _ a6 (λp=>?_);clear H K a6;refine XA.o 12 (λK H=>?_);go_simp;refine (bo.o _).mono ?_;rintro e w4 ⟨rfl,rfl⟩;dsimp only;refine H.out _ _ p (λp=>?_);clear H K;refine XA.e ?_;clear p y0 y1 y2 yf r1 r2;simp only [Qq,Qs];go_wp2
 go_end0
 have aP:Keep (λj=>j=y) w3 (w3.setCell (ar y i) (QZ p9)):=Vk y (Keep.refl _ _) (ar y i) (.inr rfl) _;refine ⟨rfl,eC bn.o i p9,aP.own bG.o aM.o,?_⟩;have k1:Keep (λj=>j=y\/j=x) w W0:=Keep.below bs.o;have k2:Keep (λj=>j=y\/j=x) W0 w2:=Keep.below b4.o;have k3:Keep (λj=>j=y\/j=x) w2 V:=bw.o.mono (λ_ _ h=>.inr h);have k4:Keep (λj=>j=y\/j=x) V w3:=Keep.below bv.o;exact (((k1.trans k2).trans k3).trans k4).trans (aP.mono (λ_ _ h=>.inl h))
theorem xu (ra p q:Int) (base n lo m c1 c2 cg:Nat) (A B G:N_) (ps ms g:Q_) (w:R8) (hp:w.ownsRow base 2 1 (.slice A n c1) n (aA .i64 ps)) (hm:w.ownsRow base 2 1 (.slice B n c2) n (aA .i64 ms)) (ad:∀i,(Value.slice A n c1).ownBlock=some i->(Value.slice B n c2).ownBlock≠some i) (hG:Rd w G (aA .i64 g)) (b1:g.length=m) (cr:lo+m<=n) (hn:n<=1048576) (ab:∀a,G=some a->(Value.slice A n c1).ownBlock≠some a.block) (b3:∀a,G=some a->(Value.slice B n c2).ownBlock≠some a.block) (wr: -9223372036854775808<=ra/\ra<=9223372036854775807) (wo: -9223372036854775808<=p/\p<=9223372036854775807) (wm:W64 ms):Vj 237 #[.agg #[QZ ra,QZ p,QZ q],.agg #[.slice A n c1,.slice B n c2],.agg #[QZ lo,QZ ((lo+m:Nat):Int)],.slice G m cg] w λe v=>Vi e (.bool true)/\
   v.ownsRow base 2 1 (.slice A n c1) n (aA .i64 (apP ra p q ps ms g lo m))/\v.ownsRow base 2 1 (.slice B n c2) n (aA .i64 (apM p q ms g lo m))/\Keep (λj=>(Value.slice A n c1).ownBlock=some j\/(Value.slice B n c2).ownBlock=some j) w v:=by
 have bd:=ln hp;have b9:=ln hm;have Z:=λv=>Fb lo (lo+m) v ap ap;rw [Nat.add_sub_cancel_left] at Z;obtain ⟨H,b5⟩:=Vb (lo+m);rw [b5] at Z |-;have cn:lo<=H:=ap;have cL:H<=n:=ap;have cM:((n:Int) != (n:Int))=false:=by simp
 have cy:((m:Int) != (m:Int))=false:=by simp
 have cs:¬((n:Int)<(H:Int)):=ap;have cv:¬((H:Int)<lo):=ap;have a3:=hp.lt;have a5:=hm.lt;obtain ⟨av,HP,HM,bV,HG,bI,bf,ao⟩:=ak Z hp hm ad hG b1 ab b3;obtain ⟨aR,b6,Wr,Wo,Wm,a0,a1⟩:=aj bd b9 wr wo wm a3 a5;clear Z hp hm ad hG b1 ab b3 bd b9 wr wo wm a3 a5 b5;go_enter func237,ntmps237;go_wp2_with fail;have a6:(((w.alloc (.cells #[QZ ra,QZ p,QZ q] 172)).alloc (.cells #[.slice A n c1,.slice B n c2] 141)).alloc (.cells #[QZ lo,QZ H] 148)).heap.size=w.heap.size+3:=by simp
 have a8:aq w (((w.alloc (.cells #[QZ ra,QZ p,QZ q] 172)).alloc (.cells #[.slice A n c1,.slice B n c2] 141)).alloc (.cells #[QZ lo,QZ H] 148)):=(((PY _ w).alloc (PV _) _).alloc V3 _).alloc V6 _;have a7:=(Qc ((w.alloc (.cells #[QZ ra,QZ p,QZ q] 172)).alloc (.cells #[.slice A n c1,.slice B n c2] 141)) (.cells #[QZ lo,QZ H] 148) w.heap.size V6).trans ((Qc (w.alloc (.cells #[QZ ra,QZ p,QZ q] 172)) (.cells #[.slice A n c1,.slice B n c2] 141) w.heap.size V3).trans (PW w _));have D:=PW (w.alloc (.cells #[QZ ra,QZ p,QZ q] 172)) (.cells #[.slice A n c1,.slice B n c2] 141);rw [show (w.alloc (.cells #[QZ ra,QZ p,QZ q] 172)).heap.size=w.heap.size+1 by simp] at D;have D:=(Qc ((w.alloc (.cells #[QZ ra,QZ p,QZ q] 172)).alloc (.cells #[.slice A n c1,.slice B n c2] 141)) (.cells #[QZ lo,QZ H] 148) (w.heap.size+1) V3).trans D;have T:=PW ((w.alloc (.cells #[QZ ra,QZ p,QZ q] 172)).alloc (.cells #[.slice A n c1,.slice B n c2] 141)) (.cells #[QZ lo,QZ H] 148);rw [show ((w.alloc (.cells #[QZ ra,QZ p,QZ q] 172)).alloc (.cells #[.slice A n c1,.slice B n c2] 141)).heap.size=w.heap.size+1+1 by simp] at T;obtain ⟨W0,bi⟩:∃W0,W0=((w.alloc (.cells #[QZ ra,QZ p,QZ q] 172)).alloc (.cells #[.slice A n c1,.slice B n c2] 141)).alloc (.cells #[QZ lo,QZ H] 148):=⟨_,rfl⟩;rw [<-bi] at a6 a8 a7 D T |-;obtain ⟨co,L,aG,b0,V⟩:=ah a6 a8 a7 D T;clear a6 a8 a7 D T bi;refine (av.o _).mono ?_;rintro e w1 ⟨rfl,k1⟩;have y:=(k1.block _ (PU V.o)).trans V.o;have c7:=PU y;obtain ⟨⟨x0,x1⟩,xf⟩:=bx2 y;have K1:=aa k1;clear k1 y;go_wp2_with fail;refine (av.o _).mono ?_;rintro e w2 ⟨rfl,k2⟩;have K2:=aa (K1.o.trans (k2.mono K1.o.size));clear k2 x0 x1 xf c7;have b8:=L.o.trans (K2.o.mono L.o.size);have bl:=az (az HP.o L.o) K2.o;have b4:=az (az HM.o L.o) K2.o;have bv:=(HG.o.below L.o).below K2.o;have I:=(K2.o.block _ (PU aG.o)).trans aG.o;have Q:=(K2.o.block _ (PU b0.o)).trans b0.o;have y:=(K2.o.block _ (PU V.o)).trans V.o;obtain ⟨bX,bN,cc,c8,bh,bb,bs⟩:=aj b8 bl b4 bv I Q y;clear b8 bl b4 bv I Q y;go_wp2
 go_loopw [46] (λx wr=>∃k:Nat,k<=m/\x=QZ k/\wr.ownsRow base 2 1 (.slice A n c1) n (aA .i64 (apP ra p q ps ms g lo k))/\wr.ownsRow base 2 1 (.slice B n c2) n (aA .i64 (apM p q ms g lo k))/\Keep (λj=>(Value.slice A n c1).ownBlock=some j\/(Value.slice B n c2).ownBlock=some j) w2 wr) (λx _=>m-(intOf x).toNat)
 .exact ⟨0,PZ _,rfl,by rw [Bf];exact bN.o,by rw [Bg];exact cc.o,Keep.refl _ _⟩
 case round=>
  obtain ⟨k,hk,rfl,R,J,N⟩:=hrel;by_cases bO:k<m
  .have hG:=N.rd c8.o (λa ha=>by
    rintro (h | h)
    .exact bf.o a ha h
    .exact ao.o a ha h)
   obtain ⟨bG,oG,rfl,pg⟩:=hG.num (show k<g.length by rw [bI.o];exact bO);obtain ⟨gk,O⟩:=Vb (nth g k);rw [O] at pg
   have U:∀j,w.heap.size<=j->¬((Value.slice A n c1).ownBlock=some j\/(Value.slice B n c2).ownBlock=some j):=λj hj=>by
    rintro (h | h)
    .have:=(a0.o j h).2;omega
    .have:=(a1.o j h).2;omega
   have I:=(N.block _ (PU bh.o) (U _ (PV _))).trans bh.o;have Q:=(N.block _ (PU bb.o) (U _ ap)).trans bb.o;have y:=(N.block _ (PU bs.o) (U _ ap)).trans bs.o;obtain ⟨Y,e1,b2,_,_⟩:=R.form ap;obtain ⟨gm,e2,be,_,_⟩:=J.form ap;simp only [QH] at b2 be;obtain ⟨rfl,_,rfl⟩:=b2;obtain ⟨rfl,_,rfl⟩:=be;have a4:Y≠gm:=λe=>bV.o Y rfl (by rw [e];rfl);have a9:=Bs ra p q gk base n (lo+k) Y c1 gm c2 (apP ra p q ps ms g lo k) (apM p q ms g lo k) wr.drew (bZ R 1) (bZ J 1) a4 ap Wr.o Wo.o (yH Wm.o);rw [Ou ra p q ps ms g lo k (by have:=aR.o;omega),Ov p q ms g lo k (by have:=b6.o;omega),<-O,Em ra p q ps ms g lo k (by have:=aR.o;omega),Eo p q ms g lo k (by have:=b6.o;omega),O] at a9;obtain ⟨⟨y0,y1,y2⟩,yf⟩:=bx3 I;obtain ⟨⟨z0,z1⟩,zf⟩:=bx2 Q;obtain ⟨⟨t0,t1⟩,tf⟩:=bx2 y;have cw:(k:Int)<m:=ap;have bM:IntKind.i64.wrap ((lo:Int)+(k:Int))=(lo:Int)+k:=P3 _ ap;have cl:(0:Int)<=(lo:Int)+k:=ap;have cA:(lo:Int)+k<n:=ap;have bz:((lo:Int)+k).toNat=lo+k:=ap;obtain ⟨HK,c9,cx⟩:=af N a9 O;clear N a9 R J hG I Q y U O a4;go_wp2_with fail;have u:(λv:R8=>Vh v w.heap.size 0 (QZ ra)/\Vh v w.heap.size 1 (QZ p)/\Vh v w.heap.size 2 (QZ q)/\Vh v (w.heap.size+1) 0 (Vf Y 0 n c1)/\Vh v (w.heap.size+1) 1 (Vf gm 0 n c2)/\Vh v (w.heap.size+1+1) 0 (QZ lo)/\Vh v bG (oG+k) (QZ gk)) wr.drew:=⟨y0,y1,y2,z0,z1,t0,pg⟩;have ci:Y<w.heap.size:=(a0.o Y rfl).2;have cj:gm<w.heap.size:=(a1.o gm rfl).2
   have a2:¬(bG=Y\/bG=gm):=by
    rintro (h | h)
    .exact bf.o _ rfl (by rw [h];rfl)
    .exact ao.o _ rfl (by rw [h];rfl)
   refine HA.g (λv:R8=>Vh v w.heap.size 0 (QZ ra)/\Vh v w.heap.size 1 (QZ p)/\Vh v w.heap.size 2 (QZ q)/\Vh v (w.heap.size+1) 0 (Vf Y 0 n c1)/\Vh v (w.heap.size+1) 1 (Vf gm 0 n c2)/\Vh v (w.heap.size+1+1) 0 (QZ lo)/\Vh v bG (oG+k) (QZ gk)) ?_;refine HA.t ?_ [0,1,2,3,4,5,6,7,8,9,10,11,12,13,14,15,16,17,18] u ?_;clear bM bz;refine HA.o 19 (λK N=>?_);go_simp;refine c9.o.mono ?_;rintro e w5 ⟨rfl,bo,aM,C⟩;have aP:=P7 (C.cell u.1 V6) (P7 (C.cell u.2.1 V6) (P7 (C.cell u.2.2.1 V6) (P7 (C.cell u.2.2.2.1 V6) (P7 (C.cell u.2.2.2.2.1 V6) (P7 (C.cell u.2.2.2.2.2.1 V6) (C.cell u.2.2.2.2.2.2 a2))))))
   have b7:Keep (λj=>(Vf Y 0 n c1).ownBlock=some j\/(Vf gm 0 n c2).ownBlock=some j) w2 w5:=HK.o.trans ((Keep.refl _ wr).drew.trans (C.mono (λj _ h=>by
    rcases h with rfl | rfl
    .exact .inl rfl
    .exact .inr rfl)))
   obtain ⟨cb,bA,cd⟩:=af bo aM b7;clear bo aM C b7 u a2;dsimp only;refine N.out _ _ aP (λu=>?_);clear N K aP u y0 y1 y2 yf z0 z1 zf t0 t1 tf pg;refine HA.d ?_;go_wp2;go_roundw
   .exact ⟨k+1,ap,Vc,cb.o,bA.o,cd.o⟩
   .simp [intOf];omega
  .obtain rfl:m=k:=ap;have bn:Keep (λj=>(Value.slice A n c1).ownBlock=some j\/(Value.slice B n c2).ownBlock=some j) w wr:=(Keep.below bX.o).trans N;obtain ⟨bw,cf,c6⟩:=af R J bn;clear R J bn N;go_wp2;go_ret;exact ⟨rfl,bw.o,cf.o,c6.o⟩
theorem nk {e:R9} {h:Nat} (T:dM P t e z 1 h) (w:R8) (A:z.cells=#[z]) (n:Nat) (C:h*n<=281474976710656) (b3:n<=maxLen):
  ∃u,Sem.run P (Instr.makeSlice t (QZ (n:Int)) (QZ (n:Int))) w=.ok (Vf w.heap.size 0 n n) u/\u.ownsRow w.heap.size e 1 (Vf w.heap.size 0 n n) n (List.replicate n z)/\aq w u:=by
 obtain ⟨i,D,x,y,v⟩:=T.info;obtain ⟨u,p,B,o⟩:=run_make_full (P:=P) w w.heap.size t e i z 1 T.und D x y .i64 .i64 n (by rw [v];exact C) b3 (PV _);rw [A,Nat.mul_one,toList_madeCells_one] at B;exact ⟨u,p,B,⟨o.os,o.tape,o.output,o.size,λk hk=>o.block k hk V3⟩⟩
theorem kY (A B:N_) (n c d:Nat) (ps ms:Q_) (w:R8) (hA:Rd w A (aA .i64 ps)) (hB:Rd w B (aA .i64 ms)) (a0:ps.length=n) (a7:ms.length=n) (hn:n<=1048576):Vj 86 #[.agg #[.slice A n c,.slice B n d]] w λe i=>∃A1 c1 x c2,Vi e (.agg #[.slice A1 n c1,.slice x n c2])/\n<=c1/\n<=c2/\i.ownsRow w.heap.size 2 1 (.slice A1 n c1) n (aA .i64 ps)/\i.ownsRow w.heap.size 2 1 (.slice x n c2) n (aA .i64 ms)/\
   (∀j,(Value.slice A1 n c1).ownBlock=some j->(Value.slice x n c2).ownBlock≠some j)/\aq w i:=by
 have O:=λi (k:aq w i)=>fP A ps c i (hA.below k) ap;have T:=λi (k:aq w i)=>fP B ms d i (hB.below k) ap;rw [a0] at O;rw [a7] at T;obtain ⟨aR,b2⟩:=ae O T;clear O T a0 a7 hA hB;go_enter func86,ntmps86;go_wp2_with fail;have hz:=PW (w.alloc (.cells #[.slice A n c,.slice B n d] 141)) (.cells #[Ra,Ra] 141);rw [show (w.alloc (.cells #[.slice A n c,.slice B n d] 141)).heap.size=w.heap.size+1 by simp] at hz;have hy:=(Qc (w.alloc (.cells #[.slice A n c,.slice B n d] 141)) (.cells #[Ra,Ra] 141) w.heap.size V3).trans (PW w _);have U:aq w ((w.alloc (.cells #[.slice A n c,.slice B n d] 141)).alloc (.cells #[Ra,Ra] 141)):=((PY _ w).alloc (PV _) _).alloc V3 _;have Q:((w.alloc (.cells #[.slice A n c,.slice B n d] 141)).alloc (.cells #[Ra,Ra] 141)).heap.size=w.heap.size+2:=by simp
 obtain ⟨W0,a1⟩:∃W0,W0=(w.alloc (.cells #[.slice A n c,.slice B n d] 141)).alloc (.cells #[Ra,Ra] 141):=⟨_,rfl⟩;rw [<-a1] at hz hy U Q |-;obtain ⟨⟨y0,y1⟩,yf⟩:=bx2 hy;obtain ⟨Hz,Y,D⟩:=af hz U Q;clear hz hy U Q a1;have h:(λi:R8=>Vh i w.heap.size 0 (.slice A n c)/\Vh i w.heap.size 1 (.slice B n d)) W0.drew:=⟨y0,y1⟩;refine XA.g 7 (λi:R8=>Vh i w.heap.size 0 (.slice A n c)/\Vh i w.heap.size 1 (.slice B n d)) ?_;refine XA.t ?_ [0,1,3,4] h ?_;refine XA.o 2 (λK hK=>?_);go_simp;refine (aR.o _ Y.o.drew).mono ?_;rintro e w1 ⟨A1,c1,rfl,ab,C,u⟩;have b0:=aa ab;clear ab;have a3:=P7 (aw u h.1) (aw u h.2);have a2:=(u.block (w.heap.size+1) (by simp [D.o])).trans Hz.o;have Z:=Y.o.drew.trans (u.mono (by simp [D.o]));have b1:=u.size;simp only [QG,D.o] at b1;have C:=aF (base':=w.heap.size) C (by simp [D.o]);obtain ⟨a4,aM,I⟩:=af C a2 Z;clear C a2 Z u h;dsimp only;refine hK.out _ _ a3 (λh=>?_);clear hK K a3;refine XA.o 5 (λK hK=>?_);go_simp;refine (b2.o _ I.o).mono ?_;rintro e V ⟨x,c2,rfl,ad,y,p⟩;have L:∀j,(Value.slice A1 n c1).ownBlock=some j->(Value.slice x n c2).ownBlock≠some j:=λj h1 h2=>by have:=(a4.o.lt j h1).2;have:=(y.lt j h2).1;omega
 obtain ⟨ao,a9⟩:=ae ad L;clear ad L;have a5:=P7 (aw p h.1) (aw p h.2);have H:=(p.block (w.heap.size+1) ap).trans aM.o;have a6:=I.o.trans (p.mono I.o.size);have b5:=p.size;have y:=aF (base':=w.heap.size) y I.o.size;have N:=az a4.o p;obtain ⟨⟨z0,z1⟩,zf⟩:=bx2 H;have l2:w.heap.size+1<V.heap.size:=PU H;obtain ⟨a8,J,R,b3⟩:=ag y N H a6;clear y N H a6 p h;dsimp only;refine hK.out _ _ a5 (λh=>?_);clear hK K a5;refine XA.t ?_ [6] h ?_;refine XA.e ?_;clear h;simp only [Qq,Qs];go_wp2_with fail;have e1:=QX V (w.heap.size+1) 0 _ _ (.slice A1 n c1) R.o;have e2:=QX _ (w.heap.size+1) 1 _ _ (.slice x n c2) e1;have e3:Vg ((V.setCell (ar (w.heap.size+1) 0) (.slice A1 n c1)).setCell (ar (w.heap.size+1) 1) (.slice x n c2)) (w.heap.size+1) #[(.slice A1 n c1),(.slice x n c2)] 141:=by simpa using e2
 have hk:Keep (λj=>j=w.heap.size+1) V ((V.setCell (ar (w.heap.size+1) 0) (.slice A1 n c1)).setCell (ar (w.heap.size+1) 1) (.slice x n c2)):=Vk (w.heap.size+1) (Vk (w.heap.size+1) (Keep.refl _ _) (ar (w.heap.size+1) 0) (.inr rfl) _) (ar (w.heap.size+1) 1) (.inr rfl) _;obtain ⟨W9,aP⟩:∃W9,W9=(V.setCell (ar (w.heap.size+1) 0) (.slice A1 n c1)).setCell (ar (w.heap.size+1) 1) (.slice x n c2):=⟨_,rfl⟩;rw [<-aP] at e3 hk |-;obtain ⟨⟨x0,x1⟩,xf⟩:=bx2 e3;have b4:=hk.own J.o (λj hj e=>ay R.o V0 J.o (by rw [hj,e]));have aG:=hk.own a8.o (λj hj e=>ay R.o V0 a8.o (by rw [hj,e]));have av:aq w W9:=b3.o.trans (hk.toBelow ap (λj hj=>ap));exact Qd (v:=.agg #[.slice A1 n c1,.slice x n c2]) (by simp [results,results86,go_sem,x0,x1]) rfl ⟨A1,c1,x,c2,rfl,b0.o,ao.o,b4,aG,a9.o,av⟩
theorem Py (ra p q:Int) (A B G:N_) (n c d cg:Nat) (ps ms g:Q_) (w:R8) (hA:Rd w A (aA .i64 ps)) (hB:Rd w B (aA .i64 ms)) (hG:Rd w G (aA .i64 g)) (a4:ps.length=n) (a3:ms.length=n) (aM:g.length=n) (hn:n<=1048576) (wr: -9223372036854775808<=ra/\ra<=9223372036854775807) (wo: -9223372036854775808<=p/\p<=9223372036854775807) (wm:W64 ms) (a9:∀a,G=some a->a.block<w.heap.size):Vj 278 #[.agg #[QZ ra,QZ p,QZ q],.agg #[.slice A n c,.slice B n d],.slice G n cg] w λe N=>∃A1 c1 i c2,Vi e (.tuple #[.agg #[.slice A1 n c1,.slice i n c2],.bool true])/\n<=c1/\n<=c2/\
   N.ownsRow w.heap.size 2 1 (.slice A1 n c1) n (aA .i64 (nu ra p q ps ms g))/\N.ownsRow w.heap.size 2 1 (.slice i n c2) n (aA .i64 (nv p q ms g))/\aq w N:=by
 have bd:=λN (k:aq w N)=>kY A B n c d ps ms N (hA.below k) (hB.below k) a4 a3 hn
 have a5:=λ(A1 i:N_) c1 c2 base N (k:aq w N) (hb:w.heap.size<=base) (h1:N.ownsRow base 2 1 (.slice A1 n c1) n (aA .i64 ps)) (h2:N.ownsRow base 2 1 (.slice i n c2) n (aA .i64 ms)) bf=>xu ra p q base n 0 n c1 c2 cg A1 i G ps ms g N h1 h2 bf (hG.below k) aM ap hn
  (λa ha e=>by have:=(h1.lt _ e).1;have:=a9 a ha;omega) (λa ha e=>by have:=(h2.lt _ e).1;have:=a9 a ha;omega) wr wo wm
 have e1:=Ni ra p q ps ms g;have e2:=Nj p q ms g;rw [a4] at e1;rw [a3] at e2;rw [e1,e2,QP] at a5;have hq:((n:Int) != (n:Int))=false:=by simp
 obtain ⟨bs,bn⟩:=ae bd a5;clear bd a5 e1 e2 hA hB hG a4 a3 aM wr wo wm a9;go_enter func278,ntmps278;go_wp2_with fail;have a0:(((w.alloc (.cells #[QZ ra,QZ p,QZ q] 172)).alloc (.cells #[.slice A n c,.slice B n d] 141)).alloc (.cells #[Ra,Ra] 141)).heap.size=w.heap.size+3:=by simp
 have a6:aq w (((w.alloc (.cells #[QZ ra,QZ p,QZ q] 172)).alloc (.cells #[.slice A n c,.slice B n d] 141)).alloc (.cells #[Ra,Ra] 141)):=(((PY _ w).alloc (PV _) _).alloc V3 _).alloc V6 _;have a2:=(Qc ((w.alloc (.cells #[QZ ra,QZ p,QZ q] 172)).alloc (.cells #[.slice A n c,.slice B n d] 141)) (.cells #[Ra,Ra] 141) w.heap.size V6).trans ((Qc (w.alloc (.cells #[QZ ra,QZ p,QZ q] 172)) (.cells #[.slice A n c,.slice B n d] 141) w.heap.size V3).trans (PW w _));have H:=PW (w.alloc (.cells #[QZ ra,QZ p,QZ q] 172)) (.cells #[.slice A n c,.slice B n d] 141);rw [show (w.alloc (.cells #[QZ ra,QZ p,QZ q] 172)).heap.size=w.heap.size+1 by simp] at H;have H:=(Qc ((w.alloc (.cells #[QZ ra,QZ p,QZ q] 172)).alloc (.cells #[.slice A n c,.slice B n d] 141)) (.cells #[Ra,Ra] 141) (w.heap.size+1) V3).trans H;have Q:=PW ((w.alloc (.cells #[QZ ra,QZ p,QZ q] 172)).alloc (.cells #[.slice A n c,.slice B n d] 141)) (.cells #[Ra,Ra] 141);rw [show ((w.alloc (.cells #[QZ ra,QZ p,QZ q] 172)).alloc (.cells #[.slice A n c,.slice B n d] 141)).heap.size=w.heap.size+1+1 by simp] at Q;obtain ⟨W0,b2⟩:∃W0,W0=((w.alloc (.cells #[QZ ra,QZ p,QZ q] 172)).alloc (.cells #[.slice A n c,.slice B n d] 141)).alloc (.cells #[Ra,Ra] 141):=⟨_,rfl⟩;rw [<-b2] at a0 a6 a2 H Q |-;obtain ⟨x,av,aG,a7,bz⟩:=ah a6 a2 H Q a0;clear a0 a6 a2 H Q b2;refine (bs.o _ x.o).mono ?_;rintro e w1 ⟨A1,c1,i,c2,rfl,be,b0,C,y,U,k1⟩;have Z:=(k1.block _ (PU av.o)).trans av.o;have a8:=(k1.block _ (PU aG.o)).trans aG.o;have u:=(k1.block _ (PU a7.o)).trans a7.o;have bw:=PU Z;have bA:=PU a8;have bI:=PU u;have ad:=x.o.trans (k1.mono x.o.size);obtain ⟨⟨x0,x1,x2⟩,xf⟩:=bx3 Z;obtain ⟨⟨y0,y1⟩,yf⟩:=bx2 a8;obtain ⟨b5,b3,bv,bi,b9,ab,b4⟩:=aj u ad be b0 C y U;clear k1 Z a8 u ad be b0 C y U;go_wp2_with fail;have J:=b3.o.alloc b3.o.size (.cells #[.slice A1 n c1,.slice i n c2] 141);have a1:=PW w1 (.cells #[.slice A1 n c1,.slice i n c2] 141);have u:=(Qc w1 (.cells #[.slice A1 n c1,.slice i n c2] 141) _ (PU b5.o)).trans b5.o;have C:=b9.o.alloc (.cells #[.slice A1 n c1,.slice i n c2] 141);have y:=ab.o.alloc (.cells #[.slice A1 n c1,.slice i n c2] 141);have b7:w1.heap.size<(w1.alloc (.cells #[.slice A1 n c1,.slice i n c2] 141)).heap.size:=by simp
 obtain ⟨V,hV⟩:∃V,V=w1.alloc (.cells #[.slice A1 n c1,.slice i n c2] 141):=⟨_,rfl⟩;rw [<-hV] at J a1 u C y b7 |-;clear hV;refine (bn.o A1 i c1 c2 W0.heap.size V J x.o.size C y b4.o).mono ?_;rintro e w3 ⟨rfl,ao,b6,R⟩;have L:=C.lt;have O:=y.lt
 have b8:∀j,j<W0.heap.size->¬((Value.slice A1 n c1).ownBlock=some j\/(Value.slice i n c2).ownBlock=some j):=λj Y=>by
  rintro (h | h)
  .have:=(L j h).1;omega
  .have:=(O j h).1;omega
 have T:=(R.block _ b7 (by
  rintro (h | h)
  .have:=(b9.o.lt _ h).2;omega
  .have:=(ab.o.lt _ h).2;omega)).trans a1
 have D:=(R.block _ (PU u) (b8 _ (PU a7.o))).trans u
 have aP:=J.trans (R.toBelow J.size (λj Y=>by
  rcases Y with h | h
  .have:=(L j h).1;have:=x.o.size;omega
  .have:=(O j h).1;have:=x.o.size;omega))
 have bG:=PU D;obtain ⟨⟨z0,z1⟩,zf⟩:=bx2 T;obtain ⟨⟨t0,t1⟩,tf⟩:=bx2 D;obtain ⟨I,b1,aR,bb⟩:=ag D aP ao b6;clear D aP ao b6 R T a1 u C y J L O b8 x0 x1 x2 xf y0 y1 yf;go_wp2_with fail;have e1:=QX w3 (w.heap.size+1+1) 0 _ _ (.slice A1 n c1) I.o;have e2:=QX _ (w.heap.size+1+1) 1 _ _ (.slice i n c2) e1;have e3:Vg ((w3.setCell (ar (w.heap.size+1+1) 0) (.slice A1 n c1)).setCell (ar (w.heap.size+1+1) 1) (.slice i n c2)) (w.heap.size+1+1) #[.slice A1 n c1,.slice i n c2] 141:=by simpa using e2
 have hk:Keep (λj=>j=w.heap.size+1+1) w3 ((w3.setCell (ar (w.heap.size+1+1) 0) (.slice A1 n c1)).setCell (ar (w.heap.size+1+1) 1) (.slice i n c2)):=Vk (w.heap.size+1+1) (Vk (w.heap.size+1+1) (Keep.refl _ _) (ar (w.heap.size+1+1) 0) (.inr rfl) _) (ar (w.heap.size+1+1) 1) (.inr rfl) _;obtain ⟨W9,bo⟩:∃W9,W9=(w3.setCell (ar (w.heap.size+1+1) 0) (.slice A1 n c1)).setCell (ar (w.heap.size+1+1) 1) (.slice i n c2):=⟨_,rfl⟩;rw [<-bo] at e3 hk |-;obtain ⟨⟨r0,r1⟩,rf⟩:=bx2 e3;have bl:=hk.own aR.o (λj Y e=>ay I.o V0 aR.o (by rw [Y,e]));have bh:=hk.own bb.o (λj Y e=>ay I.o V0 bb.o (by rw [Y,e]));exact Qd (v:=.tuple #[.agg #[.slice A1 n c1,.slice i n c2],.bool true]) (by simp [results,results278,go_sem,r0,r1]) rfl ⟨A1,c1,i,c2,rfl,bv.o,bi.o,aF bl x.o.size,aF bh x.o.size,b1.o.trans (hk.toBelow b1.o.size (λj Y=>ap))⟩
theorem BG (A:N_) (n c:Nat) (ps:Q_) (w:R8) (hA:Rd w A (aA .i64 ps)) (aG:ps.length=n) (hn:n<=1048576):Vj 83 #[.slice A n c] w λe w'=>∃A1 c1 A2 c2,Vi e (.agg #[.slice A1 n c1,.slice A2 n c2])/\n<=c1/\n<=c2/\w'.ownsRow w.heap.size 2 1 (.slice A1 n c1) n (aA .i64 ps)/\w'.ownsRow w.heap.size 2 1 (.slice A2 n c2) n (aA .i64 (List.replicate n 0))/\(∀j,(Value.slice A1 n c1).ownBlock=some j->(Value.slice A2 n c2).ownBlock≠some j)/\aq w w':=by
 have a3:=λw' (k:aq w w')=>fP A ps c w' (hA.below k) ap;rw [aG] at a3;have aP:=aa a3;have a8:=λw'=>nk mY w' rfl n ap V2;simp only [fB] at a8;have aR:=aa a8;clear a3 aG hA a8;go_enter func83,ntmps83;go_wp2_with fail;have hz:=PW w (.cells #[Ra,Ra] 141);have a6:aq w (w.alloc (.cells #[Ra,Ra] 141)):=(PY _ w).alloc (PV _) _;obtain ⟨I,aM⟩:∃I,I=w.alloc (.cells #[Ra,Ra] 141):=⟨_,rfl⟩;rw [<-aM] at hz a6 |-;have av:=PU hz;obtain ⟨HZ,B⟩:=ae hz a6;clear hz a6 aM;have h:(λ_:R8=>True) I.drew:=trivial;refine kO 6 (λ_:R8=>True) V1 ?_;refine wX 0 h ?_;refine wX 2 h ?_;refine wX 3 h ?_;simp only [Qh,Qi,Qj,Act.put,Qk,Ql,Qm];refine cJ (rs:=[1,4]) V1 V3 ?_;refine aT.cons rfl (λK O=>?_) (aT.cons rfl (λK O=>?_) aT.nil)
 .simp only [Qh,Qi,Qj];go_simp;refine (aP.o _ B.o.drew).mono ?_;rintro e J ⟨A1,c1,rfl,a0,D,u⟩;have N:=B.o.drew.trans (u.mono B.o.size);have Q:=(u.block w.heap.size (by simpa using av)).trans HZ.o;have a1:=aF (base':=w.heap.size) D (by have:=B.o.size;simpa using this);have a5:=u.size;have Y:∀j,(Value.slice A1 n c1).ownBlock=some j->j<J.heap.size:=λj y=>(D.lt j y).2;have a2:=aa Y;clear Y;simp only [QG] at a5;obtain ⟨x,a9,b1,ab⟩:=ag N Q a1 a0;clear u N Q D a1 a0;dsimp only;refine O.out _ _ trivial (λh=>?_);clear O K h;refine cJ (rs:=[4]) V1 V3 ?_;refine aT.cons rfl (λK O=>?_) aT.nil;simp only [Qh,Qi,Qj];obtain ⟨V,H,Z,p⟩:=aR.o J;obtain ⟨L,T,i,U⟩:=ag (aF (base':=w.heap.size) Z x.o.size) (x.o.trans (p.mono x.o.size)) ((p.block w.heap.size ap).trans a9.o) (az b1.o p);have C:=i.o;obtain ⟨⟨z0,z1⟩,zf⟩:=bx2 C;have b0:=PU C;clear Z p C;go_simp;refine O.out _ _ trivial (λh=>?_);clear O K H;refine wX 5 h ?_;simp only [Qh,Qi,Qj,Act.put,Qk,Ql,Qm];refine fq (by rfl) V1 ?_;simp only [Qq,Qs];go_wp2_with fail;have e1:=QX V w.heap.size 0 _ _ (.slice A1 n c1) i.o;have e2:=QX _ w.heap.size 1 _ _ (Vf J.heap.size 0 n n) e1;have e3:Vg ((V.setCell (ar w.heap.size 0) (.slice A1 n c1)).setCell (ar w.heap.size 1) (Vf J.heap.size 0 n n)) w.heap.size #[.slice A1 n c1,Vf J.heap.size 0 n n] 141:=by simpa using e2
  have hk:Keep (λj=>j=w.heap.size) V ((V.setCell (ar w.heap.size 0) (.slice A1 n c1)).setCell (ar w.heap.size 1) (Vf J.heap.size 0 n n)):=Vk w.heap.size (Vk w.heap.size (Keep.refl _ _) (ar w.heap.size 0) (.inr rfl) _) (ar w.heap.size 1) (.inr rfl) _;obtain ⟨W9,a4⟩:∃W9,W9=(V.setCell (ar w.heap.size 0) (.slice A1 n c1)).setCell (ar w.heap.size 1) (Vf J.heap.size 0 n n):=⟨_,rfl⟩;rw [<-a4] at e3 hk |-;obtain ⟨⟨r0,r1⟩,rf⟩:=bx2 e3;have ad:=hk.own U.o (λj y e=>ay i.o V0 U.o (by rw [y,e]));have a7:=hk.own L.o (λj y e=>ay i.o V0 L.o (by rw [y,e]))
  exact Qd (v:=.agg #[.slice A1 n c1,Vf J.heap.size 0 n n]) (by simp [results,results83,go_sem,r0,r1]) rfl ⟨A1,c1,_,n,rfl,ab.o,PV _,ad,a7,λj y e=>by
   have h1:=a2.o j y;have h2:J.heap.size=j:=by simpa [Value.ownBlock] using e
   omega,T.o.trans (hk.toBelow T.o.size (λj y=>ap))⟩
 .simp only [Qh,Qi,Qj];obtain ⟨J,H,Z,p⟩:=aR.o I.drew;have N:=B.o.drew.trans (p.mono B.o.size);have Q:=(p.block w.heap.size (by simpa using av)).trans HZ.o;have R:=aF (base':=w.heap.size) Z (by have:=B.o.size;simpa using this);have a5:=p.size;simp only [QG] at a5 R H;obtain ⟨x,a9,ao⟩:=af N Q R;clear p N Q Z R;go_simp;refine O.out _ _ trivial (λh=>?_);clear O K H;refine cJ (rs:=[1]) V1 V3 ?_;refine aT.cons rfl (λK O=>?_) aT.nil;simp only [Qh,Qi,Qj];go_simp;refine (aP.o _ x.o).mono ?_;rintro e V ⟨A1,c1,rfl,a0,D,u⟩;have Y:∀j,(Value.slice A1 n c1).ownBlock=some j->J.heap.size<=j:=λj y=>(D.lt j y).1;have a2:=aa Y;clear Y;obtain ⟨U,T,i,L,ab⟩:=ah (aF (base':=w.heap.size) D x.o.size) (x.o.trans (u.mono x.o.size)) ((u.block w.heap.size ap).trans a9.o) (az ao.o u) a0;have C:=i.o;obtain ⟨⟨z0,z1⟩,zf⟩:=bx2 C;have b0:=PU C;clear D u C a0;dsimp only;refine O.out _ _ trivial (λh=>?_);clear O K;refine wX 5 h ?_;simp only [Qh,Qi,Qj,Act.put,Qk,Ql,Qm];refine fq (by rfl) V1 ?_;simp only [Qq,Qs];go_wp2_with fail;have e1:=QX V w.heap.size 0 _ _ (.slice A1 n c1) i.o;have e2:=QX _ w.heap.size 1 _ _ (Vf I.heap.size 0 n n) e1;have e3:Vg ((V.setCell (ar w.heap.size 0) (.slice A1 n c1)).setCell (ar w.heap.size 1) (Vf I.heap.size 0 n n)) w.heap.size #[.slice A1 n c1,Vf I.heap.size 0 n n] 141:=by simpa using e2
  have hk:Keep (λj=>j=w.heap.size) V ((V.setCell (ar w.heap.size 0) (.slice A1 n c1)).setCell (ar w.heap.size 1) (Vf I.heap.size 0 n n)):=Vk w.heap.size (Vk w.heap.size (Keep.refl _ _) (ar w.heap.size 0) (.inr rfl) _) (ar w.heap.size 1) (.inr rfl) _;obtain ⟨W9,a4⟩:∃W9,W9=(V.setCell (ar w.heap.size 0) (.slice A1 n c1)).setCell (ar w.heap.size 1) (Vf I.heap.size 0 n n):=⟨_,rfl⟩;rw [<-a4] at e3 hk |-;obtain ⟨⟨r0,r1⟩,rf⟩:=bx2 e3;have ad:=hk.own U.o (λj y e=>ay i.o V0 U.o (by rw [y,e]));have a7:=hk.own L.o (λj y e=>ay i.o V0 L.o (by rw [y,e]))
  exact Qd (v:=.agg #[.slice A1 n c1,Vf I.heap.size 0 n n]) (by simp [results,results83,go_sem,r0,r1]) rfl ⟨A1,c1,_,n,rfl,ab.o,PV _,ad,a7,λj y e=>by
   have h1:=a2.o j y;have h2:I.heap.size=j:=by simpa [Value.ownBlock] using e
   have h3:=(ao.o.lt I.heap.size rfl).2
   omega,T.o.trans (hk.toBelow T.o.size (λj y=>ap))⟩
theorem BH (S n b steps:Nat) (l:Q_) (w:R8) (h:gC w S n b steps l):Vj 264 #[(au S)] w λe i=>Vi e (QZ steps)/\w=i:=by
 obtain ⟨x,A,J,I,vs,h1,o,v,p,u⟩:=h;obtain ⟨⟨D,C,y,B⟩,H⟩:=bx4 h1;clear h1 o v p u;go_enter func264,ntmps264;go_wp2;go_ret;exact ⟨rfl,rfl⟩
theorem BQ (S n b steps t:Nat) (l:Q_) (w:R8) (h:gC w S n b steps l) (hn:n<=1048576) (A:1<=n/b) (L:steps<=1048576) (ht:t<steps):Vj 255 #[(au S),QZ t] w λe B=>Vi e (.tuple #[QZ ((t/(n/b):Nat):Int),QZ ((t%(n/b):Nat):Int),.bool true])/\∃d,B=w.drewN d:=by
 have hs:=BH S n b steps l w h;obtain ⟨Ab,cb,Ao,co,vs,h1,I,R,N,O⟩:=h;have y:=Nat.div_le_self n b;obtain ⟨nb,u⟩:=Vb (n/b);rw [u] at h1 A y |-;obtain ⟨⟨r0,r1,r2,r3⟩,rf⟩:=bx4 h1;obtain ⟨v,i⟩:=Vb (t/nb);obtain ⟨x,p⟩:=Vb (t%nb);have D:(t:Int).tdiv (nb:Int)=(v:Int):=by rw [<-i];rfl
 have a0:(t:Int).tmod (nb:Int)=(x:Int):=by rw [<-p];rfl
 have T:v<=t:=by rw [<-i];exact Nat.div_le_self _ _
 have H:x<=t:=by rw [<-p];exact Nat.mod_le _ _
 have V:IntKind.i64.wrap (v:Int)=(v:Int):=P3 _ ap;have Z:IntKind.i64.wrap (x:Int)=(x:Int):=P3 _ ap;have U:¬(nb=0):=ap;have Q:(t:Int)<steps:=ap;have Y:¬((t:Int)<0):=ap;have C:¬((steps:Int)<=t):=ap;rw [i,p];have J:=aa hs;clear hs h1 I R N O u i p;go_enter func255,ntmps255;go_wp2_with fail;refine J.o.mono ?_;rintro e B ⟨rfl,rfl⟩;go_wp2
 go_quiet (fail)
 go_wp2;go_ret3;exact ⟨rfl,_,rfl⟩
def cN (l:Q_) (n b t:Nat):Q_:=((gr l n ((t/(n/b))*(n-1))).drop (t%(n/b)*b)).take b
theorem AT {b t:Nat} (h:t<steps):t/(n/b)<epN n b steps:=by
 unfold epN di;rw [if_neg ap];have:=Nat.div_le_div_right (c:=n/b) (show t<=steps-1 by omega);omega
theorem fV (l:Q_) {b t:Nat} (h:1<=n/b):(cN l n b t).length=b:=by
 unfold cN;have h1:=qi n b (t%(n/b)) (Nat.mod_lt _ h);rw [Qy,QB,jO];omega
theorem Ia (l:Q_) {b t:Nat} (h:1<=n/b):∀k,k<b->0<=nth (cN l n b t) k/\nth (cN l n b t) k<n:=λk hk=>by
 have h1:=qi n b (t%(n/b)) (Nat.mod_lt _ h);unfold cN;rw [eH hk,eI];exact JK l n _ _ ap
theorem eA.keep {p:R8} {base:Nat} {A:R7} {e:Ex} (h:eA w base A e) (k:Keep S w p) (y:∀j,S j->j<base):eA p base A e:=by
 obtain ⟨u,v,rfl,h1,x,B⟩:=h;exact ⟨u,v,rfl,k.own h1 (λi o hs=>by have:=y i hs;have:=(h1.lt i o).1;omega),k.own x (λi o hs=>by have:=y i hs;have:=(x.lt i o).1;omega),B⟩
def vI (base:Nat) (w:R8) (l:Rl) (n:Nat) (v:Value):Prop:=∃rows,w.ownsRow base 91 2 v n (List.flatten rows)/\rows.length=n/\(∀r∈rows,r.length=2)/\(∀j x,j<n->l[j]?=some x->eA w base (bS rows j) x)
theorem jE.own (h:jE w wr l k v):vI w.heap.size wr l k v:=by
 obtain ⟨rows,h1,i,p,o,_⟩:=h;exact ⟨rows,h1,i,p,o⟩
theorem vI.base {base:Nat} (h:vI base w l n v) (hb:base'<=base):vI base' w l n v:=by
 obtain ⟨rows,h1,o,u,p⟩:=h;exact ⟨rows,aF h1 hb,o,u,λj x i y=>(p j x i y).base hb⟩
theorem vI.keep {base:Nat} {o:R8} (h:vI base w l n v) (k:Keep S w o) (p:∀j,S j->j<base):vI base o l n v:=by
 obtain ⟨rows,h1,u,B,y⟩:=h;exact ⟨rows,k.own h1 (λi C hs=>by have:=p i hs;have:=(h1.lt i C).1;omega),u,B,λj x A D=>(y j x A D).keep k p⟩
theorem vI.rd {base:Nat} (h:vI base w l n (.slice A n c)) (hn:l.length=n):dx rEx 2 w A l:=by
 obtain ⟨rows,h1,u,p,o⟩:=h;exact ⟨rows,Rd.own h1,ap,p,λj x i=>(o j x (by have:=(Qu.1 i).1;omega) i).rd⟩
theorem JI (c d:Nat) (A B:N_) (l:Rl) (i:Q_) (w:R8) (h:dx rEx 2 w A l) (hl:l.length<=1048576) (hB:Rd w B (aA .i64 i)) (U:i.length<=1048576):Vj 231 #[.slice A l.length c,.slice B i.length d] w λe H=>aq w H/\
   (((∀k,k<i.length->kv l.length (nth i k))/\∃D x,Vi e (.tuple #[.slice D i.length x,.bool true])/\vI (Ve w) H (cI l i) i.length (.slice D i.length x))\/((¬∀k,k<i.length->kv l.length (nth i k))/\Vi e (.tuple #[Ra,.bool false]))):=by
 have hm:=CK (Ve w) c d A B l i (w.alloc (.cells #[.slice A l.length c] 25)) (PW w _) (h.below dB ((PY _ w).alloc (PV _) _)) hl (hB.alloc _) U;have p:=oc l i;unfold Dt at hm;obtain ⟨n,hn⟩:=Vb i.length;obtain ⟨N,I⟩:=Vb l.length;rw [hn,I] at hm |-;rw [hn] at p;obtain ⟨Q,R⟩:=ae hm p;clear hm p hn I h hB;go_enter func231,ntmps231;go_wp2_with fail;refine Q.o.mono ?_;rintro e O ⟨hb,L⟩;have u:aq w O:=((PY _ w).alloc (PV _) _).trans (hb.mono V7);have J:=aa u;clear hb u;rcases L with ⟨hg,v,rfl,y⟩ | ⟨hg,rfl⟩
 .obtain ⟨D,x,rfl⟩:=y.form;obtain ⟨C,T⟩:=ae hg y;clear hg y;go_wp2;go_ret2;exact ⟨J.o,.inl ⟨C.o,_,_,rfl,T.o.own.base V3⟩⟩
 .have C:=aa hg;clear hg;go_wp2;go_ret2;exact ⟨J.o,.inr ⟨C.o,rfl⟩⟩
abbrev Pl:=Nat×Nat×Int
def plW (k c m:Nat):List Pl:=(List.range m).map λi=>(k,i/c,((i%c:Nat):Int))
def plB (k m:Nat):List Pl:=(List.range m).map λi=>(k,i, -1)
def plK (sz:Q_) (k:Nat):List Pl:=plW k (szN sz k) (szN sz (k+1)*szN sz k)++plB k (szN sz (k+1))
def plL (sz:Q_) (n:Nat):List Pl:=(List.range n).flatMap (plK sz)
theorem MF (k c m:Nat):(plW k c m).length=m:=by simp [plW]
theorem MH (k m:Nat):(plB k m).length=m:=by simp [plB]
theorem zF (sz:Q_) (n:Nat):plL sz (n+1)=plL sz n++plK sz n:=by simp [plL,QL,List.flatMap_append]
theorem DV (sz:Q_) (n:Nat):(plL sz n).length=bT sz n:=by
 induction n with
 | zero=>rfl
 | succ n ih=>
  have:=fL sz n;unfold dL at this;rw [zF,Qt,ih];unfold plK;rw [Qt,MF,MH];omega
def plV (l:List Pl):R7:=l.flatMap λp=>[QZ (p.1:Int),QZ (p.2.1:Int),QZ p.2.2]
theorem ue (a b:List Pl):plV (a++b)=plV a++plV b:=by simp [plV,List.flatMap_append]
theorem DU (p:Pl):plV [p]=[QZ (p.1:Int),QZ (p.2.1:Int),QZ p.2.2]:=rfl
theorem NY:∀(l:List Pl) (i:Nat) (p:Pl),l[i]?=some p->(plV l)[i*3]?=some (QZ (p.1:Int))/\(plV l)[i*3+1]?=some (QZ (p.2.1:Int))/\(plV l)[i*3+2]?=some (QZ p.2.2):=by
 intro l
 induction l with
 | nil=>intro i p h;simp at h
 | cons a l ih=>
  intro i p h;have o:plV (a::l)=[QZ (a.1:Int),QZ (a.2.1:Int),QZ a.2.2]++plV l:=rfl;rw [o]
  cases i with
  | zero=>
   simp at h;subst h;exact ⟨rfl,rfl,rfl⟩
  | succ i=>
   have:=ih i p (by simpa using h);rw [Qx V6,Qx V6,Qx V6];simp only [List.length_cons,List.length_nil];rw [show (i+1)*3-(0+1+1+1)=i*3 by omega,show (i+1)*3+1-(0+1+1+1)=i*3+1 by omega,show (i+1)*3+2-(0+1+1+1)=i*3+2 by omega];exact this
theorem JF (k c r j:Nat) (h:j<c):plW k c (r*c+j+1)=plW k c (r*c+j)++[(k,r,(j:Int))]:=by
 unfold plW;rw [QL,List.map_append];have h1:(r*c+j)/c=r:=by rw [Nat.add_comm,Nat.add_mul_div_right _ _ ap,Nat.div_eq_of_lt h,QP]
 have i:(r*c+j)%c=j:=by rw [Nat.add_comm,Nat.add_mul_mod_self_right,Nat.mod_eq_of_lt h]
 rw [List.map_singleton,h1,i]
theorem JG (k r:Nat):plB k (r+1)=plB k r++[(k,r, -1)]:=by simp [plB,QL]
def gAt (sz ps:Q_) (q:Int) (x y:Q_) (p:Pl):Int:=
 if 0<=p.2.2 then fJ (nth (gw sz ps q x y (sz.length-2-p.1)) p.2.1) (nth (dJ sz ps q x p.1) p.2.2.toNat) q else nth (gw sz ps q x y (sz.length-2-p.1)) p.2.1
theorem MW (l:Q_) (n:Nat) (h:l.length=n):(List.range n).map (nth l)=l:=(fN h λk _=>rfl).symm
theorem LC {q:Int} {x y:Q_} (h:x.length=szN sz 0) (hk:k+2<=sz.length):
  mN (szN sz (k+1)) (szN sz k) (gw sz ps q x y (sz.length-2-k)) (dJ sz ps q x k) q++gw sz ps q x y (sz.length-2-k)=(plK sz k).map (gAt sz ps q x y):=by
 unfold plK;rw [List.map_append]
 congr 1
 .unfold mN dU plW;rw [List.map_map];refine List.map_congr_left λi _=>?_;unfold MK gAt
  show _=if 0<=((i%szN sz k:Nat):Int) then fJ (nth (gw sz ps q x y (sz.length-2-k)) (i/szN sz k)) (nth (dJ sz ps q x k) ((i%szN sz k:Nat):Int).toNat) q else nth (gw sz ps q x y (sz.length-2-k)) (i/szN sz k)
  rw [if_pos (Int.natCast_nonneg _),Int.toNat_natCast]
 .unfold plB;rw [List.map_map];have hl:=mg (sz:=sz) (ps:=ps) (q:=q) (x:=x) (y:=y) h (sz.length-2-k);rw [show sz.length-1-(sz.length-2-k)=k+1 by omega] at hl;have:=MW _ _ hl
  conv=>lhs;rw [<-this]
  refine List.map_congr_left λi _=>?_;unfold gAt;simp
theorem KL {q:Int} {x y:Q_} (i:x.length=szN sz 0):∀j,j+1<=sz.length->qK sz ps q x y j=(((List.range (sz.length-1)).drop (sz.length-1-j)).flatMap (plK sz)).map (gAt sz ps q x y):=by
 intro j
 induction j with
 | zero=>intro _;rw [Nat.sub_zero,List.drop_eq_nil_of_le V3];rfl
 | succ j ih=>
  intro o
  have h:(List.range (sz.length-1)).drop (sz.length-1-(j+1))=(sz.length-2-j)::(List.range (sz.length-1)).drop (sz.length-1-j):=by
   rw [show sz.length-1-(j+1)=sz.length-2-j by omega];rw [List.drop_eq_getElem_cons V6,List.getElem_range]
   congr 2
   omega
  rw [h,List.flatMap_cons,List.map_append,<-ih ap,qK,<-Qz]
  congr 1
  have:=LC (sz:=sz) (ps:=ps) (q:=q) (x:=x) (y:=y) i (k:=sz.length-2-j) ap;rw [show sz.length-2-j+1=sz.length-1-j by omega,show sz.length-2-(sz.length-2-j)=j by omega] at this;exact this
theorem AE {q:Int} {x y:Q_} (h:x.length=szN sz 0) (hl:1<=sz.length):fR sz ps q x y=(plL sz (sz.length-1)).map (gAt sz ps q x y):=by
 unfold fR;rw [KL h _ ap,Nat.sub_self,Qs];rfl
theorem xh {q:Int} {x y:Q_} (h:x.length=szN sz 0) (hl:1<=sz.length):(fR sz ps q x y).length=bT sz (sz.length-1):=by
 rw [AE h hl,List.length_map,DV]
theorem MG {p:Pl} (h:p∈plL sz n):p.1<n/\p.2.1<szN sz (p.1+1)/\(p.2.2= -1\/(0<=p.2.2/\p.2.2.toNat<szN sz p.1)):=by
 unfold plL at h;obtain ⟨k,hk,h⟩:=List.mem_flatMap.1 h;have hk:=List.mem_range.1 hk;unfold plK at h;rcases QI.1 h with h | h
 .unfold plW at h;obtain ⟨i,o,rfl⟩:=List.mem_map.1 h;have o:=List.mem_range.1 o
  have hc:0<szN sz k:=by
   rcases Nat.eq_zero_or_pos (szN sz k) with u | u
   .rw [u,Nat.mul_zero] at o;omega
   .exact u
  exact ⟨hk,Nat.div_lt_of_lt_mul (by rw [Nat.mul_comm];exact o),.inr ⟨by dsimp only;omega,by dsimp only;rw [Int.toNat_natCast];exact Nat.mod_lt _ hc⟩⟩
 .unfold plB at h;obtain ⟨i,o,rfl⟩:=List.mem_map.1 h;exact ⟨hk,List.mem_range.1 o,.inl rfl⟩
theorem Eg {i:Inp} (h:dX i.cfg.sizes):1<=cnt i:=by
 unfold cnt;have h1:=h.1.1;have:=gn i.cfg.sizes (show 1<=i.cfg.sizes.length-1 by omega);have p:bT i.cfg.sizes 1=0+(szN i.cfg.sizes 0+1)*szN i.cfg.sizes 1:=rfl;have o:=(h.1.at (k:=1) ap).1;have u:1*1<=(szN i.cfg.sizes 0+1)*szN i.cfg.sizes 1:=Nat.mul_le_mul ap o;omega
def dE (i:Inp) (P:Q_) (l:Rl):Q_:=l.foldl (λa x=>eT a (fR i.cfg.sizes P i.cfg.shift x.1 x.2)) (List.replicate (cnt i) 0)
theorem yw (i:Inp) (P:Q_) (l:Rl) (x:Ex):dE i P (l++[x])=eT (dE i P l) (fR i.cfg.sizes P i.cfg.shift x.1 x.2):=by simp [dE]
theorem ik (i:Inp) (P:Q_) (l:Rl):(dE i P l).length=cnt i:=by
 have:∀(l:Rl) (a:Q_),(l.foldl (λa x=>eT a (fR i.cfg.sizes P i.cfg.shift x.1 x.2)) a).length=a.length:=by
  intro l
  induction l with
  | nil=>intro a;rfl
  | cons x l ih=>intro a;rw [List.foldl_cons,ih,gK]
 unfold dE;rw [this,QA]
theorem AF (i:Inp) (P:Q_) (l:Rl):W64 (dE i P l):=by
 have:∀(l:Rl) (a:Q_),W64 a->W64 (l.foldl (λa x=>eT a (fR i.cfg.sizes P i.cfg.shift x.1 x.2)) a):=by
  intro l
  induction l with
  | nil=>intro a h;exact h
  | cons x l ih=>intro a _;exact ih _ (eZ λ_ _=>fD _)
 refine this _ _ λk hk=>?_;rw [dN _ _ hk];simp
def jK (i:Inp) (h:Q_):Prop:=∀k,k<h.length->kv i.data.length (nth h k)
def pq (i:Inp) (P:Q_) (k:Nat):Q_:=dE i P (cI i.data (cN i.draws i.data.length i.cfg.batch.toNat k))
def dq (i:Inp):Nat->Ex
 | 0=>(i.start,List.replicate (cnt i) 0)
 | k+1=>(nu i.cfg.rate i.cfg.mom i.cfg.shift (dq i k).1 (dq i k).2 (pq i (dq i k).1 k),nv i.cfg.mom i.cfg.shift (dq i k).2 (pq i (dq i k).1 k))
theorem vk {i:Inp} (hg:iX i) (k:Nat):jK i (cN i.draws i.data.length i.cfg.batch.toNat k):=λj o=>by
 have h1:=hg.c.w;have p:=hg.c.ba;have u:=hg.b;have h:1<=i.data.length/i.cfg.batch.toNat:=Nat.div_pos ap ap;rw [fV _ h] at o;exact Ia _ h j o
theorem Lb:dM prog 59 141 (.agg #[Ra,Ra]) 2 48:=⟨underlying59,info_parts V1,rfl,by decide⟩
def jX (i:Inp) (n:Nat):Rl:=(List.range n).map (dq i)
theorem vR (i:Inp) (n:Nat):(jX i n).length=n:=by simp [jX]
theorem Iw (i:Inp) (h:j<n):(jX i n)[j]?=some (dq i j):=by simp [jX,h]
theorem tj (i:Inp) (h:i.start.length=cnt i):∀k,(dq i k).1.length=cnt i/\(dq i k).2.length=cnt i:=by
 intro k
 induction k with
 | zero=>exact ⟨h,by simp [dq]⟩
 | succ k ih=>exact ⟨by rw [dq];dsimp only;rw [F4];exact ih.1,by rw [dq];dsimp only;rw [Gd];exact ih.2⟩
theorem IM {base:Nat} {h:R8} {x:Ex} {A1 i:N_} {c1 c2:Nat} (h1:h.ownsRow w.heap.size 2 1 (.slice A1 n c1) n (aA .i64 x.1)) (p:h.ownsRow w.heap.size 2 1 (.slice i n c2) n (aA .i64 x.2)) (hb:base<=w.heap.size) (l1:x.1.length=n) (u:x.2.length=n) (hn:n<=1048576) (o:W64 x.1) (v:W64 x.2):eA h base [.slice A1 n c1,.slice i n c2] x:=
 ⟨_,_,rfl,by rw [l1];exact aF h1 hb,by rw [u];exact aF p hb,ap,ap,o,v⟩
theorem Ng {b:Nat} {v0 v1 v2 v3 v4 v5 v6 v7 v8 v9 v10 v11 o i y x p u:Value} (h:Vg w b #[v0,v1,v2,v3,v4,v5,v6,v7,v8,v9,v10,v11,v,o,i,y,x,p,u] t):(Vh w b 0 v0/\Vh w b 1 v1/\Vh w b 2 v2/\Vh w b 3 v3/\Vh w b 4 v4/\Vh w b 5 v5/\Vh w b 6 v6/\Vh w b 7 v7/\Vh w b 8 v8/\Vh w b 9 v9/\Vh w b 10 v10/\Vh w b 11 v11/\Vh w b 12 v/\Vh w b 13 o/\Vh w b 14 i/\Vh w b 15 y/\Vh w b 16 x/\Vh w b 17 p/\Vh w b 18 u)/\∀j,w.frozen? (ar b j)=false:=by
 have:=bx (vs:=[v0,v1,v2,v3,v4,v5,v6,v7,v8,v9,v10,v11,v,o,i,y,x,p,u]) h;simp only [Bx,Cs,Nat.reduceAdd,and_true] at this;exact ⟨this.1,this.2.2⟩
theorem fH {T:R9} {v:R8} {b:Nat} (h:cT T u b sz) (i:Ext u v):cT T v b sz:=by
 obtain ⟨A1,c1,p,c2,o,c3,y,h1,x,A⟩:=h;exact ⟨A1,c1,p,c2,o,c3,uO (xs:=[_,_,_]) y i,aW h1 i,aW x i,aW A i⟩
theorem iD {v:R8} {S:Nat} {l:Q_} (h:gC u S n batch steps l) (i:Ext u v):gC v S n batch steps l:=by
 obtain ⟨p,x,N,J,vs,h1,C,L,D,I⟩:=h
 exact ⟨p,x,N,J,vs,uO (xs:=[_,_,_]) h1 i,aW C i,aW L i,D,λj B=>by
  obtain ⟨O,H,o,y,A⟩:=I j B
  exact ⟨O,H,o,y,aW A i⟩⟩
theorem cX:Px rEx:=λ⟨A1,c1,p,c2,e,h,i⟩ o=>⟨A1,c1,p,c2,e,⟨h.hc,h.hl,aW h.hr o,h.hw⟩,⟨i.hc,i.hl,aW i.hr o,i.hw⟩⟩
theorem iE {v:R8} {P:Nat} {o a1 x A B y i:Value} (h:fz u P p o a1 x A B y i) (hb:Ext u v):fz v P p o a1 x A B y i:=by
 obtain ⟨BA,bc,N,J,I,C,h1,D,L,H⟩:=h;exact ⟨BA,bc,N,J,I,C,uO (xs:=[_,_,_,_,_,_,_,_,_,_,_,_,_,_]) h1 hb,aW D hb,aW L hb,aW H hb⟩
structure Mst where
 P:Q_
 M:Q_
 G:Q_
 rc:Rl
 st:Nat
 nx:Nat
 op:List Nat
def ax (i:Inp):Pln:=⟨i.cfg.workers.toNat,i.cfg.micros.toNat,i.cfg.bucket.toNat,i.cfg.chunk.toNat,i.cfg.window.toNat,i.start.length⟩
def eg (l:List Nat):Q_:=l.map λj:Nat=>(j:Int)
theorem ma (l:List Nat):(eg l).length=l.length:=by simp [eg]
structure bK (i:Inp):Prop where
 g:iX i
 n:i.start.length<=60
 w:i.cfg.workers<=8
 m:i.cfg.micros<=20
 s:i.cfg.steps<=6
 d:i.data.length<=40
theorem bK.ok {i:Inp} (h:bK i):bU (ax i):=by
 have h1:=h.g.c.w;have v:=h.g.c.mi;have A:=h.g.c.bu;have x:=h.g.c.ch;have y:=h.g.c.wi;have o:=h.n;have p:=h.w;have u:=h.m;exact ⟨by simp only [ax];omega,by simp only [ax];omega,by simp only [ax];omega,by simp only [ax];omega,by simp only [ax];omega,by simp only [ax];omega,by simp only [ax];omega,by simp only [ax];omega⟩
theorem bK.n1 {i:Inp} (h:bK i):1<=(ax i).n:=by
 have:=Eg h.g.c.z;have:=h.g.s;simp only [ax];omega
def cC (i:Inp) (x st:Nat):List Itm:=if st<i.cfg.steps.toNat then aE (ax i) x st else []
structure MAd where
 F:Nat
 E:N_
 ce:Nat
 S:Nat
 PP:Nat
 BA:N_
 bc:Nat
 bp:Nat
 cp:Nat
 bm:Nat
 cm:Nat
 bg:Nat
 cg:Nat
 rb:Nat
 rc:Nat
 IA:N_
 ic:Nat
 ov:Value
def bq (i:Inp) (x:Nat) (m:Mst):Nat:=m.st*(aE (ax i) x 0).length+m.nx
def Mut (b:Nat) (a:MAd) (k:Nat):Prop:=k=b\/k=a.bp\/k=a.bm\/k=a.bg\/k=a.rb\/a.ov.ownBlock=some k
abbrev gW (H:Nat->Prop) (b:Nat) (a:MAd):Nat->Prop:=λk=>Mut b a k\/H k
def xz (V w:R8) (v:Value) (l:Rl):Prop:=∃rows:List (R7),w.ownsRow 0 141 2 v l.length (List.flatten rows)/\rows.length=l.length/\(∀r∈rows,r.length=2)/\∀j x,l[j]?=some x->rEx V (bS rows j) x
structure aU (H:Nat->Prop) (w:R8) (b:Nat) (i:Inp) (x:Nat) (a:MAd) (m:Mst):Prop where
 blk:w.heap[b]?=some (.cells #[QZ (x:Nat),QZ i.cfg.workers,QZ i.cfg.micros,(au a.F),.slice a.E i.data.length a.ce,(au a.S),(au a.PP),.slice a.BA (ax i).buks.length a.bc,QZ i.cfg.rate,QZ i.cfg.mom,QZ i.cfg.shift,.slice (some (ar a.bp 0)) i.start.length a.cp,.slice (some (ar a.bm 0)) i.start.length a.cm,.slice (some (ar a.bg 0)) i.start.length a.cg,.slice (some (ar a.rb 0)) m.rc.length a.rc,.slice a.IA (cC i x m.st).length a.ic,QZ (m.nx:Nat),QZ (bq i x m:Nat),a.ov] 179 (0,0))
 sh:cT 212 (aH (gW H b a) w) a.F i.cfg.sizes
 ex:dx rEx 2 (aH (gW H b a) w) a.E i.data
 sa:gC (aH (gW H b a) w) a.S i.data.length i.cfg.batch.toNat i.cfg.steps.toNat i.draws
 pl:∃a0 a1 a2 a3 a5 a11,fz (aH (gW H b a) w) a.PP (ax i) a0 a1 a2 a3 a5 (QZ (i.cfg.steps.toNat:Nat)) a11
 bu:Rd (aH (gW H b a) w) a.BA (aS (ax i).buks)
 it:Rd (aH (gW H b a) w) a.IA (cE (cC i x m.st))
 re:xz (aH (gW H b a) w) w (.slice (some (ar a.rb 0)) m.rc.length a.rc) m.rc
 oP:w.ownsRow 0 2 1 (.slice (some (ar a.bp 0)) i.start.length a.cp) i.start.length (aA .i64 m.P)
 oM:w.ownsRow 0 2 1 (.slice (some (ar a.bm 0)) i.start.length a.cm) i.start.length (aA .i64 m.M)
 oG:w.ownsRow 0 2 1 (.slice (some (ar a.bg 0)) i.start.length a.cg) i.start.length (aA .i64 m.G)
 oO:w.ownsRow 0 3 1 a.ov m.op.length (aA .i64 (eg m.op))
 dj:a.bp≠a.bm/\a.bp≠a.bg/\a.bm≠a.bg
 hH:∀k,k<w.heap.size->Mut b a k->¬H k
 wP:m.P.length=i.start.length/\W64 m.P
 wM:m.M.length=i.start.length/\W64 m.M
 wG:m.G.length=i.start.length/\W64 m.G
 ox:m.nx<(cC i x m.st).length\/(m.nx=0/\i.cfg.steps.toNat<=m.st)
 xw:x<(ax i).W
theorem xz.ext {V i o:R8} (h:xz V w v l) (he:Ext V i) (p:∀e size n xs,w.ownsRow 0 e size v n xs->o.ownsRow 0 e size v n xs):xz i o v l:=by
 obtain ⟨rows,h1,u,A,y⟩:=h;exact ⟨rows,p _ _ _ _ h1,u,A,λj x B=>cX (y j x B) he⟩
theorem aU.step {b:Nat} {i:Inp} {a:MAd} {m:Mst} (h:aU H w b i x a m) (hk:Keep H w u) (hs:∀k,k<(Ve w)->H' k->H k) (hn:∀k,Mut b a k->¬H' k):aU H' u b i x a m:=by
 have he:Ext (aH (gW H b a) w) (aH (gW H' b a) u):=bC (hk.mono λk _ h=>.inr h) (λk hl D=>D.imp id (hs k hl));have hb:∀k,k<(Ve w)->Mut b a k->u.heap[k]?=w.heap[k]?:=λk hl hm=>hk.block k hl (h.hH k hl hm);have o:∀(v:Value) e size n xs,(∀k,v.ownBlock=some k->Mut b a k)->w.ownsRow 0 e size v n xs->u.ownsRow 0 e size v n xs:=λv e size n xs I o=>hk.own o λk p=>h.hH k (o.lt k p).2 (I k p);have bp:∀k,(Vf a.bp 0 i.start.length a.cp).ownBlock=some k->Mut b a k:=λk e=>by cases e;exact .inr (.inl rfl)
 have bm:∀k,(Vf a.bm 0 i.start.length a.cm).ownBlock=some k->Mut b a k:=λk e=>by cases e;exact .inr (.inr (.inl rfl))
 have bg:∀k,(Vf a.bg 0 i.start.length a.cg).ownBlock=some k->Mut b a k:=λk e=>by cases e;exact .inr (.inr (.inr (.inl rfl)))
 have rb:∀k,(Vf a.rb 0 m.rc.length a.rc).ownBlock=some k->Mut b a k:=λk e=>by cases e;exact .inr (.inr (.inr (.inr (.inl rfl))))
 have ov:∀k,a.ov.ownBlock=some k->Mut b a k:=λk e=>.inr (.inr (.inr (.inr (.inr e))));obtain ⟨B,a1,C,J,L,y,A⟩:=h.pl
 exact ⟨(hb b (PU h.blk) (.inl rfl)).trans h.blk,fH h.sh he,fh cX h.ex he,iD h.sa he,⟨B,a1,C,J,L,y,iE A he⟩,aW h.bu he,aW h.it he,
  h.re.ext he (λe size n xs=>o _ e size n xs rb),o _ _ _ _ _ bp h.oP,o _ _ _ _ _ bm h.oM,o _ _ _ _ _ bg h.oG,o _ _ _ _ _ ov h.oO,h.dj,λk _ hm=>hn k hm,h.wP,h.wM,h.wG,h.ox,h.xw⟩
theorem aU.below {o:R8} {b:Nat} {i:Inp} {a:MAd} {m:Mst} (h:aU H w b i x a m) (hb:aq w o) (hn:∀k,Mut b a k->¬H k):aU H o b i x a m:=h.step (Keep.below hb) (λ_ _ h=>h) hn
def iW (i:Inp) (x k:Nat):List Itm:=(List.range k).flatMap λt=>aE (ax i) x t
abbrev dA (i:Inp) (x:Nat):List Itm:=iW i x i.cfg.steps.toNat
theorem im (i:Inp) (x k:Nat):iW i x (k+1)=iW i x k++aE (ax i) x k:=by simp [iW,QL]
theorem kD {i:Inp} (h:bU (ax i)) (x k:Nat):(iW i x k).length=k*(aE (ax i) x 0).length:=by
 induction k with
 | zero=>simp [iW]
 | succ k ih=>rw [im,Qt,ih,ku h x k,QM]
theorem Ep {i:Inp} (o:bU (ax i)) {nx:Nat} (p:(aE (ax i) x st)[nx]?=some y):∀{k:Nat},st<k->(iW i x k)[st*(aE (ax i) x 0).length+nx]?=some y
 | 0,h=>absurd h (Nat.not_lt_zero _)
 | k+1,h=>by
  have hl:=kD o x k;have hn:=(Qu.1 p).1;rw [ku o] at hn;rw [im];rcases Qf st k with u | u
  .have h1:=QY (aE (ax i) x 0).length (Nat.succ_le_of_lt u);rw [QM] at h1;rw [Qw ap];exact Ep o p u
  .obtain rfl:st=k:=ap;rw [Qx ap,hl,Nat.add_sub_cancel_left];exact p
def jw (j:Nat) (b:Bool) (y:Itm):Bool:=if y.kind=5/\y.n=j then false else if y.kind=2/\y.n=j then true else b
def vB (h:List Itm) (dn j:Nat):Bool:=(h.take dn).foldl (jw j) false
def oV (h:List Itm) (dn nb:Nat):List Nat:=(List.range nb).filter λj=>vB h dn j
theorem GG {i:List Itm} (h:i[k]?=some y) (j:Nat):vB i (k+1) j=jw j (vB i k j) y:=by
 obtain ⟨hk,e⟩:=Qu.1 h;unfold vB;rw [List.take_succ_eq_append_getElem hk,e,List.foldl_append];rfl
theorem wK (h:List Itm) (dn nb:Nat):oV h dn (nb+1)=oV h dn nb++if vB h dn nb then [nb] else []:=by
 unfold oV;rw [QL,List.filter_append]
 congr 1
 simp only [List.filter_cons,List.filter_nil]
theorem MN (h:List Itm) (dn nb:Nat):(oV h dn nb).length<=nb:=by
 unfold oV;exact P4 (List.length_filter_le _ _) V3
structure Cor where
 st:Nat
 bk:Nat
 ph:Nat
 rd:Nat
 ch:Nat
 at':Rg
def Acn.cor (a:Acn):Cor:=⟨a.st,a.bk,a.ph,a.rd,a.ch,a.at'⟩
def cF (l:List Itm):List Acn:=l.filterMap (·.a)
def ie (l:List Itm):List Cor:=((cF l).filter λa=>a.send).map Acn.cor
def iz (l:List Itm):List Cor:=((cF l).filter λa=> !a.send).map Acn.cor
theorem fk (l r:List Itm):cF (l++r)=cF l++cF r:=List.filterMap_append ..
theorem vZ (l r:List Itm):ie (l++r)=ie l++ie r:=by simp [ie,fk]
theorem wz (l r:List Itm):iz (l++r)=iz l++iz r:=by simp [iz,fk]
theorem mq {α:Type} (l:List α) (f:α->List Itm):cF (l.flatMap f)=l.flatMap λx=>cF (f x):=by
 induction l with
 | nil=>rfl
 | cons x l ih=>rw [List.flatMap_cons,fk,ih,List.flatMap_cons]
theorem eP {α β:Type} {l:List α} {f g:α->List β} (h:∀x∈l,f x=g x):l.flatMap f=l.flatMap g:=by
 induction l with
 | nil=>rfl
 | cons x l ih=>rw [List.flatMap_cons,List.flatMap_cons,h x V3,ih λy i=>h y (by simp [i])]
theorem rK {α:Type} (l:List α) (f:α->Itm) (h:∀x,(f x).a=none):cF (l.map f)=[]:=by
 induction l with
 | nil=>rfl
 | cons x l ih=>rw [List.map_cons,cF,List.filterMap_cons,h x];exact ih
theorem Dn (p:Pln) (w st ph r j:Nat):cF (cz p w st ph r j)=db st j (aK p.buks j) p.W p.ck w ph r:=by
 unfold cz cF;rw [List.filterMap_map];generalize db st j (aK p.buks j) p.W p.ck w ph r=l
 induction l with
 | nil=>rfl
 | cons x l ih=>rw [List.filterMap_cons];show x::_=_;rw [ih]
def nS (p:Pln) (w st a n:Nat):List Acn:=(List.range 2).flatMap λph=>(List.range (p.W-1)).flatMap λr=>(List.range n).flatMap λj=>db st (a+j) (aK p.buks (a+j)) p.W p.ck w ph r
theorem Dp (p:Pln) (w st:Nat) (g:Rg):cF (dt p w st g)=nS p w st g.1 (g.2-g.1):=by
 unfold dt nS;rw [fk,fk,rK _ _ (λ_=>rfl),rK _ _ (λ_=>rfl),List.append_nil,List.nil_append,mq];refine eP λph _=>?_;rw [mq];refine eP λr _=>?_;rw [mq,List.range'_eq_map_range,List.flatMap_map];exact eP λj _=>Dn p w st ph r _
def nQ (p:Pln) (w st:Nat):List Acn:=(List.range (di p.buks.length p.wi)).flatMap λk=>nS p w st (k*p.wi) (min (k*p.wi+p.wi) p.buks.length-k*p.wi)
theorem jW (p:Pln) (w st:Nat):cF (aE p w st)=nQ p w st:=by
 unfold aE nQ;rw [fk,fk,rK _ _ (λ_=>rfl),List.nil_append,mq]
 show _++[]=_
 rw [List.append_nil,Pln.grps,fp,List.flatMap_map];exact eP λk _=>Dp p w st _
theorem Bi (i:Inp) (x k:Nat):cF (iW i x k)=(List.range k).flatMap λst=>nQ (ax i) x st:=by
 unfold iW;rw [mq];exact eP λst _=>jW _ _ _
theorem pO {β:Type} (f:Nat->β) (a:Nat):∀m,((List.range m).flatMap λi=>if i<a then [f i] else [])=(List.range (min m a)).map f
 | 0=>by simp
 | m+1=>by
  rw [QL,List.flatMap_append,pO f a m];by_cases h:m<a
  .rw [show min (m+1) a=min m a+1 by omega,QL,List.map_append];simp [h,show min m a=m by omega]
  .rw [show min (m+1) a=min m a by omega];simp [h]
theorem FK (x y:List Rg) (f g:Nat->Rg->Acn) (o:∀i r,(f i r).send=true) (hg:∀i r,(g i r).send=false):(iR x y f g).filter (λa=>a.send)=(List.range x.length).map λi=>f i (aK x i):=by
 unfold iR;rw [List.filter_flatMap]
 have:∀i:Nat,List.filter (λa:Acn=>a.send) ((if i<x.length then [f i (aK x i)] else [])++(if i<y.length then [g i (aK y i)] else []))=if i<x.length then [f i (aK x i)] else []:=λi=>by
  by_cases h1:i<x.length<;>by_cases h:i<y.length<;>simp [h1,h,o,hg]
 simp only [this];rw [pO (λi=>f i (aK x i)),show min (max x.length y.length) x.length=x.length by omega]
theorem FL (x y:List Rg) (f g:Nat->Rg->Acn) (o:∀i r,(f i r).send=true) (hg:∀i r,(g i r).send=false):(iR x y f g).filter (λa=> !a.send)=(List.range y.length).map λi=>g i (aK y i):=by
 unfold iR;rw [List.filter_flatMap]
 have:∀i:Nat,List.filter (λa:Acn=> !a.send) ((if i<x.length then [f i (aK x i)] else [])++(if i<y.length then [g i (aK y i)] else []))=if i<y.length then [g i (aK y i)] else []:=λi=>by
  by_cases h1:i<x.length<;>by_cases h:i<y.length<;>simp [h1,h,o,hg]
 simp only [this];rw [pO (λi=>g i (aK y i)),show min (max x.length y.length) y.length=y.length by omega]
theorem zb {W:Nat} (hr:r<W-1):cV W x ph r=cH W ((x+1)%W) ph r:=by
 unfold cV cH;rw [Nat.mod_add_mod]
 congr 1
 omega
theorem Cc (st bk:Nat) (b:Rg) (W c x ph r:Nat) (hr:r<W-1):((db st bk b W c x ph r).filter λa=>a.send).map Acn.cor=((db st bk b W c ((x+1)%W) ph r).filter λa=> !a.send).map Acn.cor:=by
 unfold db;rw [FK _ _ _ _ (λ_ _=>rfl) (λ_ _=>rfl),FL _ _ _ _ (λ_ _=>rfl) (λ_ _=>rfl),<-zb hr,List.map_map,List.map_map];rfl
theorem un (i:Inp) (x k:Nat):ie (iW i x k)=iz (iW i ((x+1)%(ax i).W) k):=by
 unfold ie iz;rw [Bi,Bi];simp only [nQ,nS,List.filter_flatMap,List.map_flatMap];refine eP λst _=>eP λg _=>eP λph _=>eP λr hr=>eP λj _=>?_;exact Cc _ _ _ _ _ _ _ _ (List.mem_range.1 hr)
def Cor.q (wi:Nat) (c:Cor):Nat:=((((c.st*64+c.bk/wi)*2+c.ph)*64+c.rd)*64+c.bk)*128+c.ch
def Acn.key (wi:Nat) (a:Acn):Nat:=2*a.cor.q wi+(if a.send then 0 else 1)
theorem lX {bk:Nat} {b:Rg} {W:Nat} {a:Acn} (h:a∈db st bk b W c x ph r):a.st=st/\a.bk=bk/\a.ph=ph/\a.rd=r/\a.ch<(db st bk b W c x ph r).length:=by
 rw [ke];unfold db iR at h;obtain ⟨i,o,h⟩:=List.mem_flatMap.1 h;rw [List.mem_range] at o;rw [QI] at h;rcases h with h | h<;>split at h
 .simp only [List.mem_singleton] at h;subst h;exact ⟨rfl,rfl,rfl,rfl,by show i<_;omega⟩
 .simp at h
 .simp only [List.mem_singleton] at h;subst h;exact ⟨rfl,rfl,rfl,rfl,by show i<_;omega⟩
 .simp at h
theorem nm {β:Type} {R:β->β->Prop} {f:Nat->List β} (h1:∀k,k<n->(f k).Pairwise R) (u:∀k h,k<h->h<n->∀a∈f k,∀b∈f h,R a b):((List.range n).flatMap f).Pairwise R:=by
 rw [List.pairwise_flatMap];refine ⟨λk hk=>h1 k (List.mem_range.1 hk),?_⟩;refine List.Pairwise.imp_of_mem ?_ (List.pairwise_lt_range (n:=n));intro k h _ i o;exact λa p b hb=>u k h o (List.mem_range.1 i) a p b hb
theorem Jj (wi st bk:Nat) (b:Rg) (W c x ph r:Nat):(db st bk b W c x ph r).Pairwise λa b=>a.key wi<b.key wi:=by
 unfold db iR;refine nm (λk _=>?_) (λk p o _ a i d h=>?_)
 .split<;>split<;>simp [Acn.key,Acn.cor,Cor.q]
 .rw [QI] at i h
  have u:a.key wi<=2*(((((st*64+bk/wi)*2+ph)*64+r)*64+bk)*128+k)+1:=by
   rcases i with i | i<;>split at i
   .simp only [List.mem_singleton] at i;subst i;simp only [Acn.key,Acn.cor,Cor.q];split<;>omega
   .simp at i
   .simp only [List.mem_singleton] at i;subst i;simp only [Acn.key,Acn.cor,Cor.q];split<;>omega
   .simp at i
  have v:2*(((((st*64+bk/wi)*2+ph)*64+r)*64+bk)*128+p)<=d.key wi:=by
   rcases h with h | h<;>split at h
   .simp only [List.mem_singleton] at h;subst h;simp only [Acn.key,Acn.cor,Cor.q];split<;>omega
   .simp at h
   .simp only [List.mem_singleton] at h;subst h;simp only [Acn.key,Acn.cor,Cor.q];split<;>omega
   .simp at h
  omega
structure InS (p:Pln) (st:Nat) (a:Acn):Prop where
 st:a.st=st
 g:a.bk/p.wi<64
 ph:a.ph<2
 rd:a.rd<64
 bk:a.bk<64
 ch:a.ch<128
theorem rM (h:bU p) {w:Nat} (hn:s+n<=p.buks.length) {a:Acn} (i:a∈nS p w st s n):InS p st a/\s<=a.bk/\a.bk<s+n:=by
 simp only [nS,List.mem_flatMap,List.mem_range] at i;obtain ⟨ph,u,r,hr,j,y,i⟩:=i;obtain ⟨h1,A,D,B,C⟩:=lX i;have hb:=h.buks;have o:=h.round w st ph r (s+j);rw [cz,List.length_map] at o;have x:=h.W8;have v:=Nat.div_le_self a.bk p.wi;exact ⟨⟨h1,ap,ap,ap,ap,ap⟩,ap,ap⟩
theorem rz {a b:Acn} (h:a.cor.q wi<b.cor.q wi):a.key wi<b.key wi:=by
 unfold Acn.key;split<;>split<;>omega
theorem LS (h:bU p) (w st k n:Nat) (hn:k*p.wi+n<=p.buks.length) (hw:n<=p.wi):(nS p w st (k*p.wi) n).Pairwise λa b=>a.key p.wi<b.key p.wi:=by
 have hb:=h.buks
 have L:∀j,j<n->(k*p.wi+j)/p.wi=k:=λj v=>by
  rw [Nat.mul_comm,Nat.mul_add_div (by have:=h.wi;omega),Nat.div_eq_of_lt ap,Nat.add_zero]
 have hm:∀{ph r j:Nat} {a:Acn},a∈db st (k*p.wi+j) (aK p.buks (k*p.wi+j)) p.W p.ck w ph r->j<n->a.cor.q p.wi=((((st*64+k)*2+ph)*64+r)*64+(k*p.wi+j))*128+a.ch/\a.ch<128:=λ{ph r j a} o v=>by
  obtain ⟨h1,Q,U,T,Y⟩:=lX o;have A:=h.round w st ph r (k*p.wi+j);rw [cz,List.length_map] at A;refine ⟨?_,ap⟩;simp only [Cor.q,Acn.cor,h1,Q,U,T,L j v]
 have V:=h.W8;unfold nS;refine nm (λph R=>nm (λr hr=>nm (λj v=>Jj _ _ _ _ _ _ _ _ _) ?_) ?_) ?_
 .intro j B x u a o b i;obtain ⟨H,D⟩:=hm o ap;obtain ⟨I,J⟩:=hm i u;exact rz ap
 .intro r O x y a o b i;simp only [List.mem_flatMap,List.mem_range] at o i;obtain ⟨j,v,o⟩:=o;obtain ⟨B,u,i⟩:=i;obtain ⟨H,D⟩:=hm o v;obtain ⟨I,J⟩:=hm i u;exact rz ap
 .intro ph N x C a o b i;simp only [List.mem_flatMap,List.mem_range] at o i;obtain ⟨r,hr,j,v,o⟩:=o;obtain ⟨O,y,B,u,i⟩:=i;obtain ⟨H,D⟩:=hm o v;obtain ⟨I,J⟩:=hm i u;exact rz ap
theorem mr (h:bU p) (hk:k<di p.buks.length p.wi):k*p.wi+(min (k*p.wi+p.wi) p.buks.length-k*p.wi)<=p.buks.length/\min (k*p.wi+p.wi) p.buks.length-k*p.wi<=p.wi:=by
 have:=iH hk;omega
theorem If (h:bU p) {w:Nat} {a:Acn} (i:a∈nQ p w st):InS p st a:=by
 simp only [nQ,List.mem_flatMap,List.mem_range] at i;obtain ⟨k,hk,i⟩:=i;exact (rM h (mr h hk).1 i).1
theorem LR (h:bU p) (w st:Nat):(nQ p w st).Pairwise λa b=>a.key p.wi<b.key p.wi:=by
 unfold nQ;refine nm (λk hk=>LS h w st k _ (mr h hk).1 (mr h hk).2) ?_;intro k A u i a y b hb;have g1:=mr h (show k<di p.buks.length p.wi by omega);have o:=mr h i;obtain ⟨m1,B,D⟩:=rM h g1.1 y;obtain ⟨x,b3,b4⟩:=rM h o.1 hb;have v:=h.wi
 have C:a.bk/p.wi<=k:=by
  have:=Nat.div_lt_of_lt_mul (show a.bk<p.wi*(k+1) by rw [Nat.mul_add,Nat.mul_comm];omega);omega
 have H:A<=b.bk/p.wi:=(Nat.le_div_iff_mul_le ap).2 b3;refine rz ?_;have:=m1.ph;have:=m1.rd;have:=m1.bk;have:=m1.ch;have:=m1.st;have:=x.st;simp only [Cor.q,Acn.cor];omega
theorem uT:dM prog 185 187 (.agg #[QZ 0,QZ 0]) 2 16:=⟨underlying185,info_parts V1,rfl,by decide⟩
def Dj (n s k:Nat):List Rg:=(List.range k).map λj=>(j*s,min (j*s+s) n)
theorem H9 (n s k:Nat):Dj n s (k+1)=Dj n s k++[(k*s,min (k*s+s) n)]:=by simp [Dj,QL]
theorem LF (n s k:Nat):(Dj n s k).length=k:=by simp [Dj]
theorem Oq (n s:Nat):fp n s=Dj n s (di n s):=rfl
theorem Nf (hs:1<=s) (h:di n s<=k):n<=k*s:=by
 rcases Nat.eq_zero_or_pos n with rfl | hn
 .omega
 .rw [sX n s hs] at h;have h1:=Nat.div_add_mod (n+s-1) s;have i:=Nat.mod_lt (n+s-1) (show 0<s by omega);have p:s*((n+s-1)/s)<=s*k:=Nat.mul_le_mul_left s h;have o:s*k=k*s:=Nat.mul_comm _ _;omega
theorem tZ (n s:Nat) (w:R8) (hn:n<=1048576) (hs:1<=s) (a5:s<=1048576):Vj 148 #[QZ n,QZ s] w λe V=>∃v,Vi e v/\V.ownsRow w.heap.size 187 2 v (fp n s).length (aS (fp n s))/\aq w V:=by
 have a4:¬((s:Int)<1):=ap;by_cases h0:n=0
 .subst h0;go_enter func148,ntmps148;go_wp2;go_ret;exact ⟨_,rfl,Qb _ _ _ _,PY _ _⟩
 .have a2:¬((n:Int)<1):=ap;have hc:=gj n s;have hl:=λk (h:k<di n s)=>iH h;have hg:=λk (h:di n s<=k)=>Nf hs h;rw [Oq,LF];obtain ⟨m,hm⟩:=Vb (di n s);rw [hm] at hc hl hg |-;obtain ⟨Hl,Hg⟩:=ae hl hg;clear hm hl hg;go_enter func148,ntmps148;go_wp2
  go_loopw [5,6] (λv x wr=>∃k:Nat,k<=m/\x=QZ (min (k*s) n:Nat)/\wr.ownsRow w.heap.size 187 2 v k (aS (Dj n s k))/\aq w wr) (λ_ x _=>n-(intOf x).toNat)
  .exact ⟨0,PZ _,by simp,Qb _ _ _ _,PY _ _⟩
  case round=>
   obtain ⟨k,hk,rfl,L,hb⟩:=hrel;by_cases T:k<m
   .have U:=Hl.o k T;have u:=H9 n s k;have D:(k+1)*s=k*s+s:=QM k s;obtain ⟨y,Z⟩:=Vb (k*s);rw [Z] at U u D |-;rw [show min y n=y by omega];have a3:(y:Int)<n:=ap;obtain ⟨A,c,rfl,_⟩:=aC L;obtain ⟨z,R⟩:=Vb (min (y+s) n);rw [R] at u;obtain ⟨N,I,Q,O,Y⟩:=ah u D L hb R;have J:=hb.size;clear u D L hb Z;by_cases a0:(s:Int)<(n:Int)-y
    .obtain rfl:z=y+s:=ap;clear R;go_wp2_with (at_builtin;refine aV uT _ rfl (.tmp 26) (.tmp 30) rfl (Ve w) (.slice A k c) k _ rfl Q.o [QZ (y:Int),QZ ((y:Int)+s)] rfl rfl (cU .i64 [_,_]) ap V2 J ?_);intro g6 c6 w6 i p H;obtain ⟨C,B⟩:=ae i (O.o.trans p);clear i p H;go_wp2;go_roundw
     .exact ⟨k+1,ap,by rw [I.o,Y.o];push_cast;rfl,by rw [N.o,iQ];exact C.o,B.o⟩
     .simp [intOf];omega
    .obtain rfl:z=n:=ap;clear R;go_wp2_with (at_builtin;refine aV uT _ rfl (.tmp 26) (.tmp 30) rfl (Ve w) (.slice A k c) k _ rfl Q.o [QZ (y:Int),Vd z] rfl rfl (cU .i64 [_,_]) ap V2 J ?_);intro g6 c6 w6 i p H;obtain ⟨C,B⟩:=ae i (O.o.trans p);clear i p H;go_wp2;go_roundw
     .exact ⟨k+1,ap,by rw [I.o,Y.o],by rw [N.o,iQ];exact C.o,B.o⟩
     .simp [intOf];omega
   .have a1:=Hg.o k ap;obtain rfl:k=m:=ap;rw [show min (k*s) n=n by omega];have a6:¬((n:Int)<n):=ap;obtain ⟨Q,O⟩:=ae L hb;clear L hb;go_wp2;go_ret;exact ⟨_,rfl,Q.o,O.o⟩
theorem zl (n s:Nat) (w:R8) (hn:n<=1048576) (hs:1<=s) (h:s<=1048576):Vj 102 #[QZ n,QZ s] w λe p=>∃v,Vi e v/\p.ownsRow w.heap.size 187 2 v (fp n s).length (aS (fp n s))/\aq w p:=by
 have hb:=tZ n s w hn hs h;have A:=aa hb;clear hb;go_enter func102,ntmps102;go_wp2_with fail;refine A.o.mono ?_;rintro e B ⟨v,rfl,u,i⟩;obtain ⟨y,x⟩:=ae u i;clear u i;go_wp2;go_ret;exact ⟨_,rfl,y.o,x.o⟩
def szs (k m:Nat):Q_:=(List.range k).map λi=>(szE k m i:Int)
theorem nV (k m:Nat):(szs k m).length=k:=by simp [szs]
theorem Dx {i:Nat} (h:i<k):nth (szs k m) i=(szE k m i:Int):=by rw [dN _ _ (by rw [nV];exact h)];simp [szs]
theorem IB (k:Nat):List.replicate k (0:Int)=szs k 0:=by
 refine List.ext_getElem (by simp [nV]) λi h1 h=>?_;simp [szs,ID]
theorem IC (hk:0<k):(szs k m).set (m%k) ((szE k m (m%k):Int)+1)=szs k (m+1):=by
 refine List.ext_getElem (by simp [nV]) λi h1 u=>?_;have p:i<k:=by simpa [nV] using h1
 rw [List.getElem_set];have o:=IE (m:=m) p;by_cases h:m%k=i
 .subst h;rw [if_pos rfl];simp only [szs,List.getElem_map,List.getElem_range];rw [o,if_pos rfl];push_cast;rfl
 .rw [if_neg h];simp only [szs,List.getElem_map,List.getElem_range];rw [o,if_neg (λe=>h e.symm),Nat.add_zero]
theorem IF (k m i:Nat):szE k m i<=m+1:=by
 unfold szE;have:=Nat.div_le_self m k
 split<;>omega
def evK (n k m:Nat):List Rg:=(List.range m).map λi=>(bdN n k i,bdN n k (i+1))
theorem KZ (n k m:Nat):evK n k (m+1)=evK n k m++[(bdN n k m,bdN n k m+szE k n m)]:=by
 rw [<-qN];exact uQ n k m
theorem wu (n k:Nat) (w:R8) (h1:1<=k) (h2:k<=1048576) (h3:n<=1048576):Vj 180 #[QZ n,QZ k] w λe V=>∃v,Vi e v/\V.ownsRow w.heap.size 187 2 v k (aS (fT n k))/\aq w V:=by
 have av:¬((n:Int)<0):=ap;have aP:¬((k:Int)<1):=ap;have aG:¬(k=0):=ap;obtain ⟨W0,O,o0,Q⟩:=nk gi w rfl k ap V2;rw [fB,IB] at o0;obtain ⟨a1,O0⟩:=ae Q o0;clear Q o0;go_enter func180,ntmps180;go_wp2_with fail;clear O
 go_loopw [6] (λy wr=>∃m:Nat,m<=n/\y=QZ m/\wr.ownsRow w.heap.size 3 1 (Vf w.heap.size 0 k k) k (aA .i64 (szs k m))/\aq w wr) (λy _=>n-(intOf y).toNat)
 .exact ⟨0,PZ _,rfl,O0.o,a1.o⟩
 case round=>
  obtain ⟨m,hm,rfl,J,hb⟩:=hrel;by_cases u:m<n
  .have I:(m:Int)<n:=ap;have a9:(m:Int).tmod (k:Int)=((m%k:Nat):Int):=rfl;have a3:(m:Int)%(k:Int)=((m%k:Nat):Int):=rfl;have C:m%k<k:=Nat.mod_lt _ h1;have h:=IC (m:=m) h1;have hc:=J.cellAt (m%k) ap;rw [ns _ _ _ (by rw [nV];exact C),Dx C] at hc;have x:=IF k m (m%k);have hf:=λj=>J.frozenAt j;obtain ⟨r,hr⟩:=Vb (m%k);rw [hr] at a9 a3 C h hc x;have ad:(r:Int)<k:=ap;obtain ⟨s,hs⟩:=Vb (szE k m r);rw [hs] at h hc x;have a8:IntKind.i64.wrap ((m:Int)+1)=((m+1:Nat):Int):=by rw [P3 _ ap];push_cast;rfl
   have D:=(J.stored r (QZ ((s:Int)+1))).1;rw [zR,h] at D;have U:=Vk w.heap.size (Keep.refl _ wr) (ar w.heap.size r) (.inr rfl) (QZ ((s:Int)+1));obtain ⟨a0,N⟩:=ae D (hb.trans (U.toBelow hb.size (λj hj=>ap)));clear J hb hr hs h D U;go_wp2;go_roundw
   .exact ⟨m+1,ap,Vc,a0.o,N.o⟩
   .simp [intOf];omega
  .have I:¬((m:Int)<n):=ap;obtain rfl:n=m:=ap;obtain ⟨Ho,N⟩:=ae J hb;clear J hb;go_wp2_with fail;obtain ⟨R,rfl⟩:∃R:R8,R=wr:=⟨_,rfl⟩
   go_loopw [7,8,9] (λv z y wr=>∃m:Nat,m<=k/\y=QZ m/\z=Vd (bdN n k m)/\wr.ownsRow R.heap.size 187 2 v m (aS (evK n k m))/\aq R wr) (λ_ _ y _=>k-(intOf y).toNat)
   .exact ⟨0,PZ _,rfl,by simp [bdN],Qb _ _ _ _,PY _ _⟩
   case round=>
    obtain ⟨m,hm,rfl,rfl,i,q⟩:=hrel;by_cases u:m<k
    .have I:(m:Int)<k:=ap;have a8:IntKind.i64.wrap ((m:Int)+1)=((m+1:Nat):Int):=by rw [P3 _ ap];push_cast;rfl
     have hc:=Ho.o.cellAt m ap;rw [ns _ _ _ (by rw [nV];exact u),Dx u] at hc;have x:=IF k n m;have Z:=fU n k m h1 hm;have ao:=fU n k (m+1) h1 u;have h:=KZ n k m;have p:=qN n k m;obtain ⟨s,hs⟩:=Vb (szE k n m);rw [hs] at hc x h p;have T:=aw q hc;obtain ⟨b,hb⟩:=Vb (bdN n k m);rw [hb] at Z h p |-;obtain ⟨A,c,rfl,_⟩:=aC i;obtain ⟨B,Y,ab,a6⟩:=ag i q h p;have a4:=q.size;have aM:=aB T;have d2:=λV (q':aq wr V)=>aw q' T;have Hc:=aa hc;clear i q h p hb hs hc;go_wp2_with (at_builtin;refine aV uT _ rfl (.tmp 36) (.tmp 45) rfl R.heap.size (.slice A m c) m _ rfl B.o [Vd b,QZ ((b:Int)+s)] rfl rfl (cU .i64 [_,_]) ap V2 a4 ?_);intro g6 c6 w6 L H a7;obtain ⟨a5,a2⟩:=ae L (Y.o.trans H);have d6:=aw (Y.o.trans H) Hc.o;clear L H a7;go_wp2;go_roundw
     .exact ⟨m+1,ap,Vc,by rw [a6.o];push_cast;rfl,by rw [ab.o,iQ];exact a5.o,a2.o⟩
     .simp [intOf];omega
    .have I:¬((m:Int)<k):=ap;obtain rfl:k=m:=ap;obtain ⟨B,Y⟩:=ae (aF (base':=w.heap.size) i N.o.size) (N.o.trans (q.mono N.o.size));clear i q;go_wp2;go_ret;exact ⟨_,rfl,B.o,Y.o⟩
theorem IV {d:Nat} {l:List Rg} (h:m<l.length):shR d (l.take (m+1))=shR d (l.take m)++[((aK l m).1+d,(aK l m).2+d)]:=by
 rw [List.take_succ_eq_append_getElem h,cZ _ _ h,shR,List.map_append];rfl
theorem wh (A:N_) (l:List Rg) (n c d:Nat) (w:R8) (hA:Rd w A (aS l)) (hn:l.length=n) (h1:n<=1048576) (h2:d<=1048576) (h3:∀r∈l,r.1<=1048576/\r.2<=1048576):Vj 193 #[.slice A n c,QZ d] w λe x=>∃v,Vi e v/\x.ownsRow w.heap.size 187 2 v n (aS (shR d l))/\aq w x:=by
 obtain ⟨O,H3,Hn⟩:=af hA h3 hn;clear hA h3 hn;go_enter func193,ntmps193;go_wp2
 go_loopw [5,6] (λv y wr=>∃m:Nat,m<=n/\y=QZ m/\wr.ownsRow w.heap.size 187 2 v m (aS (shR d (l.take m)))/\aq w wr) (λ_ y _=>n-(intOf y).toNat)
 .exact ⟨0,PZ _,rfl,Qb _ _ _ _,PY _ _⟩
 case round=>
  obtain ⟨m,hm,rfl,B,q⟩:=hrel;by_cases Z:m<n
  .have a4:(m:Int)<n:=ap;have a5:IntKind.i64.wrap ((m:Int)+1)=((m+1:Nat):Int):=by rw [P3 _ ap];push_cast;rfl
   obtain ⟨Av,cv,rfl,_⟩:=aC B;obtain ⟨v,hv⟩:=Vb (Value.slice Av m cv);rw [hv] at B |-;have I:m<l.length:=by rw [Hn.o];exact Z
   have D:=eO I;obtain ⟨bb,bo,rfl,i⟩:=O.o _ _ D.1;obtain ⟨J,a2,e',h⟩:=O.o _ _ D.2;obtain ⟨rfl,rfl⟩:J=bb/\a2=bo:=by simpa using e'.symm
   rw [<-QO] at h;have R:=H3.o (aK l m) (by rw [cZ _ _ I];exact List.getElem_mem _);have p:=IV (d:=d) I;obtain ⟨C,H,Q⟩:∃C H,aK l m=(C,H):=⟨_,_,rfl⟩;rw [Q] at i h R p;dsimp only at i h R p;have L:=aB i;have nb:¬v.ownBlock=some J:=λe=>by have:=(B.lt _ e).1;simp only at L;omega
   have d0:=λx (q':Keep (λj=>v.ownBlock=some j) wr x)=>q'.cell (aw q i) nb;have d1:=λx (q':Keep (λj=>v.ownBlock=some j) wr x)=>q'.cell (aw q h) nb;have w1:IntKind.i64.wrap ((C:Int)+d)=(C:Int)+d:=P3 _ ap;have w2:IntKind.i64.wrap ((H:Int)+d)=(H:Int)+d:=P3 _ ap;have a3:=q.size;obtain ⟨Y,Hq,a0⟩:=af B q p;have U:Keep (λj=>v.ownBlock=some j) wr wr.drew:=(Keep.refl _ _).drew;clear B q p Q D e' i h nb L;go_wp2;refine HA.g (λx:R8=>Keep (λj=>v.ownBlock=some j) wr x) ?_;refine HA.t ?_ [0,1,2,3,4,5,6,7,8,9,10,11,12,13,14,15] U ?_;refine HA.v 16 (wr.drew.alloc (.cells #[QZ ((C:Int)+d),QZ ((H:Int)+d)] 187)) (Vf wr.heap.size 0 1 1) (U.alloc _) ?_;refine HA.o 17 (λK' hK=>?_);have hO:=(Y.o.drew).alloc (.cells #[QZ ((C:Int)+d),QZ ((H:Int)+d)] 187);refine bY uT (.tmp 13) (.tmp 29) rfl rfl w.heap.size v m _ rfl hO (some (ar wr.heap.size 0)) 1 1 [QZ ((C:Int)+d),QZ ((H:Int)+d)] rfl (λk u hu=>⟨_,_,rfl,by rw [QP,PX _ wr.heap.size k _ 187 (0,0) (PW wr.drew _)];simpa using hu⟩) rfl V5 ap V2 V6 ?_;intro A5 c5 w5 N a1 T _;have V:Keep (λj=>v.ownBlock=some j) wr w5:=(U.alloc _).grown T (λk hk=>.inr hk);refine hK.out _ _ V λ_=>?_;refine HA.t ?_ [18] V ?_;refine HA.d ?_;obtain ⟨O5,Q5⟩:=ae N (Hq.o.trans (V.toBelow a3 (λj hj=>(Y.o.lt j hj).1)));clear N a1 T d0 d1 w1 w2 U V hK K' hO;go_wp2;go_roundw
   .exact ⟨m+1,ap,Vc,by rw [a0.o,iQ];simpa [aS] using O5.o,Q5.o⟩
   .simp [intOf];omega
  .have a4:¬((m:Int)<n):=ap;obtain rfl:n=m:=ap;rw [List.take_of_length_le (by rw [Hn.o];exact PV _)] at B;obtain ⟨Y,Hb⟩:=ae B q;clear B q;go_wp2;go_ret;exact ⟨_,rfl,Y.o,Hb.o⟩
theorem Jq {l:List Rg} (h:m<l.length):l.reverse.take (m+1)=l.reverse.take m++[aK l (l.length-1-m)]:=by
 rw [List.take_succ_eq_append_getElem (by simpa using h),List.getElem_reverse,<-cZ l _ ap]
theorem Cu (n s:Nat) (w:R8) (hn:n<=1048576) (hs:1<=s) (a2:s<=1048576):Vj 138 #[QZ n,QZ s] w λe w'=>∃v,Vi e v/\w'.ownsRow w.heap.size 187 2 v (pZ n s).length (aS (pZ n s))/\aq w w':=by
 have hb:=tZ n s w hn hs a2;have p:pZ n s=(fp n s).reverse:=rfl;have C:(pZ n s).length=(fp n s).length:=by rw [p,List.length_reverse]
 rw [C];have u:=gj n s;rw [<-fj] at u;obtain ⟨l,hl⟩:=Vb (fp n s);rw [hl] at hb p u |-;obtain ⟨N,hN⟩:=Vb l.length;rw [hN] at hb u |-;rw [p];obtain ⟨Hb,HN⟩:=ae hb hN;clear hb p C hl hN;go_enter func138,ntmps138;go_wp2_with fail;refine Hb.o.mono ?_;rintro e L ⟨v1,rfl,o1,k1⟩;obtain ⟨A,c,rfl,_⟩:=aC o1;obtain ⟨O1,V⟩:=ae o1 k1;clear o1 k1;go_wp2
 go_loopw [6,7] (λv y wr=>∃m:Nat,m<=N/\y=QZ ((N:Int)-1-m)/\wr.ownsRow L.heap.size 187 2 v m (aS (l.reverse.take m))/\aq L wr) (λ_ y _=>(intOf y+1).toNat)
 .exact ⟨0,PZ _,Vc,Qb _ _ _ _,PY _ _⟩
 case round=>
  obtain ⟨m,hm,rfl,x,q⟩:=hrel;by_cases O:m<N
  .obtain ⟨j,hj⟩:=Vb (N-1-m);have i:(N:Int)-1-m=(j:Int):=ap;have a6:(0:Int)<=(j:Int):=ap;have a3:j<N:=ap;have a4:(j:Int)<N:=ap;rw [i];have h:=Jq (l:=l) (m:=m) (by rw [HN.o];exact O);rw [HN.o,hj] at h
   obtain ⟨g,rfl⟩:∃g,A=some (ar g 0):=by
    obtain ⟨g,e,hv,_⟩:=O1.o.form ap;simp only [QH] at hv;exact ⟨g,hv.1⟩
   have J:=ja O1.o a3;obtain ⟨Q,b2,I⟩:∃Q b2,aK l j=(Q,b2):=⟨_,_,rfl⟩;rw [I] at J h;have c0:=aw q J.1;have c1:=aw q J.2;dsimp only at c0 c1;obtain ⟨Av,cv,rfl,_⟩:=aC x;obtain ⟨Z,U,T,Hj,H⟩:=ah x q h hj i;have Y:=q.size;have a5:IntKind.i64.wrap ((j:Int)-1)=(j:Int)-1:=P3 _ ap;clear x q h hj I J i;go_wp2_with (at_builtin;refine aV uT _ rfl (.tmp 18) (.tmp 23) rfl (Ve L) (.slice Av m cv) m _ rfl Z.o [Vd Q,Vd b2] rfl rfl (cU .i64 [_,_]) ap V2 Y ?_);intro g6 c6 w6 B D a1;obtain ⟨a0,R⟩:=ae B (U.o.trans D);clear B D a1;go_wp2;go_roundw
   .exact ⟨m+1,ap,by have:=H.o;go_num,by rw [T.o,iQ];exact a0.o,R.o⟩
   .have:=H.o;simp [intOf]
  .have i:¬((0:Int)<=(N:Int)-1-m):=ap;obtain rfl:N=m:=ap;rw [List.take_of_length_le (by rw [List.length_reverse,HN.o];exact PV _)] at x;obtain ⟨Z,U⟩:=ae (aF (base':=Ve w) x V.o.size) (V.o.trans (q.mono V.o.size));clear x q;go_wp2;go_ret;exact ⟨_,rfl,Z.o,U.o⟩
theorem Fd (lo h k:Nat) (w:R8) (h1:1<=k) (N:k<=1048576) (h3:lo<=h) (h4:h<=1048576):Vj 184 #[.agg #[QZ lo,QZ h],QZ k] w λe x=>∃v,Vi e v/\x.ownsRow w.heap.size 187 2 v k (aS (dy (lo,h) k))/\aq w x:=by
 obtain ⟨u,i⟩:=Vb (w.alloc (.cells #[QZ lo,QZ h] 187));have O:Vg u (Ve w) #[QZ lo,QZ h] 187:=by rw [<-i];exact PW w _
 have y:aq w u:=by rw [<-i];exact (br w).alloc (PV _) _
 have t0:=λx q=>bx2 (sb O x q);obtain ⟨D,p⟩:=ae i y;clear i O y;have J:an (dy (lo,h) k=shR lo (fT (h-lo) k)):=aa rfl;have T:(h:Int)-lo=((h-lo:Nat):Int):=ap;have V:IntKind.i64.wrap ((h-lo:Nat):Int)=((h-lo:Nat):Int):=P3 _ ap;go_enter func184,ntmps184;have L:=br u;go_wp2_with fail;rw [D.o];refine HA.g (λx:R8=>aq u x) ?_;refine HA.t ?_ [0,1,2,3,4,5,7,8] L.drew ?_;refine HA.c 6 (wu (h-lo) k _ h1 N ap) ?_;rintro e Y ⟨v2,rfl,H,Q⟩;obtain ⟨A,c,rfl,_⟩:=aC H;have C:=bt L.drew Q;refine ⟨_,rfl,C,λ_=>?_⟩;refine HA.c 9 (wh A (fT (h-lo) k) k c lo Y (Rd.own H) (gh _ _) N ap (AQ h1 ap)) ?_;rintro e Z ⟨v4,rfl,I,R⟩;have B:=bt C R;refine ⟨_,rfl,B,λ_=>?_⟩;refine HA.t ?_ [10] B ?_;refine HA.d ?_;have hB:=aa (p.o.trans (B.mono p.o.size));rw [<-J.out] at I;have U:=aa (aF (base':=Ve w) I (P4 p.o.size C.size));clear I H Q R C B t0;go_wp2;go_ret;exact ⟨_,rfl,U.o,hB.o⟩
theorem Fz (lo h k:Nat) (w:R8) (h1:1<=k) (U:k<=1048576) (h3:lo<=h) (h4:h<=1048576):Vj 183 #[.agg #[QZ lo,QZ h],QZ k] w λe x=>∃v,Vi e v/\x.ownsRow w.heap.size 187 2 v (chR (lo,h) k).length (aS (chR (lo,h) k))/\aq w x:=by
 obtain ⟨u,i⟩:=Vb (w.alloc (.cells #[QZ lo,QZ h] 187));have Q:Vg u (Ve w) #[QZ lo,QZ h] 187:=by rw [<-i];exact PW w _
 have y:aq w u:=by rw [<-i];exact (br w).alloc (PV _) _
 have t0:=λx q=>bx2 (sb Q x q);obtain ⟨H,p⟩:=ae i y;clear i Q y;have B:an (chR (lo,h) k=shR lo (fp (h-lo) k)):=aa rfl;have V:(h:Int)-lo=((h-lo:Nat):Int):=ap;have Z:IntKind.i64.wrap ((h-lo:Nat):Int)=((h-lo:Nat):Int):=P3 _ ap;have N:=gj (h-lo) k;rw [<-fj] at N;go_enter func183,ntmps183;have O:=br u;go_wp2_with fail;rw [H.o];refine HA.g (λx:R8=>aq u x) ?_;refine HA.t ?_ [0,1,2,3,4,5,7,8] O.drew ?_;refine HA.c 6 (tZ (h-lo) k _ ap h1 U) ?_;rintro e w2 ⟨v2,rfl,I,R⟩;obtain ⟨A,c,rfl,_⟩:=aC I;have D:=bt O.drew R;refine ⟨_,rfl,D,λ_=>?_⟩;refine HA.c 9 (wh A (fp (h-lo) k) _ c lo w2 (Rd.own I) rfl ap ap (El ap)) ?_;rintro e w4 ⟨v4,rfl,J,T⟩;have C:=bt D T;refine ⟨_,rfl,C,λ_=>?_⟩;refine HA.t ?_ [10] C ?_;refine HA.d ?_;have hB:=aa (p.o.trans (C.mono p.o.size));have L:(chR (lo,h) k).length=(fp (h-lo) k).length:=by rw [B.out,mA]
 rw [<-B.out,<-L] at J;have Y:=aa (aF (base':=Ve w) J (P4 p.o.size D.size));clear J I R T D C t0;go_wp2;go_ret;exact ⟨_,rfl,Y.o,hB.o⟩
theorem sU:dM prog 258 189 (.agg Ri) 9 64:=⟨underlying258,info_parts V1,rfl,by decide⟩
theorem Je (st bk lo C W c x ph r:Nat) (w:R8) (h1:1<=W) (N:W<=1048576) (R:x<W) (Q:ph<2) (hr:r+1<W):Vj 171 #[.agg #[Vd st,Vd bk,Vd lo,Vd C,Vd W,Vd c],QZ x,QZ ph,QZ r,.bool true] w λe u=>Vi e (.tuple #[Vd (cV W x ph r),.bool true])/\aq w u:=by
 obtain ⟨s,hs⟩:=Vb (x+(2*W+ph-r));have U:(x:Int)-r+ph+2*W=(s:Int):=ap;have D:cV W x ph r=s%W:=by unfold cV;rw [<-hs]
 rw [D];have A:(s:Int).tmod (W:Int)=((s%W:Nat):Int):=rfl;have B:(s:Int)%(W:Int)=((s%W:Nat):Int):=rfl;have J:¬(W=0):=ap;have O:¬((W:Int)<=x):=ap;have T:¬(1<(ph:Int)):=ap;have V:¬((W:Int)-2<(r:Int)):=ap;obtain ⟨q,I⟩:=Vb (s%W);rw [I] at A B |-;obtain ⟨i,h⟩:=Vb (w.alloc (.cells #[Vd st,Vd bk,Vd lo,Vd C,Vd W,Vd c] 261));have H:Vg i (Ve w) #[Vd st,Vd bk,Vd lo,Vd C,Vd W,Vd c] 261:=by rw [<-h];exact PW w _
 have p:aq w i:=by rw [<-h];exact (br w).alloc (PV _) _
 have t0:=λu q=>bx6 (sb H u q);obtain ⟨y,v⟩:=ae h p;have L:=br i;clear h H p hs I D;go_enter func171,ntmps171;go_wp2_with fail
 try rw [y.o]
 try go_wp2
 go_ret2;exact ⟨rfl,v.o⟩
theorem Mu (st bk lo C W c x ph r:Nat) (w:R8) (h1:1<=W) (N:W<=1048576) (R:x<W) (Q:ph<2) (hr:r+1<W):Vj 171 #[.agg #[Vd st,Vd bk,Vd lo,Vd C,Vd W,Vd c],QZ x,QZ ph,QZ r,.bool false] w λe u=>Vi e (.tuple #[Vd (cH W x ph r),.bool true])/\aq w u:=by
 obtain ⟨s,hs⟩:=Vb (x+(2*W+ph-r-1));have U:(x:Int)-r+ph-1+2*W=(s:Int):=ap;have D:cH W x ph r=s%W:=by unfold cH;rw [<-hs]
 rw [D];have A:(s:Int).tmod (W:Int)=((s%W:Nat):Int):=rfl;have B:(s:Int)%(W:Int)=((s%W:Nat):Int):=rfl;have J:¬(W=0):=ap;have O:¬((W:Int)<=x):=ap;have T:¬(1<(ph:Int)):=ap;have V:¬((W:Int)-2<(r:Int)):=ap;obtain ⟨q,I⟩:=Vb (s%W);rw [I] at A B |-;obtain ⟨i,h⟩:=Vb (w.alloc (.cells #[Vd st,Vd bk,Vd lo,Vd C,Vd W,Vd c] 261));have H:Vg i (Ve w) #[Vd st,Vd bk,Vd lo,Vd C,Vd W,Vd c] 261:=by rw [<-h];exact PW w _
 have p:aq w i:=by rw [<-h];exact (br w).alloc (PV _) _
 have t0:=λu q=>bx6 (sb H u q);obtain ⟨y,v⟩:=ae h p;have L:=br i;clear h H p hs I D;go_enter func171,ntmps171;go_wp2_with fail
 try rw [y.o]
 try go_wp2
 go_ret2;exact ⟨rfl,v.o⟩
theorem DF {b:Rg} (h1:1<=k) (hb:b.1<=b.2):∀r∈dy b k,r.1<=r.2/\r.2<=b.2:=by
 intro r hr;simp only [dy,shR,fT,List.map_map,List.mem_map,List.mem_range,Function.comp] at hr;obtain ⟨i,h,rfl⟩:=hr;have c:=fU (b.2-b.1) k (i+1) h1 ap;have d:=kC (b.2-b.1) k (show i<=i+1 by omega);exact ⟨by simp only;omega,by simp only;omega⟩
theorem DQ (st bk lo h W c s:Nat) (w:R8) (h1:1<=W) (h2:W<=1048576) (hs:s<W) (Y:lo<=h) (h4:h<=1048576) (h5:1<=c) (h6:c<=1048576):Vj 172 #[.agg #[Vd st,Vd bk,Vd lo,Vd h,Vd W,Vd c],QZ s] w λe y=>∃v,Vi e v/\y.ownsRow w.heap.size 187 2 v (chR (aK (dy (lo,h) W) s) c).length (aS (chR (aK (dy (lo,h) W) s) c))/\aq w y:=by
 obtain ⟨x,i⟩:=Vb (w.alloc (.cells #[Vd st,Vd bk,Vd lo,Vd h,Vd W,Vd c] 261));have V:Vg x (Ve w) #[Vd st,Vd bk,Vd lo,Vd h,Vd W,Vd c] 261:=by rw [<-i];exact PW w _
 have C:aq w x:=by rw [<-i];exact (br w).alloc (PV _) _
 have t0:=λy q=>bx6 (sb V y q);have J:=DF (b:=(lo,h)) h1 Y;have N:=qs (lo,h) W;have a0:(s:Int)<W:=ap;obtain ⟨L,u⟩:=ae i C;have U:=br x;clear i V C;go_enter func172,ntmps172;go_wp2_with fail;rw [L.o];refine HA.g (λy:R8=>aq x y) ?_;refine HA.t ?_ [0,1,2,3,5,8,9] U.drew ?_;refine HA.c 4 (Fd lo h W _ h1 h2 Y h4) ?_;rintro e T ⟨v2,rfl,O,Z⟩;have A:=bt U.drew Z;obtain ⟨g,c2,rfl,_⟩:=O.form ap;have Q:=ja O hs;have p:=J (aK (dy (lo,h) W) s) (by rw [cZ _ _ (by rw [N];exact hs)];exact List.getElem_mem _)
 try dsimp only at p
 obtain ⟨D,I,B⟩:∃D I,aK (dy (lo,h) W) s=(D,I):=⟨_,_,rfl⟩;rw [B] at Q p
 try dsimp only at Q p
 obtain ⟨d0,d1⟩:=Q;refine ⟨_,rfl,A,λ_=>?_⟩;refine HA.v 6 T (.pointer (some (ar g (s*2)))) A ?_;refine HA.v 7 T (.agg #[Vd D,Vd I]) A ?_;refine HA.c 10 (Fz D I c T h5 h6 p.1 ap) ?_;rintro e w4 ⟨v4,rfl,R,k4⟩;have H:=bt A k4;refine ⟨_,rfl,H,λ_=>?_⟩;refine HA.t ?_ [11] H ?_;refine HA.d ?_;have hB:=aa (u.o.trans (H.mono u.o.size));rw [<-B] at R;have O4:=aa (aF (base':=Ve w) R (P4 u.o.size A.size));clear R O Z k4 A H t0;go_wp2;go_ret;exact ⟨_,rfl,O4.o,hB.o⟩
theorem Ca (st bk lo H W c x ph r:Nat) (w:R8) (h1:1<=W) (h2:W<=1048576) (hx:x<W) (hp:ph<2) (hr:r+1<W) (h3:lo<=H) (h4:H<=1048576) (h5:1<=c) (h6:c<=1048576):Vj 149 #[.agg #[Vd st,Vd bk,Vd lo,Vd H,Vd W,Vd c],QZ x,QZ ph,QZ r] w λe p=>∃v,Vi e v/\p.ownsRow w.heap.size 189 9 v (db st bk (lo,H) W c x ph r).length (eU (db st bk (lo,H) W c x ph r))/\aq w p:=by
 obtain ⟨W0,aM⟩:=Vb (w.alloc (.cells #[Vd st,Vd bk,Vd lo,Vd H,Vd W,Vd c] 261));have h0:W0.heap[w.heap.size]?=some (.cells #[Vd st,Vd bk,Vd lo,Vd H,Vd W,Vd c] 261 (0,0)):=by rw [<-aM];exact PW w _
 have bO:aq w W0:=by rw [<-aM];exact (br w).alloc (PV _) _
 have t0:=λp q=>bx6 (sb h0 p q);obtain ⟨cb,bh,H0⟩:=af aM bO h0;have q0:=br W0;clear aM h0 bO;go_enter func149,ntmps149;go_wp2_with fail;rw [cb.o];refine (Je st bk lo H W c x ph r W0 h1 h2 hx hp hr).mono ?_;rintro e w1 ⟨rfl,k1⟩;have q1:=bt q0 k1;go_wp2_with fail;refine (Mu st bk lo H W c x ph r w1 h1 h2 hx hp hr).mono ?_;rintro e w2 ⟨rfl,k2⟩;have q2:=bt q1 k2;have bV:cV W x ph r<W:=Nat.mod_lt _ h1;have bG:cH W x ph r<W:=Nat.mod_lt _ h1;go_wp2_with fail;refine (DQ st bk lo H W c _ w2 h1 h2 bV h3 h4 h5 h6).mono ?_;rintro e w3 ⟨v3,rfl,o3,k3⟩;have q3:=bt q2 k3;obtain ⟨A3,c3,rfl,_⟩:=aC o3;go_wp2_with fail;refine (DQ st bk lo H W c _ w3 h1 h2 bG h3 h4 h5 h6).mono ?_;rintro e w4 ⟨v4,rfl,o4,k4⟩;have q4:=bt q3 k4;obtain ⟨A4,c4,rfl,_⟩:=aC o4;have bo:=az o3 k4;have c9:(chR (aK (dy (lo,H) W) (cV W x ph r)) c).length<=1048576:=ve h1 h3 h4;have c7:(chR (aK (dy (lo,H) W) (cH W x ph r)) c).length<=1048576:=ve h1 h3 h4;have HR:an (db st bk (lo,H) W c x ph r=iR (chR (aK (dy (lo,H) W) (cV W x ph r)) c) (chR (aK (dy (lo,H) W) (cH W x ph r)) c) (λi s=>(⟨true,false,st,bk,ph,r,i,s⟩:Acn)) (λi s=>(⟨false,ph==0,st,bk,ph,r,i,s⟩:Acn))):=aa rfl;obtain ⟨X,hX⟩:=Vb (chR (aK (dy (lo,H) W) (cV W x ph r)) c);obtain ⟨Y,hY⟩:=Vb (chR (aK (dy (lo,H) W) (cH W x ph r)) c);rw [hX] at bo c9 HR |-;rw [hY] at o4 c7 HR |-;obtain ⟨so,b5⟩:=Vb (cV W x ph r);obtain ⟨si,b6⟩:=Vb (cH W x ph r);rw [b5] at bV |-;rw [b6] at bG |-;obtain ⟨M,hM⟩:∃M:Nat,max X.length Y.length=M:=⟨_,rfl⟩;obtain ⟨O3,O4,Q4,HM⟩:=ag bo o4 q4 hM;clear o3 bo o4 q0 q1 q2 q3 q4 k1 k2 k3 k4 hX hY b5 b6 hM t0;go_wp2
 go_loopw [15,16] (λv y wr=>∃m:Nat,m<=M/\y=QZ m/\wr.ownsRow w4.heap.size 189 9 v (ki X Y (λi s=>(⟨true,false,st,bk,ph,r,i,s⟩:Acn)) (λi s=>(⟨false,ph==0,st,bk,ph,r,i,s⟩:Acn)) m).length (eU (ki X Y (λi s=>(⟨true,false,st,bk,ph,r,i,s⟩:Acn)) (λi s=>(⟨false,ph==0,st,bk,ph,r,i,s⟩:Acn)) m))/\aq w4 wr) (λ_ y _=>M-(intOf y).toNat)
 .exact ⟨0,PZ _,rfl,Qb _ _ _ _,PY _ _⟩
 case round=>
  obtain ⟨m,hm,rfl,ho,q⟩:=hrel;have cd:=zI X Y (λi s=>(⟨true,false,st,bk,ph,r,i,s⟩:Acn)) (λi s=>(⟨false,ph==0,st,bk,ph,r,i,s⟩:Acn)) m;have ci:M<=1048576:=by have:=HM.o;omega
  obtain ⟨Av,cv,rfl,_⟩:=aC ho;obtain ⟨v,hv⟩:∃v,Value.slice Av (ki X Y (λi s=>(⟨true,false,st,bk,ph,r,i,s⟩:Acn)) (λi s=>(⟨false,ph==0,st,bk,ph,r,i,s⟩:Acn)) m).length cv=v:=⟨_,rfl⟩;rw [hv] at ho |-;clear hv;have aR:((ph:Int)==0)=(ph==0):=by rw [Bool.eq_iff_iff];simp
  have cf:IntKind.i64.wrap ((m:Int)+1)=((m+1:Nat):Int):=by rw [P3 _ ap];push_cast;rfl
  have uJ:=λp (q':aq wr p)=>bx6 (sb H0.o p (bt Q4.o (q.trans (q'.mono q.size))));obtain ⟨A,b0⟩:=Vb (wr.alloc (.cells #[Vd st,Vd bk,Vd ph,Vd r,Vd m] 77));have gT:A.heap[wr.heap.size]?=some (.cells #[Vd st,Vd bk,Vd ph,Vd r,Vd m] 77 (0,0)):=by rw [<-b0];exact PW wr _
  have kt:aq wr A:=by rw [<-b0];exact (br wr).alloc (PV _) _
  have qr:=br wr;obtain ⟨Ho,HT,HQ,B,C,bb⟩:=ai ho gT q (q.trans (kt.mono q.size)) (az ho kt) b0;clear ho q gT kt b0;by_cases h1:m<X.length
  .have cc:(m:Int)<X.length:=ap
   obtain ⟨gx,rfl⟩:∃gx,A3=some (ar gx 0):=by
    obtain ⟨g,e,hv,_⟩:=O3.o.form ap;simp only [QH] at hv;exact ⟨g,hv.1⟩
   have px:=ja O3.o h1;have be:aK X m=((aK X m).1,(aK X m).2):=rfl;obtain ⟨b1,bX⟩:∃b,(aK X m).1=b:=⟨_,rfl⟩;obtain ⟨b2,bM⟩:∃b,(aK X m).2=b:=⟨_,rfl⟩;rw [bX,bM] at px be;obtain ⟨aG,aP,bN⟩:=af px.1 px.2 be;clear px bX bM be;by_cases h2:m<Y.length
   .have bv:(m:Int)<Y.length:=ap
    obtain ⟨gy,rfl⟩:∃gy,A4=some (ar gy 0):=by
     obtain ⟨g,e,hv,_⟩:=O4.o.form ap;simp only [QH] at hv;exact ⟨g,hv.1⟩
    have py:=ja O4.o h2;have Q:aK Y m=((aK Y m).1,(aK Y m).2):=rfl;obtain ⟨b3,a3⟩:∃b,(aK Y m).1=b:=⟨_,rfl⟩;obtain ⟨b4,ao⟩:∃b,(aK Y m).2=b:=⟨_,rfl⟩;rw [a3,ao] at py Q;obtain ⟨a2,a8,b9⟩:=af py.1 py.2 Q;clear py a3 ao Q;go_wp2_with fail;rw [bb.o];clear uJ qr;have R:=λp (q:Keep (λj=>v.ownBlock=some j) A p)=>(q.block _ (PU HT.o) (λe=>ay HT.o V0 C.o e.symm)).trans HT.o;have bf:=λp q=>bx5 (R p q)
    have U:∀g,g<w4.heap.size->¬v.ownBlock=some g:=λg hg e=>by
     have h:=(C.o.lt g e).1;omega
    have bd:=λp (q:Keep (λj=>v.ownBlock=some j) A p)=>q.cell (aw B.o aG.o) (U _ (aB aG.o));have bz:=λp (q:Keep (λj=>v.ownBlock=some j) A p)=>q.cell (aw B.o aP.o) (U _ (aB aP.o));have I:Keep (λj=>v.ownBlock=some j) A A.drew:=(Keep.refl _ _).drew;have L:=aa R;clear R U;refine HA.g (λp:R8=>Keep (λj=>v.ownBlock=some j) A p) ?_;refine HA.t ?_ [0,1,2,3,4,5,6] I ?_;obtain ⟨a5,O⟩:∃a:Acn,a=⟨true,false,st,bk,ph,r,m,(b1,b2)⟩:=⟨_,rfl⟩;refine HA.v 7 (A.drew.alloc (.cells (aZ a5).toArray 189)) (.slice (some (ar A.heap.size 0)) 1 1) (I.alloc _) ?_ (he:=by subst O;go_simp;simp [aZ,aR];try rfl);refine HA.o 8 (λK' hK=>?_);have a0:=(C.o.drew).alloc (.cells (aZ a5).toArray 189);have a7:=B.o.size;refine bY sU (.tmp 66) (.tmp 73) rfl rfl w4.heap.size v _ _ rfl a0 (some (ar A.heap.size 0)) 1 1 (aZ a5) rfl (λk u hu=>⟨_,_,rfl,by rw [QP,PX _ A.heap.size k (aZ a5).toArray 189 (0,0) (PW A.drew _)];simpa using hu⟩) rfl (by simp [aZ,Value.oneCell']) ap V2 V6 ?_;intro A5 c5 N a1 bs av _;have q5:Keep (λj=>v.ownBlock=some j) A N:=(I.alloc _).grown av (λk hk=>.inr hk);refine hK.out _ _ q5 λ_=>?_;refine HA.t ?_ [9] q5 ?_;refine HA.d ?_
    try simp only [Exit.then]
    obtain ⟨O5,T5,Q5,b7⟩:=ag a1 (L.o N q5) (B.o.trans (q5.toBelow B.o.size (λj hj=>(C.o.lt j hj).1))) O;clear a1 bs av bf bd bz I q5 hK K' a0 O L a7;go_wp2_with fail;obtain ⟨v5,bI⟩:∃v,Value.slice A5 ((ki X Y (λi s=>(⟨true,false,st,bk,ph,r,i,s⟩:Acn)) (λi s=>(⟨false,ph==0,st,bk,ph,r,i,s⟩:Acn)) m).length+1) c5=v:=⟨_,rfl⟩;rw [bI] at O5 |-;clear bI;have T:=λp (q:Keep (λj=>v5.ownBlock=some j) N p)=>(q.block _ (PU T5.o) (λe=>ay T5.o V0 O5.o e.symm)).trans T5.o;have bi:=λp q=>bx5 (T p q)
    have V:∀g,g<w4.heap.size->¬v5.ownBlock=some g:=λg hg e=>by
     have h:=(O5.o.lt g e).1;omega
    have bn:=λp (q:Keep (λj=>v5.ownBlock=some j) N p)=>q.cell (aw Q5.o a2.o) (V _ (aB a2.o));have b8:=λp (q:Keep (λj=>v5.ownBlock=some j) N p)=>q.cell (aw Q5.o a8.o) (V _ (aB a8.o));have D:Keep (λj=>v5.ownBlock=some j) N N.drew:=(Keep.refl _ _).drew;have J:=aa T;clear T V;refine HA.g (λp:R8=>Keep (λj=>v5.ownBlock=some j) N p) ?_;refine HA.t ?_ [0,1,2,3,4,5,6,7,8] D ?_;obtain ⟨a6,Z⟩:∃a:Acn,a=⟨false,ph==0,st,bk,ph,r,m,(b3,b4)⟩:=⟨_,rfl⟩;refine HA.v 9 (N.drew.alloc (.cells (aZ a6).toArray 189)) (.slice (some (ar N.heap.size 0)) 1 1) (D.alloc _) ?_ (he:=by subst Z;go_simp;simp [aZ,aR];try rfl);refine HA.o 10 (λK' hK=>?_);have ad:=(O5.o.drew).alloc (.cells (aZ a6).toArray 189);have ab:=Q5.o.size;refine bY sU (.tmp 79) (.tmp 88) rfl rfl w4.heap.size v5 _ _ rfl ad (some (ar N.heap.size 0)) 1 1 (aZ a6) rfl (λk u hu=>⟨_,_,rfl,by rw [QP,PX _ N.heap.size k (aZ a6).toArray 189 (0,0) (PW N.drew _)];simpa using hu⟩) rfl (by simp [aZ,Value.oneCell']) ap V2 V6 ?_;intro A6 c6 w6 a4 bl a9 _;have q6:Keep (λj=>v5.ownBlock=some j) N w6:=(D.alloc _).grown a9 (λk hk=>.inr hk);refine hK.out _ _ q6 λ_=>?_;refine HA.t ?_ [11] q6 ?_;refine HA.d ?_
    try simp only [Exit.then]
    obtain ⟨O6,T6,Q6,bw⟩:=ag a4 (J.o w6 q6) (Q5.o.trans (q6.toBelow Q5.o.size (λj hj=>(O5.o.lt j hj).1))) Z;clear a4 bl a9 bi bn b8 D q6 hK K' ad Z J ab;go_wp2;go_roundw
    .exact ⟨m+1,by have:=HM.o;omega,Vc,by rw [<-oq];simp only [jC,h1,h2,if_true,if_false,Bool.not_true,Bool.not_false,Bool.false_and,Bool.true_and];have:=O6.o;rw [b7.o,bw.o] at this;simpa [eU,bN.o,b9.o,Qt] using this,Q6.o⟩
    .have:=HM.o;simp [intOf];omega
   .have bv:¬((m:Int)<Y.length):=ap;go_wp2_with fail;rw [bb.o];clear uJ qr;have R:=λp (q:Keep (λj=>v.ownBlock=some j) A p)=>(q.block _ (PU HT.o) (λe=>ay HT.o V0 C.o e.symm)).trans HT.o;have bf:=λp q=>bx5 (R p q)
    have U:∀g,g<w4.heap.size->¬v.ownBlock=some g:=λg hg e=>by
     have h:=(C.o.lt g e).1;omega
    have bd:=λp (q:Keep (λj=>v.ownBlock=some j) A p)=>q.cell (aw B.o aG.o) (U _ (aB aG.o));have bz:=λp (q:Keep (λj=>v.ownBlock=some j) A p)=>q.cell (aw B.o aP.o) (U _ (aB aP.o));have I:Keep (λj=>v.ownBlock=some j) A A.drew:=(Keep.refl _ _).drew;have L:=aa R;clear R U;refine HA.g (λp:R8=>Keep (λj=>v.ownBlock=some j) A p) ?_;refine HA.t ?_ [0,1,2,3,4,5,6] I ?_;obtain ⟨a5,O⟩:∃a:Acn,a=⟨true,false,st,bk,ph,r,m,(b1,b2)⟩:=⟨_,rfl⟩;refine HA.v 7 (A.drew.alloc (.cells (aZ a5).toArray 189)) (.slice (some (ar A.heap.size 0)) 1 1) (I.alloc _) ?_ (he:=by subst O;go_simp;simp [aZ,aR];try rfl);refine HA.o 8 (λK' hK=>?_);have a0:=(C.o.drew).alloc (.cells (aZ a5).toArray 189);have a7:=B.o.size;refine bY sU (.tmp 66) (.tmp 73) rfl rfl w4.heap.size v _ _ rfl a0 (some (ar A.heap.size 0)) 1 1 (aZ a5) rfl (λk u hu=>⟨_,_,rfl,by rw [QP,PX _ A.heap.size k (aZ a5).toArray 189 (0,0) (PW A.drew _)];simpa using hu⟩) rfl (by simp [aZ,Value.oneCell']) ap V2 V6 ?_;intro A5 c5 N a1 bs av _;have q5:Keep (λj=>v.ownBlock=some j) A N:=(I.alloc _).grown av (λk hk=>.inr hk);refine hK.out _ _ q5 λ_=>?_;refine HA.t ?_ [9] q5 ?_;refine HA.d ?_
    try simp only [Exit.then]
    obtain ⟨O5,T5,Q5,b7⟩:=ag a1 (L.o N q5) (B.o.trans (q5.toBelow B.o.size (λj hj=>(C.o.lt j hj).1))) O;clear a1 bs av bf bd bz I q5 hK K' a0 O L a7;go_wp2;go_roundw
    .exact ⟨m+1,by have:=HM.o;omega,Vc,by rw [<-oq];simp only [jC,h1,h2,if_true,if_false,Bool.not_true,Bool.not_false,Bool.false_and,Bool.true_and];have:=O5.o;rw [b7.o] at this;simpa [eU,bN.o,Qt] using this,Q5.o⟩
    .have:=HM.o;simp [intOf];omega
  .have cc:¬((m:Int)<X.length):=ap;by_cases h2:m<Y.length
   .have bv:(m:Int)<Y.length:=ap
    obtain ⟨gy,rfl⟩:∃gy,A4=some (ar gy 0):=by
     obtain ⟨g,e,hv,_⟩:=O4.o.form ap;simp only [QH] at hv;exact ⟨g,hv.1⟩
    have py:=ja O4.o h2;have Q:aK Y m=((aK Y m).1,(aK Y m).2):=rfl;obtain ⟨b3,a3⟩:∃b,(aK Y m).1=b:=⟨_,rfl⟩;obtain ⟨b4,ao⟩:∃b,(aK Y m).2=b:=⟨_,rfl⟩;rw [a3,ao] at py Q;obtain ⟨a2,a8,b9⟩:=af py.1 py.2 Q;clear py a3 ao Q;go_wp2_with fail;rw [bb.o];clear uJ qr;have T:=λp (q:Keep (λj=>v.ownBlock=some j) A p)=>(q.block _ (PU HT.o) (λe=>ay HT.o V0 C.o e.symm)).trans HT.o;have bi:=λp q=>bx5 (T p q)
    have V:∀g,g<w4.heap.size->¬v.ownBlock=some g:=λg hg e=>by
     have h:=(C.o.lt g e).1;omega
    have bn:=λp (q:Keep (λj=>v.ownBlock=some j) A p)=>q.cell (aw B.o a2.o) (V _ (aB a2.o));have b8:=λp (q:Keep (λj=>v.ownBlock=some j) A p)=>q.cell (aw B.o a8.o) (V _ (aB a8.o));have D:Keep (λj=>v.ownBlock=some j) A A.drew:=(Keep.refl _ _).drew;have J:=aa T;clear T V;refine HA.g (λp:R8=>Keep (λj=>v.ownBlock=some j) A p) ?_;refine HA.t ?_ [0,1,2,3,4,5,6,7,8] D ?_;obtain ⟨a6,Z⟩:∃a:Acn,a=⟨false,ph==0,st,bk,ph,r,m,(b3,b4)⟩:=⟨_,rfl⟩;refine HA.v 9 (A.drew.alloc (.cells (aZ a6).toArray 189)) (.slice (some (ar A.heap.size 0)) 1 1) (D.alloc _) ?_ (he:=by subst Z;go_simp;simp [aZ,aR];try rfl);refine HA.o 10 (λK' hK=>?_);have ad:=(C.o.drew).alloc (.cells (aZ a6).toArray 189);have ab:=B.o.size;refine bY sU (.tmp 79) (.tmp 88) rfl rfl w4.heap.size v _ _ rfl ad (some (ar A.heap.size 0)) 1 1 (aZ a6) rfl (λk u hu=>⟨_,_,rfl,by rw [QP,PX _ A.heap.size k (aZ a6).toArray 189 (0,0) (PW A.drew _)];simpa using hu⟩) rfl (by simp [aZ,Value.oneCell']) ap V2 V6 ?_;intro A6 c6 w6 a4 bl a9 _;have q6:Keep (λj=>v.ownBlock=some j) A w6:=(D.alloc _).grown a9 (λk hk=>.inr hk);refine hK.out _ _ q6 λ_=>?_;refine HA.t ?_ [11] q6 ?_;refine HA.d ?_
    try simp only [Exit.then]
    obtain ⟨O6,T6,Q6,bw⟩:=ag a4 (J.o w6 q6) (B.o.trans (q6.toBelow B.o.size (λj hj=>(C.o.lt j hj).1))) Z;clear a4 bl a9 bi bn b8 D q6 hK K' ad Z J ab;go_wp2;go_roundw
    .exact ⟨m+1,by have:=HM.o;omega,Vc,by rw [<-oq];simp only [jC,h1,h2,if_true,if_false,Bool.not_true,Bool.not_false,Bool.false_and,Bool.true_and];have:=O6.o;rw [bw.o] at this;simpa [eU,b9.o,Qt] using this,Q6.o⟩
    .have:=HM.o;simp [intOf];omega
   .have bv:¬((m:Int)<Y.length):=ap;have c8:m=M:=by have:=HM.o;omega
    have hb:=aF (base':=w.heap.size) Ho.o (P4 bh.o.size Q4.o.size)
    have bA:db st bk (lo,H) W c x ph r=ki X Y (λi s=>(⟨true,false,st,bk,ph,r,i,s⟩:Acn)) (λi s=>(⟨false,ph==0,st,bk,ph,r,i,s⟩:Acn)) m:=by
     rw [HR.out,c8,<-HM.o];rfl
    rw [<-bA] at hb;obtain ⟨Hb,Hq⟩:=ae hb (bh.o.trans ((bt Q4.o (HQ.o)).mono bh.o.size));clear hb bA uJ;go_wp2;go_ret;exact ⟨_,rfl,Hb.o,Hq.o⟩
theorem By (S n b steps t:Nat) (l:Q_) (w:R8) (h:gC w S n b steps l) (hb:1<=b) (hn:n<=1048576) (y:1<=n/b) (V:steps<=1048576) (ht:t<steps):Vj 247 #[(au S),QZ t] w λe w'=>∃A c,Vi e (.slice A b c)/\b<=c/\Rd w' A (aA .i64 (cN l n b t))/\aq w w':=by
 have u:=BQ S n b steps t l w h hn y V ht;obtain ⟨Ab,cb,Ao,co,vs,h1,Q,h3,h4,h5⟩:=h;have a0:=Nat.div_le_self n b;have he:=AT (n:=n) (b:=b) ht;have hm:=Nat.mod_lt t y;have I:=qi n b _ hm;have N:=Ey n b _ hb hm;have i:=Di (n-n%b) b hm;rw [N] at i;obtain ⟨A1,c1,k1,k2,R⟩:=h5 _ he;have D:cN l n b t=((gr l n ((t/(n/b))*(n-1))).drop (t%(n/b)*b)).take b:=rfl;rw [D];have a1:epN n b steps<=steps:=gj _ _;obtain ⟨pl,B⟩:=Vb (gr l n ((t/(n/b))*(n-1)));have a2:pl.length=n:=by rw [<-B];exact jO _ _ _
 rw [B] at R |-;obtain ⟨E,hE⟩:=Vb (epN n b steps);rw [hE] at he h1 h4 a1;obtain ⟨U,C⟩:=Vb (t/(n/b));obtain ⟨T,O⟩:=Vb (t%(n/b));rw [C] at u he k1;rw [O] at u hm I i |-;obtain ⟨nb,x⟩:=Vb (n/b);rw [x] at h1 Q y hm a0 i;obtain ⟨lo,J⟩:=Vb (T*b);rw [J] at I i |-;obtain ⟨bb,ob,rfl,q0⟩:=Q _ _ i.1;obtain ⟨_,_,e2,q1⟩:=Q _ _ i.2;injection e2 with e2;injection e2 with i1 i2 _;subst i1;subst i2
 obtain ⟨bo,oo,rfl,q2⟩:=h3 _ _ k1;obtain ⟨bg,og,rfl,q3⟩:=R.num (show 0<pl.length by omega);rw [<-QO] at q1;have a8:(T:Int)<nb:=ap;have aP:(U:Int)<E:=ap;have a5:(lo:Int)<=((lo+b:Nat):Int):=ap;have ad:((lo+b:Nat):Int)<=c1:=ap;have a9:lo<=lo+b:=ap;have ao:lo+b<=c1:=ap;have aM:¬(c1=lo):=ap;have b1:bo<w.heap.size:=aB q2;have b2:bb<w.heap.size:=aB q0;obtain ⟨⟨r0,r1,r2,r3⟩,rf⟩:=bx4 h1;have b3:S<w.heap.size:=PU h1;obtain ⟨H1,Y,K3⟩:=af h1 u R;clear u R h1 Q h3 h4 h5 hE C O x J B a2 i k1 q3 N D;go_enter func247,ntmps247;go_wp2_with fail;refine Y.o.mono ?_;rintro e w' ⟨rfl,d,rfl⟩;have p:aq w (w.drewN d):=Qa (PY _ _) d;have v:(w.drewN d).heap.size=w.heap.size:=by simp
 generalize w.drewN d=w1 at p v |-;have ab:=aw p q0;have a7:=aw p q1;have b0:=aw p q2;have H:=(p.block _ b3).trans H1.o;obtain ⟨⟨y0,y1,y2,y3⟩,yf⟩:=bx4 H;rw [<-v] at b1 b2 b3;obtain ⟨L,Z⟩:=ae p v;clear q0 q1 q2 r0 r1 r2 r3 rf p v H;go_wp2_with fail;have av:(lo:Int)+b<=c1:=ap;have aG:((lo:Int)+b).toNat=lo+b:=ap;have a4:(0:Int)<=(lo:Int)+b:=ap;have aR:(lo:Int)<=(lo:Int)+b:=ap;have a3:lo+b-lo=b:=ap;have a6:¬(lo+b=lo):=ap
 go_quiet (fail)
 go_wp2;go_ret;refine ⟨_,_,rfl,PV _,?_,Qa (L.o.alloc (by have:=Z.o;omega) _) _⟩;have:=((((K3.o.below L.o).alloc (.cells #[QZ (lo:Int),QZ ((lo:Int)+b)] 148)).drewN nq).drop lo).take b
 rwa [dK,dH] at this
def cQ (l:Q_) (k i:Nat):Q_:=(l.drop (bdN l.length k i)).take (bdN l.length k (i+1)-bdN l.length k i)
theorem kh (l:Q_) {i:Nat} (hk:1<=k) (h:i<k):(cQ l k i).length=bdN l.length k (i+1)-bdN l.length k i:=by
 have h1:=fU l.length k (i+1) hk h;simp only [cQ,Qy,QB];omega
def iT (l:Q_) (W x mi a:Nat):Q_:=cQ (cQ l W x) mi a
def Bk (L:Q_) (m:Nat) (w:R8) (e:Ending) (h:R8):Prop:=∃i o,e=.returned (.slice i m o)/\m<=o/\Rd h i (aA .i64 L)/\aq w h
theorem wF (A:N_) (l:Q_) (c k i:Nat) (w:R8) (hA:Rd w A (aA .i64 l)) (hc:l.length<=c) (hl:l.length<=1048576) (hn:0<l.length) (hk:1<=k) (I:k<=1048576) (H:i<k):Vj 248 #[.slice A l.length c,QZ i,QZ k] w (Bk (cQ l k i) (cQ l k i).length w):=by
 have p:=AP l.length k w hk I hl;obtain ⟨b,o,rfl,_⟩:=hA.num hn;have u:=kh l hk H;have D:cQ l k i=(l.drop (bdN l.length k i)).take (bdN l.length k (i+1)-bdN l.length k i):=rfl;have h1:=kC l.length k (Nat.le_succ i);have N:=fU l.length k (i+1) hk H;have hg:=eO (l:=fT l.length k) (j:=i) (by rw [gh];exact H)
 have hr:aK (fT l.length k) i=(bdN l.length k i,bdN l.length k (i+1)):=by
  rw [cZ _ _ (by rw [gh];exact H)];simp [fT]
 rw [hr] at hg;rw [u];obtain ⟨P,hP⟩:=Vb (cQ l k i);obtain ⟨lo,C⟩:=Vb (bdN l.length k i);obtain ⟨h,x⟩:=Vb (bdN l.length k (i+1));simp only [Nat.succ_eq_add_one] at h1;rw [hP] at D |-;rw [C,x] at D h1 hg |-;rw [x] at N;obtain ⟨V,Q⟩:=Vb (aS (fT l.length k));rw [Q] at p hg;obtain ⟨n,B⟩:=Vb l.length;rw [B] at p hc hl hn N |-;have Z:(i:Int)<k:=ap;have a0:¬(i:Int)<0:=ap;obtain ⟨J,HA,O,R⟩:=ag p hA hg D;clear p hA hg D hr u hP C x B Q;go_enter func248,ntmps248;go_wp2_with fail;refine J.o.mono ?_;rintro e w1 ⟨v,rfl,ov,L⟩;obtain ⟨g,cv,rfl,_⟩:=ov.form ap;have c0:=ov.cellAt (i*2) ap;have c1:=ov.cellAt (i*2+1) ap;rw [O.o.1] at c0;rw [O.o.2] at c1;have lg:=(ov.lt g rfl).2;have y:=aa L;clear ov L;by_cases U:h=lo
 .subst U;go_wp2;go_ret;refine ⟨_,0,by rw [Nat.sub_self];rfl,ap,?_,y.o.alloc y.o.size _⟩;rw [R.o,Nat.sub_self,List.take_zero];exact Rd.nil _ _
 .have T:¬(h:Int)=lo:=ap;have Y:¬h-lo=0:=ap;go_wp2;go_ret;refine ⟨_,_,rfl,PV _,?_,y.o.alloc y.o.size _⟩;have:=(((HA.o.below y.o).alloc (.cells #[QZ (lo:Int),QZ (h:Int)] 148)).drop lo).take (h-lo)
  rwa [dK,dH,<-R.o] at this
theorem Gs (S n b steps t W x mi a:Nat) (l:Q_) (w:R8) (h:gC w S n b steps l) (hb:1<=b) (a5:b<=n) (hn:n<=1048576) (a1:steps<=1048576) (ht:t<steps) (hW:1<=W) (a7:W<=b) (hx:x<W) (hm:1<=mi) (a2:mi<=1048576) (ha:a<mi):Vj 232 #[(au S),QZ t,QZ x,QZ W,QZ a,QZ mi] w (Bk (iT (cN l n b t) W x mi a) (iT (cN l n b t) W x mi a).length w):=by
 have T:1<=n/b:=Nat.div_pos a5 hb;have y:=fV l (t:=t) T;have hv:=λi (q:aq w i)=>By S n b steps t l i (h.below q) hb hn T a1 ht;obtain ⟨B,hB⟩:=Vb (cN l n b t);rw [hB] at y hv |-;have hP:=kh B hW hx
 have V:bdN B.length W x+1<=bdN B.length W (x+1):=by
  rw [qN];have:1<=B.length/W:=Nat.div_pos ap ap;unfold szE;omega
 have p:=λA c i (hA:Rd i A (aA .i64 B)) (hc:B.length<=c)=>wF A B c W x i hA hc ap ap hW ap hx;obtain ⟨Q,Z⟩:=Vb (cQ B W x);have J:iT B W x mi a=cQ Q mi a:=by unfold iT;rw [Z]
 rw [Z] at hP p;have H:Q.length<=1048576:=by have:=fU B.length W (x+1) hW hx;omega
 have u:=λA c i (hA:Rd i A (aA .i64 Q)) (hc:Q.length<=c)=>wF A Q c mi a i hA hc H ap hm a2 ha;have R:=kh Q hm ha;have Y:=fU Q.length mi (a+1) hm ha;rw [J];obtain ⟨M,hM⟩:=Vb (cQ Q mi a);rw [hM] at u R |-;have C:=λA c i (hA:Rd i A (aA .i64 M))=>mV A M c i hA ap;rw [y] at p;obtain ⟨qn,D⟩:=Vb Q.length;rw [D] at p u;obtain ⟨U,O⟩:=Vb M.length;rw [O] at u C |-;obtain ⟨Hv,a0,a3,a4⟩:=ag hv p u C;clear hv p u C h R Y hP V y H O D hM J Z hB;go_enter func232,ntmps232;go_wp2_with fail;refine (Hv.o w (br w)).mono ?_;rintro e w1 ⟨A1,c1,rfl,I,r1,k1⟩;obtain ⟨H1,K1⟩:=ae (a0.o A1 c1 w1 r1 I) k1;clear I r1 k1;go_wp2_with fail;refine H1.o.mono ?_;rintro e w2 ⟨A2,c2,rfl,N,r2,k2⟩;obtain ⟨H2,K2⟩:=ae (a3.o A2 c2 w2 r2 N) (bt K1.o k2);clear N r2 k2;go_wp2_with fail;refine H2.o.mono ?_;rintro e w3 ⟨A3,c3,rfl,a6,r3,k3⟩;obtain ⟨H3,K3⟩:=ae (a4.o A3 c3 w3 r3) (bt K2.o k3);clear a6 r3 k3;go_wp2_with fail;refine H3.o.mono ?_;rintro e w4 ⟨v,rfl,o4,k4⟩;obtain ⟨A4,c4,rfl,L⟩:=aC o4;have HP:=aa (⟨A4,c4,rfl,L,Rd.own o4,bt K3.o k4⟩:Bk M U w (.returned (.slice A4 U c4)) w4);clear o4 k4 L;go_wp2;go_ret;exact HP.o
section
variable {P:Program} {ops:Rn} {Q:Exit->Ro->R8->Prop} {S:R8->Prop}
theorem HA.sole {L:List Nat} {a:Ro} {w:R8} (i:Nat) (p:HAS P ops Q S i L a w) (hr:dz ops L=[i]:=by decide +kernel):HA P ops Q S L a w:=by
 obtain ⟨o,u,h⟩:=p;exact HA.one i u hr h
end
theorem MD {i h:R8} {V:Nat} {x y:R6} (ne:U≠V) (A:w.heap.size<=U) (o:w.heap.size<=V) (hb:aq w u) (B:Vg i U x t) (C:Keep (λj=>j=U) u i) (D:Vg h V y t) (p:Keep (λj=>j=V) i h):Vg h U x t/\Vg h V y t/\U≠V/\w.heap.size<=U/\w.heap.size<=V/\aq w h:=
 have v:=hb.trans (C.toBelow hb.size (λj e=>by rw [e];exact A))
 ⟨(p.block U (PU B) ne).trans B,D,ne,A,o,v.trans (p.toBelow v.size (λj e=>by rw [e];exact o))⟩
theorem LH {h:R8} {W1:R8} (q:Below B W1 w) (k:Keep (λj=>j=U) w h) (hB:B<=w.heap.size) (i:B<=U):Below B W1 h:=q.trans (k.toBelow hB (λj e=>by rw [e];exact i))
theorem OQ {b:Nat} {H y u D C B A p x i o v0 v1 v2 v3 v4 v5 v6 v7 v8 v9 v10 v11:Value} (h:Vg w b #[H,y,u,D,v,C,B,A,p,x,i,o] t): Vg ((((((((((((w.setCell (ar b 0) v0).setCell (ar b 1) v1).setCell (ar b 2) v2).setCell (ar b 3) v3).setCell (ar b 4) v4).setCell (ar b 5) v5).setCell (ar b 6) v6).setCell (ar b 7) v7).setCell (ar b 8) v8).setCell (ar b 9) v9).setCell (ar b 10) v10).setCell (ar b 11) v11) b #[v0,v1,v2,v3,v4,v5,v6,v7,v8,v9,v10,v11] t:=ss (ss (ss (ss (ss (ss (ss (ss (ss (ss (ss (ss h rfl) rfl) rfl) rfl) rfl) rfl) rfl) rfl) rfl) rfl) rfl) V3
theorem jz (x:Itm):(bj x).length=12:=by
 rcases x with ⟨k,s,n,a⟩
 cases a<;>rfl
theorem Ec {l:List Itm} (h:Rd w A (cE l)) {i:Nat} (x:l[i]?=some y):∃b o,A=some (ar b o)/\∀f,f<12->w.cell? ⟨b,o+(i*12+f),none⟩=(bj y)[f]?:=by
 have B:=sS jz x 0 ap;obtain ⟨b,o,e,_⟩:=h _ ((bj y)[0]'(by rw [jz];omega)) (B.trans (Qv _));refine ⟨b,o,e,λf u=>?_⟩;have h1:=sS jz x f u;have v:(bj y)[f]?=some ((bj y)[f]'(by rw [jz];exact u)):=Qv _;obtain ⟨C,D,p,c⟩:=h _ _ (h1.trans v);rw [e] at p;injection p with p
 injection p with e1 e2 _
 subst e1;subst e2;rw [c,v]
theorem D2 (b nx il ic u x:Nat) (c0 c1 c2 c3 c4 c5 c6 c7 c8 c9 a4 ao a7 av a2 a9 a5:Value) (Z Y J:Int) (H L:Bool) (Q V T R I O U:Int) (w:R8) (hb:Vg w b #[c0,c1,c2,c3,c4,c5,c6,c7,c8,c9,a4,ao,a7,av,a2,Vf u x il ic,Vd nx,a9,a5] 179) (hx:nx<il) (hc:Vh w u (x+nx*12) (QZ Z)/\Vh w u (x+nx*12+1) (QZ Y)/\Vh w u (x+nx*12+2) (QZ J)/\Vh w u (x+nx*12+3) (.bool H)/\Vh w u (x+nx*12+4) (.bool L)/\Vh w u (x+nx*12+5) (QZ Q)/\Vh w u (x+nx*12+6) (QZ V)/\Vh w u (x+nx*12+7) (QZ T)/\Vh w u (x+nx*12+8) (QZ R)/\Vh w u (x+nx*12+9) (QZ I)/\Vh w u (x+nx*12+10) (QZ O)/\Vh w u (x+nx*12+11) (QZ U)):Vj 218 #[(au b)] w λe i=>Vi e (.tuple #[.agg #[QZ Z,QZ Y,QZ J,.bool H,.bool L,QZ Q,QZ V,QZ T,QZ R,QZ I,QZ O,QZ U],.bool true])/\aq w i:=by
 obtain ⟨p,B⟩:=Vb (w.alloc (.cells Rh 152));have g0:Vg p w.heap.size Rh 152:=by rw [<-B];exact PW w _
 have h:aq w p:=by rw [<-B];exact (br w).alloc (PV _) _
 have hs:=PU hb;have kb:=λi (q:Keep (λj=>j=w.heap.size) p i)=>(q.block b (by have:=h.size;omega) ap).trans (sb hb p h);have tb:=λi q=>Ng (kb i q);obtain ⟨h0,h1,h2,h3,h4,h5,h6,h7,h8,h9,N,a0⟩:=hc;have aR:u<w.heap.size:=aB h0;have y:¬u=w.heap.size:=ap;have d0:=λi (q:Keep (λj=>j=w.heap.size) p i)=>q.cell (aw h h0) y;have d1:=λi (q:Keep (λj=>j=w.heap.size) p i)=>q.cell (aw h h1) y;have d2:=λi (q:Keep (λj=>j=w.heap.size) p i)=>q.cell (aw h h2) y;have d3:=λi (q:Keep (λj=>j=w.heap.size) p i)=>q.cell (aw h h3) y;have d4:=λi (q:Keep (λj=>j=w.heap.size) p i)=>q.cell (aw h h4) y;have d5:=λi (q:Keep (λj=>j=w.heap.size) p i)=>q.cell (aw h h5) y;have d6:=λi (q:Keep (λj=>j=w.heap.size) p i)=>q.cell (aw h h6) y;have d7:=λi (q:Keep (λj=>j=w.heap.size) p i)=>q.cell (aw h h7) y;have d8:=λi (q:Keep (λj=>j=w.heap.size) p i)=>q.cell (aw h h8) y;have d9:=λi (q:Keep (λj=>j=w.heap.size) p i)=>q.cell (aw h h9) y;have aG:=λi (q:Keep (λj=>j=w.heap.size) p i)=>q.cell (aw h N) y;have a3:=λi (q:Keep (λj=>j=w.heap.size) p i)=>q.cell (aw h a0) y;have q0:Keep (λj=>j=w.heap.size) p p:=Keep.refl _ _;have aM:(nx:Int)<il:=ap;have b2:¬((il:Int)<=nx):=ap;obtain ⟨ad,a8,G0⟩:=af B h g0;clear B h g0 kb hb h0 h1 h2 h3 h4 h5 h6 h7 h8 h9 N a0;go_enter func218,ntmps218;go_wp2_with fail;rw [ad.o];refine HA.g (λi:R8=>Keep (λj=>j=w.heap.size) p i) ?_;refine HA.t ?_ [0,1,2,3,4,5,6,7,8,9,10,11,12,13] q0.drew ?_;refine HA.d ?_
 try simp only [Exit.then]
 have q1:=q0.drew;go_wp2;refine HA.g (λi:R8=>Keep (λj=>j=w.heap.size) p i) ?_;refine HA.t ?_ [0,1,2,3,4,5,6,7,8,9] q1.drew ?_;obtain ⟨W1,A⟩:=Vb p.drew.drew;have g1:Vg W1 w.heap.size Rh 152:=by rw [<-A];exact G0.o
 have q2:Keep (λj=>j=w.heap.size) p W1:=by rw [<-A];exact q0.drew.drew
 have a1:aq w W1:=by rw [<-A];exact (a8.o.drew).drew
 rw [A];clear A;have D:=OQ (v0:=(QZ Z)) (v1:=(QZ Y)) (v2:=(QZ J)) (v3:=(.bool H)) (v4:=(.bool L)) (v5:=(QZ Q)) (v6:=(QZ V)) (v7:=(QZ T)) (v8:=(QZ R)) (v9:=(QZ I)) (v10:=(QZ O)) (v11:=(QZ U)) g1;obtain ⟨W9,C⟩:∃W9,((((((((((((W1.setCell (ar w.heap.size 0) (QZ Z)).setCell (ar w.heap.size 1) (QZ Y)).setCell (ar w.heap.size 2) (QZ J)).setCell (ar w.heap.size 3) (.bool H)).setCell (ar w.heap.size 4) (.bool L)).setCell (ar w.heap.size 5) (QZ Q)).setCell (ar w.heap.size 6) (QZ V)).setCell (ar w.heap.size 7) (QZ T)).setCell (ar w.heap.size 8) (QZ R)).setCell (ar w.heap.size 9) (QZ I)).setCell (ar w.heap.size 10) (QZ O)).setCell (ar w.heap.size 11) (QZ U))=W9:=⟨_,rfl⟩;have k9:Keep (λj=>j=w.heap.size) W1 W9:=by rw [<-C];exact Vk w.heap.size (Vk w.heap.size (Vk w.heap.size (Vk w.heap.size (Vk w.heap.size (Vk w.heap.size (Vk w.heap.size (Vk w.heap.size (Vk w.heap.size (Vk w.heap.size (Vk w.heap.size (Vk w.heap.size (Keep.refl _ _) _ (.inr rfl) _) _ (.inr rfl) _) _ (.inr rfl) _) _ (.inr rfl) _) _ (.inr rfl) _) _ (.inr rfl) _) _ (.inr rfl) _) _ (.inr rfl) _) _ (.inr rfl) _) _ (.inr rfl) _) _ (.inr rfl) _) _ (.inr rfl) _
 rw [C] at D;have u0:=lL g1;have lu:=PU g1;refine HA.s 10 W9 (q2.trans k9) ?_ (he:=by subst C;go_simp);refine HA.t ?_ [11] (q2.trans k9) ?_;refine HA.d ?_;obtain ⟨⟨r0,r1,r2,r3,r4,r5,r6,r7,r8,r9,ab,a6⟩,rf⟩:=lL D;have HB:=aa (a1.trans (k9.toBelow a1.size (λj hj=>ap)));have aP:=PU D;clear D k9 g1 u0 lu q0 q1 q2 tb C d0 d1 d2 d3 d4 d5 d6 d7 d8 d9 aG a3;go_wp2_with fail;exact Qd (v:=.tuple #[.agg #[QZ Z,QZ Y,QZ J,.bool H,.bool L,QZ Q,QZ V,QZ T,QZ R,QZ I,QZ O,QZ U],.bool true]) (by simp [results,results218,go_sem,r0,r1,r2,r3,r4,r5,r6,r7,r8,r9,ab,a6]) rfl ⟨rfl,HB.o⟩
theorem jQ {b:Nat} {i:Inp} {a:MAd} {m:Mst} (h:aU H w b i x a m) (v:(cC i x m.st)[m.nx]?=some y):Vj 218 #[(au b)] w λe B=>Vi e (.tuple #[.agg (bj y).toArray,.bool true])/\aq w B:=by
 have hl:m.nx<(cC i x m.st).length:=(Qu.1 v).1;obtain ⟨u,p,e,hc⟩:=Ec (aW h.it (dO _ w)) v;have hb:=h.blk;rw [e] at hb;have o:∀f,f<12->w.cell? (ar u (p+m.nx*12+f))=(bj y)[f]?:=λf o=>by rw [QO];exact hc f o
 rcases y with ⟨C,st,n,A⟩
 cases A with
 | none=>
  exact D2 b m.nx _ _ u p _ _ _ _ _ _ _ _ _ _ _ _ _ _ _ _ _ _ _ _ _ _ _ _ _ _ _ _ _ w hb hl ⟨o 0 ap,o 1 ap,o 2 ap,o 3 ap,o 4 ap,o 5 ap,o 6 ap,o 7 ap,o 8 ap,o 9 ap,o 10 ap,o 11 ap⟩
 | some A=>
  exact D2 b m.nx _ _ u p _ _ _ _ _ _ _ _ _ _ _ _ _ _ _ _ _ _ _ _ _ _ _ _ _ _ _ _ _ w hb hl ⟨o 0 ap,o 1 ap,o 2 ap,o 3 ap,o 4 ap,o 5 ap,o 6 ap,o 7 ap,o 8 ap,o 9 ap,o 10 ap,o 11 ap⟩
theorem yn {b:Nat} {i:Inp} {a:MAd} {m:Mst} (h:aU H w b i x a m) (hn:(cC i x m.st).length<=m.nx):Vj 218 #[(au b)] w λe C=>Vi e (.tuple #[.agg Rh,.bool false])/\aq w C:=by
 obtain ⟨il,D⟩:=Vb ((cC i x m.st).length);have hb:=h.blk;rw [D] at hb hn;obtain ⟨y,u⟩:=Vb (w.alloc (.cells Rh 152));have g0:Vg y w.heap.size Rh 152:=by rw [<-u];exact PW w _
 have B:aq w y:=by rw [<-u];exact (br w).alloc (PV _) _
 have tb:=λC q=>Ng (sb (sb hb y B) C q);obtain ⟨n,I⟩:=Vb m.nx;rw [I] at tb hn;have a2:(il:Int)<=n:=ap;have V:=br y;obtain ⟨Q,O,G0⟩:=af u B g0;clear u B g0 hb h D I;go_enter func218,ntmps218;go_wp2_with fail;rw [Q.o];refine HA.g (λC:R8=>aq y C) ?_;refine HA.t ?_ [0,1,2,3,4,5,6,7,8,9,10,11,12,13] V.drew ?_;refine HA.d ?_
 try simp only [Exit.then]
 obtain ⟨W1,p⟩:=Vb y.drew;have g1:Vg W1 w.heap.size Rh 152:=by rw [<-p];exact G0.o
 have J:aq w W1:=by rw [<-p];exact O.o.drew
 rw [p];clear p V tb;obtain ⟨⟨u0,u1,u2,u3,u4,u5,u6,u7,u8,u9,a1,a0⟩,uf⟩:=lL g1;have lu:=PU g1;have N:=OQ (v0:=QZ 0) (v1:=QZ 0) (v2:=QZ 0) (v3:=.bool false) (v4:=.bool false) (v5:=QZ 0) (v6:=QZ 0) (v7:=QZ 0) (v8:=QZ 0) (v9:=QZ 0) (v10:=QZ 0) (v11:=QZ 0) g1;have U:=aa N;have kk:Keep (λj=>j=w.heap.size) W1 (((((((((((((W1.setCell (ar w.heap.size 0) (QZ 0)).setCell (ar w.heap.size 1) (QZ 0)).setCell (ar w.heap.size 2) (QZ 0)).setCell (ar w.heap.size 3) (.bool false)).setCell (ar w.heap.size 4) (.bool false)).setCell (ar w.heap.size 5) (QZ 0)).setCell (ar w.heap.size 6) (QZ 0)).setCell (ar w.heap.size 7) (QZ 0)).setCell (ar w.heap.size 8) (QZ 0)).setCell (ar w.heap.size 9) (QZ 0)).setCell (ar w.heap.size 10) (QZ 0)).setCell (ar w.heap.size 11) (QZ 0))):=Vk w.heap.size (Vk w.heap.size (Vk w.heap.size (Vk w.heap.size (Vk w.heap.size (Vk w.heap.size (Vk w.heap.size (Vk w.heap.size (Vk w.heap.size (Vk w.heap.size (Vk w.heap.size (Vk w.heap.size (Keep.refl _ _) _ (.inr rfl) _) _ (.inr rfl) _) _ (.inr rfl) _) _ (.inr rfl) _) _ (.inr rfl) _) _ (.inr rfl) _) _ (.inr rfl) _) _ (.inr rfl) _) _ (.inr rfl) _) _ (.inr rfl) _) _ (.inr rfl) _) _ (.inr rfl) _;obtain ⟨KK,L⟩:=ae kk J;clear N kk g1 J;go_wp2_with fail;obtain ⟨W9,A⟩:∃W9,((((((((((((W1.setCell (ar w.heap.size 0) (QZ 0)).setCell (ar w.heap.size 1) (QZ 0)).setCell (ar w.heap.size 2) (QZ 0)).setCell (ar w.heap.size 3) (.bool false)).setCell (ar w.heap.size 4) (.bool false)).setCell (ar w.heap.size 5) (QZ 0)).setCell (ar w.heap.size 6) (QZ 0)).setCell (ar w.heap.size 7) (QZ 0)).setCell (ar w.heap.size 8) (QZ 0)).setCell (ar w.heap.size 9) (QZ 0)).setCell (ar w.heap.size 10) (QZ 0)).setCell (ar w.heap.size 11) (QZ 0))=W9:=⟨_,rfl⟩;rw [A];have Y:=U.o;rw [A] at Y;obtain ⟨⟨r0,r1,r2,r3,r4,r5,r6,r7,r8,r9,R,T⟩,rf⟩:=lL Y;have Z:=KK.o;rw [A] at Z;have HB:=L.o.trans (Z.toBelow L.o.size (λj hj=>ap));exact Qd (v:=.tuple #[.agg Rh,.bool false]) (by simp [results,results218,go_sem,r0,r1,r2,r3,r4,r5,r6,r7,r8,r9,R,T]) rfl ⟨rfl,HB⟩
theorem Gk {b:Nat} {i:Inp} {a:MAd} {m:Mst} (h:aU H w b i x a m) (hn:m.op.length<=60):Vj 219 #[(au b)] w λe C=>∃v,Vi e v/\C.ownsRow w.heap.size 3 1 v m.op.length (aA .i64 (eg m.op))/\aq w C:=by
 obtain ⟨A,c,u,_⟩:=aC h.oO;have hc:=mV A (eg m.op) c w (by have:=h.oO;rw [u] at this;exact Rd.own this) (by rw [ma];omega);rw [ma] at hc;have B:=Ng h.blk;rw [u] at B;obtain ⟨n,p⟩:=Vb m.op.length;rw [p] at hc B |-;have L:=aa hc;clear h hc p hn u;go_enter func219,ntmps219;go_wp2_with fail;refine L.o.mono ?_;rintro e N ⟨v,rfl,D,y⟩;obtain ⟨J,I⟩:=ae D y;clear D y;go_wp2;go_ret;exact ⟨_,rfl,J.o,I.o⟩
end Go.Proofs.YtgmajkppbhiopaaGreat
