/- No condition. -/
import Derived.Test.YtgmajkppbhiopaaGreatQ03
import Derived.Deep.DeepCutAuto
set_option linter.unusedSimpArgs false
set_option linter.unusedVariables false
set_option maxRecDepth 100000
set_option maxHeartbeats 4000000
namespace Go.Proofs.YtgmajkppbhiopaaGreat
open Go.RowKit Go.Shelf
open Tryz
attribute [local go_sem] Oper.semAt_some
def nd (ms:Qa) (c k:Nat):Qa:=dM c fun j=>nth ms (k*c+j)
def Eu (ms:Qa) (r c:Nat) (xs:Qa) (q:Int):Qa:=dM r fun k=>um (nd ms c k) xs q
theorem iX (ms:Qa) (c k:Nat):(nd ms c k).length=c:=cF _ _
theorem qG {r c k:Nat} (hk:k<r):k*c+c<=r*c:=by
 have:=OF c (show k+1<=r by omega)
 rwa [Ox] at this
theorem ft (l:Qa) (m j:Nat):nth (l.drop m) j=nth l (m+j):=by simp [nth,List.getD_eq_getElem?_getD,List.getElem?_drop]
theorem fq {l:Qa} {m j:Nat} (h:j<m):nth (l.take m) j=nth l j:=by simp [nth,List.getD_eq_getElem?_getD,List.getElem?_take,h]
theorem KT {ms:Qa} {r c k:Nat} (hk:k<r) (hl:ms.length=r*c):(ms.drop (k*c)).take c=nd ms c k:=by
 have:=qG (c:=c) hk;refine fF (by rw [Oi,Om];omega) fun j h=>?_;rw [fq h,ft]
theorem CP {W:Qd} {g o:Nat} {ms:Qa} {r c k:Nat} (h:Rd W (some (ar g o)) (aA .i64 ms)) (hk:k<r) (hl:ms.length=r*c):Rd W (some (ar g (o+k*c))) (aA .i64 (nd ms c k)):=by
 have:=(h.drop (k*c)).take c
 rwa [dz,di,KT hk hl] at this
theorem yK {ms:Qa} {r c k:Nat} (h:W64 ms) (hk:k<r) (hl:ms.length=r*c):W64 (nd ms c k):=fJ fun j i=>h _ (by have:=qG (c:=c) hk;omega)
theorem IG (r c k:Nat) (g o:Nat) (ms:Qa) (B:N_) (xs:Qa) (e:Nat) (q:Int) (W:Qd) (hk:k<r) (hc:1<=c/\c<=1048576) (i:ms.length=r*c) (hA:Rd W (some (ar g o)) (aA .i64 ms)) (v:W64 ms) (hB:Rd W B (aA .i64 xs)) (h:xs.length=c) (u:W64 xs):Calls prog 274 #[.slice (some (ar g (o+k*c))) c c,.slice B c e,OH q] W fun e p=>e=.returned (.tuple #[OH (um (nd ms c k) xs q),.bool true])/\aq W p:=by
 have:=Lo (some (ar g (o+k*c))) B (nd ms c k) xs c e q W (CP hA hk i) hB (by rw [iX,h]) (by rw [iX];omega) (yK v hk i) u
 rwa [iX,h] at this
theorem Iw (ms:Qa) (r c:Nat) (xs:Qa) (q:Int):((List.finRange r).map fun k=>um (nd ms c k.1) xs q)=Eu ms r c xs q:=by
 refine fF (by simp) fun k hk=>?_;rw [dd _ _ (by simpa using hk)];simp
theorem IE (r c:Nat) (g o y d:Nat) (ms:Qa) (B:N_) (xs:Qa) (e:Nat) (q:Int) (w:Qd) (hr:1<=r/\r<=1048576) (hc:1<=c/\c<=1048576) (a2:y=r*c) (hd:y<=d) (hm:y<=17592186043904) (b3:ms.length=y) (hA:Rd w (some (ar g o)) (aA .i64 ms)) (wm:W64 ms) (hB:Rd w B (aA .i64 xs)) (av:xs.length=c) (wx:W64 xs):Calls prog 266 #[.agg #[OH r,OH c,.slice (some (ar g o)) y d],.slice B c e,OH q] w fun e w'=>∃A' c',e=.returned (.tuple #[.slice A' r c',.bool true])/\w'.ownsRow w.heap.size 2 1 (.slice A' r c') r (aA .i64 (Eu ms r c xs q))/\aq w w':=by
 have ao:=fun w'=>ny r c (some (ar g o)) y d w' hr hc a2 hm;have aR:=fun cs w'=>sB cs w';obtain ⟨be,bf,a3,b9,bb,HA,HB,WM⟩:=ak ao aR a2 b3 av hA hB wm;have WX:=aa wx;clear ao aR a2 b3 av hA hB wm wx;refine (callsIn_wide (n:=3)).1 ?_;refine callsIn_of_wp_marks func266 rfl trivial ?_ rfl;simp only [ntmps266,List.size_toArray,List.length_cons,List.length_nil,Nat.reduceAdd,Nat.reduceSub,Array.replicate_succ,Array.replicate_zero,List.push_toArray,List.append_toArray,List.nil_append,List.cons_append]
 gi_wp2_with fail
 refine ⟨trivial,?_⟩;refine (callsIn_wide.2 (be.o _)).mono ?_;rintro e w1 ⟨rfl,rfl⟩
 gi_wp2_with fail
 refine ⟨trivial,?_⟩;refine (callsIn_wide.2 (bf.o _ _)).mono ?_;rintro e w2 ⟨rfl,rfl⟩
 gi_wp2_with fail
 obtain ⟨p,H⟩:∃p,p=((((w.alloc (.cells #[OH r,OH c,.slice (some (ar g o)) y d] 354)).alloc (.cells #[.slice B c e] 139)).alloc (.cells #[OH q] 3)).alloc (.cells #[OH r,OH c,.slice (some (ar g o)) y d] 354)):=⟨_,rfl⟩;have Y:p.heap.size=w.heap.size+1+1+1+1:=by rw [H];simp
 have b4:Boxed p (w.heap.size+1) 139 (.slice B c e):=by
  rw [H];have:=((Boxed.new (w.alloc (.cells #[OH r,OH c,.slice (some (ar g o)) y d] 354)) 139 (.slice B c e)).alloc (.cells #[OH q] 3)).alloc (.cells #[OH r,OH c,.slice (some (ar g o)) y d] 354);simpa using this
 have b5:Boxed p (w.heap.size+1+1) 3 (OH q):=by
  rw [H];have:=(Boxed.new ((w.alloc (.cells #[OH r,OH c,.slice (some (ar g o)) y d] 354)).alloc (.cells #[.slice B c e] 139)) 3 (OH q)).alloc (.cells #[OH r,OH c,.slice (some (ar g o)) y d] 354);simpa using this
 have J:aq w p:=by rw [H];exact ((((NI _ w).alloc (NF _) _).alloc (by simp) _).alloc (by simp;omega) _).alloc (by simp;omega) _
 rw [<-H,<-Y];have bO:=(Boxed.new p 139 (OJ)).alloc (.cells #[OH r,OH c,.slice (some (ar g o)) y d] 354)
 have bM:((p.alloc (.cells #[OJ] 139)).alloc (.cells #[OH r,OH c,.slice (some (ar g o)) y d] 354)).heap[p.heap.size+1]?=some (.cells #[OH r,OH c,.slice (some (ar g o)) y d] 354 (0,0)):=by
  have:=NG (p.alloc (.cells #[OJ] 139)) (.cells #[OH r,OH c,.slice (some (ar g o)) y d] 354);simpa using this
 obtain ⟨a7,u,b1⟩:=af Y J bM;clear H;clear Y J bM
 refine' wpIn_rangeFunc_ownG (F:=Fence.wide) (n:=3) rfl ap (gf:=268) (lb:=#[(au (p.heap.size+1))]) rfl trivial (enters_of func268 (by kernel_rfl) rfl)
  (oK _ (p.heap.size+1) w.heap.size g o r c y d hr.2 hc a3.o hd _ b1.o) mj (mp (by have:=u.o.size;simp;omega) (by simp)) (NI _ _) (fun _=>rfl)
  (fun (i:List (Fin r)) W=>((∃v,Boxed W p.heap.size 139 v/\W.ownsRow w.heap.size 2 1 v i.length (aA .i64 (i.map fun k=>um (nd ms c k.1) xs q))/\True)/\Boxed W (w.heap.size+1) 139 (.slice B c e)/\Boxed W (w.heap.size+1+1) 3 (OH q)/\W.heap[p.heap.size+1]?=some (.cells #[OH r,OH c,.slice (some (ar g o)) y d] 354 (0,0)))/\aq w W)
  (fun _ _ _=>False)
  (OwnFrom.and (OwnFrom.and (Own.from (holdsRow_own w.heap.size p.heap.size 139 2 1 (fun i:List (Fin r)=>i.length) (fun i=>aA .i64 (i.map fun k=>um (nd ms c k.1) xs q)) (fun _ _=>True)) _) (OwnFrom.and (gr _ _ _ rfl) (OwnFrom.and (gr _ _ _ rfl) (gr _ _ _ rfl)))) (ownFrom_below (NF _) (by have:=u.o.size;simp;omega)))
  (fun _ _ _ _ _ hs _ _=>hs)
  ⟨⟨⟨_,bO,NV _ _ _ _,trivial⟩,(b4.alloc _).alloc _,(b5.alloc _).alloc _,b1.o⟩,(u.o.alloc (by have:=u.o.size;omega) _).alloc (by have:=u.o.size;simp;omega) _⟩
  _ ?assign ?body ?done ?stop
 case assign=>
  intro l x W K hK;unfold qC
  gi_wp2
  exact hK
 case body=>
  rintro l i x W ⟨⟨⟨v,hv,C,_⟩,N,O,V⟩,Q⟩ aG;have bh:=N.cell;have bo:=O.cell;obtain ⟨Hv,a6,HM,L,H4,H5,bv⟩:=aj hv C V Q N O aG;clear hv C V Q N O aG
  gi_wp2_with fail
  refine ⟨trivial,?_⟩;refine (CallsIn.inRound l (callsIn_wide.2 (IG r c x.1 g o ms B xs _ q W x.2 hc (b9.o.trans a3.o) (HA.o.below L.o) WM.o (HB.o.below L.o) bb.o WX.o))).mono ?_;rintro e w3 ⟨rfl,A⟩;have a0:Boxed w3 p.heap.size 139 v:=(A.block _ (Boxed.lt Hv.o)).trans Hv.o;have bi:=a0.cell;have I:=ay a6.o A;have a4:w.heap.size<=w3.heap.size:=NN L.o.size A.size;have aP:w.heap.size<=p.heap.size:=u.o.size;have b0:i.length<r:=bv.o;have T:=(A.block _ (NE HM.o)).trans HM.o;have U:=(A.block _ (NE H4.o)).trans H4.o;have R:=(A.block _ (NE H5.o)).trans H5.o;obtain ⟨a9,ab,a8,bn,aM,Z,bs,bd⟩:=ak T U R a0 A I a4 aP;have ad:=aa b0;clear a0 A I a4 aP b0 T U R bh bo;obtain ⟨dv,a1⟩:∃dv,dv=um (nd ms c x.1) xs q:=⟨_,rfl⟩;have bl:=aa a1;rw [<-a1];clear a1
  gi_wp2_with (gi_at_builtin;refine nX mL w3 rfl (.tmp 34) (.tmp 36) rfl w.heap.size p.heap.size v i.length _ rfl bn.o (by decide) Z.o [OH dv] rfl rfl (cJ .i64 [dv]) (by have:=ad.o;have:=hr.2;omega) (by have:=ad.o;have:=hr.2;unfold maxLen;omega) bs.o bd.o ?_)
  intro g1 c1 w1 k1 k2 k3 k4 k5 k6;have bz:=k1.cell;have bw:=k1.frozen;obtain ⟨K2,K3,K4,K5,K6⟩:=ah k2 k3 k4 k5 k6;clear k1 k2 k3 k4 k5 k6 bi
  gi_wp2_with fail
  have b6:Below w.heap.size W (w1.setCell (ar p.heap.size 0) (.slice (some (ar g1 0)) (i.length+1) c1)):=(aM.o.mono L.o.size).trans K5.o;have b8:p.heap.size+1≠p.heap.size:=ap;have b7:w.heap.size+1≠p.heap.size:=by have:=a7.o;omega
  have b2:w.heap.size+1+1≠p.heap.size:=by have:=a7.o;omega
  have a5:=K6.o _ _ _ _ _ b8 (by decide) a9.o;refine ⟨((KeepsOthers.of_grownBy (row:=none) (mH aM.o) (fun _ _ h=>by cases h)).trans K4.o).from _,⟨b6,fun _=>a5.trans HM.o.symm⟩,⟨⟨_,K2.o,?_,trivial⟩,K6.o _ _ _ _ _ b7 (by decide) ab.o,K6.o _ _ _ _ _ b2 (by decide) a8.o,a5⟩,L.o.trans b6⟩;have h:=K3.o;rw [bl.o] at h;simpa [aA] using h
 case done=>
  rintro D ys W hD rfl ⟨⟨⟨v,hv,C,_⟩,N,O,V⟩,Q⟩ hK;have hc:=hv.cell
  gi_wp2
  refine ⟨by simp,.inl ⟨_,_,rfl,run_takeDeferred hK,?_⟩⟩;obtain ⟨A',c',rfl,_⟩:=aC C;rw [List.length_finRange,Iw] at *;refine ⟨.tuple #[.slice A' r c',.bool true],by simp [results,results266,go_sem],A',c',rfl,ownsRow_putObj C _ hK rfl,Q.trans (belowK_b (w:=w) (NF _) W D _ _ (by have:=u.o.size;simp at hD;omega) hK rfl rfl)⟩
 case stop=>
  rintro D c i W _ _ h _;exact h.elim
end Go.Proofs.YtgmajkppbhiopaaGreat
namespace Go.Proofs.YtgmajkppbhiopaaGreat
open Go.RowKit
open Tryz
def uQ (l:Qa):Qa:=dM l.length fun i=>max (nth l i) 0
def zL (sz ps:Qa) (q:Int) (k:Nat) (v:Qa):Qa:=fw (Eu (wL sz ps k) (szN sz (k+1)) (szN sz k) v q) (bL sz ps k)
def dy (sz ps:Qa) (q:Int) (x:Qa):Nat->Qa
 | 0=>x
 | k+1=>if k+1<sz.length-1 then uQ (zL sz ps q k (dy sz ps q x k)) else zL sz ps q k (dy sz ps q x k)
theorem W64.nth {l:Qa} (h:W64 l) (k:Nat): -9223372036854775808<=nth l k/\nth l k<=9223372036854775807:=by
 by_cases hk:k<l.length
 ·exact h k hk
 ·have:Go.Proofs.YtgmajkppbhiopaaGreat.nth l k=0:=by unfold Go.Proofs.YtgmajkppbhiopaaGreat.nth;simp [List.getD,List.getElem?_eq_none (show l.length<=k by omega)]
  omega
theorem FE {ps:Qa} (h:W64 ps) (sz:Qa) (k:Nat):W64 (wL sz ps k):=fJ fun _ _=>h.nth _
theorem yI (ms:Qa) (r c:Nat) (xs:Qa) (q:Int):(Eu ms r c xs q).length=r:=cF _ _
theorem iZ (xs ys:Qa):(fw xs ys).length=xs.length:=cF _ _
theorem tV (xs ys:Qa):W64 (fw xs ys):=fJ fun _ _=>gF _
theorem D0 (l:Qa):(uQ l).length=l.length:=cF _ _
theorem D1 {l:Qa} (h:W64 l):W64 (uQ l):=fJ fun k _=>by have:=h.nth k;omega
theorem vQ (sz ps:Qa) (q:Int) (k:Nat) (v:Qa):(zL sz ps q k v).length=szN sz (k+1):=by unfold zL;rw [iZ,yI]
theorem Fz (sz ps:Qa) (q:Int) (k:Nat) (v:Qa):W64 (zL sz ps q k v):=tV _ _
theorem fl {sz ps:Qa} {q:Int} {x:Qa} (h:x.length=szN sz 0) (k:Nat):(dy sz ps q x k).length=szN sz k:=by
 cases k with
 | zero=>exact h
 | succ k=>
  unfold dy
  split
  ·rw [D0,vQ]
  ·rw [vQ]
theorem pI {sz ps:Qa} {q:Int} {x:Qa} (h:W64 x) (k:Nat):W64 (dy sz ps q x k):=by
 cases k with
 | zero=>exact h
 | succ k=>
  unfold dy
  split
  ·exact D1 (Fz _ _ _ _ _)
  ·exact Fz _ _ _ _ _
def jh (w:Qd) (vals:Qc) (n:Nat) (f:Nat->Qa):Prop:=vals.length=n/\∀j,j<n->∃A c,vals[j]?=some (.slice A (f j).length c)/\(f j).length<=c/\Rd w A (aA .i64 (f j))
theorem jh.below {w i:Qd} {vals:Qc} {n:Nat} {f:Nat->Qa} (h:jh w vals n f) (hb:aq w i):jh i vals n f:=
 ⟨h.1,fun j o=>by obtain ⟨A,c,h1,p,u⟩:=h.2 j o;exact ⟨A,c,h1,p,u.below hb⟩⟩
structure ua (w:Qd) (As Ap:N_) (sz ps:Qa) (cs:Nat):Prop where
 hA:Rd w As (aA .i64 sz)
 hP:Rd w Ap (aA .i64 ps)
 hg:dO sz
 hl:ps.length=bR sz (sz.length-1)
 hc:sz.length<=cs
 wp:W64 ps
theorem ua.below {w i:Qd} {o u:N_} {sz ps:Qa} {p:Nat} (h:ua w o u sz ps p) (hb:aq w i):ua i o u sz ps p:=⟨h.hA.below hb,h.hP.below hb,h.hg,h.hl,h.hc,h.wp⟩
theorem nv (i u:N_) (n m p cp:Nat) (q:Int) (w:Qd) (hn:1<=n/\n<=1000):Calls prog 143 #[.agg #[.slice i n p,.slice u m cp,OH q]] w fun e o=>e=.returned (OH ((n-1:Nat):Int))/\aq w o:=by
 obtain ⟨h1,v⟩:=hn;have hw:IntKind.i64.wrap ((n:Int)-1)=((n-1:Nat):Int):=by rw [NK _ ap];omega
 have h:(n:Int)-1=((n-1:Nat):Int):=ap;rw [h] at hw;go_enter func143,ntmps143;go_wp2;go_ret;refine ⟨by first | rfl | (rw [h];rfl),?_⟩;exact am
theorem rk (Z Ap:N_) (sz ps:Qa) (C cp k r c:Nat) (q:Int) (w:Qd) (h:ua w Z Ap sz ps C) (hk:k+1<sz.length) (hr:r<szN sz (k+1)) (hc:c<szN sz k):Calls prog 170 #[.agg #[.slice Z sz.length C,.slice Ap ps.length cp,OH q],OH k,OH r,OH c] w fun e u=>e=.returned (OH (nth ps (bR sz k+r*szN sz k+c)))/\aq w u:=by
 have T:=h.hg.1;have L:=T.1.2;have z0:=T.at (k:=k) ap;have O:=h.hg.mul hk
 have i:bR sz k+r*szN sz k+c<ps.length:=by
  have h1:=fE sz k;have h2:=fS sz (show k+1<=sz.length-1 by omega)
  have h3:r*szN sz k+szN sz k<=szN sz (k+1)*szN sz k:=by
   have:=OF (szN sz k) (show r+1<=szN sz (k+1) by omega)
   rwa [Ox] at this
  have h4:=h.hl;unfold dA at h1;omega
 have x:=fun u (hb:aq w u)=>pO Z sz k C u (h.hA.below hb) T hk h.hc;have V:ps.length<=1048576:=by rw [h.hl];exact h.hg.2
 obtain ⟨b,o,rfl,R⟩:=h.hA.num (show k<sz.length by omega);obtain ⟨D,J,rfl,H⟩:=h.hP.num i;have A:r*szN sz k<=szN sz (k+1)*szN sz k:=OF _ ap;rw [z0.2.2] at R;obtain ⟨a,ha⟩:∃a,szN sz k=a:=⟨_,rfl⟩;obtain ⟨N,hN⟩:∃N,bR sz k=N:=⟨_,rfl⟩;obtain ⟨n,hn⟩:∃n,sz.length=n:=⟨_,rfl⟩;obtain ⟨m,hm⟩:∃m,ps.length=m:=⟨_,rfl⟩;rw [ha] at R H i hc A z0 ⊢;rw [hN] at H i x ⊢;rw [hn] at x hk L ⊢;rw [hm] at i V ⊢;obtain ⟨ra,B⟩:∃ra,r*a=ra:=⟨_,rfl⟩;rw [B] at H i A ⊢;have U:b<w.heap.size:=aB R;have Q:D<w.heap.size:=aB H;have I:(r:Int)*(a:Int)=(ra:Int):=by rw [<-B];push_cast;rfl
 have Y:=aa x;clear x h T O A z0 hn hm hN ha B hr;have a7:IntKind.i64.wrap ((r:Int)*(a:Int))=(ra:Int):=by rw [I];exact NK _ ap
 have a3:IntKind.i64.wrap ((N:Int)+(ra:Int))=(N:Int)+ra:=NK _ ap;have a2:IntKind.i64.wrap ((N:Int)+(ra:Int)+(c:Int))=(N:Int)+ra+c:=NK _ ap;have a1:(0:Int)<=(N:Int)+ra+c:=ap;have a5:(N:Int)+ra+c<m:=ap;have a8:((N:Int)+ra+c).toNat=N+ra+c:=ap;have a6:(k:Int)<n:=ap;have a4:k<n:=ap;have a9:=Cx;clear I;go_enter func170,ntmps170;go_wp2_with fail
 go_region_held3 (fun u=>u.cell? ⟨w.heap.size,0,none⟩=some (.slice (some ⟨b,o,none⟩) n C)/\u.cell? ⟨w.heap.size,1,none⟩=some (.slice (some ⟨D,J,none⟩) m cp)/\u.cell? ⟨b,o+k,none⟩=some (OH a)/\u.cell? ⟨D,J+(N+ra+c),none⟩=some (OH (nth ps (N+ra+c)))) (simp [go_sem,World.cell?_alloc_past, *])
  ((go_at_call 182;refine (Y.o _ ?_).mono ?_;(focus (exact am;done));rintro e w1 ⟨rfl,y⟩;have v:aq w w1:=Below.trans (by exact am) (y.mono (by simp));have g0:=aw y (NH _ w.heap.size 0 _ _ _ (NG w (.cells #[.slice (some ⟨b,o,none⟩) n C,.slice (some ⟨D,J,none⟩) m cp,OH q] 198)));have g1:=aw y (NH _ w.heap.size 1 _ _ _ (NG w (.cells #[.slice (some ⟨b,o,none⟩) n C,.slice (some ⟨D,J,none⟩) m cp,OH q] 198)));have g2:=(v.cell (p:=⟨b,o+k,none⟩) U).trans R;have g3:=(v.cell (p:=⟨D,J+(N+ra+c),none⟩) Q).trans H;have a0:=aa v;clear y v))
 go_wp2_with fail;go_ret;exact ⟨rfl,a0.o⟩
theorem D5 (L T:N_) (sz ps:Qa) (A cp k r:Nat) (q:Int) (w:Qd) (h:ua w L T sz ps A) (hk:k+1<sz.length) (hr:r<szN sz (k+1)):Calls prog 181 #[.agg #[.slice L sz.length A,.slice T ps.length cp,OH q],OH k,OH r] w fun e v=>e=.returned (OH (nth ps (dA sz k+r)))/\aq w v:=by
 have O:=h.hg.1;have D:=O.1.2
 have y:dA sz k+r<ps.length:=by
  have h1:=fE sz k;have h2:=fS sz (show k+1<=sz.length-1 by omega);have h4:=h.hl;omega
 have i:=fun v (hb:aq w v)=>yo L sz k A v (h.hA.below hb) O hk h.hc;have J:ps.length<=1048576:=by rw [h.hl];exact h.hg.2
 obtain ⟨b,o,rfl,p0⟩:=h.hA.num (show k<sz.length by omega);obtain ⟨B,C,rfl,I⟩:=h.hP.num y;obtain ⟨M,R⟩:∃M,dA sz k=M:=⟨_,rfl⟩;obtain ⟨n,hn⟩:∃n,sz.length=n:=⟨_,rfl⟩;obtain ⟨m,hm⟩:∃m,ps.length=m:=⟨_,rfl⟩;rw [R] at I y i ⊢;rw [hn] at i hk D ⊢;rw [hm] at y J ⊢;have H:B<w.heap.size:=aB I;have Q:=aa i;clear i h O hn hm R hr p0;have Y:IntKind.i64.wrap ((M:Int)+(r:Int))=(M:Int)+r:=NK _ ap;have U:(0:Int)<=(M:Int)+r:=ap;have Z:(M:Int)+r<m:=ap;have a0:((M:Int)+r).toNat=M+r:=ap;have a1:=Cx;go_enter func181,ntmps181;go_wp2_with fail
 go_region_held3 (fun v=>v.cell? ⟨w.heap.size,0,none⟩=some (.slice (some ⟨b,o,none⟩) n A)/\v.cell? ⟨w.heap.size,1,none⟩=some (.slice (some ⟨B,C,none⟩) m cp)/\v.cell? ⟨B,C+(M+r),none⟩=some (OH (nth ps (M+r)))) (simp [go_sem,World.cell?_alloc_past, *])
  ((go_at_call 192;refine (Q.o _ ?_).mono ?_;(focus (exact am;done));rintro e V ⟨rfl,u⟩;have x:aq w V:=Below.trans (by exact am) (u.mono (by simp));have g0:=aw u (NH _ w.heap.size 0 _ _ _ (NG w (.cells #[.slice (some ⟨b,o,none⟩) n A,.slice (some ⟨B,C,none⟩) m cp,OH q] 198)));have g1:=aw u (NH _ w.heap.size 1 _ _ _ (NG w (.cells #[.slice (some ⟨b,o,none⟩) n A,.slice (some ⟨B,C,none⟩) m cp,OH q] 198)));have g3:=(x.cell (p:=⟨B,C+(M+r),none⟩) H).trans I;have N:=aa x;clear u x))
 go_wp2_with fail;go_ret;exact ⟨rfl,N.o⟩
def rz (sz ps:Qa) (q:Int) (k r:Nat) (v:Qa):Nat->Int
 | 0=>nth ps (dA sz k+r)
 | c+1=>wrap64 (rz sz ps q k r v c+fB (nth ps (bR sz k+r*szN sz k+c)) (nth v c) q)
theorem Gy (L H:N_) (sz ps:Qa) (J cp k r:Nat) (q:Int) (V:N_) (v:Qa) (cv:Nat) (w:Qd) (h:ua w L H sz ps J) (hk:k+1<sz.length) (hr:r<szN sz (k+1)) (hV:Rd w V (aA .i64 v)) (hv:v.length=szN sz k) (wv:W64 v):Calls prog 168 #[.agg #[.slice L sz.length J,.slice H ps.length cp,OH q],OH k,OH r,.slice V v.length cv] w fun e A=>e=.returned (OH (rz sz ps q k r v v.length))/\aq w A:=by
 have I:=fun A (hb:aq w A)=>D5 L H sz ps J cp k r q A (h.below hb) hk hr;have B:=fun c (hc:c<szN sz k) A (hb:aq w A)=>rk L H sz ps J cp k r c q A (h.below hb) hk hr hc;have a2:v.length<=1048576:=by rw [hv];exact (h.hg.1.at (k:=k) ap).2.1
 obtain ⟨n,hn⟩:∃n,sz.length=n:=⟨_,rfl⟩;obtain ⟨m,hm⟩:∃m,ps.length=m:=⟨_,rfl⟩;obtain ⟨x,hx⟩:∃x,v.length=x:=⟨_,rfl⟩;rw [hn,hm] at I B ⊢;rw [hx] at a2 ⊢;obtain ⟨a9,a4,HV,Hv,Hx,WV,WP⟩:=aj I B hV hv hx wv h.wp;clear I B hV hv hx wv h hn hm hr hk;go_enter func168,ntmps168;go_wp2_with fail;refine (a9.o _ ?_).mono ?_
 ·exact am
 rintro e w1 ⟨rfl,N⟩;have u:=(N.block w.heap.size (by simp)).trans (NG w (.cells #[.slice L n J,.slice H m cp,OH q] 198));have Q:aq w w1:=((NI _ w).alloc (NF _) _).trans (N.mono (by simp));obtain ⟨D,a7⟩:=ae u Q;clear N u Q;go_wp2_with fail
 go_loopw [9,10] (fun s i wr=>∃c:Nat,c<=x/\i=OH c/\s=OH (rz sz ps q k r v c)/\wr.heap[w.heap.size]?=some (.cells #[.slice L n J,.slice H m cp,OH q] 198 (0,0))/\aq w wr) (fun _ i _=>x-(intOf i).toNat)
 ·exact ⟨0,NJ _,rfl,rfl,D.o,a7.o⟩
 case round=>
  obtain ⟨c,hc,rfl,rfl,u,O⟩:=hrel;by_cases a1:c<x
  ·obtain ⟨bv,ov,rfl,pv⟩:=HV.o.num (show c<v.length by rw [Hx.o];exact a1);have a3:bv<w.heap.size:=aB pv;have a6:=(O.cell (p:=⟨bv,ov+c,none⟩) a3).trans pv;obtain ⟨⟨x0,x1,x2⟩,xf⟩:=bx3 u;have R:=NE u;have ab:bv<wr.heap.size:=by have:=O.size;omega
   have B:=a4.o c (by have:=Hv.o;have:=Hx.o;omega);have T:=fun A=>sG (nth ps (bR sz k+r*szN sz k+c)) (nth v c) q A (WP.o.nth _) (WV.o.nth _);obtain ⟨a8,a0,U,D⟩:=ag B T O u;clear B T O u pv;have ad:(c:Int)<x:=ap;go_wp2_with fail
   go_region_held3 (fun A=>A.cell? ⟨w.heap.size,0,none⟩=some (.slice L n J)/\A.cell? ⟨w.heap.size,1,none⟩=some (.slice H m cp)/\A.cell? ⟨w.heap.size,2,none⟩=some (OH q)/\A.cell? ⟨bv,ov+c,none⟩=some (OH (nth v c))) (simp [go_sem, *])
    ((first | (go_at_call 170;refine (a8.o wr.drew U.o.drew).mono ?_;rintro e w3 ⟨rfl,y⟩;have g0:=aw y x0;have g1:=aw y x1;have g2:=aw y x2;have g3:=aw y a6;have C:=(y.block w.heap.size R).trans D.o;have Z:=U.o.trans (((NI wr.heap.size wr).drew.trans y).mono U.o.size);obtain ⟨Y,a5⟩:=ae C Z;clear y C Z) | (go_at_call 100;refine (a0.o _).mono ?_;rintro e w4 ⟨rfl,rfl⟩)))
   go_wp2_with fail;go_roundw
   ·exact ⟨c+1,by omega,by go_num,by rw [IntKind.wrap_i64,rz,wrap64],Y.o,a5.o⟩
   ·simp [intOf];omega
  ·obtain rfl:c=x:=ap;have U:=aa O;clear O u;go_wp2_with fail;go_ret;exact ⟨rfl,U.o⟩
theorem Lm:dB prog 361 139 (OJ) 1 24:=⟨underlying361,info_parts (by kernel_rfl),rfl,by decide⟩
theorem zQ (P base:Nat) (A B:N_) (n c m d:Nat) (xs:Qc) (w:Qd) (hP:w.heap[P]?=some (.cells #[.slice A n c] 361 (0,0))) (O:w.ownsRow base 139 1 (.slice A n c) n xs) (hn:n<=1000000) (u:base<=w.heap.size) (Z:base<=P):Calls prog 265 #[.slice B m d,(au P)] w fun e I=>(∃v,e=.returned v)/\∃N x,I.heap[P]?=some (.cells #[.slice N (n+1) x] 361 (0,0))/\I.ownsRow base 139 1 (.slice N (n+1) x) (n+1) (xs++[.slice B m d])/\
   Keep (fun i=>i=P\/(Value.slice A n c).ownBlock=some i) w I:=by
 obtain ⟨p0,pf⟩:=bx1 hP;have J:=NE hP;obtain ⟨R,Q⟩:=ae hP O;clear hP O;go_enter func265,ntmps265;go_wp2_with (at_builtin;refine aW Lm w rfl (.tmp 3) (.tmp 5) rfl base (.slice A n c) n xs rfl Q.o [.slice B m d] rfl rfl (by simp [Value.oneCell']) ap (by unfold maxLen;omega) u ?_);intro g x H y L h;have p:=(h.block P J (ax R.o (by decide) Q.o)).trans R.o;have h:Keep (fun i=>i=P\/(Value.slice A n c).ownBlock=some i) w H:=(Keep.refl _ w).grown h (fun k hk=>.inr (.inr hk));obtain ⟨q0,qf⟩:=bx1 p;obtain ⟨C,D,V⟩:=af p y h;clear p y L h;go_wp2_with fail;have h9:=OE H P 0 _ _ (.slice (some (ar g 0)) (n+1) x) C.o;have U:Keep (fun i=>i=P) H (H.setCell (ar P 0) (.slice (some (ar g 0)) (n+1) x)):=Keep.setCell (S:=fun i=>i=P) (Keep.refl _ _) (ar P 0) (.inr rfl) _;have o9:=U.own D.o (fun i Y e=>ax C.o (by decide) D.o (by rw [Y,e]));have T:=V.o.setCell (ar P 0) (.inr (.inl rfl)) (.slice (some (ar g 0)) (n+1) x)
 go_end0
 exact ⟨⟨_,rfl⟩,_,_,h9,o9,T⟩
theorem MN (b:Nat) (sz ps:Qa) (q:Int) (A:N_) (m c:Nat) (w:Qd) (h:lY 212 352 w b sz ps q) (hg:dO sz) (hm:m≠szN sz 0):Calls prog 256 #[(au b),.slice A m c] w fun e C=>e=.returned (.tuple #[OJ,.bool false])/\aq w C:=by
 obtain ⟨S,Ap,cp,Al,cl,rows,u,h1,D,R,J,O,V⟩:=h;obtain ⟨⟨L,H,U,y⟩,N⟩:=bx4 u;have hs:=mZ S sz w h1 (by have:=hg.1.1.2;omega);have v:=hg.1.at (k:=0) (by have:=hg.1.1.1;omega);have i:0<sz.length:=by have:=hg.1.1.1;omega
 have B:((m:Int) != (szN sz 0:Int))=true:=by simp;omega
 obtain ⟨I,T⟩:=ae hs v.2.2;clear hs u h1 D R J O V hg v hm;go_enter func256,ntmps256;go_wp2_with fail;refine I.o.mono ?_;rintro e Z ⟨A1,c1,rfl,p,hb⟩;obtain ⟨g,c',x,_,_⟩:=p.form i;simp only [Ou] at x;obtain ⟨rfl,_,rfl⟩:=x;have Y:=cH p i;rw [T.o] at Y;have Q:=aa hb;clear hb p L H U y N;go_wp2;go_ret2;exact ⟨rfl,Q.o⟩
theorem vb (w:Qd) (e:Qf) (v:Value) (base:Nat) (hb:base<=w.heap.size):(w.alloc (.cells #[v] e)).ownsRow base e 1 (.slice (some (ar w.heap.size 0)) 1 1) 1 [v]:=
 ⟨by simp,.inr ⟨w.heap.size,1,#[v],rfl,hb,NG w _,NF _,by unfold maxLen;omega,by simp,by simp⟩⟩
def MB (sz ps:Qa) (q:Int) (x:Qa) (P n₀:Nat) (k:Nat) (o w:Qd):Prop:=
 ∃A c vals,w.heap[P]?=some (.cells #[.slice A (k+1) c] 361 (0,0))/\w.ownsRow n₀ 139 1 (.slice A (k+1) c) (k+1) vals/\
  (∀j,j<=k->∃i h,vals[j]?=some (.slice i (szN sz j) h)/\w.ownsRow n₀ 2 1 (.slice i (szN sz j) h) (szN sz j) (aA .i64 (dy sz ps q x j)))/\Below n₀ o w
theorem FI (b:Nat) (sz ps:Qa) (q:Int) (A:N_) (x:Qa) (c:Nat) (w:Qd) (h:lY 212 352 w b sz ps q) (hg:dO sz) (wp:W64 ps) (hA:Rd w A (aA .i64 x)) (hx:x.length=szN sz 0) (wx:W64 x):Calls prog 256 #[.pointer (some ⟨b,0,none⟩),.slice A x.length c] w fun e O=>∃A' c' vals,e=.returned (.tuple #[.slice A' sz.length c',.bool true])/\Rd O A' vals/\jh O vals sz.length (dy sz ps q x)/\sz.length<=c'/\aq w O:=by
 have cb:=h.lt;obtain ⟨S,Ap,cp,Al,cl,rows,h0,h1,h2,h3,h4,h5,h6⟩:=h;obtain ⟨⟨r0,r1,r2,r3⟩,rf⟩:=bx4 h0;have z0:=hg.1.at (k:=0) (by have:=hg.1.1.1;omega);have hs:=mZ S sz w h1 (by have:=hg.1.1.2;omega);have B:=fun O (k:aq w O)=>fI A x c O (hA.below k) ap;obtain ⟨n,hn⟩:∃n,sz.length-1=n:=⟨_,rfl⟩;have aR:sz.length=n+1:=by have:=hg.1.1.1;omega
 have en:1<=n/\n<=15:=by have:=hg.1.1;omega
 obtain ⟨m,hm⟩:∃m,szN sz 0=m:=⟨_,rfl⟩;rw [hn] at r3 h4 h6;rw [hx,hm] at B ⊢;have b2:0<sz.length:=ap;have b8:((m:Int) != (m:Int))=false:=by simp
 have ew:m<=1048576:=by rw [<-hm];exact z0.2.1
 rw [hm] at z0;obtain ⟨Hs,Z0,dw,HG,Hn,aM,Hm,H0⟩:=ak hs z0.2.2 B hg hn aR hm h0;obtain ⟨H3,H4,H5,H6,WP,WX,Hx,HA⟩:=ak h3 h4 h5 h6 wp wx hx hA;clear hs B h0 h1 h2 h3 h4 h5 h6 hg z0 hm hn aR wp wx hx hA;go_enter func256,ntmps256;go_wp2_with fail;refine Hs.o.mono ?_;rintro e w1 ⟨A1,c1,rfl,ho,hb⟩;obtain ⟨g,c',hv,_,_⟩:=ho.form b2;simp only [Ou] at hv;obtain ⟨rfl,_,rfl⟩:=hv;have p0:=cH ho b2;rw [Z0.o] at p0;have Hb:=aa hb;clear hb ho r0 r1 r2 r3 rf;go_wp2_with fail;refine (dw.o _ Hb.o).mono ?_;rintro e w2 ⟨A2,c2,rfl,em,c7,c6⟩;have ao:=Hb.o.trans (c6.mono Hb.o.size);have ab:=(ao.block b cb).trans H0.o;obtain ⟨⟨r0,r1,r2,r3⟩,rf⟩:=bx4 ab;have e7:=NE ab;have d2:=Hx.o;rw [Hm.o] at d2;have b0:=Hb.o.size;obtain ⟨d0,a9,ec⟩:=af (aE c7 b0) ao ab;clear c7 c6 ao ab b0;rw [Hn.o] at r3;go_wp2_with fail
 go_loopw [37] (fun i wr=>∃k:Nat,k<=n/\i=OH k/\MB sz ps q x (w2.heap.size+1) w.heap.size k w wr) (fun i _=>n-(intOf i).toNat)
 case atStart=>
  refine ⟨0,NJ _,rfl,some ⟨w2.heap.size,0,none⟩,1,[.slice A2 m c2],?_,?_,?_,?_⟩
  ·have:=NG (w2.alloc (.cells #[.slice A2 m c2] 139)) (.cells #[.slice (some ⟨w2.heap.size,0,none⟩) 1 1] 361);simpa using this
  ·exact (vb w2 139 (.slice A2 m c2) w.heap.size a9.o.size).alloc _
  ·intro j hj;obtain rfl:j=0:=ap;refine ⟨A2,c2,by rw [Hm.o];rfl,?_⟩;rw [Hm.o];exact (d0.o.alloc _).alloc _
  ·have ao:=a9.o;have eq:=a9.o.size;exact am
 case round=>
  obtain ⟨k,hk,rfl,Ao,co,vals,hP,ho,hv,hW⟩:=hrel;have cP:k<sz.length:=by have:=aM.o;omega
  have aP:=(hW.block b cb).trans H0.o;obtain ⟨⟨r0,r1,r2,r3⟩,rf⟩:=bx4 aP;obtain ⟨p0,pf⟩:=bx1 hP;obtain ⟨go,e9,cr,eB,_⟩:=ho.form ap;simp only [Ou] at cr;obtain ⟨rfl,d5,rfl⟩:=cr;clear d5;have d6:=NE hP;have ei:b<wr.heap.size:=NE aP;have hz:=hW.size;obtain ⟨HP,Ho,Hv,HW,eu⟩:=ah hP ho hv hW aP;clear hP ho hv hW aP;rw [Hn.o] at r3;by_cases L:k<n
  ·have hR:=HG.o.1;have cx:k+1<sz.length:=by have:=aM.o;omega
   have z0:=hR.at cP;have z1:=hR.at cx;have cs:=HG.o.mul cx;obtain ⟨gl,ol,dl,Bl,el,hcs,hd,cc,hrb⟩:=H6.o k L;have hrl:(bZ rows k).length=4:=H5.o _ (by rw [qB (by rw [H4.o];exact L)];exact List.getElem_mem _);have B:∀t,t<4->(List.flatten rows)[k*4+t]?=(bZ rows k)[t]?:=fun t ht=>nl H5.o k t (by rw [H4.o];exact L) ht;have e0:=B 0 ap;have R:=B 1 ap;have e2:=B 2 ap;have e3:=B 3 ap;rw [hcs] at e0 R e2 e3;simp only [Nat.add_zero,Oa,N9] at e0 R e2 e3;obtain ⟨bl,oo,d9,q0⟩:=H3.o _ _ e0;obtain ⟨_,_,Y,q1⟩:=H3.o _ _ R;obtain ⟨_,_,T,q2⟩:=H3.o _ _ e2;obtain ⟨_,_,Z,q3⟩:=H3.o _ _ e3;subst d9;injection Y with Y;injection Y with i1 i2 _;subst i1;subst i2
   injection T with T;injection T with i1 i2 _;subst i1;subst i2
   injection Z with Z;injection Z with i1 i2 _;subst i1;subst i2
   have a8:bl<w.heap.size:=aB q0;have bG:=(HW.o.cell (p:=⟨bl,oo+k*4,none⟩) a8).trans q0;have bb:=(HW.o.cell (p:=⟨bl,oo+(k*4+1),none⟩) a8).trans q1;have bo:=(HW.o.cell (p:=⟨bl,oo+(k*4+2),none⟩) a8).trans q2;have bh:=(HW.o.cell (p:=⟨bl,oo+(k*4+3),none⟩) a8).trans q3;rw [<-Oy] at bb bo bh;obtain ⟨Aj,cj,cv,bO⟩:=Hv.o k (NF _);have pj:=(Rd.own Ho.o) k _ cv;obtain ⟨_,_,ej,pj⟩:=pj;injection ej with ej;injection ej with i1 i2 _;subst i1;subst i2
   rw [Oz] at pj;have wv:=pI (sz:=sz) (ps:=ps) (q:=q) WX.o k;have a7:=fl (sz:=sz) (ps:=ps) (q:=q) Hx.o k;have a1:=fun W (h:aq wr W)=>IE (szN sz (k+1)) (szN sz k) gl ol (szN sz (k+1)*szN sz k) dl (wL sz ps k) Aj (dy sz ps q x k) cj q W ⟨z1.1,z1.2.1⟩ ⟨z0.1,z0.2.1⟩ rfl hd ap (zM _ _ _) ((cc.below HW.o).below h) (FE WP.o sz k) ((Rd.own bO).below h) a7 wv;obtain ⟨r,hr⟩:∃r,szN sz (k+1)=r:=⟨_,rfl⟩;obtain ⟨c0,av⟩:∃c0,szN sz k=c0:=⟨_,rfl⟩;obtain ⟨nn,bs⟩:∃nn,szN sz (k+1)*szN sz k=nn:=⟨_,rfl⟩;rw [bs] at a1 bo cs hd;rw [hr] at a1 bG bh z1;rw [av] at a1 bb z0;have bi:=pj;rw [av] at bi;have b5:=hrb.below HW.o;obtain ⟨da,Hr,ds,e8,cL,ee⟩:=ai a1 hr av bs b5 a7;clear a1 hr av bs hrb b5 cc hd q0 q1 q2 q3 e0 R e2 e3 B hrl hcs pj a7 cv bO;go_wp2_with fail;obtain ⟨V,hV⟩:∃V,V=wr.alloc (.cells #[OH r,OH c0,.slice (some ⟨gl,ol,none⟩) nn dl,.slice Bl r el] 358):=⟨_,rfl⟩;have b9:V.heap[wr.heap.size]?=some (.cells #[OH r,OH c0,.slice (some ⟨gl,ol,none⟩) nn dl,.slice Bl r el] 358 (0,0)):=by rw [hV];exact NG wr _
   have Q:aq wr V:=by rw [hV];exact (NI _ _).alloc (NF _) _
   rw [<-hV];clear hV;have v2:=aw Q r2;have v3:=aw Q r3;have vp:=aw Q p0;have vj:=aw Q bi;obtain ⟨⟨y0,y1,y2,y3⟩,yf⟩:=bx4 b9;have bA:b<V.heap.size:=aB v2;have dp:w2.heap.size+1<V.heap.size:=aB vp;have ev:wr.heap.size<V.heap.size:=aB y0;have ek:go<V.heap.size:=aB vj;obtain ⟨k1,a4⟩:∃k1,k+1=k1:=⟨_,rfl⟩;have ea:k<k1:=ap;rw [a4] at vp;have es:=aa a4;clear a4;obtain ⟨H,eo⟩:=ae Q b9;clear Q b9 r0 r1 r2 r3 rf p0 pf bi bG bb bo bh
   go_region_held3 (fun O=>O.cell? ⟨wr.heap.size,0,none⟩=some (OH r)/\O.cell? ⟨wr.heap.size,1,none⟩=some (OH c0)/\O.cell? ⟨wr.heap.size,2,none⟩=some (.slice (some ⟨gl,ol,none⟩) nn dl)/\O.cell? ⟨w2.heap.size+1,0,none⟩=some (.slice (some ⟨go,0,none⟩) k1 co)/\O.cell? ⟨go,k,none⟩=some (.slice Aj c0 cj)/\O.cell? ⟨b,2,none⟩=some (OH q)) (simp [go_sem, *])
    ((go_at_call 266;refine (da.o V.drew H.o.drew).mono ?_;rintro e w5 ⟨A5,c5,rfl,bw,y⟩;have g0:=aw y y0;have g1:=aw y y1;have g2:=aw y y2;have g3:=aw y y3;have g4:=aw y vp;have g5:=aw y vj;have g6:=aw y v2;have g7:=aw y v3;obtain ⟨aG,ad⟩:=ae bw y;clear bw y))
   go_wp2_with fail;have b7:aq wr w5:=(H.o.drew).trans (ad.o.mono (by have:=H.o.size;simp;omega))
   have b8:∀a b',A5=some a->Bl=some b'->a.block≠b'.block:=fun a b' ha dk=>by
    obtain ⟨b1,o1,R,e4⟩:=cL.o.num (k:=0) (by rw [JM,Hr.o];omega);rw [dk] at R;injection R with R
    subst R;have l1:b1<wr.heap.size:=aB e4;have l2:=(aG.o.lt a.block (by rw [ha];rfl)).1;have l3:=H.o.size;simp at l2 ⊢;omega
   refine (xu _ A5 Bl _ (bL sz ps k) r c5 el w5 aG.o (cL.o.below b7) (by rw [JM,Hr.o]) ap b8).mono ?_;rintro e w6 ⟨rfl,a2,bX⟩;have bI:fw (Eu (wL sz ps k) r c0 (dy sz ps q x k) q) (bL sz ps k)=zL sz ps q k (dy sz ps q x k):=by unfold zL;rw [Hr.o,ds.o]
   rw [bI] at a2;have a2:=aE (base':=V.heap.size) a2 (by simp);have a6:∀i,(Value.slice A5 r c5).ownBlock=some i->V.heap.size<=i:=fun i hi=>by have:=(aG.o.lt i hi).1;simpa using this
   have a5:aq V w6:=((NI _ V).drew.trans (ad.o.mono (by simp))).trans (bX.toBelow (by have:=ad.o.size;simpa using this) a6);have u2:=(a5.cell (p:=⟨b,2,none⟩) bA).trans v2;have u3:=(a5.cell (p:=⟨b,3,none⟩) bA).trans v3;have up:=(a5.cell (p:=⟨w2.heap.size+1,0,none⟩) dp).trans vp;obtain ⟨cf,c9,e5⟩:=af a2 a5 a6;have cy:IntKind.i64.wrap ((k:Int)+1)=(k:Int)+1:=NK _ ap;have eb:=aa cy;clear cy a2 a5 bX bI a6 b8 aG ad b7 g0 g1 g2 g3 g4 g5 g6 g7 v2 v3 vp vj y0 y1 y2 y3 yf
   go_upto_if 67 with (fail)
   go_cut [] (fun wx=>aq V wx/\wx.ownsRow V.heap.size 2 1 (.slice A5 r c5) r (aA .i64 (dy sz ps q x (k+1))))
   case first=>
    by_cases bn:k+1<n
    ·have D:dy sz ps q x (k+1)=uQ (zL sz ps q k (dy sz ps q x k)):=by
      have:=Hn.o
      show (if k+1<sz.length-1 then _ else _)=_
      rw [if_pos ap]
     have U:=vQ sz ps q k (dy sz ps q x k);rw [Hr.o] at U;obtain ⟨z,hz⟩:∃z,zL sz ps q k (dy sz ps q x k)=z:=⟨_,rfl⟩;rw [hz] at U D;have N:=cf.o;rw [hz] at N;have b4:=jF z (fun i=>max (nth z i) 0);unfold uQ at D;rw [<-b4,U] at D;obtain ⟨cO,bf,be⟩:=af U N D;clear b4 U hz D N u2 u3 up;go_wp2_with fail;have b3:decide ((k:Int)+1<n)=true:=OA ap;rw [b3];clear bn b3
     go_loopw [70] (fun i wx=>∃j:Nat,j<=r/\i=OH j/\wx.ownsRow V.heap.size 2 1 (.slice A5 r c5) r (aA .i64 (kT z j (fun i=>max (nth z i) 0)))/\aq V wx) (fun i _=>r-(intOf i).toNat)
     ·exact ⟨0,NJ _,rfl,by rw [iH];exact bf.o,c9.o⟩
     case round=>
      obtain ⟨j,hj,rfl,v,C⟩:=hrel;by_cases L:j<r
      ·obtain ⟨g7,d7,ct,dn,_⟩:=v.form ap;simp only [Ou] at ct;obtain ⟨rfl,dv,rfl⟩:=ct;clear dv;have bd:j<z.length:=by rw [cO.o];exact L
       have p1:=cH v L;rw [gK _ bd,if_neg ap] at p1;have f1:=v.frozenAt j;have bN:=jE (l:=z) (k:=j) (fun i=>max (nth z i) 0) bd;obtain ⟨HO,HB,d1⟩:=af v C bN;clear v C bN bd;go_wp2_with fail;refine (GU _ _).mono ?_;rintro e w9 ⟨rfl,rfl⟩;go_wp2_with fail;go_roundw
       ·exact ⟨j+1,by omega,by go_num,by rw [<-d1.o];exact ed HO.o j _,HB.o.setCell (p:=⟨g7,j,none⟩) dn _⟩
       ·simp [intOf];omega
      ·obtain rfl:j=r:=ap;obtain ⟨HO,HB⟩:=ae v C;clear v C;go_wp2_with fail;go_meet;exact ⟨HB.o,by rw [be.o];exact HO.o⟩
    ·have D:dy sz ps q x (k+1)=zL sz ps q k (dy sz ps q x k):=by
      have:=Hn.o
      show (if k+1<sz.length-1 then _ else _)=_
      rw [if_neg ap]
     have be:=aa D;clear D;go_wp2_with fail;go_meet;exact ⟨c9.o,by rw [be.o];exact cf.o⟩
   case rest=>
    obtain ⟨C,N⟩:=hcut;have J:aq wr wc:=H.o.trans (C.mono H.o.size);have cd:=(J.block _ d6).trans HP.o;have b6:=ay Ho.o J;obtain ⟨ef,bf,bv,I,a3⟩:=ah C N cd b6 J;clear C N cd b6 J u2 u3 up;have bV:w.heap.size<=wc.heap.size:=by have:=a3.o.size;omega
    have cw:w.heap.size<=w2.heap.size+1:=by have:=a9.o.size;omega
    have bz:=zQ (w2.heap.size+1) w.heap.size (some ⟨go,0,none⟩) A5 (k+1) co r c5 vals wc bv.o I.o ap bV cw;have dr:=aa bz;clear bz;go_wp2_with fail;refine dr.o.mono ?_;rintro e w8 ⟨⟨v8,rfl⟩,A8,c8,dG,d3,ci⟩
    have cM:aq w w8:=(HW.o.trans (a3.o.mono HW.o.size)).trans (ci.toBelow bV (fun i hi=>by
     rcases hi with rfl | hi
     ·exact cw
     ·exact (I.o.lt i hi).1))
    have a0:∀{m:Nat} {u:Value} {ys:Qc},wc.ownsRow w.heap.size 2 1 u m ys->w8.ownsRow w.heap.size 2 1 u m ys:=fun h=>ci.own h (fun i hi e=>by
     rcases e with rfl | e
     ·exact ax bv.o (by decide) h hi.symm
     ·exact jC I.o h (by decide) i e hi)
    have e6:=I.o.1;go_wp2_with fail;go_roundw
    case rel=>
     refine ⟨k+1,by omega,by go_num,A8,c8,vals++[.slice A5 r c5],dG,d3,fun j hj=>?_,cM⟩;rcases NY j (k+1) with d8 | d8
     ·obtain ⟨Aj,cj,h1,h2⟩:=Hv.o j ap;exact ⟨Aj,cj,by rw [Og ap];exact h1,a0 (ay h2 a3.o)⟩
     ·obtain rfl:j=k+1:=ap;refine ⟨A5,c5,?_,?_⟩
      ·rw [Oh ap,Hr.o];simp [show vals.length=k+1 by omega]
      ·rw [Hr.o];exact a0 (aE bf.o (by have:=H.o.size;omega))
    case measure=>simp [intOf];omega
  ·obtain rfl:k=n:=ap;have aR:=aM.o
   have cn:jh wr vals sz.length (dy sz ps q x):=by
    refine ⟨?_,fun j hj=>?_⟩
    ·have:=Ho.o.1;omega
    ·obtain ⟨Aj,cj,h1,h2⟩:=Hv.o j ap;have a7:=fl (sz:=sz) (ps:=ps) (q:=q) Hx.o j;obtain ⟨A',c',e,hc⟩:=aC h2;injection e with R e2 e3
     subst R;subst e3;rw [a7];exact ⟨_,_,h1,hc,Rd.own h2⟩
   have cA:sz.length<=co:=by
    obtain ⟨A',c',e,hc⟩:=aC Ho.o;injection e with R e2 e3
    omega
   have bM:=Rd.own Ho.o;obtain ⟨d4,dc,dT⟩:=af bM cn cA;clear bM cn cA;clear aR;go_wp2_with fail;go_ret2;exact ⟨some ⟨go,0,none⟩,co,vals,(by rw [aM.o];rfl),d4.o,dc.o,dT.o,HW.o⟩
def oc (a y:Qa):Qa:=dM a.length fun i=>wrap64 (nth a i-nth y i)
theorem EC (a y:Qa):(oc a y).length=a.length:=cF _ _
theorem ED (a y:Qa):W64 (oc a y):=fJ fun _ _=>gF _
theorem KU (b:Nat) (sz ps:Qa) (q:Int) (A B:N_) (x y:Qa) (c d:Nat) (w:Qd) (h:lY 212 352 w b sz ps q) (hg:dO sz) (wp:W64 ps) (hA:Rd w A (aA .i64 x)) (hx:x.length=szN sz 0) (wx:W64 x) (hB:Rd w B (aA .i64 y)) (hy:y.length=szN sz (sz.length-1)):Calls prog 249 #[(au b),.slice A x.length c,.slice B y.length d] w fun e H=>∃A' c' D dc vals,e=.returned (.tuple #[.slice A' sz.length c',.slice D y.length dc,.bool true])/\Rd H A' vals/\jh H vals sz.length (dy sz ps q x)/\sz.length<=c'/\
   H.ownsRow w.heap.size 2 1 (.slice D y.length dc) y.length (aA .i64 (oc (dy sz ps q x (sz.length-1)) y))/\aq w H:=by
 have ht:=FI b sz ps q A x c w h hg wp hA hx wx;have hv:=fl (sz:=sz) (ps:=ps) (q:=q) hx (sz.length-1);have hl:=hg.1.1;have a9:=(hg.1.at (k:=sz.length-1) ap).2.1;have I:((y.length:Int) != (szN sz (sz.length-1):Int))=false:=by simp;omega
 obtain ⟨n,hn⟩:∃n,sz.length=n:=⟨_,rfl⟩;obtain ⟨m,hm⟩:∃m,y.length=m:=⟨_,rfl⟩;rw [hn] at ht hl hv I hy a9 ⊢;rw [<-hy,hm] at hv I a9;rw [hm];obtain ⟨a,ha⟩:∃a,dy sz ps q x (n-1)=a:=⟨_,rfl⟩;have L:=jF a (fun i=>wrap64 (nth a i-nth y i));rw [ha] at hv ⊢;unfold oc;rw [<-L,hv];clear L;have Ha:=aa ha;clear ha;obtain ⟨Ht,Hv,HB,Hm⟩:=ag ht hv hB hm;clear ht h hg wp hA hx wx hn hv hm hB hy;obtain ⟨b4,b7⟩:=hl;go_enter func249,ntmps249;go_wp2_with fail;refine Ht.o.mono ?_;rintro e w1 ⟨A',c',vals,rfl,hr,Y,hc,hb⟩;obtain ⟨Aj,cj,e1,e2,e3⟩:=Y.2 (n-1) ap;rw [Ha.o,Hv.o] at e1 e2;rw [Ha.o] at e3;have ab:=hr;obtain ⟨bo,oo,rfl,p0⟩:=hr _ _ e1;have a1:(n:Int)-1=((n-1:Nat):Int):=ap;have hw:IntKind.i64.wrap ((n:Int)-1)=((n-1:Nat):Int):=by rw [NK _ ap];omega
 have hi:((n-1:Nat):Int)<n:=ap;have av:n-1<n:=ap;have Q:=Hv.o;have Z:=fI Aj a cj w1 e3 ap;rw [Q] at Z;obtain ⟨b0,b2,Hb,aM,b1,Hc⟩:=ai Z Q hb Y ab hc;clear hr ab Y e1 e2 e3 hb Z Q hc;rw [a1] at hw;go_wp2_with fail;refine b0.o.mono ?_;rintro e w2 ⟨D,dc,rfl,b3,v,V⟩;have a5:=Hb.o.trans (V.mono Hb.o.size);have ao:=Hb.o.size;have a4:=aa v;have v:=aE v ao;obtain ⟨a2,a0,a7⟩:=af a5 v V;clear a5 v V p0 hw a1 hi av I;go_wp2_with fail
 go_loopw [42] (fun i wr=>∃k:Nat,k<=m/\i=OH k/\wr.ownsRow w.heap.size 2 1 (.slice D m dc) m (aA .i64 (kT a k (fun i=>wrap64 (nth a i-nth y i))))/\Keep (fun i=>(Value.slice D m dc).ownBlock=some i) w2 wr) (fun i _=>m-(intOf i).toNat)
 ·exact ⟨0,NJ _,rfl,by rw [iH];exact a0.o,Keep.refl _ _⟩
 case round=>
  obtain ⟨k,hk,rfl,u,O⟩:=hrel;by_cases R:k<m
  ·obtain ⟨g7,d7,a8,b6,_⟩:=u.form ap;simp only [Ou] at a8;obtain ⟨rfl,aR,rfl⟩:=a8;clear aR;have T:k<a.length:=by rw [b2.o];exact R
   have p1:=cH u R;rw [gK _ T,if_neg ap] at p1;have f1:=u.frozenAt k;have a3:=jE (l:=a) (k:=k) (fun i=>wrap64 (nth a i-nth y i)) T;obtain ⟨C,oy,rfl,py⟩:=HB.o.num (show k<y.length by rw [Hm.o];exact R);have aG:C<w.heap.size:=aB py;have I:g7≠C:=ap;have a6:aq w wr:=a2.o.trans (O.toBelow a2.o.size (fun i hi=>(a0.o.lt i hi).1));have aP:=(a6.cell (p:=(ar C (oy+k))) aG).trans py;obtain ⟨HO,HK,ad⟩:=af u O a3;clear u O a3 T a6 py;go_wp2_with fail;have b5:(k:Int)<m:=ap;have J:(fun H:Qd=>H.cell? (ar g7 k)=some (OH (nth a k))/\H.cell? (ar C (oy+k))=some (OH (nth y k))) wr.drew:=⟨p1,aP⟩;refine XA.g 11 (fun H:Qd=>H.cell? (ar g7 k)=some (OH (nth a k))/\H.cell? (ar C (oy+k))=some (OH (nth y k))) ?_;refine XA.t ?_ [0,1,2,3,4,5,6,7,8,9] J ?_;refine XA.o 10 (fun K O=>?_);go_simp;refine (Co _ _ _).mono ?_;rintro e w9 ⟨rfl,rfl⟩;dsimp only;refine O.out _ _ J (fun J=>?_);clear O K J;refine XA.e ?_;simp only [Ob,Oc];go_wp2_with fail;go_roundw
   case rel=>
    refine ⟨k+1,by omega,by go_num,?_,?_⟩
    ·rw [<-ad.o];exact ed (bW HO.o 1) k _
    ·exact Keep.setCell (HK.o.drewN 1) (ar g7 k) (.inr rfl) _
   case measure=>simp [intOf];omega
  ·obtain rfl:k=m:=ap;have N:aq w1 wr:=a7.o.trans (O.toBelow a7.o.size (fun i hi=>(a4.o.lt i hi).1));obtain ⟨HO,U⟩:=ae u N;clear u N O;go_wp2_with fail;go_ret3;exact ⟨_,_,_,_,vals,rfl,b1.o.below U.o,aM.o.below U.o,Hc.o,HO.o,Hb.o.trans (U.o.mono Hb.o.size)⟩
end Go.Proofs.YtgmajkppbhiopaaGreat
namespace Go.Proofs.YtgmajkppbhiopaaGreat
open Go.RowKit Go.Shelf
open Tryz
attribute [local go_sem] Oper.semAt_some
theorem vc {W:Qd} {base:Nat} {e:Qf} {size n c G:Nat} {xs:Qc} {o:Obj} (h:W.ownsRow base e size (.slice (some (ar G 0)) n c) n xs) (v:W.heap[G]?=some o):o.isCells=true:=by
 rcases h.2 with ⟨x,_⟩ | ⟨g,cap,u,p,_,i,_⟩
 ·cases x
 ·simp only [Ou,Option.some.injEq,Addr.mk.injEq] at p;rw [<-p.1.1,v] at i
  cases i;rfl
def ou (ms:Qa) (c:Nat) (ys:Qa) (q:Int) (h:Qa) (k:Nat):Qa:=fw h (qx (nd ms c k) (nth ys k) q)
def ot (ms:Qa) (r c:Nat) (ys:Qa) (q:Int):Qa:=(List.range r).foldl (ou ms c ys q) (List.replicate c 0)
theorem vH (ms:Qa) (c:Nat) (ys:Qa) (q:Int) (h:Qa) (k:Nat):(ou ms c ys q h k).length=h.length:=cF _ _
theorem JI (ms:Qa) (r c:Nat) (ys:Qa) (q:Int):((List.finRange r).foldl (fun i k=>ou ms c ys q i k.1) (List.replicate c 0))=ot ms r c ys q:=by
 unfold ot;have h:List.range r=(List.finRange r).map (·.1):=List.ext_getElem (by simp) (by simp);rw [h,List.foldl_map]
theorem Bk (r c k:Nat) (g o:Nat) (ms:Qa) (y q:Int) (W:Qd) (hk:k<r) (hc:1<=c/\c<=1048576) (h:ms.length=r*c) (hA:Rd W (some (ar g o)) (aA .i64 ms)) (x:W64 ms) (v: -9223372036854775808<=y/\y<=9223372036854775807):Calls prog 261 #[.slice (some (ar g (o+k*c))) c c,OH y,OH q] W fun e i=>∃u p,e=.returned (.slice u c p)/\i.ownsRow W.heap.size 2 1 (.slice u c p) c (aA .i64 (qx (nd ms c k) y q))/\aq W i:=by
 have:=DE (some (ar g (o+k*c))) (nd ms c k) c y q W (CP hA hk h) (by rw [iX];omega) (yK x hk h) v
 rwa [iX] at this
def Kb (r c:Nat) (g o p d:Nat) (ms:Qa) (B:N_) (ys:Qa) (e:Nat) (q:Int) (w:Qd) (G N M:Nat) (h:List (Fin r)) (W:Qd):Prop:= (W.ownsRow w.heap.size 2 1 (.slice (some (ar G 0)) c c) c (aA .i64 (h.foldl (fun i k=>ou ms c ys q i k.1) (List.replicate c 0)))/\Boxed W N 139 (.slice (some (ar G 0)) c c)/\Boxed W (w.heap.size+1) 139 (.slice B r e)/\Boxed W (w.heap.size+1+1) 3 (OH q)/\W.heap[M]?=some (.cells #[OH r,OH c,.slice (some (ar g o)) p d] 354 (0,0)))/\aq w W
theorem Fq (r c:Nat) (g o y d:Nat) (ms:Qa) (B:N_) (ys:Qa) (e:Nat) (q:Int) (w:Qd) (G N M K:Nat) (u:w.heap.size<=K):OwnFrom K (Kb r c g o y d ms B ys e q w G N M):=by
 intro s W C row hs hg hr;obtain ⟨⟨h1,i,A,p,x⟩,h⟩:=hs;have v:=ownFrom_below (β:=Unit) (NF _) u () W C row h hg hr;exact ⟨⟨yv h1 hg hr,eC rfl i hg hr,eC rfl A hg hr,eC rfl p hg hr,eC rfl x hg hr⟩,v⟩
theorem EI (r c:Nat) (g o Q d:Nat) (ms:Qa) (B:N_) (ys:Qa) (e:Nat) (q:Int) (w:Qd) (hr:1<=r/\r<=1048576) (hc:1<=c/\c<=1048576) (aM:Q=r*c) (hd:Q<=d) (hm:Q<=17592186043904) (bn:ms.length=Q) (hA:Rd w (some (ar g o)) (aA .i64 ms)) (wm:W64 ms) (hB:Rd w B (aA .i64 ys)) (bs:ys.length=r) (wy:W64 ys):Calls prog 251 #[.agg #[OH r,OH c,.slice (some (ar g o)) Q d],.slice B r e,OH q] w fun e R=>∃A' c',e=.returned (.tuple #[.slice A' c c',.bool true])/\R.ownsRow w.heap.size 2 1 (.slice A' c c') c (aA .i64 (ot ms r c ys q))/\aq w R:=by
 have b6:=fun R=>ny r c (some (ar g o)) Q d R hr hc aM hm;have bh:=fun cs R=>sB cs R;have be:(8:Nat)*c<=281474976710656:=ap;have cl:=aa be;clear be;obtain ⟨c6,c7,aP,bA,c8,HA,HB,WM⟩:=ak b6 bh aM bn bs hA hB wm;have WY:=aa wy;clear b6 bh aM bn bs hA hB wm wy;refine (callsIn_wide (n:=3)).1 ?_;refine callsIn_of_wp_marks func251 rfl trivial ?_ rfl;simp only [ntmps251,List.size_toArray,List.length_cons,List.length_nil,Nat.reduceAdd,Nat.reduceSub,Array.replicate_succ,Array.replicate_zero,List.push_toArray,List.append_toArray,List.nil_append,List.cons_append]
 gi_wp2_with fail
 refine ⟨trivial,?_⟩;refine (callsIn_wide.2 (c6.o _)).mono ?_;rintro e w1 ⟨rfl,rfl⟩
 gi_wp2_with (gi_at_make;refine xB mL _ rfl (.tmp 22) (.tmp 22) rfl rfl c rfl rfl cl.o (by unfold maxLen;omega) ?_)
 intro w2 y U;rw [fp] at y;have a9:aq w w2:=Below.trans (((((NI _ w).alloc (NF _) _).alloc (by simp) _).alloc (by simp;omega) _).alloc (by simp;omega) _) (U.mono ap)
 have h3:w2.heap[w.heap.size]?=some (.cells #[OH r,OH c,.slice (some (ar g o)) Q d] 354 (0,0)):=by
  refine (U.block w.heap.size ap).trans ?_;refine (NW _ _ _ (by first | (simp;done) | (simp;omega))).trans ((NW _ _ _ (by first | (simp;done) | (simp;omega))).trans ((NW _ _ _ (by simp)).trans (NG w _)))
 have h4:Boxed w2 (w.heap.size+1) 139 (.slice B r e):=by
  refine (U.block (w.heap.size+1) ap).trans ?_;refine (NW _ _ _ (by first | (simp;done) | (simp;omega))).trans ((NW _ _ _ (by simp)).trans ?_);have:=NG (w.alloc (.cells #[OH r,OH c,.slice (some (ar g o)) Q d] 354)) (.cells #[.slice B r e] 139);simpa using this
 have h5:Boxed w2 (w.heap.size+1+1) 3 (OH q):=by
  refine (U.block (w.heap.size+1+1) ap).trans ?_;refine (NW _ _ _ (by simp)).trans ?_;have:=NG ((w.alloc (.cells #[OH r,OH c,.slice (some (ar g o)) Q d] 354)).alloc (.cells #[.slice B r e] 139)) (.cells #[OH q] 3);simpa using this
 obtain ⟨G,hG⟩:∃G,w.heap.size+1+1+1+1=G:=⟨_,rfl⟩;rw [hG] at y U ⊢;obtain ⟨a0,bv,HG,H3,H4,H5⟩:=ai y a9 hG h3 h4 h5;obtain ⟨⟨m0,m1,m2⟩,mf⟩:=bx3 h3;have bI:w.heap.size<w2.heap.size:=NE h3;clear y U a9 hG h3 h4 h5
 gi_wp2_with fail
 refine ⟨trivial,?_⟩;refine (callsIn_wide.2 (c7.o _ _)).mono ?_;rintro e w1 ⟨rfl,rfl⟩
 gi_wp2_with fail
 obtain ⟨H,C⟩:∃H,H=w2.alloc (.cells #[.slice (some (ar G 0)) c c] 139):=⟨_,rfl⟩;rw [<-C];have a7:H.heap.size=w2.heap.size+1:=by rw [C];simp
 have bO:Boxed H w2.heap.size 139 (.slice (some (ar G 0)) c c):=by rw [C];exact Boxed.new w2 _ _
 have b4:Boxed H (w.heap.size+1) 139 (.slice B r e):=by rw [C];exact H4.o.alloc _
 have b5:Boxed H (w.heap.size+1+1) 3 (OH q):=by rw [C];exact H5.o.alloc _
 have r0:H.ownsRow w.heap.size 2 1 (.slice (some (ar G 0)) c c) c (aA .i64 (List.replicate c 0)):=by rw [C];exact aE (a0.o.alloc _) (by have:=HG.o;omega)
 have a1:aq w H:=by rw [C];exact bv.o.alloc ap _
 have bM:(H.alloc (.cells #[OH r,OH c,.slice (some (ar g o)) Q d] 354)).heap[H.heap.size]?=some (.cells #[OH r,OH c,.slice (some (ar g o)) Q d] 354 (0,0)):=NG H _;obtain ⟨N,hN⟩:∃N,N=w2.heap.size:=⟨_,rfl⟩;rw [<-hN] at bO a7 ⊢;rw [<-a7];obtain ⟨bG,O,bi,bV,bz,cf,ci,HN⟩:=ak a7 a1 bM bO b4 b5 r0 hN;have cA:=aa C;clear a7 a1 bM bO b4 b5 r0 hN C m0 m1 m2 mf bI;have cd:Kb r c g o Q d ms B ys e q w G N H.heap.size [] (H.alloc (.cells #[OH r,OH c,.slice (some (ar g o)) Q d] 354)):=⟨⟨ci.o.alloc _,bV.o.alloc _,bz.o.alloc _,cf.o.alloc _,bi.o⟩,O.o.alloc (by have:=O.o.size;omega) _⟩
 refine' wpIn_rangeFunc_ownG (F:=Fence.wide) (n:=3) rfl ap (gf:=268) (lb:=#[(au H.heap.size)]) rfl trivial (enters_of func268 (by kernel_rfl) rfl)
  (oK _ H.heap.size w.heap.size g o r c Q d hr.2 hc aP.o hd _ bi.o) mj (mp (by have:=O.o.size;simp;omega) (by simp)) (NI _ _) (fun _=>rfl)
  (Kb r c g o Q d ms B ys e q w G N H.heap.size)
  (fun _ _ _=>False)
  (Fq r c g o Q d ms B ys e q w G N H.heap.size _ (by have:=O.o.size;simp;omega))
  (fun _ _ _ _ _ hs _ _=>hs)
  cd
  _ ?assign ?body ?done ?stop
 case assign=>
  intro l x W K hK;unfold qC
  gi_wp2
  exact hK
 case body=>
  rintro l c9 x W ⟨⟨L,Y,a4,a5,av⟩,a6⟩ b9;have bb:=a4.cell;have bo:=a5.cell;have b0:=Y.cell;obtain ⟨T,HO,HM,a8,H4,H5,cL⟩:=aj L Y av a6 a4 a5 b9;clear L av a6 a4 a5 b9 Y
  have cv:G<W.heap.size:=by
   obtain ⟨g6,d6,I,_,Z⟩:=T.o.form (by omega:0<c);simp only [Ou,Option.some.injEq,Addr.mk.injEq] at I;rw [I.1.1];exact Z
  gi_wp2_with fail
  have a3:x.1<ys.length:=by rw [c8.o];exact x.2
  have b7:=fun W' (k:aq W W')=>Bk r c x.1 g o ms (nth ys x.1) q W' x.2 hc (bA.o.trans aP.o) ((HA.o.below a8.o).below k) WM.o (WY.o _ a3);have cx:(x.1:Int)<r:=by have:=x.2;omega
  obtain ⟨b2,o2,cj,p2⟩:=(HB.o.below a8.o).num a3;subst cj
  have cr:G<N:=by
   obtain ⟨g6,d6,I,_,Z⟩:=a0.o.form (by omega:0<c);simp only [Ou,Option.some.injEq,Addr.mk.injEq] at I;have:=HN.o;have h7:G<w2.heap.size:=by rw [I.1.1];exact Z
   omega
  have b8:¬G=N:=ap;have bl:¬G=w.heap.size+1:=by have:=HG.o;omega
  have bf:¬G=w.heap.size+1+1:=by have:=HG.o;omega
  have co:¬G=b2:=by
   obtain ⟨b3,o3,e3,p3⟩:=HB.o.num a3;have J:b3<w.heap.size:=aB p3;simp only [Option.some.injEq,Addr.mk.injEq] at e3;have:=HG.o;omega
  have bN:=aa b7;clear b7 a3;refine m7 (fun R=>R.cell? (ar N 0)=some (.slice (some (ar G 0)) c c)/\R.cell? (ar (w.heap.size+1) 0)=some (.slice (some (ar b2 o2)) r e)/\R.cell? (ar (w.heap.size+1+1) 0)=some (OH q)/\R.cell? (ar b2 (o2+x.1))=some (OH (nth ys x.1))) (by kernel_rfl) (by kernel_rfl) (by rintro ⟨_,_,h⟩;exact h) ?_;have u:(fun R:Qd=>R.cell? (ar N 0)=some (.slice (some (ar G 0)) c c)/\R.cell? (ar (w.heap.size+1) 0)=some (.slice (some (ar b2 o2)) r e)/\R.cell? (ar (w.heap.size+1+1) 0)=some (OH q)/\R.cell? (ar b2 (o2+x.1))=some (OH (nth ys x.1))) W.drew:=⟨b0,bb,bo,p2⟩;clear b0 bb bo p2;refine wpAnyH_take (i:=0) (v:=?_) rfl (by kernel_rfl) (by kernel_rfl) (by kernel_rfl) (fun _ _ _ h=>h) (Or.inl ⟨by rfl,?_⟩) u ?_;rotate_left
  ·intro w9 p;(try dsimp only at p);obtain ⟨s1,s2,s3,s4⟩:=p;go_simp;(try with_reducible rfl)
  simp only [N0,N1,N2,Act.put,N4,N5,N6];refine wpAnyH_take (i:=1) (v:=?_) rfl (by kernel_rfl) (by kernel_rfl) (by kernel_rfl) (fun _ _ _ h=>h) (Or.inl ⟨by rfl,?_⟩) u ?_;rotate_left
  ·intro w9 p;(try dsimp only at p);obtain ⟨s1,s2,s3,s4⟩:=p;go_simp;(try with_reducible rfl)
  simp only [N0,N1,N2,Act.put,N4,N5,N6];refine wpAnyH_take (i:=2) (v:=?_) rfl (by kernel_rfl) (by kernel_rfl) (by kernel_rfl) (fun _ _ _ h=>h) (Or.inl ⟨by rfl,?_⟩) u ?_;rotate_left
  ·intro w9 p;(try dsimp only at p);obtain ⟨s1,s2,s3,s4⟩:=p;go_simp;(try with_reducible rfl)
  simp only [N0,N1,N2,Act.put,N4,N5,N6];refine wpAnyH_take (i:=3) (v:=?_) rfl (by kernel_rfl) (by kernel_rfl) (by kernel_rfl) (fun _ _ _ h=>h) (Or.inl ⟨by rfl,?_⟩) u ?_;rotate_left
  ·intro w9 p;(try dsimp only at p);obtain ⟨s1,s2,s3,s4⟩:=p;go_simp;(try with_reducible rfl)
  simp only [N0,N1,N2,Act.put,N4,N5,N6];refine wpAnyH_take (i:=4) (v:=?_) rfl (by kernel_rfl) (by kernel_rfl) (by kernel_rfl) (fun _ _ _ h=>h) (Or.inl ⟨by rfl,?_⟩) u ?_;rotate_left
  ·intro w9 p;(try dsimp only at p);obtain ⟨s1,s2,s3,s4⟩:=p;go_simp;(try with_reducible rfl)
  simp only [N0,N1,N2,Act.put,N4,N5,N6];refine wpAnyH_take (i:=5) (v:=?_) rfl (by kernel_rfl) (by kernel_rfl) (by kernel_rfl) (fun _ _ _ h=>h) (Or.inl ⟨by rfl,?_⟩) u ?_;rotate_left
  ·intro w9 p;(try dsimp only at p);obtain ⟨s1,s2,s3,s4⟩:=p;go_simp;(try with_reducible rfl)
  simp only [N0,N1,N2,Act.put,N4,N5,N6];refine wpAnyH_take (i:=6) (v:=?_) rfl (by kernel_rfl) (by kernel_rfl) (by kernel_rfl) (fun _ _ _ h=>h) (Or.inl ⟨by rfl,?_⟩) u ?_;rotate_left
  ·intro w9 p;(try dsimp only at p);obtain ⟨s1,s2,s3,s4⟩:=p;go_simp;(try with_reducible rfl)
  simp only [N0,N1,N2,Act.put,N4,N5,N6];refine wpAnyH_ready (rs:=[7]) (by kernel_rfl) (by simp) ?_;refine AllReadyH.cons rfl (fun K hK=>?_) AllReadyH.nil;simp only [N0,N1,N2];go_simp;refine (bN.o _ ?_).mono ?_
  ·exact (NI _ W).drew
  rintro e w3 ⟨A',c',rfl,A,J⟩;dsimp only;refine hK.out _ _ ?_ (fun p=>?_)
  ·exact ⟨aw J u.1,aw J u.2.1,aw J u.2.2.1,aw J u.2.2.2⟩
  clear hK K;have aG:=ay (w:=W.drew) T.o J
  have ad:∀a b,(some (ar G 0):N_)=some a->A'=some b->a.block≠b.block:=fun a b ha hb=>by
   cases ha;subst hb
   have h1:=(A.form (by omega:0<c));obtain ⟨g5,d5,bd,cn,_⟩:=h1;simp only [Ou,Option.some.injEq] at bd;rw [bd.1];have h2:=T.o.form (by omega:0<c);obtain ⟨g6,d6,I,_,Z⟩:=h2;simp only [Ou,Option.some.injEq,Addr.mk.injEq] at I;have h7:G<W.heap.size:=by rw [I.1.1];exact Z
   show G≠g5
   have h8:W.heap.size<=g5:=cn;omega
  have ab:=xu w.heap.size (some (ar G 0)) A' _ _ c c c' w3 aG (Rd.own A) (by unfold qx;rw [cF,iX]) ap ad;refine wpAnyH_ready (rs:=[8]) (by kernel_rfl) (by simp) ?_;refine AllReadyH.cons rfl (fun K hK=>?_) AllReadyH.nil;simp only [N0,N1,N2,Act.put,N4,N5,N6];obtain ⟨b1,cw,cb,bX⟩:=ag ab aG A J;clear ab aG A J ad;go_simp;refine b1.o.mono ?_;rintro e w4 ⟨rfl,ao,a2⟩;dsimp only;refine hK.out _ _ ?_ (fun ct=>?_)
  ·exact ⟨a2.cell p.1 (by simp [Value.ownBlock];exact b8),a2.cell p.2.1 (by simp [Value.ownBlock];exact bl),a2.cell p.2.2.1 (by simp [Value.ownBlock];exact bf),a2.cell p.2.2.2 (by simp [Value.ownBlock];exact co)⟩
  refine wpAnyH_done (by kernel_rfl) ?_ _;have V:Keep (fun i=>(Value.slice (some (ar G 0)) c c).ownBlock=some i) W w4:=((Keep.refl _ W).drew.trans (Keep.below bX.o)).trans a2;have cy:w.heap.size<=G:=by have:=HG.o;omega
  have bw:Below w.heap.size W w4:=V.toBelow a8.o.size (fun k hk=>by simp [Value.ownBlock] at hk;omega);have cc:¬G=H.heap.size:=by have:=bG.o;omega
  have aR:=(V.block _ (NE HM.o) (by simp [Value.ownBlock];exact cc)).trans HM.o;refine ⟨(m8 V fun k o hk ho=>?_).from _,⟨bw,fun _=>aR.trans HM.o.symm⟩,⟨⟨?_,?_,?_,?_,aR⟩,a8.o.trans bw⟩⟩
  ·simp only [Value.ownBlock,Option.some.injEq] at hk;subst hk;exact vc T.o ho
  ·rw [List.foldl_append];exact ao
  ·exact (V.block _ (NE HO.o) (by simp [Value.ownBlock];exact b8)).trans HO.o
  ·exact (V.block _ (NE H4.o) (by simp [Value.ownBlock];exact bl)).trans H4.o
  ·exact (V.block _ (NE H5.o) (by simp [Value.ownBlock];exact bf)).trans H5.o
 case done=>
  rintro D zs W hD rfl ⟨⟨L,Y,a4,a5,av⟩,a6⟩ hK;have hc:=Y.cell
  gi_wp2
  refine ⟨by simp,.inl ⟨_,_,rfl,run_takeDeferred hK,?_⟩⟩;rw [JI] at L;refine ⟨.tuple #[.slice (some (ar G 0)) c c,.bool true],by simp [results,results251,go_sem],_,_,rfl,ownsRow_putObj L _ hK rfl,a6.trans (belowK_b (w:=w) (NF _) W D _ _ (by have:=O.o.size;simp at hD;omega) hK rfl rfl)⟩
 case stop=>
  rintro D c c9 W _ _ h _;exact h.elim
end Go.Proofs.YtgmajkppbhiopaaGreat
namespace Go.Proofs.YtgmajkppbhiopaaGreat
open Go.RowKit
open Tryz
def KN (c:Nat) (ys xs:Qa) (q:Int) (i:Nat):Int:=fB (nth ys (i/c)) (nth xs (i%c)) q
def mx (r c:Nat) (ys xs:Qa) (q:Int):Qa:=dM (r*c) (KN c ys xs q)
def nV (r c:Nat) (ys xs:Qa) (q:Int) (h:List Nat) (x j:Nat):Qa:=dM (r*c) fun i=>if i/c∈h\/(i/c=x/\i%c<j) then KN c ys xs q i else 0
theorem pV (r c:Nat) (ys xs:Qa) (q:Int) (h:List Nat) (x j:Nat):(nV r c ys xs q h x j).length=r*c:=cF _ _
theorem Ej (r c:Nat) (ys xs:Qa) (q:Int) (x:Nat):List.replicate (r*c) 0=nV r c ys xs q [] x 0:=
 fF (by simp) fun k hk=>by
  rw [dd _ _ (by simpa using hk)];simp
theorem Ik {r c:Nat} {ys xs:Qa} {q:Int} {o:List Nat} {x j:Nat} (J:x<r) (H:j<c):(nV r c ys xs q o x j).set (x*c+j) (fB (nth ys x) (nth xs j) q)=nV r c ys xs q o x (j+1):=by
 have p:x*c+j<r*c:=by
  have:=OF c (show x+1<=r by omega);rw [Ox] at this;omega
 have C:(x*c+j)/c=x:=by rw [Nat.add_comm,Nat.add_mul_div_right _ _ ap,Nat.div_eq_of_lt H,Oz]
 have y:(x*c+j)%c=j:=by rw [Nat.add_comm,Nat.add_mul_mod_self_right,Nat.mod_eq_of_lt H]
 refine js (by rw [List.length_set,pV,pV]) fun i B=>?_;rw [List.length_set,pV] at B;rw [iQ,pV];unfold nV;rw [bU _ B,bU _ B];by_cases h:i=x*c+j
 ·subst h;rw [if_pos ⟨rfl,p⟩,if_pos (.inr ⟨C,by omega⟩)];unfold KN;rw [C,y]
 ·rw [if_neg (fun u=>h u.1)];have A:¬(i/c=x/\i%c=j):=fun u=>h (by rw [<-u.1,<-u.2,Nat.mul_comm];exact (Nat.div_add_mod i c).symm);by_cases h1:i/c∈o\/(i/c=x/\i%c<j)
  ·rw [if_pos h1,if_pos (h1.imp id fun u=>⟨u.1,by omega⟩)]
  ·rw [if_neg h1,if_neg];rintro (v | ⟨v,I⟩)
   ·exact h1 (.inl v)
   ·exact h1 (.inr ⟨v,by
     rcases NY (i%c) j with D | D
     ·exact D
     ·exact absurd ⟨v,by omega⟩ A⟩)
theorem Il {r c:Nat} {ys xs:Qa} {q:Int} {o:List Nat} {x:Nat} (hc:1<=c) (y:Nat):nV r c ys xs q o x c=nV r c ys xs q (o++[x]) y 0:=by
 unfold nV;refine eZ fun i v=>?_;have hm:i%c<c:=Nat.mod_lt _ ap;by_cases h1:i/c∈o\/(i/c=x/\i%c<c)
 ·rw [if_pos h1,if_pos];rcases h1 with h | ⟨h,_⟩
  ·exact .inl (Ov.2 (.inl h))
  ·exact .inl (Ov.2 (.inr (by simp [h])))
 ·rw [if_neg h1,if_neg];rintro (p | ⟨_,u⟩)
  ·rcases Ov.1 p with h | h
   ·exact h1 (.inl h)
   ·exact h1 (.inr ⟨by simpa using h,hm⟩)
  ·omega
theorem Bg {r c:Nat} {ys xs:Qa} {q:Int} {h:List Nat} (x y:Nat):nV r c ys xs q h x 0=nV r c ys xs q h y 0:=by
 unfold nV;exact eZ fun i o=>by simp
theorem Ek {r c:Nat} {ys xs:Qa} {q:Int} (hc:1<=c) (y:Nat):nV r c ys xs q (List.range r) y 0=mx r c ys xs q:=by
 unfold nV mx;refine eZ fun i h=>?_;rw [if_pos];refine .inl (List.mem_range.2 ?_);exact (Nat.div_lt_iff_lt_mul ap).2 h
def zd (v d:Qa):Qa:=dM d.length fun i=>if 0<nth v i then nth d i else 0
theorem E0 (v d:Qa):(zd v d).length=d.length:=cF _ _
theorem Fa {v d:Qa} (h:W64 d):W64 (zd v d):=fJ fun k hk=>by
 split
 ·exact h k hk
 ·omega
theorem qP (ms:Qa) (r c:Nat) (ys:Qa) (q:Int):(ot ms r c ys q).length=c:=by
 unfold ot
 have:∀(l:List Nat) (i:Qa),i.length=c->(l.foldl (ou ms c ys q) i).length=c:=by
  intro l
  induction l with
  | nil=>intro i h;exact h
  | cons a l ih=>intro i h;exact ih _ (by rw [vH];exact h)
 exact this _ _ (by simp)
theorem Fp (ms:Qa) (r c:Nat) (ys:Qa) (q:Int):W64 (ot ms r c ys q):=by
 unfold ot
 have:∀(l:List Nat) (i:Qa),W64 i->W64 (l.foldl (ou ms c ys q) i):=by
  intro l
  induction l with
  | nil=>intro i h;exact h
  | cons a l ih=>intro i h;exact ih _ (tV _ _)
 exact this _ _ (fun k hk=>by rw [dd _ _ hk];simp)
def ge (sz ps:Qa) (q:Int) (x y:Qa):Nat->Qa
 | 0=>oc (dy sz ps q x (sz.length-1)) y
 | j+1=>zd (dy sz ps q x (sz.length-2-j)) (ot (wL sz ps (sz.length-2-j)) (szN sz (sz.length-1-j)) (szN sz (sz.length-2-j)) (ge sz ps q x y j) q)
def qg (sz ps:Qa) (q:Int) (x y:Qa):Nat->Qa
 | 0=>[]
 | j+1=>mx (szN sz (sz.length-1-j)) (szN sz (sz.length-2-j)) (ge sz ps q x y j) (dy sz ps q x (sz.length-2-j)) q++(ge sz ps q x y j++qg sz ps q x y j)
def iA (sz ps:Qa) (q:Int) (x y:Qa):Qa:=qg sz ps q x y (sz.length-1)
theorem Bf (r c:Nat) (ys xs:Qa) (q:Int):(mx r c ys xs q).length=r*c:=cF _ _
theorem lQ {sz ps:Qa} {q:Int} {x y:Qa} (h:x.length=szN sz 0) (j:Nat):(ge sz ps q x y j).length=szN sz (sz.length-1-j):=by
 cases j with
 | zero=>show (oc _ _).length=_;rw [EC,fl h];rfl
 | succ j=>show (zd _ _).length=_;rw [E0,qP,show sz.length-1-(j+1)=sz.length-2-j by omega]
theorem tC (sz ps:Qa) (q:Int) (x y:Qa) (j:Nat):W64 (ge sz ps q x y j):=by
 cases j with
 | zero=>exact ED _ _
 | succ j=>exact Fa (Fp _ _ _ _ _)
theorem Mi {sz ps:Qa} {k r:Nat} (h:r<szN sz (k+1)):nth (bL sz ps k) r=nth ps (dA sz k+r):=bU _ h
theorem Is {sz ps:Qa} {k r c:Nat} (hr:r<szN sz (k+1)) (hc:c<szN sz k):nth (wL sz ps k) (r*szN sz k+c)=nth ps (bR sz k+r*szN sz k+c):=by
 unfold wL;rw [bU _ (by have:=OF (szN sz k) (show r+1<=szN sz (k+1) by omega);rw [Ox] at this;omega),Oy]
theorem Kl {sz ps:Qa} {q:Int} {k r:Nat} {v:Qa} (wp:W64 ps) (hr:r<szN sz (k+1)):∀c,c<=szN sz k->rz sz ps q k r v c=wrap64 (BN (nd (wL sz ps k) (szN sz k) r) v q c+nth (bL sz ps k) r):=by
 intro c
 induction c with
 | zero=>
  intro _;have h:=wp.nth (dA sz k+r);rw [rz,BN,Mi hr,Int.zero_add,np h.1 h.2]
 | succ c ih=>
  intro hc;rw [rz,BN,ih ap,show nth (nd (wL sz ps k) (szN sz k) r) c=nth (wL sz ps k) (r*szN sz k+c) from bU _ ap,Is hr ap,rQ,rQ]
  congr 1
  omega
theorem Kk {sz ps:Qa} {q:Int} {k r:Nat} {v:Qa} (wp:W64 ps) (hr:r<szN sz (k+1)) (h:v.length=szN sz k):rz sz ps q k r v v.length=nth (zL sz ps q k v) r:=by
 rw [h,Kl wp hr _ (NF _)];unfold zL fw;rw [bU _ (by rw [yI];exact hr)];unfold Eu;rw [bU _ hr];unfold um;rw [iX]
theorem FH {sz ps:Qa} {q:Int} {x:Qa} {k r:Nat} (wp:W64 ps) (h:x.length=szN sz 0) (hr:r<szN sz (k+1)):
  nth (dy sz ps q x (k+1)) r=if k+1<sz.length-1 then (if 0<rz sz ps q k r (dy sz ps q x k) (dy sz ps q x k).length then rz sz ps q k r (dy sz ps q x k) (dy sz ps q x k).length else 0) else rz sz ps q k r (dy sz ps q x k) (dy sz ps q x k).length:=by
 rw [Kk wp hr (fl h k)];rw [dy]
 split
 ·unfold uQ;rw [bU _ (by rw [vQ];exact hr)]
  split
  ·omega
  ·omega
 ·rfl
def tB (sz ps:Qa) (q:Int) (k c:Nat) (e:Qa):Nat->Int
 | 0=>0
 | r+1=>wrap64 (tB sz ps q k c e r+fB (nth ps (bR sz k+r*szN sz k+c)) (nth e r) q)
theorem lO {α:Type} (f:α->Nat->α) (a:α) (n:Nat):(List.range (n+1)).foldl f a=f ((List.range n).foldl f a) n:=by rw [Ow,List.foldl_append];rfl
theorem MZ {ms:Qa} {c:Nat} {ys:Qa} {q:Int} (r:Nat):((List.range r).foldl (ou ms c ys q) (List.replicate c 0)).length=c:=by
 induction r with
 | zero=>simp
 | succ r ih=>rw [lO,vH,ih]
theorem Ji {sz ps:Qa} {q:Int} {k c:Nat} {e:Qa} (hc:c<szN sz k):∀r,r<=szN sz (k+1)->tB sz ps q k c e r=nth ((List.range r).foldl (ou (wL sz ps k) (szN sz k) e q) (List.replicate (szN sz k) 0)) c:=by
 intro r
 induction r with
 | zero=>
  intro _;rw [tB,List.range_zero,List.foldl_nil,dd _ _ (by simpa using hc)];simp
 | succ r ih=>
  intro hr;rw [tB,ih ap,lO];unfold ou fw;rw [bU _ (by have:=MZ (ms:=wL sz ps k) (c:=szN sz k) (ys:=e) (q:=q) r;unfold ou fw at this;omega)]
  congr 2
  unfold qx;rw [bU _ (by rw [iX];exact hc),show nth (nd (wL sz ps k) (szN sz k) r) c=nth (wL sz ps k) (r*szN sz k+c) from bU _ hc,Is ap hc]
theorem Jj {sz ps:Qa} {q:Int} {x y:Qa} {j c:Nat} (h:x.length=szN sz 0) (i:j+2<=sz.length) (hc:c<szN sz (sz.length-2-j)):
  nth (ge sz ps q x y (j+1)) c=if 0<nth (dy sz ps q x (sz.length-2-j)) c then tB sz ps q (sz.length-2-j) c (ge sz ps q x y j) (ge sz ps q x y j).length else 0:=by
 have hl:(ge sz ps q x y j).length=szN sz (sz.length-2-j+1):=by rw [lQ h,show sz.length-1-j=sz.length-2-j+1 by omega]
 rw [hl,Ji hc _ (NF _)];rw [ge];unfold zd;rw [bU _ (by rw [qP];exact hc)];unfold ot;rw [show sz.length-1-j=sz.length-2-j+1 by omega]
theorem le:dB prog 26 2 (OH 0) 1 8:=⟨underlying26,info_parts (by kernel_rfl),rfl,by decide⟩
theorem Ja:dB prog 200 26 (OJ) 1 24:=⟨underlying200,info_parts (by kernel_rfl),rfl,by decide⟩
def LC (sz ps:Qa) (q:Int) (x:Qa) (X:N_) (p n₀:Nat) (o:Obj) (k:Nat) (v:Value) (u w:Qd):Prop:=
 ∃A c vals,v=.slice A (k+1) c/\w.ownsRow n₀ 26 1 (.slice A (k+1) c) (k+1) vals/\vals[0]?=some (.slice X (szN sz 0) p)/\
  (∀j,1<=j->j<=k->∃i h,vals[j]?=some (.slice i (szN sz j) h)/\w.ownsRow n₀ 2 1 (.slice i (szN sz j) h) (szN sz j) (aA .i64 (dy sz ps q x j)))/\w.heap[n₀]?=some o/\Below n₀ u w
theorem Au (As Ap X:N_) (sz ps x:Qa) (cs cp cx:Nat) (q:Int) (w:Qd) (h:ua w As Ap sz ps cs) (hX:Rd w X (aA .i64 x)) (hx:x.length=szN sz 0) (wx:W64 x) (bi:x.length<=cx):Calls prog 141 #[.agg #[.slice As sz.length cs,.slice Ap ps.length cp,OH q],.slice X x.length cx] w fun e B=>∃A' c' vals,e=.returned (.slice A' sz.length c')/\Rd B A' vals/\jh B vals sz.length (dy sz ps q x)/\sz.length<=c'/\aq w B:=by
 have hg:=h.hg;have cd:=hg.1.1;have b8:=fun k r V v cv B (hb:aq w B) (hk:k+1<sz.length) (hr:r<szN sz (k+1)) (hV:Rd B V (aA .i64 v)) (hv:v.length=szN sz k) (wv:W64 v)=>Gy As Ap sz ps cs cp k r q V v cv B (h.below hb) hk hr hV hv wv;have av:=fun B=>nv As Ap sz.length ps.length cs cp q B ap;obtain ⟨b,o,rfl,bX⟩:=h.hA.num (show 0<sz.length by omega);have da:b<w.heap.size:=aB bX;have bo:=h.hA;have ci:=h.wp;obtain ⟨m,hm⟩:∃m,ps.length=m:=⟨_,rfl⟩;obtain ⟨n,hn⟩:∃n,sz.length-1=n:=⟨_,rfl⟩;obtain ⟨L,hL⟩:∃L,sz.length=L:=⟨_,rfl⟩;obtain ⟨x0,ad⟩:∃x0,x.length=x0:=⟨_,rfl⟩;rw [hL] at hn;rw [hL,hm] at b8 av;rw [hn] at av;rw [hL] at cd ⊢;rw [hm,ad];rw [ad] at bi;have bN:L=n+1:=ap;obtain ⟨d9,bf,HG,d3,WP,HX,Hx,WX⟩:=ak b8 av hg bo ci hX hx wx;obtain ⟨HL,cr,b6,Hn⟩:=ag hL ad bN hn;clear b8 av hg bo ci hX hx wx hL ad h bX hm bN hn;go_enter func141,ntmps141;go_wp2_with fail
 go_loopw [5,6] (fun v i wr=>∃k:Nat,k<=n/\i=OH k/\LC sz ps q x X cx w.heap.size (.cells #[.slice (some (ar b o)) L cs,.slice Ap m cp,OH q] 198 (0,0)) k v w wr) (fun _ i _=>n-(intOf i).toNat)
 case atStart=>
  refine ⟨0,NJ _,rfl,some (ar (w.heap.size+1) 0),1,[.slice X x0 cx],rfl,?_,?_,fun j h1 h2=>ap,?_,?_⟩
  ·have:=vb (w.alloc (.cells #[.slice (some (ar b o)) L cs,.slice Ap m cp,OH q] 198)) 26 (.slice X x0 cx) w.heap.size (by simp);simpa using this
  ·rw [<-Hx.o,cr.o];rfl
  ·exact (NW _ _ _ (by simp)).trans (NG w _)
  ·exact am
 case round=>
  obtain ⟨wq,rfl⟩:∃wq:Qd,wq=wr:=⟨_,rfl⟩;obtain ⟨k,hk,rfl,Ao,co,vals,rfl,ho,cA,hv,A,hW⟩:=hrel;obtain ⟨⟨y0,y1,y2⟩,yf⟩:=bx3 A;have a0:=NE A;have hz:=hW.size;obtain ⟨Ho,bd,Hv,bI,HW⟩:=ah ho cA hv A hW;clear ho cA hv A hW;by_cases e6:k<n
  ·have hR:=HG.o.1;have cf:k+1<sz.length:=by have:=b6.o;have:=HL.o;omega
   have z1:=hR.at cf;have e5:=hR.1.2;have p1:=(d3.o.num cf);obtain ⟨_,_,e',p1⟩:=p1;injection e' with e';injection e' with e1 e2 _;subst e1;subst e2
   have b7:=(HW.o.cell (p:=⟨b,o+(k+1),none⟩) da).trans p1;rw [z1.2.2] at b7;obtain ⟨go,e4,cc,ec,_⟩:=Ho.o.form ap;simp only [Ou] at cc;obtain ⟨rfl,d2,rfl⟩:=cc;clear d2
   have cy:∃Ak ck,vals[k]?=some (.slice Ak (szN sz k) ck)/\Rd wq Ak (aA .i64 (dy sz ps q x k)):=by
    rcases Nat.eq_zero_or_pos k with rfl | a2
    ·exact ⟨X,cx,bd.o,HX.o.below HW.o⟩
    ·obtain ⟨Aj,cj,h1,h2⟩:=Hv.o k a2 (NF _);exact ⟨Aj,cj,h1,Rd.own h2⟩
   obtain ⟨Ak,ck,c6,bl⟩:=cy;obtain ⟨_,_,ek,pk⟩:=(Rd.own Ho.o) k _ c6;injection ek with ek;injection ek with i1 i2 _;subst i1;subst i2
   rw [Oz] at pk;have Z:=fl (sz:=sz) (ps:=ps) (q:=q) Hx.o k;have dv:=pI (sz:=sz) (ps:=ps) (q:=q) WX.o k;have y:=fun r (hr:r<szN sz (k+1))=>FH (sz:=sz) (ps:=ps) (q:=q) (x:=x) (k:=k) (r:=r) WP.o Hx.o hr;have bV:=HL.o;have I:=fun r (hr:r<szN sz (k+1)) B (hb:aq wq B)=>d9.o k r Ak (dy sz ps q x k) ck B (HW.o.trans (hb.mono HW.o.size)) ap hr (bl.below hb) Z dv;rw [Z] at I y;rw [bV] at y;rw [Hn.o] at y;obtain ⟨r1,b3⟩:∃r1,szN sz (k+1)=r1:=⟨_,rfl⟩;obtain ⟨c0,b9⟩:∃c0,szN sz k=c0:=⟨_,rfl⟩;have bh:=fl (sz:=sz) (ps:=ps) (q:=q) Hx.o (k+1);rw [b3] at I y b7 z1 bh;rw [b9] at I y pk;obtain ⟨dc,cP,bA,eb,bv⟩:=ah I y b3 b9 bh;clear I y b3 b9 c6 bl Z p1 bh bV;have e7:(k:Int)+1<L:=by have:=b6.o;omega
   have b2:IntKind.i64.wrap ((k:Int)+1)=(k:Int)+1:=NK _ ap;have dn:=aa b2;clear b2;go_wp2_with fail;refine (bf.o wq).mono ?_;rintro e w3 ⟨rfl,U⟩;have y0:=aw U y0;have pk:=aw U pk;have bO:go<w3.heap.size:=aB pk;have cO:w.heap.size<w3.heap.size:=aB y0;have T:=aa U;clear U;go_wp2_with fail
   go_loopw [7,8] (fun v i wx=>∃r:Nat,r<=r1/\i=OH r/\wx.ownsRow w3.heap.size 2 1 v r (aA .i64 ((dy sz ps q x (k+1)).take r))/\aq w3 wx) (fun _ i _=>r1-(intOf i).toNat)
   ·exact ⟨0,NJ _,rfl,NV _ _ _ _,NI _ _⟩
   case round=>
    obtain ⟨wo,rfl⟩:∃wo:Qd,wo=wr:=⟨_,rfl⟩;obtain ⟨r,hr,rfl,ab,A⟩:=hrel;obtain ⟨Al,cl,rfl,dr⟩:=aC ab;have J:aq wq wo:=T.o.trans (A.mono T.o.size);have x0:=(A.cell (p:=(ar w.heap.size 0)) cO).trans y0;have x1:=(J.cell (p:=(ar w.heap.size 1)) a0).trans y1;have x2:=(J.cell (p:=(ar w.heap.size 2)) a0).trans y2;have ea:=(J.cell (p:=⟨b,o+(k+1),none⟩) (show b<_ by omega)).trans b7;have b5:=(A.cell (p:=(ar go k)) bO).trans pk;have d5:w.heap.size<wo.heap.size:=aB x0;have dG:go<wo.heap.size:=aB b5;have d4:w3.heap.size<=wo.heap.size:=A.size;obtain ⟨b1,bn,C⟩:=af ab A J;clear ab A J dr;have b2:=dn.o;have dw:(0:Int)<=(k:Int)+1:=ap;have dT:((k:Int)+1).toNat=k+1:=ap;by_cases b4:r<r1
    ·have I:=dc.o r b4;have c9:=aa I;clear I;go_wp2_with fail;have d0:k<k+1:=Nat.lt_succ_self k;have cw:(k:Int)<(k:Int)+1:=ap;have R:(fun B:Qd=>B.cell? (ar w.heap.size 0)=some (.slice (some (ar b o)) L cs)/\B.cell? (ar w.heap.size 1)=some (.slice Ap m cp)/\B.cell? (ar w.heap.size 2)=some (OH q)/\B.cell? (ar go k)=some (.slice Ak c0 ck)) wo.drew:=⟨x0,x1,x2,b5⟩;refine HA.g (fun B:Qd=>B.cell? (ar w.heap.size 0)=some (.slice (some (ar b o)) L cs)/\B.cell? (ar w.heap.size 1)=some (.slice Ap m cp)/\B.cell? (ar w.heap.size 2)=some (OH q)/\B.cell? (ar go k)=some (.slice Ak c0 ck)) ?_;refine HA.t ?_ [0,1,2,3,4,5,6] R ?_;refine HA.o 7 (fun K hK=>?_);go_simp;refine (c9.o _ C.o.drew).mono ?_;rintro e w5 ⟨rfl,H⟩;have bz:=NR (aw H x0) (NR (aw H x1) (NR (aw H x2) (aw H b5)));have g0:=aw H x0;have aM:=bn.o.trans (((NI wo.heap.size wo).drew.trans H).mono d4);have a8:=ay b1.o ((NI wo.heap.size wo).drew.trans H);have d7:=H.size;simp only [Ot] at d7;obtain ⟨aR,bb⟩:=ae aM a8;clear H aM a8 R d0 cw;dsimp only;refine hK.out _ _ bz (fun R=>?_);clear hK K bz;refine HA.t ?_ [8] R ?_;refine HA.d ?_;have g1:=R.2.1;have g2:=R.2.2.1;clear R;go_wp2_with fail;refine (bf.o _).mono ?_;rintro e w6 ⟨rfl,ao⟩;have y:=cP.o r b4;have a5:=aR.o.trans (ao.mono aR.o.size);have a1:=ay bb.o ao;have e8:=ao.size;have e0:=a5.size;obtain ⟨aP,a9⟩:=ae a5 a1;clear ao a5 a1 g0 g1 g2 x0 x1 x2;have bs:r<(dy sz ps q x (k+1)).length:=by rw [bv.o];exact b4
     have cn:=fy _ r bs;have c8:=aa cn;clear cn bs;by_cases D:k+1<n
     ·have cM:((k:Int)+1<n):=ap;have bw:decide ((k:Int)+1<n)=true:=OA ap;rw [if_pos D] at y;have a6:=aa y;clear y D;go_wp2_with fail;refine (uN _ _ _).mono ?_;rintro e w7 ⟨rfl,rfl⟩;rw [<-a6.o];go_wp2_with (at_builtin;refine aW le w6 rfl (.tmp 44) (.tmp 46) rfl w3.heap.size (.slice Al r cl) r _ rfl a9.o [OH (nth (dy sz ps q x (k+1)) r)] rfl rfl (by simp [Value.oneCell']) ap (by unfold maxLen;omega) ap ?_);intro g7 c7 w7 N Q Y;have O:=aP.o.trans Q;obtain ⟨a4,a7⟩:=ae N O;clear N Q Y O;go_wp2_with fail;go_roundw
      ·exact ⟨r+1,by omega,by go_num,by rw [c8.o,cT];exact a4.o,a7.o⟩
      ·simp [intOf];omega
     ·have cM:¬((k:Int)+1<n):=ap;have bw:decide ((k:Int)+1<n)=false:=OB ap;rw [if_neg D] at y;have a6:=aa y;clear y D;go_wp2_with (at_builtin;refine aW le w6 rfl (.tmp 44) (.tmp 46) rfl w3.heap.size (.slice Al r cl) r _ rfl a9.o [OH (rz sz ps q k r (dy sz ps q x k) c0)] rfl rfl (by simp [Value.oneCell']) ap (by unfold maxLen;omega) ap ?_);rw [<-a6.o];intro g7 c7 w7 N Q Y;have O:=aP.o.trans Q;obtain ⟨a4,a7⟩:=ae N O;clear N Q Y O;go_wp2_with fail;go_roundw
      ·exact ⟨r+1,by omega,by go_num,by rw [c8.o,cT];exact a4.o,a7.o⟩
      ·simp [intOf];omega
    ·obtain rfl:r=r1:=ap;have bG:=ay Ho.o C.o;have be:=aa bG;clear bG;go_wp2_with (at_builtin;refine aW Ja wo rfl (.tmp 48) (.tmp 50) rfl w.heap.size (.slice (some (ar go 0)) (k+1) co) (k+1) vals rfl be.o [.slice Al r cl] rfl rfl (by simp [Value.oneCell']) ap (by unfold maxLen;omega) ap ?_);intro g7 c7 w7 N Q Y;have Z:=Ho.o.1
     have a3:∀{mm:Nat} {u:Value} {ys:Qc} {b0:Nat},wo.ownsRow b0 2 1 u mm ys->w7.ownsRow b0 2 1 u mm ys:=fun h=>h.kept Y (by
      rename_i u _ _
      cases hu:u.ownBlock with
      | none=>exact .inl rfl
      | some i=>exact .inr fun e9=>jC be.o h (by decide) i e9.symm hu)
     have aG:=(Y.block _ d5 (ax ((C.o.block _ a0).trans bI.o) (by decide) be.o)).trans ((C.o.block _ a0).trans bI.o);have O:=(HW.o.trans (C.o.mono HW.o.size)).trans Q;obtain ⟨a4,a7,dk⟩:=af N O aG;clear N Q Y O aG;go_wp2_with fail;go_roundw
     case rel=>
      refine ⟨k+1,by omega,by go_num,some (ar g7 0),c7,vals++[.slice Al r cl],rfl,a4.o,?_,fun j h1 h2=>?_,dk.o,a7.o⟩
      ·rw [Og ap];exact bd.o
      ·rcases NY j (k+1) with d6 | d6
       ·obtain ⟨Aj,cj,e1,e2⟩:=Hv.o j h1 ap;exact ⟨Aj,cj,by rw [Og ap];exact e1,a3 (ay e2 C.o)⟩
       ·obtain rfl:j=k+1:=ap;refine ⟨Al,cl,?_,?_⟩
        ·rw [Oh ap,bA.o];simp [show vals.length=k+1 by omega]
        ·have:=a3 b1.o;rw [List.take_of_length_le (by rw [bv.o];exact NF _)] at this;rw [bA.o];exact aE this (by have:=T.o.size;omega)
     case measure=>simp [intOf];omega
  ·obtain rfl:k=n:=ap;have cL:=b6.o
   have cb:jh wq vals sz.length (dy sz ps q x):=by
    refine ⟨?_,fun j hj=>?_⟩
    ·have:=Ho.o.1;have:=HL.o;omega
    ·have Z:=fl (sz:=sz) (ps:=ps) (q:=q) Hx.o j;rcases Nat.eq_zero_or_pos j with rfl | a2
     ·refine ⟨X,cx,?_,?_,HX.o.below HW.o⟩
      ·rw [Z];exact bd.o
      ·show x.length<=cx
       rw [cr.o];exact bi
     ·obtain ⟨Aj,cj,h1,h2⟩:=Hv.o j a2 (by have:=HL.o;omega);obtain ⟨A',c',e,hc⟩:=aC h2;injection e with e1 e2 e3
      subst e1;subst e3;rw [Z];exact ⟨_,_,h1,hc,Rd.own h2⟩
   have ct:L<=co:=by
    obtain ⟨A',c',e,hc⟩:=aC Ho.o;injection e with e1 e2 e3
    omega
   have bM:=Rd.own Ho.o;obtain ⟨d1,d8,dp,ds⟩:=ag bM cb ct cL;clear bM cb ct cL;go_wp2_with fail;refine (bf.o wq).mono ?_;rintro e w3 ⟨rfl,U⟩;have T:=aa U;clear U;go_wp2_with fail;go_ret;refine ⟨Ao,co,vals,by rw [ds.o];rfl,d1.o.below T.o,?_,dp.o,HW.o.trans (T.o.mono HW.o.size)⟩;have:=d8.o.below T.o
   rwa [HL.o] at this
theorem Ln:dB prog 27 253 (.int .u64 0) 1 8:=⟨underlying27,info_parts (by kernel_rfl),rfl,by decide⟩
theorem zP (A:N_) (zs:Qa) (c:Nat) (w:Qd) (hA:Rd w A (aA .u64 zs)) (hl:zs.length<=17592186043904):Calls prog 155 #[.slice A zs.length c] w fun e y=>∃v,e=.returned v/\y.ownsRow w.heap.size 253 1 v zs.length (aA .u64 zs)/\aq w y:=by
 have q:=fun (w:Qd)=>Lib.run_eql_slice_nil (P:=prog) w 27 253 A zs.length c 0 0 underlying27
 cases A with
 | none=>
  have B:zs=[]:=by
   cases zs with
   | nil=>rfl
   | cons z l=>obtain ⟨b,o,h,_⟩:=hA 0 _ rfl;cases h
  subst B;clear q;have q:=fun (w:Qd)=>Lib.run_eql_slice_nil (P:=prog) w 27 253 none 0 c 0 0 underlying27;simp only [Option.isNone_none] at q;rw [List.length_nil];go_enter func155,ntmps155;go_wp2;go_ret;exact ⟨_,rfl,NV _ _ _ _,NI _ _⟩
 | some a=>
  go_enter func155,ntmps155;go_wp2_with (at_builtin;refine dJ Ln _ rfl (.tmp 5) (.tmp 6) rfl w.heap.size _ 0 [] rfl (eK w 253 1) _ zs.length c (aA .u64 zs) rfl (hA.alloc _) (by rw [bS];omega) (cJ _ _) ap (by unfold maxLen;omega) (by simp) ?_);intro H D C i hb _ _;have u:=((NI _ w).alloc (NF _) (.cells #[] 253)).trans hb;obtain ⟨p,x⟩:=ae i u;clear i hb u;go_wp2;go_ret;exact ⟨_,rfl,p.o,x.o⟩
def U64 (l:Qa):Prop:=∀k,k<l.length->0<=nth l k/\nth l k<=18446744073709551615
theorem Keep.below2 {S:Nat->Prop} {w i o:Qd} (h:Keep S w i) (hb:Below w.heap.size i o):Keep S w o:=
 ⟨hb.os.trans h.os,hb.tape.trans h.tape,hb.output.trans h.output,NN h.size hb.size,fun k hk hn=>(hb.block k hk).trans (h.block k hk hn)⟩
structure cV (w:Qd) (b:Nat) (A:N_) (c:Nat) (l:Qa) (i:Nat):Prop where
 blk:w.heap[b]?=some (.cells #[.slice A l.length c,OH (i:Int)] 270 (0,0))
 rd:Rd w A (aA .u64 l)
 ne:∀a,A=some a->a.block≠b
theorem cV.lt {w:Qd} {b c i:Nat} {A:N_} {l:Qa} (h:cV w b A c l i):b<w.heap.size:=NE h.blk
theorem cV.below {w o:Qd} {b c i:Nat} {A:N_} {l:Qa} (h:cV w b A c l i) (hb:aq w o):cV o b A c l i:=
 ⟨(hb.block b h.lt).trans h.blk,h.rd.below hb,h.ne⟩
theorem cV.drewN {w:Qd} {b c i:Nat} {A:N_} {l:Qa} (h:cV w b A c l i) (n:Nat):cV (w.drewN n) b A c l i:=⟨h.blk,h.rd.drewN n,h.ne⟩
theorem Jm (A:N_) (l:Qa) (c:Nat) (w:Qd) (hA:Rd w A (aA .u64 l)) (hl:l.length<=17592186043904):Calls prog 120 #[.slice A l.length c] w fun e I=>∃b u B,e=.returned ((au b))/\cV I b u B l 0/\(∀a,u=some a->w.heap.size<=a.block)/\w.heap.size<=b/\aq w I:=by
 have hc:=zP A l c w hA hl;have N:=aa hc;clear hc hA;go_enter func120,ntmps120;go_wp2_with fail;refine N.o.mono ?_;rintro e H ⟨v,rfl,x,hb⟩;obtain ⟨u,B,rfl,_⟩:=aC x;have h:=x.lt;obtain ⟨D,C,y⟩:=af x hb h;clear x hb h;go_wp2;go_ret
 have p:∀a,u=some a->w.heap.size<=a.block/\a.block<H.heap.size:=fun a i=>by
  subst i;rcases D.o.2 with ⟨hn,_⟩ | ⟨g,cap,L,J,_⟩
  ·cases hn
  ·simp only [Ou,Option.some.injEq] at J;obtain ⟨rfl,_,_⟩:=J;exact y.o g rfl
 exact ⟨_,u,B,rfl,⟨NG H _,(Rd.own D.o).alloc _,fun a i O=>by have:=(p a i).2;omega⟩,fun a i=>(p a i).1,C.o.size,C.o.alloc C.o.size _⟩
theorem qZ (b c i:Nat) (A:N_) (l:Qa) (w:Qd) (h:cV w b A c l i) (v:i<=l.length) (hl:l.length<=17592186043904):Calls prog 176 #[(au b)] w fun e o=>e=.returned (OH ((l.length-i:Nat):Int))/\∃d,o=w.drewN d:=by
 obtain ⟨h1,p,u⟩:=h;obtain ⟨n,hn⟩:∃n,l.length=n:=⟨_,rfl⟩;rw [hn] at h1 v hl ⊢;obtain ⟨⟨x,B⟩,y⟩:=bx2 h1;have hb:=NE h1;clear h1 p u hn;go_enter func176,ntmps176;go_wp2_with fail
 go_quiet (fail)
 go_wp2_with fail;go_ret;exact ⟨bD ap,_,rfl⟩
theorem xG (b c i m:Nat) (A:N_) (l:Qa) (w:Qd) (h:cV w b A c l i) (H:i<l.length) (hl:l.length<=17592186043904) (L:U64 l) (hm:1<=m) (R:m<=1048576):Calls prog 178 #[(au b),OH m] w fun e B=>e=.returned (.tuple #[OH (nth l i%m),.bool true])/\cV B b A c l (i+1)/\Keep (fun j=>j=b) w B:=by
 have u:=qZ b c i A l w h ap hl;obtain ⟨h1,v,N⟩:=h;obtain ⟨bA,oA,rfl,p⟩:=v.num H;obtain ⟨x,O⟩:∃x,nth l i=x:=⟨_,rfl⟩;have D:=L i H;rw [O] at p D ⊢;obtain ⟨n,hn⟩:∃n,l.length=n:=⟨_,rfl⟩;obtain ⟨T,Y,I,Hn⟩:=ag h1 v N hn;rw [hn] at h1 H hl u;obtain ⟨⟨x0,x1⟩,xf⟩:=bx2 h1;have hb:=NE h1;have C:=aa u;clear h1 v N hn O u L;have Q:(((n-i:Nat):Int)==0)=false:=by rw [beq_eq_false_iff_ne];omega
 have a0:¬((m:Int)<1):=ap;have V:(i:Int)<n:=ap
 have hw:wrap64 (x%(m:Int))=x%(m:Int):=by
  have h1:=Int.emod_nonneg x (show (m:Int)≠0 by omega);have v:=Int.emod_lt_of_pos x (show (0:Int)<(m:Int) by omega);generalize x%(m:Int)=y at h1 v ⊢;unfold wrap64;omega
 have U:=aa hw;clear hw;go_enter func178,ntmps178;go_wp2_with fail;refine C.o.mono ?_;rintro e B ⟨rfl,d,rfl⟩;go_wp2_with fail
 go_quiet (fail)
 go_wp2_with fail;go_ret2;have J:Keep (fun j=>j=b) w ((w.drewN (d+nq)).setCell (ar b 1) (OH ((i:Int)+1))):=Keep.setCell (S:=fun j=>j=b) ((Keep.refl _ w).drewN _) (ar b 1) (.inr rfl) _;refine ⟨by rw [U.o];rfl,⟨?_,J.rd Y.o (fun a Z=>I.o a Z),I.o⟩,J⟩;have:=OE (w.drewN (d+nq)) b 1 _ _ (OH ((i:Int)+1)) T.o;simpa using this
end Go.Proofs.YtgmajkppbhiopaaGreat
namespace Go.Proofs.YtgmajkppbhiopaaGreat
open Go.RowKit Go.ChangeShapes Go.WideShapes Go.ChangeAt
open Tryz
theorem jq:kl prog 3 1 (Ma .i64):=ve underlying3 (by kernel_rfl)
theorem pq:kl prog 26 1 (CD .i64):=pd underlying26 underlying2 (by kernel_rfl) (by kernel_rfl) (by kernel_rfl)
theorem sR:kl prog 22 1 (CD .i64):=pd underlying22 underlying3 (by kernel_rfl) (by kernel_rfl) (by kernel_rfl)
theorem vT {l:Qa} (h:∀z∈l,(Lit.int .i64 z).wf=true):W64 l:=fun k hk=>by
 have:=h _ (wY hk);simpa [Lit.wf,IntKind.min,IntKind.max,IntKind.signed,IntKind.bits] using this
structure MG (w:Qd) (A:N_) (l:Qa) (c:Nat):Prop where
 hc:l.length<=c
 hm:c<=9223372036854775807
 hl:l.length<=17592186043904
 hr:Rd w A (aA .i64 l)
 hw:W64 l
end Go.Proofs.YtgmajkppbhiopaaGreat
namespace Go.Proofs.YtgmajkppbhiopaaGreat
open Go.RowKit
open Tryz
theorem Jh:dB prog 25 91 (.agg #[OJ,OJ]) 2 48:=⟨underlying25,info_parts (by kernel_rfl),rfl,by decide⟩
abbrev Ex:=Qa×Qa
structure cB (w:Qd) (A:N_) (l:Qa) (c:Nat):Prop where
 hc:l.length<=c
 hl:l.length<=17592186043904
 hr:Rd w A (aA .i64 l)
 hw:W64 l
theorem cB.below {w i:Qd} {A:N_} {l:Qa} {c:Nat} (h:cB w A l c) (hb:aq w i):cB i A l c:=⟨h.hc,h.hl,h.hr.below hb,h.hw⟩
def rEx:eQ Ex:=fun w h e=>∃A c B d,h=[.slice A e.1.length c,.slice B e.2.length d]/\cB w A e.1 c/\cB w B e.2 d
theorem dE:Dd rEx:=fun hb ⟨A,c,B,d,h1,h,i⟩=>⟨A,c,B,d,h1,h.below hb,i.below hb⟩
def dZ (w:Qd) (base:Nat) (h:Qc) (e:Ex):Prop:=∃u v,h=[u,v]/\w.ownsRow base 2 1 u e.1.length (aA .i64 e.1)/\w.ownsRow base 2 1 v e.2.length (aA .i64 e.2)/\
 e.1.length<=17592186043904/\e.2.length<=17592186043904/\W64 e.1/\W64 e.2
theorem dZ.rd {w:Qd} {base:Nat} {o:Qc} {e:Ex} (h:dZ w base o e):rEx w o e:=by
 obtain ⟨u,v,rfl,h1,i,D,y,C,x⟩:=h;obtain ⟨A,c,rfl,hc⟩:=aC h1;obtain ⟨B,d,rfl,p⟩:=aC i;exact ⟨A,c,B,d,rfl,⟨hc,D,Rd.own h1,C⟩,⟨p,y,Rd.own i,x⟩⟩
theorem dZ.below {w i:Qd} {base:Nat} {o:Qc} {e:Ex} (h:dZ w base o e) (hb:aq w i):dZ i base o e:=by
 obtain ⟨u,v,rfl,h1,p,x⟩:=h;exact ⟨u,v,rfl,ay h1 hb,ay p hb,x⟩
theorem dZ.base {w:Qd} {base base':Nat} {i:Qc} {e:Ex} (h:dZ w base i e) (hb:base'<=base):dZ w base' i e:=by
 obtain ⟨u,v,rfl,h1,o,p⟩:=h;exact ⟨u,v,rfl,aE h1 hb,aE o hb,p⟩
theorem iG {W p:Qd} {i e h size n m:Nat} {v u:Value} {xs ys:Qc} {base base':Nat} (o:W.ownsRow base' i h u m ys) (x:W.ownsRow base e size v n xs) (hg:W.grownBy p v.ownBlock) (h1:e≠i):p.ownsRow base' i h u m ys:=by
 refine o.kept hg ?_
 cases hub:u.ownBlock with
 | none=>exact .inl rfl
 | some k=>exact .inr fun y=>jC x o h1 k y.symm hub
theorem dZ.pushed {W p:Qd} {e size n:Nat} {v:Value} {xs:Qc} {base base':Nat} {o:Qc} {x:Ex} (h:dZ W base' o x) (i:W.ownsRow base e size v n xs) (hg:W.grownBy p v.ownBlock) (h1:e≠2):dZ p base' o x:=by
 obtain ⟨u,v',rfl,y,A,B⟩:=h;exact ⟨u,v',rfl,iG y i hg h1,iG A i hg h1,B⟩
theorem te (A:N_) (zs:Qa) (c:Nat) (w:Qd) (hA:Rd w A (aA .i64 zs)) (hl:zs.length<=17592186043904):Calls prog 151 #[.slice A zs.length c] w fun e y=>∃v,e=.returned v/\y.ownsRow w.heap.size 2 1 v zs.length (aA .i64 zs)/\aq w y:=by
 have q:=fun (w:Qd)=>Lib.run_eql_slice_nil (P:=prog) w 26 2 A zs.length c 0 0 underlying26
 cases A with
 | none=>
  have B:zs=[]:=by
   cases zs with
   | nil=>rfl
   | cons z l=>obtain ⟨b,o,h,_⟩:=hA 0 _ rfl;cases h
  subst B;clear q;have q:=fun (w:Qd)=>Lib.run_eql_slice_nil (P:=prog) w 26 2 none 0 c 0 0 underlying26;simp only [Option.isNone_none] at q;rw [List.length_nil];go_enter func151,ntmps151;go_wp2;go_ret;exact ⟨_,rfl,NV _ _ _ _,NI _ _⟩
 | some a=>
  go_enter func151,ntmps151;go_wp2_with (at_builtin;refine dJ le _ rfl (.tmp 5) (.tmp 6) rfl w.heap.size _ 0 [] rfl (eK w 2 1) _ zs.length c (aA .i64 zs) rfl (hA.alloc _) (by rw [bS];omega) (cJ _ _) ap (by unfold maxLen;omega) (by simp) ?_);intro H D C i hb _ _;have u:=((NI _ w).alloc (NF _) (.cells #[] 2)).trans hb;obtain ⟨p,x⟩:=ae i u;clear i hb u;go_wp2;go_ret;exact ⟨_,rfl,p.o,x.o⟩
theorem BR (cs:Qc) (x:Ex) (w:Qd) (h:rEx w cs x):Calls prog 130 #[.agg cs.toArray] w fun e C=>∃us:Qc,e=.returned (.agg us.toArray)/\dZ C w.heap.size us x/\aq w C:=by
 obtain ⟨A,c,B,d,rfl,h1,h2⟩:=h;obtain ⟨x,y⟩:=x;dsimp only at h1 h2 ⊢;have R:=fun C (k:aq w C)=>te A x c C (h1.hr.below k) h1.hl;have V:=fun C (k:aq w C)=>te B y d C (h2.hr.below k) h2.hl;obtain ⟨H1,H2⟩:=ae h1 h2;obtain ⟨n,hn⟩:∃n,x.length=n:=⟨_,rfl⟩;obtain ⟨m,hm⟩:∃m,y.length=m:=⟨_,rfl⟩;rw [hn] at R ⊢;rw [hm] at V ⊢;obtain ⟨aG,aR,Hn,Hm⟩:=ag R V hn hm;clear R V hn hm h1 h2;go_enter func130,ntmps130;go_wp2_with fail;have hz:=NG (w.alloc (.cells #[.slice A n c,.slice B m d] 91)) (.cells #[OJ,OJ] 91);rw [show (w.alloc (.cells #[.slice A n c,.slice B m d] 91)).heap.size=w.heap.size+1 by simp] at hz;have hy:=(NW (w.alloc (.cells #[.slice A n c,.slice B m d] 91)) (.cells #[OJ,OJ] 91) w.heap.size (by simp)).trans (NG w _);have Y:aq w ((w.alloc (.cells #[.slice A n c,.slice B m d] 91)).alloc (.cells #[OJ,OJ] 91)):=((NI _ w).alloc (NF _) _).alloc (by simp) _;have T:((w.alloc (.cells #[.slice A n c,.slice B m d] 91)).alloc (.cells #[OJ,OJ] 91)).heap.size=w.heap.size+2:=by simp
 obtain ⟨W0,a2⟩:∃W0,W0=(w.alloc (.cells #[.slice A n c,.slice B m d] 91)).alloc (.cells #[OJ,OJ] 91):=⟨_,rfl⟩;rw [<-a2] at hz hy Y T ⊢;obtain ⟨⟨y0,y1⟩,yf⟩:=bx2 hy;obtain ⟨Hz,a0,J⟩:=af hz Y T;clear hz hy Y T a2;have i:(fun C:Qd=>C.cell? (ar w.heap.size 0)=some (.slice A n c)/\C.cell? (ar w.heap.size 1)=some (.slice B m d)) W0.drew:=⟨y0,y1⟩;refine XA.g 7 (fun C:Qd=>C.cell? (ar w.heap.size 0)=some (.slice A n c)/\C.cell? (ar w.heap.size 1)=some (.slice B m d)) ?_;refine XA.t ?_ [0,1,3,4] i ?_;refine XA.o 2 (fun K hK=>?_);go_simp;refine (aG.o _ a0.o.drew).mono ?_;rintro e w1 ⟨u,rfl,H,D⟩;obtain ⟨A1,c1,rfl,_⟩:=aC H;have a4:=NR (aw D i.1) (aw D i.2);have a3:=(D.block (w.heap.size+1) (by simp [J.o])).trans Hz.o;have a1:=a0.o.drew.trans (D.mono (by simp [J.o]));have aP:=D.size;simp only [Ot,J.o] at aP;have H:=aE (base':=w.heap.size) H (by simp [J.o]);obtain ⟨aM,ao,N⟩:=af H a3 a1;clear H a3 a1 D i;dsimp only;refine hK.out _ _ a4 (fun i=>?_);clear hK K a4;refine XA.o 5 (fun K hK=>?_);go_simp;refine (aR.o _ N.o).mono ?_;rintro e w2 ⟨v,rfl,I,p⟩;obtain ⟨Z,c2,rfl,_⟩:=aC I;have a5:=NR (aw p i.1) (aw p i.2);have L:=(p.block (w.heap.size+1) ap).trans ao.o;have a6:=N.o.trans (p.mono N.o.size);have b2:=p.size;have I:=aE (base':=w.heap.size) I N.o.size;have Q:=ay aM.o p;obtain ⟨⟨z0,z1⟩,zf⟩:=bx2 L;have l2:w.heap.size+1<w2.heap.size:=NE L;obtain ⟨a8,O,U,b0⟩:=ag I Q L a6;clear I Q L a6 p i;dsimp only;refine hK.out _ _ a5 (fun i=>?_);clear hK K a5;refine XA.t ?_ [6] i ?_;refine XA.e ?_;clear i;simp only [Ob,Oc];go_wp2_with fail;have e1:=OE w2 (w.heap.size+1) 0 _ _ (.slice A1 n c1) U.o;have e2:=OE _ (w.heap.size+1) 1 _ _ (.slice Z m c2) e1;have e3:((w2.setCell (ar (w.heap.size+1) 0) (.slice A1 n c1)).setCell (ar (w.heap.size+1) 1) (.slice Z m c2)).heap[w.heap.size+1]?=some (.cells #[(.slice A1 n c1),(.slice Z m c2)] 91 (0,0)):=by simpa using e2
 have hk:Keep (fun j=>j=w.heap.size+1) w2 ((w2.setCell (ar (w.heap.size+1) 0) (.slice A1 n c1)).setCell (ar (w.heap.size+1) 1) (.slice Z m c2)):=Keep.setCell (S:=fun j=>j=w.heap.size+1) (Keep.setCell (S:=fun j=>j=w.heap.size+1) (Keep.refl _ _) (ar (w.heap.size+1) 0) (.inr rfl) _) (ar (w.heap.size+1) 1) (.inr rfl) _;obtain ⟨W9,av⟩:∃W9,W9=(w2.setCell (ar (w.heap.size+1) 0) (.slice A1 n c1)).setCell (ar (w.heap.size+1) 1) (.slice Z m c2):=⟨_,rfl⟩;rw [<-av] at e3 hk ⊢;obtain ⟨⟨x0,x1⟩,xf⟩:=bx2 e3;have b1:=hk.own O.o (fun j hj e=>ax U.o (by decide) O.o (by rw [hj,e]));have ad:=hk.own a8.o (fun j hj e=>ax U.o (by decide) a8.o (by rw [hj,e]));have ab:aq w W9:=b0.o.trans (hk.toBelow ap (fun j hj=>ap));have a7:=H1.o;have a9:=H2.o;exact NX (v:=.agg #[(.slice A1 n c1),(.slice Z m c2)]) (by simp [results,results130,go_sem,x0,x1]) rfl ⟨[(.slice A1 n c1),(.slice Z m c2)],rfl,⟨_,_,rfl,by rw [Hn.o];exact b1,by rw [Hm.o];exact ad,a7.hl,a9.hl,a7.hw,a9.hw⟩,ab⟩
theorem fL {w:Qd} {A:N_} {l:Qg} (h:de rEx 2 w A l) {j:Nat} {x:Ex} (B:l[j]?=some x):
  ∃b o A1 c1 i c2,A=some (ar b o)/\b<w.heap.size/\w.cell? (ar b (o+j*2))=some (.slice A1 x.1.length c1)/\w.cell? (ar b (o+j*2+1))=some (.slice i x.2.length c2)/\cB w A1 x.1 c1/\cB w i x.2 c2:=by
 obtain ⟨b,o,C,rfl,hb,hl,⟨A1,c1,i,c2,rfl,p,u⟩,v,y⟩:=h.get (by decide) B;exact ⟨b,o,A1,c1,i,c2,rfl,hb,v,y 1 (by decide),p,u⟩
def jk (w wr:Qd) (l:Qg) (k:Nat) (v:Value):Prop:=∃rows,wr.ownsRow w.heap.size 91 2 v k (List.flatten rows)/\rows.length=k/\(∀r∈rows,r.length=2)/\ (∀j x,j<k->l[j]?=some x->dZ wr w.heap.size (bZ rows j) x)/\aq w wr
theorem jk.zero (w:Qd) (l:Qg):jk w w l 0 (OJ):=⟨[],NV _ _ _ _,rfl,by simp,fun j x h=>ap,NI _ _⟩
theorem jk.form {w wr:Qd} {l:Qg} {k:Nat} {v:Value} (h:jk w wr l k v):∃A c,v=.slice A k c:=by
 obtain ⟨rows,h1,_⟩:=h;obtain ⟨A,c,e,_⟩:=aC h1;exact ⟨A,c,e⟩
theorem jk.b {w wr:Qd} {l:Qg} {k:Nat} {v:Value} (h:jk w wr l k v):aq w wr:=by
 obtain ⟨rows,_,_,_,_,h⟩:=h;exact h
theorem jk.below {w wr i:Qd} {l:Qg} {k:Nat} {v:Value} (h:jk w wr l k v) (hb:aq wr i):jk w i l k v:=by
 obtain ⟨rows,h1,p,A,y,o⟩:=h;exact ⟨rows,ay h1 hb,p,A,fun j x u B=>(y j x u B).below hb,o.trans (hb.mono o.size)⟩
theorem jk.done {w wr:Qd} {l:Qg} {A:N_} {n c:Nat} (h:jk w wr l n (.slice A n c)) (hn:l.length=n):de rEx 2 wr A l:=by
 obtain ⟨rows,h1,u,p,o,v⟩:=h;exact ⟨rows,Rd.own h1,by omega,p,fun j x i=>(o j x (by have:=(Oe.1 i).1;omega) i).rd⟩
theorem jk.doneT {w wr:Qd} {l:Qg} {A:N_} {n c:Nat} (h:jk w wr l n (.slice A n c)) (hn:l.length=n):de rEx 2 (fZ w.heap.size wr) A l:=by
 obtain ⟨rows,h1,D,C,B,H⟩:=h
 exact ⟨rows,Rd.own (fD h1 (NF _)),by omega,C,fun j x i=>by
  obtain ⟨u,v,e,o,p,y⟩:=B j x (by have:=(Oe.1 i).1;omega) i
  exact dZ.rd ⟨u,v,e,fD o (NF _),fD p (NF _),y⟩⟩
theorem jk.push {w i A:Qd} {l:Qg} {k:Nat} {v v':Value} {p o:Value} {x:Ex} {rows:List (Qc)} (h1:i.ownsRow w.heap.size 91 2 v k (List.flatten rows)) (B:rows.length=k) (J:∀r∈rows,r.length=2) (D:∀j x,j<k->l[j]?=some x->dZ i w.heap.size (bZ rows j) x) (H:aq w i) (L:l[k]?=some x) (I:dZ i w.heap.size [p,o] x) (C:A.ownsRow w.heap.size 91 2 v' (k+1) (List.flatten rows++[p,o])) (hb:Below w.heap.size i A) (hg:i.grownBy A v.ownBlock):jk w A l (k+1) v':=by
 refine ⟨rows++[[p,o]],by rw [Oo,List.flatten_cons,List.flatten_nil,List.append_nil];exact C,by simp [B],?_,?_,H.trans hb⟩
 ·intro r hr;rcases Ov.1 hr with hr | hr
  ·exact J r hr
  ·rw [List.mem_singleton.1 hr];rfl
 ·intro j y N u;rcases NY j k with h | h
  ·have e:bZ (rows++[[p,o]]) j=bZ rows j:=by simp [bZ,Og (show j<rows.length by omega)]
   rw [e];exact (D j y h u).pushed h1 hg (by decide)
  ·obtain rfl:j=k:=ap;rw [L] at u;injection u with u
   subst u;have e:bZ (rows++[[p,o]]) j=[p,o]:=by rw [<-B];simp [bZ]
   rw [e];exact I.pushed h1 hg (by decide)
def vO (w:Qd) (x:Ex) (e:Ending) (i:Qd):Prop:=∃A1 c1 h c2,e=.returned (.tuple #[.agg #[.slice A1 x.1.length c1,.slice h x.2.length c2],.bool true])/\dZ i w.heap.size [.slice A1 x.1.length c1,.slice h x.2.length c2] x/\aq w i
theorem Fg (A:N_) (c:Nat) (B:N_) (d:Nat) (x:Ex) (w:Qd) (h1:cB w A x.1 c) (y:cB w B x.2 d):Calls prog 130 #[.agg #[.slice A x.1.length c,.slice B x.2.length d]] w fun e i=>∃A1 c1 h c2,e=.returned (.agg #[.slice A1 x.1.length c1,.slice h x.2.length c2])/\dZ i w.heap.size [.slice A1 x.1.length c1,.slice h x.2.length c2] x/\aq w i:=by
 refine (BR [.slice A x.1.length c,.slice B x.2.length d] x w ⟨A,c,B,d,rfl,h1,y⟩).mono ?_;rintro e i ⟨D,rfl,⟨u,v,rfl,p,o,C⟩,hb⟩;obtain ⟨A1,c1,rfl,_⟩:=aC p;obtain ⟨h,c2,rfl,_⟩:=aC o;exact ⟨A1,c1,h,c2,rfl,⟨_,_,rfl,p,o,C⟩,hb⟩
theorem vD (n m:Nat) (A:N_) (c:Nat) (B:N_) (d:Nat) (x:Ex) (w:Qd) (hn:x.1.length=n) (hm:x.2.length=m) (h1:cB w A x.1 c) (o:cB w B x.2 d):Calls prog 130 #[.agg #[.slice A n c,.slice B m d]] w fun e i=>∃A1 c1 h c2,e=.returned (.agg #[.slice A1 n c1,.slice h m c2])/\dZ i w.heap.size [.slice A1 n c1,.slice h m c2] x/\aq w i:=by
 subst hn;subst hm;exact Fg A c B d x w h1 o
theorem BT (A:N_) (c:Nat) (B:N_) (d:Nat) (x:Ex) (w:Qd) (h1:cB w A x.1 c) (Y:cB w B x.2 d):Calls prog 129 #[.agg #[.slice A x.1.length c,.slice B x.2.length d]] w (vO w x):=by
 have h:=fun n m (hn:x.1.length=n) (hm:x.2.length=m) V (k:aq w V)=>vD n m A c B d x V hn hm (h1.below k) (Y.below k);unfold vO;obtain ⟨n,hn⟩:∃n,x.1.length=n:=⟨_,rfl⟩;obtain ⟨m,hm⟩:∃m,x.2.length=m:=⟨_,rfl⟩;have h:=h n m hn hm;rw [hn,hm];have O:=aa h;clear h hn hm h1 Y;go_enter func129,ntmps129;go_wp2_with fail;refine (O.o _ ?_).mono ?_
 ·exact am
 rintro e p ⟨A1,c1,i,c2,rfl,Z,y⟩;have I:p.heap[w.heap.size+1]?=some (.cells #[OJ,OJ] 91 (0,0)):=(y.block (w.heap.size+1) (by simp)).trans (by rw [<-show (w.alloc (.cells #[.slice A n c,.slice B m d] 91)).heap.size=w.heap.size+1 by simp];exact NG (w.alloc (.cells #[.slice A n c,.slice B m d] 91)) (.cells #[OJ,OJ] 91));have C:aq w p:=(((NI _ w).alloc (NF _) _).alloc (by simp) _).trans (y.mono (by first | omega | (simp;done) | (simp;omega)));have D:=Z.base (base':=w.heap.size) (by first | omega | (simp;done) | (simp;omega));have lz:=NE I;obtain ⟨⟨z0,z1⟩,zf⟩:=bx2 I;obtain ⟨N,H,R⟩:=af I C D;clear I C D y Z;go_wp2_with fail;have e1:=OE p (w.heap.size+1) 0 _ _ (.slice A1 n c1) N.o;have e2:=OE _ (w.heap.size+1) 1 _ _ (.slice i m c2) e1;have e3:((p.setCell (ar (w.heap.size+1) 0) (.slice A1 n c1)).setCell (ar (w.heap.size+1) 1) (.slice i m c2)).heap[w.heap.size+1]?=some (.cells #[.slice A1 n c1,.slice i m c2] 91 (0,0)):=by simpa using e2
 have hk:Keep (fun j=>j=w.heap.size+1) p ((p.setCell (ar (w.heap.size+1) 0) (.slice A1 n c1)).setCell (ar (w.heap.size+1) 1) (.slice i m c2)):=Keep.setCell (S:=fun j=>j=w.heap.size+1) (Keep.setCell (S:=fun j=>j=w.heap.size+1) (Keep.refl _ _) (ar (w.heap.size+1) 0) (.inr rfl) _) (ar (w.heap.size+1) 1) (.inr rfl) _;obtain ⟨T,Q⟩:∃T,T=(p.setCell (ar (w.heap.size+1) 0) (.slice A1 n c1)).setCell (ar (w.heap.size+1) 1) (.slice i m c2):=⟨_,rfl⟩;rw [<-Q] at e3 hk ⊢;obtain ⟨⟨x0,x1⟩,xf⟩:=bx2 e3
 have L:dZ T w.heap.size [.slice A1 n c1,.slice i m c2] x:=by
  obtain ⟨u,v,e,U,k2,k3⟩:=R.o;exact ⟨u,v,e,hk.own U (fun j J e=>ax N.o (by decide) U (by rw [J,e])),hk.own k2 (fun j J e=>ax N.o (by decide) k2 (by rw [J,e])),k3⟩
 exact NX (v:=.tuple #[.agg #[.slice A1 n c1,.slice i m c2],.bool true]) (by simp [results,results129,go_sem,x0,x1]) rfl ⟨A1,c1,i,c2,rfl,L,H.o.trans (hk.toBelow H.o.size (fun j J=>ap))⟩
theorem EJ (A:N_) (l:Qg) (c:Nat) (w:Qd) (h:de rEx 2 w A l) (hl:l.length<=1048576):Calls prog 128 #[.slice A l.length c,.func (.func 129) #[] #[]] w fun e Y=>∃v,e=.returned (.tuple #[v,.bool true])/\jk w Y l l.length v:=by
 obtain ⟨n,hn⟩:∃n,l.length=n:=⟨_,rfl⟩;rw [hn] at hl ⊢;obtain ⟨H,Hn⟩:=ae h hn;clear h hn;go_enter func128,ntmps128;go_wp2_with fail
 go_loopw [6,13] (fun v i wr=>∃k:Nat,k<=n/\i=OH k/\jk w wr l k v) (fun _ i _=>n-(intOf i).toNat)
 ·exact ⟨0,NJ _,rfl,jk.zero w l⟩
 case round=>
  obtain ⟨k,hk,rfl,y⟩:=hrel;obtain ⟨Al,cl,rfl⟩:=y.form;by_cases a0:k<n
  ·obtain ⟨x,hx⟩:∃x,l[k]?=some x:=⟨_,Of (by rw [Hn.o];exact a0)⟩;have hb:=y.b;obtain ⟨b,o,A1,c1,A2,c2,rfl,a5,p1,p2,r1,r2⟩:=fL (H.o.below dE hb) hx;have p:=fun Y (q:aq wr Y)=>BT A1 c1 A2 c2 x Y (r1.below q) (r2.below q);unfold vO at p;obtain ⟨B,I⟩:∃B,x.1.length=B:=⟨_,rfl⟩;obtain ⟨C,R⟩:∃C,x.2.length=C:=⟨_,rfl⟩;rw [I] at p1 p;rw [R] at p2 p;obtain ⟨a1,Z,Hx⟩:=af p y hx;clear p y hx r1 r2 I R hb;go_wp2_with fail;refine (a1.o _ ?_).mono ?_
   ·exact am
   rintro e w3 ⟨B1,d1,B2,V,rfl,ho,T⟩;have u:aq wr w3:=((NI _ wr).alloc (NF _) _).trans (T.mono (by first | omega | (simp;done) | (simp;omega)));have L:=(Z.o.below u).below ((NI _ _).alloc (NF _) (.cells #[.slice B1 B d1,.slice B2 C V] 91));have J:=(ho.base (base':=w.heap.size) (by have:=Z.o.b.size;first | omega | (simp;done) | (simp;omega))).below ((NI _ _).alloc (NF _) (.cells #[.slice B1 B d1,.slice B2 C V] 91));obtain ⟨a3,a4⟩:=ae L J;clear L J ho T u p1 p2;obtain ⟨rows,h1,h2,h3,h4,h5⟩:=a3.o;obtain ⟨R1,R2,R3,R4,R5⟩:=ah h1 h2 h3 h4 h5;clear h1 h2 h3 h4 h5;have Q:=aa (show (w3.alloc (.cells #[.slice B1 B d1,.slice B2 C V] 91)).heap.size=w3.heap.size+1 by simp);go_wp2_with (at_builtin;refine aW Jh _ rfl (.tmp 25) (.tmp 27) rfl w.heap.size (.slice Al k cl) k _ rfl R1.o [.slice B1 B d1,.slice B2 C V] (congrArg (fun b:Nat=>Value.slice (some (ar b 0)) 1 1) Q.o.symm) rfl (by simp [Value.oneCell']) ap (by unfold maxLen;omega) R5.o.size ?_);intro g6 c6 w6 D N O;have U:=jk.push R1.o R2.o R3.o R4.o R5.o Hx.o a4.o D N O;have a2:=aa U;clear D N O U;go_wp2_with fail;go_roundw
   ·exact ⟨k+1,by omega,by go_num,a2.o⟩
   ·simp [intOf];omega
  ·obtain rfl:n=k:=ap;have Z:=aa y;clear y;go_wp2_with fail;go_ret2;exact ⟨_,rfl,Z.o⟩
theorem zq (A:N_) (l:Qg) (c:Nat) (w:Qd) (h:de rEx 2 w A l) (hl:l.length<=1048576):Calls prog 84 #[.slice A l.length c] w fun e u=>∃p x,e=.returned (.slice p l.length x)/\de rEx 2 (fZ w.heap.size u) p l/\aq w u:=by
 have hm:=EJ A l c w h hl;obtain ⟨n,hn⟩:∃n,l.length=n:=⟨_,rfl⟩;rw [hn] at hm ⊢;obtain ⟨B,C⟩:=ae hm hn;clear hm hn h;go_enter func84,ntmps84;go_wp2_with fail;refine B.o.mono ?_;rintro e D ⟨v,rfl,i⟩;obtain ⟨p,x,rfl⟩:=i.form;have y:=aa i;clear i;go_wp2;go_ret;exact ⟨_,_,rfl,y.o.doneT C.o,y.o.b⟩
def dR (l:Qg) (h:Qa):Qg:=h.map fun i=>l.getD i.toNat ([],[])
theorem nD (l:Qg) (h:Qa):(dR l h).length=h.length:=by simp [dR]
theorem yt (l:Qg) (i:Qa) {k:Nat} (h:k<i.length):(dR l i)[k]?=some (l.getD (nth i k).toNat ([],[])):=by simp [dR,dd _ _ h,h]
theorem Ee (P n c:Nat) (A:N_) (i:Int) (w:Qd) (hP:w.heap[P]?=some (.cells #[.slice A n c] 25 (0,0))) (B:i<0\/(n:Int)<=i):Calls prog 246 #[OH i,(au P)] w fun e C=>e=.returned (.tuple #[.agg #[OJ,OJ],.bool false])/\aq w C:=by
 obtain ⟨J,N⟩:=bx1 hP;have H:=NE hP;clear hP;rcases Int.lt_or_le i 0 with y | y
 ·have I:i<0:=y;clear B;go_enter func246,ntmps246;go_wp2_with fail;have p:=NG w (.cells #[OJ,OJ] 91);obtain ⟨o,h⟩:∃o,o=w.alloc (.cells #[OJ,OJ] 91):=⟨_,rfl⟩;have hb:aq w o:=by rw [h];exact (NI _ _).alloc (NF _) _
  rw [<-h] at p ⊢;obtain ⟨⟨u,x⟩,D⟩:=bx2 p;exact NX (v:=.tuple #[.agg #[OJ,OJ],.bool false]) (by simp [results,results246,go_sem,u,x]) rfl ⟨rfl,hb⟩
 ·have h1:(n:Int)<=i:=ap;have L:¬i<0:=ap;clear B;go_enter func246,ntmps246;go_wp2_with fail;have p:=NG w (.cells #[OJ,OJ] 91);obtain ⟨o,h⟩:∃o,o=w.alloc (.cells #[OJ,OJ] 91):=⟨_,rfl⟩;have hb:aq w o:=by rw [h];exact (NI _ _).alloc (NF _) _
  rw [<-h] at p ⊢;obtain ⟨⟨u,x⟩,D⟩:=bx2 p;exact NX (v:=.tuple #[.agg #[OJ,OJ],.bool false]) (by simp [results,results246,go_sem,u,x]) rfl ⟨rfl,hb⟩
theorem Bd (P c j:Nat) (A:N_) (l:Qg) (x:Ex) (w:Qd) (hP:w.heap[P]?=some (.cells #[.slice A l.length c] 25 (0,0))) (h:de rEx 2 w A l) (hx:l[j]?=some x):Calls prog 246 #[OH j,(au P)] w (vO w x):=by
 have I:=(Oe.1 hx).1;obtain ⟨b,o,A1,c1,A2,c2,rfl,a0,p1,p2,r1,r2⟩:=fL h hx;have i:=fun n m (hn:x.1.length=n) (hm:x.2.length=m) w' (k:aq w w')=>vD n m A1 c1 A2 c2 x w' hn hm (r1.below k) (r2.below k);unfold vO;obtain ⟨n,hn⟩:∃n,x.1.length=n:=⟨_,rfl⟩;obtain ⟨m,hm⟩:∃m,x.2.length=m:=⟨_,rfl⟩;have i:=i n m hn hm;rw [hn] at p1;rw [hm] at p2;rw [hn,hm];obtain ⟨N,hN⟩:∃N,l.length=N:=⟨_,rfl⟩;rw [hN] at hP I;obtain ⟨p0,pf⟩:=bx1 hP;have a3:=NE hP;have a2:(j:Int)<N:=ap;have a4:¬((j:Int)<0):=ap;have a1:¬((N:Int)<=j):=ap;have U:=aa i;clear i hn hm r1 r2 hx h hN hP;go_enter func246,ntmps246;go_wp2_with fail;refine (U.o _ ?_).mono ?_
 ·exact am
 rintro e D ⟨B,y,C,p,rfl,ho,H⟩;have Q:D.heap[w.heap.size]?=some (.cells #[OJ,OJ] 91 (0,0)):=(H.block w.heap.size (by simp)).trans (NG w _);have J:aq w D:=((NI _ w).alloc (NF _) _).trans (H.mono (by first | omega | (simp;done) | (simp;omega)));have L:=ho.base (base':=w.heap.size) (by first | omega | (simp;done) | (simp;omega));have lz:=NE Q;obtain ⟨⟨z0,z1⟩,zf⟩:=bx2 Q;obtain ⟨T,O,Y⟩:=af Q J L;clear Q J L H ho p0 pf p1 p2;go_wp2_with fail;have e1:=OE D w.heap.size 0 _ _ (.slice B n y) T.o;have e2:=OE _ w.heap.size 1 _ _ (.slice C m p) e1;have e3:((D.setCell (ar w.heap.size 0) (.slice B n y)).setCell (ar w.heap.size 1) (.slice C m p)).heap[w.heap.size]?=some (.cells #[.slice B n y,.slice C m p] 91 (0,0)):=by simpa using e2
 have hk:Keep (fun j=>j=w.heap.size) D ((D.setCell (ar w.heap.size 0) (.slice B n y)).setCell (ar w.heap.size 1) (.slice C m p)):=Keep.setCell (S:=fun j=>j=w.heap.size) (Keep.setCell (S:=fun j=>j=w.heap.size) (Keep.refl _ _) (ar w.heap.size 0) (.inr rfl) _) (ar w.heap.size 1) (.inr rfl) _;obtain ⟨Z,V⟩:∃Z,Z=(D.setCell (ar w.heap.size 0) (.slice B n y)).setCell (ar w.heap.size 1) (.slice C m p):=⟨_,rfl⟩;rw [<-V] at e3 hk ⊢;obtain ⟨⟨x0,x1⟩,xf⟩:=bx2 e3
 have R:dZ Z w.heap.size [.slice B n y,.slice C m p] x:=by
  obtain ⟨u,v,e,k1,k2,k3⟩:=Y.o;exact ⟨u,v,e,hk.own k1 (fun j I e=>ax T.o (by decide) k1 (by rw [I,e])),hk.own k2 (fun j I e=>ax T.o (by decide) k2 (by rw [I,e])),k3⟩
 exact NX (v:=.tuple #[.agg #[.slice B n y,.slice C m p],.bool true]) (by simp [results,results246,go_sem,x0,x1]) rfl ⟨B,y,C,p,rfl,R,O.o.trans (hk.toBelow O.o.size (fun j I=>ap))⟩
end Go.Proofs.YtgmajkppbhiopaaGreat
