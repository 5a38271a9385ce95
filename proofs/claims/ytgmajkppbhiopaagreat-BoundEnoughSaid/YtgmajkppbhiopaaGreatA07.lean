/- No condition. -/
import Derived.Test.YtgmajkppbhiopaaGreatA00
import Derived.Test.YtgmajkppbhiopaaGreatA01
import Derived.Test.YtgmajkppbhiopaaGreatA06
import Derived.Test.YtgmajkppbhiopaaGreatA03
import Derived.Test.YtgmajkppbhiopaaGreatA02
import Derived.IntWalk
import Derived.Test.YtgmajkppbhiopaaGreatProg
set_option linter.unusedSimpArgs false
set_option linter.unusedVariables false
set_option maxRecDepth 100000
set_option maxHeartbeats 4000000
namespace Go.Proofs.YtgmajkppbhiopaaGreat
open Go.RowKit
def lX (a y:List Int):List Int:=di a.length fun i=>wrap64 (nth a i-nth y i)
theorem xZ (a y:List Int):(lX a y).length=a.length:=aU _ _
theorem x6 (a y:List Int):W64 (lX a y):=dZ fun _ _=>fM _
theorem CZ (b:Nat) (sz ps:List Int) (q:Int) (A B:Option Addr) (x y:List Int) (c d:Nat) (w:World) (h:jc 212 352 w b sz ps q) (hg:cO sz) (wp:W64 ps) (hA:Rd w A (ar .i64 x)) (hx:x.length=szN sz 0) (wx:W64 x) (hB:Rd w B (ar .i64 y)) (hy:y.length=szN sz (sz.length-1)):
  Calls Tryz.prog 249 #[.pointer (some ⟨b,0,none⟩),.slice A x.length c,.slice B y.length d] w fun e H=>∃A' c' D dc vals,e=.returned (.tuple #[.slice A' sz.length c',.slice D y.length dc,.bool true])∧Rd H A' vals∧lE H vals sz.length (eC sz ps q x)∧sz.length≤c'∧
   H.ownsRow w.heap.size 2 1 (.slice D y.length dc) y.length (ar .i64 (lX (eC sz ps q x (sz.length-1)) y))∧Below w.heap.size w H:=by
 have ht:=zb b sz ps q A x c w h hg wp hA hx wx
 have hv:=jd (sz:=sz) (ps:=ps) (q:=q) hx (sz.length-1)
 have hl:=hg.1.1
 have ad:=(hg.1.at (k:=sz.length-1) (by omega)).2.1
 have I:((y.length:Int) != (szN sz (sz.length-1):Int))=false:=by simp;omega
 obtain ⟨n,hn⟩:∃n,sz.length=n:=⟨_,rfl⟩
 obtain ⟨m,hm⟩:∃m,y.length=m:=⟨_,rfl⟩
 rw [hn] at ht hl hv I hy ad ⊢
 rw [←hy,hm] at hv I ad
 rw [hm]
 obtain ⟨a,ha⟩:∃a,eC sz ps q x (n-1)=a:=⟨_,rfl⟩
 have L:=iv a (fun i=>wrap64 (nth a i-nth y i))
 rw [ha] at hv ⊢
 unfold lX
 rw [←L,hv]
 clear L
 have Ha:=aa ha;clear ha;obtain ⟨Ht,Hv,HB,Hm⟩:=af ht hv hB hm;clear ht h hg wp hA hx wx hn hv hm hB hy
 obtain ⟨bh,bn⟩:=hl
 go_enter Tryz.func249,Tryz.ntmps249
 go_wp2_with fail
 refine Ht.out.mono ?_
 rintro e w1 ⟨A',c',vals,rfl,hr,Y,hc,hb⟩
 obtain ⟨Aj,cj,e1,e2,e3⟩:=Y.2 (n-1) (by omega)
 rw [Ha.out,Hv.out] at e1 e2
 rw [Ha.out] at e3
 have b0:=hr
 obtain ⟨bo,oo,rfl,p0⟩:=hr _ _ e1
 have a1:(n:Int)-1=((n-1:Nat):Int):=by omega
 have hw:IntKind.i64.wrap ((n:Int)-1)=((n-1:Nat):Int):=by rw [ER _ (by omega)];omega
 have hi:((n-1:Nat):Int)<n:=by omega
 have b3:n-1<n:=by omega
 have Q:=Hv.out
 have Z:=dF Aj a cj w1 e3 (by omega)
 rw [Q] at Z
 obtain ⟨b8,bb,Hb,b5,b9,Hc⟩:=ah Z Q hb Y b0 hc;clear hr b0 Y e1 e2 e3 hb Z Q hc
 rw [a1] at hw
 go_wp2_with fail
 refine b8.out.mono ?_
 rintro e w2 ⟨D,dc,rfl,bd,v,V⟩
 have a5:=Hb.out.trans (V.mono Hb.out.size)
 have b2:=Hb.out.size
 have a4:=aa v
 have v:=aA v b2
 obtain ⟨a2,a0,a7⟩:=ae a5 v V;clear a5 v V p0 hw a1 hi b3 I
 go_wp2_with fail
 go_loopw [42] (fun i wr=>∃k:Nat,k≤m∧i=FQ k∧wr.ownsRow w.heap.size 2 1 (.slice D m dc) m (ar .i64 (iw a k (fun i=>wrap64 (nth a i-nth y i))))∧Keep (fun i=>(Value.slice D m dc).ownBlock=some i) w2 wr) (fun i _=>m-(intOf i).toNat)
 case atStart=>exact ⟨0,EQ _,rfl,by rw [gn];exact a0.out,Keep.refl _ _⟩
 case round=>
  obtain ⟨k,hk,rfl,u,O⟩:=hrel
  by_cases R:k<m
  ·obtain ⟨g7,d7,a8,bl,_⟩:=u.form (by omega)
   simp only [FD] at a8
   obtain ⟨rfl,b7,rfl⟩:=a8
   clear b7
   have T:k<a.length:=by rw [bb.out];exact R
   have p1:=cP u R
   rw [fe _ T,if_neg (by omega)] at p1
   have f1:=u.frozenAt k
   have a3:=iu (l:=a) (k:=k) (fun i=>wrap64 (nth a i-nth y i)) T
   obtain ⟨C,oy,rfl,py⟩:=HB.out.num (show k<y.length by rw [Hm.out];exact R)
   have b4:C<w.heap.size:=au py
   have I:g7≠C:=by omega
   have a6:Below w.heap.size w wr:=a2.out.trans (O.toBelow a2.out.size (fun i hi=>(a0.out.lt i hi).1))
   have b6:=(a6.cell (p:=⟨C,oy+k,none⟩) b4).trans py
   obtain ⟨HO,HK,b1⟩:=ae u O a3;clear u O a3 T a6 py
   go_wp2_with fail
   have bi:(k:Int)<m:=by omega
   have J:(fun H:World=>H.cell? ⟨g7,k,none⟩=some (FQ (nth a k))∧H.cell? ⟨C,oy+k,none⟩=some (FQ (nth y k))) wr.drew:=⟨p1,b6⟩
   refine XA.g 11 (fun H:World=>H.cell? ⟨g7,k,none⟩=some (FQ (nth a k))∧H.cell? ⟨C,oy+k,none⟩=some (FQ (nth y k))) ?_
   refine XA.t ?_ [0,1,2,3,4,5,6,7,8,9] J ?_
   refine XA.o 10 (fun K O=>?_)
   go_simp
   refine (vz _ _ _).mono ?_
   rintro e w9 ⟨rfl,rfl⟩
   dsimp only
   refine O.out _ _ J (fun J=>?_)
   clear O K J
   refine XA.e ?_
   simp only [Fm,Fo]
   go_wp2_with fail
   go_roundw
   case rel=>
    refine ⟨k+1,by omega,by go_num,?_,?_⟩
    ·rw [←b1.out];exact eL (bC HO.out 1) k _
    ·exact Keep.setCell (HK.out.drewN 1) ⟨g7,k,none⟩ (.inr rfl) _
   case measure=>simp [intOf];omega
  ·obtain rfl:k=m:=by omega
   have N:Below w1.heap.size w1 wr:=a7.out.trans (O.toBelow a7.out.size (fun i hi=>(a4.out.lt i hi).1))
   obtain ⟨HO,U⟩:=ab u N;clear u N O
   go_wp2_with fail
   go_ret3
   exact ⟨_,_,_,_,vals,rfl,b9.out.below U.out,b5.out.below U.out,Hc.out,HO.out,Hb.out.trans (U.out.mono Hb.out.size)⟩
end Go.Proofs.YtgmajkppbhiopaaGreat
namespace Go.Proofs.YtgmajkppbhiopaaGreat
open Go.RowKit Go.Shelf
attribute [local go_sem] Oper.semAt_some
theorem pG {W:World} {base:Nat} {e:TypeId} {size n c G:Nat} {xs:List Value} {o:Obj} (h:W.ownsRow base e size (.slice (some ⟨G,0,none⟩) n c) n xs) (x:W.heap[G]?=some o):o.isCells=true:=by
 rcases h.2 with ⟨y,_⟩ | ⟨g,cap,v,u,_,i,_⟩
 ·cases y
 ·simp only [FD,Option.some.injEq,Addr.mk.injEq] at u
  rw [←u.1.1,x] at i
  cases i;rfl
def pZ (i:List Int) (c:Nat) (o:List Int) (q:Int) (h:List Int) (k:Nat):List Int:=qN h (mR (ku i c k) (nth o k) q)
def kE (h:List Int) (r c:Nat) (i:List Int) (q:Int):List Int:=(List.range r).foldl (pZ h c i q) (List.replicate c 0)
theorem yM (i:List Int) (c:Nat) (o:List Int) (q:Int) (h:List Int) (k:Nat):(pZ i c o q h k).length=h.length:=aU _ _
theorem Cf (o:List Int) (r c:Nat) (u:List Int) (q:Int):((List.finRange r).foldl (fun i k=>pZ o c u q i k.1) (List.replicate c 0))=kE o r c u q:=by
 unfold kE
 have h:List.range r=(List.finRange r).map (·.1):=List.ext_getElem (by simp) (by simp)
 rw [h,List.foldl_map]
theorem ur (r c k:Nat) (g o:Nat) (h:List Int) (y q:Int) (W:World) (hk:k<r) (hc:1≤c∧c≤1048576) (i:h.length=r*c)
  (B:Rd W (some ⟨g,o,none⟩) (ar .i64 h)) (C:W64 h) (A: -9223372036854775808≤y∧y≤9223372036854775807):
  Calls Tryz.prog 261 #[.slice (some ⟨g,o+k*c,none⟩) c c,FQ y,FQ q] W fun e u=>∃x v,e=.returned (.slice x c v)∧u.ownsRow W.heap.size 2 1 (.slice x c v) c (ar .i64 (mR (ku h c k) y q))∧Below W.heap.size W u:=by
 have:=xg (some ⟨g,o+k*c,none⟩) (ku h c k) c y q W (vS B hk i) (by rw [ir];omega) (rT C hk i) A
 rwa [ir] at this
def Cx (r c:Nat) (g o x d:Nat) (u:List Int) (B:Option Addr) (v:List Int) (e:Nat) (q:Int) (w:World) (G N M:Nat) (h:List (Fin r)) (W:World):Prop:=
 (W.ownsRow w.heap.size 2 1 (.slice (some ⟨G,0,none⟩) c c) c (ar .i64 (h.foldl (fun i k=>pZ u c v q i k.1) (List.replicate c 0)))∧Boxed W N 139 (.slice (some ⟨G,0,none⟩) c c)∧Boxed W (w.heap.size+1) 139 (.slice B r e)∧Boxed W (w.heap.size+1+1) 3 (FQ q)∧W.heap[M]?=some (.cells #[FQ r,FQ c,.slice (some ⟨g,o,none⟩) x d] 354 (0,0)))∧Below w.heap.size w W
theorem yL (r c:Nat) (g o I d:Nat) (i:List Int) (B:Option Addr) (v:List Int) (e:Nat) (q:Int) (w:World) (G N M K:Nat) (C:w.heap.size≤K):OwnFrom K (Cx r c g o I d i B v e q w G N M):=by
 intro s W O row L h hr
 obtain ⟨⟨A,x,J,y,D⟩,u⟩:=L
 have H:=ownFrom_below (β:=Unit) (EM _) C () W O row u h hr
 exact ⟨⟨rF A h hr,cN rfl x h hr,cN rfl J h hr,cN rfl y h hr,cN rfl D h hr⟩,H⟩
theorem yd (r c:Nat) (g o R d:Nat) (ms:List Int) (B:Option Addr) (ys:List Int) (e:Nat) (q:Int) (w:World) (hr:1≤r∧r≤1048576) (hc:1≤c∧c≤1048576) (bb:R=r*c) (hd:R≤d) (hm:R≤17592186043904)
  (bX:ms.length=R) (hA:Rd w (some ⟨g,o,none⟩) (ar .i64 ms)) (wm:W64 ms) (hB:Rd w B (ar .i64 ys)) (c7:ys.length=r) (wy:W64 ys):
  Calls Tryz.prog 251 #[.agg #[FQ r,FQ c,.slice (some ⟨g,o,none⟩) R d],.slice B r e,FQ q] w fun e T=>∃A' c',e=.returned (.tuple #[.slice A' c c',.bool true])∧T.ownsRow w.heap.size 2 1 (.slice A' c c') c (ar .i64 (kE ms r c ys q))∧Below w.heap.size w T:=by
 have bn:=fun T=>jt r c (some ⟨g,o,none⟩) R d T hr hc bb hm
 have bI:=fun cs T=>mU cs T
 have bA:(8:Nat)*c≤281474976710656:=by omega
 have d2:=aa bA;clear bA;obtain ⟨cn,co,bd,cc,cq,HA,HB,WM⟩:=aj bn bI bb bX c7 hA hB wm;have WY:=aa wy;clear bn bI bb bX c7 hA hB wm wy
 refine (callsIn_wide (n:=3)).1 ?_
 refine callsIn_of_wp_marks Tryz.func251 rfl trivial ?_ rfl
 simp only [Tryz.ntmps251,List.size_toArray,List.length_cons,List.length_nil,Nat.reduceAdd,Nat.reduceSub,Array.replicate_succ,Array.replicate_zero,List.push_toArray,List.append_toArray,List.nil_append,List.cons_append]
 gi_wp2_with fail
 refine ⟨trivial,?_⟩
 refine (callsIn_wide.2 (cn.out _)).mono ?_
 rintro e w1 ⟨rfl,rfl⟩
 gi_wp2_with (gi_at_make;refine qR iV _ rfl (.tmp 22) (.tmp 22) rfl rfl c rfl rfl d2.out (by unfold maxLen;omega) ?_)
 intro w2 A V
 rw [gj] at A
 have b0:Below w.heap.size w w2:=Below.trans (((((EP _ w).alloc (EM _) _).alloc (by simp) _).alloc (by simp;omega) _).alloc (by simp;omega) _) (V.mono (by omega))
 have h3:w2.heap[w.heap.size]?=some (.cells #[FQ r,FQ c,.slice (some ⟨g,o,none⟩) R d] 354 (0,0)):=by
  refine (V.block w.heap.size (by omega)).trans ?_
  refine (E0 _ _ _ (by first | (simp;done) | (simp;omega))).trans ((E0 _ _ _ (by first | (simp;done) | (simp;omega))).trans ((E0 _ _ _ (by simp)).trans (EN w _)))
 have h4:Boxed w2 (w.heap.size+1) 139 (.slice B r e):=by
  refine (V.block (w.heap.size+1) (by omega)).trans ?_
  refine (E0 _ _ _ (by first | (simp;done) | (simp;omega))).trans ((E0 _ _ _ (by simp)).trans ?_)
  have:=EN (w.alloc (.cells #[FQ r,FQ c,.slice (some ⟨g,o,none⟩) R d] 354)) (.cells #[.slice B r e] 139)
  simpa using this
 have h5:Boxed w2 (w.heap.size+1+1) 3 (FQ q):=by
  refine (V.block (w.heap.size+1+1) (by omega)).trans ?_
  refine (E0 _ _ _ (by simp)).trans ?_
  have:=EN ((w.alloc (.cells #[FQ r,FQ c,.slice (some ⟨g,o,none⟩) R d] 354)).alloc (.cells #[.slice B r e] 139)) (.cells #[FQ q] 3)
  simpa using this
 obtain ⟨G,hG⟩:∃G,w.heap.size+1+1+1+1=G:=⟨_,rfl⟩
 rw [hG] at A V ⊢
 obtain ⟨a1,c8,HG,H3,H4,H5⟩:=ah A b0 hG h3 h4 h5
 obtain ⟨⟨m0,m1,m2⟩,mf⟩:=bx3 h3
 have cf:w.heap.size<w2.heap.size:=EL h3
 clear A V b0 hG h3 h4 h5
 gi_wp2_with fail
 refine ⟨trivial,?_⟩
 refine (callsIn_wide.2 (co.out _ _)).mono ?_
 rintro e w1 ⟨rfl,rfl⟩
 gi_wp2_with fail
 obtain ⟨I,H⟩:∃I,I=w2.alloc (.cells #[.slice (some ⟨G,0,none⟩) c c] 139):=⟨_,rfl⟩
 rw [←H]
 have a8:I.heap.size=w2.heap.size+1:=by rw [H];simp
 have bO:Boxed I w2.heap.size 139 (.slice (some ⟨G,0,none⟩) c c):=by rw [H];exact Boxed.new w2 _ _
 have b4:Boxed I (w.heap.size+1) 139 (.slice B r e):=by rw [H];exact H4.out.alloc _
 have b5:Boxed I (w.heap.size+1+1) 3 (FQ q):=by rw [H];exact H5.out.alloc _
 have r0:I.ownsRow w.heap.size 2 1 (.slice (some ⟨G,0,none⟩) c c) c (ar .i64 (List.replicate c 0)):=by rw [H];exact aA (a1.out.alloc _) (by have:=HG.out;omega)
 have a2:Below w.heap.size w I:=by rw [H];exact c8.out.alloc (by omega) _
 have bM:(I.alloc (.cells #[FQ r,FQ c,.slice (some ⟨g,o,none⟩) R d] 354)).heap[I.heap.size]?=some (.cells #[FQ r,FQ c,.slice (some ⟨g,o,none⟩) R d] 354 (0,0)):=EN I _
 obtain ⟨N,hN⟩:∃N,N=w2.heap.size:=⟨_,rfl⟩
 rw [←hN] at bO a8 ⊢
 rw [←a8]
 obtain ⟨cd,Q,bN,cj,cb,cx,d0,HN⟩:=aj a8 a2 bM bO b4 b5 r0 hN;have dn:=aa H;clear a8 a2 bM bO b4 b5 r0 hN H m0 m1 m2 mf cf
 have cw:Cx r c g o R d ms B ys e q w G N I.heap.size [] (I.alloc (.cells #[FQ r,FQ c,.slice (some ⟨g,o,none⟩) R d] 354)):=⟨⟨d0.out.alloc _,cj.out.alloc _,cb.out.alloc _,cx.out.alloc _,bN.out⟩,Q.out.alloc (by have:=Q.out.size;omega) _⟩
 refine' wpIn_rangeFunc_ownG (F:=Fence.wide) (n:=3) rfl (by omega) (gf:=268) (lb:=#[.pointer (some ⟨I.heap.size,0,none⟩)]) rfl trivial (enters_of Tryz.func268 (by kernel_rfl) rfl)
  (jN _ I.heap.size w.heap.size g o r c R d hr.2 hc bd.out hd _ bN.out) iH (iI (by have:=Q.out.size;simp;omega) (by simp)) (EP _ _) (fun _=>rfl)
  (Cx r c g o R d ms B ys e q w G N I.heap.size)
  (fun _ _ _=>False)
  (yL r c g o R d ms B ys e q w G N I.heap.size _ (by have:=Q.out.size;simp;omega))
  (fun _ _ _ _ _ hs _ _=>hs)
  cw
  _ ?assign ?body ?done ?stop
 case assign=>
  intro l x W K hK
  unfold kY
  gi_wp2
  exact hK
 case body=>
  rintro l cr x W ⟨⟨O,Z,a5,a6,b8⟩,a7⟩ bv
  have bw:=a5.cell
  have c6:=a6.cell
  have bi:=Z.cell
  obtain ⟨U,HO,HM,ad,H4,H5,dp⟩:=ai O Z b8 a7 a5 a6 bv;clear O b8 a7 a5 a6 bv Z
  have d9:G<W.heap.size:=by
   obtain ⟨g6,d6,J,_,a0⟩:=U.out.form (by omega:0<c)
   simp only [FD,Option.some.injEq,Addr.mk.injEq] at J
   rw [J.1.1];exact a0
  gi_wp2_with fail
  have a4:x.1<ys.length:=by rw [cq.out];exact x.2
  have bo:=fun W' (k:Below W.heap.size W W')=>ur r c x.1 g o ms (nth ys x.1) q W' x.2 hc (cc.out.trans bd.out) ((HA.out.below ad.out).below k) WM.out (WY.out _ a4)
  have dc:(x.1:Int)<r:=by have:=x.2;omega
  obtain ⟨b2,o2,d1,p2⟩:=(HB.out.below ad.out).num a4
  subst d1
  have d7:G<N:=by
   obtain ⟨g6,d6,J,_,a0⟩:=a1.out.form (by omega:0<c)
   simp only [FD,Option.some.injEq,Addr.mk.injEq] at J
   have:=HN.out
   have h7:G<w2.heap.size:=by rw [J.1.1];exact a0
   omega
  have bs:¬G=N:=by omega
  have bV:¬G=w.heap.size+1:=by have:=HG.out;omega
  have bG:¬G=w.heap.size+1+1:=by have:=HG.out;omega
  have d4:¬G=b2:=by
   obtain ⟨b3,o3,e3,p3⟩:=HB.out.num a4
   have L:b3<w.heap.size:=au p3
   simp only [Option.some.injEq,Addr.mk.injEq] at e3
   have:=HG.out
   omega
  have ci:=aa bo;clear bo a4
  refine gh (fun T=>T.cell? ⟨N,0,none⟩=some (.slice (some ⟨G,0,none⟩) c c)∧T.cell? ⟨w.heap.size+1,0,none⟩=some (.slice (some ⟨b2,o2,none⟩) r e)∧T.cell? ⟨w.heap.size+1+1,0,none⟩=some (FQ q)∧T.cell? ⟨b2,o2+x.1,none⟩=some (FQ (nth ys x.1))) (by kernel_rfl) (by kernel_rfl) (by rintro ⟨_,_,h⟩;exact h) ?_
  have y:(fun T:World=>T.cell? ⟨N,0,none⟩=some (.slice (some ⟨G,0,none⟩) c c)∧T.cell? ⟨w.heap.size+1,0,none⟩=some (.slice (some ⟨b2,o2,none⟩) r e)∧T.cell? ⟨w.heap.size+1+1,0,none⟩=some (FQ q)∧T.cell? ⟨b2,o2+x.1,none⟩=some (FQ (nth ys x.1))) W.drew:=⟨bi,bw,c6,p2⟩
  clear bi bw c6 p2
  refine wpAnyH_take (i:=0) (v:=?_) rfl (by kernel_rfl) (by kernel_rfl) (by kernel_rfl) (fun _ _ _ h=>h) (Or.inl ⟨by rfl,?_⟩) y ?_
  rotate_left
  ·intro w9 u;(try dsimp only at u);obtain ⟨s1,s2,s3,s4⟩:=u;go_simp;(try with_reducible rfl)
  simp only [Fd,Fe,Ff,Act.put,Fg,Fh,Fi]
  refine wpAnyH_take (i:=1) (v:=?_) rfl (by kernel_rfl) (by kernel_rfl) (by kernel_rfl) (fun _ _ _ h=>h) (Or.inl ⟨by rfl,?_⟩) y ?_
  rotate_left
  ·intro w9 u;(try dsimp only at u);obtain ⟨s1,s2,s3,s4⟩:=u;go_simp;(try with_reducible rfl)
  simp only [Fd,Fe,Ff,Act.put,Fg,Fh,Fi]
  refine wpAnyH_take (i:=2) (v:=?_) rfl (by kernel_rfl) (by kernel_rfl) (by kernel_rfl) (fun _ _ _ h=>h) (Or.inl ⟨by rfl,?_⟩) y ?_
  rotate_left
  ·intro w9 u;(try dsimp only at u);obtain ⟨s1,s2,s3,s4⟩:=u;go_simp;(try with_reducible rfl)
  simp only [Fd,Fe,Ff,Act.put,Fg,Fh,Fi]
  refine wpAnyH_take (i:=3) (v:=?_) rfl (by kernel_rfl) (by kernel_rfl) (by kernel_rfl) (fun _ _ _ h=>h) (Or.inl ⟨by rfl,?_⟩) y ?_
  rotate_left
  ·intro w9 u;(try dsimp only at u);obtain ⟨s1,s2,s3,s4⟩:=u;go_simp;(try with_reducible rfl)
  simp only [Fd,Fe,Ff,Act.put,Fg,Fh,Fi]
  refine wpAnyH_take (i:=4) (v:=?_) rfl (by kernel_rfl) (by kernel_rfl) (by kernel_rfl) (fun _ _ _ h=>h) (Or.inl ⟨by rfl,?_⟩) y ?_
  rotate_left
  ·intro w9 u;(try dsimp only at u);obtain ⟨s1,s2,s3,s4⟩:=u;go_simp;(try with_reducible rfl)
  simp only [Fd,Fe,Ff,Act.put,Fg,Fh,Fi]
  refine wpAnyH_take (i:=5) (v:=?_) rfl (by kernel_rfl) (by kernel_rfl) (by kernel_rfl) (fun _ _ _ h=>h) (Or.inl ⟨by rfl,?_⟩) y ?_
  rotate_left
  ·intro w9 u;(try dsimp only at u);obtain ⟨s1,s2,s3,s4⟩:=u;go_simp;(try with_reducible rfl)
  simp only [Fd,Fe,Ff,Act.put,Fg,Fh,Fi]
  refine wpAnyH_take (i:=6) (v:=?_) rfl (by kernel_rfl) (by kernel_rfl) (by kernel_rfl) (fun _ _ _ h=>h) (Or.inl ⟨by rfl,?_⟩) y ?_
  rotate_left
  ·intro w9 u;(try dsimp only at u);obtain ⟨s1,s2,s3,s4⟩:=u;go_simp;(try with_reducible rfl)
  simp only [Fd,Fe,Ff,Act.put,Fg,Fh,Fi]
  refine wpAnyH_ready (rs:=[7]) (by kernel_rfl) (by simp) ?_
  refine AllReadyH.cons rfl (fun K hK=>?_) AllReadyH.nil
  simp only [Fd,Fe,Ff]
  go_simp
  refine (ci.out _ ?_).mono ?_
  ·exact (EP _ W).drew
  rintro e w3 ⟨A',c',rfl,C,L⟩
  dsimp only
  refine hK.out _ _ ?_ (fun u=>?_)
  ·exact ⟨am L y.1,am L y.2.1,am L y.2.2.1,am L y.2.2.2⟩
  clear hK K
  have b9:=aq (w:=W.drew) U.out L
  have b6:∀a b,(some ⟨G,0,none⟩:Option Addr)=some a→A'=some b→a.block≠b.block:=fun a b ha hb=>by
   cases ha;subst hb
   have h1:=(C.form (by omega:0<c))
   obtain ⟨g5,d5,bz,d3,_⟩:=h1
   simp only [FD,Option.some.injEq] at bz
   rw [bz.1]
   have h2:=U.out.form (by omega:0<c)
   obtain ⟨g6,d6,J,_,a0⟩:=h2
   simp only [FD,Option.some.injEq,Addr.mk.injEq] at J
   have h7:G<W.heap.size:=by rw [J.1.1];exact a0
   show G≠g5
   have h8:W.heap.size≤g5:=d3
   omega
  have b1:=qM w.heap.size (some ⟨G,0,none⟩) A' _ _ c c c' w3 b9 (Rd.own C) (by unfold mR;rw [aU,ir]) (by omega) b6
  refine wpAnyH_ready (rs:=[8]) (by kernel_rfl) (by simp) ?_
  refine AllReadyH.cons rfl (fun K hK=>?_) AllReadyH.nil
  simp only [Fd,Fe,Ff,Act.put,Fg,Fh,Fi]
  obtain ⟨bl,da,ct,cl⟩:=af b1 b9 C L;clear b1 b9 C L b6
  go_simp
  refine bl.out.mono ?_
  rintro e w4 ⟨rfl,b7,a3⟩
  dsimp only
  refine hK.out _ _ ?_ (fun d8=>?_)
  ·exact ⟨a3.cell u.1 (by simp [Value.ownBlock];exact bs),a3.cell u.2.1 (by simp [Value.ownBlock];exact bV),a3.cell u.2.2.1 (by simp [Value.ownBlock];exact bG),a3.cell u.2.2.2 (by simp [Value.ownBlock];exact d4)⟩
  refine wpAnyH_done (by kernel_rfl) ?_ _
  have Y:Keep (fun i=>(Value.slice (some ⟨G,0,none⟩) c c).ownBlock=some i) W w4:=((Keep.refl _ W).drew.trans (Keep.below cl.out)).trans a3
  have dk:w.heap.size≤G:=by have:=HG.out;omega
  have c9:Below w.heap.size W w4:=Y.toBelow ad.out.size (fun k hk=>by simp [Value.ownBlock] at hk;omega)
  have cv:¬G=I.heap.size:=by have:=cd.out;omega
  have bh:=(Y.block _ (EL HM.out) (by simp [Value.ownBlock];exact cv)).trans HM.out
  refine ⟨(gP Y fun k o hk ho=>?_).from _,⟨c9,fun _=>bh.trans HM.out.symm⟩,⟨⟨?_,?_,?_,?_,bh⟩,ad.out.trans c9⟩⟩
  ·simp only [Value.ownBlock,Option.some.injEq] at hk
   subst hk
   exact pG U.out ho
  ·rw [List.foldl_append];exact b7
  ·exact (Y.block _ (EL HO.out) (by simp [Value.ownBlock];exact bs)).trans HO.out
  ·exact (Y.block _ (EL H4.out) (by simp [Value.ownBlock];exact bV)).trans H4.out
  ·exact (Y.block _ (EL H5.out) (by simp [Value.ownBlock];exact bG)).trans H5.out
 case done=>
  rintro D zs W hD rfl ⟨⟨O,Z,a5,a6,b8⟩,a7⟩ hK
  have hc:=Z.cell
  gi_wp2
  refine ⟨by simp,.inl ⟨_,_,rfl,run_takeDeferred hK,?_⟩⟩
  rw [Cf] at O
  refine ⟨.tuple #[.slice (some ⟨G,0,none⟩) c c,.bool true],by simp [results,Tryz.results251,go_sem],_,_,rfl,ownsRow_putObj O _ hK rfl,a7.trans (belowK_b (w:=w) (EM _) W D _ _ (by have:=Q.out.size;simp at hD;omega) hK rfl rfl)⟩
 case stop=>
  rintro D c cr W _ _ h _
  exact h.elim
end Go.Proofs.YtgmajkppbhiopaaGreat
namespace Go.Proofs.YtgmajkppbhiopaaGreat
open Go.RowKit
def CT (c:Nat) (h xs:List Int) (q:Int) (i:Nat):Int:=gH (nth h (i/c)) (nth xs (i%c)) q
def iP (r c:Nat) (h xs:List Int) (q:Int):List Int:=di (r*c) (CT c h xs q)
def jB (r c:Nat) (o xs:List Int) (q:Int) (h:List Nat) (x j:Nat):List Int:=di (r*c) fun i=>if i/c∈h∨(i/c=x∧i%c<j) then CT c o xs q i else 0
theorem km (r c:Nat) (i xs:List Int) (q:Int) (h:List Nat) (x j:Nat):(jB r c i xs q h x j).length=r*c:=aU _ _
theorem xK (r c:Nat) (h xs:List Int) (q:Int) (x:Nat):List.replicate (r*c) 0=jB r c h xs q [] x 0:=
 dQ (by simp) fun k hk=>by
  rw [cW _ _ (by simpa using hk)]
  simp
theorem Ay {r c:Nat} {C xs:List Int} {q:Int} {o:List Nat} {x j:Nat} (O:x<r) (L:j<c):(jB r c C xs q o x j).set (x*c+j) (gH (nth C x) (nth xs j) q)=jB r c C xs q o x (j+1):=by
 have u:x*c+j<r*c:=by
  have:=FO c (show x+1≤r by omega)
  rw [FG] at this
  omega
 have I:(x*c+j)/c=x:=by rw [Nat.add_comm,Nat.add_mul_div_right _ _ (by omega),Nat.div_eq_of_lt L,FI]
 have B:(x*c+j)%c=j:=by rw [Nat.add_comm,Nat.add_mul_mod_self_right,Nat.mod_eq_of_lt L]
 refine gW (by rw [List.length_set,km,km]) fun i H=>?_
 rw [List.length_set,km] at H
 rw [eN,km]
 unfold jB
 rw [cu _ H,cu _ H]
 by_cases h:i=x*c+j
 ·subst h
  rw [if_pos ⟨rfl,u⟩,if_pos (.inr ⟨I,by omega⟩)]
  unfold CT
  rw [I,B]
 ·rw [if_neg (fun v=>h v.1)]
  have D:¬(i/c=x∧i%c=j):=fun v=>h (by rw [←v.1,←v.2,Nat.mul_comm];exact (Nat.div_add_mod i c).symm)
  by_cases y:i/c∈o∨(i/c=x∧i%c<j)
  ·rw [if_pos y,if_pos (y.imp id fun v=>⟨v.1,by omega⟩)]
  ·rw [if_neg y,if_neg]
   rintro (A | ⟨A,N⟩)
   ·exact y (.inl A)
   ·exact y (.inr ⟨A,by
     rcases Fa (i%c) j with J | J
     ·exact J
     ·exact absurd ⟨A,by omega⟩ D⟩)
theorem Az {r c:Nat} {v xs:List Int} {q:Int} {o:List Nat} {x:Nat} (hc:1≤c) (y:Nat):jB r c v xs q o x c=jB r c v xs q (o++[x]) y 0:=by
 unfold jB
 refine fV fun i C=>?_
 have hm:i%c<c:=Nat.mod_lt _ (by omega)
 by_cases u:i/c∈o∨(i/c=x∧i%c<c)
 ·rw [if_pos u,if_pos]
  rcases u with h | ⟨h,_⟩
  ·exact .inl (FE.2 (.inl h))
  ·exact .inl (FE.2 (.inr (by simp [h])))
 ·rw [if_neg u,if_neg]
  rintro (A | ⟨_,B⟩)
  ·rcases FE.1 A with h | h
   ·exact u (.inl h)
   ·exact u (.inr ⟨by simpa using h,hm⟩)
  ·omega
theorem uk {r c:Nat} {o xs:List Int} {q:Int} {h:List Nat} (x y:Nat):jB r c o xs q h x 0=jB r c o xs q h y 0:=by
 unfold jB
 exact fV fun i u=>by simp
theorem xM {r c:Nat} {h xs:List Int} {q:Int} (hc:1≤c) (y:Nat):jB r c h xs q (List.range r) y 0=iP r c h xs q:=by
 unfold jB iP
 refine fV fun i o=>?_
 rw [if_pos]
 refine .inl (List.mem_range.2 ?_)
 exact (Nat.div_lt_iff_lt_mul (by omega)).2 o
def vZ (v d:List Int):List Int:=di d.length fun i=>if 0<nth v i then nth d i else 0
theorem yu (v d:List Int):(vZ v d).length=d.length:=aU _ _
theorem yv {v d:List Int} (h:W64 d):W64 (vZ v d):=dZ fun k hk=>by
 split
 ·exact h k hk
 ·omega
theorem pY (o:List Int) (r c:Nat) (u:List Int) (q:Int):(kE o r c u q).length=c:=by
 unfold kE
 have:∀(l:List Nat) (i:List Int),i.length=c→(l.foldl (pZ o c u q) i).length=c:=by
  intro l
  induction l with
  | nil=>intro i h;exact h
  | cons a l ih=>intro i h;exact ih _ (by rw [yM];exact h)
 exact this _ _ (by simp)
theorem yK (o:List Int) (r c:Nat) (u:List Int) (q:Int):W64 (kE o r c u q):=by
 unfold kE
 have:∀(l:List Nat) (i:List Int),W64 i→W64 (l.foldl (pZ o c u q) i):=by
  intro l
  induction l with
  | nil=>intro i h;exact h
  | cons a l ih=>intro i h;exact ih _ (oa _ _)
 exact this _ _ (fun k hk=>by rw [cW _ _ hk];simp)
def jD (sz ps:List Int) (q:Int) (x y:List Int):Nat→List Int
 | 0=>lX (eC sz ps q x (sz.length-1)) y
 | j+1=>vZ (eC sz ps q x (sz.length-2-j)) (kE (wL sz ps (sz.length-2-j)) (szN sz (sz.length-1-j)) (szN sz (sz.length-2-j)) (jD sz ps q x y j) q)
def ky (sz ps:List Int) (q:Int) (x y:List Int):Nat→List Int
 | 0=>[]
 | j+1=>iP (szN sz (sz.length-1-j)) (szN sz (sz.length-2-j)) (jD sz ps q x y j) (eC sz ps q x (sz.length-2-j)) q++(jD sz ps q x y j++ky sz ps q x y j)
def jH (sz ps:List Int) (q:Int) (x y:List Int):List Int:=ky sz ps q x y (sz.length-1)
theorem uj (r c:Nat) (h xs:List Int) (q:Int):(iP r c h xs q).length=r*c:=aU _ _
theorem sH {sz ps:List Int} {q:Int} {x y:List Int} (h:x.length=szN sz 0) (j:Nat):(jD sz ps q x y j).length=szN sz (sz.length-1-j):=by
 cases j with
 | zero=>show (lX _ _).length=_;rw [xZ,jd h];rfl
 | succ j=>show (vZ _ _).length=_;rw [yu,pY,show sz.length-1-(j+1)=sz.length-2-j by omega]
theorem BG (sz ps:List Int) (q:Int) (x y:List Int) (j:Nat):W64 (jD sz ps q x y j):=by
 cases j with
 | zero=>exact x6 _ _
 | succ j=>exact yv (yK _ _ _ _ _)
theorem Dh:cH Tryz.prog 26 2 (FQ 0) 1 8:=⟨Tryz.underlying26,info_parts (by kernel_rfl),rfl,by decide⟩
theorem Df:cH Tryz.prog 27 253 (.int .u64 0) 1 8:=⟨Tryz.underlying27,info_parts (by kernel_rfl),rfl,by decide⟩
theorem tj (A:Option Addr) (zs:List Int) (c:Nat) (w:World) (C:Rd w A (ar .u64 zs)) (hl:zs.length≤17592186043904):
  Calls Tryz.prog 155 #[.slice A zs.length c] w fun e B=>∃v,e=.returned v∧B.ownsRow w.heap.size 253 1 v zs.length (ar .u64 zs)∧Below w.heap.size w B:=by
 have q:=fun (w:World)=>Lib.run_eql_slice_nil (P:=Tryz.prog) w 27 253 A zs.length c 0 0 Tryz.underlying27
 cases A with
 | none=>
  have D:zs=[]:=by
   cases zs with
   | nil=>rfl
   | cons z l=>obtain ⟨b,o,h,_⟩:=C 0 _ rfl;cases h
  subst D
  clear q
  have q:=fun (w:World)=>Lib.run_eql_slice_nil (P:=Tryz.prog) w 27 253 none 0 c 0 0 Tryz.underlying27
  simp only [Option.isNone_none] at q
  rw [List.length_nil]
  go_enter Tryz.func155,Tryz.ntmps155
  go_wp2
  go_ret
  exact ⟨_,rfl,EZ _ _ _ _,EP _ _⟩
 | some a=>
  go_enter Tryz.func155,Tryz.ntmps155
  go_wp2_with (at_builtin;refine dE Df _ rfl (.tmp 5) (.tmp 6) rfl w.heap.size _ 0 [] rfl (fP w 253 1) _ zs.length c (ar .u64 zs) rfl (C.alloc _) (by rw [aK];omega) (bj _ _) (by omega) (by unfold maxLen;omega) (by simp) ?_)
  intro J I H i hb _ _
  have x:=((EP _ w).alloc (EM _) (.cells #[] 253)).trans hb
  obtain ⟨u,y⟩:=ab i x;clear i hb x
  go_wp2
  go_ret
  exact ⟨_,rfl,u.out,y.out⟩
def U64 (l:List Int):Prop:=∀k,k<l.length→0≤nth l k∧nth l k≤18446744073709551615
theorem Keep.below2 {S:Nat→Prop} {w i o:World} (h:Keep S w i) (hb:Below w.heap.size i o):Keep S w o:=
 ⟨hb.os.trans h.os,hb.tape.trans h.tape,hb.output.trans h.output,ES h.size hb.size,fun k hk hn=>(hb.block k hk).trans (h.block k hk hn)⟩
structure aV (w:World) (b:Nat) (A:Option Addr) (c:Nat) (l:List Int) (i:Nat):Prop where
 blk:w.heap[b]?=some (.cells #[.slice A l.length c,FQ (i:Int)] 270 (0,0))
 rd:Rd w A (ar .u64 l)
 ne:∀a,A=some a→a.block≠b
theorem aV.lt {w:World} {b c i:Nat} {A:Option Addr} {l:List Int} (h:aV w b A c l i):b<w.heap.size:=EL h.blk
theorem aV.below {w o:World} {b c i:Nat} {A:Option Addr} {l:List Int} (h:aV w b A c l i) (hb:Below w.heap.size w o):aV o b A c l i:=
 ⟨(hb.block b h.lt).trans h.blk,h.rd.below hb,h.ne⟩
theorem aV.drewN {w:World} {b c i:Nat} {A:Option Addr} {l:List Int} (h:aV w b A c l i) (n:Nat):aV (w.drewN n) b A c l i:=⟨h.blk,h.rd.drewN n,h.ne⟩
theorem aV.keep {w o:World} {b c i:Nat} {A:Option Addr} {l:List Int} (h:aV w b A c l i) {S:Nat→Prop} (k:Keep S w o) (hb:¬S b) (u:∀a,A=some a→¬S a.block):aV o b A c l i:=
 ⟨(k.block b h.lt hb).trans h.blk,k.rd h.rd u,h.ne⟩
theorem BJ (A:Option Addr) (l:List Int) (c:Nat) (w:World) (L:Rd w A (ar .u64 l)) (hl:l.length≤17592186043904):
  Calls Tryz.prog 120 #[.slice A l.length c] w fun e I=>∃b u B,e=.returned (.pointer (some ⟨b,0,none⟩))∧aV I b u B l 0∧(∀a,u=some a→w.heap.size≤a.block)∧w.heap.size≤b∧Below w.heap.size w I:=by
 have hc:=tj A l c w L hl
 have O:=aa hc;clear hc L
 go_enter Tryz.func120,Tryz.ntmps120
 go_wp2_with fail
 refine O.out.mono ?_
 rintro e H ⟨v,rfl,x,hb⟩
 obtain ⟨u,B,rfl,_⟩:=av x
 have h:=x.lt
 obtain ⟨D,C,y⟩:=ae x hb h;clear x hb h
 go_wp2
 go_ret
 have o:∀a,u=some a→w.heap.size≤a.block∧a.block<H.heap.size:=fun a i=>by
  subst i
  rcases D.out.2 with ⟨hn,_⟩ | ⟨g,cap,N,J,_⟩
  ·cases hn
  ·simp only [FD,Option.some.injEq] at J
   obtain ⟨rfl,_,_⟩:=J
   exact y.out g rfl
 exact ⟨_,u,B,rfl,⟨EN H _,(Rd.own D.out).alloc _,fun a i Q=>by have:=(o a i).2;omega⟩,fun a i=>(o a i).1,C.out.size,C.out.alloc C.out.size _⟩
theorem lN (b c i:Nat) (A:Option Addr) (l:List Int) (w:World) (h:aV w b A c l i) (y:i≤l.length) (hl:l.length≤17592186043904):
  Calls Tryz.prog 176 #[.pointer (some ⟨b,0,none⟩)] w fun e u=>e=.returned (FQ ((l.length-i:Nat):Int))∧∃d,u=w.drewN d:=by
 obtain ⟨o,v,x⟩:=h
 obtain ⟨n,hn⟩:∃n,l.length=n:=⟨_,rfl⟩
 rw [hn] at o y hl ⊢
 obtain ⟨⟨B,D⟩,C⟩:=bx2 o
 have hb:=EL o
 clear o v x hn
 go_enter Tryz.func176,Tryz.ntmps176
 go_wp2_with fail
 go_quiet (fail)
 go_wp2_with fail
 go_ret
 exact ⟨aF (by omega),_,rfl⟩
theorem qX (b c i m:Nat) (A:Option Addr) (l:List Int) (w:World) (h:aV w b A c l i) (H:i<l.length) (hl:l.length≤17592186043904) (L:U64 l) (hm:1≤m) (R:m≤1048576):
  Calls Tryz.prog 178 #[.pointer (some ⟨b,0,none⟩),FQ m] w fun e B=>e=.returned (.tuple #[FQ (nth l i%m),.bool true])∧aV B b A c l (i+1)∧Keep (fun j=>j=b) w B:=by
 have u:=lN b c i A l w h (by omega) hl
 obtain ⟨o,v,N⟩:=h
 obtain ⟨bA,oA,rfl,p⟩:=v.num H
 obtain ⟨x,O⟩:∃x,nth l i=x:=⟨_,rfl⟩
 have D:=L i H
 rw [O] at p D ⊢
 obtain ⟨n,hn⟩:∃n,l.length=n:=⟨_,rfl⟩
 obtain ⟨T,Y,I,Hn⟩:=af o v N hn
 rw [hn] at o H hl u
 obtain ⟨⟨x0,x1⟩,xf⟩:=bx2 o
 have hb:=EL o
 have C:=aa u;clear o v N hn O u L
 have Q:(((n-i:Nat):Int)==0)=false:=by rw [beq_eq_false_iff_ne];omega
 have a0:¬((m:Int)<1):=by omega
 have V:(i:Int)<n:=by omega
 have hw:wrap64 (x%(m:Int))=x%(m:Int):=by
  have o:=Int.emod_nonneg x (show (m:Int)≠0 by omega)
  have v:=Int.emod_lt_of_pos x (show (0:Int)<(m:Int) by omega)
  generalize x%(m:Int)=y at o v ⊢
  unfold wrap64;omega
 have U:=aa hw;clear hw
 go_enter Tryz.func178,Tryz.ntmps178
 go_wp2_with fail
 refine C.out.mono ?_
 rintro e B ⟨rfl,d,rfl⟩
 go_wp2_with fail
 go_quiet (fail)
 go_wp2_with fail
 go_ret2
 have J:Keep (fun j=>j=b) w ((w.drewN (d+nq)).setCell ⟨b,1,none⟩ (FQ ((i:Int)+1))):=Keep.setCell (S:=fun j=>j=b) ((Keep.refl _ w).drewN _) ⟨b,1,none⟩ (.inr rfl) _
 refine ⟨by rw [U.out];rfl,⟨?_,J.rd Y.out (fun a Z=>I.out a Z),I.out⟩,J⟩
 have:=FN (w.drewN (d+nq)) b 1 _ _ (FQ ((i:Int)+1)) T.out
 simpa using this
end Go.Proofs.YtgmajkppbhiopaaGreat
namespace Go.Proofs.YtgmajkppbhiopaaGreat
open Go.RowKit Go.ChangeShapes Go.WideShapes Go.ChangeAt
theorem fJ:gD Tryz.prog 3 1 (DM .i64):=pH Tryz.underlying3 (by kernel_rfl)
theorem jV:gD Tryz.prog 26 1 (vK .i64):=jU Tryz.underlying26 Tryz.underlying2 (by kernel_rfl) (by kernel_rfl) (by kernel_rfl)
theorem na:gD Tryz.prog 22 1 (vK .i64):=jU Tryz.underlying22 Tryz.underlying3 (by kernel_rfl) (by kernel_rfl) (by kernel_rfl)
theorem qh {l:List Int} (h:∀z∈l,(Lit.int .i64 z).wf=true):W64 l:=fun k hk=>by
 have:=h _ (vO hk)
 simpa [Lit.wf,IntKind.min,IntKind.max,IntKind.signed,IntKind.bits] using this
structure vo (w:World) (A:Option Addr) (l:List Int) (c:Nat):Prop where
 hc:l.length≤c
 hm:c≤9223372036854775807
 hl:l.length≤17592186043904
 hr:Rd w A (ar .i64 l)
 hw:W64 l
end Go.Proofs.YtgmajkppbhiopaaGreat
namespace Go.Proofs.YtgmajkppbhiopaaGreat
open Go.RowKit
theorem BF:cH Tryz.prog 25 91 (.agg #[FR,FR]) 2 48:=⟨Tryz.underlying25,info_parts (by kernel_rfl),rfl,by decide⟩
abbrev Ex:=List Int×List Int
structure bY (w:World) (A:Option Addr) (l:List Int) (c:Nat):Prop where
 hc:l.length≤c
 hl:l.length≤17592186043904
 hr:Rd w A (ar .i64 l)
 hw:W64 l
theorem bY.below {w i:World} {A:Option Addr} {l:List Int} {c:Nat} (h:bY w A l c) (hb:Below w.heap.size w i):bY i A l c:=⟨h.hc,h.hl,h.hr.below hb,h.hw⟩
theorem vo.rd {w:World} {A:Option Addr} {l:List Int} {c:Nat} (h:vo w A l c):bY w A l c:=⟨h.hc,h.hl,h.hr,h.hw⟩
def rEx:dO Ex:=fun w h e=>∃A c B d,h=[.slice A e.1.length c,.slice B e.2.length d]∧bY w A e.1 c∧bY w B e.2 d
theorem dH:DE rEx:=fun hb ⟨A,c,B,d,h,i,o⟩=>⟨A,c,B,d,h,i.below hb,o.below hb⟩
def dd (w:World) (base:Nat) (h:List Value) (e:Ex):Prop:=∃u v,h=[u,v]∧w.ownsRow base 2 1 u e.1.length (ar .i64 e.1)∧w.ownsRow base 2 1 v e.2.length (ar .i64 e.2)∧
 e.1.length≤17592186043904∧e.2.length≤17592186043904∧W64 e.1∧W64 e.2
theorem dd.rd {w:World} {base:Nat} {o:List Value} {e:Ex} (h:dd w base o e):rEx w o e:=by
 obtain ⟨u,v,rfl,x,i,I,D,H,C⟩:=h
 obtain ⟨A,c,rfl,hc⟩:=av x
 obtain ⟨B,d,rfl,y⟩:=av i
 exact ⟨A,c,B,d,rfl,⟨hc,I,Rd.own x,H⟩,⟨y,D,Rd.own i,C⟩⟩
theorem dd.below {w i:World} {base:Nat} {o:List Value} {e:Ex} (h:dd w base o e) (hb:Below w.heap.size w i):dd i base o e:=by
 obtain ⟨u,v,rfl,y,x,A⟩:=h
 exact ⟨u,v,rfl,aq y hb,aq x hb,A⟩
theorem dd.base {w:World} {base base':Nat} {i:List Value} {e:Ex} (h:dd w base i e) (hb:base'≤base):dd w base' i e:=by
 obtain ⟨u,v,rfl,x,o,y⟩:=h
 exact ⟨u,v,rfl,aA x hb,aA o hb,y⟩
theorem iN {W y:World} {i e h size n m:Nat} {v u:Value} {xs o:List Value} {base base':Nat} (x:W.ownsRow base' i h u m o) (A:W.ownsRow base e size v n xs) (C:W.grownBy y v.ownBlock) (B:e≠i):y.ownsRow base' i h u m o:=by
 refine x.kept C ?_
 cases hub:u.ownBlock with
 | none=>exact .inl rfl
 | some k=>exact .inr fun D=>lh A x B k D.symm hub
theorem dd.pushed {W B:World} {e size n:Nat} {v:Value} {xs:List Value} {base base':Nat} {o:List Value} {x:Ex} (h:dd W base' o x) (i:W.ownsRow base e size v n xs) (A:W.grownBy B v.ownBlock) (y:e≠2):dd B base' o x:=by
 obtain ⟨u,I,rfl,C,D,H⟩:=h
 exact ⟨u,I,rfl,iN C i A y,iN D i A y,H⟩
theorem np (A:Option Addr) (zs:List Int) (c:Nat) (w:World) (C:Rd w A (ar .i64 zs)) (hl:zs.length≤17592186043904):
  Calls Tryz.prog 151 #[.slice A zs.length c] w fun e B=>∃v,e=.returned v∧B.ownsRow w.heap.size 2 1 v zs.length (ar .i64 zs)∧Below w.heap.size w B:=by
 have q:=fun (w:World)=>Lib.run_eql_slice_nil (P:=Tryz.prog) w 26 2 A zs.length c 0 0 Tryz.underlying26
 cases A with
 | none=>
  have D:zs=[]:=by
   cases zs with
   | nil=>rfl
   | cons z l=>obtain ⟨b,o,h,_⟩:=C 0 _ rfl;cases h
  subst D
  clear q
  have q:=fun (w:World)=>Lib.run_eql_slice_nil (P:=Tryz.prog) w 26 2 none 0 c 0 0 Tryz.underlying26
  simp only [Option.isNone_none] at q
  rw [List.length_nil]
  go_enter Tryz.func151,Tryz.ntmps151
  go_wp2
  go_ret
  exact ⟨_,rfl,EZ _ _ _ _,EP _ _⟩
 | some a=>
  go_enter Tryz.func151,Tryz.ntmps151
  go_wp2_with (at_builtin;refine dE Dh _ rfl (.tmp 5) (.tmp 6) rfl w.heap.size _ 0 [] rfl (fP w 2 1) _ zs.length c (ar .i64 zs) rfl (C.alloc _) (by rw [aK];omega) (bj _ _) (by omega) (by unfold maxLen;omega) (by simp) ?_)
  intro J I H i hb _ _
  have x:=((EP _ w).alloc (EM _) (.cells #[] 2)).trans hb
  obtain ⟨u,y⟩:=ab i x;clear i hb x
  go_wp2
  go_ret
  exact ⟨_,rfl,u.out,y.out⟩
theorem uY (cs:List Value) (x:Ex) (w:World) (h:rEx w cs x):
  Calls Tryz.prog 130 #[.agg cs.toArray] w fun e D=>∃us:List Value,e=.returned (.agg us.toArray)∧dd D w.heap.size us x∧Below w.heap.size w D:=by
 obtain ⟨A,c,B,d,rfl,h1,h2⟩:=h
 obtain ⟨x,y⟩:=x
 dsimp only at h1 h2 ⊢
 have T:=fun D (k:Below w.heap.size w D)=>np A x c D (h1.hr.below k) h1.hl
 have Y:=fun D (k:Below w.heap.size w D)=>np B y d D (h2.hr.below k) h2.hl
 obtain ⟨H1,H2⟩:=ab h1 h2
 obtain ⟨n,hn⟩:∃n,x.length=n:=⟨_,rfl⟩
 obtain ⟨m,hm⟩:∃m,y.length=m:=⟨_,rfl⟩
 rw [hn] at T ⊢
 rw [hm] at Y ⊢
 obtain ⟨b4,b7,Hn,Hm⟩:=af T Y hn hm;clear T Y hn hm h1 h2
 go_enter Tryz.func130,Tryz.ntmps130
 go_wp2_with fail
 have hz:=EN (w.alloc (.cells #[.slice A n c,.slice B m d] 91)) (.cells #[FR,FR] 91)
 rw [show (w.alloc (.cells #[.slice A n c,.slice B m d] 91)).heap.size=w.heap.size+1 by simp] at hz
 have hy:=(E0 (w.alloc (.cells #[.slice A n c,.slice B m d] 91)) (.cells #[FR,FR] 91) w.heap.size (by simp)).trans (EN w _)
 have Z:Below w.heap.size w ((w.alloc (.cells #[.slice A n c,.slice B m d] 91)).alloc (.cells #[FR,FR] 91)):=((EP _ w).alloc (EM _) _).alloc (by simp) _
 have U:((w.alloc (.cells #[.slice A n c,.slice B m d] 91)).alloc (.cells #[FR,FR] 91)).heap.size=w.heap.size+2:=by simp
 obtain ⟨W0,a2⟩:∃W0,W0=(w.alloc (.cells #[.slice A n c,.slice B m d] 91)).alloc (.cells #[FR,FR] 91):=⟨_,rfl⟩
 rw [←a2] at hz hy Z U ⊢
 obtain ⟨⟨y0,y1⟩,yf⟩:=bx2 hy
 obtain ⟨Hz,a0,L⟩:=ae hz Z U;clear hz hy Z U a2
 have i:(fun D:World=>D.cell? ⟨w.heap.size,0,none⟩=some (.slice A n c)∧D.cell? ⟨w.heap.size,1,none⟩=some (.slice B m d)) W0.drew:=⟨y0,y1⟩
 refine XA.g 7 (fun D:World=>D.cell? ⟨w.heap.size,0,none⟩=some (.slice A n c)∧D.cell? ⟨w.heap.size,1,none⟩=some (.slice B m d)) ?_
 refine XA.t ?_ [0,1,3,4] i ?_
 refine XA.o 2 (fun K hK=>?_)
 go_simp
 refine (b4.out _ a0.out.drew).mono ?_
 rintro e w1 ⟨u,rfl,I,H⟩
 obtain ⟨A1,c1,rfl,_⟩:=av I
 have a4:=EU (am H i.1) (am H i.2)
 have a3:=(H.block (w.heap.size+1) (by simp [L.out])).trans Hz.out
 have a1:=a0.out.drew.trans (H.mono (by simp [L.out]))
 have b6:=H.size
 simp only [FC,L.out] at b6
 have I:=aA (base':=w.heap.size) I (by simp [L.out])
 obtain ⟨b5,b2,O⟩:=ae I a3 a1;clear I a3 a1 H i
 dsimp only
 refine hK.out _ _ a4 (fun i=>?_)
 clear hK K a4
 refine XA.o 5 (fun K hK=>?_)
 go_simp
 refine (b7.out _ O.out).mono ?_
 rintro e w2 ⟨v,rfl,J,C⟩
 obtain ⟨A2,c2,rfl,_⟩:=av J
 have a5:=EU (am C i.1) (am C i.2)
 have N:=(C.block (w.heap.size+1) (by omega)).trans b2.out
 have a6:=O.out.trans (C.mono O.out.size)
 have bb:=C.size
 have J:=aA (base':=w.heap.size) J O.out.size
 have R:=aq b5.out C
 obtain ⟨⟨z0,z1⟩,zf⟩:=bx2 N
 have l2:w.heap.size+1<w2.heap.size:=EL N
 obtain ⟨a8,Q,V,b8⟩:=af J R N a6;clear J R N a6 C i
 dsimp only
 refine hK.out _ _ a5 (fun i=>?_)
 clear hK K a5
 refine XA.t ?_ [6] i ?_
 refine XA.e ?_
 clear i
 simp only [Fm,Fo]
 go_wp2_with fail
 have e1:=FN w2 (w.heap.size+1) 0 _ _ (.slice A1 n c1) V.out
 have e2:=FN _ (w.heap.size+1) 1 _ _ (.slice A2 m c2) e1
 have e3:((w2.setCell ⟨w.heap.size+1,0,none⟩ (.slice A1 n c1)).setCell ⟨w.heap.size+1,1,none⟩ (.slice A2 m c2)).heap[w.heap.size+1]?=some (.cells #[(.slice A1 n c1),(.slice A2 m c2)] 91 (0,0)):=by simpa using e2
 have hk:Keep (fun j=>j=w.heap.size+1) w2 ((w2.setCell ⟨w.heap.size+1,0,none⟩ (.slice A1 n c1)).setCell ⟨w.heap.size+1,1,none⟩ (.slice A2 m c2)):=Keep.setCell (S:=fun j=>j=w.heap.size+1) (Keep.setCell (S:=fun j=>j=w.heap.size+1) (Keep.refl _ _) ⟨w.heap.size+1,0,none⟩ (.inr rfl) _) ⟨w.heap.size+1,1,none⟩ (.inr rfl) _
 obtain ⟨W9,b3⟩:∃W9,W9=(w2.setCell ⟨w.heap.size+1,0,none⟩ (.slice A1 n c1)).setCell ⟨w.heap.size+1,1,none⟩ (.slice A2 m c2):=⟨_,rfl⟩
 rw [←b3] at e3 hk ⊢
 obtain ⟨⟨x0,x1⟩,xf⟩:=bx2 e3
 have b9:=hk.own Q.out (fun j hj e=>an V.out (by decide) Q.out (by rw [hj,e]))
 have b1:=hk.own a8.out (fun j hj e=>an V.out (by decide) a8.out (by rw [hj,e]))
 have b0:Below w.heap.size w W9:=b8.out.trans (hk.toBelow (by omega) (fun j hj=>by omega))
 have a7:=H1.out;have ad:=H2.out
 exact E7 (v:=.agg #[(.slice A1 n c1),(.slice A2 m c2)]) (by simp [results,Tryz.results130,go_sem,x0,x1]) rfl ⟨[(.slice A1 n c1),(.slice A2 m c2)],rfl,⟨_,_,rfl,by rw [Hn.out];exact b9,by rw [Hm.out];exact b1,a7.hl,ad.hl,a7.hw,ad.hw⟩,b0⟩
theorem iy {w:World} {A:Option Addr} {l:List Ex} (h:cZ rEx 2 w A l) {j:Nat} {x:Ex} (C:l[j]?=some x):
  ∃b o A1 c1 i c2,A=some ⟨b,o,none⟩∧b<w.heap.size∧w.cell? ⟨b,o+j*2,none⟩=some (.slice A1 x.1.length c1)∧w.cell? ⟨b,o+j*2+1,none⟩=some (.slice i x.2.length c2)∧bY w A1 x.1 c1∧bY w i x.2 c2:=by
 obtain ⟨b,o,D,rfl,hb,hl,⟨A1,c1,i,c2,rfl,u,v⟩,y,B⟩:=h.get (by decide) C
 exact ⟨b,o,A1,c1,i,c2,rfl,hb,y,B 1 (by decide),u,v⟩
def fD (w wr:World) (l:List Ex) (k:Nat) (v:Value):Prop:=∃rows,wr.ownsRow w.heap.size 91 2 v k (List.flatten rows)∧rows.length=k∧(∀r∈rows,r.length=2)∧
 (∀j x,j<k→l[j]?=some x→dd wr w.heap.size (bK rows j) x)∧Below w.heap.size w wr
theorem fD.zero (w:World) (l:List Ex):fD w w l 0 (FR):=⟨[],EZ _ _ _ _,rfl,by simp,fun j x h=>by omega,EP _ _⟩
theorem fD.form {w wr:World} {l:List Ex} {k:Nat} {v:Value} (h:fD w wr l k v):∃A c,v=.slice A k c:=by
 obtain ⟨rows,i,_⟩:=h
 obtain ⟨A,c,e,_⟩:=av i
 exact ⟨A,c,e⟩
theorem fD.b {w wr:World} {l:List Ex} {k:Nat} {v:Value} (h:fD w wr l k v):Below w.heap.size w wr:=by
 obtain ⟨rows,_,_,_,_,h⟩:=h
 exact h
theorem fD.below {w wr i:World} {l:List Ex} {k:Nat} {v:Value} (h:fD w wr l k v) (hb:Below wr.heap.size wr i):fD w i l k v:=by
 obtain ⟨rows,B,u,C,A,o⟩:=h
 exact ⟨rows,aq B hb,u,C,fun j x y D=>(A j x y D).below hb,o.trans (hb.mono o.size)⟩
theorem fD.done {w wr:World} {l:List Ex} {A:Option Addr} {n c:Nat} (h:fD w wr l n (.slice A n c)) (hn:l.length=n):cZ rEx 2 wr A l:=by
 obtain ⟨rows,u,y,v,o,B⟩:=h
 exact ⟨rows,Rd.own u,by omega,v,fun j x i=>(o j x (by have:=(Fq.1 i).1;omega) i).rd⟩
theorem fD.doneT {w wr:World} {l:List Ex} {A:Option Addr} {n c:Nat} (h:fD w wr l n (.slice A n c)) (hn:l.length=n):cZ rEx 2 (dX w.heap.size wr) A l:=by
 obtain ⟨rows,D,I,H,C,J⟩:=h
 exact ⟨rows,Rd.own (dC D (EM _)),by omega,H,fun j x i=>by
  obtain ⟨u,v,e,o,y,B⟩:=C j x (by have:=(Fq.1 i).1;omega) i
  exact dd.rd ⟨u,v,e,dC o (EM _),dC y (EM _),B⟩⟩
theorem fD.push {w i B:World} {l:List Ex} {k:Nat} {v C:Value} {u o:Value} {x:Ex} {rows:List (List Value)} (H:i.ownsRow w.heap.size 91 2 v k (List.flatten rows)) (D:rows.length=k) (Q:∀r∈rows,r.length=2) (L:∀j x,j<k→l[j]?=some x→dd i w.heap.size (bK rows j) x) (N:Below w.heap.size w i)
  (R:l[k]?=some x) (O:dd i w.heap.size [u,o] x) (J:B.ownsRow w.heap.size 91 2 C (k+1) (List.flatten rows++[u,o])) (hb:Below w.heap.size i B) (I:i.grownBy B v.ownBlock):fD w B l (k+1) C:=by
 refine ⟨rows++[[u,o]],by rw [FA,List.flatten_cons,List.flatten_nil,List.append_nil];exact J,by simp [D],?_,?_,N.trans hb⟩
 ·intro r hr
  rcases FE.1 hr with hr | hr
  ·exact Q r hr
  ·rw [List.mem_singleton.1 hr];rfl
 ·intro j y T A
  rcases Fa j k with h | h
  ·have e:bK (rows++[[u,o]]) j=bK rows j:=by simp [bK,Ft (show j<rows.length by omega)]
   rw [e];exact (L j y h A).pushed H I (by decide)
  ·obtain rfl:j=k:=by omega
   rw [R] at A
   injection A with A
   subst A
   have e:bK (rows++[[u,o]]) j=[u,o]:=by rw [←D];simp [bK]
   rw [e];exact O.pushed H I (by decide)
def qd (w:World) (x:Ex) (e:Ending) (i:World):Prop:=∃A1 c1 h c2,e=.returned (.tuple #[.agg #[.slice A1 x.1.length c1,.slice h x.2.length c2],.bool true])∧dd i w.heap.size [.slice A1 x.1.length c1,.slice h x.2.length c2] x∧Below w.heap.size w i
theorem yC (A:Option Addr) (c:Nat) (B:Option Addr) (d:Nat) (x:Ex) (w:World) (D:bY w A x.1 c) (C:bY w B x.2 d):
  Calls Tryz.prog 130 #[.agg #[.slice A x.1.length c,.slice B x.2.length d]] w fun e i=>∃A1 c1 h c2,e=.returned (.agg #[.slice A1 x.1.length c1,.slice h x.2.length c2])∧dd i w.heap.size [.slice A1 x.1.length c1,.slice h x.2.length c2] x∧Below w.heap.size w i:=by
 refine (uY [.slice A x.1.length c,.slice B x.2.length d] x w ⟨A,c,B,d,rfl,D,C⟩).mono ?_
 rintro e i ⟨I,rfl,⟨u,v,rfl,y,o,H⟩,hb⟩
 obtain ⟨A1,c1,rfl,_⟩:=av y
 obtain ⟨h,c2,rfl,_⟩:=av o
 exact ⟨A1,c1,h,c2,rfl,⟨_,_,rfl,y,o,H⟩,hb⟩
theorem pU (n m:Nat) (A:Option Addr) (c:Nat) (B:Option Addr) (d:Nat) (x:Ex) (w:World) (hn:x.1.length=n) (hm:x.2.length=m) (u:bY w A x.1 c) (o:bY w B x.2 d):
  Calls Tryz.prog 130 #[.agg #[.slice A n c,.slice B m d]] w fun e i=>∃A1 c1 h c2,e=.returned (.agg #[.slice A1 n c1,.slice h m c2])∧dd i w.heap.size [.slice A1 n c1,.slice h m c2] x∧Below w.heap.size w i:=by
 subst hn;subst hm;exact yC A c B d x w u o
theorem va (A:Option Addr) (c:Nat) (B:Option Addr) (d:Nat) (x:Ex) (w:World) (Z:bY w A x.1 c) (Y:bY w B x.2 d):
  Calls Tryz.prog 129 #[.agg #[.slice A x.1.length c,.slice B x.2.length d]] w (qd w x):=by
 have h:=fun n m (hn:x.1.length=n) (hm:x.2.length=m) V (k:Below w.heap.size w V)=>pU n m A c B d x V hn hm (Z.below k) (Y.below k)
 unfold qd
 obtain ⟨n,hn⟩:∃n,x.1.length=n:=⟨_,rfl⟩
 obtain ⟨m,hm⟩:∃m,x.2.length=m:=⟨_,rfl⟩
 have h:=h n m hn hm
 rw [hn,hm]
 have O:=aa h;clear h hn hm Z Y
 go_enter Tryz.func129,Tryz.ntmps129
 go_wp2_with fail
 refine (O.out _ ?_).mono ?_
 ·exact ak
 rintro e o ⟨A1,c1,i,c2,rfl,ho,y⟩
 have I:o.heap[w.heap.size+1]?=some (.cells #[FR,FR] 91 (0,0)):=(y.block (w.heap.size+1) (by simp)).trans (by rw [←show (w.alloc (.cells #[.slice A n c,.slice B m d] 91)).heap.size=w.heap.size+1 by simp];exact EN (w.alloc (.cells #[.slice A n c,.slice B m d] 91)) (.cells #[FR,FR] 91))
 have C:Below w.heap.size w o:=(((EP _ w).alloc (EM _) _).alloc (by simp) _).trans (y.mono (by first | omega | (simp;done) | (simp;omega)))
 have D:=ho.base (base':=w.heap.size) (by first | omega | (simp;done) | (simp;omega))
 have lz:=EL I
 obtain ⟨⟨z0,z1⟩,zf⟩:=bx2 I
 obtain ⟨N,H,R⟩:=ae I C D;clear I C D y ho
 go_wp2_with fail
 have e1:=FN o (w.heap.size+1) 0 _ _ (.slice A1 n c1) N.out
 have e2:=FN _ (w.heap.size+1) 1 _ _ (.slice i m c2) e1
 have e3:((o.setCell ⟨w.heap.size+1,0,none⟩ (.slice A1 n c1)).setCell ⟨w.heap.size+1,1,none⟩ (.slice i m c2)).heap[w.heap.size+1]?=some (.cells #[.slice A1 n c1,.slice i m c2] 91 (0,0)):=by simpa using e2
 have hk:Keep (fun j=>j=w.heap.size+1) o ((o.setCell ⟨w.heap.size+1,0,none⟩ (.slice A1 n c1)).setCell ⟨w.heap.size+1,1,none⟩ (.slice i m c2)):=Keep.setCell (S:=fun j=>j=w.heap.size+1) (Keep.setCell (S:=fun j=>j=w.heap.size+1) (Keep.refl _ _) ⟨w.heap.size+1,0,none⟩ (.inr rfl) _) ⟨w.heap.size+1,1,none⟩ (.inr rfl) _
 obtain ⟨T,Q⟩:∃T,T=(o.setCell ⟨w.heap.size+1,0,none⟩ (.slice A1 n c1)).setCell ⟨w.heap.size+1,1,none⟩ (.slice i m c2):=⟨_,rfl⟩
 rw [←Q] at e3 hk ⊢
 obtain ⟨⟨x0,x1⟩,xf⟩:=bx2 e3
 have L:dd T w.heap.size [.slice A1 n c1,.slice i m c2] x:=by
  obtain ⟨u,v,e,U,k2,k3⟩:=R.out
  exact ⟨u,v,e,hk.own U (fun j J e=>an N.out (by decide) U (by rw [J,e])),hk.own k2 (fun j J e=>an N.out (by decide) k2 (by rw [J,e])),k3⟩
 exact E7 (v:=.tuple #[.agg #[.slice A1 n c1,.slice i m c2],.bool true]) (by simp [results,Tryz.results129,go_sem,x0,x1]) rfl ⟨A1,c1,i,c2,rfl,L,H.out.trans (hk.toBelow H.out.size (fun j J=>by omega))⟩
theorem ye (A:Option Addr) (l:List Ex) (c:Nat) (w:World) (h:cZ rEx 2 w A l) (hl:l.length≤1048576):
  Calls Tryz.prog 128 #[.slice A l.length c,.func (.func 129) #[] #[]] w fun e Z=>∃v,e=.returned (.tuple #[v,.bool true])∧fD w Z l l.length v:=by
 obtain ⟨n,hn⟩:∃n,l.length=n:=⟨_,rfl⟩
 rw [hn] at hl ⊢
 obtain ⟨H,Hn⟩:=ab h hn;clear h hn
 go_enter Tryz.func128,Tryz.ntmps128
 go_wp2_with fail
 go_loopw [6,13] (fun v i wr=>∃k:Nat,k≤n∧i=FQ k∧fD w wr l k v) (fun _ i _=>n-(intOf i).toNat)
 case atStart=>exact ⟨0,EQ _,rfl,fD.zero w l⟩
 case round=>
  obtain ⟨k,hk,rfl,B⟩:=hrel
  obtain ⟨Al,cl,rfl⟩:=B.form
  by_cases a0:k<n
  ·obtain ⟨x,hx⟩:∃x,l[k]?=some x:=⟨_,Fr (by rw [Hn.out];exact a0)⟩
   have hb:=B.b
   obtain ⟨b,o,A1,c1,A2,c2,rfl,a5,p1,p2,r1,r2⟩:=iy (H.out.below dH hb) hx
   have u:=fun Z (q:Below wr.heap.size wr Z)=>va A1 c1 A2 c2 x Z (r1.below q) (r2.below q)
   unfold qd at u
   obtain ⟨C,J⟩:∃C,x.1.length=C:=⟨_,rfl⟩
   obtain ⟨D,T⟩:∃D,x.2.length=D:=⟨_,rfl⟩
   rw [J] at p1 u;rw [T] at p2 u
   obtain ⟨a1,HM,Hx⟩:=ae u B hx;clear u B hx r1 r2 J T hb
   go_wp2_with fail
   refine (a1.out _ ?_).mono ?_
   ·exact ak
   rintro e w3 ⟨B1,d1,B2,Y,rfl,ho,U⟩
   have y:Below wr.heap.size wr w3:=((EP _ wr).alloc (EM _) _).trans (U.mono (by first | omega | (simp;done) | (simp;omega)))
   have N:=(HM.out.below y).below ((EP _ _).alloc (EM _) (.cells #[.slice B1 C d1,.slice B2 D Y] 91))
   have L:=(ho.base (base':=w.heap.size) (by have:=HM.out.b.size;first | omega | (simp;done) | (simp;omega))).below ((EP _ _).alloc (EM _) (.cells #[.slice B1 C d1,.slice B2 D Y] 91))
   obtain ⟨a3,a4⟩:=ab N L;clear N L ho U y p1 p2
   obtain ⟨rows,h1,h2,h3,h4,h5⟩:=a3.out
   obtain ⟨R1,R2,R3,R4,R5⟩:=ag h1 h2 h3 h4 h5;clear h1 h2 h3 h4 h5;have R:=aa (show (w3.alloc (.cells #[.slice B1 C d1,.slice B2 D Y] 91)).heap.size=w3.heap.size+1 by simp)
   go_wp2_with (at_builtin;refine be BF _ rfl (.tmp 25) (.tmp 27) rfl w.heap.size (.slice Al k cl) k _ rfl R1.out [.slice B1 C d1,.slice B2 D Y] (congrArg (fun b:Nat=>Value.slice (some ⟨b,0,none⟩) 1 1) R.out.symm) rfl (by simp [Value.oneCell']) (by omega) (by unfold maxLen;omega) R5.out.size ?_)
   intro g6 c6 w6 I O Q
   have V:=fD.push R1.out R2.out R3.out R4.out R5.out Hx.out a4.out I O Q
   have a2:=aa V;clear I O Q V
   go_wp2_with fail
   go_roundw
   case rel=>exact ⟨k+1,by omega,by go_num,a2.out⟩
   case measure=>simp [intOf];omega
  ·obtain rfl:n=k:=by omega
   have HM:=aa B;clear B
   go_wp2_with fail
   go_ret2
   exact ⟨_,rfl,HM.out⟩
theorem sL (A:Option Addr) (l:List Ex) (c:Nat) (w:World) (h:cZ rEx 2 w A l) (hl:l.length≤1048576):
  Calls Tryz.prog 84 #[.slice A l.length c] w fun e u=>∃o x,e=.returned (.slice o l.length x)∧cZ rEx 2 (dX w.heap.size u) o l∧Below w.heap.size w u:=by
 have hm:=ye A l c w h hl
 obtain ⟨n,hn⟩:∃n,l.length=n:=⟨_,rfl⟩
 rw [hn] at hm ⊢
 obtain ⟨B,C⟩:=ab hm hn;clear hm hn h
 go_enter Tryz.func84,Tryz.ntmps84
 go_wp2_with fail
 refine B.out.mono ?_
 rintro e D ⟨v,rfl,i⟩
 obtain ⟨o,x,rfl⟩:=i.form
 have y:=aa i;clear i
 go_wp2
 go_ret
 exact ⟨_,_,rfl,y.out.doneT C.out,y.out.b⟩
def fF (l:List Ex) (h:List Int):List Ex:=h.map fun i=>l.getD i.toNat ([],[])
theorem jw (l:List Ex) (h:List Int):(fF l h).length=h.length:=by simp [fF]
theorem rD (l:List Ex) (i:List Int) {k:Nat} (h:k<i.length):(fF l i)[k]?=some (l.getD (nth i k).toNat ([],[])):=by simp [fF,cW _ _ h,h]
theorem xD (P n c:Nat) (A:Option Addr) (i:Int) (w:World) (y:w.heap[P]?=some (.cells #[.slice A n c] 25 (0,0))) (D:i<0∨(n:Int)≤i):
  Calls Tryz.prog 246 #[FQ i,.pointer (some ⟨P,0,none⟩)] w fun e H=>e=.returned (.tuple #[.agg #[FR,FR],.bool false])∧Below w.heap.size w H:=by
 obtain ⟨N,R⟩:=bx1 y
 have J:=EL y
 clear y
 rcases Int.lt_or_le i 0 with C | C
 ·have L:i<0:=C
  clear D
  go_enter Tryz.func246,Tryz.ntmps246
  go_wp2_with fail
  have u:=EN w (.cells #[FR,FR] 91)
  obtain ⟨o,h⟩:∃o,o=w.alloc (.cells #[FR,FR] 91):=⟨_,rfl⟩
  have hb:Below w.heap.size w o:=by rw [h];exact (EP _ _).alloc (EM _) _
  rw [←h] at u ⊢
  obtain ⟨⟨x,B⟩,I⟩:=bx2 u
  exact E7 (v:=.tuple #[.agg #[FR,FR],.bool false]) (by simp [results,Tryz.results246,go_sem,x,B]) rfl ⟨rfl,hb⟩
 ·have Q:(n:Int)≤i:=by omega
  have O:¬i<0:=by omega
  clear D
  go_enter Tryz.func246,Tryz.ntmps246
  go_wp2_with fail
  have u:=EN w (.cells #[FR,FR] 91)
  obtain ⟨o,h⟩:∃o,o=w.alloc (.cells #[FR,FR] 91):=⟨_,rfl⟩
  have hb:Below w.heap.size w o:=by rw [h];exact (EP _ _).alloc (EM _) _
  rw [←h] at u ⊢
  obtain ⟨⟨x,B⟩,I⟩:=bx2 u
  exact E7 (v:=.tuple #[.agg #[FR,FR],.bool false]) (by simp [results,Tryz.results246,go_sem,x,B]) rfl ⟨rfl,hb⟩
theorem uh (P c j:Nat) (A:Option Addr) (l:List Ex) (x:Ex) (w:World) (T:w.heap[P]?=some (.cells #[.slice A l.length c] 25 (0,0))) (h:cZ rEx 2 w A l) (hx:l[j]?=some x):
  Calls Tryz.prog 246 #[FQ j,.pointer (some ⟨P,0,none⟩)] w (qd w x):=by
 have J:=(Fq.1 hx).1
 obtain ⟨b,o,A1,c1,A2,c2,rfl,a1,p1,p2,r1,r2⟩:=iy h hx
 have i:=fun n m (hn:x.1.length=n) (hm:x.2.length=m) w' (k:Below w.heap.size w w')=>pU n m A1 c1 A2 c2 x w' hn hm (r1.below k) (r2.below k)
 unfold qd
 obtain ⟨n,hn⟩:∃n,x.1.length=n:=⟨_,rfl⟩
 obtain ⟨m,hm⟩:∃m,x.2.length=m:=⟨_,rfl⟩
 have i:=i n m hn hm
 rw [hn] at p1;rw [hm] at p2
 rw [hn,hm]
 obtain ⟨N,hN⟩:∃N,l.length=N:=⟨_,rfl⟩
 rw [hN] at T J
 obtain ⟨p0,pf⟩:=bx1 T
 have a4:=EL T
 have a3:(j:Int)<N:=by omega
 have a5:¬((j:Int)<0):=by omega
 have a2:¬((N:Int)≤j):=by omega
 have Y:=aa i;clear i hn hm r1 r2 hx h hN T
 go_enter Tryz.func246,Tryz.ntmps246
 go_wp2_with fail
 refine (Y.out _ ?_).mono ?_
 ·exact ak
 rintro e H ⟨C,B,D,y,rfl,ho,I⟩
 have R:H.heap[w.heap.size]?=some (.cells #[FR,FR] 91 (0,0)):=(I.block w.heap.size (by simp)).trans (EN w _)
 have L:Below w.heap.size w H:=((EP _ w).alloc (EM _) _).trans (I.mono (by first | omega | (simp;done) | (simp;omega)))
 have O:=ho.base (base':=w.heap.size) (by first | omega | (simp;done) | (simp;omega))
 have lz:=EL R
 obtain ⟨⟨z0,z1⟩,zf⟩:=bx2 R
 obtain ⟨V,Q,a0⟩:=ae R L O;clear R L O I ho p0 pf p1 p2
 go_wp2_with fail
 have e1:=FN H w.heap.size 0 _ _ (.slice C n B) V.out
 have e2:=FN _ w.heap.size 1 _ _ (.slice D m y) e1
 have e3:((H.setCell ⟨w.heap.size,0,none⟩ (.slice C n B)).setCell ⟨w.heap.size,1,none⟩ (.slice D m y)).heap[w.heap.size]?=some (.cells #[.slice C n B,.slice D m y] 91 (0,0)):=by simpa using e2
 have hk:Keep (fun j=>j=w.heap.size) H ((H.setCell ⟨w.heap.size,0,none⟩ (.slice C n B)).setCell ⟨w.heap.size,1,none⟩ (.slice D m y)):=Keep.setCell (S:=fun j=>j=w.heap.size) (Keep.setCell (S:=fun j=>j=w.heap.size) (Keep.refl _ _) ⟨w.heap.size,0,none⟩ (.inr rfl) _) ⟨w.heap.size,1,none⟩ (.inr rfl) _
 obtain ⟨W9,Z⟩:∃W9,W9=(H.setCell ⟨w.heap.size,0,none⟩ (.slice C n B)).setCell ⟨w.heap.size,1,none⟩ (.slice D m y):=⟨_,rfl⟩
 rw [←Z] at e3 hk ⊢
 obtain ⟨⟨x0,x1⟩,xf⟩:=bx2 e3
 have U:dd W9 w.heap.size [.slice C n B,.slice D m y] x:=by
  obtain ⟨u,v,e,k1,k2,k3⟩:=a0.out
  exact ⟨u,v,e,hk.own k1 (fun j J e=>an V.out (by decide) k1 (by rw [J,e])),hk.own k2 (fun j J e=>an V.out (by decide) k2 (by rw [J,e])),k3⟩
 exact E7 (v:=.tuple #[.agg #[.slice C n B,.slice D m y],.bool true]) (by simp [results,Tryz.results246,go_sem,x0,x1]) rfl ⟨C,B,D,y,rfl,U,Q.out.trans (hk.toBelow Q.out.size (fun j J=>by omega))⟩
end Go.Proofs.YtgmajkppbhiopaaGreat
