/- No condition. -/
import Derived.Test.YthamijnggdjaoaaGreatQ02
import Derived.RegionTactic
set_option linter.unusedSimpArgs false
set_option linter.unusedVariables false
set_option maxRecDepth 100000
set_option maxHeartbeats 4000000
namespace Go.Proofs.YthamijnggdjaoaaGreat
open Go.RowKit
open Tryz
def nH (v d:N3):N3:=bH d.length fun i=>if 0<nth v i then nth d i else 0
theorem rL (v d:N3):(nH v d).length=d.length:=aG _ _
theorem rM {v d:N3} (h:W64 d):W64 (nH v d):=cY fun k a=>by
 split
 ·exact h k a
 ·omega
theorem ja (ms:N3) (r c:Nat) (ys:N3) (q:Int):(gR ms r c ys q).length=c:=by
 unfold gR
 have:∀(l:List Nat) (e:N3),e.length=c->(l.foldl (gS ms c ys q) e).length=c:=by
  intro l
  induction l with
  | nil=>intro e h;exact h
  | cons a l ih=>intro e h;exact ih _ (by rw [lB];exact h)
 exact this _ _ (by simp)
theorem rV (ms:N3) (r c:Nat) (ys:N3) (q:Int):W64 (gR ms r c ys q):=by
 unfold gR
 have:∀(l:List Nat) (e:N3),W64 e->W64 (l.foldl (gS ms c ys q) e):=by
  intro l
  induction l with
  | nil=>intro e h;exact h
  | cons a l ih=>intro e h;exact ih _ (nQ _ _)
 exact this _ _ (fun k g=>by rw [cJ _ _ g];simp)
def cQ (sz ps:N3) (q:Int) (x y:N3):Nat->N3
 | 0=>eV (bi sz ps q x (sz.length-1)) y
 | j+1=>nH (bi sz ps q x (sz.length-2-j)) (gR (wL sz ps (sz.length-2-j)) (szN sz (sz.length-1-j)) (szN sz (sz.length-2-j)) (cQ sz ps q x y j) q)
def iI (sz ps:N3) (q:Int) (x y:N3):Nat->N3
 | 0=>[]
 | j+1=>fG (szN sz (sz.length-1-j)) (szN sz (sz.length-2-j)) (cQ sz ps q x y j) (bi sz ps q x (sz.length-2-j)) q++(cQ sz ps q x y j++iI sz ps q x y j)
def ea (sz ps:N3) (q:Int) (x y:N3):N3:=iI sz ps q x y (sz.length-1)
theorem oS (r c:Nat) (ys xs:N3) (q:Int):(fG r c ys xs q).length=r*c:=aG _ _
theorem eD {sz ps:N3} {q:Int} {x y:N3} (a:x.length=szN sz 0) (j:Nat):(cQ sz ps q x y j).length=szN sz (sz.length-1-j):=by
 cases j with
 | zero=>show (eV _ _).length=_;rw [lh,cw a];rfl
 | succ j=>show (nH _ _).length=_;rw [rL,ja,show sz.length-1-(j+1)=sz.length-2-j by omega]
theorem iL (sz ps:N3) (q:Int) (x y:N3) (j:Nat):W64 (cQ sz ps q x y j):=by
 cases j with
 | zero=>exact li _ _
 | succ j=>exact rM (rV _ _ _ _ _)
theorem wR {sz ps:N3} {k r:Nat} (h:r<szN sz (k+1)):nth (bL sz ps k) r=nth ps (bI sz k+r):=aI _ h
theorem tF {sz ps:N3} {k r c:Nat} (hr:r<szN sz (k+1)) (hc:c<szN sz k):nth (wL sz ps k) (r*szN sz k+c)=nth ps (aF sz k+r*szN sz k+c):=by
 unfold wL;rw [aI _ (by have:=yX (szN sz k) (show r+1<=szN sz (k+1) by omega);rw [yP] at this;omega),yQ]
theorem ve {sz ps:N3} {q:Int} {k r:Nat} {v:N3} (wp:W64 ps) (hr:r<szN sz (k+1)):∀c,c<=szN sz k->jp sz ps q k r v c=wrap64 (ku (fW (wL sz ps k) (szN sz k) r) v q c+nth (bL sz ps k) r):=by
 intro c
 induction c with
 | zero=>
  intro _;have h:=wp.nth (bI sz k+r);rw [jp,ku,wR hr,Int.zero_add,gh h.1 h.2]
 | succ c ih=>
  intro hc;rw [jp,ku,ih am,show nth (fW (wL sz ps k) (szN sz k) r) c=nth (wL sz ps k) (r*szN sz k+c) from aI _ am,tF hr am,jB,jB]
  congr 1
  omega
theorem vd {sz ps:N3} {q:Int} {k r:Nat} {v:N3} (wp:W64 ps) (hr:r<szN sz (k+1)) (a:v.length=szN sz k):jp sz ps q k r v v.length=nth (zL sz ps q k v) r:=by
 rw [a,ve wp hr _ (x4 _)];unfold zL eK;rw [aI _ (by rw [nv];exact hr)];unfold rD;rw [aI _ hr];unfold ke;rw [dU]
theorem sx {sz ps:N3} {q:Int} {x:N3} {k r:Nat} (wp:W64 ps) (a:x.length=szN sz 0) (hr:r<szN sz (k+1)):
  nth (bi sz ps q x (k+1)) r=if k+1<sz.length-1 then (if 0<jp sz ps q k r (bi sz ps q x k) (bi sz ps q x k).length then jp sz ps q k r (bi sz ps q x k) (bi sz ps q x k).length else 0) else jp sz ps q k r (bi sz ps q x k) (bi sz ps q x k).length:=by
 rw [vd wp hr (cw a k)];rw [bi]
 split
 ·unfold kL;rw [aI _ (by rw [lH];exact hr)]
  split
  ·omega
  ·omega
 ·rfl
def kc (sz ps:N3) (q:Int) (k c:Nat) (e:N3):Nat->Int
 | 0=>0
 | r+1=>wrap64 (kc sz ps q k c e r+cP (nth ps (aF sz k+r*szN sz k+c)) (nth e r) q)
theorem fx {α:Type} (f:α->Nat->α) (a:α) (n:Nat):(List.range (n+1)).foldl f a=f ((List.range n).foldl f a) n:=by rw [yO,List.foldl_append];rfl
theorem xE {ms:N3} {c:Nat} {ys:N3} {q:Int} (r:Nat):((List.range r).foldl (gS ms c ys q) (List.replicate c 0)).length=c:=by
 induction r with
 | zero=>simp
 | succ r ih=>rw [fx,lB,ih]
theorem uq {sz ps:N3} {q:Int} {k c:Nat} {e:N3} (hc:c<szN sz k):∀r,r<=szN sz (k+1)->kc sz ps q k c e r=nth ((List.range r).foldl (gS (wL sz ps k) (szN sz k) e q) (List.replicate (szN sz k) 0)) c:=by
 intro r
 induction r with
 | zero=>
  intro _;rw [kc,List.range_zero,List.foldl_nil,cJ _ _ (by simpa using hc)];simp
 | succ r ih=>
  intro hr;rw [kc,ih am,fx];unfold gS eK;rw [aI _ (by have:=xE (ms:=wL sz ps k) (c:=szN sz k) (ys:=e) (q:=q) r;unfold gS eK at this;omega)]
  congr 2
  unfold iS;rw [aI _ (by rw [dU];exact hc),show nth (fW (wL sz ps k) (szN sz k) r) c=nth (wL sz ps k) (r*szN sz k+c) from aI _ hc,tF am hc]
theorem ur {sz ps:N3} {q:Int} {x y:N3} {j c:Nat} (a:x.length=szN sz 0) (e:j+2<=sz.length) (hc:c<szN sz (sz.length-2-j)):
  nth (cQ sz ps q x y (j+1)) c=if 0<nth (bi sz ps q x (sz.length-2-j)) c then kc sz ps q (sz.length-2-j) c (cQ sz ps q x y j) (cQ sz ps q x y j).length else 0:=by
 have hl:(cQ sz ps q x y j).length=szN sz (sz.length-2-j+1):=by rw [eD a,show sz.length-1-j=sz.length-2-j+1 by omega]
 rw [hl,uq hc _ (x4 _)];rw [cQ];unfold nH;rw [aI _ (by rw [ja];exact hc)];unfold gR;rw [show sz.length-1-j=sz.length-2-j+1 by omega]
theorem fJ:cE prog 26 2 (yY 0) 1 8:=⟨underlying26,info_parts (by kernel_rfl),rfl,by decide⟩
theorem uk:cE prog 185 26 (yZ) 1 24:=⟨underlying185,info_parts (by kernel_rfl),rfl,by decide⟩
def vU (sz ps:N3) (q:Int) (x:N3) (X:N0) (i n₀:Nat) (h:Obj) (k:Nat) (v:Value) (l w:N6):Prop:=
 ∃A c a,v=.slice A (k+1) c/\w.ownsRow n₀ 26 1 (.slice A (k+1) c) (k+1) a/\a[0]?=some (.slice X (szN sz 0) i)/\
  (∀j,1<=j->j<=k->∃g e,a[j]?=some (.slice g (szN sz j) e)/\w.ownsRow n₀ 2 1 (.slice g (szN sz j) e) (szN sz j) (au .i64 (bi sz ps q x j)))/\w.heap[n₀]?=some h/\Below n₀ l w
theorem jN (As Ap X:N0) (sz ps x:N3) (cs cp cx:Nat) (q:Int) (w:N6) (h:jq w As Ap sz ps cs) (hX:Rd w X (au .i64 x)) (hx:x.length=szN sz 0) (wx:W64 x) (be:x.length<=cx):Calls prog 109 #[.agg #[.slice As sz.length cs,.slice Ap ps.length cp,yY q],.slice X x.length cx] w fun e w'=>∃A' c' l,e=.returned (.slice A' sz.length c')/\Rd w' A' l/\dM w' l sz.length (bi sz ps q x)/\sz.length<=c'/\an w w':=by
 have hg:=h.hg;have bV:=hg.1.1;have b6:=fun k r V v cv w' (hb:an w w') (hk:k+1<sz.length) (hr:r<szN sz (k+1)) (hV:Rd w' V (au .i64 v)) (hv:v.length=szN sz k) (wv:W64 v)=>s8 As Ap sz ps cs cp k r q V v cv w' (h.below hb) hk hr hV hv wv;have a5:=fun w'=>fm As Ap sz.length ps.length cs cp q w' am;obtain ⟨b,o,rfl,bD⟩:=h.hA.num (show 0<sz.length by omega);have d3:b<w.heap.size:=aw bD;have bk:=h.hA;have c2:=h.wp;obtain ⟨m,hm⟩:∃m,ps.length=m:=⟨_,rfl⟩;obtain ⟨n,hn⟩:∃n,sz.length-1=n:=⟨_,rfl⟩;obtain ⟨L,hL⟩:∃L,sz.length=L:=⟨_,rfl⟩;obtain ⟨x0,a3⟩:∃x0,x.length=x0:=⟨_,rfl⟩;rw [hL] at hn;rw [hL,hm] at b6 a5;rw [hn] at a5;rw [hL] at bV ⊢;rw [hm,a3];rw [a3] at be;have bA:L=n+1:=am;obtain ⟨d2,bc,HG,ct,WP,HX,Hx,WX⟩:=aj b6 a5 hg bk c2 hX hx wx;obtain ⟨HL,c4,b4,Hn⟩:=af hL a3 bA hn;clear b6 a5 hg bk c2 hX hx wx hL a3 h bD hm bA hn;go_enter func109,ntmps109;go_wp2_with fail
 go_loopw [5,6] (fun v i wr=>∃k:Nat,k<=n/\i=yY k/\vU sz ps q x X cx w.heap.size (.cells #[.slice (some (ao b o)) L cs,.slice Ap m cp,yY q] 150 (0,0)) k v w wr) (fun _ i _=>n-(intOf i).toNat)
 case atStart=>
  refine ⟨0,yb _,rfl,some (ao (w.heap.size+1) 0),1,[.slice X x0 cx],rfl,?_,?_,fun j h1 h2=>am,?_,?_⟩
  ·have:=kR (w.alloc (.cells #[.slice (some (ao b o)) L cs,.slice Ap m cp,yY q] 150)) 26 (.slice X x0 cx) w.heap.size (by simp);simpa using this
  ·rw [<-Hx.o,c4.o];rfl
  ·exact (yj _ _ _ (by simp)).trans (x6 w _)
  ·exact ak
 case round=>
  obtain ⟨wq,rfl⟩:∃wq:N6,wq=wr:=⟨_,rfl⟩;obtain ⟨k,hk,rfl,Ao,co,l,rfl,ho,c9,hv,y,hW⟩:=hrel;obtain ⟨⟨y0,y1,y2⟩,yf⟩:=bx3 y;have P:=xZ y;have hz:=hW.size;obtain ⟨Ho,b9,Hv,bw,HW⟩:=ag ho c9 hv y hW;clear ho c9 hv y hW;by_cases ds:k<n
  ·have hR:=HG.o.1;have c1:k+1<sz.length:=by have:=b4.o;have:=HL.o;omega
   have z1:=hR.at c1;have dr:=hR.1.2;have p1:=(ct.o.num c1);obtain ⟨_,_,e',p1⟩:=p1;injection e' with e';injection e' with e1 e2 _;subst e1;subst e2
   have b5:=(HW.o.cell (p:=⟨b,o+(k+1),none⟩) d3).trans p1;rw [z1.2.2] at b5;obtain ⟨go,dp,bO,e4,_⟩:=Ho.o.form am;simp only [yM] at bO;obtain ⟨rfl,cr,rfl⟩:=bO;clear cr
   have c8:∃Ak ck,l[k]?=some (.slice Ak (szN sz k) ck)/\Rd wq Ak (au .i64 (bi sz ps q x k)):=by
    rcases Nat.eq_zero_or_pos k with rfl | S
    ·exact ⟨X,cx,b9.o,HX.o.below HW.o⟩
    ·obtain ⟨Aj,cj,h1,h2⟩:=Hv.o k S (x4 _);exact ⟨Aj,cj,h1,Rd.own h2⟩
   obtain ⟨Ak,ck,bF,bg⟩:=c8;obtain ⟨_,_,ek,pk⟩:=(Rd.own Ho.o) k _ bF;injection ek with ek;injection ek with i1 i2 _;subst i1;subst i2
   rw [yR] at pk;have O:=cw (sz:=sz) (ps:=ps) (q:=q) Hx.o k;have da:=ir (sz:=sz) (ps:=ps) (q:=q) WX.o k;have a:=fun r (hr:r<szN sz (k+1))=>sx (sz:=sz) (ps:=ps) (q:=q) (x:=x) (k:=k) (r:=r) WP.o Hx.o hr;have bC:=HL.o;have D:=fun r (hr:r<szN sz (k+1)) w' (hb:an wq w')=>d2.o k r Ak (bi sz ps q x k) ck w' (HW.o.trans (hb.mono HW.o.size)) am hr (bg.below hb) O da;rw [O] at D a;rw [bC] at a;rw [Hn.o] at a;obtain ⟨r1,b1⟩:∃r1,szN sz (k+1)=r1:=⟨_,rfl⟩;obtain ⟨c0,b7⟩:∃c0,szN sz k=c0:=⟨_,rfl⟩;have bd:=cw (sz:=sz) (ps:=ps) (q:=q) Hx.o (k+1);rw [b1] at D a b5 z1 bd;rw [b7] at D a pk;obtain ⟨d4,ce,bs,e0,bm⟩:=ag D a b1 b7 bd;clear D a b1 b7 bF bg O p1 bd bC;have dv:(k:Int)+1<L:=by have:=b4.o;omega
   have av:IntKind.i64.wrap ((k:Int)+1)=(k:Int)+1:=yc _ am;have d6:=aa av;clear av;go_wp2_with fail;refine (bc.o wq).mono ?_;rintro e w3 ⟨rfl,M⟩;have y0:=aq M y0;have pk:=aq M pk;have bB:go<w3.heap.size:=aw pk;have cd:w.heap.size<w3.heap.size:=aw y0;have J:=aa M;clear M;go_wp2_with fail
   go_loopw [7,8] (fun v i wx=>∃r:Nat,r<=r1/\i=yY r/\wx.ownsRow w3.heap.size 2 1 v r (au .i64 ((bi sz ps q x (k+1)).take r))/\an w3 wx) (fun _ i _=>r1-(intOf i).toNat)
   ·exact ⟨0,yb _,rfl,yi _ _ _ _,ya _ _⟩
   case round=>
    obtain ⟨Q,rfl⟩:∃Q:N6,Q=wr:=⟨_,rfl⟩;obtain ⟨r,hr,rfl,a2,y⟩:=hrel;obtain ⟨Al,cl,rfl,d8⟩:=aB a2;have E:an wq Q:=J.o.trans (y.mono J.o.size);have x0:=(y.cell (p:=(ao w.heap.size 0)) cd).trans y0;have x1:=(E.cell (p:=(ao w.heap.size 1)) P).trans y1;have x2:=(E.cell (p:=(ao w.heap.size 2)) P).trans y2;have dT:=(E.cell (p:=⟨b,o+(k+1),none⟩) (show b<_ by omega)).trans b5;have b3:=(y.cell (p:=(ao go k)) bB).trans pk;have cz:w.heap.size<Q.heap.size:=aw x0;have dh:go<Q.heap.size:=aw b3;have cy:w3.heap.size<=Q.heap.size:=y.size;obtain ⟨ad,bh,A⟩:=ae a2 y E;clear a2 y E d8;have av:=d6.o;have dc:(0:Int)<=(k:Int)+1:=am;have dk:((k:Int)+1).toNat=k+1:=am;by_cases b2:r<r1
    ·have D:=d4.o r b2;have bM:=aa D;clear D;go_wp2_with fail;have cg:k<k+1:=Nat.lt_succ_self k;have c6:(k:Int)<(k:Int)+1:=am;have I:(fun w':N6=>w'.cell? (ao w.heap.size 0)=some (.slice (some (ao b o)) L cs)/\w'.cell? (ao w.heap.size 1)=some (.slice Ap m cp)/\w'.cell? (ao w.heap.size 2)=some (yY q)/\w'.cell? (ao go k)=some (.slice Ak c0 ck)) Q.drew:=⟨x0,x1,x2,b3⟩;refine HA.g (fun w':N6=>w'.cell? (ao w.heap.size 0)=some (.slice (some (ao b o)) L cs)/\w'.cell? (ao w.heap.size 1)=some (.slice Ap m cp)/\w'.cell? (ao w.heap.size 2)=some (yY q)/\w'.cell? (ao go k)=some (.slice Ak c0 ck)) ?_;refine HA.t ?_ [0,1,2,3,4,5,6] I ?_;refine HA.o 7 (fun K hK=>?_);go_simp;refine (bM.o _ A.o.drew).mono ?_;rintro e w5 ⟨rfl,C⟩;have bp:=yg (aq C x0) (yg (aq C x1) (yg (aq C x2) (aq C b3)));have g0:=aq C x0;have a7:=bh.o.trans (((ya Q.heap.size Q).drew.trans C).mono cy);have a0:=az ad.o ((ya Q.heap.size Q).drew.trans C);have d0:=C.size;simp only [yL] at d0;obtain ⟨a9,b8⟩:=ab a7 a0;clear C a7 a0 I cg c6;dsimp only;refine hK.out _ _ bp (fun I=>?_);clear hK K bp;refine HA.t ?_ [8] I ?_;refine HA.d ?_;have g1:=I.2.1;have g2:=I.2.2.1;clear I;go_wp2_with fail;refine (bc.o _).mono ?_;rintro e w6 ⟨rfl,a4⟩;have a:=ce.o r b2;have W:=a9.o.trans (a4.mono a9.o.size);have R:=az b8.o a4;have dG:=a4.size;have dm:=W.size;obtain ⟨a8,a1⟩:=ab W R;clear a4 W R g0 g1 g2 x0 x1 x2;have bl:r<(bi sz ps q x (k+1)).length:=by rw [bm.o];exact b2
     have c3:=cM _ r bl;have bG:=aa c3;clear c3 bl;by_cases B:k+1<n
     ·have cc:((k:Int)+1<n):=am;have bo:decide ((k:Int)+1<n)=true:=yS am;rw [if_pos B] at a;have Y:=aa a;clear a B;go_wp2_with fail;refine (kK _ _ _).mono ?_;rintro e w7 ⟨rfl,rfl⟩;rw [<-Y.o];go_wp2_with (at_builtin;refine aE fJ w6 rfl (.tmp 44) (.tmp 46) rfl w3.heap.size (.slice Al r cl) r _ rfl a1.o [yY (nth (bi sz ps q x (k+1)) r)] rfl rfl (by simp [Value.oneCell']) am (by unfold maxLen;omega) am ?_);intro g7 c7 w7 F H N;have G:=a8.o.trans H;obtain ⟨U,Z⟩:=ab F G;clear F H N G;go_wp2_with fail;go_roundw
      ·exact ⟨r+1,by omega,by go_num,by rw [bG.o,aT];exact U.o,Z.o⟩
      ·simp [intOf];omega
     ·have cc:¬((k:Int)+1<n):=am;have bo:decide ((k:Int)+1<n)=false:=yT am;rw [if_neg B] at a;have Y:=aa a;clear a B;go_wp2_with (at_builtin;refine aE fJ w6 rfl (.tmp 44) (.tmp 46) rfl w3.heap.size (.slice Al r cl) r _ rfl a1.o [yY (jp sz ps q k r (bi sz ps q x k) c0)] rfl rfl (by simp [Value.oneCell']) am (by unfold maxLen;omega) am ?_);rw [<-Y.o];intro g7 c7 w7 F H N;have G:=a8.o.trans H;obtain ⟨U,Z⟩:=ab F G;clear F H N G;go_wp2_with fail;go_roundw
      ·exact ⟨r+1,by omega,by go_num,by rw [bG.o,aT];exact U.o,Z.o⟩
      ·simp [intOf];omega
    ·obtain rfl:r=r1:=am;have bv:=az Ho.o A.o;have bb:=aa bv;clear bv;go_wp2_with (at_builtin;refine aE uk Q rfl (.tmp 48) (.tmp 50) rfl w.heap.size (.slice (some (ao go 0)) (k+1) co) (k+1) l rfl bb.o [.slice Al r cl] rfl rfl (by simp [Value.oneCell']) am (by unfold maxLen;omega) am ?_);intro g7 c7 w7 F H N;have O:=Ho.o.1
     have T:∀{mm:Nat} {u:Value} {ys:N5} {b0:Nat},Q.ownsRow b0 2 1 u mm ys->w7.ownsRow b0 2 1 u mm ys:=fun h=>h.kept N (by
      rename_i u _ _
      cases hu:u.ownBlock with
      | none=>exact .inl rfl
      | some i=>exact .inr fun e9=>es bb.o h (by decide) i e9.symm hu)
     have a6:=(N.block _ cz (ar ((A.o.block _ P).trans bw.o) (by decide) bb.o)).trans ((A.o.block _ P).trans bw.o);have G:=(HW.o.trans (A.o.mono HW.o.size)).trans H;obtain ⟨U,Z,d5⟩:=ae F G a6;clear F H N G a6;go_wp2_with fail;go_roundw
     case rel=>
      refine ⟨k+1,by omega,by go_num,some (ao g7 0),c7,l++[.slice Al r cl],rfl,U.o,?_,fun j h1 h2=>?_,d5.o,Z.o⟩
      ·rw [yD am];exact b9.o
      ·rcases yl j (k+1) with cA | cA
       ·obtain ⟨Aj,cj,e1,e2⟩:=Hv.o j h1 am;exact ⟨Aj,cj,by rw [yD am];exact e1,T (az e2 A.o)⟩
       ·obtain rfl:j=k+1:=am;refine ⟨Al,cl,?_,?_⟩
        ·rw [yE am,bs.o];simp [show l.length=k+1 by omega]
        ·have:=T ad.o;rw [List.take_of_length_le (by rw [bm.o];exact x4 _)] at this;rw [bs.o];exact aA this (by have:=J.o.size;omega)
     case measure=>simp [intOf];omega
  ·obtain rfl:k=n:=am;have cb:=b4.o
   have bN:dM wq l sz.length (bi sz ps q x):=by
    refine ⟨?_,fun j hj=>?_⟩
    ·have:=Ho.o.1;have:=HL.o;omega
    ·have O:=cw (sz:=sz) (ps:=ps) (q:=q) Hx.o j;rcases Nat.eq_zero_or_pos j with rfl | S
     ·refine ⟨X,cx,?_,?_,HX.o.below HW.o⟩
      ·rw [O];exact b9.o
      ·show x.length<=cx
       rw [c4.o];exact be
     ·obtain ⟨Aj,cj,h1,h2⟩:=Hv.o j S (by have:=HL.o;omega);obtain ⟨A',c',e,hc⟩:=aB h2;injection e with e1 e2 e3
      subst e1;subst e3;rw [O];exact ⟨_,_,h1,hc,Rd.own h2⟩
   have c5:L<=co:=by
    obtain ⟨A',c',e,hc⟩:=aB Ho.o;injection e with e1 e2 e3
    omega
   have bz:=Rd.own Ho.o;obtain ⟨cm,d1,d7,d9⟩:=af bz bN c5 cb;clear bz bN c5 cb;go_wp2_with fail;refine (bc.o wq).mono ?_;rintro e w3 ⟨rfl,M⟩;have J:=aa M;clear M;go_wp2_with fail;go_ret;refine ⟨Ao,co,l,by rw [d9.o];rfl,cm.o.below J.o,?_,d7.o,HW.o.trans (J.o.mono HW.o.size)⟩;have:=d1.o.below J.o
   rwa [HL.o] at this
theorem mg:cE prog 27 71 (.int .u64 0) 1 8:=⟨underlying27,info_parts (by kernel_rfl),rfl,by decide⟩
theorem nW (A:N0) (zs:N3) (c:Nat) (w:N6) (hA:Rd w A (au .u64 zs)) (hl:zs.length<=17592186043904):Calls prog 222 #[.slice A zs.length c] w fun e w'=>∃v,e=.returned v/\w'.ownsRow w.heap.size 71 1 v zs.length (au .u64 zs)/\an w w':=by
 have q:=fun (w:N6)=>Lib.run_eql_slice_nil (P:=prog) w 27 71 A zs.length c 0 0 underlying27
 cases A with
 | none=>
  have n:zs=[]:=by
   cases zs with
   | nil=>rfl
   | cons z l=>obtain ⟨b,o,h,_⟩:=hA 0 _ rfl;cases h
  subst n;clear q;have q:=fun (w:N6)=>Lib.run_eql_slice_nil (P:=prog) w 27 71 none 0 c 0 0 underlying27;simp only [Option.isNone_none] at q;rw [List.length_nil];go_enter func222,ntmps222;go_wp2;go_ret;exact ⟨_,rfl,yi _ _ _ _,ya _ _⟩
 | some a=>
  go_enter func222,ntmps222;go_wp2_with (at_builtin;refine ew mg _ rfl (.tmp 5) (.tmp 6) rfl w.heap.size _ 0 [] rfl (gE w 71 1) _ zs.length c (au .u64 zs) rfl (hA.alloc _) (by rw [aS];omega) (aV _ _) am (by unfold maxLen;omega) (by simp) ?_);intro x u p g m _ _;have j:=((ya _ w).alloc (x4 _) (.cells #[] 71)).trans m;obtain ⟨i,k⟩:=ab g j;clear g m j;go_wp2;go_ret;exact ⟨_,rfl,i.o,k.o⟩
def U64 (l:N3):Prop:=∀k,k<l.length->0<=nth l k/\nth l k<=18446744073709551615
theorem Keep.below2 {S:Nat->Prop} {w e i:N6} (h:Keep S w e) (a:Below w.heap.size e i):Keep S w i:=
 ⟨a.os.trans h.os,a.tape.trans h.tape,a.output.trans h.output,yd h.size a.size,fun k g j=>(a.block k g).trans (h.block k g j)⟩
structure aY (w:N6) (b:Nat) (A:N0) (c:Nat) (l:N3) (i:Nat):Prop where
 blk:w.heap[b]?=some (.cells #[.slice A l.length c,yY (i:Int)] 371 (0,0))
 rd:Rd w A (au .u64 l)
 ne:∀a,A=some a->a.block≠b
theorem aY.lt {w:N6} {b c i:Nat} {A:N0} {l:N3} (h:aY w b A c l i):b<w.heap.size:=xZ h.blk
theorem aY.below {w w':N6} {b c i:Nat} {A:N0} {l:N3} (h:aY w b A c l i) (a:an w w'):aY w' b A c l i:=
 ⟨(a.block b h.lt).trans h.blk,h.rd.below a,h.ne⟩
theorem aY.drewN {w:N6} {b c i:Nat} {A:N0} {l:N3} (h:aY w b A c l i) (n:Nat):aY (w.drewN n) b A c l i:=⟨h.blk,h.rd.drewN n,h.ne⟩
theorem ux (A:N0) (l:N3) (c:Nat) (w:N6) (hA:Rd w A (au .u64 l)) (hl:l.length<=17592186043904):Calls prog 188 #[.slice A l.length c] w fun e w'=>∃b i n,e=.returned ((ap b))/\aY w' b i n l 0/\(∀a,i=some a->w.heap.size<=a.block)/\w.heap.size<=b/\an w w':=by
 have hc:=nW A l c w hA hl;have D:=aa hc;clear hc hA;go_enter func188,ntmps188;go_wp2_with fail;refine D.o.mono ?_;rintro e u ⟨v,rfl,m,x⟩;obtain ⟨i,n,rfl,_⟩:=aB m;have h:=m.lt;obtain ⟨y,p,q⟩:=ae m x h;clear m x h;go_wp2;go_ret
 have j:∀a,i=some a->w.heap.size<=a.block/\a.block<u.heap.size:=fun a k=>by
  subst k;rcases y.o.2 with ⟨F,_⟩ | ⟨g,cap,E,B,_⟩
  ·cases F
  ·simp only [yM,Option.some.injEq] at B;obtain ⟨rfl,_,_⟩:=B;exact q.o g rfl
 exact ⟨_,i,n,rfl,⟨x6 u _,(Rd.own y.o).alloc _,fun a k C=>by have:=(j a k).2;omega⟩,fun a k=>(j a k).1,p.o.size,p.o.alloc p.o.size _⟩
theorem jg (b c i:Nat) (A:N0) (l:N3) (w:N6) (h:aY w b A c l i) (m:i<=l.length) (hl:l.length<=17592186043904):Calls prog 252 #[(ap b)] w fun e w'=>e=.returned (yY ((l.length-i:Nat):Int))/\∃d,w'=w.drewN d:=by
 obtain ⟨a,j,k⟩:=h;obtain ⟨n,g⟩:∃n,l.length=n:=⟨_,rfl⟩;rw [g] at a m hl ⊢;obtain ⟨⟨o,q⟩,p⟩:=bx2 a;have u:=xZ a;clear a j k g;go_enter func252,ntmps252;go_wp2_with fail
 go_quiet (fail)
 go_wp2_with fail;go_ret;exact ⟨aD am,_,rfl⟩
theorem mJ (b c i m:Nat) (A:N0) (l:N3) (w:N6) (h:aY w b A c l i) (B:i<l.length) (hl:l.length<=17592186043904) (F:U64 l) (hm:1<=m) (J:m<=1048576):Calls prog 254 #[(ap b),yY m] w fun e w'=>e=.returned (.tuple #[yY (nth l i%m),.bool true])/\aY w' b A c l (i+1)/\Keep (fun j=>j=b) w w':=by
 have k:=jg b c i A l w h am hl;obtain ⟨g,q,G⟩:=h;obtain ⟨V,Q,rfl,p⟩:=q.num B;obtain ⟨x,H⟩:∃x,nth l i=x:=⟨_,rfl⟩;have v:=F i B;rw [H] at p v ⊢;obtain ⟨n,C⟩:∃n,l.length=n:=⟨_,rfl⟩;obtain ⟨K,N,D,W⟩:=af g q G C;rw [C] at g B hl k;obtain ⟨⟨R,X⟩,T⟩:=bx2 g;have U:=xZ g;have u:=aa k;clear g q G C H k F;have I:(((n-i:Nat):Int)==0)=false:=by rw [beq_eq_false_iff_ne];omega
 have P:¬((m:Int)<1):=am;have M:(i:Int)<n:=am
 have hw:wrap64 (x%(m:Int))=x%(m:Int):=by
  have g:=Int.emod_nonneg x (show (m:Int)≠0 by omega);have q:=Int.emod_lt_of_pos x (show (0:Int)<(m:Int) by omega);generalize x%(m:Int)=y at g q ⊢;unfold wrap64;omega
 have L:=aa hw;clear hw;go_enter func254,ntmps254;go_wp2_with fail;refine u.o.mono ?_;rintro e w' ⟨rfl,d,rfl⟩;go_wp2_with fail
 go_quiet (fail)
 go_wp2_with fail;go_ret2;have E:Keep (fun j=>j=b) w ((w.drewN (d+nq)).setCell (ao b 1) (yY ((i:Int)+1))):=Keep.setCell (S:=fun j=>j=b) ((Keep.refl _ w).drewN _) (ao b 1) (.inr rfl) _;refine ⟨by rw [L.o];rfl,⟨?_,E.rd N.o (fun a O=>D.o a O),D.o⟩,E⟩;have:=yW (w.drewN (d+nq)) b 1 _ _ (yY ((i:Int)+1)) K.o;simpa using this
end Go.Proofs.YthamijnggdjaoaaGreat
namespace Go.Proofs.YthamijnggdjaoaaGreat
open Go.RowKit Go.ChangeShapes Go.WideShapes Go.ChangeAt
open Tryz
theorem eg:eI prog 3 1 (wJ .i64):=kU underlying3 (by kernel_rfl)
theorem ii:eI prog 26 1 (pT .i64):=ig underlying26 underlying2 (by kernel_rfl) (by kernel_rfl) (by kernel_rfl)
theorem oV:eI prog 22 1 (pT .i64):=ig underlying22 underlying3 (by kernel_rfl) (by kernel_rfl) (by kernel_rfl)
theorem nS {l:N3} (h:∀z∈l,(Lit.int .i64 z).wf=true):W64 l:=fun k a=>by
 have:=h _ (p5 a);simpa [Lit.wf,IntKind.min,IntKind.max,IntKind.signed,IntKind.bits] using this
end Go.Proofs.YthamijnggdjaoaaGreat
namespace Go.Proofs.YthamijnggdjaoaaGreat
open Go.RowKit
open Tryz
theorem uo:cE prog 25 67 (.agg #[yZ,yZ]) 2 48:=⟨underlying25,info_parts (by kernel_rfl),rfl,by decide⟩
abbrev Ex:=N3×N3
structure aP (w:N6) (A:N0) (l:N3) (c:Nat):Prop where
 hc:l.length<=c
 hl:l.length<=17592186043904
 hr:Rd w A (au .i64 l)
 hw:W64 l
theorem aP.below {w w':N6} {A:N0} {l:N3} {c:Nat} (h:aP w A l c) (a:an w w'):aP w' A l c:=⟨h.hc,h.hl,h.hr.below a,h.hw⟩
def rEx:cf Ex:=fun w a e=>∃A c B d,a=[.slice A e.1.length c,.slice B e.2.length d]/\aP w A e.1 c/\aP w B e.2 d
theorem aH:nR rEx:=fun a ⟨A,c,B,d,g,e,h⟩=>⟨A,c,B,d,g,e.below a,h.below a⟩
def bZ (w:N6) (base:Nat) (a:N5) (e:Ex):Prop:=∃u v,a=[u,v]/\w.ownsRow base 2 1 u e.1.length (au .i64 e.1)/\w.ownsRow base 2 1 v e.2.length (au .i64 e.2)/\
 e.1.length<=17592186043904/\e.2.length<=17592186043904/\W64 e.1/\W64 e.2
theorem bZ.rd {w:N6} {base:Nat} {g:N5} {e:Ex} (h:bZ w base g e):rEx w g e:=by
 obtain ⟨u,v,rfl,i,a,n,l,m,k⟩:=h;obtain ⟨A,c,rfl,hc⟩:=aB i;obtain ⟨B,d,rfl,j⟩:=aB a;exact ⟨A,c,B,d,rfl,⟨hc,n,Rd.own i,m⟩,⟨j,l,Rd.own a,k⟩⟩
theorem bZ.below {w w':N6} {base:Nat} {a:N5} {e:Ex} (h:bZ w base a e) (g:an w w'):bZ w' base a e:=by
 obtain ⟨u,v,rfl,j,i,k⟩:=h;exact ⟨u,v,rfl,az j g,az i g,k⟩
theorem bZ.base {w:N6} {base base':Nat} {a:N5} {e:Ex} (h:bZ w base a e) (g:base'<=base):bZ w base' a e:=by
 obtain ⟨u,v,rfl,j,i,k⟩:=h;exact ⟨u,v,rfl,aA j g,aA i g,k⟩
theorem cI {W i:N6} {g e a size n m:Nat} {v u:Value} {xs ys:N5} {base base':Nat} (h:W.ownsRow base' g a u m ys) (j:W.ownsRow base e size v n xs) (hg:W.grownBy i v.ownBlock) (l:e≠g):i.ownsRow base' g a u m ys:=by
 refine h.kept hg ?_
 cases hub:u.ownBlock with
 | none=>exact .inl rfl
 | some k=>exact .inr fun o=>es j h l k o.symm hub
theorem bZ.pushed {W j:N6} {e size n:Nat} {v:Value} {xs:N5} {base base':Nat} {g:N5} {x:Ex} (h:bZ W base' g x) (a:W.ownsRow base e size v n xs) (hg:W.grownBy j v.ownBlock) (i:e≠2):bZ j base' g x:=by
 obtain ⟨u,o,rfl,k,l,m⟩:=h;exact ⟨u,o,rfl,cI k a hg i,cI l a hg i,m⟩
theorem j3 (A:N0) (zs:N3) (c:Nat) (w:N6) (hA:Rd w A (au .i64 zs)) (hl:zs.length<=17592186043904):Calls prog 226 #[.slice A zs.length c] w fun e w'=>∃v,e=.returned v/\w'.ownsRow w.heap.size 2 1 v zs.length (au .i64 zs)/\an w w':=by
 have q:=fun (w:N6)=>Lib.run_eql_slice_nil (P:=prog) w 26 2 A zs.length c 0 0 underlying26
 cases A with
 | none=>
  have n:zs=[]:=by
   cases zs with
   | nil=>rfl
   | cons z l=>obtain ⟨b,o,h,_⟩:=hA 0 _ rfl;cases h
  subst n;clear q;have q:=fun (w:N6)=>Lib.run_eql_slice_nil (P:=prog) w 26 2 none 0 c 0 0 underlying26;simp only [Option.isNone_none] at q;rw [List.length_nil];go_enter func226,ntmps226;go_wp2;go_ret;exact ⟨_,rfl,yi _ _ _ _,ya _ _⟩
 | some a=>
  go_enter func226,ntmps226;go_wp2_with (at_builtin;refine ew fJ _ rfl (.tmp 5) (.tmp 6) rfl w.heap.size _ 0 [] rfl (gE w 2 1) _ zs.length c (au .i64 zs) rfl (hA.alloc _) (by rw [aS];omega) (aV _ _) am (by unfold maxLen;omega) (by simp) ?_);intro x u p g m _ _;have j:=((ya _ w).alloc (x4 _) (.cells #[] 2)).trans m;obtain ⟨i,k⟩:=ab g j;clear g m j;go_wp2;go_ret;exact ⟨_,rfl,i.o,k.o⟩
theorem po (cs:N5) (x:Ex) (w:N6) (h:rEx w cs x):Calls prog 194 #[.agg cs.toArray] w fun e w'=>∃us:N5,e=.returned (.agg us.toArray)/\bZ w' w.heap.size us x/\an w w':=by
 obtain ⟨A,c,B,d,rfl,X,U⟩:=h;obtain ⟨x,y⟩:=x;dsimp only at X U ⊢;have H:=fun w' (k:an w w')=>j3 A x c w' (X.hr.below k) X.hl;have M:=fun w' (k:an w w')=>j3 B y d w' (U.hr.below k) U.hl;obtain ⟨H1,H2⟩:=ab X U;obtain ⟨n,hn⟩:∃n,x.length=n:=⟨_,rfl⟩;obtain ⟨m,hm⟩:∃m,y.length=m:=⟨_,rfl⟩;rw [hn] at H ⊢;rw [hm] at M ⊢;obtain ⟨ad,b1,Hn,Hm⟩:=af H M hn hm;clear H M hn hm X U;go_enter func194,ntmps194;go_wp2_with fail;have hz:=x6 (w.alloc (.cells #[.slice A n c,.slice B m d] 67)) (.cells #[yZ,yZ] 67);rw [show (w.alloc (.cells #[.slice A n c,.slice B m d] 67)).heap.size=w.heap.size+1 by simp] at hz;have hy:=(yj (w.alloc (.cells #[.slice A n c,.slice B m d] 67)) (.cells #[yZ,yZ] 67) w.heap.size (by simp)).trans (x6 w _);have P:an w ((w.alloc (.cells #[.slice A n c,.slice B m d] 67)).alloc (.cells #[yZ,yZ] 67)):=((ya _ w).alloc (x4 _) _).alloc (by simp) _;have J:((w.alloc (.cells #[.slice A n c,.slice B m d] 67)).alloc (.cells #[yZ,yZ] 67)).heap.size=w.heap.size+2:=by simp
 obtain ⟨W0,W⟩:∃W0,W0=(w.alloc (.cells #[.slice A n c,.slice B m d] 67)).alloc (.cells #[yZ,yZ] 67):=⟨_,rfl⟩;rw [<-W] at hz hy P J ⊢;obtain ⟨⟨y0,y1⟩,yf⟩:=bx2 hy;obtain ⟨Hz,T,C⟩:=ae hz P J;clear hz hy P J W;have a:(fun w':N6=>w'.cell? (ao w.heap.size 0)=some (.slice A n c)/\w'.cell? (ao w.heap.size 1)=some (.slice B m d)) W0.drew:=⟨y0,y1⟩;refine XA.g 7 (fun w':N6=>w'.cell? (ao w.heap.size 0)=some (.slice A n c)/\w'.cell? (ao w.heap.size 1)=some (.slice B m d)) ?_;refine XA.t ?_ [0,1,3,4] a ?_;refine XA.o 2 (fun K Z=>?_);go_simp;refine (ad.o _ T.o.drew).mono ?_;rintro e w1 ⟨u,rfl,p,l⟩;obtain ⟨I,N,rfl,_⟩:=aB p;have a0:=yg (aq l a.1) (aq l a.2);have Y:=(l.block (w.heap.size+1) (by simp [C.o])).trans Hz.o;have V:=T.o.drew.trans (l.mono (by simp [C.o]));have b0:=l.size;simp only [yL,C.o] at b0;have p:=aA (base':=w.heap.size) p (by simp [C.o]);obtain ⟨av,a8,E⟩:=ae p Y V;clear p Y V l a;dsimp only;refine Z.out _ _ a0 (fun a=>?_);clear Z K a0;refine XA.o 5 (fun K Z=>?_);go_simp;refine (b1.o _ E.o).mono ?_;rintro e R ⟨v,rfl,q,i⟩;obtain ⟨Q,O,rfl,_⟩:=aB q;have a1:=yg (aq i a.1) (aq i a.2);have D:=(i.block (w.heap.size+1) am).trans a8.o;have a2:=E.o.trans (i.mono E.o.size);have b4:=i.size;have q:=aA (base':=w.heap.size) q E.o.size;have G:=az av.o i;obtain ⟨⟨z0,z1⟩,zf⟩:=bx2 D;have l2:w.heap.size+1<R.heap.size:=xZ D;obtain ⟨a4,F,L,b2⟩:=af q G D a2;clear q G D a2 i a;dsimp only;refine Z.out _ _ a1 (fun a=>?_);clear Z K a1;refine XA.t ?_ [6] a ?_;refine XA.e ?_;clear a;simp only [yy,yz];go_wp2_with fail;have e1:=yW R (w.heap.size+1) 0 _ _ (.slice I n N) L.o;have e2:=yW _ (w.heap.size+1) 1 _ _ (.slice Q m O) e1;have e3:((R.setCell (ao (w.heap.size+1) 0) (.slice I n N)).setCell (ao (w.heap.size+1) 1) (.slice Q m O)).heap[w.heap.size+1]?=some (.cells #[(.slice I n N),(.slice Q m O)] 67 (0,0)):=by simpa using e2
 have hk:Keep (fun j=>j=w.heap.size+1) R ((R.setCell (ao (w.heap.size+1) 0) (.slice I n N)).setCell (ao (w.heap.size+1) 1) (.slice Q m O)):=Keep.setCell (S:=fun j=>j=w.heap.size+1) (Keep.setCell (S:=fun j=>j=w.heap.size+1) (Keep.refl _ _) (ao (w.heap.size+1) 0) (.inr rfl) _) (ao (w.heap.size+1) 1) (.inr rfl) _;obtain ⟨W9,a9⟩:∃W9,W9=(R.setCell (ao (w.heap.size+1) 0) (.slice I n N)).setCell (ao (w.heap.size+1) 1) (.slice Q m O):=⟨_,rfl⟩;rw [<-a9] at e3 hk ⊢;obtain ⟨⟨x0,x1⟩,xf⟩:=bx2 e3;have b3:=hk.own F.o (fun j hj e=>ar L.o (by decide) F.o (by rw [hj,e]));have a7:=hk.own a4.o (fun j hj e=>ar L.o (by decide) a4.o (by rw [hj,e]));have a6:an w W9:=b2.o.trans (hk.toBelow am (fun j hj=>am));have a3:=H1.o;have a5:=H2.o;exact yk (v:=.agg #[(.slice I n N),(.slice Q m O)]) (by simp [results,results194,go_sem,x0,x1]) rfl ⟨[(.slice I n N),(.slice Q m O)],rfl,⟨_,_,rfl,by rw [Hn.o];exact b3,by rw [Hm.o];exact a7,a3.hl,a5.hl,a3.hw,a5.hw⟩,a6⟩
theorem bP {w:N6} {A:N0} {l:N8} (h:aQ rEx 2 w A l) {j:Nat} {x:Ex} (u:l[j]?=some x):
  ∃b o e i g a,A=some (ao b o)/\b<w.heap.size/\w.cell? (ao b (o+j*2))=some (.slice e x.1.length i)/\w.cell? (ao b (o+j*2+1))=some (.slice g x.2.length a)/\aP w e x.1 i/\aP w g x.2 a:=by
 obtain ⟨b,o,v,rfl,q,hl,⟨e,i,g,a,rfl,k,m⟩,n,p⟩:=h.get (by decide) u;exact ⟨b,o,e,i,g,a,rfl,q,n,p 1 (by decide),k,m⟩
def dY (w wr:N6) (l:N8) (k:Nat) (v:Value):Prop:=∃a,wr.ownsRow w.heap.size 67 2 v k (List.flatten a)/\a.length=k/\(∀r∈a,r.length=2)/\ (∀j x,j<k->l[j]?=some x->bZ wr w.heap.size (aK a j) x)/\an w wr
theorem dY.zero (w:N6) (l:N8):dY w w l 0 (yZ):=⟨[],yi _ _ _ _,rfl,by simp,fun j x h=>am,ya _ _⟩
theorem dY.form {w wr:N6} {l:N8} {k:Nat} {v:Value} (h:dY w wr l k v):∃A c,v=.slice A k c:=by
 obtain ⟨a,g,_⟩:=h;obtain ⟨A,c,e,_⟩:=aB g;exact ⟨A,c,e⟩
theorem dY.b {w wr:N6} {l:N8} {k:Nat} {v:Value} (h:dY w wr l k v):an w wr:=by
 obtain ⟨a,_,_,_,_,h⟩:=h;exact h
theorem dY.below {w wr w':N6} {l:N8} {k:Nat} {v:Value} (h:dY w wr l k v) (e:an wr w'):dY w w' l k v:=by
 obtain ⟨a,o,m,p,n,g⟩:=h;exact ⟨a,az o e,m,p,fun j x i q=>(n j x i q).below e,g.trans (e.mono g.size)⟩
theorem dY.done {w wr:N6} {l:N8} {A:N0} {n c:Nat} (h:dY w wr l n (.slice A n c)) (p:l.length=n):aQ rEx 2 wr A l:=by
 obtain ⟨a,i,m,k,g,o⟩:=h;exact ⟨a,Rd.own i,by omega,k,fun j x e=>(g j x (by have:=(yB.1 e).1;omega) e).rd⟩
theorem dY.doneT {w wr:N6} {l:N8} {A:N0} {n c:Nat} (h:dY w wr l n (.slice A n c)) (C:l.length=n):aQ rEx 2 (cZ w.heap.size wr) A l:=by
 obtain ⟨a,p,y,q,o,B⟩:=h
 exact ⟨a,Rd.own (ed p (x4 _)),by omega,q,fun j x g=>by
  obtain ⟨u,v,e,i,k,m⟩:=o j x (by have:=(yB.1 g).1;omega) g
  exact bZ.rd ⟨u,v,e,ed i (x4 _),ed k (x4 _),m⟩⟩
theorem dY.push {w m o:N6} {l:N8} {k:Nat} {v p:Value} {i g:Value} {x:Ex} {a:List (N5)} (u:m.ownsRow w.heap.size 67 2 v k (List.flatten a)) (q:a.length=k) (F:∀r∈a,r.length=2) (B:∀j x,j<k->l[j]?=some x->bZ m w.heap.size (aK a j) x) (C:an w m) (G:l[k]?=some x) (E:bZ m w.heap.size [i,g] x) (D:o.ownsRow w.heap.size 67 2 p (k+1) (List.flatten a++[i,g])) (A:Below w.heap.size m o) (hg:m.grownBy o v.ownBlock):dY w o l (k+1) p:=by
 refine ⟨a++[[i,g]],by rw [yJ,List.flatten_cons,List.flatten_nil,List.append_nil];exact D,by simp [q],?_,?_,C.trans A⟩
 ·intro r hr;rcases yN.1 hr with hr | hr
  ·exact F r hr
  ·rw [List.mem_singleton.1 hr];rfl
 ·intro j y H n;rcases yl j k with h | h
  ·have e:aK (a++[[i,g]]) j=aK a j:=by simp [aK,yD (show j<a.length by omega)]
   rw [e];exact (B j y h n).pushed u hg (by decide)
  ·obtain rfl:j=k:=am;rw [G] at n;injection n with n
   subst n;have e:aK (a++[[i,g]]) j=[i,g]:=by rw [<-q];simp [aK]
   rw [e];exact E.pushed u hg (by decide)
def lG (w:N6) (x:Ex) (e:Ending) (w':N6):Prop:=∃g i h a,e=.returned (.tuple #[.agg #[.slice g x.1.length i,.slice h x.2.length a],.bool true])/\bZ w' w.heap.size [.slice g x.1.length i,.slice h x.2.length a] x/\an w w'
theorem rS (A:N0) (c:Nat) (B:N0) (d:Nat) (x:Ex) (w:N6) (m:aP w A x.1 c) (l:aP w B x.2 d):Calls prog 194 #[.agg #[.slice A x.1.length c,.slice B x.2.length d]] w fun e w'=>∃g i h a,e=.returned (.agg #[.slice g x.1.length i,.slice h x.2.length a])/\bZ w' w.heap.size [.slice g x.1.length i,.slice h x.2.length a] x/\an w w':=by
 refine (po [.slice A x.1.length c,.slice B x.2.length d] x w ⟨A,c,B,d,rfl,m,l⟩).mono ?_;rintro e w' ⟨p,rfl,⟨u,v,rfl,k,j,n⟩,o⟩;obtain ⟨g,i,rfl,_⟩:=aB k;obtain ⟨h,a,rfl,_⟩:=aB j;exact ⟨g,i,h,a,rfl,⟨_,_,rfl,k,j,n⟩,o⟩
theorem lu (n m:Nat) (A:N0) (c:Nat) (B:N0) (d:Nat) (x:Ex) (w:N6) (l:x.1.length=n) (hm:x.2.length=m) (k:aP w A x.1 c) (j:aP w B x.2 d):Calls prog 194 #[.agg #[.slice A n c,.slice B m d]] w fun e w'=>∃g i h a,e=.returned (.agg #[.slice g n i,.slice h m a])/\bZ w' w.heap.size [.slice g n i,.slice h m a] x/\an w w':=by
 subst l;subst hm;exact rS A c B d x w k j
theorem pr (A:N0) (c:Nat) (B:N0) (d:Nat) (x:Ex) (w:N6) (Q:aP w A x.1 c) (P:aP w B x.2 d):Calls prog 193 #[.agg #[.slice A x.1.length c,.slice B x.2.length d]] w (lG w x):=by
 have a:=fun n m (E:x.1.length=n) (hm:x.2.length=m) w' (k:an w w')=>lu n m A c B d x w' E hm (Q.below k) (P.below k);unfold lG;obtain ⟨n,E⟩:∃n,x.1.length=n:=⟨_,rfl⟩;obtain ⟨m,hm⟩:∃m,x.2.length=m:=⟨_,rfl⟩;have a:=a n m E hm;rw [E,hm];have K:=aa a;clear a E hm Q P;go_enter func193,ntmps193;go_wp2_with fail;refine (K.o _ ?_).mono ?_
 ·exact ak
 rintro e p ⟨g,h,l,i,rfl,R,q⟩;have G:p.heap[w.heap.size+1]?=some (.cells #[yZ,yZ] 67 (0,0)):=(q.block (w.heap.size+1) (by simp)).trans (by rw [<-show (w.alloc (.cells #[.slice A n c,.slice B m d] 67)).heap.size=w.heap.size+1 by simp];exact x6 (w.alloc (.cells #[.slice A n c,.slice B m d] 67)) (.cells #[yZ,yZ] 67));have y:an w p:=(((ya _ w).alloc (x4 _) _).alloc (by simp) _).trans (q.mono (by first | omega | (simp;done) | (simp;omega)));have C:=R.base (base':=w.heap.size) (by first | omega | (simp;done) | (simp;omega));have lz:=xZ G;obtain ⟨⟨z0,z1⟩,zf⟩:=bx2 G;obtain ⟨J,D,M⟩:=ae G y C;clear G y C q R;go_wp2_with fail;have Y:=yW p (w.heap.size+1) 0 _ _ (.slice g n h) J.o;have X:=yW _ (w.heap.size+1) 1 _ _ (.slice l m i) Y;have U:((p.setCell (ao (w.heap.size+1) 0) (.slice g n h)).setCell (ao (w.heap.size+1) 1) (.slice l m i)).heap[w.heap.size+1]?=some (.cells #[.slice g n h,.slice l m i] 67 (0,0)):=by simpa using X
 have F:Keep (fun j=>j=w.heap.size+1) p ((p.setCell (ao (w.heap.size+1) 0) (.slice g n h)).setCell (ao (w.heap.size+1) 1) (.slice l m i)):=Keep.setCell (S:=fun j=>j=w.heap.size+1) (Keep.setCell (S:=fun j=>j=w.heap.size+1) (Keep.refl _ _) (ao (w.heap.size+1) 0) (.inr rfl) _) (ao (w.heap.size+1) 1) (.inr rfl) _;obtain ⟨N,L⟩:∃N,N=(p.setCell (ao (w.heap.size+1) 0) (.slice g n h)).setCell (ao (w.heap.size+1) 1) (.slice l m i):=⟨_,rfl⟩;rw [<-L] at U F ⊢;obtain ⟨⟨V,Z⟩,xf⟩:=bx2 U
 have I:bZ N w.heap.size [.slice g n h,.slice l m i] x:=by
  obtain ⟨u,v,e,O,T,W⟩:=M.o;exact ⟨u,v,e,F.own O (fun j H e=>ar J.o (by decide) O (by rw [H,e])),F.own T (fun j H e=>ar J.o (by decide) T (by rw [H,e])),W⟩
 exact yk (v:=.tuple #[.agg #[.slice g n h,.slice l m i],.bool true]) (by simp [results,results193,go_sem,V,Z]) rfl ⟨g,h,l,i,rfl,I,D.o.trans (F.toBelow D.o.size (fun j H=>am))⟩
theorem rG (A:N0) (l:N8) (c:Nat) (w:N6) (h:aQ rEx 2 w A l) (hl:l.length<=1048576):Calls prog 192 #[.slice A l.length c,.func (.func 193) #[] #[]] w fun e w'=>∃v,e=.returned (.tuple #[v,.bool true])/\dY w w' l l.length v:=by
 obtain ⟨n,V⟩:∃n,l.length=n:=⟨_,rfl⟩;rw [V] at hl ⊢;obtain ⟨H,Hn⟩:=ab h V;clear h V;go_enter func192,ntmps192;go_wp2_with fail
 go_loopw [6,13] (fun v i wr=>∃k:Nat,k<=n/\i=yY k/\dY w wr l k v) (fun _ i _=>n-(intOf i).toNat)
 ·exact ⟨0,yb _,rfl,dY.zero w l⟩
 case round=>
  obtain ⟨k,hk,rfl,j⟩:=hrel;obtain ⟨Al,cl,rfl⟩:=j.form;by_cases P:k<n
  ·obtain ⟨x,U⟩:∃x,l[k]?=some x:=⟨_,yC (by rw [Hn.o];exact P)⟩;have hb:=j.b;obtain ⟨b,o,A1,c1,A2,c2,rfl,a1,p1,Y,Z,r2⟩:=bP (H.o.below aH hb) U;have a:=fun w' (q:an wr w')=>pr A1 c1 A2 c2 x w' (Z.below q) (r2.below q);unfold lG at a;obtain ⟨m,y⟩:∃m,x.1.length=m:=⟨_,rfl⟩;obtain ⟨p,G⟩:∃p,x.2.length=p:=⟨_,rfl⟩;rw [y] at p1 a;rw [G] at Y a;obtain ⟨R,L,Hx⟩:=ae a j U;clear a j U Z r2 y G hb;go_wp2_with fail;refine (R.o _ ?_).mono ?_
   ·exact ak
   rintro e Q ⟨N,M,O,K,rfl,ho,I⟩;have g:an wr Q:=((ya _ wr).alloc (x4 _) _).trans (I.mono (by first | omega | (simp;done) | (simp;omega)));have B:=(L.o.below g).below ((ya _ _).alloc (x4 _) (.cells #[.slice N m M,.slice O p K] 67));have C:=(ho.base (base':=w.heap.size) (by have:=L.o.b.size;first | omega | (simp;done) | (simp;omega))).below ((ya _ _).alloc (x4 _) (.cells #[.slice N m M,.slice O p K] 67));obtain ⟨T,W⟩:=ab B C;clear B C ho I g p1 Y;obtain ⟨a0,h1,X,h3,h4,h5⟩:=T.o;obtain ⟨R1,R2,R3,R4,R5⟩:=ag h1 X h3 h4 h5;clear h1 X h3 h4 h5;have F:=aa (show (Q.alloc (.cells #[.slice N m M,.slice O p K] 67)).heap.size=Q.heap.size+1 by simp);go_wp2_with (at_builtin;refine aE uo _ rfl (.tmp 25) (.tmp 27) rfl w.heap.size (.slice Al k cl) k _ rfl R1.o [.slice N m M,.slice O p K] (congrArg (fun b:Nat=>Value.slice (some (ao b 0)) 1 1) F.o.symm) rfl (by simp [Value.oneCell']) am (by unfold maxLen;omega) R5.o.size ?_);intro g6 c6 w6 u D E;have J:=dY.push R1.o R2.o R3.o R4.o R5.o Hx.o W.o u D E;have S:=aa J;clear u D E J;go_wp2_with fail;go_roundw
   ·exact ⟨k+1,by omega,by go_num,S.o⟩
   ·simp [intOf];omega
  ·obtain rfl:n=k:=am;have L:=aa j;clear j;go_wp2_with fail;go_ret2;exact ⟨_,rfl,L.o⟩
theorem pK:xF rEx:=fun ⟨j,l,k,i,e,a,g⟩ h=>⟨j,l,k,i,e,⟨a.hc,a.hl,fA a.hr h,a.hw⟩,⟨g.hc,g.hl,fA g.hr h,g.hw⟩⟩
theorem nN (A:N0) (l:N8) (c:Nat) (w:N6) (h:aQ rEx 2 w A l) (hl:l.length<=1048576):Calls prog 147 #[.slice A l.length c] w fun e w'=>∃g j,e=.returned (.slice g l.length j)/\aQ rEx 2 (cZ w.heap.size w') g l/\an w w':=by
 have hm:=rG A l c w h hl;obtain ⟨n,i⟩:∃n,l.length=n:=⟨_,rfl⟩;rw [i] at hm ⊢;obtain ⟨m,p⟩:=ab hm i;clear hm i h;go_enter func147,ntmps147;go_wp2_with fail;refine m.o.mono ?_;rintro e q ⟨v,rfl,a⟩;obtain ⟨g,j,rfl⟩:=a.form;have k:=aa a;clear a;go_wp2;go_ret;exact ⟨_,_,rfl,k.o.doneT p.o,k.o.b⟩
def bf (l:N8) (a:N3):N8:=a.map fun i=>l.getD i.toNat ([],[])
theorem fp (l:N8) (a:N3):(bf l a).length=a.length:=by simp [bf]
theorem jV (l:N8) (a:N3) {k:Nat} (h:k<a.length):(bf l a)[k]?=some (l.getD (nth a k).toNat ([],[])):=by simp [bf,cJ _ _ h,h]
theorem rq (P n c:Nat) (A:N0) (i:Int) (w:N6) (hP:w.heap[P]?=some (.cells #[.slice A n c] 25 (0,0))) (o:i<0\/(n:Int)<=i):Calls prog 256 #[yY i,(ap P)] w fun e w'=>e=.returned (.tuple #[.agg #[yZ,yZ],.bool false])/\an w w':=by
 obtain ⟨x,C⟩:=bx1 hP;have q:=xZ hP;clear hP;rcases Int.lt_or_le i 0 with m | m
 ·have u:i<0:=m;clear o;go_enter func256,ntmps256;go_wp2_with fail;have h:=x6 w (.cells #[yZ,yZ] 67);obtain ⟨g,a⟩:∃g,g=w.alloc (.cells #[yZ,yZ] 67):=⟨_,rfl⟩;have l:an w g:=by rw [a];exact (ya _ _).alloc (x4 _) _
  rw [<-a] at h ⊢;obtain ⟨⟨j,k⟩,p⟩:=bx2 h;exact yk (v:=.tuple #[.agg #[yZ,yZ],.bool false]) (by simp [results,results256,go_sem,j,k]) rfl ⟨rfl,l⟩
 ·have B:(n:Int)<=i:=am;have y:¬i<0:=am;clear o;go_enter func256,ntmps256;go_wp2_with fail;have h:=x6 w (.cells #[yZ,yZ] 67);obtain ⟨g,a⟩:∃g,g=w.alloc (.cells #[yZ,yZ] 67):=⟨_,rfl⟩;have l:an w g:=by rw [a];exact (ya _ _).alloc (x4 _) _
  rw [<-a] at h ⊢;obtain ⟨⟨j,k⟩,p⟩:=bx2 h;exact yk (v:=.tuple #[.agg #[yZ,yZ],.bool false]) (by simp [results,results256,go_sem,j,k]) rfl ⟨rfl,l⟩
theorem oR (P c j:Nat) (A:N0) (l:N8) (x:Ex) (w:N6) (hP:w.heap[P]?=some (.cells #[.slice A l.length c] 25 (0,0))) (h:aQ rEx 2 w A l) (R:l[j]?=some x):Calls prog 256 #[yY j,(ap P)] w (lG w x):=by
 have D:=(yB.1 R).1;obtain ⟨b,o,A1,c1,A2,c2,rfl,a0,W,U,V,Z⟩:=bP h R;have a:=fun n m (C:x.1.length=n) (hm:x.2.length=m) w' (k:an w w')=>lu n m A1 c1 A2 c2 x w' C hm (V.below k) (Z.below k);unfold lG;obtain ⟨n,C⟩:∃n,x.1.length=n:=⟨_,rfl⟩;obtain ⟨m,hm⟩:∃m,x.2.length=m:=⟨_,rfl⟩;have a:=a n m C hm;rw [C] at W;rw [hm] at U;rw [C,hm];obtain ⟨N,Y⟩:∃N,l.length=N:=⟨_,rfl⟩;rw [Y] at hP D;obtain ⟨p0,pf⟩:=bx1 hP;have a3:=xZ hP;have a2:(j:Int)<N:=am;have a4:¬((j:Int)<0):=am;have a1:¬((N:Int)<=j):=am;have L:=aa a;clear a C hm V Z R h Y hP;go_enter func256,ntmps256;go_wp2_with fail;refine (L.o _ ?_).mono ?_
 ·exact ak
 rintro e y ⟨p,i,q,g,rfl,X,B⟩;have I:y.heap[w.heap.size]?=some (.cells #[yZ,yZ] 67 (0,0)):=(B.block w.heap.size (by simp)).trans (x6 w _);have E:an w y:=((ya _ w).alloc (x4 _) _).trans (B.mono (by first | omega | (simp;done) | (simp;omega)));have F:=X.base (base':=w.heap.size) (by first | omega | (simp;done) | (simp;omega));have lz:=xZ I;obtain ⟨⟨z0,z1⟩,zf⟩:=bx2 I;obtain ⟨K,G,O⟩:=ae I E F;clear I E F B X p0 pf W U;go_wp2_with fail;have e1:=yW y w.heap.size 0 _ _ (.slice p n i) K.o;have e2:=yW _ w.heap.size 1 _ _ (.slice q m g) e1;have e3:((y.setCell (ao w.heap.size 0) (.slice p n i)).setCell (ao w.heap.size 1) (.slice q m g)).heap[w.heap.size]?=some (.cells #[.slice p n i,.slice q m g] 67 (0,0)):=by simpa using e2
 have H:Keep (fun j=>j=w.heap.size) y ((y.setCell (ao w.heap.size 0) (.slice p n i)).setCell (ao w.heap.size 1) (.slice q m g)):=Keep.setCell (S:=fun j=>j=w.heap.size) (Keep.setCell (S:=fun j=>j=w.heap.size) (Keep.refl _ _) (ao w.heap.size 0) (.inr rfl) _) (ao w.heap.size 1) (.inr rfl) _;obtain ⟨Q,M⟩:∃Q,Q=(y.setCell (ao w.heap.size 0) (.slice p n i)).setCell (ao w.heap.size 1) (.slice q m g):=⟨_,rfl⟩;rw [<-M] at e3 H ⊢;obtain ⟨⟨x0,x1⟩,xf⟩:=bx2 e3
 have J:bZ Q w.heap.size [.slice p n i,.slice q m g] x:=by
  obtain ⟨u,v,e,T,k2,k3⟩:=O.o;exact ⟨u,v,e,H.own T (fun j D e=>ar K.o (by decide) T (by rw [D,e])),H.own k2 (fun j D e=>ar K.o (by decide) k2 (by rw [D,e])),k3⟩
 exact yk (v:=.tuple #[.agg #[.slice p n i,.slice q m g],.bool true]) (by simp [results,results256,go_sem,x0,x1]) rfl ⟨p,i,q,g,rfl,J,G.o.trans (H.toBelow G.o.size (fun j D=>am))⟩
noncomputable def cB (sz:N3):Int:=@ite _ (bn sz) (Classical.propDecidable _) 0 (@ite _ (aX sz) (Classical.propDecidable _) 4 5)
theorem eO {sz:N3} (h:bn sz):cB sz=0:=by unfold cB;rw [if_pos h]
theorem fO {sz:N3} (h:¬bn sz) (hr:aX sz):cB sz=4:=by unfold cB;rw [if_neg h,if_pos hr]
theorem dx {sz:N3} (h:¬aX sz):cB sz=5:=by unfold cB;rw [if_neg (fun g=>h g.1),if_neg h]
theorem nY (sz:N3):cB sz=0↔bn sz:=by
 constructor
 ·intro h;by_cases hg:bn sz
  ·exact hg
  ·by_cases hr:aX sz
   ·rw [fO hg hr] at h;omega
   ·rw [dx hr] at h;omega
 ·exact eO
theorem bK (b:Bool):b=false\/b=true:=by cases b<;>simp
structure Cfg where
 sizes:N3
 shift:Int
 rate:Int
 mom:Int
 workers:Int
 batch:Int
 micros:Int
 steps:Int
 bucket:Int
 chunk:Int
 window:Int
 cap:Int
def okB (n:Int):Bool:=decide (1<=n/\n<=1048576)
theorem ft {n:Int} (h:okB n=true):1<=n/\n<=1048576:=by simpa [okB] using h
theorem rB {n:Int} (h:okB n=false):¬(1<=n/\n<=1048576):=by
 intro a;unfold okB at h;rw [yS a] at h;cases h
def jL (n:Int):Bool:=decide (0<=n/\n<=1048576)
def iB (k:Cfg):Bool:=okB k.micros&&okB k.bucket&&okB k.chunk&&okB k.window&&okB k.cap&&jL k.steps
def wkB (k:Cfg):Bool:=decide (1<=k.workers/\k.workers<=64)
def shB (k:Cfg):Bool:=decide (1<=k.shift/\k.shift<=62)
def baB (k:Cfg):Bool:=decide (k.workers<=k.batch/\k.batch<=1048576)
noncomputable def aM (k:Cfg):Int:=if wkB k=false then 6 else if shB k=false then 9 else if cB k.sizes≠0 then cB k.sizes else if iB k=false then 2 else if baB k=false then 7 else 0
theorem uC {k:Cfg} (h:wkB k=false):aM k=6:=by unfold aM;rw [if_pos h]
theorem uA {k:Cfg} (a:wkB k=true) (h:shB k=false):aM k=9:=by unfold aM;rw [if_neg (by simp [a]),if_pos h]
theorem uz {k:Cfg} (a:wkB k=true) (e:shB k=true) (h:cB k.sizes≠0):aM k=cB k.sizes:=by unfold aM;rw [if_neg (by simp [a]),if_neg (by simp [e]),if_pos h]
theorem uD {k:Cfg} (a:wkB k=true) (e:shB k=true) (g:cB k.sizes=0) (h:iB k=false):aM k=2:=by unfold aM;rw [if_neg (by simp [a]),if_neg (by simp [e]),if_neg (by simp [g]),if_pos h]
theorem uB {k:Cfg} (g:wkB k=true) (a:shB k=true) (i:cB k.sizes=0) (e:iB k=true) (h:baB k=false):aM k=7:=by unfold aM;rw [if_neg (by simp [g]),if_neg (by simp [a]),if_neg (by simp [i]),if_neg (by simp [e]),if_pos h]
theorem uE {k:Cfg} (g:wkB k=true) (a:shB k=true) (i:cB k.sizes=0) (e:iB k=true) (h:baB k=true):aM k=0:=by unfold aM;rw [if_neg (by simp [g]),if_neg (by simp [a]),if_neg (by simp [i]),if_neg (by simp [e]),if_neg (by simp [h])]
structure fe (k:Cfg):Prop where
 w:1<=k.workers/\k.workers<=64
 s:1<=k.shift/\k.shift<=62
 z:bn k.sizes
 mi:1<=k.micros/\k.micros<=1048576
 bu:1<=k.bucket/\k.bucket<=1048576
 ch:1<=k.chunk/\k.chunk<=1048576
 wi:1<=k.window/\k.window<=1048576
 ca:1<=k.cap/\k.cap<=1048576
 st:0<=k.steps/\k.steps<=1048576
 ba:k.workers<=k.batch/\k.batch<=1048576
theorem eE {k:Cfg}:aM k=0↔fe k:=by
 constructor
 ·intro h
  cases h1:wkB k with
  | false=>rw [uC h1] at h;omega
  | true=>
   cases h2:shB k with
   | false=>rw [uA h1 h2] at h;omega
   | true=>
    by_cases a:cB k.sizes=0
    ·cases h4:iB k with
     | false=>rw [uD h1 h2 a h4] at h;omega
     | true=>
      cases h5:baB k with
      | false=>rw [uB h1 h2 a h4 h5] at h;omega
      | true=>
       simp only [iB,Bool.and_eq_true] at h4;obtain ⟨⟨⟨⟨⟨g,i⟩,j⟩,e⟩,l⟩,m⟩:=h4;exact ⟨by simpa [wkB] using h1,by simpa [shB] using h2,(nY _).1 a,ft g,ft i,ft j,ft e,ft l,by simpa [jL] using m,by simpa [baB] using h5⟩
    ·rw [uz h1 h2 a] at h;exact absurd h a
 ·intro h;refine uE (by simpa [wkB] using h.w) (by simpa [shB] using h.s) (eO h.z) ?_ (by simpa [baB] using h.ba);simp only [iB,Bool.and_eq_true];exact ⟨⟨⟨⟨⟨by simpa [okB] using h.mi,by simpa [okB] using h.bu⟩,by simpa [okB] using h.ch⟩,by simpa [okB] using h.wi⟩,by simpa [okB] using h.ca⟩,by simpa [jL] using h.st⟩
theorem ut (l m:N0) (l1 l2:N3) (u v:Nat) (w:N6) (q:Rd w l (au .i64 l1)) (p:Rd w m (au .i64 l2)) (hl:l1.length<=140737488355328):Calls prog 28 #[.slice l l1.length u,.slice m l2.length v] w fun e w'=>e=.returned (.bool (decide (l1=l2)))/\∃n,w'=w.drewN n:=by
 by_cases g:l1.length=l2.length
 ·have j:((l1.length:Int) != (l2.length:Int))=false:=by simp [g]
  go_enter func28,ntmps28;go_wp2
  go_loopw [5,13] (fun _ i wr=>∃k:Nat,k<=l1.length/\i=yY k/\l1.take k=l2.take k/\∃n,wr=w.drewN n) (fun _ i _=>l1.length-(intOf i).toNat)
  ·exact ⟨0,yb _,rfl,rfl,0,rfl⟩
  case round=>
   obtain ⟨k,B,rfl,a,n,rfl⟩:=hrel;by_cases o:k<l2.length
   ·obtain ⟨A,D,rfl,y⟩:=q.num (k:=k) am;obtain ⟨E,C,rfl,x⟩:=p.num (k:=k) am;go_wp2
    go_quiet (fail)
    go_wp2
    ·have h:(nth l1 k != nth l2 k)=true:=by assumption
     go_ret;refine ⟨aL ?_,_,World.drewN_drewN _ _ _⟩;symm;rw [yU];rintro rfl;simp at h
    ·have h:(nth l1 k != nth l2 k)=false:=by assumption
     go_roundw
     ·exact ⟨k+1,by omega,by go_num,eb am am a (by simpa using h),_,rfl⟩
     ·simp [intOf];omega
   ·go_wp2;go_ret;refine ⟨aL ?_,n,rfl⟩;symm;rw [decide_eq_true_iff];obtain rfl:k=l1.length:=am;exact fK g a
 ·have j:((l1.length:Int) != (l2.length:Int))=true:=by simp;omega
  go_enter func28,ntmps28;go_wp2;go_ret;refine ⟨aL ?_,0,rfl⟩;symm;rw [yU];rintro rfl;exact g rfl
theorem rN (l m:N0) (l1 l2:N3) (u v:Nat) (w:N6) (q:Rd w l (au .u64 l1)) (p:Rd w m (au .u64 l2)) (hl:l1.length<=140737488355328):Calls prog 29 #[.slice l l1.length u,.slice m l2.length v] w fun e w'=>e=.returned (.bool (decide (l1=l2)))/\∃n,w'=w.drewN n:=by
 by_cases g:l1.length=l2.length
 ·have j:((l1.length:Int) != (l2.length:Int))=false:=by simp [g]
  go_enter func29,ntmps29;go_wp2
  go_loopw [5,13] (fun _ i wr=>∃k:Nat,k<=l1.length/\i=yY k/\l1.take k=l2.take k/\∃n,wr=w.drewN n) (fun _ i _=>l1.length-(intOf i).toNat)
  ·exact ⟨0,yb _,rfl,rfl,0,rfl⟩
  case round=>
   obtain ⟨k,B,rfl,a,n,rfl⟩:=hrel;by_cases o:k<l2.length
   ·obtain ⟨A,D,rfl,y⟩:=q.num (k:=k) am;obtain ⟨E,C,rfl,x⟩:=p.num (k:=k) am;go_wp2
    go_quiet (fail)
    go_wp2
    ·have h:(nth l1 k != nth l2 k)=true:=by assumption
     go_ret;refine ⟨aL ?_,_,World.drewN_drewN _ _ _⟩;symm;rw [yU];rintro rfl;simp at h
    ·have h:(nth l1 k != nth l2 k)=false:=by assumption
     go_roundw
     ·exact ⟨k+1,by omega,by go_num,eb am am a (by simpa using h),_,rfl⟩
     ·simp [intOf];omega
   ·go_wp2;go_ret;refine ⟨aL ?_,n,rfl⟩;symm;rw [decide_eq_true_iff];obtain rfl:k=l1.length:=am;exact fK g a
 ·have j:((l1.length:Int) != (l2.length:Int))=true:=by simp;omega
  go_enter func29,ntmps29;go_wp2;go_ret;refine ⟨aL ?_,0,rfl⟩;symm;rw [yU];rintro rfl;exact g rfl
theorem mA (x y:N0) (l1 l2:N3) (F G:Nat) (w:N6) (E:Rd w x (au .i64 l1)) (C:Rd w y (au .i64 l2)) (J:l1.length<=17592186043904) (D:l2.length<=17592186043904):Calls prog 110 #[.slice x l1.length F,.slice y l2.length G] w fun e w'=>(∃d:Int,e=.returned (yY d)/\(d<0↔l1=l2))/\∃n,w'=w.drewN n:=by
 go_enter func110,ntmps110;go_wp2
 all_goals (
  go_loopw [6,13] (fun _ i wr=>∃k:Nat,k<=l1.length/\k<=l2.length/\i=yY k/\l1.take k=l2.take k/\∃n,wr=w.drewN n) (fun _ i _=>l1.length+l2.length+1-(intOf i).toNat)
  ·exact ⟨0,yb _,yb _,rfl,rfl,0,rfl⟩
  case round=>
   obtain ⟨k,B,A,rfl,j,n,rfl⟩:=hrel;have g:=aa j;clear j;by_cases q:k<l1.length/\k<l2.length
   ·obtain ⟨a,l⟩:=q;obtain ⟨L,N,rfl,K⟩:=E.num a;obtain ⟨O,M,rfl,H⟩:=C.num l;go_wp2
    go_quiet (fail)
    go_wp2
    ·have p:(nth l1 k != nth l2 k)=true:=by assumption
     have u:=aa p;clear p;go_ret;refine ⟨⟨k,rfl,fun h=>am,fun h=>?_⟩,_,World.drewN_drewN _ _ _⟩;subst h;have:=u.o;simp at this
    ·have p:(nth l1 k != nth l2 k)=false:=by assumption
     have u:=aa p;clear p;go_roundw
     ·exact ⟨k+1,by omega,by omega,by go_num,eb a l g.o (by have:=u.o;simpa using this),_,rfl⟩
     ·simp [intOf];omega
   ·by_cases m:l1.length=l2.length
    ·have v:((l1.length:Int)==(l2.length:Int))=true:=by simp [m]
     have I:k=l1.length:=am;go_wp2;go_ret;exact ⟨⟨-1,rfl,fun _=>fK m (by rw [<-I];exact g.o),fun _=>am⟩,n,rfl⟩
    ·have v:((l1.length:Int)==(l2.length:Int))=false:=by simp;omega
     go_wp2;go_ret
     exact ⟨⟨_,rfl,fun h=>am,fun h=>by subst h;exact absurd rfl m⟩,n,rfl⟩)
theorem ky (g i:N0) (l1 l2:N3) (l k:Nat) (w:N6) (q:Rd w g (au .i64 l1)) (p:Rd w i (au .i64 l2)) (j:l1.length<=17592186043904) (h:l2.length<=17592186043904):Calls prog 75 #[.slice g l1.length l,.slice i l2.length k] w fun e w'=>e=.returned (.bool (decide (l1=l2)))/\∃n,w'=w.drewN n:=by
 have a:=mA g i l1 l2 l k w q p j h;have m:=aa a;clear a;go_enter func75,ntmps75;go_wp2_with fail;refine m.o.mono ?_;rintro e v ⟨⟨d,rfl,a⟩,n,rfl⟩;have u:=aa a;clear a;go_wp2;go_ret;exact ⟨aL (by rw [decide_eq_decide];exact u.o),n,rfl⟩
theorem rk (g j l u:N0) (p m L J:N3) (h i k a:Nat) (w:N6) (X:aP w g p h) (U:aP w j m i) (Z:aP w l L k) (V:aP w u J a):Calls prog 27 #[.agg #[.slice g p.length h,.slice j m.length i],.agg #[.slice l L.length k,.slice u J.length a]] w fun e w'=>e=.returned (.bool (decide (p=L)&&decide (m=J)))/\an w w':=by
 have D:=fun w' (q:an w w')=>ky g l p L h k w' (X.hr.below q) (Z.hr.below q) X.hl Z.hl;have E:=fun w' (q:an w w')=>ky j u m J i a w' (U.hr.below q) (V.hr.below q) U.hl V.hl;obtain ⟨T,I⟩:∃T,decide (p=L)=T:=⟨_,rfl⟩;obtain ⟨b2,G⟩:∃b2,decide (m=J)=b2:=⟨_,rfl⟩;obtain ⟨K,y⟩:∃n,p.length=n:=⟨_,rfl⟩;obtain ⟨M,H⟩:∃n,m.length=n:=⟨_,rfl⟩;obtain ⟨Q,B⟩:∃n,L.length=n:=⟨_,rfl⟩;obtain ⟨O,C⟩:∃n,J.length=n:=⟨_,rfl⟩;rw [I,y,B] at D;rw [G,H,C] at E;rw [I,G,y,H,B,C];obtain ⟨W,a0⟩:=ab D E;clear D E I G y H B C X U Z V;go_enter func27,ntmps27;go_wp2_with fail;have Y:=(yj (w.alloc (.cells #[.slice g K h,.slice j M i] 62)) (.cells #[.slice l Q k,.slice u O a] 62) w.heap.size (by simp)).trans (x6 w _);have R:=x6 (w.alloc (.cells #[.slice g K h,.slice j M i] 62)) (.cells #[.slice l Q k,.slice u O a] 62);rw [show (w.alloc (.cells #[.slice g K h,.slice j M i] 62)).heap.size=w.heap.size+1 by simp] at R;have S:an w ((w.alloc (.cells #[.slice g K h,.slice j M i] 62)).alloc (.cells #[.slice l Q k,.slice u O a] 62)):=((ya _ w).alloc (x4 _) _).alloc (by simp) _;obtain ⟨N,P⟩:∃N,N=(w.alloc (.cells #[.slice g K h,.slice j M i] 62)).alloc (.cells #[.slice l Q k,.slice u O a] 62):=⟨_,rfl⟩;rw [<-P] at Y R S ⊢;clear P;refine (W.o _ S).mono ?_;rintro e w1 ⟨rfl,d,rfl⟩;have v:=yh S d;have A:(N.drewN d).heap[w.heap.size]?=some (.cells #[.slice g K h,.slice j M i] 62 (0,0)):=Y;have x:(N.drewN d).heap[w.heap.size+1]?=some (.cells #[.slice l Q k,.slice u O a] 62 (0,0)):=R;clear Y R S;generalize N.drewN d=W1 at A x v ⊢;obtain ⟨⟨z0,z1⟩,zf⟩:=bx2 A;obtain ⟨⟨y0,y1⟩,yf⟩:=bx2 x;have F:=aa v;clear A x v;rcases bK T with rfl | rfl
 ·go_wp2_with fail;go_ret;exact ⟨rfl,F.o⟩
 go_wp2_with fail;refine (a0.o _ F.o).mono ?_;rintro e w2 ⟨rfl,a,rfl⟩;go_wp2_with fail;go_ret;exact ⟨by simp,yh F.o a⟩
theorem vK (M X:N0) (l1 l2:N8) (c1 c2:Nat) (w:N6) (h1:aQ rEx 2 w M l1) (Z:aQ rEx 2 w X l2) (W:l1.length<=1048577) (N:l2.length<=1048577):Calls prog 26 #[.slice M l1.length c1,.slice X l2.length c2,.func (.func 27) #[] #[]] w fun e w'=>e=.returned (.bool (decide (l1=l2)))/\an w w':=by
 obtain ⟨n,T⟩:∃n,l1.length=n:=⟨_,rfl⟩;obtain ⟨m,hm⟩:∃m,l2.length=m:=⟨_,rfl⟩;obtain ⟨b,K⟩:∃b,decide (l1=l2)=b:=⟨_,rfl⟩;rw [T] at W ⊢;rw [hm] at N ⊢;rw [K];obtain ⟨H1,H2,U,V,P⟩:=ag h1 Z T hm K;clear h1 Z T hm K;by_cases I:n≠m
 ·have hq:((n:Int) != (m:Int))=true:=by rw [bne_iff_ne];omega
  have g:b=false:=by
   rw [<-P.o];refine yT fun e=>I ?_;rw [<-U.o,<-V.o,e]
  go_enter func26,ntmps26;go_wp2_with fail;go_ret;exact ⟨by rw [g];rfl,ya _ _⟩
 obtain rfl:n=m:=am;clear I;go_enter func26,ntmps26;go_wp2_with fail
 go_loopw [17] (fun i wr=>∃k:Nat,k<=n/\i=yY k/\al (∀j,j<k->l1[j]?=l2[j]?)/\an w wr) (fun i _=>n-(intOf i).toNat)
 ·exact ⟨0,yb _,rfl,aa fun j hj=>am,ya _ _⟩
 case round=>
  obtain ⟨k,hk,rfl,a,E⟩:=hrel;have G:=aa E;clear E;by_cases C:k<n
  ·have a1:(k:Int)<n:=am;obtain ⟨x,S⟩:∃x,l1[k]?=some x:=⟨_,yC (by rw [U.o];exact C)⟩;obtain ⟨y,R⟩:∃y,l2[k]?=some y:=⟨_,yC (by rw [V.o];exact C)⟩;have g1:aQ rEx 2 wr M l1:=H1.o.below aH G.o;have g2:aQ rEx 2 wr X l2:=H2.o.below aH G.o;obtain ⟨b1,o1,P1,d1,Q1,f1,rfl,a0,p1,p2,r1,r2⟩:=bP g1 S;obtain ⟨b2,o2,P2,d2,Q2,f2,rfl,a2,q1,q2,s1,s2⟩:=bP g2 R;have B:=fun w' (k:an wr w')=>rk P1 Q1 P2 Q2 x.1 x.2 y.1 y.2 d1 f1 d2 f2 w' (r1.below k) (r2.below k) (s1.below k) (s2.below k);obtain ⟨J,q⟩:∃J,(decide (x.1=y.1)&&decide (x.2=y.2))=J:=⟨_,rfl⟩
   have H:J=true↔x=y:=by
    rw [<-q,Bool.and_eq_true,yV,yV];exact ⟨fun h=>Prod.ext h.1 h.2,fun h=>by rw [h];exact ⟨rfl,rfl⟩⟩
   obtain ⟨n1,l⟩:∃n,x.1.length=n:=⟨_,rfl⟩;obtain ⟨n2,A⟩:∃n,x.2.length=n:=⟨_,rfl⟩;obtain ⟨m1,u⟩:∃n,y.1.length=n:=⟨_,rfl⟩;obtain ⟨m2,v⟩:∃n,y.2.length=n:=⟨_,rfl⟩;rw [q,l,A,u,v] at B;rw [l] at p1;rw [A] at p2;rw [u] at q1;rw [v] at q2;obtain ⟨L,Y,Hy,F⟩:=af B S R H;clear B S R H q l A u v g1 g2 r1 r2 s1 s2;go_wp2_with fail;refine (L.o _ (((br wr).alloc (x4 _) _).alloc (by simp) _)).mono ?_;rintro e w3 ⟨rfl,k3⟩;have D:=aa (G.o.trans ((((br wr).alloc (x4 _) _).alloc (by simp) _).trans (k3.mono (by simp;omega)) |>.mono G.o.size));clear k3;rcases bK J with rfl | rfl
   ·go_wp2_with fail;go_ret
    have g:b=false:=by
     rw [<-P.o];refine yT fun e=>?_;have h:=Y.o;rw [e,Hy.o] at h;injection h with h
     have:=F.o.2 h.symm;cases this
    exact ⟨by rw [g];rfl,D.o⟩
   ·have Q:=aa (F.o.1 rfl);go_wp2_with fail;go_roundw
    case rel=>exact ⟨k+1,by omega,by go_num,aa (p:=∀j,j<k+1->l1[j]?=l2[j]?) fun j hj=>by
     rcases yl j k with h | h
     ·exact a.out j h
     ·obtain rfl:j=k:=am
      rw [Y.o,Hy.o,Q.o],D.o⟩
    case measure=>simp [intOf];omega
  ·obtain rfl:n=k:=am
   have O:b=true:=by
    rw [<-P.o];refine yS (List.ext_getElem? fun j=>?_);rcases yl j n with h | h
    ·exact a.out j h
    ·rw [List.getElem?_eq_none (by rw [U.o];exact h),List.getElem?_eq_none (by rw [V.o];exact h)]
   go_wp2_with fail;go_ret;exact ⟨by rw [O];rfl,G.o⟩
def vi:cf (N3):=fun w a zs=>∃A c,a=[.slice A zs.length c]/\zs.length<=c/\zs.length<=17592186043904/\Rd w A (au .i64 zs)
theorem rj {w:N6} {V:N0} {e:List (N3)} (h:aQ vi 1 w V e) {k:Nat} {x:N3} (p:e[k]?=some x):
  ∃b o A c,V=some (ao b o)/\b<w.heap.size/\w.cell? (ao b (o+k))=some (.slice A x.length c)/\Rd w A (au .i64 x)/\x.length<=17592186043904/\x.length<=c:=by
 obtain ⟨b,o,q,rfl,n,l,j,a,_⟩:=h.get (by decide) p;obtain ⟨A,c,rfl,g,m,i⟩:=j;exact ⟨b,o,A,c,rfl,n,by rw [Nat.mul_one] at a;exact a,i,m,g⟩
def jS:cf (N3):=fun w a zs=>∃A c,a=[.slice A zs.length c]/\zs.length<=17592186043904/\Rd w A (au .i64 zs)
theorem n7:nR jS:=fun h ⟨A,c,e,g,a⟩=>⟨A,c,e,g,a.below h⟩
theorem ie {w:N6} {V:N0} {e:List (N3)} (h:aQ jS 1 w V e) {k:Nat} {x:N3} (n:e[k]?=some x):
  ∃b o A c,V=some (ao b o)/\b<w.heap.size/\w.cell? (ao b (o+k))=some (.slice A x.length c)/\Rd w A (au .i64 x)/\x.length<=17592186043904:=by
 obtain ⟨b,o,p,rfl,m,j,i,a,_⟩:=h.get (by decide) n;obtain ⟨A,c,rfl,l,g⟩:=i;exact ⟨b,o,A,c,rfl,m,by rw [Nat.mul_one] at a;exact a,g,l⟩
theorem lp:∀a:N5,List.flatten (a.map fun v=>[v])=a
 | []=>rfl
 | v::l=>by simp [lp l]
theorem mM {α:Type} {R:cf α} {w:N6} {A:N0} {a:N5} {l:List α} (hA:Rd w A a) (hl:a.length=l.length) (h:∀(j:Nat) (x:α),l[j]?=some x->∃v,a[j]?=some v/\R w [v] x):aQ R 1 w A l:=by
 refine ⟨a.map fun v=>[v],by rw [lp];exact hA,by simp [hl],by simp,fun j x i=>?_⟩;obtain ⟨v,e,g⟩:=h j x i;have:aK (a.map fun v=>[v]) j=[v]:=by simp [aK,List.getD,e]
 rw [this];exact g
theorem qh {S:Nat->Prop} {e w w':N6} (h:Keep S w w') {A:N0} {xs:N5} (m:Rd e A xs) (hr:Rd w A xs) (j:∀k,S k->e.heap.size<=k):Rd w' A xs:=fun k u g=>by
 obtain ⟨b,o,rfl,p⟩:=m k u g;obtain ⟨v,x,a,q⟩:=hr k u g;injection a with a;injection a with i1 i2 _;subst i1;subst i2
 exact ⟨b,o,rfl,h.cell q fun n=>by have l:=j _ n;have i:=aw p;dsimp only at l i;omega⟩
theorem n5 (W:N6) (b:Nat) {a g:Value} (x y:Value) {t:N7} (h:W.heap[b]?=some (.cells #[a,g] t (0,0))): ((W.setCell (ao b 0) x).setCell (ao b 1) y).heap[b]?=some (.cells #[x,y] t (0,0))/\Keep (fun j=>j=b) W ((W.setCell (ao b 0) x).setCell (ao b 1) y):=by
 have e:=yW W b 0 _ _ x h;have i:=yW _ b 1 _ _ y e;exact ⟨by simpa using i,Keep.setCell (S:=fun j=>j=b) (Keep.setCell (S:=fun j=>j=b) (Keep.refl _ _) _ (.inr rfl) _) _ (.inr rfl) _⟩
theorem sL (W:N6) (b:Nat) {a i k m:Value} (x y z u:Value) {t:N7} (h:W.heap[b]?=some (.cells #[a,i,k,m] t (0,0))): ((((W.setCell (ao b 0) x).setCell (ao b 1) y).setCell (ao b 2) z).setCell (ao b 3) u).heap[b]?=some (.cells #[x,y,z,u] t (0,0))/\Keep (fun j=>j=b) W ((((W.setCell (ao b 0) x).setCell (ao b 1) y).setCell (ao b 2) z).setCell (ao b 3) u):=by
 have e:=yW W b 0 _ _ x h;have n:=yW _ b 1 _ _ y e;have g:=yW _ b 2 _ _ z n;have l:=yW _ b 3 _ _ u g;exact ⟨by simpa using l,Keep.setCell (S:=fun j=>j=b) (Keep.setCell (S:=fun j=>j=b) (Keep.setCell (S:=fun j=>j=b) (Keep.setCell (S:=fun j=>j=b) (Keep.refl _ _) _ (.inr rfl) _) _ (.inr rfl) _) _ (.inr rfl) _) _ (.inr rfl) _⟩
theorem bR {w:N6} {b:Nat} {x:Obj} (h:w.heap[b]?=some x) (o:Obj):(w.alloc o).heap[b]?=some x:= (yj w o b (Array.getElem?_eq_some_iff.1 h).1).trans h
theorem dD (w:N6) (xs:N4) (e:N7) {n:Nat} (a:w.heap.size=n):(w.alloc (.cells xs e)).heap[n]?=some (.cells xs e (0,0)):=by
 subst a;exact x6 w _
theorem cO {w:N6} {n:Nat} (h:w.heap.size=n) (o:Obj):(w.alloc o).heap.size=n+1:=by simp [h]
def uV (l1 l2:N3) (e:Ending):Prop:=∃d:Int,e=.returned (yY d)/\ -1<=d/\(d<0↔l1=l2)
theorem ph (q u:N0) (l1 l2:N3) (D E:Nat) (w:N6) (C:Rd w q (au .i64 l1)) (y:Rd w u (au .i64 l2)) (I:l1.length<=17592186043904) (B:l2.length<=17592186043904):Calls prog 111 #[.slice q l1.length D,.slice u l2.length E] w fun e w'=>uV l1 l2 e/\∃n,w'=w.drewN n:=by
 go_enter func111,ntmps111;go_wp2
 go_loopw [5] (fun i wr=>∃k:Nat,k<=l1.length/\k<=l2.length/\i=yY k/\l1.take k=l2.take k/\∃n,wr=w.drewN n) (fun i _=>l1.length+l2.length+1-(intOf i).toNat)
 ·exact ⟨0,yb _,yb _,rfl,rfl,0,rfl⟩
 case round=>
  obtain ⟨k,x,v,rfl,m,n,rfl⟩:=hrel;have l:=aa m;clear m;by_cases j:k<l1.length
  ·by_cases a:k<l2.length
   ·obtain ⟨K,M,rfl,J⟩:=C.num j;obtain ⟨N,L,rfl,G⟩:=y.num a;have F:decide ((l1.length:Int)<=(k:Int))=false:=by simp;omega
    have A:decide ((l2.length:Int)<=(k:Int))=false:=by simp;omega
    go_wp2
    go_quiet (fail)
    go_wp2
    ·have g:(l1.length<=k\/l2.length<=k)\/(nth l1 k != nth l2 k)=true:=by assumption
     have g:(nth l1 k != nth l2 k)=true:=g.resolve_left am;have p:=aa g;clear g;go_ret;refine ⟨⟨k,rfl,by omega,fun h=>am,fun h=>?_⟩,_,World.drewN_drewN _ _ _⟩;subst h;have:=p.o;simp at this
    ·have g:(¬l1.length<=k/\¬l2.length<=k)/\(nth l1 k != nth l2 k)=false:=by assumption
     have g:=g.2;have p:=aa g;clear g;go_roundw
     ·exact ⟨k+1,by omega,by omega,by go_num,eb j a l.o (by have:=p.o;simpa using this),_,rfl⟩
     ·simp [intOf];omega
   ·have F:decide ((l1.length:Int)<=(k:Int))=false:=by simp;omega
    have A:decide ((l2.length:Int)<=(k:Int))=true:=by simp;omega
    go_wp2
    go_quiet (fail)
    go_wp2;go_ret;refine ⟨⟨k,rfl,by omega,fun h=>am,fun h=>?_⟩,_,by first | rfl | exact World.drewN_drewN _ _ _⟩;subst h;omega
  ·by_cases a:k<l2.length
   ·obtain rfl:k=l1.length:=am;go_wp2
    go_quiet (fail)
    go_wp2;go_ret;refine ⟨⟨l1.length,rfl,by omega,fun h=>am,fun h=>?_⟩,_,by first | rfl | exact World.drewN_drewN _ _ _⟩;subst h;omega
   ·go_wp2;go_ret;refine ⟨⟨-1,rfl,by omega,fun _=>?_,fun _=>am⟩,n,rfl⟩;have H:k=l1.length:=am;exact fK am (by rw [<-H];exact l.o)
theorem mQ (i k:N0) (l1 l2:N3) (p m:Nat) (w:N6) (u:Rd w i (au .i64 l1)) (q:Rd w k (au .i64 l2)) (l:l1.length<=17592186043904) (j:l2.length<=17592186043904):Calls prog 76 #[.slice i l1.length p,.slice k l2.length m] w fun e w'=>e=.returned (.bool (decide (l1=l2)))/\∃n,w'=w.drewN n:=by
 have g:=ph i k l1 l2 p m w u q l j;have x:=aa g;clear g;go_enter func76,ntmps76;go_wp2_with fail;refine x.o.mono ?_;rintro e y ⟨⟨d,rfl,v,a⟩,n,rfl⟩;by_cases g:d<0
 ·have h:=a.1 g;have H:=aa h;clear h a;go_wp2;go_ret;exact ⟨aL (by rw [yS H.o];first | done | simpa using g),n,rfl⟩
 ·have h:¬l1=l2:=fun e=>g (a.2 e);have H:=aa h;clear h a;go_wp2;go_ret;exact ⟨aL (by rw [yT H.o];first | done | simpa using g),n,rfl⟩
theorem jM {P:Program} {t e:N7} {z:Value} {a:Nat} (T:cE P t e z 1 a) (w:N6) (o:z.cells=#[z]) (n:Nat) (u:a*n<=281474976710656) (v:n<=maxLen):
  ∃w',Sem.run P (Instr.makeSlice t (yY (n:Int)) (yY (n:Int))) w=.ok (.slice (some (ao w.heap.size 0)) n n) w'/\w'.ownsRow w.heap.size e 1 (.slice (some (ao w.heap.size 0)) n n) n (List.replicate n z)/\an w w':=by
 obtain ⟨i,x,l,m,j⟩:=T.info;obtain ⟨w',h,p,g⟩:=run_make_full (P:=P) w w.heap.size t e i z 1 T.und x l m .i64 .i64 n (by rw [j];exact u) v (x4 _);rw [o,Nat.mul_one,toList_madeCells_one] at p;exact ⟨w',h,p,⟨g.os,g.tape,g.output,g.size,fun k q=>g.block k q (by simp)⟩⟩
def cu (n:Nat) (i:Int):Prop:=0<=i/\i<n
instance (n:Nat) (i:Int):Decidable (cu n i):=by unfold cu;exact inferInstance
def pG (l:N8) (a:N3) (w:N6) (e:Ending) (w':N6):Prop:=an w w'/\ (((∀k,k<a.length->cu l.length (nth a k))/\∃v,e=.returned (.tuple #[v,.bool true])/\dY w w' (bf l a) a.length v)\/((¬∀k,k<a.length->cu l.length (nth a k))/\e=.returned (.tuple #[yZ,.bool false])))
theorem oZ (P c d:Nat) (A B:N0) (l:N8) (a:N3) (w:N6) (hP:w.heap[P]?=some (.cells #[.slice A l.length c] 25 (0,0))) (h:aQ rEx 2 w A l) (hl:l.length<=1048576) (hB:Rd w B (au .i64 a)) (hi:a.length<=1048576):Calls prog 255 #[.slice B a.length d,.func (.func 256) #[] #[(ap P)]] w (pG l a w):=by
 obtain ⟨n,hn⟩:∃n,a.length=n:=⟨_,rfl⟩;unfold pG;rw [hn] at hi ⊢;obtain ⟨N,hN⟩:∃N,l.length=N:=⟨_,rfl⟩;have G:=fp l a;have J:=fun k (hk:k<a.length)=>jV l a hk;rw [hn] at G J;have Y:=hP;rw [hN] at hl hP ⊢;obtain ⟨H,Hn,HN,HB,HP,ad,a9,a3⟩:=aj h hn hN hB hP Y G J;clear h hn hN hB hP Y G J;go_enter func255,ntmps255;go_wp2_with fail
 go_loopw [6,13] (fun v i wr=>∃k:Nat,k<=n/\i=yY k/\dY w wr (bf l a) k v/\al (∀j,j<k->cu N (nth a j))) (fun _ i _=>n-(intOf i).toNat)
 ·exact ⟨0,yb _,rfl,dY.zero w _,aa fun j hj=>am⟩
 case round=>
  obtain ⟨k,hk,rfl,E,D⟩:=hrel;obtain ⟨Al,cl,rfl⟩:=E.form;by_cases F:k<n
  ·have O:=E.b;obtain ⟨b,o,rfl,p⟩:=(HB.o.below O).num (show k<a.length by rw [Hn.o];exact F);obtain ⟨i,m⟩:∃i,nth a k=i:=⟨_,rfl⟩;rw [m] at p;have u:=(O.block P (xZ HP.o)).trans HP.o;by_cases hg:cu N i
   ·obtain ⟨j,rfl⟩:∃j:Nat,i=(j:Int):=⟨i.toNat,by have:=hg.1;omega⟩;have a7:j<N:=by have:=hg.2;omega
    have y:=a3.o k F;rw [m,Int.toNat_natCast] at y;have R:j<l.length:=by rw [HN.o];exact a7
    obtain ⟨x,hx⟩:∃x,l[j]?=some x:=⟨_,yC R⟩;have M:l.getD j ([],[])=x:=by simp [hx]
    rw [M] at y;have g:=oR P c j A l x wr (by rw [HN.o];exact u) (H.o.below aH O) hx;unfold lG at g;obtain ⟨K,Q⟩:∃K,x.1.length=K:=⟨_,rfl⟩;obtain ⟨L,a1⟩:∃L,x.2.length=L:=⟨_,rfl⟩;rw [Q,a1] at g;obtain ⟨I,C,Hx,Hg,Hi⟩:=ag g E y hg m;clear g E hx Q a1 O hg m y M u R;go_wp2_with fail;refine I.o.mono ?_;rintro e w3 ⟨B1,d1,B2,d2,rfl,ho,q⟩;have S:=(C.o.below q).below ((ya _ _).alloc (x4 _) (.cells #[.slice B1 K d1,.slice B2 L d2] 67));have Z:=(ho.base (base':=w.heap.size) C.o.b.size).below ((ya _ _).alloc (x4 _) (.cells #[.slice B1 K d1,.slice B2 L d2] 67));obtain ⟨a6,a4⟩:=ab S Z;clear S Z ho q p;obtain ⟨a8,h1,h2,h3,h4,h5⟩:=a6.o;obtain ⟨R1,R2,R3,R4,R5⟩:=ag h1 h2 h3 h4 h5;clear h1 h2 h3 h4 h5;have a0:=aa (show (w3.alloc (.cells #[.slice B1 K d1,.slice B2 L d2] 67)).heap.size=w3.heap.size+1 by simp);go_wp2_with (at_builtin;refine aE uo _ rfl (.tmp 25) (.tmp 27) rfl w.heap.size (.slice Al k cl) k _ rfl R1.o [.slice B1 K d1,.slice B2 L d2] (congrArg (fun b:Nat=>Value.slice (some (ao b 0)) 1 1) a0.o.symm) rfl (by simp [Value.oneCell']) am (by unfold maxLen;omega) R5.o.size ?_);intro g6 c6 w6 U W X;have a2:=dY.push R1.o R2.o R3.o R4.o R5.o Hx.o a4.o U W X;have a5:=aa a2;clear U W X a2;go_wp2_with fail;go_roundw
    case rel=>exact ⟨k+1,by omega,by go_num,a5.o,aa (p:=∀j,j<k+1->cu N (nth a j)) fun t ht=>by
     rcases yl t k with h | h
     ·exact D.out t h
     ·obtain rfl:t=k:=am
      rw [Hi.o];exact Hg.o⟩
    case measure=>simp [intOf];omega
   ·have T:i<0\/(N:Int)<=i:=by unfold cu at hg;omega
    have g:=rq P N c A i wr u T;obtain ⟨I,C,Hg,Hi⟩:=af g E hg m;clear g E O hg T m u;go_wp2_with fail;refine I.o.mono ?_;rintro e w3 ⟨rfl,q⟩;have V:=aa (C.o.b.trans (q.mono C.o.b.size));clear q p;go_wp2_with fail;go_ret2;exact ⟨V.o.alloc V.o.size _,.inr ⟨fun h=>Hg.o (by have:=h k F;rwa [Hi.o] at this),rfl⟩⟩
  ·obtain rfl:n=k:=am;have C:=aa E;clear E;go_wp2_with fail;go_ret2;exact ⟨C.o.b,.inl ⟨D.out,_,rfl,C.o⟩⟩
def cG (a b:Nat) (x:Ex):Prop:=x.1.length=a/\x.2.length=b
instance (a b:Nat) (x:Ex):Decidable (cG a b x):=by unfold cG;exact inferInstance
theorem pt (p q n m a b c d:Nat) (A B:N0) (w:N6) (l:w.heap[p]?=some (.cells #[yY a] 3 (0,0))) (k:w.heap[q]?=some (.cells #[yY b] 3 (0,0))):Calls prog 85 #[.agg #[.slice A n c,.slice B m d],(ap p),(ap q)] w fun e w'=>e=.returned (.bool (!decide (n=a/\m=b)))/\an w w':=by
 obtain ⟨x,y⟩:=bx1 l;obtain ⟨v,u⟩:=bx1 k;have l1:=xZ l;have l2:=xZ k;clear l k;by_cases h:n=a
 ·by_cases j:m=b
  ·have i:((n:Int) != (a:Int))=false:=by rw [h];simp
   have o:((m:Int) != (b:Int))=false:=by rw [j];simp
   have g:(!decide (n=a/\m=b))=false:=by simp [h,j]
   rw [g];clear h j g;go_enter func85,ntmps85;go_wp2;go_ret;exact ⟨rfl,(ya _ w).alloc (x4 _) _⟩
  ·have i:((n:Int) != (a:Int))=false:=by rw [h];simp
   have o:((m:Int) != (b:Int))=true:=by rw [bne_iff_ne];omega
   have g:(!decide (n=a/\m=b))=true:=by simp [j]
   rw [g];clear h j g;go_enter func85,ntmps85;go_wp2;go_ret;exact ⟨rfl,(ya _ w).alloc (x4 _) _⟩
 ·have i:((n:Int) != (a:Int))=true:=by rw [bne_iff_ne];omega
  have g:(!decide (n=a/\m=b))=true:=by simp [h]
  rw [g];clear h g;go_enter func85,ntmps85;go_wp2;go_ret;exact ⟨rfl,(ya _ w).alloc (x4 _) _⟩
def mx (l:N8) (a b:Nat) (w:N6) (e:Ending) (w':N6):Prop:=∃d:Int,e=.returned (yY d)/\ -1<=d/\d<=1048576/\(d<0↔∀x∈l,cG a b x)/\an w w'
theorem nK (P Q a b c:Nat) (A:N0) (l:N8) (w:N6) (O:w.heap[P]?=some (.cells #[yY a] 3 (0,0))) (L:w.heap[Q]?=some (.cells #[yY b] 3 (0,0))) (h:aQ rEx 2 w A l) (hl:l.length<=1048576):Calls prog 84 #[.slice A l.length c,.func (.func 85) #[] #[(ap P),(ap Q)]] w (mx l a b w):=by
 unfold mx;have G:=fun n m A c B d w' (k:an w w')=>pt P Q n m a b c d A B w' ((k.block _ (xZ O)).trans O) ((k.block _ (xZ L)).trans L);obtain ⟨n,R⟩:∃n,l.length=n:=⟨_,rfl⟩;rw [R] at hl ⊢;obtain ⟨H,X,M⟩:=ae h R G;clear h R G O L;go_enter func84,ntmps84;go_wp2_with fail
 go_loopw [5,8] (fun _ i wr=>∃k:Nat,k<=n/\i=yY k/\al (∀j x,j<k->l[j]?=some x->cG a b x)/\an w wr) (fun _ i _=>n-(intOf i).toNat)
 ·exact ⟨0,yb _,rfl,aa fun j x I=>am,ya _ _⟩
 case round=>
  obtain ⟨k,hk,rfl,u,q⟩:=hrel;by_cases J:k<n
  ·obtain ⟨x,D⟩:∃x,l[k]?=some x:=⟨_,yC (by rw [X.o];exact J)⟩;obtain ⟨b',o,A1,c1,A2,c2,rfl,a0,V,T,U,Y⟩:=bP (H.o.below aH q) D;have hc:=M.o x.1.length x.2.length A1 c1 A2 c2 wr q;by_cases E:cG a b x
   ·have F:(!decide (x.1.length=a/\x.2.length=b))=false:=by
     have:=E;unfold cG at this;simp [this.1,this.2]
    rw [F] at hc;obtain ⟨N,K,S,v⟩:=af hc D E q;clear hc D E F U Y q;go_wp2_with fail;refine N.o.mono ?_;rintro e Z ⟨rfl,g⟩;have C:=aa (v.o.trans (g.mono v.o.size));clear g V T;go_wp2_with fail;go_roundw
    case rel=>exact ⟨k+1,by omega,by go_num,aa (p:=∀j x,j<k+1->l[j]?=some x->cG a b x) fun j y I W=>by
     rcases yl j k with h | h
     ·exact u.out j y h W
     ·obtain rfl:j=k:=am
      have:=K.o;rw [W] at this;injection this with this;rw [this];exact S.o,C.o⟩
    case measure=>simp [intOf];omega
   ·have F:(!decide (x.1.length=a/\x.2.length=b))=true:=by
     have:=E;unfold cG at this;simp only [Bool.not_eq_true',yU];exact this
    rw [F] at hc;obtain ⟨N,K,S,v⟩:=af hc D E q;clear hc D E F U Y q;go_wp2_with fail;refine N.o.mono ?_;rintro e Z ⟨rfl,g⟩;have C:=aa (v.o.trans (g.mono v.o.size));clear g V T;go_wp2_with fail;go_ret;exact ⟨k,rfl,by omega,by omega,⟨fun h=>am,fun h=>absurd (h x (List.mem_of_getElem? K.o)) S.o⟩,C.o⟩
  ·obtain rfl:n=k:=am;have v:=aa q;clear q;go_wp2_with fail;go_ret;refine ⟨-1,rfl,by omega,by omega,⟨fun _ x D=>?_,fun _=>am⟩,v.o⟩;obtain ⟨j,I⟩:=List.getElem?_of_mem D;exact u.out j x (by have:=(yB.1 I).1;have:=X.o;omega) I
def jc (l:N8) (a b:Nat) (w:N6) (e:Ending) (w':N6):Prop:=an w w'/\∃d:Int,((∀x∈l,cG a b x)/\e=.returned (.tuple #[yY d,.bool true]))\/((¬∀x∈l,cG a b x)/\e=.returned (.tuple #[yY d,.bool false]))
theorem pi (a b c:Nat) (A:N0) (l:N8) (w:N6) (h:aQ rEx 2 w A l) (hl:l.length<=1048576):Calls prog 42 #[.slice A l.length c,yY a,yY b] w (jc l a b w):=by
 have k:∀(u q:Obj),an w ((w.alloc u).alloc q):=fun u q=>((ya _ w).alloc (x4 _) _).alloc (by simp) _
 have j:=nK w.heap.size (w.heap.size+1) a b c A l ((w.alloc (.cells #[yY a] 3)).alloc (.cells #[yY b] 3)) ((yj _ _ _ (by simp)).trans (x6 w _))
  (by have:=x6 (w.alloc (.cells #[yY a] 3)) (.cells #[yY b] 3);rwa [show (w.alloc (.cells #[yY a] 3)).heap.size=w.heap.size+1 by simp] at this) (h.below aH (k _ _)) hl
 obtain ⟨n,v⟩:∃n,l.length=n:=⟨_,rfl⟩;unfold mx at j;unfold jc;rw [v] at j ⊢;obtain ⟨D,E⟩:=ab j k;clear j k h v;go_enter func42,ntmps42;go_wp2_with fail;refine D.o.mono ?_;rintro e F ⟨d,rfl,C,x,i,m⟩;obtain ⟨p,g⟩:=ab ((E.o (.cells #[yY a] 3) (.cells #[yY b] 3)).trans (m.mono (by simp;omega))) i;clear m i;by_cases y:d<0
 ·have B:decide (d<0)=true:=by simp;omega
  go_wp2_with fail
  all_goals
   go_ret2;exact ⟨p.o,_,.inl ⟨g.o.1 y,rfl⟩⟩
 ·have B:decide (d<0)=false:=by simp;omega
  go_wp2_with fail
  all_goals
   go_ret2;exact ⟨p.o,_,.inr ⟨fun h=>by have:=g.o.2 h;omega,rfl⟩⟩
def fL (n size:Nat):Nat:=if n=0 then 0 else (n-1)/size+1
theorem rQ (n s:Nat) (a:1<=n):((n:Int)-1)/(s:Int)=(((n-1)/s:Nat):Int):=by
 rw [show ((n:Int)-1)=((n-1:Nat):Int) by omega,<-Int.natCast_ediv]
theorem gG (n size:Nat):fL n size<=n:=by
 unfold fL
 split
 ·omega
 ·have:=Nat.div_le_self (n-1) size;omega
theorem vM {n size k:Nat} (h:k<fL n size):k*size<n:=by
 unfold fL at h
 split at h
 ·omega
 ·have a:k<=(n-1)/size:=am;have e:=yX size a;have g:=Nat.div_mul_le_self (n-1) size;omega
def dE (n size k:Nat):N5:=(List.range k).flatMap fun j=>[yY ((j*size:Nat):Int),yY ((min (j*size+size) n:Nat):Int)]
theorem eo (n size k:Nat):dE n size (k+1)=dE n size k++[yY ((k*size:Nat):Int),yY ((min (k*size+size) n:Nat):Int)]:=by simp [dE,yO,List.flatMap_append]
theorem jo (n size k:Nat):(dE n size k).length=k*2:=by
 induction k with
 | zero=>simp [dE]
 | succ k ih=>rw [eo,yA,ih];simp;omega
theorem pC (n size:Nat) {j k:Nat} (h:j<k):(dE n size k)[j*2]?=some (yY ((j*size:Nat):Int))/\(dE n size k)[j*2+1]?=some (yY ((min (j*size+size) n:Nat):Int)):=by
 induction k with
 | zero=>omega
 | succ k ih=>
  rw [eo];rcases yl j k with a | a
  ·obtain ⟨e,g⟩:=ih a;have hl:=jo n size k;rw [yD am,yD am];exact ⟨e,g⟩
  ·obtain rfl:j=k:=am;have hl:=jo n size j;rw [yE am,yE am,hl];simp
theorem pq (n batch:Nat) (a:1<=batch) (i:batch<=n):fL (n-n%batch) batch=n/batch:=by
 have k:=Nat.div_add_mod n batch;have e:=Nat.div_pos i a;have h:n-n%batch=batch*(n/batch):=am;have j:1<=batch*(n/batch):=Nat.mul_pos a e;unfold fL;rw [if_neg am,h]
 have g:batch*(n/batch)-1=batch*(n/batch-1)+(batch-1):=by
  have:batch*(n/batch)=batch*(n/batch-1)+batch:=by rw [<-Nat.mul_succ];congr 1;omega
  omega
 rw [g,Nat.mul_add_div a,show (batch-1)/batch=0 from Nat.div_eq_of_lt am];omega
theorem qx (n batch j:Nat) (i:1<=batch) (a:j<n/batch):min (j*batch+batch) (n-n%batch)=j*batch+batch:=by
 have g:=Nat.div_add_mod n batch;have e:(j+1)*batch<=(n/batch)*batch:=yX _ a;rw [yP] at e;have h:(n/batch)*batch=batch*(n/batch):=Nat.mul_comm _ _;omega
theorem ip (n batch j:Nat) (a:j<n/batch):j*batch+batch<=n:=by
 have g:=Nat.div_mul_le_self n batch;have e:(j+1)*batch<=(n/batch)*batch:=yX _ a;rw [yP] at e;omega
theorem ml (n size:Nat) (a:1<=size):fL n size=(n+size-1)/size:=by
 unfold fL
 split
 ·subst_vars;rw [yR,Nat.div_eq_of_lt am]
 ·rw [show n+size-1=(n-1)+size by omega,Nat.add_div_right _ a]
theorem qv (n:Int) (w:N6):Calls prog 48 #[yY n] w fun e w'=>e=.returned (.bool (!decide (1<=n/\n<=1048576)))/\w=w':=by
 by_cases a:n<1
 ·go_enter func48,ntmps48;go_wp2;go_ret;exact ⟨aL (by first | (simp;omega) | (simp;done)),rfl⟩
 ·by_cases g:1048576<n
  ·go_enter func48,ntmps48;go_wp2;go_ret;exact ⟨aL (by first | (simp;omega) | (simp;done)),rfl⟩
  ·go_enter func48,ntmps48;go_wp2;go_ret;exact ⟨aL (by first | (simp;omega) | (simp;done)),rfl⟩
def vW (sz:N3) (e:Ending):Prop:=∃d:Int,e=.returned (yY d)/\ -1<=d/\(d<0↔∀k,k<sz.length->1<=nth sz k/\nth sz k<=1048576)
theorem lj (A:N0) (sz:N3) (c:Nat) (w:N6) (hA:Rd w A (au .i64 sz)) (hl:sz.length<=17592186043904):Calls prog 94 #[.slice A sz.length c,.func (.func 48) #[] #[]] w fun e w'=>vW sz e/\w=w':=by
 obtain ⟨n,x⟩:∃n,sz.length=n:=⟨_,rfl⟩;have hw:=fun z=>qv z w;rw [x] at hl ⊢;obtain ⟨HA,u,y⟩:=ae hA x hw;clear hA x hw;go_enter func94,ntmps94;go_wp2_with fail
 go_loop [5,8] (fun _ i=>∃k:Nat,k<=n/\i=yY k/\al (∀j,j<k->1<=nth sz j/\nth sz j<=1048576)) (fun _ i=>n-(intOf i).toNat)
 ·exact ⟨0,yb _,rfl,aa fun j B=>am⟩
 case round=>
  obtain ⟨k,C,rfl,a⟩:=hrel;by_cases q:k<n
  ·obtain ⟨b,o,rfl,p⟩:=HA.o.num (show k<sz.length by rw [u.o];exact q);by_cases l:1<=nth sz k/\nth sz k<=1048576
   ·have m:(!decide (1<=nth sz k/\nth sz k<=1048576))=false:=by simp [l.1,l.2]
    have hw:=y.o (nth sz k);rw [m] at hw;obtain ⟨v,g⟩:=ab l hw;clear l hw m;go_wp2_with fail;refine g.o.mono ?_;rintro e w' ⟨rfl,rfl⟩;go_wp2_with fail;go_round
    case rel=>exact ⟨k+1,by omega,by go_num,aa (p:=∀j,j<k+1->1<=nth sz j/\nth sz j<=1048576) fun j B=>by
     rcases yl j k with h | h
     ·exact a.out j h
     ·obtain rfl:j=k:=am
      exact v.o⟩
    case measure=>simp [intOf];omega
   ·have m:(!decide (1<=nth sz k/\nth sz k<=1048576))=true:=by simp;omega
    have hw:=y.o (nth sz k);rw [m] at hw;obtain ⟨v,g⟩:=ab l hw;clear l hw m;go_wp2_with fail;refine g.o.mono ?_;rintro e w' ⟨rfl,rfl⟩;go_wp2_with fail;go_ret;exact ⟨⟨k,rfl,by omega,fun h=>am,fun h=>absurd (h k (by rw [u.o];exact q)) v.o⟩,rfl⟩
  ·obtain rfl:k=n:=am;go_wp2_with fail;go_ret;exact ⟨⟨-1,rfl,by omega,fun _=>by rw [u.o];exact a.out,fun _=>am⟩,rfl⟩
theorem mj (A:N0) (sz:N3) (c:Nat) (w:N6) (hA:Rd w A (au .i64 sz)) (hl:sz.length<=17592186043904) (h:¬∀k,k<sz.length->1<=nth sz k/\nth sz k<=1048576):Calls prog 49 #[.slice A sz.length c,.func (.func 48) #[] #[]] w fun e w'=>e=.returned (.bool true)/\w=w':=by
 have g:=lj A sz c w hA hl;obtain ⟨j,H⟩:=ab g h;clear g hA h;go_enter func49,ntmps49;go_wp2_with fail;refine j.o.mono ?_;rintro e w' ⟨⟨d,rfl,l,a⟩,rfl⟩
 have i:0<=d:=by
  rcases Int.lt_or_le d 0 with h | h
  ·exact absurd (a.1 h) H.o
  ·exact h
 clear a;go_wp2;go_ret;exact ⟨aL (by simp [i]),rfl⟩
theorem nP (A:N0) (sz:N3) (c:Nat) (w:N6) (hA:Rd w A (au .i64 sz)) (hl:sz.length<=17592186043904) (h:∀k,k<sz.length->1<=nth sz k/\nth sz k<=1048576):Calls prog 49 #[.slice A sz.length c,.func (.func 48) #[] #[]] w fun e w'=>e=.returned (.bool false)/\w=w':=by
 have g:=lj A sz c w hA hl;obtain ⟨i,H⟩:=ab g h;clear g hA h;go_enter func49,ntmps49;go_wp2_with fail;refine i.o.mono ?_;rintro e w' ⟨⟨d,rfl,j,a⟩,rfl⟩;have l:d<0:=a.2 H.o;clear a;go_wp2;go_ret;exact ⟨aL (by simp;omega),rfl⟩
theorem np (m N:Nat) (P S:Nat) (j h g:Value) (w:N6) (hP:w.heap[P]?=some (.cells #[(ap S)] 57 (0,0))) (a:w.heap[S]?=some (.cells #[j,h,g,yY N] 109 (0,0))) (D:N<=17592202821632) (hm:m<=17592202821632):Calls prog 51 #[yY m,(ap P)] w fun e w'=>e=.returned (.agg #[yY N,yY ((N+m:Nat):Int)])/\w'.heap[S]?=some (.cells #[j,h,g,yY ((N+m:Nat):Int)] 109 (0,0))/\Keep (fun i=>i=S) w w':=by
 obtain ⟨u,C⟩:=bx1 hP;obtain ⟨⟨y,A,x,q⟩,B⟩:=bx4 a;have n:=xZ hP;have l:=xZ a;have p:=aa a;clear a hP;rw [Int.natCast_add];go_enter func51,ntmps51;go_wp2_with fail
 go_region
 all_goals go_wp2_with fail
 refine yk (v:=.agg #[yY N,yY ((N:Int)+(m:Int))]) (by simp [results,results51,go_sem]) rfl ⟨rfl,?_,?_⟩
 ·have k:(w.setCell (ao S 3) (yY ((N:Int)+(m:Int)))).heap[S]?=some (.cells #[j,h,g,yY ((N:Int)+(m:Int))] 109 (0,0)):=yW w S 3 _ _ _ p.o;have l1:=xZ k;exact (yj _ _ S (by simp at l1 ⊢;omega)).trans ((yj _ _ S l1).trans k)
 ·exact (((Keep.setCell (S:=fun i=>i=S) (Keep.refl _ w) (ao S 3) (.inr rfl) _).alloc _).alloc _).drew
theorem gj {T:N7} {B:Nat} {u v:N6} {b:Nat} {sz:N3} (h:aR T (cZ B u) b sz) (a:Agr B u v):aR T v b sz:=by
 obtain ⟨g,p,j,e,i,l,n,m,k,o⟩:=h;exact ⟨g,p,j,e,i,l,mG n a,fA m a,fA k a,fA o a⟩
theorem jy:cE prog 107 111 (.agg #[yY 0,yY 0]) 2 16:=⟨underlying107,info_parts (by kernel_rfl),rfl,by decide⟩
def xV (sz:N3) (j:Value) (P S:Nat) (k:Nat) (l w:N6):Prop:=
 ∃e h g a,w.heap[P]?=some (.cells #[(ap S)] 57 (0,0))/\w.heap[S]?=some (.cells #[j,.slice e k h,.slice g k a,yY (aF sz k:Int)] 109 (0,0))/\
  w.ownsRow S 111 2 (.slice e k h) k (iq sz k)/\w.ownsRow S 111 2 (.slice g k a) k (iM sz k)/\(∀i,(Value.slice e k h).ownBlock=some i->(Value.slice g k a).ownBlock≠some i)/\Below S l w
theorem oc (A:N0) (sz:N3) (c:Nat) (w:N6) (hc:sz.length<=c) (hm:c<=9223372036854775807) (h:¬(2<=sz.length/\sz.length<=16)):Calls prog 16 #[.slice A sz.length c] w fun e w'=>e=.returned (.tuple #[.pointer none,yY 5])/\w=w':=by
 by_cases g:sz.length<2
 ·go_enter func16,ntmps16;go_wp2;go_ret2;exact ⟨rfl,rfl⟩
 ·have a:16<sz.length:=am;go_enter func16,ntmps16;go_wp2;go_ret2;exact ⟨rfl,rfl⟩
theorem n9 (A:N0) (sz:N3) (c:Nat) (w:N6) (hA:Rd w A (au .i64 sz)) (hc:sz.length<=c) (hm:c<=9223372036854775807) (h:2<=sz.length/\sz.length<=16) (i:¬∀k,k<sz.length->1<=nth sz k/\nth sz k<=1048576):Calls prog 16 #[.slice A sz.length c] w fun e w'=>e=.returned (.tuple #[.pointer none,yY 5])/\w=w':=by
 obtain ⟨l,j⟩:=h;have a:=mj A sz c w hA am i;have g:=aa a;clear a i hA;go_enter func16,ntmps16;go_wp2_with fail;refine g.o.mono ?_;rintro e w' ⟨rfl,rfl⟩;go_wp2;go_ret2;exact ⟨rfl,rfl⟩
theorem mL (A:N0) (sz:N3) (c:Nat) (w:N6) (hA:Rd w A (au .i64 sz)) (hc:sz.length<=c) (hm:c<=9223372036854775807) (h:aX sz):Calls prog 16 #[.slice A sz.length c] w fun e w'=>an w w'/\((1048576<aF sz (sz.length-1)/\e=.returned (.tuple #[.pointer none,yY 4]))\/
   (aF sz (sz.length-1)<=1048576/\∃b,e=.returned (.tuple #[(ap b),yY 0])/\aR 109 (cZ w.heap.size w') b sz/\w.heap.size<=b)):=by
 obtain ⟨b,o,rfl,_⟩:=hA.num (show 0<sz.length by have:=h.1.1;omega);have b4:=nP (some (ao b o)) sz c w hA (by have:=h.1.2;omega) h.2;have b7:=ij (some (ao b o)) sz c w hA (by have:=h.1.2;omega);obtain ⟨n,hn⟩:∃n,sz.length=n:=⟨_,rfl⟩;obtain ⟨h1,h2⟩:=h.1;rw [hn] at h1 h2 b4 b7 hc ⊢;have dm:¬(c=1):=am;have dh:1<=c:=am;obtain ⟨d0,d3,c6,HR,Hn⟩:=ag b4 b7 hA h hn;clear b4 b7 hA h hn;go_enter func16,ntmps16;go_wp2_with fail;refine d0.o.mono ?_;rintro e w' ⟨rfl,rfl⟩;go_wp2_with fail;refine d3.o.mono ?_;rintro e a ⟨v,rfl,H,hb⟩;obtain ⟨Ac,cc,rfl,c0⟩:=aB H;obtain ⟨c8,X,dk⟩:=ae H hb c0;clear H hb c0;go_wp2_with fail
 go_loopw [30] (fun i wr=>∃k:Nat,k<=n-1/\i=yY k/\xV sz (.slice Ac n cc) (a.heap.size+1) a.heap.size k a wr) (fun i _=>n-(intOf i).toNat)
 case atStart=>
  refine ⟨0,yb _,rfl,none,0,none,0,?_,?_,yi _ _ _ _,yi _ _ _ _,(fun i l=>by cases l),?_⟩
  ·have:=x6 (a.alloc (.cells #[.slice Ac n cc,yZ,yZ,yY 0] 109)) (.cells #[(ap a.heap.size)] 57);simpa using this
  ·exact (yj _ _ _ (by simp)).trans (x6 a _)
  ·exact ak
 case round=>
  obtain ⟨k,hk,rfl,A1,c1,A2,c2,hP,hS,bF,bv,b8,hW⟩:=hrel;have a1:k<sz.length:=by rw [Hn.o];omega
  have cy:=HR.o.bound a1;obtain ⟨x0,xf⟩:=bx1 hP;obtain ⟨⟨s0,s1,s2,s3⟩,sf⟩:=bx4 hS;have cm:=xZ hP;have cp:=xZ hS;obtain ⟨HP,HS,a3,a5,HN,HW⟩:=ah hP hS bF bv b8 hW;clear hP hS bF bv b8 hW;by_cases da:k<n-1
  ·have m:k+1<sz.length:=by rw [Hn.o];omega
   have bD:=HR.o.mul m;have z0:=HR.o.at a1;have z1:=HR.o.at m;obtain ⟨_,_,e',p0⟩:=c6.o.num a1;injection e' with e';injection e' with e1 e2 _;subst e1;subst e2
   obtain ⟨_,_,e',p1⟩:=c6.o.num m;injection e' with e';injection e' with e1 e2 _;subst e1;subst e2
   have bk:b<w.heap.size:=aw p0;have bV:b<a.heap.size:=by have:=X.o.size;omega
   have b2:=((X.o.trans (HW.o.mono X.o.size)).cell (p:=(ao b (o+k))) bk).trans p0;have cs:=((X.o.trans (HW.o.mono X.o.size)).cell (p:=⟨b,o+(k+1),none⟩) bk).trans p1;rw [z0.2.2] at b2;rw [z1.2.2,show o+(k+1)=o+1+k by omega] at cs;have x:bI sz k=aF sz k+szN sz (k+1)*szN sz k:=rfl;obtain ⟨p,hp⟩:∃p,szN sz (k+1)*szN sz k=p:=⟨_,rfl⟩;rw [hp] at bD x;have u:=fun W (h1:W.heap[a.heap.size+1]?=_) (h2:W.heap[a.heap.size]?=_)=>np p (aF sz k) (a.heap.size+1) a.heap.size (.slice Ac n cc) (.slice A1 k c1) (.slice A2 k c2) W h1 h2 cy am;rw [<-x] at u;have cz:(szN sz (k+1):Int)*(szN sz k:Int)=(p:Int):=by rw [<-Int.natCast_mul,hp]
   have cx:IntKind.i64.wrap (p:Int)=(p:Int):=yc _ am;obtain ⟨bO,d7⟩:=ab u x;clear u p0 p1 z0 z1 x;have dc:(k:Int)<n:=am;go_wp2_with fail;have j:(fun w':N6=>w'.cell? (ao (a.heap.size+1) 0)=some ((ap a.heap.size))/\w'.cell? (ao a.heap.size 1)=some (.slice A1 k c1)/\w'.cell? (ao b (o+k))=some (yY (szN sz k))) wr.drew:=⟨x0,s1,b2⟩;refine XA.g 15 (fun w':N6=>w'.cell? (ao (a.heap.size+1) 0)=some ((ap a.heap.size))/\w'.cell? (ao a.heap.size 1)=some (.slice A1 k c1)/\w'.cell? (ao b (o+k))=some (yY (szN sz k))) ?_;refine XA.t ?_ [0,1,2,3,4,5,6,7,8,9,10,11] j ?_;refine XA.o 12 (fun K q=>?_);go_simp;refine (bO.o wr.drew HP.o HS.o).mono ?_;rintro e w3 ⟨rfl,a2,P⟩;have g0:=P.cell (p:=(ao (a.heap.size+1) 0)) x0 (by simp);have g1:=x7 w3 _ 1 _ _ _ a2;have g2:=P.cell (p:=(ao b (o+k))) b2 (by simp;omega);have l0:a.heap.size+1<w3.heap.size:=aw g0;have l1:a.heap.size<w3.heap.size:=aw g1;have l2:b<w3.heap.size:=aw g2;obtain ⟨bm,G⟩:=ab a2 P;clear a2 P;dsimp only;refine q.out _ _ ⟨g0,g1,g2⟩ (fun j=>?_);clear q K;refine XA.o 13 (fun K q=>?_);go_simp;refine q.out _ _ ⟨ay g0 _,ay g1 _,ay g2 _⟩ (fun j=>?_);clear q K;have bA:=G.o.own (aZ a3.o 1) (fun i l e=>ar HS.o (by decide) a3.o (by rw [l,e]));have bz:=(G.o.block _ (xZ HP.o) am).trans HP.o;obtain ⟨L,bg⟩:=ab bA bz;clear bA bz;refine XA.o 14 (fun K q=>?_);refine cN jy (.tmp 39) (.tmp 48) rfl rfl a.heap.size (.slice A1 k c1) k (iq sz k) rfl (L.o.alloc _) (some (ao w3.heap.size 0)) 1 1 [yY (aF sz k:Int),yY (bI sz k:Int)] rfl (dO w3 _ _ _ rfl) rfl (by simp [Value.oneCell']) am (by unfold maxLen;omega) (by simp;omega) ?_;intro A4 c4 N c5 ce J be;have a8:=bX bg.o (by decide) L.o J;have T:=bX bm.o (by decide) L.o J;have i0:=x7 N _ 0 _ _ _ a8;have i1:=x7 N _ 1 _ _ _ T;have i2:=pw g2 bV L.o J;have i3:=frozen_of_row N _ 1 _ _ T;obtain ⟨a9,bh,O,bw,bG,bb⟩:=ah c5 a8 T J be ce;clear c5 a8 T J be ce;dsimp only;refine q.out _ _ ⟨i0,i1,i2⟩ (fun j=>?_);clear q K j;refine XA.e ?_;simp only [yy,yz];go_wp2_with fail;obtain ⟨y,R⟩:=kQ (G.o.own (aZ a5.o 1) (fun i l e=>ar HS.o (by decide) a5.o (by rw [l,e]))) HN.o bw.o bG.o;have D:=(Below.heap_setCell N (ao a.heap.size 1) (.slice A4 (k+1) c4) (a.heap.size+1) (by simp)).trans bh.o;have E:=yW N a.heap.size 1 _ _ (.slice A4 (k+1) c4) O.o;have av:Keep (fun i=>i=a.heap.size) N (N.setCell (ao a.heap.size 1) (.slice A4 (k+1) c4)):=Keep.setCell (S:=fun i=>i=a.heap.size) (Keep.refl _ _) (ao a.heap.size 1) (.inr rfl) _;have M:=av.own a9.o (fun i l e=>ar O.o (by decide) a9.o (by rw [l,e]));have I:=av.own y (fun i l e=>ar O.o (by decide) y (by rw [l,e]))
   have b0:an a (N.setCell (ao a.heap.size 1) (.slice A4 (k+1) c4)):=
    ((HW.o.drew.trans ((G.o.toBelow (B:=a.heap.size) (by simp;omega) (fun i l=>am)))).trans ((((ya _ w3).alloc am _)).trans bb.o)).setCell (by simp) _
   rw [<-gW] at M;obtain ⟨w5,bs⟩:∃w5,w5=N.setCell (ao a.heap.size 1) (.slice A4 (k+1) c4):=⟨_,rfl⟩;rw [<-bs] at D E M I b0 ⊢;clear bs av y i0 i1 i2 i3 g0 g1 g2 l0 l1 l2 x0 xf s0 s1 s2 s3 sf;obtain ⟨x0,xf⟩:=bx1 D;have y2:=x7 w5 _ 2 _ _ _ E;have a6:=cR sz k;have z1:=(HR.o.at m).2.1;have d8:=HR.o.bound m;have u:=fun W (h1:W.heap[a.heap.size+1]?=_) (h2:W.heap[a.heap.size]?=_)=>np (szN sz (k+1)) (bI sz k) (a.heap.size+1) a.heap.size (.slice Ac n cc) (.slice A4 (k+1) c4) (.slice A2 k c2) W h1 h2 am am;rw [a6] at u;have cm:=xZ D;have cp:=xZ E;obtain ⟨d2,b3,a7,bd,Z,co,d1,d9⟩:=aj u D E M I R b0 a6;clear u D E M I R b0 a6 bO G bm L bg a9 bh O bw bG bb cz cx;go_wp2_with fail;have j:(fun w':N6=>w'.cell? (ao (a.heap.size+1) 0)=some ((ap a.heap.size))/\w'.cell? (ao a.heap.size 2)=some (.slice A2 k c2)) w5.drew:=⟨x0,y2⟩;refine XA.g 10 (fun w':N6=>w'.cell? (ao (a.heap.size+1) 0)=some ((ap a.heap.size))/\w'.cell? (ao a.heap.size 2)=some (.slice A2 k c2)) ?_;refine XA.t ?_ [0,1,2,3,4,5,6] j ?_;refine XA.o 7 (fun K q=>?_);go_simp;refine (d2.o w5.drew b3.o a7.o).mono ?_;rintro e w6 ⟨rfl,b5,a4⟩;have g0:=a4.cell (p:=(ao (a.heap.size+1) 0)) x0 (by simp);have g1:=x7 w6 _ 2 _ _ _ b5;have l0:a.heap.size+1<w6.heap.size:=aw g0;obtain ⟨cv,V⟩:=ab b5 a4;clear b5 a4;dsimp only;refine q.out _ _ ⟨g0,g1⟩ (fun j=>?_);clear q K;refine XA.o 8 (fun K q=>?_);go_simp;refine q.out _ _ ⟨ay g0 _,ay g1 _⟩ (fun j=>?_);clear q K;have c3:=V.o.own (aZ Z.o 1) (fun i l e=>ar a7.o (by decide) Z.o (by rw [l,e]));have bB:=(V.o.block _ (xZ b3.o) am).trans b3.o;obtain ⟨b1,ct⟩:=ab c3 bB;clear c3 bB;refine XA.o 9 (fun K q=>?_);refine cN jy (.tmp 56) (.tmp 60) rfl rfl a.heap.size (.slice A2 k c2) k (iM sz k) rfl (b1.o.alloc _) (some (ao w6.heap.size 0)) 1 1 [yY (bI sz k:Int),yY (aF sz (k+1):Int)] rfl (dO w6 _ _ _ rfl) rfl (by simp [Value.oneCell']) am (by unfold maxLen;omega) (by simp;omega) ?_;intro A7 c7 Y bl cb Q bM;have ad:=bX ct.o (by decide) b1.o Q;have U:=bX cv.o (by decide) b1.o Q;have i0:=x7 Y _ 0 _ _ _ ad;have i1:=x7 Y _ 2 _ _ _ U;have i3:=frozen_of_row Y _ 2 _ _ U;obtain ⟨bo,ck,b6,cj,d6,cr⟩:=ah bl ad U Q bM cb;clear bl ad U Q bM cb;dsimp only;refine q.out _ _ ⟨i0,i1⟩ (fun j=>?_);clear q K j;refine XA.e ?_;simp only [yy,yz];go_wp2_with fail;obtain ⟨y,R⟩:=kQ (V.o.own (aZ bd.o 1) (fun i l e=>ar a7.o (by decide) bd.o (by rw [l,e]))) (fun i l e=>co.o i e l) cj.o d6.o;have d4:=(Below.heap_setCell Y (ao a.heap.size 2) (.slice A7 (k+1) c7) (a.heap.size+1) (by simp)).trans ck.o;have cg:=yW Y a.heap.size 2 _ _ (.slice A7 (k+1) c7) b6.o;have bC:Keep (fun i=>i=a.heap.size) Y (Y.setCell (ao a.heap.size 2) (.slice A7 (k+1) c7)):=Keep.setCell (S:=fun i=>i=a.heap.size) (Keep.refl _ _) (ao a.heap.size 2) (.inr rfl) _;have b9:=bC.own bo.o (fun i l e=>ar b6.o (by decide) bo.o (by rw [l,e]));have bN:=bC.own y (fun i l e=>ar b6.o (by decide) y (by rw [l,e]))
   have cA:an a (Y.setCell (ao a.heap.size 2) (.slice A7 (k+1) c7)):=
    ((d1.o.drew.trans ((V.o.toBelow (B:=a.heap.size) (by simp;omega) (fun i l=>am)))).trans ((((ya _ w6).alloc am _)).trans cr.o)).setCell (by simp) _
   rw [<-il] at b9;go_roundw
   ·exact ⟨k+1,by omega,by go_num,A4,c4,A7,c7,d4,cg,bN,b9,fun i l e=>R i e l,cA⟩
   ·simp [intOf];omega
  ·obtain rfl:k=n-1:=am;have C:sz.length-1=n-1:=by rw [Hn.o]
   have cd:aR 109 (cZ w.heap.size wr) a.heap.size sz:=by
    have d5:=X.o.size;refine ⟨Ac,cc,A1,c1,A2,c2,?_,?_,?_,?_⟩
    ·rw [Hn.o,eN d5];exact HS.o
    ·exact Rd.own (ed (az c8.o HW.o) (x4 _))
    ·rw [C];exact Rd.own (ed a3.o am)
    ·rw [C];exact Rd.own (ed a5.o am)
   have a0:an w wr:=X.o.trans (HW.o.mono X.o.size);obtain ⟨bp,F,bc⟩:=ae cd a0 X.o.size;clear cd a0 C;by_cases c9:1048576<aF sz (n-1)
   ·have cl:(1048576:Int)<aF sz (n-1):=am;go_wp2_with fail;go_ret2;exact ⟨F.o,.inl ⟨c9,rfl⟩⟩
   ·have cl:¬(1048576:Int)<aF sz (n-1):=am;go_wp2_with fail;go_ret2
    first | exact ⟨F.o,by omega,_,rfl,bp.o,bc.o⟩ | exact ⟨F.o,.inr ⟨by omega,_,rfl,bp.o,bc.o⟩⟩
theorem lr (n size:Nat) (w:N6) (v:n<=1048576) (q:1<=size) (l:size<=1048576):Calls prog 191 #[yY n,yY size] w fun e w'=>e=.returned (yY (fL n size:Int))/\w=w':=by
 have o:¬((size:Int)<1):=am;by_cases i:n=0
 ·subst i;go_enter func191,ntmps191;go_wp2;go_ret;exact ⟨rfl,rfl⟩
 ·have m:¬((n:Int)<1):=am;have g:(0:Int)<=(n:Int)-1:=am;have j:=rQ n size am;have h:=Nat.div_le_self (n-1) size;have hc:fL n size=(n-1)/size+1:=by unfold fL;rw [if_neg i]
  rw [hc];obtain ⟨y,a⟩:∃y,(n-1)/size=y:=⟨_,rfl⟩;rw [a] at j h ⊢;have k:((n:Int)-1).tdiv size=y:=by rw [Int.tdiv_eq_ediv_of_nonneg g,j]
  obtain ⟨u,p⟩:=ab a hc;clear a hc i;go_enter func191,ntmps191;go_wp2;go_ret;exact ⟨rfl,rfl⟩
theorem pA (n size:Nat) (w:N6) (T:n<=1048576) (S:1<=size) (H:size<=1048576):Calls prog 187 #[yY n,yY size] w fun e w'=>∃v,e=.returned v/\w'.ownsRow w.heap.size 111 2 v (fL n size) (dE n size (fL n size))/\an w w':=by
 have q:=lr n size w T S H;have K:=gG n size;have j:=fun k (h:k<fL n size)=>vM h;obtain ⟨m,hm⟩:∃m,fL n size=m:=⟨_,rfl⟩;rw [hm] at q K j ⊢;obtain ⟨G,I⟩:=ab q j;clear q hm j;go_enter func187,ntmps187;go_wp2_with fail;refine G.o.mono ?_;rintro e w' ⟨rfl,rfl⟩;go_wp2_with fail
 go_loopw [5,11] (fun v x wr=>∃k:Nat,k<=m/\x=yY k/\wr.ownsRow w.heap.size 111 2 v k (dE n size k)/\an w wr) (fun _ x _=>m-(intOf x).toNat)
 ·exact ⟨0,yb _,rfl,yi _ _ _ _,ya _ _⟩
 case round=>
  obtain ⟨k,V,rfl,a,D⟩:=hrel;by_cases F:k<m
  ·have J:=I.o k F;obtain ⟨y,E⟩:∃y,k*size=y:=⟨_,rfl⟩;rw [E] at J;have M:(k:Int)*(size:Int)=(y:Int):=by rw [<-E];push_cast;rfl
   obtain ⟨L,N,rfl,_⟩:=aB a;obtain ⟨O,g,B⟩:=ae E a D;clear a D E;by_cases R:(size:Int)<=(n:Int)-y
   ·have C:(y:Int)+size<=n:=am;go_wp2_with (at_builtin;refine aE jy _ rfl (.tmp 17) (.tmp 27) rfl w.heap.size (.slice L k N) k _ rfl g.o [yY (y:Int),yY ((y:Int)+size)] rfl rfl (aV .i64 [_,_]) am (by unfold maxLen;omega) B.o.size ?_);intro P U Q i l A;obtain ⟨u,p⟩:=ab i (B.o.trans l);clear i l A;go_wp2_with fail;go_roundw
    case rel=>
     refine ⟨k+1,by omega,by go_num,?_,p.o⟩;rw [eo,O.o,show ((min (y+size) n:Nat):Int)=(y:Int)+size by omega];exact u.o
    case measure=>simp [intOf];omega
   ·have C:(n:Int)-y<size:=am;go_wp2_with (at_builtin;refine aE jy _ rfl (.tmp 17) (.tmp 27) rfl w.heap.size (.slice L k N) k _ rfl g.o [yY (y:Int),yY ((y:Int)+((n:Int)-y))] rfl rfl (aV .i64 [_,_]) am (by unfold maxLen;omega) B.o.size ?_);intro P U Q i l A;obtain ⟨u,p⟩:=ab i (B.o.trans l);clear i l A;go_wp2_with fail;go_roundw
    case rel=>
     refine ⟨k+1,by omega,by go_num,?_,p.o⟩;rw [eo,O.o,show ((min (y+size) n:Nat):Int)=(y:Int)+((n:Int)-y) by omega];exact u.o
    case measure=>simp [intOf];omega
  ·obtain rfl:m=k:=am;obtain ⟨g,B⟩:=ab a D;clear a D;go_wp2_with fail;go_ret;exact ⟨_,rfl,g.o,B.o⟩
def swp (p:N3) (i j:Nat):N3:=(p.set i (nth p j)).set j (nth p i)
theorem vb (p:N3) (i j:Nat):(swp p i j).length=p.length:=by simp [swp]
theorem pL {p:N3} {i j:Nat} (e:i<p.length) (a:j<p.length) (k:Nat):nth (swp p i j) k=if k=j then nth p i else if k=i then nth p j else nth p k:=by
 unfold swp;rw [eh,eh,List.length_set];simp only [e,a,and_true]
theorem mI {p:N3} {i j:Nat} (h:i<p.length) (a:j<p.length):(p.set j (nth p i)).set i (nth p j)=swp p i j:=by
 refine fd (by simp [swp]) fun k l=>?_;rw [pL h a,eh,eh,List.length_set];simp only [h,a,and_true];by_cases g:k=i
 ·subst g;by_cases e:k=j
  ·subst e;simp
  ·simp [e]
 ·simp [g]
def j4 (n:Nat):N3:=bH n fun k=>(k:Int)
theorem tZ (n:Nat):(j4 n).length=n:=aG _ _
def dy (n:Nat) (d:Nat->Nat):Nat->N3
 | 0=>j4 n
 | k+1=>swp (dy n d k) (n-1-k) (d k)
theorem fl (n:Nat) (d:Nat->Nat) (k:Nat):(dy n d k).length=n:=by
 induction k with
 | zero=>exact tZ n
 | succ k ih=>rw [dy,vb,ih]
theorem sS {n:Nat} {d:Nat->Nat} (k:Nat) (g:∀j,j<k->d j<n-j) (h:k<=n-1):∀i,i<n->0<=nth (dy n d k) i/\nth (dy n d k) i<n:=by
 induction k with
 | zero=>intro i e;unfold dy j4;rw [aI _ e];omega
 | succ k a=>
  have a:=a (fun j l=>g j am) am;have m:=g k am;intro i e;rw [dy,pL (by rw [fl];omega) (by rw [fl];omega)]
  split
  ·exact a _ am
  ·split
   ·exact a _ am
   ·exact a _ e
def dC (l:N3) (n i k:Nat):Nat:=(nth l (i+k)%((n-k:Nat):Int)).toNat
theorem kd (l:N3) {n i k:Nat} (h:k<n):dC l n i k<n-k:=by
 unfold dC;have a:=Int.emod_nonneg (nth l (i+k)) (show ((n-k:Nat):Int)≠0 by omega);have e:=Int.emod_lt_of_pos (nth l (i+k)) (show (0:Int)<((n-k:Nat):Int) by omega);omega
theorem lq (l:N3) {n i k:Nat} (h:k<n):(dC l n i k:Int)=nth l (i+k)%((n-k:Nat):Int):=by
 unfold dC;have a:=Int.emod_nonneg (nth l (i+k)) (show ((n-k:Nat):Int)≠0 by omega);omega
def cX (l:N3) (n i:Nat):N3:=dy n (dC l n i) (n-1)
theorem er (l:N3) (n i:Nat):(cX l n i).length=n:=fl _ _ _
theorem tv (l:N3) (n i:Nat):∀k,k<n->0<=nth (cX l n i) k/\nth (cX l n i) k<n:=sS _ (fun j a=>kd l am) (x4 _)
def fH (l:N3) (n e:Nat):List (N3):=(List.range e).map fun k=>cX l n (k*(n-1))
theorem jk (l:N3) (n e:Nat):(fH l n e).length=e:=by simp [fH]
theorem jW (l:N3) (n:Nat) {e k:Nat} (h:k<e):(fH l n e)[k]?=some (cX l n (k*(n-1))):=by simp [fH,h]
end Go.Proofs.YthamijnggdjaoaaGreat
