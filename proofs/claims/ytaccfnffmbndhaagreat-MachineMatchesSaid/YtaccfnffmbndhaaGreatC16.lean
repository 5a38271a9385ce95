/- No condition. -/
import Derived.Test.YtaccfnffmbndhaaGreatC00
import Derived.Test.YtaccfnffmbndhaaGreatC02
import Derived.Test.YtaccfnffmbndhaaGreatC08
import Derived.Test.YtaccfnffmbndhaaGreatC15
import Derived.Test.YtaccfnffmbndhaaGreatC11
import Derived.Deep.RegionHeld3
import Derived.Test.YtaccfnffmbndhaaGreatC13
import Derived.Test.YtaccfnffmbndhaaGreatC09
import Derived.BigQuiet
import Derived.Deep.QuietTactic
set_option linter.unusedSimpArgs false
set_option linter.unusedVariables false
set_option maxRecDepth 100000
set_option maxHeartbeats 4000000
namespace Go.Proofs.YtaccfnffmbndhaaGreat
open Go.RowKit
theorem Bi (As Ap Y V:Option Addr) (sz ps x y:List Int) (cs cp cy cv:Nat) (q:Int) (vals:List Value) (w:World) (h:nY w As Ap sz ps cs) (hx:x.length=szN sz 0) (hY:Rd w Y (aq .i64 y)) (hy:y.length=szN sz (sz.length-1))
  (hV:Rd w V vals) (a3:iz w vals sz.length (cT sz ps q x)):
  Calls Tryz.prog 159 #[.agg #[.slice As sz.length cs,.slice Ap ps.length cp,KL q],KL ((sz.length-1:Nat):Int),.slice V sz.length cv,.slice Y y.length cy] w fun e C=>∃A c,e=.returned (.slice A y.length c)∧C.ownsRow w.heap.size 2 1 (.slice A y.length c) y.length (aq .i64 (fC sz ps q x y 0))∧Below w.heap.size w C:=by
 have a4:=h.hg.1.1
 have O:=fun C=>lN As Ap sz.length ps.length cs cp q C (by omega)
 have a6:=(h.hg.1.at (k:=sz.length-1) (by omega)).2.1
 obtain ⟨Aj,cj,e1,e2,e3⟩:=a3.2 (sz.length-1) (by omega)
 have B:=eC (sz:=sz) (ps:=ps) (q:=q) hx (sz.length-1)
 obtain ⟨bo,oo,rfl,T⟩:=hV _ _ e1
 have a1:bo<w.heap.size:=ar T
 rw [←hy] at B a6
 have Z:fC sz ps q x y 0=dh y.length fun i=>wrap64 (nth (cT sz ps q x (sz.length-1)) i-nth y i):=by
  show mx _ _=_
  unfold mx
  rw [B]
 obtain ⟨a,ha⟩:∃a,cT sz ps q x (sz.length-1)=a:=⟨_,rfl⟩
 obtain ⟨L,hL⟩:∃L,sz.length=L:=⟨_,rfl⟩
 obtain ⟨m,hm⟩:∃m,ps.length=m:=⟨_,rfl⟩
 obtain ⟨N,R⟩:∃N,y.length=N:=⟨_,rfl⟩
 rw [Z]
 rw [ha] at T e3 B ⊢
 rw [hL] at O a4 T ⊢
 rw [B] at T
 rw [hm] at O ⊢
 rw [R] at T B a6 ⊢
 obtain ⟨aP,HY,a8,ad,aM⟩:=ah O hY R B e3;clear O hY R B e1 e2 e3 h hx hy hV a3 Z ha hL hm
 have b2:((L-1:Nat):Int)<L:=by omega
 have b1:L-1<L:=by omega
 have hq:(((L-1:Nat):Int)==((L-1:Nat):Int))=true:=by simp
 go_enter Tryz.func159,Tryz.ntmps159
 go_wp2_with fail
 refine (aP.out _).mono ?_
 rintro e w1 ⟨rfl,a7⟩
 have X:Below w.heap.size w w1:=((JG _ w).alloc (JD _) _).trans (a7.mono (by simp))
 have av:=aa X;clear a7 X
 go_wp2_with fail
 clear hq
 go_loopw [9,10] (fun v i wr=>∃k:Nat,k≤N∧i=KL k∧wr.ownsRow w.heap.size 2 1 v k (aq .i64 (dh k fun i=>wrap64 (nth a i-nth y i)))∧Below w.heap.size w wr) (fun _ i _=>N-(intOf i).toNat)
 case atStart=>exact ⟨0,JH _,rfl,JO _ _ _ _,av.out⟩
 case round=>
  obtain ⟨k,hk,rfl,u,Q⟩:=hrel
  obtain ⟨Al,cl,rfl,b3⟩:=aw u
  by_cases a0:k<N
  ·obtain ⟨ba,U,rfl,p1⟩:=aM.out.num (show k<a.length by rw [ad.out];exact a0)
   obtain ⟨J,oy,rfl,p2⟩:=HY.out.num (show k<y.length by rw [a8.out];exact a0)
   have l1:ba<w.heap.size:=ar p1
   have l2:J<w.heap.size:=ar p2
   have s1:=(Q.cell (p:=⟨bo,oo+(L-1),none⟩) a1).trans T
   have s2:=(Q.cell (p:=⟨ba,U+k,none⟩) l1).trans p1
   have s3:=(Q.cell (p:=⟨J,oy+k,none⟩) l2).trans p2
   have hz:=Q.size
   obtain ⟨H,HW⟩:=ae u Q;clear u Q p1 p2
   have b0:(k:Int)<N:=by omega
   go_wp2_with fail
   have j:(fun C:World=>C.cell? ⟨bo,oo+(L-1),none⟩=some (.slice (some ⟨ba,U,none⟩) N cj)∧C.cell? ⟨ba,U+k,none⟩=some (KL (nth a k))∧C.cell? ⟨J,oy+k,none⟩=some (KL (nth y k))) wr.drew:=⟨s1,s2,s3⟩
   refine HA.g (fun C:World=>C.cell? ⟨bo,oo+(L-1),none⟩=some (.slice (some ⟨ba,U,none⟩) N cj)∧C.cell? ⟨ba,U+k,none⟩=some (KL (nth a k))∧C.cell? ⟨J,oy+k,none⟩=some (KL (nth y k))) ?_
   refine HA.t ?_ [0,1,2,3,4,5,6,7,8,9,10,11,12] j ?_
   refine HA.o 13 (fun K hK=>?_)
   go_simp
   refine hK.out _ _ ⟨aA j.1 _,aA j.2.1 _,aA j.2.2 _⟩ (fun j=>?_)
   clear hK K
   refine HA.o 14 (fun K hK=>?_)
   refine bF jE (.tmp 25) (.tmp 38) rfl rfl w.heap.size (.slice Al k cl) k _ rfl (bC (H.out.alloc _) 1) (some ⟨wr.heap.size,0,none⟩) 1 1 [KL (IntKind.i64.wrap (nth a k-nth y k))] rfl (dZ wr _ _ _ rfl) rfl (by simp [Value.oneCell']) (by omega) (by unfold maxLen;omega) (by simp;omega) ?_
   intro A4 c4 w4 D I aR ab
   have a5:=JL ((I.cell (p:=⟨bo,oo+(L-1),none⟩) a1).trans j.1) (JL ((I.cell (p:=⟨ba,U+k,none⟩) l1).trans j.2.1) ((I.cell (p:=⟨J,oy+k,none⟩) l2).trans j.2.2))
   have a2:Below w.heap.size w w4:=((HW.out.alloc hz _).drew).trans I
   obtain ⟨ao,aG⟩:=ae D a2;clear D I aR ab a2 j
   dsimp only
   refine hK.out _ _ a5 (fun j=>?_)
   clear hK K a5
   refine HA.t ?_ [15] j ?_
   refine HA.d ?_
   clear j s1 s2 s3
   go_wp2_with fail
   go_roundw
   case rel=>
    have e9:IntKind.i64.wrap (nth a k-nth y k)=wrap64 (nth a k-nth y k):=by rw [IntKind.wrap_i64,wrap64]
    have D:=ao.out
    rw [e9] at D
    exact ⟨k+1,by omega,by go_num,by rw [gK,cD];exact D,aG.out⟩
   case measure=>simp [intOf];omega
  ·obtain rfl:k=N:=by omega
   obtain ⟨H,HW⟩:=ae u Q;clear u Q
   go_wp2_with fail
   go_ret
   exact ⟨_,_,rfl,H.out,HW.out⟩
theorem Bh (j:Nat) (As Ap Y V:Option Addr) (sz ps x y:List Int) (cs cp cy cv:Nat) (q:Int) (vals:List Value) (w:World) (h:nY w As Ap sz ps cs) (hx:x.length=szN sz 0) (wx:W64 x)
  (hV:Rd w V vals) (bh:iz w vals sz.length (cT sz ps q x)) (hj:j+2≤sz.length)
  (ih:∀H,Below w.heap.size w H→Calls Tryz.prog 159 #[.agg #[.slice As sz.length cs,.slice Ap ps.length cp,KL q],KL ((sz.length-1-j:Nat):Int),.slice V sz.length cv,.slice Y y.length cy] H fun e U=>∃A c,e=.returned (.slice A (szN sz (sz.length-1-j)) c)∧U.ownsRow H.heap.size 2 1 (.slice A (szN sz (sz.length-1-j)) c) (szN sz (sz.length-1-j)) (aq .i64 (fC sz ps q x y j))∧Below H.heap.size H U):
  Calls Tryz.prog 159 #[.agg #[.slice As sz.length cs,.slice Ap ps.length cp,KL q],KL ((sz.length-2-j:Nat):Int),.slice V sz.length cv,.slice Y y.length cy] w fun e U=>∃A c,e=.returned (.slice A (szN sz (sz.length-2-j)) c)∧U.ownsRow w.heap.size 2 1 (.slice A (szN sz (sz.length-2-j)) c) (szN sz (sz.length-2-j)) (aq .i64 (fC sz ps q x y (j+1)))∧Below w.heap.size w U:=by
 have bi:=h.hg.1.1
 have a6:=fun H=>lN As Ap sz.length ps.length cs cp q H (by omega)
 obtain ⟨k,hk⟩:∃k,sz.length-2-j=k:=⟨_,rfl⟩
 have aR:sz.length-1-j=k+1:=by omega
 have b0:k+1<sz.length:=by omega
 rw [aR] at ih
 have z0:=h.hg.1.at (k:=k) (by omega)
 have z1:=h.hg.1.at b0
 obtain ⟨Ak,ck,e1,e2,e3⟩:=bh.2 k (by omega)
 have a3:=eC (sz:=sz) (ps:=ps) (q:=q) hx k
 rw [a3] at e1
 obtain ⟨bo,oo,rfl,pv⟩:=hV _ _ e1
 have cb:bo<w.heap.size:=ar pv
 have T:=jX (sz:=sz) (ps:=ps) (q:=q) (x:=x) (y:=y) hx j
 rw [aR] at T
 have ao:=rC sz ps q x y j
 have C:=jX (sz:=sz) (ps:=ps) (q:=q) (x:=x) (y:=y) hx (j+1)
 rw [show sz.length-1-(j+1)=k by omega] at C
 have B:=fun c (hc:c<szN sz k)=>Fe (sz:=sz) (ps:=ps) (q:=q) (x:=x) (y:=y) (j:=j) (c:=c) hx hj (by rw [hk];exact hc)
 have Q:=fun r c (hr:r<szN sz (k+1)) (hc:c<szN sz k) H (hb:Below w.heap.size w H)=>pK As Ap sz ps cs cp k r c q H (h.below hb) b0 hr hc
 obtain ⟨b,o,rfl,p0⟩:=h.hA.num (show k<sz.length by omega)
 rw [z0.2.2] at p0
 have cf:b<w.heap.size:=ar p0
 have WP:=aa h.wp
 rw [hk] at B ⊢
 obtain ⟨ev,bv⟩:∃ev,fC sz ps q x y j=ev:=⟨_,rfl⟩
 obtain ⟨en,bz⟩:∃en,fC sz ps q x y (j+1)=en:=⟨_,rfl⟩
 obtain ⟨vv,bM⟩:∃vv,cT sz ps q x k=vv:=⟨_,rfl⟩
 obtain ⟨L,hL⟩:∃L,sz.length=L:=⟨_,rfl⟩
 obtain ⟨m,hm⟩:∃m,ps.length=m:=⟨_,rfl⟩
 obtain ⟨Y0,b3⟩:∃Y0,y.length=Y0:=⟨_,rfl⟩
 obtain ⟨r1,b6⟩:∃r1,szN sz (k+1)=r1:=⟨_,rfl⟩
 obtain ⟨c1,b2⟩:∃c1,szN sz k=c1:=⟨_,rfl⟩
 rw [bv] at T ao B ih
 rw [bz] at C B ⊢
 rw [bM] at e3 a3 B
 rw [hL] at a6 bi b0 ih Q hj ⊢
 rw [hm] at a6 ih Q ⊢
 rw [b3] at ih ⊢
 rw [b6] at T ih Q z1
 rw [b2] at a3 C pv p0 B Q z0 ⊢
 rw [T] at B
 obtain ⟨cO,cc,cx,bX,d0,c8,ab,bO⟩:=ak a6 a3 e3 ih T ao C B;obtain ⟨ci,d3⟩:=ae Q b2;clear a6 a3 e3 ih T ao C B Q h hx hV bh bv bz bM hL hm b3 b6 b2 e1 e2 hk aR
 have bU:((k:Int)==((L-1:Nat):Int))=false:=by simp;omega
 have d8:k<L:=by omega
 have dp:(k:Int)<L:=by omega
 go_enter Tryz.func159,Tryz.ntmps159
 go_wp2_with fail
 refine (cO.out _).mono ?_
 rintro e w1 ⟨rfl,b1⟩
 have X:=(b1.block w.heap.size (by simp)).trans (JE w (.cells #[.slice (some ⟨b,o,none⟩) L cs,.slice Ap m cp,KL q] 214))
 have b4:Below w.heap.size w w1:=((JG _ w).alloc (JD _) _).trans (b1.mono (by simp))
 obtain ⟨⟨y0,y1,y2⟩,yf⟩:=bx3 X
 obtain ⟨aP,a7⟩:=ae b4 X;clear b1 b4 X
 go_wp2_with fail
 refine (bX.out w1 aP.out).mono ?_
 rintro e U ⟨A2,c2,rfl,bd,aM⟩
 have O:=(aM.block _ (JC a7.out)).trans a7.out
 have bb:=aP.out.trans (aM.mono aP.out.size)
 have a8:=Rd.own bd
 clear y0 y1 y2 yf bU
 obtain ⟨⟨y0,y1,y2⟩,yf⟩:=bx3 O
 have N:w.heap.size<U.heap.size:=JC O
 obtain ⟨Z,d5,bn⟩:=af bb O a8;clear bd aM bb O a8
 go_wp2_with fail
 go_loopw [9,12] (fun v i wr=>∃c:Nat,c≤c1∧i=KL c∧wr.ownsRow U.heap.size 2 1 v c (aq .i64 (en.take c))∧Below U.heap.size U wr) (fun _ i _=>c1-(intOf i).toNat)
 case atStart=>exact ⟨0,JH _,rfl,JO _ _ _ _,JG _ _⟩
 case round=>
  obtain ⟨wq,rfl⟩:∃wq:World,wq=wr:=⟨_,rfl⟩
  obtain ⟨c,hc,rfl,a1,a4⟩:=hrel
  obtain ⟨Al,cl,rfl,dr⟩:=aw a1
  have x0:=(a4.cell (p:=⟨w.heap.size,0,none⟩) N).trans y0
  have a0:=Z.out.trans (a4.mono Z.out.size)
  have d9:=(a0.cell (p:=⟨b,o+k,none⟩) cf).trans p0
  have dn:U.heap.size≤wq.heap.size:=a4.size
  obtain ⟨ad,bN,bG⟩:=af a1 a4 a0;clear a1 a4 a0
  by_cases a5:c<c1
  ·have B:=bO.out c a5
   have bf:=aa B;clear B
   go_wp2_with fail
   go_loopw [13,14] (fun s i wx=>∃r:Nat,r≤r1∧i=KL r∧s=KL (rz sz ps q k c ev r)∧Below wq.heap.size wq wx) (fun _ i _=>r1-(intOf i).toNat)
   case atStart=>exact ⟨0,JH _,rfl,rfl,JG _ _⟩
   case round=>
    obtain ⟨wo,rfl⟩:∃wo:World,wo=wr:=⟨_,rfl⟩
    obtain ⟨r,hr,rfl,rfl,I⟩:=hrel
    have u:=bN.out.trans (I.mono bN.out.size)
    have D:=Z.out.trans (u.mono Z.out.size)
    by_cases b7:r<r1
    ·obtain ⟨be,oe,rfl,pe⟩:=bn.out.num (show r<ev.length by rw [d0.out];exact b7)
     have d4:be<U.heap.size:=ar pe
     have d1:=(u.cell (p:=⟨be,oe+r,none⟩) d4).trans pe
     have bV:=(u.cell (p:=⟨w.heap.size,0,none⟩) N).trans y0
     have c6:=(u.cell (p:=⟨w.heap.size,1,none⟩) N).trans y1
     have ct:=(u.cell (p:=⟨w.heap.size,2,none⟩) N).trans y2
     have b5:=ci.out r c b7 a5 wo.drew D.drew
     have bA:=fun H=>qI (nth ps (aZ sz k+r*c1+c)) (nth ev r) q H (WP.out.nth _) (c8.out.nth _)
     obtain ⟨cA,c9,av⟩:=af b5 bA I;clear b5 bA I pe u D
     have d7:(r:Int)<r1:=by omega
     go_wp2_with fail
     go_region_held3 (fun H=>H.cell? ⟨w.heap.size,0,none⟩=some (.slice (some ⟨b,o,none⟩) L cs)∧H.cell? ⟨w.heap.size,1,none⟩=some (.slice Ap m cp)∧H.cell? ⟨w.heap.size,2,none⟩=some (KL q)∧H.cell? ⟨be,oe+r,none⟩=some (KL (nth ev r))) (simp [go_sem, *])
      ((first | (go_at_call 186;refine cA.out.mono ?_;rintro e w3 ⟨rfl,R⟩;have g0:=am R bV;have g1:=am R c6;have g2:=am R ct;have g3:=am R d1;have b8:=av.out.trans (((JG wo.heap.size wo).drew.trans R).mono av.out.size);have cr:=aa b8;clear R b8) | (go_at_call 128;refine (c9.out _).mono ?_;rintro e w4 ⟨rfl,rfl⟩)))
     go_wp2_with fail
     go_roundw
     case rel=>exact ⟨r+1,by omega,by go_num,by rw [IntKind.wrap_i64,rz,wrap64,d3.out],cr.out⟩
     case measure=>simp [intOf];omega
    ·obtain rfl:r=r1:=by omega
     obtain ⟨ba,oa,rfl,pa⟩:=cx.out.num (show c<vv.length by rw [cc.out];exact a5)
     have d2:ba<w.heap.size:=ar pa
     have d6:=(D.cell (p:=⟨ba,oa+c,none⟩) d2).trans pa
     have dk:=(D.cell (p:=⟨bo,oo+k,none⟩) cb).trans pv
     have a2:=ap ad.out I
     have da:=I.size
     have bs:=eJ en c (by rw [ab.out];exact a5)
     obtain ⟨av,aG,cj,bl⟩:=ag I a2 bs u;clear I a2 bs pa u D
     have dc:(c:Int)<c1:=by omega
     go_wp2_with fail
     refine (sC _ _ _).mono ?_
     rintro e w7 ⟨rfl,rfl⟩
     rw [←bf.out]
     go_wp2_with (at_builtin;refine aQ jE wo rfl (.tmp 76) (.tmp 86) rfl U.heap.size (.slice Al c cl) c _ rfl aG.out [KL (nth en c)] rfl rfl (by simp [Value.oneCell']) (by omega) (by unfold maxLen;omega) (by omega) ?_)
     intro g7 c7 w7 b9 bI co
     have bw:=bl.out.trans bI
     obtain ⟨cd,cw⟩:=ae b9 bw;clear b9 bI co bw
     go_wp2_with fail
     go_roundw
     case rel=>exact ⟨c+1,by omega,by go_num,by rw [cj.out,cD];exact cd.out,cw.out⟩
     case measure=>simp [intOf];omega
  ·obtain rfl:c=c1:=by omega
   have J:=ad.out
   rw [List.take_of_length_le (by rw [ab.out];exact JD _)] at J
   have Hf:=aa (ax J (base':=w.heap.size) (by have:=Z.out.size;omega));clear J
   go_wp2_with fail
   go_ret
   exact ⟨_,_,rfl,Hf.out,bG.out⟩
theorem DR (o B Y V:Option Addr) (sz ps x y:List Int) (p cp C D:Nat) (q:Int) (vals:List Value) (hx:x.length=szN sz 0) (N:W64 x) (I:y.length=szN sz (sz.length-1)):
  ∀(j:Nat) (w:World),j+1≤sz.length→nY w o B sz ps p→Rd w Y (aq .i64 y)→Rd w V vals→iz w vals sz.length (cT sz ps q x)→
   Calls Tryz.prog 159 #[.agg #[.slice o sz.length p,.slice B ps.length cp,KL q],KL ((sz.length-1-j:Nat):Int),.slice V sz.length D,.slice Y y.length C] w fun e J=>∃A c,e=.returned (.slice A (szN sz (sz.length-1-j)) c)∧J.ownsRow w.heap.size 2 1 (.slice A (szN sz (sz.length-1-j)) c) (szN sz (sz.length-1-j)) (aq .i64 (fC sz ps q x y j))∧Below w.heap.size w J:=by
 intro j
 induction j with
 | zero=>
  intro w _ h H u i
  have:=Bi o B Y V sz ps x y p cp C D q vals w h hx H I u i
  rw [Nat.sub_zero,←I]
  exact this
 | succ j ih=>
  intro w O h H u i
  have:=Bh j o B Y V sz ps x y p cp C D q vals w h hx N u i (by omega) (fun L v=>ih L (by omega) (h.below v) (H.below v) (u.below v) (i.below v))
  rw [show sz.length-1-(j+1)=sz.length-2-j by omega]
  exact this
def IY (sz ps:List Int) (q:Int) (x y:List Int) (B:Nat) (k:Nat) (v:Value) (u:Obj) (C i w:World):Prop:=
 ∃A c vals,v=.slice A k c∧w.ownsRow i.heap.size 26 1 (.slice A k c) k vals∧
  (∀j,1≤j→j<k→∃p o,vals[j]?=some (.slice p (szN sz j) o)∧w.ownsRow i.heap.size 2 1 (.slice p (szN sz j) o) (szN sz j) (aq .i64 (fC sz ps q x y (sz.length-1-j))))∧Below i.heap.size i w
theorem yp {P:Program} {f:FuncId} {args:Array Value} {W:World} {a n:Nat} {v:Value} (h:∀j,Calls P f args j fun e i=>e=.returned v∧j=i):Calls P f args (W.drewN (a+n)) fun e i=>e=.returned v∧∃m,i=W.drewN (a+m):=
 (h _).mono fun _ _ h=>⟨h.1,n,h.2.symm⟩
theorem Be (As Ap X Y:Option Addr) (sz ps x y:List Int) (cs cp cx cy:Nat) (q:Int) (w:World) (h:nY w As Ap sz ps cs) (hX:Rd w X (aq .i64 x)) (hx:x.length=szN sz 0) (wx:W64 x) (d2:x.length≤cx) (hY:Rd w Y (aq .i64 y)) (hy:y.length=szN sz (sz.length-1)):
  Calls Tryz.prog 121 #[.agg #[.slice As sz.length cs,.slice Ap ps.length cp,.int .i64 q],.slice X x.length cx,.slice Y y.length cy] w fun e Q=>∃A' c',e=.returned (.slice A' (aZ sz (sz.length-1)) c')∧Rd Q A' (aq .i64 (gD sz ps q x y))∧Below w.heap.size w Q:=by
 have ec:=h.hg.1.1
 have d8:=ww (sz:=sz) (ps:=ps) (q:=q) (x:=x) (y:=y) hx (by omega)
 have b5:=zO sz (sz.length-1)
 have b8:=fun Q=>lN As Ap sz.length ps.length cs cp q Q (by omega)
 have a4:=fun Q (hb:Below w.heap.size w Q)=>xG As Ap X sz ps x cs cp cx q Q (h.below hb) (hX.below hb) hx wx d2
 have bf:=fun Q (hb:Below w.heap.size w Q)=>va As sz cs Q (h.hA.below hb) h.hg
 have ad:=fun j V cv vals Q (hb:Below w.heap.size w Q) (hj:j+1≤sz.length) (hV:Rd Q V vals) (b6:iz Q vals sz.length (cT sz ps q x))=>DR As Ap Y V sz ps x y cs cp cy cv q vals hx wx hy j Q hj (h.below hb) (hY.below hb) hV b6
 have em:=h.hg.2
 have hG:=h.hg
 rw [d8]
 obtain ⟨L,hL⟩:∃L,sz.length=L:=⟨_,rfl⟩
 obtain ⟨m,hm⟩:∃m,ps.length=m:=⟨_,rfl⟩
 obtain ⟨Y0,cA⟩:∃Y0,y.length=Y0:=⟨_,rfl⟩
 obtain ⟨X0,en⟩:∃X0,x.length=X0:=⟨_,rfl⟩
 rw [hL] at b8 a4 ad bf ec b5 em ⊢
 rw [hm] at b8 a4 ad ⊢
 rw [cA] at ad ⊢
 rw [en] at a4 ⊢
 obtain ⟨N,hN⟩:∃N,aZ sz (L-1)=N:=⟨_,rfl⟩
 rw [hN] at bf b5 em ⊢
 obtain ⟨eo,g7,f8,eU,bN,HG,HL,Hx⟩:=ak b8 a4 ad bf b5 hG hL hx;have WX:=aa wx;clear b8 a4 ad bf b5 hG hX hx wx d2 hY hy d8 hL hm cA en hN h
 go_enter Tryz.func121,Tryz.ntmps121
 go_wp2_with fail
 refine (g7.out _ ?_).mono ?_
 ·exact al
 rintro e w1 ⟨V,cv,vals,rfl,hV,b6,fs,cr⟩
 have a3:=(cr.block w.heap.size (by simp)).trans (JE w (.cells #[.slice As L cs,.slice Ap m cp,.int .i64 q] 214))
 have d1:Below w.heap.size w w1:=((JG _ w).alloc (JD _) _).trans (cr.mono (by simp))
 obtain ⟨⟨z0,z1,z2⟩,zf⟩:=bx3 a3
 obtain ⟨cf,bi,g9,eG⟩:=ag d1 a3 hV b6;clear cr a3 d1 hV b6 fs
 go_wp2_with fail
 refine (eU.out _ cf.out).mono ?_
 rintro e w2 ⟨Pa,pc,rfl,hop,a5⟩
 have a0:=(a5.block _ (JC bi.out)).trans bi.out
 have dr:=cf.out.trans (a5.mono cf.out.size)
 have ei:=g9.out.below a5
 have bl:=eG.out.below a5
 have dG:=Rd.own hop
 clear z0 z1 z2 zf
 obtain ⟨⟨z0,z1,z2⟩,zf⟩:=bx3 a0
 have A:w.heap.size<w2.heap.size:=JC a0
 obtain ⟨b4,gk,ea,bh,bM⟩:=ah dr a0 ei bl dG;clear a5 a0 dr ei bl hop dG
 go_wp2_with fail
 go_loopw [9,10] (fun v i wr=>∃k:Nat,k≤L∧i=.int .i64 k∧IY sz ps q x y w.heap.size k v (.cells #[] 0 (0,0)) w w2 wr) (fun _ i _=>L-(intOf i).toNat)
 case atStart=>exact ⟨0,JH _,rfl,none,0,[],rfl,JO _ _ _ _,fun j h1 h2=>by omega,JG _ _⟩
 case round=>
  obtain ⟨wq,rfl⟩:∃wq:World,wq=wr:=⟨_,rfl⟩
  obtain ⟨k,hk,rfl,Aa,ca,av,rfl,ee,eq,ab⟩:=hrel
  have x0:=(ab.cell (p:=⟨w.heap.size,0,none⟩) A).trans z0
  have x1:=(ab.cell (p:=⟨w.heap.size,1,none⟩) A).trans z1
  have x2:=(ab.cell (p:=⟨w.heap.size,2,none⟩) A).trans z2
  obtain ⟨b3,d9,bb⟩:=af ee eq ab;clear ee eq ab
  by_cases bO:k<L
  ·have g3:(k:Int)≤((L-1:Nat):Int):=by omega
   go_wp2_with fail
   refine (eo.out _).mono ?_
   rintro e w3 ⟨rfl,J⟩
   have I:=bb.out.trans (J.mono bb.out.size)
   have T:=ap b3.out J
   have f5:=I.size
   clear x0 x1 x2
   obtain ⟨H,a2,fb⟩:=af I T J;clear J I T
   go_wp2_with (at_builtin;refine aQ ET w3 rfl (.tmp 27) (.tmp 28) rfl w2.heap.size (.slice Aa k ca) k av rfl a2.out [.slice none 0 0] rfl rfl (by simp [Value.oneCell']) (by omega) (by unfold maxLen;omega) f5 ?_)
   intro g4 c4 w4 ey eB eu
   have dp:=H.out.trans eB
   have gd:=b3.out.1
   have bV:∀{mm:Nat} {u:Value} {ys:List Value} {b0:Nat},w3.ownsRow b0 2 1 u mm ys→w4.ownsRow b0 2 1 u mm ys:=fun h=>h.kept eu (by
    rename_i u _ _
    cases hu:u.ownBlock with
    | none=>exact .inl rfl
    | some i=>exact .inr fun e9=>iO a2.out h (by decide) i e9.symm hu)
   have bw:∀j,1≤j→j<k→∃Aj cj,(av++[Value.slice none 0 0])[j]?=some (.slice Aj (szN sz j) cj)∧w4.ownsRow w2.heap.size 2 1 (.slice Aj (szN sz j) cj) (szN sz j) (aq .i64 (fC sz ps q x y (sz.length-1-j))):=fun j h1 h2=>by
    obtain ⟨Aj,cj,e1,e2⟩:=d9.out j h1 h2
    exact ⟨Aj,cj,by rw [Ki (by omega)];exact e1,bV (ap e2 fb.out)⟩
   obtain ⟨a7,D,ef⟩:=af ey dp bw;clear ey eB eu dp bw
   have y0:=(D.out.cell (p:=⟨w.heap.size,0,none⟩) A).trans z0
   have y1:=(D.out.cell (p:=⟨w.heap.size,1,none⟩) A).trans z1
   have y2:=(D.out.cell (p:=⟨w.heap.size,2,none⟩) A).trans z2
   by_cases gs:k=0
   ·have eM:¬(0:Int)<(k:Int):=by omega
    go_wp2_with fail
    go_roundw
    case rel=>exact ⟨k+1,by omega,by go_num,some ⟨g4,0,none⟩,c4,_,rfl,a7.out,fun j h1 h2=>by omega,D.out⟩
    case measure=>simp [intOf];omega
   ·have eM:(0:Int)<(k:Int):=by omega
    have go:0<k:=by omega
    have b1:=f8.out (L-1-k) V cv vals w4 (b4.out.trans (D.out.mono b4.out.size)) (by omega) (ea.out.below D.out) (bh.out.below D.out)
    rw [show L-1-(L-1-k)=k by omega] at b1
    have dn:=aa b1;clear b1
    have gm:k<k+1:=Nat.lt_succ_self k
    have gf:(k:Int)<(k:Int)+1:=by omega
    go_wp2_with fail
    refine dn.out.mono ?_
    rintro e w5 ⟨A5,c5,rfl,d4,be⟩
    have eb:=D.out.trans (be.mono D.out.size)
    have U:=ap a7.out be
    have gc:=D.out.size
    have q0:=U.cellAt k (by omega)
    have qk:(av++[Value.slice none 0 0])[k]?=some (.slice none 0 0):=by
     have:=a7.out.1
     rw [Kj (by simp at this;omega)]
     simp at this
     simp [show av.length=k by omega]
    rw [qk] at q0
    have qf:=U.frozenAt k
    have dk:=(U.stored k (.slice A5 (szN sz k) c5)).1
    obtain ⟨eS,ew,g5,fr,ej,gl⟩:=ai dk eb d4 be U qk;clear dk eb d4 be U qk y0 y1 y2
    go_wp2_with fail
    have d0:Keep (fun i=>i=g4) w5 (w5.setCell ⟨g4,k,none⟩ (.slice A5 (szN sz k) c5)):=Keep.setCell (S:=fun i=>i=g4) (Keep.refl _ _) ⟨g4,k,none⟩ (.inr rfl) _
    have a1:∀{mm:Nat} {u:Value} {ys:List Value} {b0:Nat},w5.ownsRow b0 2 1 u mm ys→(w5.setCell ⟨g4,k,none⟩ (.slice A5 (szN sz k) c5)).ownsRow b0 2 1 u mm ys:=fun h=>d0.own h (fun i hi e9=>by
     subst e9
     exact iO ej.out h (by decide) i rfl hi)
    go_roundw
    case rel=>
     refine ⟨k+1,by omega,by go_num,some ⟨g4,0,none⟩,c4,_,rfl,eS.out,fun j h1 h2=>?_,ew.out.trans (d0.toBelow ew.out.size (fun i hi=>by subst hi;exact (a7.out.lt i rfl).1))⟩
     have gA:(av++[Value.slice none 0 0]).length=k+1:=by have:=a7.out.1;simpa using this
     rcases JR j k with dc | dc
     ·obtain ⟨Aj,cj,e1,e2⟩:=ef.out j h1 dc
      refine ⟨Aj,cj,?_,a1 (ap e2 fr.out)⟩
      rw [List.getElem?_set_ne (by omega)];exact e1
     ·obtain rfl:j=k:=by omega
      refine ⟨A5,c5,?_,?_⟩
      ·rw [List.getElem?_set_self (by omega)]
      ·have:=a1 (ax g5.out (base':=w2.heap.size) gc)
       rw [HL.out];exact this
    case measure=>simp [intOf];omega
  ·obtain rfl:k=L:=by omega
   have g3:¬((k:Int)≤((k-1:Nat):Int)):=by omega
   have gp:1≤k:=by omega
   go_wp2_with fail
   refine (eo.out _).mono ?_
   rintro e w3 ⟨rfl,J⟩
   obtain ⟨ga,gy,bo,gv,_⟩:=b3.out.form (by omega)
   simp only [Ku] at bo
   obtain ⟨rfl,eV,rfl⟩:=bo
   clear eV
   have I:=bb.out.trans (J.mono bb.out.size)
   have T:=ap b3.out J
   have bA:∀j,1≤j→j<k→∃Aj cj,av[j]?=some (.slice Aj (szN sz j) cj)∧w3.ownsRow w2.heap.size 2 1 (.slice Aj (szN sz j) cj) (szN sz j) (aq .i64 (fC sz ps q x y (sz.length-1-j))):=fun j h1 h2=>by
    obtain ⟨Aj,cj,e1,e2⟩:=d9.out j h1 h2
    exact ⟨Aj,cj,e1,ap e2 J⟩
   obtain ⟨H,a2,ek⟩:=af I T bA;clear J I T bA x0 x1 x2
   go_wp2_with fail
   have bn:decide (k≤k-1)=false:=KD (by omega)
   rw [bn]
   clear bn
   go_loopw [11,12] (fun v i wr=>∃t:Nat,t≤N∧i=.int .i64 t∧wr.ownsRow w3.heap.size 2 1 v t (aq .i64 (((plL sz (k-1)).map (gAt sz ps q x y)).take t))∧Below w3.heap.size w3 wr) (fun _ i _=>N-(intOf i).toNat)
   case atStart=>exact ⟨0,JH _,rfl,JO _ _ _ _,JG _ _⟩
   case round=>
    obtain ⟨wo,rfl⟩:∃wo:World,wo=wr:=⟨_,rfl⟩
    obtain ⟨t,ht,rfl,aG,da⟩:=hrel
    obtain ⟨Al,cl,rfl,_⟩:=aw aG
    obtain ⟨aP,B⟩:=ae aG da;clear aG da
    by_cases bO:t<N
    ·obtain ⟨pp,bd⟩:∃pp,(plL sz (k-1))[t]?=some pp:=⟨_,Kh (by rw [bN.out];exact bO)⟩
     have bs:=Gn (List.mem_of_getElem? bd)
     have bz:nth ((plL sz (k-1)).map (gAt sz ps q x y)) t=gAt sz ps q x y pp:=by
      unfold nth
      rw [List.getD_eq_getElem?_getD,List.getElem?_map,bd]
      rfl
     have ci:=eJ ((plL sz (k-1)).map (gAt sz ps q x y)) t (by rw [List.length_map,bN.out];exact bO)
     rw [bz] at ci
     obtain ⟨f0,f1,f2⟩:=IB _ _ _ bd
     obtain ⟨bp,op,c9,c0⟩:=bM.out _ _ f0
     obtain ⟨_,_,e',c1⟩:=bM.out _ _ f1
     rw [c9] at e';injection e' with e';injection e' with i1 i2 _;subst i1;subst i2
     obtain ⟨_,_,e',c2⟩:=bM.out _ _ f2
     rw [c9] at e';injection e' with e';injection e' with i1 i2 _;subst i1;subst i2
     subst c9
     have o:=H.out.trans (B.out.mono H.out.size)
     have f7:=am o c0
     have cO:=am o c1
     have d6:=am o c2
     rw [←Ky] at cO d6
     obtain ⟨K,R,C⟩:=pp
     dsimp only at bs f7 cO d6
     obtain ⟨m1,m2,m3⟩:=bs
     obtain ⟨A8,c8,g1,g2⟩:=ek.out (K+1) (by omega) (by omega)
     obtain ⟨_,_,e8,p8⟩:=(Rd.own a2.out) _ _ g1
     injection e8 with e8;injection e8 with i1 i2 _;subst i1;subst i2
     rw [Kz] at p8
     have cb:=jX (sz:=sz) (ps:=ps) (q:=q) (x:=x) (y:=y) Hx.out (sz.length-2-K)
     have fn:=HL.out
     rw [show sz.length-1-(sz.length-2-K)=K+1 by omega] at cb
     rw [show sz.length-1-(K+1)=sz.length-2-K by omega] at g2
     have bG:=rC sz ps q x y (sz.length-2-K)
     obtain ⟨b9,o9,rfl,p9⟩:=(Rd.own g2).num (show R<(fC sz ps q x y (sz.length-2-K)).length by rw [cb];exact m2)
     have dv:=am B.out p8
     have bX:=am B.out p9
     obtain ⟨A7,c7,h1,h2,h3⟩:=bh.out.2 K (by omega)
     have aM:=eC (sz:=sz) (ps:=ps) (q:=q) Hx.out K
     rw [aM] at h1
     obtain ⟨bv,ov,gb,p7⟩:=ea.out _ _ h1
     subst gb
     have e0:=am o p7
     have bI:=h3.below o
     have cw:=nl (sz:=sz) (ps:=ps) (q:=q) WX.out K
     have g8:=HG.out.1.at (k:=K+1) (by omega)
     have fe:=HG.out.1.at (k:=K) (by omega)
     have y2:=(o.cell (p:=⟨w.heap.size,2,none⟩) A).trans z2
     obtain ⟨ev,co⟩:∃ev,fC sz ps q x y (sz.length-2-K)=ev:=⟨_,rfl⟩
     obtain ⟨vv,ct⟩:∃vv,cT sz ps q x K=vv:=⟨_,rfl⟩
     obtain ⟨n1,d3⟩:∃n1,szN sz (K+1)=n1:=⟨_,rfl⟩
     obtain ⟨n0,ds⟩:∃n0,szN sz K=n0:=⟨_,rfl⟩
     have el:gAt sz ps q x y (K,R,C)=if 0≤C then eL (nth ev R) (nth vv C.toNat) q else nth ev R:=by unfold gAt;rw [co,ct]
     rw [co] at bX bG
     rw [ct] at bI cw aM
     rw [d3] at dv m2 g8
     rw [ds] at e0 m3 fe aM
     obtain ⟨es,dT,f6,fa,eX,fc,gg⟩:=aj el ci bI bG cw aM o;clear el ci bI bG cw aM o bz bd f0 f1 f2 c0 c1 c2 g1 g2 p8 p9 h1 h2 h3 p7 cb co ct d3 ds fn
     have gz:(t:Int)<N:=by omega
     go_wp2_with fail
     have e1:IntKind.i64.wrap ((K:Int)+1)=(K:Int)+1:=JI _ (by omega)
     have e2:(K:Int)+1<k:=by omega
     have e3:K+1<k:=by omega
     have e4:(R:Int)<n1:=by omega
     have e5:(0:Int)≤(K:Int)+1:=by omega
     have e6:((K:Int)+1).toNat=K+1:=by omega
     have e7:¬((K:Int)+1<0):=by omega
     have e8:¬((k:Int)≤(K:Int)+1):=by omega
     have l8:ga<wo.heap.size:=ar dv
     have l9:b9<wo.heap.size:=ar bX
     have l7:bv<wo.heap.size:=ar e0
     have l2:w.heap.size<wo.heap.size:=ar y2
     go_quiet (fail)
     have pb:=aA (W:=wo) (p:=⟨b9,o9+R,none⟩) bX (.cells #[.int .i64 (K:Int),.int .i64 (R:Int),.int .i64 C] 267)
     by_cases hC:0≤C
     ·obtain ⟨C1,rfl⟩:∃C1:Nat,C=(C1:Int):=⟨C.toNat,by omega⟩
      have fd:C1<n0:=by omega
      have gB:(C1:Int)<n0:=by omega
      have gx:¬((C1:Int)<0):=by omega
      obtain ⟨b7,o7,rfl,p6⟩:=f6.out.num (show C1<vv.length by rw [fc.out];exact fd)
      have l6:b7<wo.heap.size:=ar p6
      have f3:(K:Int)<k:=by omega
      have f4:K<k:=by omega
      have ez:=fun Q=>qI (nth ev R) (nth vv C1) q Q (fa.out.nth _) (eX.out.nth _)
      have f9:=aa ez;clear ez
      obtain ⟨na,rfl⟩:∃na:Nat,na=nq:=⟨_,rfl⟩
      go_wp2_with fail
      go_quiet ((go_at_call 128;exact yp f9.out))
      have fi:w3.heap.size≤wo.heap.size:=B.out.size
      have aR:=aa (show ((wo.alloc (.cells #[.int .i64 (K:Int),.int .i64 (R:Int),.int .i64 (C1:Int)] 267)).drewN (na+nq)).heap.size=wo.heap.size+1 by simp)
      have Z:=JN (B.out.alloc B.out.size (.cells #[.int .i64 (K:Int),.int .i64 (R:Int),.int .i64 (C1:Int)] 267)) (na+nq)
      have b2:=bC (aP.out.alloc (.cells #[.int .i64 (K:Int),.int .i64 (R:Int),.int .i64 (C1:Int)] 267)) (na+nq)
      go_wp2_with (at_builtin;go_loud (refine aQ jE _ rfl (.tmp 76) (.tmp 78) rfl w3.heap.size (.slice Al t cl) t _ rfl b2 [.int .i64 (eL (nth ev R) (nth vv C1) q)] (congrArg (fun b:Nat=>Value.slice (some ⟨b,0,none⟩) 1 1) aR.out.symm) rfl (by simp [Value.oneCell']) (by omega) (by unfold maxLen;omega) Z.size ?_))
      intro g6 c6 w6 a8 ao cd
      have O:=Z.trans ao
      obtain ⟨cc,bU⟩:=ae a8 O;clear a8 ao cd O b2 Z
      go_wp2_with fail
      go_roundw
      case rel=>
       refine ⟨t+1,by omega,by go_num,?_,bU.out⟩
       have hv:=es.out
       rw [if_pos (Int.natCast_nonneg _),Int.toNat_natCast] at hv
       rw [dT.out,hv,cD]
       exact cc.out
      case measure=>simp [intOf];omega
     ·have HC:=aa hC
      have fi:w3.heap.size≤wo.heap.size:=B.out.size
      have aR:=aa (show ((wo.alloc (.cells #[.int .i64 (K:Int),.int .i64 (R:Int),.int .i64 C] 267)).drewN nq).heap.size=wo.heap.size+1 by simp)
      have Z:=JN (B.out.alloc B.out.size (.cells #[.int .i64 (K:Int),.int .i64 (R:Int),.int .i64 C] 267)) nq
      have b2:=bC (aP.out.alloc (.cells #[.int .i64 (K:Int),.int .i64 (R:Int),.int .i64 C] 267)) nq
      go_wp2_with (at_builtin;go_loud (refine aQ jE _ rfl (.tmp 76) (.tmp 78) rfl w3.heap.size (.slice Al t cl) t _ rfl b2 [.int .i64 (nth ev R)] (congrArg (fun b:Nat=>Value.slice (some ⟨b,0,none⟩) 1 1) aR.out.symm) rfl (by simp [Value.oneCell']) (by omega) (by unfold maxLen;omega) Z.size ?_))
      intro g6 c6 w6 a8 ao cd
      have O:=Z.trans ao
      obtain ⟨cc,bU⟩:=ae a8 O;clear a8 ao cd O b2 Z
      go_wp2_with fail
      go_roundw
      case rel=>
       refine ⟨t+1,by omega,by go_num,?_,bU.out⟩
       have hv:=es.out
       rw [if_neg (by have:=HC.out;omega)] at hv
       rw [dT.out,hv,cD]
       exact cc.out
      case measure=>simp [intOf];omega
    ·obtain rfl:t=N:=by omega
     have a6:=aP.out
     rw [List.take_of_length_le (by rw [List.length_map,bN.out];exact JD _)] at a6
     have d5:=aa (Rd.own a6);clear a6
     have d7:=b4.out.trans ((H.out.trans (B.out.mono H.out.size)).mono b4.out.size)
     have eY:=aa d7;clear d7
     go_wp2_with fail
     go_ret
     exact ⟨_,_,rfl,d5.out,eY.out⟩
theorem CT {n:Nat} {s:List Int} (hs:s.length=n) (j:W64 s):eI (List.replicate n 0) s=s:=by
 refine iH (by rw [ir,Km,hs]) fun k i=>?_
 rw [ir,Km] at i
 unfold eI
 rw [bj _ (by rw [Km];exact i),dI _ k (by rw [Km];exact i)]
 have h1:=j.nth k
 simp only [List.getElem_replicate]
 generalize nth s k=y at h1 ⊢
 unfold wrap64;omega
theorem Dm {n:Nat} {s g:List Int} (hs:s.length=n) (i:W64 s):mp n [s,g]=eI s g:=by
 unfold mp;simp only [List.foldl_cons,List.foldl_nil];rw [CT hs i]
theorem Bu (l:List Ex) (i:List Int) {k:Nat} (p:k<i.length) {x:Ex} {j:Nat} (o:nth i k=(j:Int)) (hx:l[j]?=some x):di l (i.take (k+1))=di l (i.take k)++[x]:=by
 rw [eJ _ _ p];unfold di;rw [List.map_append]
 simp [o,List.getD,hx]
theorem Im {n k:Nat} (h:k<n):n-(k+1)<n-k:=by omega
def CY (i:Inp) (P j:List Int) (w:World) (e:Ending) (o:World):Prop:=Below w.heap.size w o∧
 ((iK i j∧∃v,e=.returned (.tuple #[v,.bool true])∧o.ownsRow w.heap.size 2 1 v (cnt i) (aq .i64 (dO i P (di i.data j))))∨(¬iK i j∧e=.returned (.tuple #[KN,.bool false])))
theorem Ir (w:World) (u v:Value) (A1 i:Option Addr) (n c1 c2:Nat) (s g:List Int) (hu:u=.slice A1 n c1) (hv:v=.slice i n c2) (hs:s.length=n) (hg:g.length=n) (hn:n≤1048576) (p:Rd w A1 (aq .i64 s)) (o:Rd w i (aq .i64 g)):
  cE sH 1 (w.alloc (.cells #[u,v] 26)) (some ⟨w.heap.size,0,none⟩) [s,g]:=by
 refine uU (dZ w [u,v] _ _ rfl) rfl fun j x hx=>?_
 match j,hx with
 | 0,hx=>injection hx with hx;subst hx;exact ⟨u,rfl,A1,c1,by rw [hu,hs],by omega,p.alloc _⟩
 | 1,hx=>injection hx with hx;subst hx;exact ⟨v,rfl,i,c2,by rw [hv,hg],by omega,o.alloc _⟩
theorem vd (A:Option Addr) (c:Nat) (D:Option Addr) (cd:Nat) (T:Option Addr) (ct:Nat) (R:Option Addr) (cr:Nat) (i:Inp) (Ap X:Option Addr) (P B:List Int) (n cp cx:Nat) (w:World) (hA:Rd w A (aq .i64 i.cfg.sizes)) (hc:i.cfg.sizes.length≤c) (hD:cE rEx 2 w D i.data) (hg:kQ i) (hP:Rd w Ap (aq .i64 P)) (av:P.length=n) (hn:cnt i=n) (wP:W64 P) (hX:Rd w X (aq .i64 B)) (cw:B.length≤17592186043904):
  Calls Tryz.prog 71 #[.agg (aH A c D cd T ct R cr i),.slice Ap n cp,.slice X B.length cx] w (CY i P B w):=by
 have bv:=hg.c.z.bound (k:=i.cfg.sizes.length-1) (by have:=hg.c.z.1.1;omega)
 have a3:aZ i.cfg.sizes (i.cfg.sizes.length-1)=n:=hn
 rw [a3] at bv
 have I:=fun J=>xU A c D cd T ct R cr i Ap n cp J
 have H:=fun J (q:Below w.heap.size w J) X1 Y1 x c1 c2 (hf:eH (inN i) (ug i) x) (r1:bD J X1 x.1 c1) (r2:bD J Y1 x.2 c2)=>Be A Ap X1 Y1 i.cfg.sizes P x.1 x.2 c cp c1 c2 i.cfg.shift J ⟨hA.below q,hP.below q,hg.c.z,by rw [av,a3],hc,wP⟩ r1.hr hf.1 r1.hw r1.hc r2.hr hf.2
 rw [a3,av] at H
 have aR:=fun J=>j8 ip J rfl n (by omega) (by unfold maxLen;omega)
 simp only [dS] at aR
 have aP:dO i P (di i.data (B.take 0))=List.replicate n 0:=by simp [dO,di,hn]
 obtain ⟨m,hm⟩:∃m,B.length=m:=⟨_,rfl⟩
 obtain ⟨N,hN⟩:∃N,i.data.length=N:=⟨_,rfl⟩
 have d0:N≤1048576:=by rw [←hN];exact hg.b.2
 rw [hm] at cw ⊢
 have b2:(w.alloc (.cells (aH A c D cd T ct R cr i) 29)).heap.size=w.heap.size+1:=by simp
 have C:=kJ w (aH A c D cd T ct R cr i) 29 rfl
 have a4:Below w.heap.size w (w.alloc (.cells (aH A c D cd T ct R cr i) 29)):=(JG _ w).alloc (JD _) _
 obtain ⟨W1,b3⟩:∃W1,W1=w.alloc (.cells (aH A c D cd T ct R cr i) 29):=⟨_,rfl⟩
 rw [←b3] at b2 C a4
 obtain ⟨W2,Q,b1,b0⟩:=aR W1
 rw [b2] at Q b1
 rw [b3] at Q
 dsimp only [aH] at Q
 have a8:=(b0.block _ (by omega)).trans C
 have bi:=a4.trans (b0.mono a4.size)
 obtain ⟨HD,HX,bs,bU,Hm,HN,HG,c7⟩:=ak hD hX I H hm hN hg b1;obtain ⟨bo,c9,bO,Hn⟩:=ag a8 bi aP hn;clear hA hc hD hg hP av hn wP hX I H aR hm hN b2 C a4 b1 a8 bi b0 a3 aP b3
 go_enter Tryz.func71,Tryz.ntmps71
 dsimp only [aH]
 go_wp2_with fail
 clear Q
 go_loopw [8,9] (fun v x wr=>∃k:Nat,k≤m∧x=KL k∧wr.ownsRow w.heap.size 2 1 v n (aq .i64 (dO i P (di i.data (B.take k))))∧Hid (∀j,j<k→jn N (nth B j))∧Below (w.heap.size+1) W2 wr) (fun _ x _=>m-(intOf x).toNat)
 case atStart=>exact ⟨0,JH _,rfl,by rw [bO.out];exact ax c7.out (by omega),Lib.hid fun j hj=>by omega,JG _ _⟩
 case round=>
  obtain ⟨k,hk,rfl,a0,a7,a5⟩:=hrel
  obtain ⟨As,cs,rfl,hcs⟩:=aw a0
  have C:=(a5.block _ (by omega)).trans bo.out
  have hB:=c9.out.trans (a5.mono (by omega))
  have d2:=hB.size
  obtain ⟨HO,cv,HB,ci,d1⟩:=ah a0 a5 hB C hcs
  dsimp only [aH] at C
  obtain ⟨⟨t0,t1,t2,t3,t4,t5,t6,t7,t8,t9,c6,bM,cc,bI,co⟩,tf⟩:=jM C
  have bX:=JC C
  clear a0 a5 hB C hcs
  by_cases V:k<m
  ·have cA:(k:Int)<m:=by omega
   obtain ⟨bx,ox,rfl,px⟩:=HX.out.num (show k<B.length by rw [Hm.out];exact V)
   have b5:=(HB.out.cell (p:=⟨bx,ox+k,none⟩) (ar px)).trans px
   clear px
   by_cases L:jn N (nth B k)
   ·obtain ⟨j,hj⟩:∃j:Nat,nth B k=(j:Int):=⟨(nth B k).toNat,by have:=L.1;omega⟩
    have cy:j<N:=by have:=L.2;omega
    rw [hj] at b5
    obtain ⟨x,hx⟩:∃x,i.data[j]?=some x:=⟨_,Kh (by rw [HN.out];exact cy)⟩
    obtain ⟨bd,od,X1,c1,Y1,c2,rfl,cO,p1,p2,r1,r2⟩:=fl (HD.out.below cY HB.out) hx
    have Z:eH (inN i) (ug i) x:=HG.out.f _ (by obtain ⟨q1,q2⟩:=Kg.1 hx;rw [←q2];exact List.getElem_mem _)
    have H:=fun J (q:Below wr.heap.size wr J)=>bU.out J (HB.out.trans (q.mono HB.out.size)) X1 Y1 x c1 c2 Z (r1.below q) (r2.below q)
    have aG:=tp (sz:=i.cfg.sizes) (ps:=P) (q:=i.cfg.shift) (x:=x.1) (y:=x.2) Z.1 (by have:=HG.out.c.z.1.1;omega)
    have be:aZ i.cfg.sizes (i.cfg.sizes.length-1)=n:=Hn.out
    rw [be] at aG
    have bl:=Bu i.data B (k:=k) (by rw [Hm.out];exact V) hj hx
    have q1:¬((j:Int)<0):=by omega
    have hN:=HN.out
    have q2:¬((i.data.length:Int)≤j):=by omega
    have q3:(j:Int)<i.data.length:=by omega
    obtain ⟨Hj,bA,b9,cb,bV⟩:=ah hj H aG bl L
    obtain ⟨n1,ad⟩:∃n1,x.1.length=n1:=⟨_,rfl⟩
    obtain ⟨n2,b7⟩:∃n2,x.2.length=n2:=⟨_,rfl⟩
    rw [ad] at p1;rw [b7] at p2
    obtain ⟨c8,cf⟩:=ae ad b7;clear hj hx r1 r2 Z H aG be bl L hN ad b7
    go_upto_region 8 with (fail)
    clear b5 t0 t1 t2 t3 t4 t5 t6 t7 t8 t9 c6 bM cc bI co tf
    have C:=ci.out
    dsimp only [aH] at C
    have u:(fun J:World=>J.heap[w.heap.size]?=some (.cells #[.slice A i.cfg.sizes.length c,KL i.cfg.shift,KL i.cfg.rate,KL i.cfg.mom,KL i.cfg.workers,KL i.cfg.batch,KL i.cfg.micros,KL i.cfg.steps,KL i.cfg.bucket,KL i.cfg.chunk,KL i.cfg.window,KL i.cfg.cap,.slice (some ⟨bd,od,none⟩) i.data.length cd,.slice T i.start.length ct,.slice R i.draws.length cr] 29 (0,0))∧J.cell? ⟨bd,od+j*2,none⟩=some (.slice X1 n1 c1)∧J.cell? ⟨bd,od+j*2+1,none⟩=some (.slice Y1 n2 c2)) wr.drew:=⟨C,p1,p2⟩
    refine HA.g (fun J:World=>J.heap[w.heap.size]?=some (.cells #[.slice A i.cfg.sizes.length c,KL i.cfg.shift,KL i.cfg.rate,KL i.cfg.mom,KL i.cfg.workers,KL i.cfg.batch,KL i.cfg.micros,KL i.cfg.steps,KL i.cfg.bucket,KL i.cfg.chunk,KL i.cfg.window,KL i.cfg.cap,.slice (some ⟨bd,od,none⟩) i.data.length cd,.slice T i.start.length ct,.slice R i.draws.length cr] 29 (0,0))∧J.cell? ⟨bd,od+j*2,none⟩=some (.slice X1 n1 c1)∧J.cell? ⟨bd,od+j*2+1,none⟩=some (.slice Y1 n2 c2)) ?_
    refine HA.t ?_ [0,1,2,4,5,6,7,8,9,10,11,12,13,14,15] u ?_
    refine HA.o 3 (fun K hK=>?_)
    clear C
    have I:=bs.out wr.drew
    dsimp only [aH] at I
    go_simp
    refine I.mono ?_
    clear I
    rintro e w3 ⟨rfl,Y⟩
    have bb:=JL ((Y.block _ bX).trans u.1) (JL (am Y u.2.1) (am Y u.2.2))
    have b4:=aa (show Below wr.heap.size wr w3 from (JG _ wr).drew.trans Y);clear Y u
    dsimp only
    refine hK.out _ _ bb (fun u=>?_)
    clear hK K bb
    refine HA.o 16 (fun K hK=>?_)
    have H:=bA.out w3 b4.out
    rw [c8.out,cf.out] at H
    go_simp
    refine H.mono ?_
    clear H
    rintro e w4 ⟨A4,c4,rfl,bw,a2⟩
    have bz:=JL ((a2.block _ (JC u.1)).trans u.1) (JL (am a2 u.2.1) (am a2 u.2.2))
    obtain ⟨b6,bN⟩:=ae (b4.out.trans (a2.mono b4.out.size)) bw;clear a2 u bw
    dsimp only
    refine hK.out _ _ bz (fun u=>?_)
    clear hK K bz
    refine HA.o 17 (fun K hK=>?_)
    go_simp
    have cl:=b6.out.size
    have bn:cE sH 1 (w4.alloc (.cells #[.slice As n cs,.slice A4 n c4] 26)) (some ⟨w4.heap.size,0,none⟩) [dO i P (di i.data (B.take k)),gD i.cfg.sizes P i.cfg.shift x.1 x.2]:=
     Ir w4 _ _ As A4 n cs c4 _ _ rfl rfl (by rw [im];exact Hn.out) b9.out bv (Rd.own (ap HO.out b6.out)) bN.out
    have O:=AR (some ⟨w4.heap.size,0,none⟩) [dO i P (di i.data (B.take k)),gD i.cfg.sizes P i.cfg.shift x.1 x.2] 2 n _ _ bn (by simp) rfl (by rw [im];exact Hn.out)
    have O:Calls Tryz.prog 120 #[.slice (some ⟨w4.heap.size,0,none⟩) 2 2] (w4.alloc (.cells #[.slice As n cs,.slice A4 n c4] 26)) _:=O
    have a6:=aa O;clear bn O
    refine hK.out _ _ ⟨fw u.1 _,aA u.2.1 _,aA u.2.2 _⟩ (fun u=>?_)
    clear hK K
    refine HA.o 18 (fun K hK=>?_)
    go_simp
    refine a6.out.mono ?_
    rintro e w5 ⟨v5,ok,rfl,a1,U⟩
    obtain ⟨rfl,ao⟩:=U (fun t y hy=>by
     match t,hy with
     | 0,hy=>injection hy with hy;rw [←hy,im];exact Hn.out
     | 1,hy=>injection hy with hy;rw [←hy];exact b9.out)
    rw [Dm (by rw [im];exact Hn.out) (wz _ _ _),←ut,←cb.out] at ao
    have bf:=JL ((a1.block _ (JC u.1)).trans u.1) (JL (am a1 u.2.1) (am a1 u.2.2))
    have ab:Below wr.heap.size wr w5:=(b6.out.alloc cl _).trans (a1.mono (by simp;omega))
    obtain ⟨bh,cj⟩:=ae (ax (base':=w.heap.size) ao (by simp;omega)) (cv.out.trans (ab.mono (by omega)))
    clear a1 ab ao U u a6
    obtain ⟨A5,c5,rfl,_⟩:=aw bh.out
    dsimp only
    refine hK.out _ _ bf (fun u=>?_)
    clear hK K bf
    refine HA.t ?_ [19,20,21,22] u ?_
    refine HA.d ?_
    clear u p1 p2
    go_wp2_with fail
    go_roundw
    case rel=>
     refine ⟨k+1,V,by go_num,bh.out,Lib.hid fun t ht=>?_,cj.out⟩
     rcases JR t k with h | h
     ·exact a7.out t h
     ·obtain rfl:t=k:=by omega
      exact bV.out
    case measure=>exact Im V
   ·have aM:nth B k<0∨(i.data.length:Int)≤nth B k:=by
     have hN:=HN.out
     unfold jn at L;omega
    have b8:¬iK i B:=fun h=>L (by rw [←HN.out];exact h k (by rw [Hm.out];exact V))
    have bG:=aa b8
    obtain ⟨z,hz⟩:∃z,nth B k=z:=⟨_,rfl⟩
    rw [hz] at b5 aM
    clear b8 L hz
    by_cases aP:z<0
    ·clear aM
     go_wp2_with fail
     go_ret2
     exact ⟨HB.out,.inr ⟨bG.out,rfl⟩⟩
    ·have d3:(i.data.length:Int)≤z:=by omega
     clear aM
     go_wp2_with fail
     go_ret2
     exact ⟨HB.out,.inr ⟨bG.out,rfl⟩⟩
  ·obtain rfl:m=k:=by omega
   go_wp2_with fail
   go_ret2
   refine ⟨HB.out,.inl ⟨fun j hj=>by rw [HN.out];exact a7.out j (by rw [←Hm.out];exact hj),_,rfl,?_⟩⟩
   have:=HO.out
   rw [Hn.out]
   rwa [←Hm.out,Ks] at this
theorem Ba (c i m:Nat) (A:Option Addr) (l:List Int) (w:World) (hA:Rd w A (aq .u64 l)) (C:i<l.length) (hl:l.length≤17592186043904) (hu:U64 l) (hm:1≤m) (R:m≤1048576):
  Calls Tryz.prog 183 #[.agg #[.slice A l.length c,KL i],KL m] w fun e J=>e=.returned (.tuple #[.agg #[.slice A l.length c,KL ((i+1:Nat):Int)],KL (nth l i%m),.bool true])∧Below w.heap.size w J:=by
 obtain ⟨j,o,rfl,p⟩:=hA.num C
 obtain ⟨x,hx⟩:∃x,nth l i=x:=⟨_,rfl⟩
 have B:=hu i C
 rw [hx] at p B ⊢
 obtain ⟨n,hn⟩:∃n,l.length=n:=⟨_,rfl⟩
 rw [hn] at C hl ⊢
 have O:j<w.heap.size:=ar p
 clear hn hx hu hA
 have X:¬((m:Int)<1):=by omega
 have U:(i:Int)<n:=by omega
 have I:¬((n:Int)≤i):=by omega
 have hw:wrap64 (x%(m:Int))=x%(m:Int):=by
  have h1:=Int.emod_nonneg x (show (m:Int)≠0 by omega)
  have L:=Int.emod_lt_of_pos x (show (0:Int)<(m:Int) by omega)
  generalize x%(m:Int)=y at h1 L ⊢
  unfold wrap64;omega
 have T:=aa hw;clear hw
 go_enter Tryz.func183,Tryz.ntmps183
 go_wp2_with fail
 go_region
 go_wp2_with fail
 have D:=JE (w.alloc (.cells #[.slice (some ⟨j,o,none⟩) n c,KL ((i:Int)+1)] 258)) (.cells #[.slice (some ⟨j,o,none⟩) n c,KL ((i:Int)+1)] 258)
 rw [show (w.alloc (.cells #[.slice (some ⟨j,o,none⟩) n c,KL ((i:Int)+1)] 258)).heap.size=w.heap.size+1 by simp] at D
 have hB:Below w.heap.size w ((w.alloc (.cells #[.slice (some ⟨j,o,none⟩) n c,KL ((i:Int)+1)] 258)).alloc (.cells #[.slice (some ⟨j,o,none⟩) n c,KL ((i:Int)+1)] 258)):=((JG _ w).alloc (JD _) _).alloc (by simp) _
 obtain ⟨u,q⟩:∃u,u=((w.alloc (.cells #[.slice (some ⟨j,o,none⟩) n c,KL ((i:Int)+1)] 258)).alloc (.cells #[.slice (some ⟨j,o,none⟩) n c,KL ((i:Int)+1)] 258)).drew:=⟨_,rfl⟩
 have V:u.heap[w.heap.size+1]?=some (.cells #[.slice (some ⟨j,o,none⟩) n c,KL ((i:Int)+1)] 258 (0,0)):=by rw [q];exact D
 have H:Below w.heap.size w u:=by rw [q];exact hB.drew
 rw [←q]
 clear q hB D
 obtain ⟨⟨Q,N⟩,Y⟩:=bx2 V
 rw [T.out]
 exact JQ (v:=.tuple #[.agg #[.slice (some ⟨j,o,none⟩) n c,KL ((i:Int)+1)],KL (x%m),.bool true]) (by simp [results,Tryz.results183,go_sem,Q,N]) rfl ⟨by rw [Int.natCast_add];rfl,H⟩
theorem Jm {q n:Nat} (h:q<n) (i:n≤1048576):(q:Int)≤1048576:=by omega
theorem Jl {q n k m:Nat} (h:n-1-k=q) (h1:k<m) (i:m<n):(q:Int)-1=(n:Int)-1-((k+1:Nat):Int):=by omega
theorem Jk {q:Nat} (h:0<q):((q:Int)-1).toNat<(q:Int).toNat:=by omega
theorem tW (n c i:Nat) (A:Option Addr) (l:List Int) (w:World) (hA:Rd w A (aq .u64 l)) (hn:1≤n) (bz:n≤1048576) (hi:i+(n-1)≤l.length) (hl:l.length≤1048576) (hu:U64 l):
  Calls Tryz.prog 155 #[KL n,.agg #[.slice A l.length c,KL i]] w fun e w'=>∃v,e=.returned (.tuple #[.agg #[.slice A l.length c,KL ((i+(n-1):Nat):Int)],v,.bool true])∧w'.ownsRow w.heap.size 3 1 v n (aq .i64 (fz l n i))∧Below w.heap.size w w':=by
 obtain ⟨m,hm⟩:∃m,n-1=m:=⟨_,rfl⟩
 rw [hm] at hi ⊢
 have bA:fz l n i=fU n (gr l n i) m:=by unfold fz;rw [hm]
 rw [bA]
 have cd:m<n:=by omega
 have d3:n≤m+1:=by omega
 have aR:=fun w'=>mM n w' hn bz
 rw [hm] at aR
 clear hm bA
 have hnx:=fun k (hk:k<m) w' (q:Rd w' A (aq .u64 l))=>Ba c (i+k) (n-k) A l w' q (by omega) (by omega) hu (by omega) (by omega)
 obtain ⟨N,hN⟩:∃N,l.length=N:=⟨_,rfl⟩
 rw [hN] at hi hl hnx ⊢
 obtain ⟨HA,cv,cw,HN⟩:=ag hA hnx aR hN;clear hA hnx aR hu hN
 have aM:¬((n:Int)<0):=by omega
 have bd:¬((1048576:Int)<n):=by omega
 have bO:¬(((N:Int)-i)<m):=by omega
 go_enter Tryz.func155,Tryz.ntmps155
 go_wp2_with fail
 have bI:IntKind.i64.wrap ((N:Int)-i)=(N:Int)-i:=JI _ (by omega)
 go_quiet ((go_at_call 109;refine Calls.quiet_of ((cw.out _).mono fun e w' ⟨he,hw⟩=>⟨he,0,hw.symm⟩)))
 clear bI aM bd bO
 go_wp2_with fail
 rename_i h9 _ _
 clear h9
 have U:=(JP (w.alloc (.cells #[.slice A N c,KL i] 258)) (.cells #[KN,KL 0] 258) w.heap.size (by simp)).trans (JE w _)
 have hy:=JE (w.alloc (.cells #[.slice A N c,KL i] 258)) (.cells #[KN,KL 0] 258)
 rw [show (w.alloc (.cells #[.slice A N c,KL i] 258)).heap.size=w.heap.size+1 by simp] at hy
 have hB:Below w.heap.size w ((w.alloc (.cells #[.slice A N c,KL i] 258)).alloc (.cells #[KN,KL 0] 258)):=((JG _ w).alloc (JD _) _).alloc (by simp) _
 obtain ⟨R,hW0⟩:∃R,R=((w.alloc (.cells #[.slice A N c,KL i] 258)).alloc (.cells #[KN,KL 0] 258)).drewN nq:=⟨_,rfl⟩
 have b7:R.heap[w.heap.size]?=some (.cells #[.slice A N c,KL i] 258 (0,0)):=by rw [hW0];exact U
 have aG:R.heap[w.heap.size+1]?=some (.cells #[KN,KL 0] 258 (0,0)):=by rw [hW0];exact hy
 have ao:Below w.heap.size w R:=by rw [hW0];exact JN hB _
 rw [←hW0]
 clear hW0 U hy hB
 have d2:=ao.size
 have cy:=JC aG
 obtain ⟨cO,bN,be⟩:=af b7 aG ao;clear b7 aG ao
 go_loopw [7,8] (fun v x wr=>∃k:Nat,k≤n∧x=KL k∧wr.ownsRow R.heap.size 3 1 v k (aq .i64 (rj k))∧Below R.heap.size R wr) (fun _ x _=>n-(intOf x).toNat)
 case atStart=>exact ⟨0,JH _,rfl,JO _ _ _ _,JG _ _⟩
 case round=>
  obtain ⟨k,hk,rfl,u,hb⟩:=hrel
  by_cases Y:k<n
  ·obtain ⟨Al,cl,rfl,_⟩:=aw u
   obtain ⟨bv,Hb⟩:=ae u hb;clear u hb
   go_wp2_with (at_builtin;refine aQ gq _ rfl (.tmp 37) (.tmp 39) rfl R.heap.size (.slice Al k cl) k _ rfl bv.out [KL (k:Int)] rfl rfl (bP .i64 [_]) (by omega) (by unfold maxLen;omega) Hb.out.size ?_)
   intro g6 c6 w6 B bf cs
   have a0:=Hb.out.trans bf
   obtain ⟨ad,bX⟩:=ae B a0;clear B bf cs a0
   go_wp2_with fail
   go_roundw
   case rel=>
    refine ⟨k+1,by omega,by go_num,?_,bX.out⟩
    have:rj (k+1)=rj k++[(k:Int)]:=gK _ _
    rw [this,cD];exact ad.out
   case measure=>simp [intOf];omega
  ·obtain rfl:n=k:=by omega
   obtain ⟨g,c2,rfl,_⟩:=u.form hn
   obtain ⟨W1,rfl⟩:∃W1:World,W1=wr:=⟨_,rfl⟩
   have H:=(hb.block _ (by omega)).trans cO.out
   have b4:=(hb.block _ cy).trans bN.out
   have bV:=u.lt g rfl
   have d5:=hb.size
   obtain ⟨b0,cj,av,bM⟩:=ag H b4 (be.out.trans (hb.mono be.out.size)) u;clear H b4 hb u
   go_wp2_with fail
   go_loopw [9] (fun x wr=>∃k:Nat,k≤m∧x=KL ((n:Int)-1-k)∧wr.heap[w.heap.size]?=some (.cells #[.slice A N c,KL ((i+k:Nat):Int)] 258 (0,0))∧wr.ownsRow R.heap.size 3 1 (.slice (some ⟨g,0,none⟩) n c2) n (aq .i64 (fU n (gr l n i) k))∧Keep (fun j=>j=w.heap.size∨j=g) W1 wr) (fun x _=>(intOf x).toNat)
   case atStart=>exact ⟨0,JH _,by go_num,b0.out,bM.out,Keep.refl _ _⟩
   case round=>
    obtain ⟨k,hk,rfl,U,u,hK⟩:=hrel
    by_cases Y:k<m
    ·obtain ⟨q,hq⟩:∃q,n-1-k=q:=⟨_,rfl⟩
     have b9:(n:Int)-1-k=(q:Int):=by omega
     have aM:0<q:=by omega
     have bd:(0:Int)<q:=by omega
     have bs:Rd wr A (aq .u64 l):=hK.rd (HA.out.below av.out) (fun a ha e=>by
      obtain ⟨b,o,T,hc⟩:=HA.out.num (show 0<l.length by have:=HN.out;omega)
      rw [ha] at T;injection T with T;subst T
      have h5:b<w.heap.size:=ar hc
      have h6:b=w.heap.size∨b=g:=e
      omega)
     have hnx:=cv.out k Y wr bs
     rw [←tt l (by omega),show ((n-k:Nat):Int)=(q:Int)+1 by omega] at hnx
     have bb:=rE l (n:=n) (i:=i) (k:=k) (by omega)
     obtain ⟨C,a3⟩:∃C,gr l n i k=C:=⟨_,rfl⟩
     rw [a3] at hnx bb
     obtain ⟨cc,O⟩:=ae (JK bV.2 hK.size) (show ¬g=w.heap.size by omega)
     have J:q<n:=by omega
     have D:C<n:=by omega
     have V:(C:Int)<n:=by omega
     have Z:(q:Int)<n:=by omega
     have bG:=JC U
     obtain ⟨⟨z0,z1⟩,zf⟩:=bx2 U
     simp only [Int.natCast_add,Int.cast_ofNat_Int] at hnx
     obtain ⟨bn,c8,HZ,HO,HK,Hq⟩:=ai hnx a3 U u hK hq
     rw [b9]
     have cA:wrap64 ((q:Int)+1)=(q:Int)+1:=by unfold wrap64;omega
     obtain ⟨a7,a2,cr,c9⟩:=ag J D V Z;clear hnx a3 U u hK bs hq b9 bb J D V Z
     go_wp2_with fail
     with_reducible refine bn.out.mono ?_
     rintro e w1 ⟨rfl,Q⟩
     have H:=(Q.block _ bG).trans HZ.out
     have I:=ap HO.out Q
     have p1:=cq I a7.out
     have p2:=cq I a2.out
     have f1:=I.frozenAt q
     have f2:=I.frozenAt C
     clear z0 z1 zf
     obtain ⟨⟨z0,z1⟩,zf⟩:=bx2 H
     have bo:=JC H
     have a1:=Q.size
     obtain ⟨b0,cb,bU,d0⟩:=ag H I Q a1;clear H I Q p1 p2 f1 f2;have d1:=aa (JK cc.out a1)
     go_upto_region 13 with (fail)
     clear z0 z1 zf
     have e1:=KG w1 w.heap.size 0 _ _ (.slice A N c) b0.out
     have T:=KG _ w.heap.size 1 _ _ (KL ((i:Int)+k+1)) e1
     have ab:Keep (fun j=>j=w.heap.size∨j=g) w1 (((w1.setCell ⟨w.heap.size,0,none⟩ (.slice A N c)).setCell ⟨w.heap.size,1,none⟩ (KL ((i:Int)+k+1))).alloc (.cells #[.slice A N c,KL ((i:Int)+k+1)] 258)):=(Keep.setCell (S:=fun j=>j=w.heap.size∨j=g) (Keep.setCell (S:=fun j=>j=w.heap.size∨j=g) (Keep.refl _ _) ⟨w.heap.size,0,none⟩ (.inr (.inl rfl)) _) ⟨w.heap.size,1,none⟩ (.inr (.inl rfl)) _).alloc _
     have e3:=(JP ((w1.setCell ⟨w.heap.size,0,none⟩ (.slice A N c)).setCell ⟨w.heap.size,1,none⟩ (KL ((i:Int)+k+1))) (.cells #[.slice A N c,KL ((i:Int)+k+1)] 258) w.heap.size (by simpa using bo)).trans T
     have y:=((Keep.setCell (S:=fun j=>j=w.heap.size) (Keep.setCell (S:=fun j=>j=w.heap.size) (Keep.refl _ w1) ⟨w.heap.size,0,none⟩ (.inr rfl) (.slice A N c)) ⟨w.heap.size,1,none⟩ (.inr rfl) (KL ((i:Int)+k+1))).alloc (.cells #[.slice A N c,KL ((i:Int)+k+1)] 258)).own cb.out (fun j X e=>O.out (by injection X with X;exact X.trans e))
     obtain ⟨W5,bh⟩:∃W5,W5=((w1.setCell ⟨w.heap.size,0,none⟩ (.slice A N c)).setCell ⟨w.heap.size,1,none⟩ (KL ((i:Int)+k+1))).alloc (.cells #[.slice A N c,KL ((i:Int)+k+1)] 258):=⟨_,rfl⟩
     rw [←bh] at e3 ab y ⊢
     clear bh e1 T
     have b5:=jz y
     have J:=a7.out;have D:=a2.out
     have p1:=cq y J
     have p2:=cq y D
     have f1:=y.frozenAt q
     have f2:=y.frozenAt C
     have a8:=uN (p:=fU n (gr l n i) k) (i:=q) (j:=C) (by rw [jS];exact J) (by rw [jS];exact D)
     have b2:fU n (gr l n i) (k+1)=swp (fU n (gr l n i) k) q C:=by rw [fU,Hq.out,c8.out]
     obtain ⟨sl,b8⟩:∃sl,fU n (gr l n i) k=sl:=⟨_,rfl⟩
     rw [b8] at y p1 p2 a8 b2
     obtain ⟨co,d7,d6,cf,ct,bl⟩:=ai y a8 J b2 ab e3
     have V:=cr.out;have Z:=c9.out
     clear y a8 b2 ab e3 b8 b5
     go_upto_region 14 with (fail)
     go_upto_region 15 with (fail)
     have B:=dA co.out q (nth sl C)
     have a6:Keep (fun j=>j=w.heap.size∨j=g) w1 (W5.setCell ⟨g,q,none⟩ (KL (nth sl C))):=Keep.setCell (S:=fun j=>j=w.heap.size∨j=g) ct.out ⟨g,q,none⟩ (.inr (.inr rfl)) _
     have a4:=((Keep.setCell (S:=fun j=>j=g) (Keep.refl _ W5) ⟨g,q,none⟩ (.inr rfl) (KL (nth sl C))).block w.heap.size (JC bl.out) (fun e=>O.out e.symm)).trans bl.out
     obtain ⟨W6,b3⟩:∃W6,W6=W5.setCell ⟨g,q,none⟩ (KL (nth sl C)):=⟨_,rfl⟩
     rw [←b3] at B a6 a4 ⊢
     clear b3 p1 p2 f1 f2
     have D:=a2.out
     have p2:=cq B D
     have f2:=B.frozenAt C
     obtain ⟨ad,cx,bw⟩:=af B a6 a4;clear B a6 a4
     go_upto_region 10 with (fail)
     have d4:=Jm a7.out bz
     clear p2 f2 V Z cA
     go_wp2_with fail
     go_roundw
     case rel=>
      refine ⟨k+1,Y,congrArg (Value.int .i64) (Jl Hq.out Y cd),?_,?_,?_⟩
      ·have h8:=(Keep.setCell (S:=fun j=>j=g) (Keep.refl _ W6) ⟨g,C,none⟩ (.inr rfl) (KL (nth sl q))).block w.heap.size (JC bw.out) (fun e=>O.out e.symm)
       refine h8.trans (bw.out.trans ?_)
       simp [Int.add_assoc]
      ·rw [cf.out]
       exact dA ad.out C _
      ·exact HK.out.trans ((Keep.below bU.out).trans (Keep.setCell (S:=fun j=>j=w.heap.size∨j=g) cx.out ⟨g,C,none⟩ (.inr (.inr rfl)) _))
     case measure=>exact Jk aM
    ·obtain rfl:m=k:=by omega
     have a5:=(hK.block _ (by omega) (by omega)).trans cj.out
     have b1:Below w.heap.size w wr:=av.out.trans (hK.toBelow av.out.size (fun j X=>by omega))
     have e1:=KG wr (w.heap.size+1) 0 _ _ (.slice A N c) a5
     have T:=KG _ (w.heap.size+1) 1 _ _ (KL ((i:Int)+m)) e1
     have aP:Keep (fun j=>j=w.heap.size+1) wr ((wr.setCell ⟨w.heap.size+1,0,none⟩ (.slice A N c)).setCell ⟨w.heap.size+1,1,none⟩ (KL ((i:Int)+m))):=Keep.setCell (S:=fun j=>j=w.heap.size+1) (Keep.setCell (S:=fun j=>j=w.heap.size+1) (Keep.refl _ _) _ (.inr rfl) _) _ (.inr rfl) _
     have L:=aP.own u (fun j X e=>by injection X with X;have h1:g=j:=X;omega)
     obtain ⟨⟨z0,z1⟩,zf⟩:=bx2 U
     obtain ⟨⟨y0,y1⟩,yf⟩:=bx2 a5
     obtain ⟨c7,ci,E2⟩:=af L (b1.trans (aP.toBelow b1.size (fun j X=>by omega))) T;clear L b1 aP e1 T hK u U a5
     go_wp2_with fail
     have e3:=E2.out
     have L:=c7.out
     have b6:=ci.out
     obtain ⟨W9,bi⟩:∃W9,W9=(wr.setCell ⟨w.heap.size+1,0,none⟩ (.slice A N c)).setCell ⟨w.heap.size+1,1,none⟩ (KL ((i:Int)+m)):=⟨_,rfl⟩
     rw [←bi] at e3 L b6 ⊢
     clear bi
     have e3:W9.heap[w.heap.size+1]?=some (.cells #[.slice A N c,KL ((i:Int)+m)] 258 (0,0)):=by simpa using e3
     clear y0 y1 yf z0 z1 zf
     obtain ⟨⟨r0,r1⟩,rf⟩:=bx2 e3
     exact JQ (v:=.tuple #[.agg #[.slice A N c,KL ((i:Int)+m)],.slice (some ⟨g,0,none⟩) n c2,.bool true]) (by simp [results,Tryz.results155,go_sem,r0,r1]) rfl ⟨_,by rw [Int.natCast_add],ax L (by omega),b6⟩
theorem ux (n bt sn:Nat) (w:World) (Q:1≤bt∧bt≤n) (hn:n≤1048576) (hs:sn≤1048576):
  Calls Tryz.prog 154 #[KL n,KL bt,KL sn] w fun e N=>e=.returned (KL (epN n bt sn:Int))∧w=N:=by
 obtain ⟨j,o⟩:∃j,n/bt=j:=⟨_,rfl⟩
 have p:1≤j:=by rw [←o];exact Nat.div_pos (by omega) (by omega)
 have A:j≤n:=by rw [←o];exact Nat.div_le_self _ _
 have H:epN n bt sn=(sn+j-1)/j:=by unfold epN;rw [o,qj _ _ p]
 rw [H]
 have y:(sn+j-1)/j≤sn+j-1:=Nat.div_le_self _ _
 have u:=fun t=>An (sn:=sn) (t:=t) p
 have q:=fun t=>Ai (sn:=sn) (t:=t) p
 obtain ⟨E,x⟩:∃E,(sn+j-1)/j=E:=⟨_,rfl⟩
 rw [x] at y u q ⊢
 have L:(n:Int).tdiv (bt:Int)=(j:Int):=by rw [←o];rfl
 have J:(n:Int)/(bt:Int)=(j:Int):=by rw [←o];rfl
 have O:¬(bt=0):=by omega
 obtain ⟨C,B⟩:=ae u q;clear o H x u q
 go_enter Tryz.func154,Tryz.ntmps154
 go_wp2_with fail
 go_loopw [7,8] (fun t i wr=>∃k m:Nat,k≤E∧t=KL k∧i=KL m∧Hid (m=k*j)∧m<sn+j∧wr=w) (fun _ i _=>sn-(intOf i).toNat)
 case atStart=>exact ⟨0,0,JH _,rfl,rfl,Lib.hid (by omega),by omega,rfl⟩
 case round=>
  obtain ⟨k,m,R,rfl,rfl,D,hm,rfl⟩:=hrel
  by_cases v:m<sn
  ·have I:(m:Int)<sn:=by omega
   go_wp2_with fail
   go_roundw
   case rel=>exact ⟨k+1,m+j,C.out k (by rw [←D.out];exact v),by go_num,by go_num,Lib.hid (by rw [D.out,Kx]),by omega,trivial⟩
   case measure=>simp [intOf];omega
  ·obtain rfl:k=E:=by
    rcases JR k E with h | h
    ·exact absurd (B.out k h) (by rw [←D.out];exact v)
    ·omega
   go_wp2_with fail
   go_ret
   exact ⟨rfl,rfl⟩
theorem yb (n bt sn t c:Nat) (A:Option Addr) (N:Nat) (w:World) (U:1≤bt∧bt≤n) (hn:n≤1048576) (hs:sn≤1048576) (T:t<sn):
  Calls Tryz.prog 127 #[.agg #[KL n,KL bt,KL sn,.slice A N c],KL t] w fun e L=>e=.returned (.tuple #[KL (t/(n/bt):Nat),KL (t%(n/bt):Nat),.bool true])∧Below w.heap.size w L:=by
 obtain ⟨i,j⟩:∃i,n/bt=i:=⟨_,rfl⟩
 have y:1≤i:=by rw [←j];exact Nat.div_pos (by omega) (by omega)
 have u:i≤n:=by rw [←j];exact Nat.div_le_self _ _
 have J:(n:Int).tdiv (bt:Int)=(i:Int):=by rw [←j];rfl
 have I:(n:Int)/(bt:Int)=(i:Int):=by rw [←j];rfl
 rw [j]
 have x:t/i≤t:=Nat.div_le_self _ _
 have q:t%i<i:=Nat.mod_lt _ (by omega)
 have C:(t:Int).tdiv (i:Int)=((t/i:Nat):Int):=rfl
 have o:(t:Int)/(i:Int)=((t/i:Nat):Int):=rfl
 have B:(t:Int).tmod (i:Int)=((t%i:Nat):Int):=rfl
 have p:(t:Int)%(i:Int)=((t%i:Nat):Int):=rfl
 obtain ⟨E,D⟩:∃E,t/i=E:=⟨_,rfl⟩
 obtain ⟨M,hM⟩:∃M,t%i=M:=⟨_,rfl⟩
 rw [D] at x C o ⊢
 rw [hM] at q B p ⊢
 have R:¬(bt=0):=by omega
 have Q:¬(i=0):=by omega
 have O:¬((sn:Int)≤t):=by omega
 have H:(t:Int)<sn:=by omega
 clear j D hM
 go_enter Tryz.func127,Tryz.ntmps127
 go_wp2_with fail
 go_quiet (fail)
 go_wp2_with fail
 exact JQ (v:=.tuple #[KL (E:Int),KL (M:Int),.bool true]) (by simp [results,Tryz.results127,go_sem]) rfl ⟨rfl,JN ((JG _ w).alloc (JD _) _) _⟩
end Go.Proofs.YtaccfnffmbndhaaGreat
