/- No condition. -/
import Derived.Test.YtgmajkppbhiopaaGreatQ08
set_option linter.unusedSimpArgs false
set_option linter.unusedVariables false
set_option maxRecDepth 100000
set_option maxHeartbeats 4000000
namespace Go.Proofs.YtgmajkppbhiopaaGreat
open Go.RowKit
open Tryz
theorem DZ (As Ap Y V:N_) (sz ps x y:Qa) (cs cp cy cv:Nat) (q:Int) (vals:Qc) (w:Qd) (h:ua w As Ap sz ps cs) (hx:x.length=szN sz 0) (hY:Rd w Y (aA .i64 y)) (hy:y.length=szN sz (sz.length-1)) (hV:Rd w V vals) (a5:jh w vals sz.length (dy sz ps q x)):Calls prog 144 #[.agg #[.slice As sz.length cs,.slice Ap ps.length cp,OH q],OH ((sz.length-1:Nat):Int),.slice V sz.length cv,.slice Y y.length cy] w fun e D=>∃A c,e=.returned (.slice A y.length c)/\D.ownsRow w.heap.size 2 1 (.slice A y.length c) y.length (aA .i64 (ge sz ps q x y 0))/\aq w D:=by
 have a6:=h.hg.1.1;have Q:=fun D=>nv As Ap sz.length ps.length cs cp q D ap;have a7:=(h.hg.1.at (k:=sz.length-1) ap).2.1;obtain ⟨Aj,cj,e1,e2,e3⟩:=a5.2 (sz.length-1) ap;have C:=fl (sz:=sz) (ps:=ps) (q:=q) hx (sz.length-1);obtain ⟨bo,oo,rfl,U⟩:=hV _ _ e1;have a3:bo<w.heap.size:=aB U;rw [<-hy] at C a7
 have a9:ge sz ps q x y 0=dM y.length fun i=>wrap64 (nth (dy sz ps q x (sz.length-1)) i-nth y i):=by
  show oc _ _=_
  unfold oc;rw [C]
 obtain ⟨a,ha⟩:∃a,dy sz ps q x (sz.length-1)=a:=⟨_,rfl⟩;obtain ⟨L,hL⟩:∃L,sz.length=L:=⟨_,rfl⟩;obtain ⟨m,hm⟩:∃m,ps.length=m:=⟨_,rfl⟩;obtain ⟨O,T⟩:∃O,y.length=O:=⟨_,rfl⟩;rw [a9];rw [ha] at U e3 C ⊢;rw [hL] at Q a6 U ⊢;rw [C] at U;rw [hm] at Q ⊢;rw [T] at U C a7 ⊢;obtain ⟨ab,HY,aR,ao,aP⟩:=ah Q hY T C e3;clear Q hY T C e1 e2 e3 h hx hy hV a5 a9 ha hL hm;have b2:((L-1:Nat):Int)<L:=ap;have b3:L-1<L:=ap;have hq:(((L-1:Nat):Int)==((L-1:Nat):Int))=true:=by simp
 go_enter func144,ntmps144;go_wp2_with fail;refine (ab.o _).mono ?_;rintro e w1 ⟨rfl,a8⟩;have a2:aq w w1:=((NI _ w).alloc (NF _) _).trans (a8.mono (by simp));have aG:=aa a2;clear a8 a2;go_wp2_with fail;clear hq
 go_loopw [9,10] (fun v i wr=>∃k:Nat,k<=O/\i=OH k/\wr.ownsRow w.heap.size 2 1 v k (aA .i64 (dM k fun i=>wrap64 (nth a i-nth y i)))/\aq w wr) (fun _ i _=>O-(intOf i).toNat)
 ·exact ⟨0,NJ _,rfl,NV _ _ _ _,aG.o⟩
 case round=>
  obtain ⟨k,hk,rfl,B,R⟩:=hrel;obtain ⟨Al,cl,rfl,b4⟩:=aC B;by_cases a0:k<O
  ·obtain ⟨ba,Z,rfl,p1⟩:=aP.o.num (show k<a.length by rw [ao.o];exact a0);obtain ⟨N,oy,rfl,p2⟩:=HY.o.num (show k<y.length by rw [aR.o];exact a0);have l1:ba<w.heap.size:=aB p1;have l2:N<w.heap.size:=aB p2;have s1:=(R.cell (p:=⟨bo,oo+(L-1),none⟩) a3).trans U;have s2:=(R.cell (p:=(ar ba (Z+k))) l1).trans p1;have s3:=(R.cell (p:=(ar N (oy+k))) l2).trans p2;have hz:=R.size;obtain ⟨I,HW⟩:=ae B R;clear B R p1 p2;have b1:(k:Int)<O:=ap;go_wp2_with fail;have u:(fun D:Qd=>D.cell? ⟨bo,oo+(L-1),none⟩=some (.slice (some (ar ba Z)) O cj)/\D.cell? (ar ba (Z+k))=some (OH (nth a k))/\D.cell? (ar N (oy+k))=some (OH (nth y k))) wr.drew:=⟨s1,s2,s3⟩;refine HA.g (fun D:Qd=>D.cell? ⟨bo,oo+(L-1),none⟩=some (.slice (some (ar ba Z)) O cj)/\D.cell? (ar ba (Z+k))=some (OH (nth a k))/\D.cell? (ar N (oy+k))=some (OH (nth y k))) ?_;refine HA.t ?_ [0,1,2,3,4,5,6,7,8,9,10,11,12] u ?_;refine HA.o 13 (fun K hK=>?_);go_simp;refine hK.out _ _ ⟨aI u.1 _,aI u.2.1 _,aI u.2.2 _⟩ (fun u=>?_);clear hK K;refine HA.o 14 (fun K hK=>?_);refine bT le (.tmp 25) (.tmp 38) rfl rfl w.heap.size (.slice Al k cl) k _ rfl (bW (I.o.alloc _) 1) (some (ar wr.heap.size 0)) 1 1 [OH (IntKind.i64.wrap (nth a k-nth y k))] rfl (dN wr _ _ _ rfl) rfl (by simp [Value.oneCell']) ap (by unfold maxLen;omega) (by simp;omega) ?_;intro A4 c4 w4 H J av ad;have a1:=NR ((J.cell (p:=⟨bo,oo+(L-1),none⟩) a3).trans u.1) (NR ((J.cell (p:=(ar ba (Z+k))) l1).trans u.2.1) ((J.cell (p:=(ar N (oy+k))) l2).trans u.2.2));have a4:aq w w4:=((HW.o.alloc hz _).drew).trans J;obtain ⟨b0,aM⟩:=ae H a4;clear H J av ad a4 u;dsimp only;refine hK.out _ _ a1 (fun u=>?_);clear hK K a1;refine HA.t ?_ [15] u ?_;refine HA.d ?_;clear u s1 s2 s3;go_wp2_with fail;go_roundw
   case rel=>
    have e9:IntKind.i64.wrap (nth a k-nth y k)=wrap64 (nth a k-nth y k):=by rw [IntKind.wrap_i64,wrap64]
    have H:=b0.o;rw [e9] at H;exact ⟨k+1,by omega,by go_num,by rw [iC,cT];exact H,aM.o⟩
   case measure=>simp [intOf];omega
  ·obtain rfl:k=O:=ap;obtain ⟨I,HW⟩:=ae B R;clear B R;go_wp2_with fail;go_ret;exact ⟨_,_,rfl,I.o,HW.o⟩
theorem DY (j:Nat) (As Ap Y V:N_) (sz ps x y:Qa) (cs cp cy cv:Nat) (q:Int) (vals:Qc) (w:Qd) (h:ua w As Ap sz ps cs) (hx:x.length=szN sz 0) (wx:W64 x) (hV:Rd w V vals) (bh:jh w vals sz.length (dy sz ps q x)) (hj:j+2<=sz.length) (ih:∀H,aq w H->Calls prog 144 #[.agg #[.slice As sz.length cs,.slice Ap ps.length cp,OH q],OH ((sz.length-1-j:Nat):Int),.slice V sz.length cv,.slice Y y.length cy] H fun e U=>∃A c,e=.returned (.slice A (szN sz (sz.length-1-j)) c)/\U.ownsRow H.heap.size 2 1 (.slice A (szN sz (sz.length-1-j)) c) (szN sz (sz.length-1-j)) (aA .i64 (ge sz ps q x y j))/\aq H U):Calls prog 144 #[.agg #[.slice As sz.length cs,.slice Ap ps.length cp,OH q],OH ((sz.length-2-j:Nat):Int),.slice V sz.length cv,.slice Y y.length cy] w fun e U=>∃A c,e=.returned (.slice A (szN sz (sz.length-2-j)) c)/\U.ownsRow w.heap.size 2 1 (.slice A (szN sz (sz.length-2-j)) c) (szN sz (sz.length-2-j)) (aA .i64 (ge sz ps q x y (j+1)))/\aq w U:=by
 have bi:=h.hg.1.1;have a7:=fun H=>nv As Ap sz.length ps.length cs cp q H ap;obtain ⟨k,hk⟩:∃k,sz.length-2-j=k:=⟨_,rfl⟩;have aR:sz.length-1-j=k+1:=ap;have b0:k+1<sz.length:=ap;rw [aR] at ih;have z0:=h.hg.1.at (k:=k) ap;have z1:=h.hg.1.at b0;obtain ⟨Ak,ck,e1,e2,e3⟩:=bh.2 k ap;have a4:=fl (sz:=sz) (ps:=ps) (q:=q) hx k;rw [a4] at e1;obtain ⟨bo,oo,rfl,pv⟩:=hV _ _ e1;have cc:bo<w.heap.size:=aB pv;have T:=lQ (sz:=sz) (ps:=ps) (q:=q) (x:=x) (y:=y) hx j;rw [aR] at T;have ao:=tC sz ps q x y j;have C:=lQ (sz:=sz) (ps:=ps) (q:=q) (x:=x) (y:=y) hx (j+1);rw [show sz.length-1-(j+1)=k by omega] at C;have B:=fun c (hc:c<szN sz k)=>Jj (sz:=sz) (ps:=ps) (q:=q) (x:=x) (y:=y) (j:=j) (c:=c) hx hj (by rw [hk];exact hc);have Q:=fun r c (hr:r<szN sz (k+1)) (hc:c<szN sz k) H (hb:aq w H)=>rk As Ap sz ps cs cp k r c q H (h.below hb) b0 hr hc;obtain ⟨b,o,rfl,p0⟩:=h.hA.num (show k<sz.length by omega);rw [z0.2.2] at p0;have ci:b<w.heap.size:=aB p0;have WP:=aa h.wp;rw [hk] at B ⊢;obtain ⟨ev,bv⟩:∃ev,ge sz ps q x y j=ev:=⟨_,rfl⟩;obtain ⟨en,bz⟩:∃en,ge sz ps q x y (j+1)=en:=⟨_,rfl⟩;obtain ⟨vv,bM⟩:∃vv,dy sz ps q x k=vv:=⟨_,rfl⟩;obtain ⟨L,hL⟩:∃L,sz.length=L:=⟨_,rfl⟩;obtain ⟨m,hm⟩:∃m,ps.length=m:=⟨_,rfl⟩;obtain ⟨Y0,b3⟩:∃Y0,y.length=Y0:=⟨_,rfl⟩;obtain ⟨r1,b6⟩:∃r1,szN sz (k+1)=r1:=⟨_,rfl⟩;obtain ⟨c1,b2⟩:∃c1,szN sz k=c1:=⟨_,rfl⟩;rw [bv] at T ao B ih;rw [bz] at C B ⊢;rw [bM] at e3 a4 B;rw [hL] at a7 bi b0 ih Q hj ⊢;rw [hm] at a7 ih Q ⊢;rw [b3] at ih ⊢;rw [b6] at T ih Q z1;rw [b2] at a4 C pv p0 B Q z0 ⊢;rw [T] at B;obtain ⟨cL,cd,cx,c6,cM,c9,ab,bO⟩:=ak a7 a4 e3 ih T ao C B;obtain ⟨cj,d0⟩:=ae Q b2;clear a7 a4 e3 ih T ao C B Q h hx hV bh bv bz bM hL hm b3 b6 b2 e1 e2 hk aR;have bV:((k:Int)==((L-1:Nat):Int))=false:=by simp;omega
 have d5:k<L:=ap;have dc:(k:Int)<L:=ap;go_enter func144,ntmps144;go_wp2_with fail;refine (cL.o _).mono ?_;rintro e w1 ⟨rfl,b1⟩;have Z:=(b1.block w.heap.size (by simp)).trans (NG w (.cells #[.slice (some ⟨b,o,none⟩) L cs,.slice Ap m cp,OH q] 198));have b4:aq w w1:=((NI _ w).alloc (NF _) _).trans (b1.mono (by simp));obtain ⟨⟨y0,y1,y2⟩,yf⟩:=bx3 Z;obtain ⟨aP,a8⟩:=ae b4 Z;clear b1 b4 Z;go_wp2_with fail;refine (c6.o w1 aP.o).mono ?_;rintro e U ⟨A2,c2,rfl,bd,aM⟩;have O:=(aM.block _ (NE a8.o)).trans a8.o;have bb:=aP.o.trans (aM.mono aP.o.size);have a9:=Rd.own bd;clear y0 y1 y2 yf bV;obtain ⟨⟨y0,y1,y2⟩,yf⟩:=bx3 O;have N:w.heap.size<U.heap.size:=NE O;obtain ⟨a0,d2,bn⟩:=af bb O a9;clear bd aM bb O a9;go_wp2_with fail
 go_loopw [9,12] (fun v i wr=>∃c:Nat,c<=c1/\i=OH c/\wr.ownsRow U.heap.size 2 1 v c (aA .i64 (en.take c))/\aq U wr) (fun _ i _=>c1-(intOf i).toNat)
 ·exact ⟨0,NJ _,rfl,NV _ _ _ _,NI _ _⟩
 case round=>
  obtain ⟨wq,rfl⟩:∃wq:Qd,wq=wr:=⟨_,rfl⟩;obtain ⟨c,hc,rfl,a2,a5⟩:=hrel;obtain ⟨Al,cl,rfl,dk⟩:=aC a2;have x0:=(a5.cell (p:=⟨w.heap.size,0,none⟩) N).trans y0;have a1:=a0.o.trans (a5.mono a0.o.size);have d6:=(a1.cell (p:=⟨b,o+k,none⟩) ci).trans p0;have da:U.heap.size<=wq.heap.size:=a5.size;obtain ⟨ad,bN,bG⟩:=af a2 a5 a1;clear a2 a5 a1;by_cases a6:c<c1
  ·have B:=bO.o c a6;have bf:=aa B;clear B;go_wp2_with fail
   go_loopw [13,14] (fun s i wx=>∃r:Nat,r<=r1/\i=OH r/\s=OH (tB sz ps q k c ev r)/\aq wq wx) (fun _ i _=>r1-(intOf i).toNat)
   ·exact ⟨0,NJ _,rfl,rfl,NI _ _⟩
   case round=>
    obtain ⟨wo,rfl⟩:∃wo:Qd,wo=wr:=⟨_,rfl⟩;obtain ⟨r,hr,rfl,rfl,I⟩:=hrel;have u:=bN.o.trans (I.mono bN.o.size);have D:=a0.o.trans (u.mono a0.o.size);by_cases b7:r<r1
    ·obtain ⟨be,oe,rfl,pe⟩:=bn.o.num (show r<ev.length by rw [cM.o];exact b7);have d1:be<U.heap.size:=aB pe;have cO:=(u.cell (p:=⟨be,oe+r,none⟩) d1).trans pe;have bX:=(u.cell (p:=⟨w.heap.size,0,none⟩) N).trans y0;have c8:=(u.cell (p:=⟨w.heap.size,1,none⟩) N).trans y1;have ct:=(u.cell (p:=⟨w.heap.size,2,none⟩) N).trans y2;have b5:=cj.o r c b7 a6 wo.drew D.drew;have bA:=fun H=>sG (nth ps (bR sz k+r*c1+c)) (nth ev r) q H (WP.o.nth _) (c9.o.nth _);obtain ⟨cA,cb,av⟩:=af b5 bA I;clear b5 bA I pe u D;have d4:(r:Int)<r1:=ap;go_wp2_with fail
     go_region_held3 (fun H=>H.cell? ⟨w.heap.size,0,none⟩=some (.slice (some ⟨b,o,none⟩) L cs)/\H.cell? ⟨w.heap.size,1,none⟩=some (.slice Ap m cp)/\H.cell? ⟨w.heap.size,2,none⟩=some (OH q)/\H.cell? ⟨be,oe+r,none⟩=some (OH (nth ev r))) (simp [go_sem, *])
      ((first | (go_at_call 170;refine cA.o.mono ?_;rintro e w3 ⟨rfl,R⟩;have g0:=aw R bX;have g1:=aw R c8;have g2:=aw R ct;have g3:=aw R cO;have b8:=av.o.trans (((NI wo.heap.size wo).drew.trans R).mono av.o.size);have cr:=aa b8;clear R b8) | (go_at_call 100;refine (cb.o _).mono ?_;rintro e w4 ⟨rfl,rfl⟩)))
     go_wp2_with fail;go_roundw
     ·exact ⟨r+1,by omega,by go_num,by rw [IntKind.wrap_i64,tB,wrap64,d0.o],cr.o⟩
     ·simp [intOf];omega
    ·obtain rfl:r=r1:=ap;obtain ⟨ba,oa,rfl,pa⟩:=cx.o.num (show c<vv.length by rw [cd.o];exact a6);have cP:ba<w.heap.size:=aB pa;have d3:=(D.cell (p:=⟨ba,oa+c,none⟩) cP).trans pa;have d9:=(D.cell (p:=⟨bo,oo+k,none⟩) cc).trans pv;have a3:=ay ad.o I;have d7:=I.size;have bs:=fy en c (by rw [ab.o];exact a6);obtain ⟨av,aG,cn,bl⟩:=ag I a3 bs u;clear I a3 bs pa u D;have d8:(c:Int)<c1:=ap;go_wp2_with fail;refine (uN _ _ _).mono ?_;rintro e w7 ⟨rfl,rfl⟩;rw [<-bf.o];go_wp2_with (at_builtin;refine aW le wo rfl (.tmp 76) (.tmp 86) rfl U.heap.size (.slice Al c cl) c _ rfl aG.o [OH (nth en c)] rfl rfl (by simp [Value.oneCell']) ap (by unfold maxLen;omega) ap ?_);intro g7 c7 w7 b9 bI co;have bw:=bl.o.trans bI;obtain ⟨cf,cw⟩:=ae b9 bw;clear b9 bI co bw;go_wp2_with fail;go_roundw
     ·exact ⟨c+1,by omega,by go_num,by rw [cn.o,cT];exact cf.o,cw.o⟩
     ·simp [intOf];omega
  ·obtain rfl:c=c1:=ap;have J:=ad.o;rw [List.take_of_length_le (by rw [ab.o];exact NF _)] at J;have Hf:=aa (aE J (base':=w.heap.size) (by have:=a0.o.size;omega));clear J;go_wp2_with fail;go_ret;exact ⟨_,_,rfl,Hf.o,bG.o⟩
theorem GT (o v Y V:N_) (sz ps x y:Qa) (p cp B C:Nat) (q:Int) (vals:Qc) (J:x.length=szN sz 0) (N:W64 x) (H:y.length=szN sz (sz.length-1)):
  ∀(j:Nat) (w:Qd),j+1<=sz.length->ua w o v sz ps p->Rd w Y (aA .i64 y)->Rd w V vals->jh w vals sz.length (dy sz ps q x)->
   Calls prog 144 #[.agg #[.slice o sz.length p,.slice v ps.length cp,OH q],OH ((sz.length-1-j:Nat):Int),.slice V sz.length C,.slice Y y.length B] w fun e I=>∃A c,e=.returned (.slice A (szN sz (sz.length-1-j)) c)/\I.ownsRow w.heap.size 2 1 (.slice A (szN sz (sz.length-1-j)) c) (szN sz (sz.length-1-j)) (aA .i64 (ge sz ps q x y j))/\aq w I:=by
 intro j
 induction j with
 | zero=>
  intro w _ h D u i;have:=DZ o v Y V sz ps x y p cp B C q vals w h J D H u i;rw [Nat.sub_zero,<-H];exact this
 | succ j ih=>
  intro w O h D u i;have:=DY j o v Y V sz ps x y p cp B C q vals w h J N u i ap (fun L hb=>ih L ap (h.below hb) (D.below hb) (u.below hb) (i.below hb));rw [show sz.length-1-(j+1)=sz.length-2-j by omega];exact this
def ME (sz ps:Qa) (q:Int) (x y:Qa) (B:Nat) (k:Nat) (v:Value) (p:Obj) (u h w:Qd):Prop:=
 ∃A c vals,v=.slice A k c/\w.ownsRow h.heap.size 26 1 (.slice A k c) k vals/\
  (∀j,1<=j->j<k->∃o i,vals[j]?=some (.slice o (szN sz j) i)/\w.ownsRow h.heap.size 2 1 (.slice o (szN sz j) i) (szN sz j) (aA .i64 (ge sz ps q x y (sz.length-1-j))))/\aq h w
theorem Bb {P:Program} {f:FuncId} {args:Qb} {W:Qd} {a n:Nat} {v:Value} (h:∀o,Calls P f args o fun e i=>e=.returned v/\o=i):Calls P f args (W.drewN (a+n)) fun e i=>e=.returned v/\∃m,i=W.drewN (a+m):= (h _).mono fun _ _ h=>⟨h.1,n,h.2.symm⟩
theorem DV (As Ap X Y:N_) (sz ps x y:Qa) (cs cp cx cy:Nat) (q:Int) (w:Qd) (h:ua w As Ap sz ps cs) (hX:Rd w X (aA .i64 x)) (hx:x.length=szN sz 0) (wx:W64 x) (cP:x.length<=cx) (hY:Rd w Y (aA .i64 y)) (hy:y.length=szN sz (sz.length-1)):Calls prog 97 #[.agg #[.slice As sz.length cs,.slice Ap ps.length cp,.int .i64 q],.slice X x.length cx,.slice Y y.length cy] w fun e T=>∃A' c',e=.returned (.slice A' (bR sz (sz.length-1)) c')/\Rd T A' (aA .i64 (iA sz ps q x y))/\aq w T:=by
 have dT:=h.hg.1.1;have d5:=zb (sz:=sz) (ps:=ps) (q:=q) (x:=x) (y:=y) hx ap;have b5:=CH sz (sz.length-1);have b8:=fun T=>nv As Ap sz.length ps.length cs cp q T ap;have a5:=fun T (hb:aq w T)=>Au As Ap X sz ps x cs cp cx q T (h.below hb) (hX.below hb) hx wx cP;have bf:=fun T (hb:aq w T)=>xW As sz cs T (h.hA.below hb) h.hg;have ad:=fun j V cv vals T (hb:aq w T) (hj:j+1<=sz.length) (hV:Rd T V vals) (b6:jh T vals sz.length (dy sz ps q x))=>GT As Ap Y V sz ps x y cs cp cy cv q vals hx wx hy j T hj (h.below hb) (hY.below hb) hV b6;have ei:=h.hg.2;have hG:=h.hg;rw [d5];obtain ⟨L,hL⟩:∃L,sz.length=L:=⟨_,rfl⟩;obtain ⟨m,hm⟩:∃m,ps.length=m:=⟨_,rfl⟩;obtain ⟨Y0,cA⟩:∃Y0,y.length=Y0:=⟨_,rfl⟩;obtain ⟨X0,ej⟩:∃X0,x.length=X0:=⟨_,rfl⟩;rw [hL] at b8 a5 ad bf dT b5 ei ⊢;rw [hm] at b8 a5 ad ⊢;rw [cA] at ad ⊢;rw [ej] at a5 ⊢;obtain ⟨N,hN⟩:∃N,bR sz (L-1)=N:=⟨_,rfl⟩;rw [hN] at bf b5 ei ⊢;obtain ⟨ek,g0,f7,eM,bN,HG,HL,Hx⟩:=ak b8 a5 ad bf b5 hG hL hx;have WX:=aa wx;clear b8 a5 ad bf b5 hG hX hx wx cP hY hy d5 hL hm cA ej hN h;go_enter func97,ntmps97;go_wp2_with fail;refine (g0.o _ ?_).mono ?_
 ·exact am
 rintro e w1 ⟨V,cv,vals,rfl,hV,b6,fr,cr⟩;have a4:=(cr.block w.heap.size (by simp)).trans (NG w (.cells #[.slice As L cs,.slice Ap m cp,.int .i64 q] 198));have cO:aq w w1:=((NI _ w).alloc (NF _) _).trans (cr.mono (by simp));obtain ⟨⟨z0,z1,z2⟩,zf⟩:=bx3 a4;obtain ⟨ci,bi,g5,eB⟩:=ag cO a4 hV b6;clear cr a4 cO hV b6 fr;go_wp2_with fail;refine (eM.o _ ci.o).mono ?_;rintro e w2 ⟨Pa,pc,rfl,en,a6⟩;have a1:=(a6.block _ (NE bi.o)).trans bi.o;have dk:=ci.o.trans (a6.mono ci.o.size);have eb:=g5.o.below a6;have bl:=eB.o.below a6;have dr:=Rd.own en;clear z0 z1 z2 zf;obtain ⟨⟨z0,z1,z2⟩,zf⟩:=bx3 a1;have B:w.heap.size<w2.heap.size:=NE a1;obtain ⟨b4,gd,dw,bh,bM⟩:=ah dk a1 eb bl dr;clear a6 a1 dk eb bl en dr;go_wp2_with fail
 go_loopw [9,10] (fun v i wr=>∃k:Nat,k<=L/\i=.int .i64 k/\ME sz ps q x y w.heap.size k v (.cells #[] 0 (0,0)) w w2 wr) (fun _ i _=>L-(intOf i).toNat)
 ·exact ⟨0,NJ _,rfl,none,0,[],rfl,NV _ _ _ _,fun j h1 h2=>ap,NI _ _⟩
 case round=>
  obtain ⟨wq,rfl⟩:∃wq:Qd,wq=wr:=⟨_,rfl⟩;obtain ⟨k,hk,rfl,Aa,ca,av,rfl,e0,el,ab⟩:=hrel;have x0:=(ab.cell (p:=⟨w.heap.size,0,none⟩) B).trans z0;have x1:=(ab.cell (p:=⟨w.heap.size,1,none⟩) B).trans z1;have x2:=(ab.cell (p:=⟨w.heap.size,2,none⟩) B).trans z2;obtain ⟨b3,d6,bb⟩:=af e0 el ab;clear e0 el ab;by_cases bO:k<L
  ·have fs:(k:Int)<=((L-1:Nat):Int):=ap;go_wp2_with fail;refine (ek.o _).mono ?_;rintro e w3 ⟨rfl,O⟩;have J:=bb.o.trans (O.mono bb.o.size);have U:=ay b3.o O;have eY:=J.size;clear x0 x1 x2;obtain ⟨I,a3,fa⟩:=af J U O;clear O J U;go_wp2_with (at_builtin;refine aW Ja w3 rfl (.tmp 27) (.tmp 28) rfl w2.heap.size (.slice Aa k ca) k av rfl a3.o [.slice none 0 0] rfl rfl (by simp [Value.oneCell']) ap (by unfold maxLen;omega) eY ?_);intro g4 c4 w4 es ew eo;have dc:=I.o.trans ew;have g9:=b3.o.1
   have bX:∀{mm:Nat} {u:Value} {ys:Qc} {b0:Nat},w3.ownsRow b0 2 1 u mm ys->w4.ownsRow b0 2 1 u mm ys:=fun h=>h.kept eo (by
    rename_i u _ _
    cases hu:u.ownBlock with
    | none=>exact .inl rfl
    | some i=>exact .inr fun e9=>jC a3.o h (by decide) i e9.symm hu)
   have bw:∀j,1<=j->j<k->∃Aj cj,(av++[Value.slice none 0 0])[j]?=some (.slice Aj (szN sz j) cj)/\w4.ownsRow w2.heap.size 2 1 (.slice Aj (szN sz j) cj) (szN sz j) (aA .i64 (ge sz ps q x y (sz.length-1-j))):=fun j h1 h2=>by
    obtain ⟨Aj,cj,e1,e2⟩:=d6.o j h1 h2;exact ⟨Aj,cj,by rw [Og ap];exact e1,bX (ay e2 fa.o)⟩
   obtain ⟨a8,H,ea⟩:=af es dc bw;clear es ew eo dc bw;have y0:=(H.o.cell (p:=⟨w.heap.size,0,none⟩) B).trans z0;have y1:=(H.o.cell (p:=⟨w.heap.size,1,none⟩) B).trans z1;have y2:=(H.o.cell (p:=⟨w.heap.size,2,none⟩) B).trans z2;by_cases gm:k=0
   ·have eG:¬(0:Int)<(k:Int):=ap;go_wp2_with fail;go_roundw
    ·exact ⟨k+1,by omega,by go_num,some ⟨g4,0,none⟩,c4,_,rfl,a8.o,fun j h1 h2=>ap,H.o⟩
    ·simp [intOf];omega
   ·have eG:(0:Int)<(k:Int):=ap;have gk:0<k:=ap;have b1:=f7.o (L-1-k) V cv vals w4 (b4.o.trans (H.o.mono b4.o.size)) ap (dw.o.below H.o) (bh.o.below H.o);rw [show L-1-(L-1-k)=k by omega] at b1;have da:=aa b1;clear b1;have gg:k<k+1:=Nat.lt_succ_self k;have gb:(k:Int)<(k:Int)+1:=ap;go_wp2_with fail;refine da.o.mono ?_;rintro e w5 ⟨A5,c5,rfl,d1,be⟩;have dG:=H.o.trans (be.mono H.o.size);have Z:=ay a8.o be;have g8:=H.o.size;have q0:=Z.cellAt k ap
    have qk:(av++[Value.slice none 0 0])[k]?=some (.slice none 0 0):=by
     have:=a8.o.1;rw [Oh (by simp at this;omega)];simp at this;simp [show av.length=k by omega]
    rw [qk] at q0;have qf:=Z.frozenAt k;have d9:=(Z.stored k (.slice A5 (szN sz k) c5)).1;obtain ⟨eL,eq,fv,fn,ec,gf⟩:=ai d9 dG d1 be Z qk;clear d9 dG d1 be Z qk y0 y1 y2;go_wp2_with fail;have cM:Keep (fun i=>i=g4) w5 (w5.setCell ⟨g4,k,none⟩ (.slice A5 (szN sz k) c5)):=Keep.setCell (S:=fun i=>i=g4) (Keep.refl _ _) ⟨g4,k,none⟩ (.inr rfl) _
    have a2:∀{mm:Nat} {u:Value} {ys:Qc} {b0:Nat},w5.ownsRow b0 2 1 u mm ys->(w5.setCell ⟨g4,k,none⟩ (.slice A5 (szN sz k) c5)).ownsRow b0 2 1 u mm ys:=fun h=>cM.own h (fun i hi e9=>by
     subst e9
     exact jC ec.o h (by decide) i rfl hi)
    go_roundw
    case rel=>
     refine ⟨k+1,by omega,by go_num,some ⟨g4,0,none⟩,c4,_,rfl,eL.o,fun j h1 h2=>?_,eq.o.trans (cM.toBelow eq.o.size (fun i hi=>by subst hi;exact (a8.o.lt i rfl).1))⟩;have gx:(av++[Value.slice none 0 0]).length=k+1:=by have:=a8.o.1;simpa using this
     rcases NY j k with d8 | d8
     ·obtain ⟨Aj,cj,e1,e2⟩:=ea.o j h1 d8;refine ⟨Aj,cj,?_,a2 (ay e2 fn.o)⟩;rw [List.getElem?_set_ne ap];exact e1
     ·obtain rfl:j=k:=ap;refine ⟨A5,c5,?_,?_⟩
      ·rw [List.getElem?_set_self ap]
      ·have:=a2 (aE fv.o (base':=w2.heap.size) g8);rw [HL.o];exact this
    case measure=>simp [intOf];omega
  ·obtain rfl:k=L:=ap;have fs:¬((k:Int)<=((k-1:Nat):Int)):=ap;have gl:1<=k:=ap;go_wp2_with fail;refine (ek.o _).mono ?_;rintro e w3 ⟨rfl,O⟩;obtain ⟨ga,gs,bo,go,_⟩:=b3.o.form ap;simp only [Ou] at bo;obtain ⟨rfl,eS,rfl⟩:=bo;clear eS;have J:=bb.o.trans (O.mono bb.o.size);have U:=ay b3.o O
   have bA:∀j,1<=j->j<k->∃Aj cj,av[j]?=some (.slice Aj (szN sz j) cj)/\w3.ownsRow w2.heap.size 2 1 (.slice Aj (szN sz j) cj) (szN sz j) (aA .i64 (ge sz ps q x y (sz.length-1-j))):=fun j h1 h2=>by
    obtain ⟨Aj,cj,e1,e2⟩:=d6.o j h1 h2;exact ⟨Aj,cj,e1,ay e2 O⟩
   obtain ⟨I,a3,ee⟩:=af J U bA;clear O J U bA x0 x1 x2;go_wp2_with fail;have bn:decide (k<=k-1)=false:=OB ap;rw [bn];clear bn
   go_loopw [11,12] (fun v i wr=>∃t:Nat,t<=N/\i=.int .i64 t/\wr.ownsRow w3.heap.size 2 1 v t (aA .i64 (((plL sz (k-1)).map (gAt sz ps q x y)).take t))/\aq w3 wr) (fun _ i _=>N-(intOf i).toNat)
   ·exact ⟨0,NJ _,rfl,NV _ _ _ _,NI _ _⟩
   case round=>
    obtain ⟨wo,rfl⟩:∃wo:Qd,wo=wr:=⟨_,rfl⟩;obtain ⟨t,ht,rfl,aG,d7⟩:=hrel;obtain ⟨Al,cl,rfl,_⟩:=aC aG;obtain ⟨aP,D⟩:=ae aG d7;clear aG d7;by_cases bO:t<N
    ·obtain ⟨pp,bd⟩:∃pp,(plL sz (k-1))[t]?=some pp:=⟨_,Of (by rw [bN.o];exact bO)⟩;have bs:=KF (List.mem_of_getElem? bd)
     have bz:nth ((plL sz (k-1)).map (gAt sz ps q x y)) t=gAt sz ps q x y pp:=by
      unfold nth;rw [List.getD_eq_getElem?_getD,List.getElem?_map,bd];rfl
     have cn:=fy ((plL sz (k-1)).map (gAt sz ps q x y)) t (by rw [List.length_map,bN.o];exact bO);rw [bz] at cn;obtain ⟨f0,f1,f2⟩:=Mb _ _ _ bd;obtain ⟨bp,op,cb,c0⟩:=bM.o _ _ f0;obtain ⟨_,_,e',c1⟩:=bM.o _ _ f1;rw [cb] at e';injection e' with e';injection e' with i1 i2 _;subst i1;subst i2
     obtain ⟨_,_,e',c2⟩:=bM.o _ _ f2;rw [cb] at e';injection e' with e';injection e' with i1 i2 _;subst i1;subst i2
     subst cb;have A:=I.o.trans (D.o.mono I.o.size);have f6:=aw A c0;have cL:=aw A c1;have d3:=aw A c2;rw [<-Oy] at cL d3;obtain ⟨K,R,C⟩:=pp;dsimp only at bs f6 cL d3;obtain ⟨m1,m2,m3⟩:=bs;obtain ⟨A8,c8,g1,g2⟩:=ee.o (K+1) ap ap;obtain ⟨_,_,e8,p8⟩:=(Rd.own a3.o) _ _ g1;injection e8 with e8;injection e8 with i1 i2 _;subst i1;subst i2
     rw [Oz] at p8;have cc:=lQ (sz:=sz) (ps:=ps) (q:=q) (x:=x) (y:=y) Hx.o (sz.length-2-K);have fi:=HL.o;rw [show sz.length-1-(sz.length-2-K)=K+1 by omega] at cc;rw [show sz.length-1-(K+1)=sz.length-2-K by omega] at g2;have bG:=tC sz ps q x y (sz.length-2-K);obtain ⟨b9,o9,rfl,p9⟩:=(Rd.own g2).num (show R<(ge sz ps q x y (sz.length-2-K)).length by rw [cc];exact m2);have dp:=aw D.o p8;have c9:=aw D.o p9;obtain ⟨A7,c7,h1,h2,h3⟩:=bh.o.2 K ap;have aM:=fl (sz:=sz) (ps:=ps) (q:=q) Hx.o K;rw [aM] at h1;obtain ⟨bv,ov,g7,p7⟩:=dw.o _ _ h1;subst g7;have dv:=aw A p7;have bI:=h3.below A;have cw:=pI (sz:=sz) (ps:=ps) (q:=q) WX.o K;have g3:=HG.o.1.at (k:=K+1) ap;have fd:=HG.o.1.at (k:=K) ap;have y2:=(A.cell (p:=⟨w.heap.size,2,none⟩) B).trans z2;obtain ⟨ev,co⟩:∃ev,ge sz ps q x y (sz.length-2-K)=ev:=⟨_,rfl⟩;obtain ⟨vv,ct⟩:∃vv,dy sz ps q x K=vv:=⟨_,rfl⟩;obtain ⟨n1,d0⟩:∃n1,szN sz (K+1)=n1:=⟨_,rfl⟩;obtain ⟨n0,dn⟩:∃n0,szN sz K=n0:=⟨_,rfl⟩;have ef:gAt sz ps q x y (K,R,C)=if 0<=C then fB (nth ev R) (nth vv C.toNat) q else nth ev R:=by unfold gAt;rw [co,ct]
     rw [co] at c9 bG;rw [ct] at bI cw aM;rw [d0] at dp m2 g3;rw [dn] at dv m3 fd aM;obtain ⟨em,ds,f5,f9,eV,fb,gc⟩:=aj ef cn bI bG cw aM A;clear ef cn bI bG cw aM A bz bd f0 f1 f2 c0 c1 c2 g1 g2 p8 p9 h1 h2 h3 p7 cc co ct d0 dn fi;have gv:(t:Int)<N:=ap;go_wp2_with fail;have e1:IntKind.i64.wrap ((K:Int)+1)=(K:Int)+1:=NK _ ap;have e2:(K:Int)+1<k:=ap;have e3:K+1<k:=ap;have e4:(R:Int)<n1:=ap;have e5:(0:Int)<=(K:Int)+1:=ap;have e6:((K:Int)+1).toNat=K+1:=ap;have e7:¬((K:Int)+1<0):=ap;have e8:¬((k:Int)<=(K:Int)+1):=ap;have l8:ga<wo.heap.size:=aB dp;have l9:b9<wo.heap.size:=aB c9;have l7:bv<wo.heap.size:=aB dv;have l2:w.heap.size<wo.heap.size:=aB y2
     go_quiet (fail)
     have pb:=aI (W:=wo) (p:=⟨b9,o9+R,none⟩) c9 (.cells #[.int .i64 (K:Int),.int .i64 (R:Int),.int .i64 C] 252);by_cases hC:0<=C
     ·obtain ⟨C1,rfl⟩:∃C1:Nat,C=(C1:Int):=⟨C.toNat,by omega⟩;have fc:C1<n0:=ap;have gy:(C1:Int)<n0:=ap;have gp:¬((C1:Int)<0):=ap;obtain ⟨b7,o7,rfl,p6⟩:=f5.o.num (show C1<vv.length by rw [fb.o];exact fc);have l6:b7<wo.heap.size:=aB p6;have f3:(K:Int)<k:=ap;have f4:K<k:=ap;have eu:=fun T=>sG (nth ev R) (nth vv C1) q T (f9.o.nth _) (eV.o.nth _);have f8:=aa eu;clear eu;obtain ⟨na,rfl⟩:∃na:Nat,na=nq:=⟨_,rfl⟩;go_wp2_with fail
      go_quiet ((go_at_call 100;exact Bb f8.o))
      have fe:w3.heap.size<=wo.heap.size:=D.o.size;have aR:=aa (show ((wo.alloc (.cells #[.int .i64 (K:Int),.int .i64 (R:Int),.int .i64 (C1:Int)] 252)).drewN (na+nq)).heap.size=wo.heap.size+1 by simp);have a0:=NU (D.o.alloc D.o.size (.cells #[.int .i64 (K:Int),.int .i64 (R:Int),.int .i64 (C1:Int)] 252)) (na+nq);have b2:=bW (aP.o.alloc (.cells #[.int .i64 (K:Int),.int .i64 (R:Int),.int .i64 (C1:Int)] 252)) (na+nq);go_wp2_with (at_builtin;go_loud (refine aW le _ rfl (.tmp 76) (.tmp 78) rfl w3.heap.size (.slice Al t cl) t _ rfl b2 [.int .i64 (fB (nth ev R) (nth vv C1) q)] (congrArg (fun b:Nat=>Value.slice (some ⟨b,0,none⟩) 1 1) aR.o.symm) rfl (by simp [Value.oneCell']) ap (by unfold maxLen;omega) a0.size ?_));intro g6 c6 w6 a9 ao cf;have Q:=a0.trans ao;obtain ⟨cd,bV⟩:=ae a9 Q;clear a9 ao cf Q b2 a0;go_wp2_with fail;go_roundw
      case rel=>
       refine ⟨t+1,by omega,by go_num,?_,bV.o⟩;have hv:=em.o;rw [if_pos (Int.natCast_nonneg _),Int.toNat_natCast] at hv;rw [ds.o,hv,cT];exact cd.o
      case measure=>simp [intOf];omega
     ·have HC:=aa hC;have fe:w3.heap.size<=wo.heap.size:=D.o.size;have aR:=aa (show ((wo.alloc (.cells #[.int .i64 (K:Int),.int .i64 (R:Int),.int .i64 C] 252)).drewN nq).heap.size=wo.heap.size+1 by simp);have a0:=NU (D.o.alloc D.o.size (.cells #[.int .i64 (K:Int),.int .i64 (R:Int),.int .i64 C] 252)) nq;have b2:=bW (aP.o.alloc (.cells #[.int .i64 (K:Int),.int .i64 (R:Int),.int .i64 C] 252)) nq;go_wp2_with (at_builtin;go_loud (refine aW le _ rfl (.tmp 76) (.tmp 78) rfl w3.heap.size (.slice Al t cl) t _ rfl b2 [.int .i64 (nth ev R)] (congrArg (fun b:Nat=>Value.slice (some ⟨b,0,none⟩) 1 1) aR.o.symm) rfl (by simp [Value.oneCell']) ap (by unfold maxLen;omega) a0.size ?_));intro g6 c6 w6 a9 ao cf;have Q:=a0.trans ao;obtain ⟨cd,bV⟩:=ae a9 Q;clear a9 ao cf Q b2 a0;go_wp2_with fail;go_roundw
      case rel=>
       refine ⟨t+1,by omega,by go_num,?_,bV.o⟩;have hv:=em.o;rw [if_neg (by have:=HC.o;omega)] at hv;rw [ds.o,hv,cT];exact cd.o
      case measure=>simp [intOf];omega
    ·obtain rfl:t=N:=ap;have a7:=aP.o;rw [List.take_of_length_le (by rw [List.length_map,bN.o];exact NF _)] at a7;have d2:=aa (Rd.own a7);clear a7;have d4:=b4.o.trans ((I.o.trans (D.o.mono I.o.size)).mono b4.o.size);have eX:=aa d4;clear d4;go_wp2_with fail;go_ret;exact ⟨_,_,rfl,d2.o,eX.o⟩
theorem Fr {n:Nat} {s:Qa} (hs:s.length=n) (h:W64 s):fw (List.replicate n 0) s=s:=by
 refine js (by rw [iZ,Ol,hs]) fun k hk=>?_;rw [iZ,Ol] at hk;unfold fw;rw [bU _ (by rw [Ol];exact hk),dd _ k (by rw [Ol];exact hk)];have h1:=h.nth k;simp only [List.getElem_replicate];generalize nth s k=y at h1 ⊢;unfold wrap64;omega
theorem FT {n:Nat} {s g:Qa} (hs:s.length=n) (h:W64 s):nU n [s,g]=fw s g:=by
 unfold nU;simp only [List.foldl_cons,List.foldl_nil];rw [Fr hs h]
theorem Ec (l:Qg) (h:Qa) {k:Nat} (hk:k<h.length) {x:Ex} {j:Nat} (i:nth h k=(j:Int)) (o:l[j]?=some x):dR l (h.take (k+1))=dR l (h.take k)++[x]:=by
 rw [fy _ _ hk];unfold dR;rw [List.map_append];simp [i,List.getD,o]
theorem LJ {n k:Nat} (h:k<n):n-(k+1)<n-k:=ap
def Fx (i:Inp) (P h:Qa) (w:Qd) (e:Ending) (o:Qd):Prop:=aq w o/\ ((jv i h/\∃v,e=.returned (.tuple #[v,.bool true])/\o.ownsRow w.heap.size 2 1 v (cnt i) (aA .i64 (eE i P (dR i.data h))))\/(¬jv i h/\e=.returned (.tuple #[OJ,.bool false])))
theorem LQ (w:Qd) (u v:Value) (A1 i:N_) (n c1 c2:Nat) (s g:Qa) (A:u=.slice A1 n c1) (p:v=.slice i n c2) (hs:s.length=n) (hg:g.length=n) (hn:n<=1048576) (y:Rd w A1 (aA .i64 s)) (o:Rd w i (aA .i64 g)):
  de uW 1 (w.alloc (.cells #[u,v] 26)) (some (ar w.heap.size 0)) [s,g]:=by
 refine xK (dN w [u,v] _ _ rfl) rfl fun j x h=>?_
 match j,h with
 | 0,h=>injection h with h;subst h;exact ⟨u,rfl,A1,c1,by rw [A,hs],by omega,y.alloc _⟩
 | 1,h=>injection h with h;subst h;exact ⟨v,rfl,i,c2,by rw [p,hg],by omega,o.alloc _⟩
theorem x6 (A:N_) (c:Nat) (D:N_) (cd:Nat) (T:N_) (ct:Nat) (R:N_) (cr:Nat) (i:Inp) (Ap X:N_) (P B:Qa) (n cp cx:Nat) (w:Qd) (hA:Rd w A (aA .i64 i.cfg.sizes)) (hc:i.cfg.sizes.length<=c) (hD:de rEx 2 w D i.data) (hg:mU i) (hP:Rd w Ap (aA .i64 P)) (ao:P.length=n) (hn:cnt i=n) (wP:W64 P) (hX:Rd w X (aA .i64 B)) (cv:B.length<=17592186043904):Calls prog 61 #[.agg (aN A c D cd T ct R cr i),.slice Ap n cp,.slice X B.length cx] w (Fx i P B w):=by
 have bs:=hg.c.z.bound (k:=i.cfg.sizes.length-1) (by have:=hg.c.z.1.1;omega);have a3:bR i.cfg.sizes (i.cfg.sizes.length-1)=n:=hn;rw [a3] at bs;have I:=fun J=>AG A c D cd T ct R cr i Ap n cp J;have H:=fun J (q:aq w J) X1 Y1 x c1 c2 (hf:fu (inN i) (wR i) x) (r1:cB J X1 x.1 c1) (r2:cB J Y1 x.2 c2)=>DV A Ap X1 Y1 i.cfg.sizes P x.1 x.2 c cp c1 c2 i.cfg.shift J ⟨hA.below q,hP.below q,hg.c.z,by rw [ao,a3],hc,wP⟩ r1.hr hf.1 r1.hw r1.hc r2.hr hf.2;rw [a3,ao] at H;have aP:=fun J=>m6 ke J rfl n ap (by unfold maxLen;omega);simp only [fp] at aP;have aM:eE i P (dR i.data (B.take 0))=List.replicate n 0:=by simp [eE,dR,hn]
 obtain ⟨m,hm⟩:∃m,B.length=m:=⟨_,rfl⟩;obtain ⟨N,hN⟩:∃N,i.data.length=N:=⟨_,rfl⟩;have cL:N<=1048576:=by rw [<-hN];exact hg.b.2
 rw [hm] at cv ⊢;have b1:(w.alloc (.cells (aN A c D cd T ct R cr i) 29)).heap.size=w.heap.size+1:=by simp
 have C:=mQ w (aN A c D cd T ct R cr i) 29 rfl;have a4:aq w (w.alloc (.cells (aN A c D cd T ct R cr i) 29)):=(NI _ w).alloc (NF _) _;obtain ⟨W1,b2⟩:∃W1,W1=w.alloc (.cells (aN A c D cd T ct R cr i) 29):=⟨_,rfl⟩;rw [<-b2] at b1 C a4;obtain ⟨W2,Q,b0,aR⟩:=aP W1;rw [b1] at Q b0;rw [b2] at Q;dsimp only [aN] at Q;have a8:=(aR.block _ ap).trans C;have bh:=a4.trans (aR.mono a4.size);obtain ⟨HD,HX,bo,bO,Hm,HN,HG,c7⟩:=ak hD hX I H hm hN hg b0;obtain ⟨bn,c9,bN,Hn⟩:=ag a8 bh aM hn;clear hA hc hD hg hP ao hn wP hX I H aP hm hN b1 C a4 b0 a8 bh aR a3 aM b2;go_enter func61,ntmps61;dsimp only [aN];go_wp2_with fail;clear Q
 go_loopw [8,9] (fun v x wr=>∃k:Nat,k<=m/\x=OH k/\wr.ownsRow w.heap.size 2 1 v n (aA .i64 (eE i P (dR i.data (B.take k))))/\an (∀j,j<k->j8 N (nth B j))/\Below (w.heap.size+1) W2 wr) (fun _ x _=>m-(intOf x).toNat)
 ·exact ⟨0,NJ _,rfl,by rw [bN.o];exact aE c7.o ap,aa fun j hj=>ap,NI _ _⟩
 case round=>
  obtain ⟨k,hk,rfl,a0,a7,a5⟩:=hrel;obtain ⟨As,cs,rfl,hcs⟩:=aC a0;have C:=(a5.block _ ap).trans bn.o;have hB:=c9.o.trans (a5.mono ap);have cO:=hB.size;obtain ⟨HO,co,HB,ci,cM⟩:=ah a0 a5 hB C hcs;dsimp only [aN] at C;obtain ⟨⟨t0,t1,t2,t3,t4,t5,t6,t7,t8,t9,c6,bI,cc,bG,cn⟩,tf⟩:=lA C;have bX:=NE C;clear a0 a5 hB C hcs;by_cases V:k<m
  ·have cy:(k:Int)<m:=ap;obtain ⟨bx,ox,rfl,px⟩:=HX.o.num (show k<B.length by rw [Hm.o];exact V);have b4:=(HB.o.cell (p:=(ar bx (ox+k))) (aB px)).trans px;clear px;by_cases L:j8 N (nth B k)
   ·obtain ⟨j,hj⟩:∃j:Nat,nth B k=(j:Int):=⟨(nth B k).toNat,by have:=L.1;omega⟩;have cw:j<N:=by have:=L.2;omega
    rw [hj] at b4;obtain ⟨x,hx⟩:∃x,i.data[j]?=some x:=⟨_,Of (by rw [HN.o];exact cw)⟩;obtain ⟨bd,od,X1,c1,Y1,c2,rfl,cA,p1,p2,r1,r2⟩:=fL (HD.o.below dE HB.o) hx;have Z:fu (inN i) (wR i) x:=HG.o.f _ (by obtain ⟨q1,q2⟩:=Oe.1 hx;rw [<-q2];exact List.getElem_mem _);have H:=fun J (q:aq wr J)=>bO.o J (HB.o.trans (q.mono HB.o.size)) X1 Y1 x c1 c2 Z (r1.below q) (r2.below q);have av:=vy (sz:=i.cfg.sizes) (ps:=P) (q:=i.cfg.shift) (x:=x.1) (y:=x.2) Z.1 (by have:=HG.o.c.z.1.1;omega);have bb:bR i.cfg.sizes (i.cfg.sizes.length-1)=n:=Hn.o;rw [bb] at av;have bi:=Ec i.data B (k:=k) (by rw [Hm.o];exact V) hj hx;have q1:¬((j:Int)<0):=ap;have hN:=HN.o;have q2:¬((i.data.length:Int)<=j):=ap;have q3:(j:Int)<i.data.length:=ap;obtain ⟨Hj,bz,b8,cb,bV⟩:=ah hj H av bi L;obtain ⟨n1,ab⟩:∃n1,x.1.length=n1:=⟨_,rfl⟩;obtain ⟨n2,b6⟩:∃n2,x.2.length=n2:=⟨_,rfl⟩;rw [ab] at p1;rw [b6] at p2;obtain ⟨c8,cf⟩:=ae ab b6;clear hj hx r1 r2 Z H av bb bi L hN ab b6;go_upto_region 8 with (fail);clear b4 t0 t1 t2 t3 t4 t5 t6 t7 t8 t9 c6 bI cc bG cn tf;have C:=ci.o;dsimp only [aN] at C;have u:(fun J:Qd=>J.heap[w.heap.size]?=some (.cells #[.slice A i.cfg.sizes.length c,OH i.cfg.shift,OH i.cfg.rate,OH i.cfg.mom,OH i.cfg.workers,OH i.cfg.batch,OH i.cfg.micros,OH i.cfg.steps,OH i.cfg.bucket,OH i.cfg.chunk,OH i.cfg.window,OH i.cfg.cap,.slice (some (ar bd od)) i.data.length cd,.slice T i.start.length ct,.slice R i.draws.length cr] 29 (0,0))/\J.cell? (ar bd (od+j*2))=some (.slice X1 n1 c1)/\J.cell? (ar bd (od+j*2+1))=some (.slice Y1 n2 c2)) wr.drew:=⟨C,p1,p2⟩;refine HA.g (fun J:Qd=>J.heap[w.heap.size]?=some (.cells #[.slice A i.cfg.sizes.length c,OH i.cfg.shift,OH i.cfg.rate,OH i.cfg.mom,OH i.cfg.workers,OH i.cfg.batch,OH i.cfg.micros,OH i.cfg.steps,OH i.cfg.bucket,OH i.cfg.chunk,OH i.cfg.window,OH i.cfg.cap,.slice (some (ar bd od)) i.data.length cd,.slice T i.start.length ct,.slice R i.draws.length cr] 29 (0,0))/\J.cell? (ar bd (od+j*2))=some (.slice X1 n1 c1)/\J.cell? (ar bd (od+j*2+1))=some (.slice Y1 n2 c2)) ?_;refine HA.t ?_ [0,1,2,4,5,6,7,8,9,10,11,12,13,14,15] u ?_;refine HA.o 3 (fun K hK=>?_);clear C;have I:=bo.o wr.drew;dsimp only [aN] at I;go_simp;refine I.mono ?_;clear I;rintro e w3 ⟨rfl,Y⟩;have b9:=NR ((Y.block _ bX).trans u.1) (NR (aw Y u.2.1) (aw Y u.2.2));have b3:=aa (show aq wr w3 from (NI _ wr).drew.trans Y);clear Y u;dsimp only;refine hK.out _ _ b9 (fun u=>?_);clear hK K b9;refine HA.o 16 (fun K hK=>?_);have H:=bz.o w3 b3.o;rw [c8.o,cf.o] at H;go_simp;refine H.mono ?_;clear H;rintro e w4 ⟨A4,c4,rfl,bv,a2⟩;have bw:=NR ((a2.block _ (NE u.1)).trans u.1) (NR (aw a2 u.2.1) (aw a2 u.2.2));obtain ⟨b5,bM⟩:=ae (b3.o.trans (a2.mono b3.o.size)) bv;clear a2 u bv;dsimp only;refine hK.out _ _ bw (fun u=>?_);clear hK K bw;refine HA.o 17 (fun K hK=>?_);go_simp;have cl:=b5.o.size
    have bl:de uW 1 (w4.alloc (.cells #[.slice As n cs,.slice A4 n c4] 26)) (some (ar w4.heap.size 0)) [eE i P (dR i.data (B.take k)),iA i.cfg.sizes P i.cfg.shift x.1 x.2]:=
     LQ w4 _ _ As A4 n cs c4 _ _ rfl rfl (by rw [iY];exact Hn.o) b8.o bs (Rd.own (ay HO.o b5.o)) bM.o
    have O:=DI (some (ar w4.heap.size 0)) [eE i P (dR i.data (B.take k)),iA i.cfg.sizes P i.cfg.shift x.1 x.2] 2 n _ _ bl (by simp) rfl (by rw [iY];exact Hn.o);have O:Calls prog 96 #[.slice (some (ar w4.heap.size 0)) 2 2] (w4.alloc (.cells #[.slice As n cs,.slice A4 n c4] 26)) _:=O;have a6:=aa O;clear bl O;refine hK.out _ _ ⟨fT u.1 _,aI u.2.1 _,aI u.2.2 _⟩ (fun u=>?_);clear hK K;refine HA.o 18 (fun K hK=>?_);go_simp;refine a6.o.mono ?_;rintro e w5 ⟨v5,ok,rfl,a1,U⟩
    obtain ⟨rfl,ad⟩:=U (fun t y hy=>by
     match t,hy with
     | 0,hy=>injection hy with hy;rw [<-hy,iY];exact Hn.o
     | 1,hy=>injection hy with hy;rw [<-hy];exact b8.o)
    rw [FT (by rw [iY];exact Hn.o) (zc _ _ _),<-xi,<-cb.o] at ad;have be:=NR ((a1.block _ (NE u.1)).trans u.1) (NR (aw a1 u.2.1) (aw a1 u.2.2));have a9:aq wr w5:=(b5.o.alloc cl _).trans (a1.mono (by simp;omega));obtain ⟨bf,cj⟩:=ae (aE (base':=w.heap.size) ad (by simp;omega)) (co.o.trans (a9.mono ap));clear a1 a9 ad U u a6;obtain ⟨A5,c5,rfl,_⟩:=aC bf.o;dsimp only;refine hK.out _ _ be (fun u=>?_);clear hK K be;refine HA.t ?_ [19,20,21,22] u ?_;refine HA.d ?_;clear u p1 p2;go_wp2_with fail;go_roundw
    case rel=>
     refine ⟨k+1,V,by go_num,bf.o,aa fun t ht=>?_,cj.o⟩;rcases NY t k with h | h
     ·exact a7.out t h
     ·obtain rfl:t=k:=ap;exact bV.o
    case measure=>exact LJ V
   ·have aG:nth B k<0\/(i.data.length:Int)<=nth B k:=by
     have hN:=HN.o;unfold j8 at L;omega
    have b7:¬jv i B:=fun h=>L (by rw [<-HN.o];exact h k (by rw [Hm.o];exact V));have bA:=aa b7;obtain ⟨z,hz⟩:∃z,nth B k=z:=⟨_,rfl⟩;rw [hz] at b4 aG;clear b7 L hz;by_cases aM:z<0
    ·clear aG;go_wp2_with fail;go_ret2;exact ⟨HB.o,.inr ⟨bA.o,rfl⟩⟩
    ·have cP:(i.data.length:Int)<=z:=ap;clear aG;go_wp2_with fail;go_ret2;exact ⟨HB.o,.inr ⟨bA.o,rfl⟩⟩
  ·obtain rfl:m=k:=ap;go_wp2_with fail;go_ret2;refine ⟨HB.o,.inl ⟨fun j hj=>by rw [HN.o];exact a7.out j (by rw [<-Hm.o];exact hj),_,rfl,?_⟩⟩;have:=HO.o;rw [Hn.o]
   rwa [<-Hm.o,Oq] at this
theorem DT (c i m:Nat) (A:N_) (l:Qa) (w:Qd) (hA:Rd w A (aA .u64 l)) (H:i<l.length) (hl:l.length<=17592186043904) (N:U64 l) (hm:1<=m) (Y:m<=1048576):Calls prog 167 #[.agg #[.slice A l.length c,OH i],OH m] w fun e Q=>e=.returned (.tuple #[.agg #[.slice A l.length c,OH ((i+1:Nat):Int)],OH (nth l i%m),.bool true])/\aq w Q:=by
 obtain ⟨h,u,rfl,p⟩:=hA.num H;obtain ⟨x,O⟩:∃x,nth l i=x:=⟨_,rfl⟩;have D:=N i H;rw [O] at p D ⊢;obtain ⟨n,hn⟩:∃n,l.length=n:=⟨_,rfl⟩;rw [hn] at H hl ⊢;have U:h<w.heap.size:=aB p;clear hn O N hA;have a1:¬((m:Int)<1):=ap;have a0:(i:Int)<n:=ap;have L:¬((n:Int)<=i):=ap
 have hw:wrap64 (x%(m:Int))=x%(m:Int):=by
  have h1:=Int.emod_nonneg x (show (m:Int)≠0 by omega);have R:=Int.emod_lt_of_pos x (show (0:Int)<(m:Int) by omega);generalize x%(m:Int)=y at h1 R ⊢;unfold wrap64;omega
 have Z:=aa hw;clear hw;go_enter func167,ntmps167;go_wp2_with fail
 go_region
 go_wp2_with fail;have I:=NG (w.alloc (.cells #[.slice (some (ar h u)) n c,OH ((i:Int)+1)] 243)) (.cells #[.slice (some (ar h u)) n c,OH ((i:Int)+1)] 243);rw [show (w.alloc (.cells #[.slice (some (ar h u)) n c,OH ((i:Int)+1)] 243)).heap.size=w.heap.size+1 by simp] at I;have hB:aq w ((w.alloc (.cells #[.slice (some (ar h u)) n c,OH ((i:Int)+1)] 243)).alloc (.cells #[.slice (some (ar h u)) n c,OH ((i:Int)+1)] 243)):=((NI _ w).alloc (NF _) _).alloc (by simp) _;obtain ⟨C,B⟩:∃C,C=((w.alloc (.cells #[.slice (some (ar h u)) n c,OH ((i:Int)+1)] 243)).alloc (.cells #[.slice (some (ar h u)) n c,OH ((i:Int)+1)] 243)).drew:=⟨_,rfl⟩;have e4:C.heap[w.heap.size+1]?=some (.cells #[.slice (some (ar h u)) n c,OH ((i:Int)+1)] 243 (0,0)):=by rw [B];exact I
 have J:aq w C:=by rw [B];exact hB.drew
 rw [<-B];clear B hB I;obtain ⟨⟨V,T⟩,rf⟩:=bx2 e4;rw [Z.o];exact NX (v:=.tuple #[.agg #[.slice (some (ar h u)) n c,OH ((i:Int)+1)],OH (x%m),.bool true]) (by simp [results,results167,go_sem,V,T]) rfl ⟨by rw [Int.natCast_add];rfl,J⟩
theorem Nl {q n:Nat} (h:q<n) (i:n<=1048576):(q:Int)<=1048576:=ap
theorem Nk {q n k m:Nat} (h:n-1-k=q) (h1:k<m) (i:m<n):(q:Int)-1=(n:Int)-1-((k+1:Nat):Int):=ap
theorem Nj {q:Nat} (h:0<q):((q:Int)-1).toNat<(q:Int).toNat:=ap
theorem wu (n c i:Nat) (A:N_) (l:Qa) (w:Qd) (hA:Rd w A (aA .u64 l)) (hn:1<=n) (bz:n<=1048576) (hi:i+(n-1)<=l.length) (hl:l.length<=1048576) (hu:U64 l):Calls prog 140 #[OH n,.agg #[.slice A l.length c,OH i]] w fun e w'=>∃v,e=.returned (.tuple #[.agg #[.slice A l.length c,OH ((i+(n-1):Nat):Int)],v,.bool true])/\w'.ownsRow w.heap.size 3 1 v n (aA .i64 (fW l n i))/\aq w w':=by
 obtain ⟨m,hm⟩:∃m,n-1=m:=⟨_,rfl⟩;rw [hm] at hi ⊢;have bA:fW l n i=ig n (iv l n i) m:=by unfold fW;rw [hm]
 rw [bA];have cf:m<n:=ap;have d0:n<=m+1:=ap;have aR:=fun w'=>oJ n w' hn bz;rw [hm] at aR;clear hm bA;have y:=fun k (hk:k<m) w' (q:Rd w' A (aA .u64 l))=>DT c (i+k) (n-k) A l w' q ap ap hu ap ap;obtain ⟨N,hN⟩:∃N,l.length=N:=⟨_,rfl⟩;rw [hN] at hi hl y ⊢;obtain ⟨HA,cv,cw,HN⟩:=ag hA y aR hN;clear hA y aR hu hN;have aM:¬((n:Int)<0):=ap;have bd:¬((1048576:Int)<n):=ap;have bO:¬(((N:Int)-i)<m):=ap;go_enter func140,ntmps140;go_wp2_with fail;have bI:IntKind.i64.wrap ((N:Int)-i)=(N:Int)-i:=NK _ ap
 go_quiet ((go_at_call 94;refine Calls.quiet_of ((cw.o _).mono fun e w' ⟨he,hw⟩=>⟨he,0,hw.symm⟩)))
 clear bI aM bd bO;go_wp2_with fail
 rename_i h9 _ _
 clear h9;have U:=(NW (w.alloc (.cells #[.slice A N c,OH i] 243)) (.cells #[OJ,OH 0] 243) w.heap.size (by simp)).trans (NG w _);have hy:=NG (w.alloc (.cells #[.slice A N c,OH i] 243)) (.cells #[OJ,OH 0] 243);rw [show (w.alloc (.cells #[.slice A N c,OH i] 243)).heap.size=w.heap.size+1 by simp] at hy;have hB:aq w ((w.alloc (.cells #[.slice A N c,OH i] 243)).alloc (.cells #[OJ,OH 0] 243)):=((NI _ w).alloc (NF _) _).alloc (by simp) _;obtain ⟨W0,Q⟩:∃W0,W0=((w.alloc (.cells #[.slice A N c,OH i] 243)).alloc (.cells #[OJ,OH 0] 243)).drewN nq:=⟨_,rfl⟩;have b7:W0.heap[w.heap.size]?=some (.cells #[.slice A N c,OH i] 243 (0,0)):=by rw [Q];exact U
 have aG:W0.heap[w.heap.size+1]?=some (.cells #[OJ,OH 0] 243 (0,0)):=by rw [Q];exact hy
 have ao:aq w W0:=by rw [Q];exact NU hB _
 rw [<-Q];clear Q U hy hB;have cP:=ao.size;have cy:=NE aG;obtain ⟨cL,bN,be⟩:=af b7 aG ao;clear b7 aG ao
 go_loopw [7,8] (fun v x wr=>∃k:Nat,k<=n/\x=OH k/\wr.ownsRow W0.heap.size 3 1 v k (aA .i64 (tj k))/\aq W0 wr) (fun _ x _=>n-(intOf x).toNat)
 ·exact ⟨0,NJ _,rfl,NV _ _ _ _,NI _ _⟩
 case round=>
  obtain ⟨k,hk,rfl,h,hb⟩:=hrel;by_cases Z:k<n
  ·obtain ⟨Al,cl,rfl,_⟩:=aC h;obtain ⟨bv,Hb⟩:=ae h hb;clear h hb;go_wp2_with (at_builtin;refine aW fQ _ rfl (.tmp 37) (.tmp 39) rfl W0.heap.size (.slice Al k cl) k _ rfl bv.o [OH (k:Int)] rfl rfl (cJ .i64 [_]) ap (by unfold maxLen;omega) Hb.o.size ?_);intro g6 c6 w6 B bf cs;have a1:=Hb.o.trans bf;obtain ⟨ad,c7⟩:=ae B a1;clear B bf cs a1;go_wp2_with fail;go_roundw
   case rel=>
    refine ⟨k+1,by omega,by go_num,?_,c7.o⟩;have:tj (k+1)=tj k++[(k:Int)]:=iC _ _;rw [this,cT];exact ad.o
   case measure=>simp [intOf];omega
  ·obtain rfl:n=k:=ap;obtain ⟨g,c2,rfl,_⟩:=h.form hn;obtain ⟨W1,rfl⟩:∃W1:Qd,W1=wr:=⟨_,rfl⟩;have H:=(hb.block _ ap).trans cL.o;have b4:=(hb.block _ cy).trans bN.o;have bX:=h.lt g rfl;have d2:=hb.size;obtain ⟨b0,cn,av,bM⟩:=ag H b4 (be.o.trans (hb.mono be.o.size)) h;clear H b4 hb h;go_wp2_with fail
   go_loopw [9] (fun x wr=>∃k:Nat,k<=m/\x=OH ((n:Int)-1-k)/\wr.heap[w.heap.size]?=some (.cells #[.slice A N c,OH ((i+k:Nat):Int)] 243 (0,0))/\wr.ownsRow W0.heap.size 3 1 (.slice (some (ar g 0)) n c2) n (aA .i64 (ig n (iv l n i) k))/\Keep (fun j=>j=w.heap.size\/j=g) W1 wr) (fun x _=>(intOf x).toNat)
   ·exact ⟨0,NJ _,by go_num,b0.o,bM.o,Keep.refl _ _⟩
   case round=>
    obtain ⟨k,hk,rfl,U,h,hK⟩:=hrel;by_cases Z:k<m
    ·obtain ⟨q,hq⟩:∃q,n-1-k=q:=⟨_,rfl⟩;have b9:(n:Int)-1-k=(q:Int):=ap;have aM:0<q:=ap;have bd:(0:Int)<q:=ap
     have bs:Rd wr A (aA .u64 l):=hK.rd (HA.o.below av.o) (fun a ha e=>by
      obtain ⟨b,o,T,hc⟩:=HA.o.num (show 0<l.length by have:=HN.o;omega);rw [ha] at T;injection T with T;subst T
      have h5:b<w.heap.size:=aB hc;have h6:b=w.heap.size\/b=g:=e
      omega)
     have y:=cv.o k Z wr bs;rw [<-vB l ap,show ((n-k:Nat):Int)=(q:Int)+1 by omega] at y;have bb:=tE l (n:=n) (i:=i) (k:=k) ap;obtain ⟨C,a4⟩:∃C,iv l n i k=C:=⟨_,rfl⟩;rw [a4] at y bb;obtain ⟨cd,O⟩:=ae (NQ bX.2 hK.size) (show ¬g=w.heap.size by omega);have J:q<n:=ap;have D:C<n:=ap;have V:(C:Int)<n:=ap;have a0:(q:Int)<n:=ap;have bG:=NE U;obtain ⟨⟨z0,z1⟩,zf⟩:=bx2 U;simp only [Int.natCast_add,Int.cast_ofNat_Int] at y;obtain ⟨bn,c9,HZ,HO,HK,Hq⟩:=ai y a4 U h hK hq;rw [b9];have cA:wrap64 ((q:Int)+1)=(q:Int)+1:=by unfold wrap64;omega
     obtain ⟨a8,a3,cr,cb⟩:=ag J D V a0;clear y a4 U h hK bs hq b9 bb J D V a0;go_wp2_with fail
     with_reducible refine bn.o.mono ?_
     rintro e w1 ⟨rfl,R⟩;have H:=(R.block _ bG).trans HZ.o;have I:=ay HO.o R;have p1:=cH I a8.o;have p2:=cH I a3.o;have f1:=I.frozenAt q;have f2:=I.frozenAt C;clear z0 z1 zf;obtain ⟨⟨z0,z1⟩,zf⟩:=bx2 H;have bo:=NE H;have a2:=R.size;obtain ⟨b0,cc,bV,cM⟩:=ag H I R a2;clear H I R p1 p2 f1 f2;have cO:=aa (NQ cd.o a2);go_upto_region 13 with (fail);clear z0 z1 zf;have e1:=OE w1 w.heap.size 0 _ _ (.slice A N c) b0.o;have T:=OE _ w.heap.size 1 _ _ (OH ((i:Int)+k+1)) e1;have ab:Keep (fun j=>j=w.heap.size\/j=g) w1 (((w1.setCell (ar w.heap.size 0) (.slice A N c)).setCell (ar w.heap.size 1) (OH ((i:Int)+k+1))).alloc (.cells #[.slice A N c,OH ((i:Int)+k+1)] 243)):=(Keep.setCell (S:=fun j=>j=w.heap.size\/j=g) (Keep.setCell (S:=fun j=>j=w.heap.size\/j=g) (Keep.refl _ _) (ar w.heap.size 0) (.inr (.inl rfl)) _) (ar w.heap.size 1) (.inr (.inl rfl)) _).alloc _;have e3:=(NW ((w1.setCell (ar w.heap.size 0) (.slice A N c)).setCell (ar w.heap.size 1) (OH ((i:Int)+k+1))) (.cells #[.slice A N c,OH ((i:Int)+k+1)] 243) w.heap.size (by simpa using bo)).trans T;have u:=((Keep.setCell (S:=fun j=>j=w.heap.size) (Keep.setCell (S:=fun j=>j=w.heap.size) (Keep.refl _ w1) (ar w.heap.size 0) (.inr rfl) (.slice A N c)) (ar w.heap.size 1) (.inr rfl) (OH ((i:Int)+k+1))).alloc (.cells #[.slice A N c,OH ((i:Int)+k+1)] 243)).own cc.o (fun j Y e=>O.o (by injection Y with Y;exact Y.trans e));obtain ⟨W5,bh⟩:∃W5,W5=((w1.setCell (ar w.heap.size 0) (.slice A N c)).setCell (ar w.heap.size 1) (OH ((i:Int)+k+1))).alloc (.cells #[.slice A N c,OH ((i:Int)+k+1)] 243):=⟨_,rfl⟩;rw [<-bh] at e3 ab u ⊢;clear bh e1 T;have b5:=kQ u;have J:=a8.o;have D:=a3.o;have p1:=cH u J;have p2:=cH u D;have f1:=u.frozenAt q;have f2:=u.frozenAt C;have a9:=xE (p:=ig n (iv l n i) k) (i:=q) (j:=C) (by rw [lF];exact J) (by rw [lF];exact D);have b2:ig n (iv l n i) (k+1)=swp (ig n (iv l n i) k) q C:=by rw [ig,Hq.o,c9.o]
     obtain ⟨sl,b8⟩:∃sl,ig n (iv l n i) k=sl:=⟨_,rfl⟩;rw [b8] at u p1 p2 a9 b2;obtain ⟨co,d4,d3,ci,ct,bl⟩:=ai u a9 J b2 ab e3;have V:=cr.o;have a0:=cb.o;clear u a9 b2 ab e3 b8 b5;go_upto_region 14 with (fail);go_upto_region 15 with (fail);have B:=ed co.o q (nth sl C);have a7:Keep (fun j=>j=w.heap.size\/j=g) w1 (W5.setCell (ar g q) (OH (nth sl C))):=Keep.setCell (S:=fun j=>j=w.heap.size\/j=g) ct.o (ar g q) (.inr (.inr rfl)) _;have a5:=((Keep.setCell (S:=fun j=>j=g) (Keep.refl _ W5) (ar g q) (.inr rfl) (OH (nth sl C))).block w.heap.size (NE bl.o) (fun e=>O.o e.symm)).trans bl.o;obtain ⟨W6,b3⟩:∃W6,W6=W5.setCell (ar g q) (OH (nth sl C)):=⟨_,rfl⟩;rw [<-b3] at B a7 a5 ⊢;clear b3 p1 p2 f1 f2;have D:=a3.o;have p2:=cH B D;have f2:=B.frozenAt C;obtain ⟨ad,cx,bw⟩:=af B a7 a5;clear B a7 a5;go_upto_region 10 with (fail);have d1:=Nl a8.o bz;clear p2 f2 V a0 cA;go_wp2_with fail;go_roundw
     case rel=>
      refine ⟨k+1,Z,congrArg (Value.int .i64) (Nk Hq.o Z cf),?_,?_,?_⟩
      ·have h8:=(Keep.setCell (S:=fun j=>j=g) (Keep.refl _ W6) (ar g C) (.inr rfl) (OH (nth sl q))).block w.heap.size (NE bw.o) (fun e=>O.o e.symm);refine h8.trans (bw.o.trans ?_);simp [Int.add_assoc]
      ·rw [ci.o];exact ed ad.o C _
      ·exact HK.o.trans ((Keep.below bV.o).trans (Keep.setCell (S:=fun j=>j=w.heap.size\/j=g) cx.o (ar g C) (.inr (.inr rfl)) _))
     case measure=>exact Nj aM
    ·obtain rfl:m=k:=ap;have a6:=(hK.block _ ap ap).trans cn.o;have b1:aq w wr:=av.o.trans (hK.toBelow av.o.size (fun j Y=>ap));have e1:=OE wr (w.heap.size+1) 0 _ _ (.slice A N c) a6;have T:=OE _ (w.heap.size+1) 1 _ _ (OH ((i:Int)+m)) e1;have aP:Keep (fun j=>j=w.heap.size+1) wr ((wr.setCell (ar (w.heap.size+1) 0) (.slice A N c)).setCell (ar (w.heap.size+1) 1) (OH ((i:Int)+m))):=Keep.setCell (S:=fun j=>j=w.heap.size+1) (Keep.setCell (S:=fun j=>j=w.heap.size+1) (Keep.refl _ _) _ (.inr rfl) _) _ (.inr rfl) _;have L:=aP.own h (fun j Y e=>by injection Y with Y;have h1:g=j:=Y;omega);obtain ⟨⟨z0,z1⟩,zf⟩:=bx2 U;obtain ⟨⟨y0,y1⟩,yf⟩:=bx2 a6;obtain ⟨c8,cj,E2⟩:=af L (b1.trans (aP.toBelow b1.size (fun j Y=>ap))) T;clear L b1 aP e1 T hK h U a6;go_wp2_with fail;have e3:=E2.o;have L:=c8.o;have b6:=cj.o;obtain ⟨W9,bi⟩:∃W9,W9=(wr.setCell (ar (w.heap.size+1) 0) (.slice A N c)).setCell (ar (w.heap.size+1) 1) (OH ((i:Int)+m)):=⟨_,rfl⟩;rw [<-bi] at e3 L b6 ⊢;clear bi;have e3:W9.heap[w.heap.size+1]?=some (.cells #[.slice A N c,OH ((i:Int)+m)] 243 (0,0)):=by simpa using e3
     clear y0 y1 yf z0 z1 zf;obtain ⟨⟨r0,r1⟩,rf⟩:=bx2 e3;exact NX (v:=.tuple #[.agg #[.slice A N c,OH ((i:Int)+m)],.slice (some (ar g 0)) n c2,.bool true]) (by simp [results,results140,go_sem,r0,r1]) rfl ⟨_,by rw [Int.natCast_add],aE L ap,b6⟩
theorem xn (n bt sn:Nat) (w:Qd) (hb:1<=bt/\bt<=n) (hn:n<=1048576) (hs:sn<=1048576):Calls prog 139 #[OH n,OH bt,OH sn] w fun e R=>e=.returned (OH (epN n bt sn:Int))/\w=R:=by
 obtain ⟨p,u⟩:∃p,n/bt=p:=⟨_,rfl⟩;have v:1<=p:=by rw [<-u];exact Nat.div_pos ap ap
 have D:p<=n:=by rw [<-u];exact Nat.div_le_self _ _
 have L:epN n bt sn=(sn+p-1)/p:=by unfold epN;rw [u,rO _ _ v]
 rw [L];have C:(sn+p-1)/p<=sn+p-1:=Nat.div_le_self _ _;have y:=fun t=>C4 (sn:=sn) (t:=t) v;have x:=fun t=>C3 (sn:=sn) (t:=t) v;obtain ⟨E,B⟩:∃E,(sn+p-1)/p=E:=⟨_,rfl⟩;rw [B] at C y x ⊢;have Q:(n:Int).tdiv (bt:Int)=(p:Int):=by rw [<-u];rfl
 have O:(n:Int)/(bt:Int)=(p:Int):=by rw [<-u];rfl
 have T:¬(bt=0):=ap;obtain ⟨I,H⟩:=ae y x;clear u L B y x;go_enter func139,ntmps139;go_wp2_with fail
 go_loopw [7,8] (fun t i wr=>∃k m:Nat,k<=E/\t=OH k/\i=OH m/\an (m=k*p)/\m<sn+p/\wr=w) (fun _ i _=>sn-(intOf i).toNat)
 ·exact ⟨0,0,NJ _,rfl,rfl,aa ap,by omega,rfl⟩
 case round=>
  obtain ⟨k,m,hk,rfl,rfl,J,hm,rfl⟩:=hrel;by_cases A:m<sn
  ·have N:(m:Int)<sn:=ap;go_wp2_with fail;go_roundw
   ·exact ⟨k+1,m+p,I.o k (by rw [<-J.out];exact A),by go_num,by go_num,aa (by rw [J.out,Ox]),by omega,trivial⟩
   ·simp [intOf];omega
  ·obtain rfl:k=E:=by
    rcases NY k E with h | h
    ·exact absurd (H.o k h) (by rw [<-J.out];exact A)
    ·omega
   go_wp2_with fail;go_ret;exact ⟨rfl,rfl⟩
theorem AQ (n bt sn t c:Nat) (A:N_) (Q:Nat) (w:Qd) (hb:1<=bt/\bt<=n) (hn:n<=1048576) (hs:sn<=1048576) (V:t<sn):Calls prog 99 #[.agg #[OH n,OH bt,OH sn,.slice A Q c],OH t] w fun e O=>e=.returned (.tuple #[OH (t/(n/bt):Nat),OH (t%(n/bt):Nat),.bool true])/\aq w O:=by
 obtain ⟨h,i⟩:∃h,n/bt=h:=⟨_,rfl⟩;have B:1<=h:=by rw [<-i];exact Nat.div_pos ap ap
 have x:h<=n:=by rw [<-i];exact Nat.div_le_self _ _
 have N:(n:Int).tdiv (bt:Int)=(h:Int):=by rw [<-i];rfl
 have L:(n:Int)/(bt:Int)=(h:Int):=by rw [<-i];rfl
 rw [i];have y:t/h<=t:=Nat.div_le_self _ _;have u:t%h<h:=Nat.mod_lt _ ap;have D:(t:Int).tdiv (h:Int)=((t/h:Nat):Int):=rfl;have o:(t:Int)/(h:Int)=((t/h:Nat):Int):=rfl;have C:(t:Int).tmod (h:Int)=((t%h:Nat):Int):=rfl;have p:(t:Int)%(h:Int)=((t%h:Nat):Int):=rfl;obtain ⟨E,I⟩:∃E,t/h=E:=⟨_,rfl⟩;obtain ⟨M,H⟩:∃M,t%h=M:=⟨_,rfl⟩;rw [I] at y D o ⊢;rw [H] at u C p ⊢;have U:¬(bt=0):=ap;have T:¬(h=0):=ap;have R:¬((sn:Int)<=t):=ap;have J:(t:Int)<sn:=ap;clear i I H;go_enter func99,ntmps99;go_wp2_with fail
 go_quiet (fail)
 go_wp2_with fail;exact NX (v:=.tuple #[OH (E:Int),OH (M:Int),.bool true]) (by simp [results,results99,go_sem]) rfl ⟨rfl,NU ((NI _ w).alloc (NF _) _) _⟩
def no (l:Qa) (n B k:Nat) (v:Value) (vs:Qc) (w:Qd):Prop:=w.ownsRow B 22 1 v k vs/\∀j,j<k->∃i h,vs[j]?=some (.slice i n h)/\n<=h/\w.ownsRow B 3 1 (.slice i n h) n (aA .i64 (fW l n (j*(n-1))))
theorem no.below {l:Qa} {n B k:Nat} {v:Value} {vs:Qc} {w i:Qd} (h:no l n B k v vs w) (hb:aq w i):no l n B k v vs i:=
 ⟨ay h.1 hb,fun j x=>by obtain ⟨A,y,o,p,u⟩:=h.2 j x;exact ⟨A,y,o,p,ay u hb⟩⟩
theorem no.keep {l:Qa} {n B k:Nat} {v:Value} {vs:Qc} {S:Nat->Prop} {w p:Qd} (h:no l n B k v vs w) (hk:Keep S w p) (u:∀k,S k->k<B):no l n B k v vs p:=
 ⟨hk.own h.1 (fun j i e=>by have:=(h.1.lt j i).1;have:=u j e;omega),fun j i=>by
  obtain ⟨C,A,x,y,o⟩:=h.2 j i
  exact ⟨C,A,x,y,hk.own o (fun j i e=>by have:=(o.lt j i).1;have:=u j e;omega)⟩⟩
theorem no.base {l:Qa} {n B i k:Nat} {v:Value} {vs:Qc} {w:Qd} (h:no l n B k v vs w) (hb:i<=B):no l n i k v vs w:=
 ⟨aE h.1 hb,fun j x=>by obtain ⟨A,y,o,p,u⟩:=h.2 j x;exact ⟨A,y,o,p,aE u hb⟩⟩
theorem no.push {l:Qa} {n B k:Nat} {v v':Value} {vs:Qc} {w i:Qd} {A:N_} {c:Nat} (h:no l n B k v vs w) (hr:w.ownsRow B 3 1 (.slice A n c) n (aA .i64 (fW l n (k*(n-1))))) (hc:n<=c) (x:i.ownsRow B 22 1 v' (k+1) (vs++[.slice A n c])) (hg:w.grownBy i v.ownBlock):no l n B (k+1) v' (vs++[.slice A n c]) i:=
 ⟨x,fun j H=>by
  have o:vs.length=k:=by have:=h.1.1;simpa using this
  rcases NY j k with q | q
  ·obtain ⟨D,C,p,u,y⟩:=h.2 j q;exact ⟨D,C,by rw [Og ap];exact p,u,iG y h.1 hg (by decide)⟩
  ·obtain rfl:j=k:=ap
   exact ⟨A,c,by rw [Oh ap,o];simp,hc,iG hr h.1 hg (by decide)⟩⟩
theorem no.rd {l:Qa} {n B k c:Nat} {A:N_} {vs:Qc} {w:Qd} (h:no l n B k (.slice A k c) vs w) (hn:n<=1048576):de Ba 1 w A (jp l n k):=by
 have o:vs.length=k:=by have:=h.1.1;simpa using this
 refine xK (Rd.own h.1) (by rw [o,rq]) fun j x i=>?_;have p:j<k:=by rw [<-rq l n k];exact (Oe.1 i).1
 rw [sP l n p] at i;injection i with i
 obtain ⟨D,C,u,v,y⟩:=h.2 j p;refine ⟨_,u,D,C,?_,?_,?_,?_⟩
 ·rw [<-i,jB]
 ·rw [<-i,jB];exact v
 ·rw [<-i,jB];omega
 ·rw [<-i];exact Rd.own y
theorem Mh {k E m:Nat} (h:k<E) {N:Nat} (i:E*m<=N):k*m+m<=N:=by
 have h1:(k+1)*m<=E*m:=OF _ h;rw [Ox] at h1;omega
def JY (l:Qa) (n b steps E:Nat) (w:Qd) (e:Ending) (h:Qd):Prop:=∃A c,e=.returned (.tuple #[.agg #[OH n,OH b,OH steps,.slice A E c],OH 0])/\(∃vs,no l n w.heap.size E (.slice A E c) vs h)/\aq w h
theorem AF (n b steps E c:Nat) (A:N_) (l:Qa) (w:Qd) (hA:Rd w A (aA .u64 l)) (hl:l.length<=1048576) (hu:U64 l) (hb:1<=b) (bo:b<=n) (hn:n<=1048576) (bG:steps<=1048576) (hE:epN n b steps=E) (hd:E*(n-1)<=l.length):Calls prog 95 #[OH n,OH b,OH steps,.slice A l.length c] w (JY l n b steps E w):=by
 have ct:E<=steps:=by rw [<-hE];exact fR _ _
 have a5:=fun Y=>xn n b steps Y ⟨hb,bo⟩ hn bG;rw [hE] at a5;have a7:=fun Y=>oJ n Y ap hn;obtain ⟨m,hm⟩:∃m,n-1=m:=⟨_,rfl⟩;have p:=fun k Y (hk:k*m+m<=l.length) (q:Rd Y A (aA .u64 l))=>wu n c (k*m) A l Y q ap hn (by rw [hm];exact hk) hl hu;rw [hm] at hd a7;simp only [hm] at p;obtain ⟨N,hN⟩:∃N,l.length=N:=⟨_,rfl⟩;rw [hN] at hd hl p ⊢;have q1:¬((n:Int)<1):=ap;have q2:¬((1048576:Int)<n):=ap;have q3:¬((steps:Int)<0):=ap;have q4:¬((1048576:Int)<steps):=ap;have q5:¬((b:Int)<1):=ap;have q6:¬((n:Int)<b):=ap;have a2:(E:Int)*(m:Int)=((E*m:Nat):Int):=by push_cast;rfl
 have q7:¬((N:Int)<(E:Int)*(m:Int)):=by rw [a2];omega
 have q8:wrap64 ((E:Int)*(m:Int))=(E:Int)*(m:Int):=by rw [a2];unfold wrap64;omega
 obtain ⟨Q7,Q8⟩:=ae q7 q8;clear a2 q7 q8;obtain ⟨HA,bM,cf,c7,Hd,Hm,HN⟩:=aj hA a5 a7 p hd hm hN;clear hA a5 a7 p hd hu hE hb bo hm hN;have D:=(NW (w.alloc (.cells #[OH 0,OH 0,OH 0,OJ] 128)) (.cells #[OH n,OH b,OH steps,OJ] 128) w.heap.size (by simp)).trans (NG w _);have B:=NG (w.alloc (.cells #[OH 0,OH 0,OH 0,OJ] 128)) (.cells #[OH n,OH b,OH steps,OJ] 128);rw [show (w.alloc (.cells #[OH 0,OH 0,OH 0,OJ] 128)).heap.size=w.heap.size+1 by simp] at B;have hB:aq w ((w.alloc (.cells #[OH 0,OH 0,OH 0,OJ] 128)).alloc (.cells #[OH n,OH b,OH steps,OJ] 128)):=((NI _ w).alloc (NF _) _).alloc (by simp) _;have u:((w.alloc (.cells #[OH 0,OH 0,OH 0,OJ] 128)).alloc (.cells #[OH n,OH b,OH steps,OJ] 128)).heap.size=w.heap.size+2:=by simp
 obtain ⟨HZ,HY,HB,av⟩:=ag D B hB u;clear D B hB u;go_enter func95,ntmps95;go_wp2_with fail;refine (bM.o _).mono ?_;rintro e Y ⟨rfl,rfl⟩;clear q1 q2 q3 q4 q5 q6;go_wp2_with fail;refine (cf.o _).mono ?_;rintro e Y ⟨rfl,rfl⟩;have D:=HZ.o;have B:=HY.o;have hB:=HB.o;have u:=av.o;generalize (w.alloc (.cells #[OH 0,OH 0,OH 0,OJ] 128)).alloc (.cells #[OH n,OH b,OH steps,OJ] 128)=W1 at D B hB u ⊢;obtain ⟨b2,bl,O,i⟩:=ag D B hB u;clear D B hB u HZ HY HB av;have q7:=Q7.o;have q8:=Q8.o;go_wp2_with fail;clear q7 q8;rw [i.o];have H:=NG W1 (.cells #[.slice A N c,OH 0] 243);rw [i.o] at H;have a4:=(NW W1 (.cells #[.slice A N c,OH 0] 243) w.heap.size (by rw [i.o];omega)).trans b2.o;have Z:=(NW W1 (.cells #[.slice A N c,OH 0] 243) (w.heap.size+1) (by rw [i.o];omega)).trans bl.o;have a1:=O.o.alloc (by rw [i.o];omega) (.cells #[.slice A N c,OH 0] 243);have ad:(W1.alloc (.cells #[.slice A N c,OH 0] 243)).heap.size=w.heap.size+3:=by simp [i.o]
 generalize W1.alloc (.cells #[.slice A N c,OH 0] 243)=W0 at H a4 Z a1 ad ⊢;obtain ⟨HX,HZ,HY,HB,HS⟩:=ah H a4 Z a1 ad;clear H a4 Z a1 b2 bl O i W1
 go_loopw [13] (fun x wr=>∃(k:Nat) (U:N_) (V:Nat) (vs:Qc),k<=E/\x=OH k/\wr.heap[w.heap.size+1]?=some (.cells #[OH n,OH b,OH steps,.slice U k V] 128 (0,0))/\
  wr.heap[w.heap.size+2]?=some (.cells #[.slice A N c,OH ((k*m:Nat):Int)] 243 (0,0))/\no l n (w.heap.size+3) k (.slice U k V) vs wr/\Keep (fun j=>j=w.heap.size+1\/j=w.heap.size+2) W0 wr) (fun x _=>E-(intOf x).toNat)
 ·exact ⟨0,none,0,[],NJ _,rfl,HY.o,by rw [Nat.zero_mul];exact HX.o,⟨NV _ _ _ _,fun j R=>ap⟩,Keep.refl _ _⟩
 case round=>
  obtain ⟨k,U,V,vs,hk,rfl,B,H,hO,hK⟩:=hrel;have a6:=hK.size;rw [HS.o] at a6;by_cases aP:k<E
  ·have cr:(k:Int)<E:=ap;have bi:Rd wr A (aA .u64 l):=Lf hK HA.o (HA.o.below HB.o) (fun j R=>ap);have p:=c7.o k wr (Mh aP Hd.o) bi;obtain ⟨T,HO,HK,bN,cd⟩:=ah p hO hK B H;obtain ⟨⟨x0,x1⟩,xf⟩:=bx2 H;have bA:=NE H;clear p hO hK B H bi;go_wp2_with fail;refine T.o.mono ?_;rintro e w1 ⟨v,rfl,C,y⟩;obtain ⟨Av,cv,rfl,b5⟩:=aC C;clear x0 x1 xf T;have Q:=(y.block _ bA).trans cd.o;have a8:=(y.block _ ap).trans bN.o;have b9:=HO.o.below y;have ao:=aE C a6;have bd:=y.size;obtain ⟨⟨x0,x1⟩,xf⟩:=bx2 Q;have b4:=NE Q;obtain ⟨c9,b6,bw,b3,O,bs,bX⟩:=aj Q a8 b9 ao y bd b5;clear Q a8 b9 ao y bd C b5;go_upto_region 15 with (fail);obtain ⟨e2,k2⟩:=FV w1 (w.heap.size+2) (.slice A N c) (OH ((k:Int)*m+m)) c9.o;have k5:=k2.alloc (.cells #[.slice A N c,OH ((k:Int)*m+m)] 243);have e5:=(NW ((w1.setCell (ar (w.heap.size+2) 0) (.slice A N c)).setCell (ar (w.heap.size+2) 1) (OH ((k:Int)*m+m))) (.cells #[.slice A N c,OH ((k:Int)*m+m)] 243) (w.heap.size+2) (by simpa using b4)).trans e2;generalize ((w1.setCell (ar (w.heap.size+2) 0) (.slice A N c)).setCell (ar (w.heap.size+2) 1) (OH ((k:Int)*m+m))).alloc (.cells #[.slice A N c,OH ((k:Int)*m+m)] 243)=W5 at k5 e5 ⊢;have bO:=NN (NN a6 bs.o) k5.size;have I:=(k5.block _ (NE b6.o) ap).trans b6.o;have a9:=bw.o.keep k5 (fun j R=>ap);have b8:=k5.own b3.o (fun j R e=>by have:=(b3.o.lt j R).1;omega);have b0:Keep (fun j=>j=w.heap.size+1\/j=w.heap.size+2) W0 W5:=(HK.o.trans (Keep.below O.o)).trans (k5.mono fun j _ h=>.inr h);have ab:W5.heap[w.heap.size+2]?=some (.cells #[.slice A N c,OH ((((k+1)*m:Nat)):Int)] 243 (0,0)):=by rw [e5,Ox];push_cast;rfl
   clear x0 x1 xf e2 k2 e5 k5;obtain ⟨⟨y0,y1,y2,y3⟩,yf⟩:=bx4 I;obtain ⟨c8,bI,aM,cj,cc⟩:=ah ab I a9 b8 b0;have cn:=NE I;clear ab I a9 b8 b0;go_wp2_with (at_builtin;refine aW zm W5 rfl (.tmp 72) (.tmp 74) rfl (w.heap.size+3) (.slice U k V) k vs rfl aM.o.1 [.slice Av n cv] rfl rfl (by simp [Value.oneCell']) ap (by unfold maxLen;omega) bO ?_);intro g6 c6 w6 a3 L be;have bh:=aM.o.push (by have h:=cj.o;rw [<-Hm.o] at h;exact h) bX.o a3 be;have J:=(L.block _ ap).trans bI.o;have bb:=(L.block _ ap).trans c8.o;have aR:=cc.o.below2 (by rw [HS.o];exact L)
   have cl:g6≠w.heap.size+1:=fun e=>by
    have:=(a3.lt g6 rfl).1;omega
   obtain ⟨⟨z0,z1,z2,z3⟩,zf⟩:=bx4 J;have cs:=NE J;obtain ⟨b7,bz,cb,ci⟩:=ag bb J bh aR;clear bb J bh aR a3 L be y0 y1 y2 y3 yf cl;go_wp2_with fail;go_roundw
   case rel=>
    have e1:=OE w6 (w.heap.size+1) 3 _ _ (.slice (some (ar g6 0)) (k+1) c6) bz.o;have k1:Keep (fun j=>j=w.heap.size+1) w6 (w6.setCell (ar (w.heap.size+1) 3) (.slice (some (ar g6 0)) (k+1) c6)):=Keep.setCell (S:=fun j=>j=w.heap.size+1) (Keep.refl _ _) _ (.inr rfl) _;exact ⟨k+1,some (ar g6 0),c6,_,aP,by go_num,by simpa using e1,(k1.block _ (NE b7.o) ap).trans b7.o,cb.o.keep k1 (fun j R=>ap),ci.o.trans (k1.mono fun j _ h=>.inl h)⟩
   case measure=>simp [intOf];omega
  ·obtain rfl:E=k:=ap;have D:=(hK.block _ (by rw [HS.o];omega) ap).trans HZ.o;have a0:aq w wr:=HB.o.trans (hK.toBelow (by rw [HS.o];omega) (fun j R=>ap));obtain ⟨e4,k4⟩:=FU wr w.heap.size (OH n) (OH b) (OH steps) (.slice U E V) D;have aG:=(hO.keep k4 (fun j R=>ap)).base (show w.heap.size<=w.heap.size+3 by omega);have bn:aq w ((((wr.setCell (ar w.heap.size 0) (OH n)).setCell (ar w.heap.size 1) (OH b)).setCell (ar w.heap.size 2) (OH steps)).setCell (ar w.heap.size 3) (.slice U E V)):=a0.trans (k4.toBelow a0.size (fun j R=>ap));obtain ⟨⟨y0,y1,y2,y3⟩,yf⟩:=bx4 B;obtain ⟨⟨z0,z1,z2,z3⟩,zf⟩:=bx4 D;obtain ⟨E4,bv,bV⟩:=af e4 aG bn;clear e4 k4 aG bn hO hK H B D a0;go_wp2_with fail;have e3:=E4.o;have bf:=bv.o;have b1:=bV.o;generalize ((((wr.setCell (ar w.heap.size 0) (OH n)).setCell (ar w.heap.size 1) (OH b)).setCell (ar w.heap.size 2) (OH steps)).setCell (ar w.heap.size 3) (.slice U E V))=W9 at e3 bf b1 ⊢;clear y0 y1 y2 y3 yf z0 z1 z2 z3 zf;obtain ⟨⟨r0,r1,r2,r3⟩,rf⟩:=bx4 e3;exact NX (v:=.tuple #[.agg #[OH n,OH b,OH steps,.slice U E V],OH 0]) (by simp [results,results95,go_sem,r0,r1,r2,r3]) rfl ⟨_,_,rfl,⟨_,bf⟩,b1⟩
def epI (i:Inp):Nat:=epN i.data.length i.cfg.batch.toNat i.cfg.steps.toNat
def Fv (i:Inp) (w:Qd) (e:Ending) (h:Qd):Prop:=∃A c,e=.returned (.agg #[OH i.data.length,OH i.cfg.batch,OH i.cfg.steps,.slice A (epI i) c])/\(∃vs,no i.draws i.data.length w.heap.size (epI i) (.slice A (epI i) c) vs h)/\aq w h
theorem xV (A:N_) (c:Nat) (D:N_) (cd:Nat) (T:N_) (ct:Nat) (R:N_) (O:Nat) (i:Inp) (w:Qd) (hg:mU i) (hR:Rd w R (aA .u64 i.draws)) (V:i.draws.length<=1048576) (hu:U64 i.draws):Calls prog 60 #[.agg (aN A c D cd T ct R O i)] w (Fv i w):=by
 have a1:=hg.b;have Q:=hg.d;have a4:1<=i.cfg.batch:=by have:=hg.c.w;have:=hg.c.ba;omega
 have a2:=hg.c.st;have y:=fun w' (q:aq w w')=>AF i.data.length i.cfg.batch.toNat i.cfg.steps.toNat (epI i) O R i.draws w' (hR.below q) V hu ap ap a1.2 ap rfl Q;rw [Int.toNat_of_nonneg (show 0<=i.cfg.batch by omega),Int.toNat_of_nonneg (show 0<=i.cfg.steps by omega)] at y;have H:(w.alloc (.cells (aN A c D cd T ct R O i) 29)).heap.size=w.heap.size+1:=by simp
 have Y:=mQ w (aN A c D cd T ct R O i) 29 rfl;have Z:aq w (w.alloc (.cells (aN A c D cd T ct R O i) 29)):=(NI _ w).alloc (NF _) _;have p:=fT Y (.cells #[OH 0,OH 0,OH 0,OJ] 128);have x:=mQ _ #[OH 0,OH 0,OH 0,OJ] 128 H;have h:=Z.alloc (by rw [H];omega) (.cells #[OH 0,OH 0,OH 0,OJ] 128);obtain ⟨W1,I⟩:∃W1,W1=(w.alloc (.cells (aN A c D cd T ct R O i) 29)).alloc (.cells #[OH 0,OH 0,OH 0,OJ] 128):=⟨_,rfl⟩;rw [<-I] at p x h;have Hq:=aa (show 0<=i.cfg.batch/\0<=i.cfg.steps by omega);obtain ⟨HX,HY,HB,a0⟩:=ag p x h y;clear Y p x h y Z H a1 Q a4 a2 hu V hR hg;dsimp only [aN] at I;go_enter func60,ntmps60;dsimp only [aN];go_wp2_with fail;rw [<-I];refine (a0.o W1 HB.o).mono ?_;rintro e w2 ⟨N,c2,rfl,⟨vs,hO⟩,h⟩;have C:=(h.block _ (NE HY.o)).trans HY.o;have L:=HB.o.trans (h.mono HB.o.size);rw [Int.toNat_of_nonneg Hq.o.1,Int.toNat_of_nonneg Hq.o.2];obtain ⟨e4,k4⟩:=FU w2 (w.heap.size+1) (OH i.data.length) (OH i.cfg.batch) (OH i.cfg.steps) (.slice N (epI i) c2) C;have U:=fT e4 (.cells #[OH i.data.length,OH i.cfg.batch,OH i.cfg.steps,.slice N (epI i) c2] 128);have J:=L.trans (k4.toBelow L.size (fun j hj=>ap));have B:=J.alloc J.size (.cells #[OH i.data.length,OH i.cfg.batch,OH i.cfg.steps,.slice N (epI i) c2] 128);have u:=((hO.keep k4 (fun j hj=>by have:=NE HY.o;omega)).base HB.o.size).below ((NI _ _).alloc (NF _) (.cells #[OH i.data.length,OH i.cfg.batch,OH i.cfg.steps,.slice N (epI i) c2] 128));have ly:=NE C;obtain ⟨⟨y0,y1,y2,y3⟩,yf⟩:=bx4 C;obtain ⟨E5,a3,a5⟩:=af U B u;clear e4 k4 U J B u hO h L C;go_wp2_with fail;have U:=E5.o;have B:=a3.o;have u:=a5.o;generalize ((((w2.setCell (ar (w.heap.size+1) 0) (OH i.data.length)).setCell (ar (w.heap.size+1) 1) (OH i.cfg.batch)).setCell (ar (w.heap.size+1) 2) (OH i.cfg.steps)).setCell (ar (w.heap.size+1) 3) (.slice N (epI i) c2)).alloc (.cells #[OH i.data.length,OH i.cfg.batch,OH i.cfg.steps,.slice N (epI i) c2] 128)=W9 at U B u ⊢;clear y0 y1 y2 y3 yf;obtain ⟨⟨r0,r1,r2,r3⟩,rf⟩:=bx4 U;exact NX (v:=.agg #[OH i.data.length,OH i.cfg.batch,OH i.cfg.steps,.slice N (epI i) c2]) (by simp [results,results60,go_sem,r0,r1,r2,r3]) rfl ⟨_,_,rfl,⟨_,u⟩,B⟩
def Nb (ra o q:Int) (P M g:Qa) (b B k:Nat) (p w:Qd):Prop:=∃A1 c1 h c2,w.heap[b]?=some (.cells #[.slice A1 k c1,.slice h k c2] 103 (0,0))/\
 w.ownsRow B 2 1 (.slice A1 k c1) k (aA .i64 (dM k fun j=>mV ra q (nth P j) (fm o q (nth M j) (nth g j))))/\
 w.ownsRow B 2 1 (.slice h k c2) k (aA .i64 (dM k fun j=>fm o q (nth M j) (nth g j)))/\
 (∀i,(Value.slice A1 k c1).ownBlock=some i->(Value.slice h k c2).ownBlock≠some i)/\Keep (fun j=>j=b) p w
theorem MU {n k:Nat} (h:k<n):(k:Int)<n:=ap
theorem Np {n k:Nat} (h:k<n):n-(k+1)<n-k:=ap
def Fw (ra i q:Int) (P M g:Qa) (n:Nat) (w:Qd) (e:Ending) (h:Qd):Prop:=∃A1 c1 o c2,e=.returned (.tuple #[.agg #[.slice A1 n c1,.slice o n c2],.bool true])/\
 h.ownsRow w.heap.size 2 1 (.slice A1 n c1) n (aA .i64 (sU ra i q P M g))/\h.ownsRow w.heap.size 2 1 (.slice o n c2) n (aA .i64 (sW i q M g))/\aq w h
theorem xY (ra C q:Int) (A B G:N_) (P M g:Qa) (n ca cb cg:Nat) (w:Qd) (hA:Rd w A (aA .i64 P)) (hB:Rd w B (aA .i64 M)) (hG:Rd w G (aA .i64 g)) (hP:P.length=n) (hM:M.length=n) (hg:g.length=n) (hn:n<=1048576) (wM:W64 M) (bM: -9223372036854775808<=ra/\ra<=9223372036854775807) (bG: -9223372036854775808<=C/\C<=9223372036854775807):Calls prog 63 #[.agg #[OH ra,OH C,OH q],.agg #[.slice A n ca,.slice B n cb],.slice G n cg] w (Fw ra C q P M g n w):=by
 have cd:=fun k y=>sG C (nth M k) q y bG (wM.nth k);have a1:=fun x y (hx: -9223372036854775808<=x/\x<=9223372036854775807)=>sG ra x q y bM hx;obtain ⟨cw,HB,HG,HP,HM,Hg,cl,cn⟩:=ak hA hB hG hP hM hg cd a1;clear hA hB hG hP hM hg wM bM bG cd a1;go_enter func63,ntmps63;go_wp2_with fail;have s1:=iN (w:=w) rfl (.cells #[OH ra,OH C,OH q] 136);have r1:=mQ w #[OH ra,OH C,OH q] 136 rfl;have b1:aq w (w.alloc (.cells #[OH ra,OH C,OH q] 136)):=(NI _ w).alloc (NF _) _;generalize w.alloc (.cells #[OH ra,OH C,OH q] 136)=W1 at s1 r1 b1 ⊢;have s2:=iN s1 (.cells #[.slice A n ca,.slice B n cb] 103);have r2:=fT r1 (.cells #[.slice A n ca,.slice B n cb] 103);have t2:=mQ W1 #[.slice A n ca,.slice B n cb] 103 s1;have b2:=b1.alloc ap (.cells #[.slice A n ca,.slice B n cb] 103);generalize W1.alloc (.cells #[.slice A n ca,.slice B n cb] 103)=W2 at s2 r2 t2 b2 ⊢;clear s1 r1 b1;have s3:=iN s2 (.cells #[OJ,OJ] 103);have r3:=fT r2 (.cells #[OJ,OJ] 103);have t3:=fT t2 (.cells #[OJ,OJ] 103);have u3:=mQ W2 #[OJ,OJ] 103 s2;have b3:=b2.alloc ap (.cells #[OJ,OJ] 103);generalize W2.alloc (.cells #[OJ,OJ] 103)=W3 at s3 r3 t3 u3 b3 ⊢;clear s2 r2 t2 b2;have s4:=iN s3 (.cells #[OJ,OJ] 103);have r4:=fT r3 (.cells #[OJ,OJ] 103);have t4:=fT t3 (.cells #[OJ,OJ] 103);have u4:=fT u3 (.cells #[OJ,OJ] 103);have v4:=mQ W3 #[OJ,OJ] 103 s3;have b4:=b3.alloc ap (.cells #[OJ,OJ] 103);generalize W3.alloc (.cells #[OJ,OJ] 103)=W0 at s4 r4 t4 u4 v4 b4 ⊢;clear s3 r3 t3 u3 b3;obtain ⟨S4,R4,T4,U4,V4,B4⟩:=ai s4 r4 t4 u4 v4 b4;clear s4 r4 t4 u4 v4 b4
 go_loopw [9] (fun x wr=>∃k:Nat,k<=n/\x=OH k/\Nb ra C q P M g (w.heap.size+1+1+1) (w.heap.size+4) k W0 wr) (fun x _=>n-(intOf x).toNat)
 ·exact ⟨0,NJ _,rfl,none,0,none,0,V4.o,NV _ _ _ _,NV _ _ _ _,fun i h=>by simp [Value.ownBlock] at h,Keep.refl _ _⟩
 case round=>
  obtain ⟨k,hk,rfl,A1,c1,A2,c2,hv,a6,a4,b7,H⟩:=hrel;have bi:=H.size;rw [S4.o] at bi;by_cases R:k<n
  ·have cL:=MU R;have bl:=(H.block _ (by rw [S4.o];omega) ap).trans R4.o;have b9:=(H.block _ (by rw [S4.o];omega) ap).trans T4.o;obtain ⟨ba,oa,rfl,pa⟩:=cw.o.num (show k<P.length by rw [HP.o];exact R);obtain ⟨bm,om,rfl,pm⟩:=HB.o.num (show k<M.length by rw [HM.o];exact R);obtain ⟨bg,og,rfl,pg⟩:=HG.o.num (show k<g.length by rw [Hg.o];exact R);have la:ba<w.heap.size:=aB pa;have lm:bm<w.heap.size:=aB pm;have lg:bg<w.heap.size:=aB pg;have pa:=H.cell (B4.o.cell (p:=(ar ba (oa+k))) la |>.trans pa) (by dsimp only;omega);have pm:=H.cell (B4.o.cell (p:=(ar bm (om+k))) lm |>.trans pm) (by dsimp only;omega);have pg:=H.cell (B4.o.cell (p:=(ar bg (og+k))) lg |>.trans pg) (by dsimp only;omega);obtain ⟨⟨x0,x1,x2⟩,xf⟩:=bx3 bl;obtain ⟨⟨y0,y1⟩,yf⟩:=bx2 b9;obtain ⟨HV,bv,cs,bO,HK,bs,cx,co⟩:=ak hv a6 a4 b7 H bi bl b9;have cy:=aa pa;clear hv a6 a4 b7 H bl b9 bi pa;go_wp2_with fail;have u:(fun y:Qd=>y.cell? (ar w.heap.size 1)=some (OH C)/\y.cell? (ar w.heap.size 2)=some (OH q)/\y.cell? (ar (w.heap.size+1) 1)=some (.slice (some (ar bm om)) n cb)/\y.cell? (ar bm (om+k))=some (OH (nth M k))/\y.cell? (ar bg (og+k))=some (OH (nth g k))) wr.drew:=⟨x1,x2,y1,pm,pg⟩;refine HA.g (fun y:Qd=>y.cell? (ar w.heap.size 1)=some (OH C)/\y.cell? (ar w.heap.size 2)=some (OH q)/\y.cell? (ar (w.heap.size+1) 1)=some (.slice (some (ar bm om)) n cb)/\y.cell? (ar bm (om+k))=some (OH (nth M k))/\y.cell? (ar bg (og+k))=some (OH (nth g k))) ?_;refine HA.t ?_ [0,1,2,3,4,5,6,7,8,10,11,12,13] u ?_;refine HA.o 9 (fun K H=>?_);go_simp;refine (cl.o k _).mono ?_;rintro e w9 ⟨rfl,rfl⟩;dsimp only;refine H.out _ _ u (fun u=>?_);clear H K;refine HA.t ?_ [14,15] u ?_;refine HA.d ?_;clear u pm pg x0 x1 x2 xf y0 y1 yf;have be: -9223372036854775808<=fm C q (nth M k) (nth g k)/\fm C q (nth M k) (nth g k)<=9223372036854775807:=gF _;have bh:IntKind.i64.wrap (fB C (nth M k) q+nth g k)=fm C q (nth M k) (nth g k):=by rw [IntKind.wrap_i64];unfold fm wrap64;rfl
   obtain ⟨mv,a2⟩:∃mv,fm C q (nth M k) (nth g k)=mv:=⟨_,rfl⟩;rw [a2] at be bh;rw [bh];have a1:=cn.o mv;obtain ⟨ct,b0,cv⟩:=af be a2 a1;have hv:=HV.o;obtain ⟨⟨z0,z1⟩,zf⟩:=bx2 hv;have cA:=NE hv;clear a1 be a2 hv bh;have cO:=NN bs.o (NF _);go_wp2_with (at_builtin;refine dJ ke _ rfl (.tmp 49) (.tmp 51) rfl (w.heap.size+4) (.slice A2 k c2) k _ rfl (cs.o.alloc _) (some (ar wr.heap.size 0)) 1 1 [OH mv] rfl (dN wr _ _ _ rfl) rfl (by simp [Value.oneCell']) ap (by unfold maxLen;omega) (by simp;omega) ?_);intro A7 c7 w7 a3 ci bI c6;have a3:w7.ownsRow (w.heap.size+4) 2 1 (.slice A7 (k+1) c7) (k+1) (aA .i64 (dM (k+1) fun j=>fm C q (nth M j) (nth g j))):=by rw [iC,cT,b0.o];exact a3
   have D:Below (w.heap.size+4) wr w7:=(((NI _ wr).alloc ap _).drew).trans ci
   have bd:w7.ownsRow (w.heap.size+4) 2 1 (.slice A1 k c1) k (aA .i64 (dM k fun j=>mV ra q (nth P j) (fm C q (nth M j) (nth g j)))):=by
    refine (bW (bv.o.alloc (.cells #[OH mv] 2)) 1).kept bI ?_
    cases hu:(Value.slice A1 k c1).ownBlock with
    | none=>exact .inl rfl
    | some i=>exact .inr fun e=>bO.o i hu e.symm
   have aM:∀i,(Value.slice A1 k c1).ownBlock=some i->(Value.slice A7 (k+1) c7).ownBlock≠some i:=fun i hi e=>by
    rcases c6 with h | h
    ·exact bO.o i hi (h.symm.trans e)
    ·have h1:=(bv.o.lt i hi).2;rw [h] at e;injection e with e;omega
   have N:=(D.block _ ap).trans HV.o;have a9:=(D.block _ ap).trans cx.o;have bf:=(D.block _ ap).trans co.o;have bV:=(D.cell (p:=(ar ba (oa+k))) (by dsimp only;omega)).trans cy.o;have bN:=HK.o.below2 (D.mono (by rw [S4.o];omega));have T:=Keep.setCell (S:=fun j=>j=w.heap.size+1+1+1) bN (ar (w.heap.size+1+1+1) 1) (.inr rfl) (.slice A7 (k+1) c7);have V:Keep (fun j=>j=w.heap.size+1+1+1) w7 (w7.setCell (ar (w.heap.size+1+1+1) 1) (.slice A7 (k+1) c7)):=Keep.setCell (S:=fun j=>j=w.heap.size+1+1+1) (Keep.refl _ _) _ (.inr rfl) _;have I:=OE w7 (w.heap.size+1+1+1) 1 _ _ (.slice A7 (k+1) c7) N;have U:=(V.block _ (NE a9) ap).trans a9;have Y:=(V.block _ (NE bf) ap).trans bf;have a5:=V.cell bV (by dsimp only;omega);have Z:=V.own bd (fun j Q e=>by have:=(bd.lt j Q).1;omega);have O:=V.own a3 (fun j Q e=>by have:=(a3.lt j Q).1;omega);obtain ⟨⟨z0,z1⟩,zf⟩:=bx2 N;have b6:=NE N;obtain ⟨cr,b5,av,ad,cj,bz,bn,ab⟩:=ak D aM T I U Y a5 Z;have a0:=aa O;clear D bd aM N a9 bf bV bN T V I U Y a5 Z O a3 ci bI c6;go_wp2_with fail;have I:=ad.o;have U:=cj.o;have Y:=bz.o;have a5:=bn.o;have Z:=ab.o;have O:=a0.o;have T:=av.o;have bw:w7.heap.size=(w7.setCell (ar (w.heap.size+1+1+1) 1) (.slice A7 (k+1) c7)).heap.size:=by simp
   clear z0 z1 zf ad cj bz bn ab a0 av;have c8:=NN bs.o cr.o.size;rw [bw] at b6 c8;generalize w7.setCell (ar (w.heap.size+1+1+1) 1) (.slice A7 (k+1) c7)=w8 at I U Y a5 Z O T b6 c8 ⊢;clear bw;have I:w8.heap[w.heap.size+1+1+1]?=some (.cells #[.slice A1 k c1,.slice A7 (k+1) c7] 103 (0,0)):=by simpa using I
   obtain ⟨⟨x0,x1,x2⟩,xf⟩:=bx3 U;obtain ⟨⟨y0,y1⟩,yf⟩:=bx2 Y;obtain ⟨⟨z0,z1⟩,zf⟩:=bx2 I;obtain ⟨ad,ab,a0,av⟩:=ag I Z O T;clear I U Y Z O T;have u:(fun y:Qd=>y.cell? (ar w.heap.size 0)=some (OH ra)/\y.cell? (ar w.heap.size 2)=some (OH q)/\y.cell? (ar (w.heap.size+1) 0)=some (.slice (some (ar ba oa)) n ca)/\y.cell? (ar ba (oa+k))=some (OH (nth P k))/\y.cell? (ar (w.heap.size+1+1+1) 0)=some (.slice A1 k c1)) w8.drew:=⟨x0,x2,y0,a5,z0⟩;refine XA.g 16 (fun y:Qd=>y.cell? (ar w.heap.size 0)=some (OH ra)/\y.cell? (ar w.heap.size 2)=some (OH q)/\y.cell? (ar (w.heap.size+1) 0)=some (.slice (some (ar ba oa)) n ca)/\y.cell? (ar ba (oa+k))=some (OH (nth P k))/\y.cell? (ar (w.heap.size+1+1+1) 0)=some (.slice A1 k c1)) ?_;refine XA.t ?_ [0,1,2,3,4,5,6,7,8,9,10,11] u ?_;refine XA.o 12 (fun K H=>?_);go_simp;refine (cv.o w8.drew ct.o).mono ?_;rintro e w9 ⟨rfl,rfl⟩;dsimp only;refine H.out _ _ u (fun u=>?_);clear H K;refine XA.t ?_ [13] u ?_;refine XA.o 14 (fun K H=>?_);go_simp;refine H.out _ _ ⟨aI u.1 _,aI u.2.1 _,aI u.2.2.1 _,aI u.2.2.2.1 _,aI u.2.2.2.2 _⟩ (fun u=>?_);clear H K;refine XA.o 15 (fun K H=>?_);refine bT ke (.tmp 55) (.tmp 68) rfl rfl (w.heap.size+4) (.slice A1 k c1) k _ rfl (bW (ab.o.alloc _) 1) (some (ar w8.heap.size 0)) 1 1 [OH (IntKind.i64.wrap (nth P k-fB ra mv q))] rfl (dN w8 _ _ _ rfl) rfl (by simp [Value.oneCell']) ap (by unfold maxLen;omega) (by simp;omega) ?_;intro A9 c9 w9 a7 J cf cc;have a8:Below (w.heap.size+4) w8 w9:=(((NI _ w8).alloc ap _).drew).trans J;have bo:=NR ((J.cell (p:=(ar w.heap.size 0)) (by dsimp only;omega)).trans u.1) (NR ((J.cell (p:=(ar w.heap.size 2)) (by dsimp only;omega)).trans u.2.1) (NR ((J.cell (p:=(ar (w.heap.size+1) 0)) (by dsimp only;omega)).trans u.2.2.1) (NR ((J.cell (p:=(ar ba (oa+k))) (by dsimp only;omega)).trans u.2.2.2.1) ((J.cell (p:=(ar (w.heap.size+1+1+1) 0)) (by dsimp only;omega)).trans u.2.2.2.2))));have bX:IntKind.i64.wrap (nth P k-fB ra mv q)=mV ra q (nth P k) (fm C q (nth M k) (nth g k)):=by rw [IntKind.wrap_i64,b0.o];unfold mV wrap64;rfl
   have a7:w9.ownsRow (w.heap.size+4) 2 1 (.slice A9 (k+1) c9) (k+1) (aA .i64 (dM (k+1) fun j=>mV ra q (nth P j) (fm C q (nth M j) (nth g j)))):=by rw [iC,cT,<-bX];exact a7
   have b8:w9.ownsRow (w.heap.size+4) 2 1 (.slice A7 (k+1) c7) (k+1) (aA .i64 (dM (k+1) fun j=>fm C q (nth M j) (nth g j))):=by
    refine (bW (a0.o.alloc (.cells #[OH (IntKind.i64.wrap (nth P k-fB ra mv q))] 2)) 1).kept cf ?_
    cases hu:(Value.slice A7 (k+1) c7).ownBlock with
    | none=>exact .inl rfl
    | some i=>exact .inr fun e=>b5.o i e.symm hu
   have aP:∀i,(Value.slice A9 (k+1) c9).ownBlock=some i->(Value.slice A7 (k+1) c7).ownBlock≠some i:=fun i hi e=>by
    rcases cc with h | h
    ·exact b5.o i (h.symm.trans hi) e
    ·have h1:=(a0.o.lt i e).2;rw [h] at hi;injection hi with hi;simp at hi;omega
   have aG:=(a8.block _ ap).trans ad.o;have bA:=av.o.below2 (a8.mono (by rw [S4.o];omega));have aR:=OE w9 (w.heap.size+1+1+1) 0 _ _ (.slice A9 (k+1) c9) aG;have L:Keep (fun j=>j=w.heap.size+1+1+1) w9 (w9.setCell (ar (w.heap.size+1+1+1) 0) (.slice A9 (k+1) c9)):=Keep.setCell (S:=fun j=>j=w.heap.size+1+1+1) (Keep.refl _ _) _ (.inr rfl) _
   have hI:Nb ra C q P M g (w.heap.size+1+1+1) (w.heap.size+4) (k+1) W0 (w9.setCell (ar (w.heap.size+1+1+1) 0) (.slice A9 (k+1) c9)):=
    ⟨A9,c9,A7,c7,by simpa using aR,L.own a7 (fun j Q e=>by have:=(a7.lt j Q).1;omega),L.own b8 (fun j Q e=>by have:=(b8.lt j Q).1;omega),aP,bA.trans L⟩
   have HI:=aa hI;clear x0 x1 x2 xf y0 y1 yf z0 z1 zf;obtain ⟨⟨z0,z1⟩,zf⟩:=bx2 aG;have cP:=NE aG;clear a7 J cf cc a8 bX b8 aP aG bA aR L hI u;dsimp only;refine H.out _ _ bo (fun u=>?_);clear H K bo u;refine XA.e ?_;simp only [Ob,Oc];go_wp2_with fail;go_roundw
   ·exact ⟨k+1,R,by go_num,HI.o⟩
   ·exact Np R
  ·obtain rfl:n=k:=ap;have ao:=(H.block _ (by rw [S4.o];omega) ap).trans U4.o;have bb:aq w wr:=B4.o.trans (H.toBelow (by rw [S4.o];omega) (fun j Q=>ap));obtain ⟨e2,k2⟩:=FV wr (w.heap.size+1+1) (.slice A1 n c1) (.slice A2 n c2) ao;have h1:=aE (base':=w.heap.size) (k2.own a6 (fun j Q e=>by have:=(a6.lt j Q).1;omega)) ap;have h2:=aE (base':=w.heap.size) (k2.own a4 (fun j Q e=>by have:=(a4.lt j Q).1;omega)) ap;have h3:=bb.trans (k2.toBelow bb.size (fun j Q=>ap));obtain ⟨⟨y0,y1⟩,yf⟩:=bx2 hv;obtain ⟨⟨z0,z1⟩,zf⟩:=bx2 ao;obtain ⟨E2,F1,F2,F3⟩:=ag e2 h1 h2 h3;have cA:=NE hv;have cM:=NE ao;clear e2 k2 h1 h2 h3 a6 a4 H hv ao bb b7;go_wp2_with fail;have e3:=E2.o;have h1:=F1.o;have h2:=F2.o;have h3:=F3.o;generalize (wr.setCell (ar (w.heap.size+1+1) 0) (.slice A1 n c1)).setCell (ar (w.heap.size+1+1) 1) (.slice A2 n c2)=W9 at e3 h1 h2 h3 ⊢;clear y0 y1 yf z0 z1 zf;obtain ⟨⟨r0,r1⟩,rf⟩:=bx2 e3;exact NX (v:=.tuple #[.agg #[.slice A1 n c1,.slice A2 n c2],.bool true]) (by simp [results,results63,go_sem,r0,r1]) rfl ⟨_,_,_,_,rfl,by unfold sU;rw [HP.o];exact h1,by unfold sW;rw [HM.o];exact h2,h3⟩
theorem AY (n b steps t E c:Nat) (A:N_) (l:Qa) (w:Qd) (hA:de Ba 1 w A (jp l n E)) (hb:1<=b) (L:b<=n) (hn:n<=1048576) (V:steps<=1048576) (ht:t<steps) (hE:E=epN n b steps):Calls prog 62 #[.agg #[OH n,OH b,OH steps,.slice A E c],OH t] w fun e N=>∃A c,e=.returned (.slice A b c)/\b<=c/\Rd N A (aA .i64 (dH l n b t))/\aq w N:=by
 have b1:1<=n/b:=Nat.div_pos L hb;have u:=fun N=>AQ n b steps t c A E N ⟨hb,L⟩ hn V ht;have B:t/(n/b)<E:=by rw [hE];exact zn ht
 have ad:E<=steps:=by rw [hE];exact fR _ _
 have H:dH l n b t=((fW l n ((t/(n/b))*(n-1))).drop (t%(n/b)*b)).take b:=rfl;have J:t%(n/b)*b+b<=n:=pG n b _ (Nat.mod_lt _ ap);rw [H];have Q:=sP l n B;obtain ⟨pl,v⟩:∃pl,fW l n ((t/(n/b))*(n-1))=pl:=⟨_,rfl⟩;have a1:pl.length=n:=by rw [<-v];exact jB _ _ _
 rw [v] at Q ⊢;obtain ⟨U,C⟩:∃U,t/(n/b)=U:=⟨_,rfl⟩;obtain ⟨T,I⟩:∃T,t%(n/b)=T:=⟨_,rfl⟩;rw [C] at u B Q;rw [I] at u J ⊢;obtain ⟨lo,y⟩:∃lo,T*b=lo:=⟨_,rfl⟩;rw [y] at J ⊢;obtain ⟨R,oo,A1,c1,rfl,b0,q2,Y,a0,h9⟩:=D6 hA Q;rw [a1] at h9 a0 q2;obtain ⟨bg,og,rfl,q3⟩:=Y.num (show 0<pl.length by omega);have aG:(U:Int)<E:=ap;have a2:(lo:Int)<=((lo+b:Nat):Int):=ap;have ao:lo+b<=c1:=ap;have a4:(T:Int)*b=(lo:Int):=by rw [<-y];push_cast;rfl
 obtain ⟨Z,K3⟩:=ae u Y;clear u Y hE C I y v hA H q3 Q;have O:=NG w (.cells #[OH n,OH b,OH steps,.slice (some (ar R oo)) E c] 128);have p:aq w (w.alloc (.cells #[OH n,OH b,OH steps,.slice (some (ar R oo)) E c] 128)):=(NI _ w).alloc (NF _) _;go_enter func62,ntmps62;obtain ⟨W0,D⟩:∃W0,W0=w.alloc (.cells #[OH n,OH b,OH steps,.slice (some (ar R oo)) E c] 128):=⟨_,rfl⟩;go_wp2_with fail;rw [<-D] at O p ⊢;clear D;refine (Z.o _).mono ?_;rintro e w1 ⟨rfl,h⟩;have x:=(h.block _ (NE O)).trans O;have i:=p.trans (h.mono p.size);have aR:=aw i q2;have a7:R<w1.heap.size:=by have:=i.size;omega
 have ab:=NE x;obtain ⟨⟨y0,y1,y2,y3⟩,yf⟩:=bx4 x;have HB:=aa i;clear q2 O p h x i a2;go_upto_region 4 with (fail);have a5:IntKind.i64.wrap ((lo:Int)+b)=(lo:Int)+b:=NK _ ap;have a3:IntKind.i64.wrap (lo:Int)=(lo:Int):=NK _ ap;have av:(lo:Int)+b<=c1:=ap;have aP:((lo:Int)+b).toNat=lo+b:=ap;have a9:(0:Int)<=(lo:Int)+b:=ap;have aM:(lo:Int)<=(lo:Int)+b:=ap;have a8:lo+b-lo=b:=ap;have a6:¬(lo+b=lo):=ap
 go_quiet (fail)
 go_wp2_with fail;go_ret;refine ⟨_,_,rfl,?_,?_,NU HB.o _⟩
 ·omega
 ·have:=(((K3.o.below HB.o).drewN nq).drop lo).take b
  rwa [dz,di] at this
theorem mM:dB prog 54 103 (.agg #[OJ,OJ]) 2 48:=⟨underlying54,info_parts (by kernel_rfl),rfl,by decide⟩
def ue (w wr:Qd) (l:Qg) (k:Nat) (v:Value):Prop:=∃rows,wr.ownsRow w.heap.size 103 2 v k (List.flatten rows)/\rows.length=k/\(∀r∈rows,r.length=2)/\(∀j x,j<k->l[j]?=some x->rEx w (bZ rows j) x)/\aq w wr
theorem ue.push {w A u:Qd} {l:Qg} {k:Nat} {v' o i:Value} {x:Ex} {rows:List (Qc)} (v:rows.length=k) (I:∀r∈rows,r.length=2) (C:∀j x,j<k->l[j]?=some x->rEx w (bZ rows j) x) (D:aq w A) (J:l[k]?=some x) (H:rEx w [o,i] x) (B:u.ownsRow w.heap.size 103 2 v' (k+1) (List.flatten rows++[o,i])) (hb:Below w.heap.size A u):ue w u l (k+1) v':=by
 refine ⟨rows++[[o,i]],by rw [Oo,List.flatten_cons,List.flatten_nil,List.append_nil];exact B,by simp [v],?_,?_,D.trans hb⟩
 ·intro r hr;rcases Ov.1 hr with hr | hr
  ·exact I r hr
  ·rw [List.mem_singleton.1 hr];rfl
 ·intro j y L p;rcases NY j k with h | h
  ·have e:bZ (rows++[[o,i]]) j=bZ rows j:=by simp [bZ,Og (show j<rows.length by omega)]
   rw [e];exact C j y h p
  ·obtain rfl:j=k:=ap;rw [J] at p;injection p with p;subst p
   have e:bZ (rows++[[o,i]]) j=[o,i]:=by rw [<-v];simp [bZ]
   rw [e];exact H
theorem ue.rd {w wr:Qd} {l:Qg} {n c:Nat} {A:N_} (h:ue w wr l n (.slice A n c)) (hn:l.length=n):de rEx 2 wr A l:=by
 obtain ⟨rows,h1,v,u,o,p⟩:=h;exact ⟨rows,Rd.own h1,by omega,u,fun j x i=>dE p (o j x (by rw [<-hn];exact (Oe.1 i).1) i)⟩
theorem Fo (A:N_) (l:Qg) (c:Nat) (w:Qd) (h:de rEx 2 w A l) (hl:l.length<=1048577):Calls prog 25 #[.slice A l.length c] w fun e w'=>∃A' c',e=.returned (.slice A' l.length c')/\de rEx 2 w' A' l/\aq w w':=by
 obtain ⟨n,hn⟩:∃n,l.length=n:=⟨_,rfl⟩;rw [hn] at hl ⊢;obtain ⟨H,Hn⟩:=ae h hn;clear h hn;go_enter func25,ntmps25;go_wp2_with fail
 go_loopw [3,8] (fun v i wr=>∃k:Nat,k<=n/\i=OH k/\ue w wr l k v) (fun _ i _=>n-(intOf i).toNat)
 ·exact ⟨0,NJ _,rfl,[],NV _ _ _ _,rfl,by simp,fun j x hj=>ap,NI _ _⟩
 case round=>
  obtain ⟨k,hk,rfl,rows,h1,h2,h3,h4,Z⟩:=hrel;obtain ⟨Al,cl,rfl,_⟩:=aC h1;obtain ⟨R1,R2,R3,R4,R⟩:=ah h1 h2 h3 h4 Z;have O:=Z.size;clear h1 h2 h3 h4 Z;by_cases B:k<n
  ·have a4:(k:Int)<n:=ap;obtain ⟨x,hx⟩:∃x,l[k]?=some x:=⟨_,Of (by rw [Hn.o];exact B)⟩;obtain ⟨b,o,A1,c1,A2,c2,rfl,C,p1,p2,r1,r2⟩:=fL H.o hx;have q1:=(R.o.cell (p:=(ar b (o+k*2))) C).trans p1;have q2:=(R.o.cell (p:=(ar b (o+k*2+1))) C).trans p2;have hu:rEx w [.slice A1 x.1.length c1,.slice A2 x.2.length c2] x:=⟨_,_,_,_,rfl,r1,r2⟩;obtain ⟨U,D⟩:∃U,x.1.length=U:=⟨_,rfl⟩;obtain ⟨V,I⟩:∃V,x.2.length=V:=⟨_,rfl⟩;rw [D,I] at hu;rw [D] at q1;rw [I] at q2;obtain ⟨Hu,Hx⟩:=ae hu hx;have a5:b<wr.heap.size:=NQ C O;clear hu hx D I r1 r2 p1 p2;go_wp2_with fail;refine (JK A1 A2 U c1 V c2 _).mono ?_;rintro e w3 ⟨rfl,J⟩;have u:aq w w3:=(R.o.alloc O _).trans (J.mono (by simp;omega));have N:=ay (R1.o.alloc _) J;have a3:=u.size;obtain ⟨Y,a0⟩:=ae u N;clear J u N q1 q2;go_wp2_with (at_builtin;refine aW mM _ rfl (.tmp 12) (.tmp 15) rfl w.heap.size (.slice Al k cl) k _ rfl a0.o [.slice A1 U c1,.slice A2 V c2] rfl rfl (by simp [Value.oneCell']) ap (by unfold maxLen;omega) a3 ?_);intro g6 c6 w6 L Q a2;have T:=ue.push R2.o R3.o R4.o Y.o Hx.o Hu.o L Q;have a1:=aa T;clear L Q a2 T;go_wp2_with fail;go_roundw
   ·exact ⟨k+1,B,by go_num,a1.o⟩
   ·exact LJ B
  ·obtain rfl:n=k:=ap;have y:de rEx 2 wr Al l:=ue.rd ⟨rows,R1.o,R2.o,R3.o,R4.o,R.o⟩ Hn.o;have HF:=aa y;clear y;go_wp2_with fail;go_ret;exact ⟨_,_,rfl,HF.o,R.o⟩
theorem Dt (A1 A2:N_) (l1 B:Qg) (c1 c2:Nat) (w:Qd) (h1:de rEx 2 w A1 l1) (h2:de rEx 2 w A2 B) (a5:l1.length<=1048577) (a2:B.length<=1048577):Calls prog 24 #[.slice A1 l1.length c1,.slice A2 B.length c2] w fun e v=>e=.returned (.bool (decide (l1=B)))/\aq w v:=by
 obtain ⟨n,hn⟩:∃n,l1.length=n:=⟨_,rfl⟩;obtain ⟨m,hm⟩:∃m,B.length=m:=⟨_,rfl⟩;obtain ⟨b,hb⟩:∃b,decide (l1=B)=b:=⟨_,rfl⟩;rw [hn] at a5 ⊢;rw [hm] at a2 ⊢;rw [hb];obtain ⟨H1,H2,Hn,Hm,Hb⟩:=ah h1 h2 hn hm hb;clear h1 h2 hn hm hb;by_cases a0:n≠m
 ·have hq:((n:Int) != (m:Int))=true:=by rw [bne_iff_ne];omega
  have D:b=false:=by
   rw [<-Hb.o];refine OB fun e=>a0 ?_;rw [<-Hn.o,<-Hm.o,e]
  go_enter func24,ntmps24;go_wp2_with fail;go_ret;exact ⟨by rw [D];rfl,NI _ _⟩
 obtain rfl:n=m:=ap;clear a0;go_enter func24,ntmps24;go_wp2_with fail
 go_loopw [5] (fun i wr=>∃k:Nat,k<=n/\i=OH k/\an (∀j,j<k->l1[j]?=B[j]?)/\aq w wr) (fun i _=>n-(intOf i).toNat)
 ·exact ⟨0,NJ _,rfl,aa fun j hj=>ap,NI _ _⟩
 case round=>
  obtain ⟨k,hk,rfl,C,T⟩:=hrel;have U:=aa T;clear T;by_cases Q:k<n
  ·have a7:(k:Int)<n:=ap;obtain ⟨x,hx⟩:∃x,l1[k]?=some x:=⟨_,Of (by rw [Hn.o];exact Q)⟩;obtain ⟨y,hy⟩:∃y,B[k]?=some y:=⟨_,Of (by rw [Hm.o];exact Q)⟩;have g1:de rEx 2 wr A1 l1:=H1.o.below dE U.o;have g2:de rEx 2 wr A2 B:=H2.o.below dE U.o;obtain ⟨b1,o1,P1,d1,Q1,f1,rfl,a6,p1,p2,r1,r2⟩:=fL g1 hx;obtain ⟨b2,o2,P2,d2,Q2,f2,rfl,a8,q1,q2,s1,s2⟩:=fL g2 hy;have O:=fun v (k:aq wr v)=>zU P1 Q1 P2 Q2 x.1 x.2 y.1 y.2 d1 f1 d2 f2 v (r1.below k) (r2.below k) (s1.below k) (s2.below k);obtain ⟨eq,I⟩:∃eq,(decide (x.1=y.1)&&decide (x.2=y.2))=eq:=⟨_,rfl⟩
   have Y:eq=true↔x=y:=by
    rw [<-I,Bool.and_eq_true,OD,OD];exact ⟨fun h=>Prod.ext h.1 h.2,fun h=>by rw [h];exact ⟨rfl,rfl⟩⟩
   obtain ⟨n1,H⟩:∃n,x.1.length=n:=⟨_,rfl⟩;obtain ⟨n2,N⟩:∃n,x.2.length=n:=⟨_,rfl⟩;obtain ⟨m1,J⟩:∃n,y.1.length=n:=⟨_,rfl⟩;obtain ⟨m2,L⟩:∃n,y.2.length=n:=⟨_,rfl⟩;rw [I,H,N,J,L] at O;rw [H] at p1;rw [N] at p2;rw [J] at q1;rw [L] at q2;obtain ⟨a1,Hx,Hy,V⟩:=ag O hx hy Y;clear O hx hy Y I H N J L g1 g2 r1 r2 s1 s2;go_wp2_with fail;have u:(fun v:Qd=>v.cell? (ar b1 (o1+k*2))=some (.slice P1 n1 d1)/\v.cell? (ar b1 (o1+k*2+1))=some (.slice Q1 n2 f1)/\v.cell? (ar b2 (o2+k*2))=some (.slice P2 m1 d2)/\v.cell? (ar b2 (o2+k*2+1))=some (.slice Q2 m2 f2)) wr.drew:=⟨p1,p2,q1,q2⟩;refine HA.g (fun v:Qd=>v.cell? (ar b1 (o1+k*2))=some (.slice P1 n1 d1)/\v.cell? (ar b1 (o1+k*2+1))=some (.slice Q1 n2 f1)/\v.cell? (ar b2 (o2+k*2))=some (.slice P2 m1 d2)/\v.cell? (ar b2 (o2+k*2+1))=some (.slice Q2 m2 f2)) ?_;refine HA.t ?_ [0,1,2,3,4,5,6,7] u ?_;refine HA.o 8 (fun K hK=>?_);go_simp;refine (a1.o _ ((NI _ _).drew)).mono ?_;rintro e w3 ⟨rfl,A⟩;have Z:=NR (aw A u.1) (NR (aw A u.2.1) (NR (aw A u.2.2.1) (aw A u.2.2.2)));have R:=aa (U.o.trans (((NI wr.heap.size wr).drew.trans A).mono U.o.size));clear A u;dsimp only;refine hK.out _ _ Z (fun u=>?_);clear hK K Z;refine HA.t ?_ [9] u ?_;refine HA.d ?_;clear u p1 p2 q1 q2;rcases dI eq with rfl | rfl
   ·go_wp2_with fail;go_ret
    have D:b=false:=by
     rw [<-Hb.o];refine OB fun e=>?_;have h:=Hx.o;rw [e,Hy.o] at h;injection h with h
     have:=V.o.2 h.symm;cases this
    exact ⟨by rw [D];rfl,R.o⟩
   ·have a4:=aa (V.o.1 rfl);go_wp2_with fail;go_roundw
    case rel=>exact ⟨k+1,by omega,by go_num,aa (p:=∀j,j<k+1->l1[j]?=B[j]?) fun j hj=>by
     rcases NY j k with h | h
     ·exact C.out j h
     ·obtain rfl:j=k:=ap
      rw [Hx.o,Hy.o,a4.o],R.o⟩
    case measure=>simp [intOf];omega
  ·obtain rfl:n=k:=ap
   have a3:b=true:=by
    rw [<-Hb.o];refine OA (List.ext_getElem? fun j=>?_);rcases NY j n with h | h
    ·exact C.out j h
    ·rw [List.getElem?_eq_none (by rw [Hn.o];exact h),List.getElem?_eq_none (by rw [Hm.o];exact h)]
   go_wp2_with fail;go_ret;exact ⟨by rw [a3];rfl,U.o⟩
def tU (w:Qd):List Obj->Qd
 | []=>w
 | o::l=>tU (w.alloc o) l
theorem et:∀(l:List Obj) (w:Qd),aq w (tU w l)
 | [],w=>br w
 | o::l,w=>bt ((br w).alloc (NF _) o) (et l _)
theorem bY:∀(l:List Obj) (w:Qd) (k:Nat) {o:Obj},l[k]?=some o->(tU w l).heap[w.heap.size+k]?=some o
 | [],_,_,_,h=>by simp at h
 | o::l,w,0,_,h=>by
  simp only [Oa,Option.some.injEq] at h;subst h;exact sb (NG w o) _ (et l _)
 | o::l,w,k+1,_,h=>by
  have:=bY l (w.alloc o) k (by simpa using h)
  rwa [show (w.alloc o).heap.size+k=w.heap.size+(k+1) by rw [NZ];omega] at this
theorem rI (y:Itm):∃(C h p:Int) (v u:Bool) (o i D x B A H:Int),bj y=[OH C,OH h,OH p,.bool v,.bool u,OH o,OH i,OH D,OH x,OH B,OH A,OH H]:=by
 obtain ⟨k,s,n,a⟩:=y
 cases a with
 | none=>exact ⟨_,_,_,_,_,_,_,_,_,_,_,_,rfl⟩
 | some a=>exact ⟨_,_,_,_,_,_,_,_,_,_,_,_,rfl⟩
theorem mh:cY prog 152 12:=⟨⟨_,underlying152,rfl⟩,by kernel_rfl⟩
theorem rp {w i:Qd} {b o:Nat} {p:Qc} (h:w.rangeAt b o p) (q:aq w i):i.rangeAt b o p:=fun j v u=>aw q (h j v u)
theorem bQ:cY prog 75 4:=⟨⟨_,underlying75,rfl⟩,by kernel_rfl⟩
theorem Ax:cY prog 24 12:=⟨⟨_,underlying24,rfl⟩,by kernel_rfl⟩
theorem ln:cY prog 103 2:=⟨⟨_,underlying103,rfl⟩,by kernel_rfl⟩
theorem gj:cY prog 187 2:=⟨⟨_,underlying187,rfl⟩,by kernel_rfl⟩
theorem yj (w:Qd) (X Y Z p i o:Qb) (t u:Qf):∃W0,(((((w.alloc (.cells X t)).alloc (.cells Y u)).alloc (.cells Z u)).alloc (.cells p t)).alloc (.cells i u)).alloc (.cells o u)=W0/\
  W0.heap[w.heap.size]?=some (.cells X t (0,0))/\W0.heap[w.heap.size+1]?=some (.cells Y u (0,0))/\W0.heap[w.heap.size+1+1]?=some (.cells Z u (0,0))/\W0.heap[w.heap.size+1+1+1]?=some (.cells p t (0,0))/\W0.heap[w.heap.size+1+1+1+1]?=some (.cells i u (0,0))/\
  W0.heap[w.heap.size+1+1+1+1+1]?=some (.cells o u (0,0))/\aq w W0:=by
 refine ⟨_,rfl,?_⟩;have h:=et [.cells X t,.cells Y u,.cells Z u,.cells p t,.cells i u,.cells o u] w
 exact ⟨bY [.cells X t,.cells Y u,.cells Z u,.cells p t,.cells i u,.cells o u] w 0 rfl,bY [.cells X t,.cells Y u,.cells Z u,.cells p t,.cells i u,.cells o u] w 1 rfl,bY [.cells X t,.cells Y u,.cells Z u,.cells p t,.cells i u,.cells o u] w 2 rfl,
  bY [.cells X t,.cells Y u,.cells Z u,.cells p t,.cells i u,.cells o u] w 3 rfl,bY [.cells X t,.cells Y u,.cells Z u,.cells p t,.cells i u,.cells o u] w 4 rfl,bY [.cells X t,.cells Y u,.cells Z u,.cells p t,.cells i u,.cells o u] w 5 rfl,h⟩
def RL (w:Qd) (v:Qb) (s:LSt):Prop:=∃B c,v=#[OH (s.cap:Nat),.slice B s.msgs.length c,OH (s.recv:Nat),OH (s.peak:Nat)]/\cR w B s.msgs/\s.msgs.length<=c
section
variable {u v:Qd}
theorem bJ {A:N_} {l:Qa} {c:Nat} (h:cB u A l c) (i:Ext u v):cB v A l c:=⟨h.hc,h.hl,aQ h.hr i,h.hw⟩
theorem eg {A:N_} {c:Nat} {D T R:N_} {ct:Nat} {i:Inp} (h:fY u A c D T ct R i) (o:Ext u v):fY v A c D T ct R i:=
 ⟨⟨h.c.hc,h.c.hm,h.c.hl,aQ h.c.hr o⟩,eO cQ h.d o,h.dl,bJ h.t o,h.tl,aQ h.r o,h.rl,h.ru,h.ra,h.rm⟩
theorem jJ {vs:Qb} {i:Inp} {x:Nat} {m:Mst} (h:fG u vs i x m) (hb:Ext u v):fG v vs i x m:=by
 obtain ⟨A,c,D,cd,T,ct,R,cr,PA,pc,MA,mc,GA,gc,SA,sc,IA,ic,H,h1,p,I,y,C,o,B⟩:=h;exact ⟨A,c,D,cd,T,ct,R,cr,PA,pc,MA,mc,GA,gc,SA,sc,IA,ic,H,eg h1 hb,bJ p hb,bJ I hb,bJ y hb,eO cQ C hb,aQ o hb,B⟩
theorem cZ {A:N_} {ms:List Msg} (h:cR u A ms) (hb:Ext u v):cR v A ms:=by
 obtain ⟨rows,h1,o,y,p⟩:=h;exact ⟨rows,aQ h1 hb,o,y,fun j i=>by obtain ⟨B,x,e,hr⟩:=p j i;exact ⟨B,x,e,aQ hr hb⟩⟩
theorem sX {V:Qd} {A:N_} {ms:List Msg} (h:fM V u A ms) (hb:Ext u v):fM V v A ms:=by
 obtain ⟨rows,h1,i,p,o⟩:=h;exact ⟨rows,aQ h1 hb,i,p,o⟩
theorem ka {x:Qb} {s:LSt} (h:RL u x s) (hb:Ext u v):RL v x s:=by
 obtain ⟨B,c,h1,i,o⟩:=h;exact ⟨B,c,h1,cZ i hb,o⟩
end
theorem EW (S:Nat->Prop) (w:Qd):Keep S w (aF S w):=⟨rfl,rfl,rfl,Nat.le_of_eq (nJ S w).symm,fun _ _ hs=>gt hs⟩
theorem iW {S:Nat->Prop} {w:Qd} {base:Nat} {e:Qf} {n c:Nat} {A:N_} {xs:Qc} (h:w.ownsRow base e 1 (.slice A n c) n xs) (p:∀k,S k->k<base):Rd (aF S w) A xs:=by
 refine mr (Rd.own h) fun y i hs=>?_;rcases h.2 with ⟨o,_⟩ | ⟨g,_,_,o,hb,_⟩
 ·injection o with e1;rw [e1] at i;cases i
 ·injection o with e1;rw [e1] at i;cases i;have u:g<base:=p _ hs;omega
theorem fz {P:Program} {f:Func} {x y z q:Tmp} {Q o i:Qf} (h:f.results=#[.cell x Q,.cell y o,.cell z i,.tmp q]) {tmps:Qb} {w:Qd} {b A b3:Nat} {xs ys zs:Qb} {t t2 t3:Qf} {fr H B:Nat×Nat} (hx:tmps.getD x undef=(au b)) (hy:tmps.getD y undef=(au A)) (hz:tmps.getD z undef=(au b3)) (hb:w.heap[b]?=some (.cells xs t fr)) (R:w.heap[A]?=some (.cells ys t2 H)) (V:w.heap[b3]?=some (.cells zs t3 B)) (hr:cY P Q xs.size) (D:cY P o ys.size) (T:cY P i zs.size):(results f tmps).run P w=.ok (.tuple #[.agg xs,.agg ys,.agg zs,tmps.getD q undef]) w:=by
 obtain ⟨⟨d,h1,h2⟩,h3⟩:=hr;obtain ⟨⟨d',L,I⟩,O⟩:=D;obtain ⟨⟨J,p,u⟩,v⟩:=T;have Z:=run_loadVar_mid (P:=P) w b 0 Q xs.toList d (eU hb 0 (by rw [Oc,Oq])) h1 h2 (by simpa using h3);have Y:=run_loadVar_mid (P:=P) w A 0 o ys.toList d' (eU R 0 (by rw [Oc,Oq])) L I (by simpa using O);have e3:=run_loadVar_mid (P:=P) w b3 0 i zs.toList J (eU V 0 (by rw [Oc,Oq])) p u (by simpa using v);rw [Array.toArray_toList] at Z Y e3;have C:tmps[x]?.getD undef=(au b):=by simpa using hx
 have N:tmps[y]?.getD undef=(au A):=by simpa using hy
 have U:tmps[z]?.getD undef=(au b3):=by simpa using hz
 simp [results,h,C,N,U,asAddr,Z,Y,e3]
def oC (S:Nat->Prop) (i:Inp) (x:Nat) (m:Mst) (s t:LSt) (C:Int) (w:Qd) (e:Ending) (h:Qd):Prop:=∃vs u v,e=.returned (.tuple #[.agg vs,.agg u,.agg v,OH C])/\vs.size=22/\(vs.toList.all (·.oneCell')=true)/\fG (aF S h) vs i x m/\RL (aF S h) u s/\RL (aF S h) v t/\aq w h
structure RdF (S:Nat->Prop) (w W0:Qd) (i:Inp) (x:Nat) (m:Mst) (s t:LSt) (y:Itm) (A:N_) (c:Nat) (D:N_) (cd:Nat) (T:N_) (ct:Nat) (R:N_) (cr:Nat) (PA:N_) (pc:Nat) (MA:N_) (mc:Nat) (GA:N_) (gc:Nat) (SA:N_) (sc bI oI ic:Nat) (B1:N_) (c1:Nat) (B2:N_) (c2 dn il:Nat):Prop where
 eW:(((((w.alloc (.cells #[.slice A i.cfg.sizes.length c,OH i.cfg.shift,OH i.cfg.rate,OH i.cfg.mom,OH i.cfg.workers,OH i.cfg.batch,OH i.cfg.micros,OH i.cfg.steps,OH i.cfg.bucket,OH i.cfg.chunk,OH i.cfg.window,OH i.cfg.cap,.slice D i.data.length cd,.slice T i.start.length ct,.slice R i.draws.length cr,OH (x:Nat),.slice PA i.start.length pc,.slice MA i.start.length mc,.slice GA i.start.length gc,.slice SA m.rc.length sc,.slice (some (ar bI oI)) il ic,OH (dn:Nat)] 106)).alloc (.cells #[OH (s.cap:Nat),.slice B1 s.msgs.length c1,OH (s.recv:Nat),OH (s.peak:Nat)] 75)).alloc (.cells #[OH (t.cap:Nat),.slice B2 t.msgs.length c2,OH (t.recv:Nat),OH (t.peak:Nat)] 75)).alloc (.cells ON 106)).alloc (.cells #[OH 0,OJ,OH 0,OH 0] 75)).alloc (.cells #[OH 0,OJ,OH 0,OH 0] 75)=W0
 bx:∀w',aq W0 w'->w'.heap[w.heap.size]?=some (.cells #[.slice A i.cfg.sizes.length c,OH i.cfg.shift,OH i.cfg.rate,OH i.cfg.mom,OH i.cfg.workers,OH i.cfg.batch,OH i.cfg.micros,OH i.cfg.steps,OH i.cfg.bucket,OH i.cfg.chunk,OH i.cfg.window,OH i.cfg.cap,.slice D i.data.length cd,.slice T i.start.length ct,.slice R i.draws.length cr,OH (x:Nat),.slice PA i.start.length pc,.slice MA i.start.length mc,.slice GA i.start.length gc,.slice SA m.rc.length sc,.slice (some (ar bI oI)) il ic,OH (dn:Nat)] 106 (0,0))/\w'.heap[w.heap.size+1]?=some (.cells #[OH (s.cap:Nat),.slice B1 s.msgs.length c1,OH (s.recv:Nat),OH (s.peak:Nat)] 75 (0,0))/\w'.heap[w.heap.size+1+1]?=some (.cells #[OH (t.cap:Nat),.slice B2 t.msgs.length c2,OH (t.recv:Nat),OH (t.peak:Nat)] 75 (0,0))/\w'.heap[w.heap.size+1+1+1]?=some (.cells ON 106 (0,0))/\w'.heap[w.heap.size+1+1+1+1]?=some (.cells #[OH 0,OJ,OH 0,OH 0] 75 (0,0))/\w'.heap[w.heap.size+1+1+1+1+1]?=some (.cells #[OH 0,OJ,OH 0,OH 0] 75 (0,0))
 K:aq w W0
 I0:fY (aF S w) A c D T ct R i
 P0:cB (aF S w) PA m.P pc
 M0:cB (aF S w) MA m.M mc
 G0:cB (aF S w) GA m.G gc
 R0:de rEx 2 (aF S w) SA m.rc
 It0:Rd (aF S w) (some (ar bI oI)) (cC (dq i x))
 Pl:m.P.length=i.start.length
 Ml:m.M.length=i.start.length
 Gl:m.G.length=i.start.length
 s0:cR (aF S w) B1 s.msgs
 t0:cR (aF S w) B2 t.msgs
 s2:s.msgs.length<=c1
 t2:t.msgs.length<=c2
 il':(dq i x).length=il
 dn':bq i x m=dn
 s':cq i
 rw':W0.rangeAt bI (oI+dn*12) (bj y)
 S':∀k,S k->k<w.heap.size
 wd:IntKind.i64.wrap ((dn:Int)+1)=((dn:Int)+1)
 loc:(∀w',aq W0 w'->w'.cell? (ar w.heap.size 20)=some (.slice (some (ar bI oI)) il ic))/\(∀w',aq W0 w'->w'.cell? (ar w.heap.size 21)=some (OH (dn:Nat)))/\(∀w',aq W0 w'->w.heap.size<w'.heap.size)/\(dn:Int)<il/\¬(il:Int)<=dn/\¬(dn:Int)<0/\¬il<=dn
section
variable {S:Nat->Prop} {w W0:Qd} {i:Inp} {x:Nat} {m:Mst} {s t:LSt} {y:Itm} {A:N_} {c:Nat} {D:N_} {cd:Nat} {T:N_} {ct:Nat} {R:N_} {cr:Nat} {PA:N_} {pc:Nat} {MA:N_} {mc:Nat} {GA:N_} {gc:Nat} {SA:N_} {sc bI oI ic:Nat} {B1:N_} {c1:Nat} {B2:N_} {c2 dn il:Nat}
variable (h:RdF S w W0 i x m s t y A c D cd T ct R cr PA pc MA mc GA gc SA sc bI oI ic B1 c1 B2 c2 dn il)
include h
theorem RdF.hI:fY w A c D T ct R i:=eg h.I0 (er S w)
theorem RdF.hP:cB w PA m.P pc:=bJ h.P0 (er S w)
theorem RdF.hM:cB w MA m.M mc:=bJ h.M0 (er S w)
theorem RdF.hG:cB w GA m.G gc:=bJ h.G0 (er S w)
end
theorem kO {S:Nat->Prop} {w:Qd} {vs u v:Qb} {i:Inp} {x:Nat} {m:Mst} {s t:LSt} {y:Itm} (hS:∀k,S k->k<w.heap.size) (h:fG (aF S w) vs i x m) (hu:RL (aF S w) u s) (hv:RL (aF S w) v t) (hs:cq i) (hy:(dq i x)[bq i x m]?=some y):
  ∃A c D cd T ct R cr PA pc MA mc GA gc SA sc bI oI ic B1 c1 B2 c2 dn il W0,vs=#[.slice A i.cfg.sizes.length c,OH i.cfg.shift,OH i.cfg.rate,OH i.cfg.mom,OH i.cfg.workers,OH i.cfg.batch,OH i.cfg.micros,OH i.cfg.steps,OH i.cfg.bucket,OH i.cfg.chunk,OH i.cfg.window,OH i.cfg.cap,.slice D i.data.length cd,.slice T i.start.length ct,.slice R i.draws.length cr,OH (x:Nat),.slice PA i.start.length pc,.slice MA i.start.length mc,.slice GA i.start.length gc,.slice SA m.rc.length sc,.slice (some (ar bI oI)) il ic,OH (dn:Nat)]/\u=#[OH (s.cap:Nat),.slice B1 s.msgs.length c1,OH (s.recv:Nat),OH (s.peak:Nat)]/\v=#[OH (t.cap:Nat),.slice B2 t.msgs.length c2,OH (t.recv:Nat),OH (t.peak:Nat)]/\RdF S w W0 i x m s t y A c D cd T ct R cr PA pc MA mc GA gc SA sc bI oI ic B1 c1 B2 c2 dn il:=by
 obtain ⟨A,c,D,cd,T,ct,R,cr,PA,pc,MA,mc,GA,gc,SA,sc,IA,ic,rfl,Y,U,a0,O,Z,p,V,a3,L⟩:=h;obtain ⟨B1,c1,rfl,N,a1⟩:=hu;obtain ⟨B2,c2,rfl,a5,a2⟩:=hv;have a4:(dq i x).length<=48000000:=rP hs x (NF _);obtain ⟨bI,oI,rfl,B⟩:=yZ (aQ p (er S w)) hy;have I:=(Oe.1 hy).1;obtain ⟨dn,C⟩:∃dn,bq i x m=dn:=⟨_,rfl⟩;obtain ⟨il,H⟩:∃il,(dq i x).length=il:=⟨_,rfl⟩;rw [C] at B I;rw [H] at a4 I;obtain ⟨W0,Q,J,g1,g2,g3,g4,g5,k0⟩:=yj w #[.slice A i.cfg.sizes.length c,OH i.cfg.shift,OH i.cfg.rate,OH i.cfg.mom,OH i.cfg.workers,OH i.cfg.batch,OH i.cfg.micros,OH i.cfg.steps,OH i.cfg.bucket,OH i.cfg.chunk,OH i.cfg.window,OH i.cfg.cap,.slice D i.data.length cd,.slice T i.start.length ct,.slice R i.draws.length cr,OH (x:Nat),.slice PA i.start.length pc,.slice MA i.start.length mc,.slice GA i.start.length gc,.slice SA m.rc.length sc,.slice (some (ar bI oI)) il ic,OH (dn:Nat)] #[OH (s.cap:Nat),.slice B1 s.msgs.length c1,OH (s.recv:Nat),OH (s.peak:Nat)] #[OH (t.cap:Nat),.slice B2 t.msgs.length c2,OH (t.recv:Nat),OH (t.peak:Nat)] ON #[OH 0,OJ,OH 0,OH 0] #[OH 0,OJ,OH 0,OH 0] 106 75
 exact ⟨A,c,D,cd,T,ct,R,cr,PA,pc,MA,mc,GA,gc,SA,sc,bI,oI,ic,B1,c1,B2,c2,dn,il,W0,by rw [C,H],rfl,rfl,Q,fun o q=>⟨sb J o q,sb g1 o q,sb g2 o q,sb g3 o q,sb g4 o q,sb g5 o q⟩,k0,Y,U,a0,O,Z,p,V,a3,L,N,a5,a1,a2,H,C,hs,fun k u hu=>aw k0 (B k u hu),hS,by rw [NK _ ap],
  fun o q=>NH o w.heap.size 20 _ _ _ (sb J o q),fun o q=>NH o w.heap.size 21 _ _ _ (sb J o q),sl J,by omega,by omega,by omega,by omega⟩
theorem vq {V h:Qd} {X:Nat} {B A i y o:Obj} (k:Keep (fun k=>k=X) V h) (h1:V.heap[X+1]?=some B) (p:V.heap[X+1+1]?=some A) (x:V.heap[X+1+1+1]?=some i) (u:V.heap[X+1+1+1+1]?=some y) (v:V.heap[X+1+1+1+1+1]?=some o):
  h.heap[X+1]?=some B/\h.heap[X+1+1]?=some A/\h.heap[X+1+1+1]?=some i/\h.heap[X+1+1+1+1]?=some y/\h.heap[X+1+1+1+1+1]?=some o:=
 ⟨(k.block _ (NE h1) ap).trans h1,(k.block _ (NE p) ap).trans p,(k.block _ (NE x) ap).trans x,(k.block _ (NE u) ap).trans u,(k.block _ (NE v) ap).trans v⟩
abbrev KB3 (X:Nat) (V w:Qd):Prop:=Keep (fun k=>k=X+1+1+1\/k=X+1+1+1+1\/k=X+1+1+1+1+1) V w
section
variable {P:Program} {ops:Qh} {Q:Exit->Qi->Qd->Prop} {X:Nat} {V:Qd}
theorem HA.ld3 {L:List Nat} {a:Qi} {w:Qd} {vs u v:Qb} {t1 t2 T:Qf} {i o p:Oper} {D R H:Qf} {A O N:Operand} (I:V.heap[X]?=some (.cells vs t1 (0,0))) (B:V.heap[X+1]?=some (.cells u t2 (0,0))) (J:V.heap[X+1+1]?=some (.cells v T (0,0))) (Y:cY P D vs.size) (U:cY P R u.size) (Z:cY P H v.size) (y:KB3 X V w) (k:HA P ops Q (KB3 X V) (2::1::0::L) (((a.put i.dst (.agg vs)).put o.dst (.agg u)).put p.dst (.agg v)) w) (x:ops[0]?=some i:=by (simp only [N8,N9,Oa];rfl)) (ho1:ops[1]?=some o:=by (simp only [N8,N9,Oa];rfl)) (ho2:ops[2]?=some p:=by (simp only [N8,N9,Oa];rfl)) (hp0:i.op=.load D A:=by rfl) (hp1:o.op=.load R O:=by rfl) (hp2:p.op=.load H N:=by rfl) (hx0:a.eval A=(au X):=by rfl) (hx1:(a.put i.dst (.agg vs)).eval O=(au (X+1)):=by rfl) (hx2:((a.put i.dst (.agg vs)).put o.dst (.agg u)).eval N=(au (X+1+1)):=by rfl) (g0:Region.wanted i (yielded ops a.tmps)=true:=by rfl) (g1:Region.wanted o (yielded ops (a.put i.dst (.agg vs)).tmps)=true:=by rfl) (g2:Region.wanted p (yielded ops ((a.put i.dst (.agg vs)).put o.dst (.agg u)).tmps)=true:=by rfl) (hs:Region.noSelect ops=true:=by decide +kernel) (hQ:∀c a w d v,Q (.panic c) (Act.put a d v) w->Q (.panic c) a w:=by (intro _ _ _ d _ h;cases d<;>exact h)) (c0:ma ops L [0]=true:=by decide +kernel) (c1:ma ops (0::L) [1]=true:=by decide +kernel) (c2:ma ops (1::0::L) [2]=true:=by decide +kernel):HA P ops Q (KB3 X V) L a w:=
 HA.ld 0 vs (fun C q=>(q.block _ (NE I) ap).trans I) Y y (HA.ld 1 u (fun C q=>(q.block _ (NE B) ap).trans B) U y (HA.ld 2 v (fun C q=>(q.block _ (NE J) ap).trans J) Z y k ho2 hp2 hx2 (by rw [Oc,Oq]) g2 hs hQ c2) ho1 hp1 hx1 (by rw [Oc,Oq]) g1 hs hQ c1) x hp0 hx0 (by rw [Oc,Oq]) g0 hs hQ c0
theorem HA.st3 {L:List Nat} {a:Qi} {w:Qd} {vs u v z1 T z3:Qb} {t1 t2 I:Qf} {h o y:Oper} {R y2 Z:Qf} {H x1 x2 v0 v1 v2:Operand} {n1 n2 O:Nat} (i j l:Nat) (b3:V.heap[X+1+1+1]?=some (.cells z1 t1 (0,0))) (b4:V.heap[X+1+1+1+1]?=some (.cells T t2 (0,0))) (b5:V.heap[X+1+1+1+1+1]?=some (.cells z3 I (0,0))) (r0:cY P R n1) (r1:cY P y2 n2) (r2:cY P Z O) (hw:aq V w) (k:∀p,p.heap[X+1+1+1]?=some (.cells vs t1 (0,0))->p.heap[X+1+1+1+1]?=some (.cells u t2 (0,0))->p.heap[X+1+1+1+1+1]?=some (.cells v I (0,0))->KB3 X V p->HA P ops Q (KB3 X V) (l::j::i::L) (((a.put h.dst undef).put o.dst undef).put y.dst undef) p) (A:ops[i]?=some h:=by (simp only [N8,N9,Oa];rfl)) (ho1:ops[j]?=some o:=by (simp only [N8,N9,Oa];rfl)) (ho2:ops[l]?=some y:=by (simp only [N8,N9,Oa];rfl)) (hp0:h.op=.store R H v0:=by rfl) (hp1:o.op=.store y2 x1 v1:=by rfl) (hp2:y.op=.store Z x2 v2:=by rfl) (hx0:a.eval H=(au (X+1+1+1)):=by rfl) (hx1:(a.put h.dst undef).eval x1=(au (X+1+1+1+1)):=by rfl) (hx2:((a.put h.dst undef).put o.dst undef).eval x2=(au (X+1+1+1+1+1)):=by rfl) (hv0:a.eval v0=.agg vs:=by rfl) (hv1:(a.put h.dst undef).eval v1=.agg u:=by rfl) (hv2:((a.put h.dst undef).put o.dst undef).eval v2=.agg v:=by rfl) (e0:vs.size=n1:=by rfl) (e1:u.size=n2:=by rfl) (e2:v.size=O:=by rfl) (f0:z1.size=vs.size:=by rfl) (f1:T.size=u.size:=by rfl) (f2:z3.size=v.size:=by rfl) (l0:vs.toList.all (·.oneCell')=true:=by rfl) (l1:u.toList.all (·.oneCell')=true:=by rfl) (l2:v.toList.all (·.oneCell')=true:=by rfl) (d0:db ops L=[i]:=by decide +kernel) (d1:db ops (i::L)=[j]:=by decide +kernel) (d2:db ops (j::i::L)=[l]:=by decide +kernel) (g0:Region.wanted h (yielded ops a.tmps)=true:=by rfl) (g1:Region.wanted o (yielded ops (a.put h.dst undef).tmps)=true:=by rfl) (g2:Region.wanted y (yielded ops ((a.put h.dst undef).put o.dst undef).tmps)=true:=by rfl):HA P ops Q (KB3 X V) L a w:=by
 have q:KB3 X V w:=Keep.below hw;refine HA.st i (sb b3 w hw) r0 (fun w6 Y D=>?_) A hp0 hx0 hv0 e0 f0 l0 d0 g0;have U:KB3 X V w6:=q.trans (D.mono fun k _ e=>.inl e);refine ⟨U,HA.st j ((D.block _ (NE (sb b4 w hw)) ap).trans (sb b4 w hw)) r1 (fun w7 N C=>?_) ho1 hp1 hx1 hv1 e1 f1 l1 d1 g1⟩;have J:KB3 X V w7:=U.trans (C.mono fun k _ e=>.inr (.inl e));have x:=(D.block _ (NE (sb b5 w hw)) ap).trans (sb b5 w hw);refine ⟨J,HA.st l ((C.block _ (NE x) ap).trans x) r2 (fun w8 e8 B=>?_) ho2 hp2 hx2 hv2 e2 f2 l2 d2 g2⟩;have q8:KB3 X V w8:=J.trans (B.mono fun k _ e=>.inr (.inr e));have c3:=(C.block _ (NE Y) ap).trans Y;exact ⟨q8,k w8 ((B.block _ (NE c3) ap).trans c3) ((B.block _ (NE N) ap).trans N) e8 q8⟩
end
theorem kK {w V o i:Qd} (p:Keep (fun k=>k=w.heap.size) V o) (v:KB3 w.heap.size o i) (h:aq w V):Keep (fun k=>w.heap.size<=k/\k<w.heap.size+6) V i/\aq w i:=
 have k:Keep (fun k=>w.heap.size<=k/\k<w.heap.size+6) V i:=(p.mono fun k _ e=>ap).trans (v.mono fun k _ e=>by rcases e with e | e | e<;>omega)
 ⟨k,h.trans (k.toBelow h.size (fun j u=>u.1))⟩
end Go.Proofs.YtgmajkppbhiopaaGreat
