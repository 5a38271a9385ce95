/- No condition. -/
import Derived.Test.YtindmkcnjlgomaaGreatQ07
import Derived.Lib.SliceRun
set_option linter.unusedSimpArgs false
set_option linter.unusedVariables false
set_option maxRecDepth 100000
set_option maxHeartbeats 4000000
namespace Go.Proofs.YtindmkcnjlgomaaGreat
open Go.RowKit
open Tryz
theorem LY:dN prog 340 348 (.agg #[.int .i64 0,.int .i64 0,.slice none 0 0,.slice none 0 0]) 4 64:=⟨underlying340,info_parts (by kernel_rfl),rfl,by decide⟩
theorem AH {w:R8} {base n g c:Nat} {xs:Q_} {e:R9} (h:w.ownsRow base e 1 (.slice (some ⟨g,0,none⟩) n c) n (aA .i64 xs)) {k:Nat} (hk:k<n):w.cell? ⟨g,k,none⟩=some (.int .i64 (nth xs k)):=cG h hk
def Qq (sz ps:Q_) (q:Int) (S h cp b o:Nat) (u:N_) (v:Nat) (k:Nat) (x w:R8):Prop:=
 ∃p i rows,w.heap[b]?=some (.cells #[.pointer (some ⟨S,0,none⟩),.slice (some ⟨h,0,none⟩) ps.length cp,.int .i64 q,.slice p k i] 342 (0,0))/\
  w.ownsRow b 348 4 (.slice p k i) k (List.flatten rows)/\rows.length=k/\(∀r∈rows,r.length=4)/\
  w.ownsRow o 2 1 (.slice (some ⟨h,0,none⟩) ps.length cp) ps.length (aA .i64 ps)/\
  (∀j,j<k->∃g d,cF rows j=[.int .i64 (szN sz (j+1):Int),.int .i64 (szN sz j:Int),.slice (some ⟨g,0,none⟩) (szN sz (j+1)*szN sz j) d,.slice (some ⟨h,dM sz j,none⟩) (szN sz (j+1)) (cp-dM sz j)]/\
   szN sz (j+1)*szN sz j<=d/\w.ownsRow o 2 1 (.slice (some ⟨g,0,none⟩) (szN sz (j+1)*szN sz j) d) (szN sz (j+1)*szN sz j) (aA .i64 (wL sz ps j)))/\
  w.ownsRow b 3 1 (.slice u sz.length v) sz.length (aA .i64 sz)/\Below b x w
def Px (w:R8) (base b:Nat) (ps:Q_):Prop:=∃s h cp q l,w.heap[b]?=some (.cells #[s,.slice h ps.length cp,q,l] 342 (0,0))/\w.ownsRow base 2 1 (.slice h ps.length cp) ps.length (aA .i64 ps)/\base<=b
def vV (w:R8) (base b S:Nat) (sz ps:Q_) (q:Int):Prop:=∃g cp i h rows,
 w.heap[b]?=some (.cells #[.pointer (some ⟨S,0,none⟩),.slice (some ⟨g,0,none⟩) ps.length cp,.int .i64 q,.slice i (sz.length-1) h] 342 (0,0))/\base<=b/\
  w.ownsRow base 2 1 (.slice (some ⟨g,0,none⟩) ps.length cp) ps.length (aA .i64 ps)/\w.ownsRow base 348 4 (.slice i (sz.length-1) h) (sz.length-1) (List.flatten rows)/\rows.length=sz.length-1/\(∀r∈rows,r.length=4)/\
  ∀j,j<sz.length-1->∃o d,cF rows j=[.int .i64 (szN sz (j+1):Int),.int .i64 (szN sz j:Int),.slice (some ⟨o,0,none⟩) (szN sz (j+1)*szN sz j) d,.slice (some ⟨g,dM sz j,none⟩) (szN sz (j+1)) (cp-dM sz j)]/\
   szN sz (j+1)*szN sz j<=d/\w.ownsRow base 2 1 (.slice (some ⟨o,0,none⟩) (szN sz (j+1)*szN sz j) d) (szN sz (j+1)*szN sz j) (aA .i64 (wL sz ps j))
theorem vV.keep {w u:R8} {base b y:Nat} {sz ps:Q_} {q:Int} (h:vV w base b y sz ps q) {S:Nat->Prop} (k:Keep S w u) (p:∀j,S j->j<base):vV u base b y sz ps q:=by
 obtain ⟨g,cp,J,O,rows,A,h1,x,B,I,L,Q⟩:=h;have D:∀{e' size n m:Nat} {v:Value} {xs:R7},w.ownsRow base e' size v n xs->u.ownsRow base e' size v n xs:=λhr=>k.own hr (λi o hs=>by have:=p i hs;have:=(hr.lt i o).1;omega)
 exact ⟨g,cp,J,O,rows,(k.block b (Qw A) (λhs=>by have:=p b hs;omega)).trans A,h1,k.own x (λi o hs=>by have:=p i hs;have:=(x.lt i o).1;omega),k.own B (λi o hs=>by have:=p i hs;have:=(B.lt i o).1;omega),I,L,λj T=>by
  obtain ⟨H,d,R,N,C⟩:=Q j T
  exact ⟨H,d,R,N,k.own C (λi o hs=>by have:=p i hs;have:=(C.lt i o).1;omega)⟩⟩
theorem vV.below {w i:R8} {base b o:Nat} {sz ps:Q_} {q:Int} (h:vV w base b o sz ps q) (hb:aq w i):vV i base b o sz ps q:=h.keep (S:=λ_=>False) (Keep.below hb) (λ_ h=>h.elim)
theorem vV.at {w:R8} {base b S:Nat} {sz ps:Q_} {q:Int} (h:vV w base b S sz ps q) (R:cS 199 w S sz) (hg:dY sz) (hl:ps.length=bS sz (sz.length-1)):mG 199 342 w b sz ps q:=by
 obtain ⟨g,cp,H,N,rows,C,h1,A,J,D,I,O⟩:=h;refine ⟨S,some ⟨g,0,none⟩,cp,H,N,rows,C,R,Rd.own A,Rd.own J,D,I,λj Q=>?_⟩;obtain ⟨B,T,o,u,p⟩:=O j Q;have v:=QD (gr sz (show j+1<=sz.length-1 by omega)) (Nat.le_of_eq hl.symm);have y:=fR sz j;have x:bL sz ps j=(ps.drop (dM sz j)).take (szN sz (j+1)):=(fS (by rw [Rn,Rq];omega) λi L=>by rw [eJ L,eK]).symm;refine ⟨B,0,T,some ⟨g,dM sz j,none⟩,cp-dM sz j,o,u,Rd.own p,?_⟩;have:=((Rd.own A).drop (dM sz j)).take (szN sz (j+1))
 rwa [RB,dL,dE,<-x] at this
theorem AS (S:Nat) (sz ps:Q_) (A:N_) (c:Nat) (q:Int) (w:R8) (hS:cS 199 w S sz) (hg:dY sz) (hq:0<=q/\q<=62) (hl:ps.length=bS sz (sz.length-1)) (hA:Rd w A (aA .i64 ps)):Calls prog 218 #[.pointer (some ⟨S,0,none⟩),.slice A ps.length c,.int .i64 q] w λe C=>∃b,e=.returned (.tuple #[.pointer (some ⟨b,0,none⟩),.bool true])/\mG 199 342 C b sz ps q/\Px C w.heap.size b ps/\vV C w.heap.size b S sz ps q/\aq w C:=by
 obtain ⟨q1,q2⟩:=hq;have hc:=lh S sz w hS;have cf:=fT A ps c w hA (by have:=hg.2;omega);have cv:=λC (k:aq w C)=>nu S sz C (hS.below k) (by have:=hg.1.1.2;omega);have bv:=λC (k:aq w C)=>kZ S sz C (hS.below k);have cb:=λj C (k:aq w C)=>pN S sz j C (hS.below k) (by have:=hg.1.1.2;omega);have bn:=λj C (k:aq w C)=>qN S sz j C (hS.below k) (by have:=hg.1.1.2;omega);rw [<-hl] at hc;obtain ⟨n,hn⟩:∃n,sz.length-1=n:=⟨_,rfl⟩;obtain ⟨N,hN⟩:∃N,ps.length=N:=⟨_,rfl⟩;rw [hn] at bv cb bn hl;rw [hN] at hc cf hl |-;have Z:1<=n/\n<=15:=by have:=hg.1.1;omega
 have fa:N<=1048576:=by have:=hg.2;rw [hn] at this;omega
 obtain ⟨Hc,eB,e8,ey,eb,eM,HG,Hn⟩:=ak hc cf cv bv cb bn hg hn;obtain ⟨HN,HS,g6,Hl⟩:=ag hN hS hA hl;clear hc cf cv bv cb bn hg hn hN hS hA hl;go_enter func218,ntmps218;go_wp2_with fail;refine Hc.o.mono ?_;rintro e C ⟨rfl,rfl⟩;go_wp2_with fail;refine eB.o.mono ?_;rintro e I ⟨A',cp,rfl,ci,bf,hb⟩;obtain ⟨bi,Hb,ew⟩:=af bf hb ci;clear bf hb ci;go_wp2_with fail;refine (e8.o _ ?_).mono ?_
 .have hb:=Hb.o;have f2:=hb.size;exact am
 rintro e w2 ⟨As,cs,rfl,d4,a1⟩;obtain ⟨ek,dp⟩:=ae d4 a1;clear d4 a1;go_wp2_with fail;refine (ey.o _ ?_).mono ?_
 .have hb:=Hb.o;have a1:=dp.o;exact hb.trans ((((QA _ I).alloc (Qx _) _).trans (a1.mono (by simp))).mono hb.size)
 rintro e C ⟨rfl,rfl⟩;go_wp2_with fail
 have ei:1<=N:=by
  have h0:=Hl.o;have h1:=(HG.o.1.at (k:=1) (by have:=HG.o.1.1;omega)).1;have h2:=gr sz (show 1<=n by omega);have h3:dM sz 0+szN sz 1=bS sz 1:=fR sz 0;omega
 obtain ⟨gp,g1,d5,fn,_⟩:=bi.o.form ap;simp only [Rv] at d5;obtain ⟨rfl,ea,rfl⟩:=d5;clear ea
 go_loopw [42] (λi wr=>∃k:Nat,k<=n/\i=.int .i64 k/\Qq sz ps q S gp cp I.heap.size w.heap.size As cs k I wr) (λi _=>n-(intOf i).toNat)
 case atStart=>
  have a1:=dp.o;have hk:aq I w2:=((QA _ I).alloc (Qx _) _).trans (a1.mono (by simp));have el:=(a1.block I.heap.size (by simp)).trans (Qy I _);refine ⟨0,QB _,rfl,none,0,[],?_,QI _ _ _ _,rfl,by simp,?_,λj hj=>ap,aF ek.o (by simp),hk⟩
  .rw [HN.o];exact el
  .rw [HN.o];exact az bi.o hk
 case round=>
  obtain ⟨k,hk,rfl,Al,cl,rows,av,cL,cw,cn,c9,be,cy,hW⟩:=hrel;rw [HN.o] at av c9;obtain ⟨⟨x0,x1,x2,x3⟩,xf⟩:=bx4 av;have em:=Qw av;have dd:aq w wr:=Hb.o.trans (hW.mono Hb.o.size);obtain ⟨ab,bO,aG,bo,a9,ao,b6,HW⟩:=ak av cL cw cn c9 be cy hW;have ad:=aa dd;clear av cL cw cn c9 be cy hW dd;by_cases f8:k<n
  .have hR:=HG.o.1;have b5:k+1<sz.length:=by have:=Hn.o;have:=hR.1;omega
   have z0:=hR.at (k:=k) ap;have z1:=hR.at b5;have dk:=HG.o.mul b5;have cM:1<=szN sz (k+1)*szN sz k:=Nat.mul_pos z1.1 z0.1;have T:dM sz k=bS sz k+szN sz (k+1)*szN sz k:=rfl;have L:=fR sz k;have a0:=QD (gr sz (show k+1<=n by omega)) (Nat.le_of_eq Hl.o.symm);have a5:=eb.o k;have a6:=eM.o k;have bX:wL sz ps k=(ps.drop (bS sz k)).take (szN sz (k+1)*szN sz k):=(fS (by rw [Rn,Rq];have:=HN.o;omega) λi hi=>by rw [eJ hi,eK]).symm;have a7:bL sz ps k=(ps.drop (dM sz k)).take (szN sz (k+1)):=(fS (by rw [Rn,Rq];have:=HN.o;omega) λi hi=>by rw [eJ hi,eK]).symm;obtain ⟨g5,c5,d1,gb,_⟩:=b6.o.form ap;simp only [Rv] at d1;obtain ⟨rfl,ec,rfl⟩:=d1;clear ec;have p0:=AH b6.o (show k<sz.length by omega);have p1:=AH b6.o b5;rw [z0.2.2] at p0;rw [z1.2.2] at p1;rw [T,<-L,T] at a6;rw [T] at a5 a7;have b7:=Rd.own a9.o;obtain ⟨lo,b2⟩:∃lo,bS sz k=lo:=⟨_,rfl⟩;obtain ⟨r,hr⟩:∃r,szN sz (k+1)=r:=⟨_,rfl⟩;obtain ⟨c0,a2⟩:∃c0,szN sz k=c0:=⟨_,rfl⟩;obtain ⟨B,Z⟩:∃B,r*c0=B:=⟨_,rfl⟩;rw [<-L,T] at a0;rw [b2,hr,a2,Z] at a6 a5 a0;rw [hr,a2,Z] at cM dk;rw [hr] at p1 z1;rw [a2] at p0 z0;rw [b2,hr,a2,Z] at bX a7
   have da:Rd wr (some ⟨gp,lo,none⟩) (aA .i64 (wL sz ps k)):=by
    have:=(b7.drop lo).take B
    rwa [RB,dL,dE,<-bX] at this
   have c6:(wL sz ps k).length=B:=by rw [Cg,hr,a2,Z]
   have bV:=λW (h:aq wr W)=>OK r c0 (some ⟨gp,lo,none⟩) (wL sz ps k) (cp-lo) W ⟨z1.1,z1.2.1⟩ ⟨z0.1,z0.2.1⟩ (c6.trans Z.symm) ap (da.below h);rw [c6] at bV;obtain ⟨cr,d0,dr,en,Hr,es,e6,f4⟩:=ak a5 a6 bV b2 hr a2 Z a7;have eS:=ew.o;clear a5 a6 bV T L bX a7 b2 hr a2 Z b7 da c6;go_wp2_with fail;refine (cr.o _ ad.o ap).mono ?_;rintro e w3 ⟨rfl,d7⟩;have b3:=aa d7;clear d7;go_wp2_with fail;refine (d0.o _ (ad.o.trans (b3.o.mono ad.o.size)) ap).mono ?_;rintro e H ⟨rfl,e0⟩;have J:=b3.o.trans (e0.mono b3.o.size);have ds:=(J.cell (p:=⟨I.heap.size,1,none⟩) em).trans x1;have bs:=(J.cell (p:=⟨g5,k,none⟩) (aB p0)).trans p0;have dn:=(J.cell (p:=⟨g5,k+1,none⟩) (aB p1)).trans p1;have eV:I.heap.size<H.heap.size:=by have:=J.size;omega
   have eX:g5<H.heap.size:=aB bs;have Q:=aa J;clear J e0 b3 x0 x1 x2 x3 xf p0 p1;have f9:(k:Int)+1<sz.length:=ap;have fb:¬(cp=lo):=ap;have fc:lo+B<=cp:=ap;go_wp2_with fail
   go_cut [13,14] (λv _ wx=>∃M A d,v=.pointer (some ⟨M,0,none⟩)/\wx.heap[M]?=some (.cells #[.int .i64 r,.int .i64 c0,.slice A B d] 344 (0,0))/\B<=d/\wx.ownsRow H.heap.size 2 1 (.slice A B d) B (aA .i64 (wL sz ps k))/\H.heap.size+2<=wx.heap.size/\
    Below (H.heap.size+2) ((H.alloc (.cells #[.int .i64 lo,.int .i64 ((lo:Int)+B)] 69)).alloc (.cells #[.int .i64 ((lo:Int)+B),.int .i64 ((lo:Int)+B+r)] 69)) wx)
   case first=>
    have y:(λC:R8=>C.cell? ⟨g5,k+1,none⟩=some (.int .i64 r)/\C.cell? ⟨g5,k,none⟩=some (.int .i64 c0)/\C.cell? ⟨I.heap.size,1,none⟩=some (.slice (some ⟨gp,0,none⟩) N cp)/\C.cell? ⟨H.heap.size,0,none⟩=some (.int .i64 lo)/\C.cell? ⟨H.heap.size,1,none⟩=some (.int .i64 ((lo:Int)+B))) ((H.alloc (.cells #[.int .i64 lo,.int .i64 ((lo:Int)+B)] 69)).alloc (.cells #[.int .i64 ((lo:Int)+B),.int .i64 ((lo:Int)+B+r)] 69)).drew:=
     ⟨aJ (aJ dn _) _,aJ (aJ bs _) _,aJ (aJ ds _) _,aJ (Qz _ H.heap.size 0 _ _ _ (Qy H _)) _,aJ (Qz _ H.heap.size 1 _ _ _ (Qy H _)) _⟩
    have cx:aq wr ((H.alloc (.cells #[.int .i64 lo,.int .i64 ((lo:Int)+B)] 69)).alloc (.cells #[.int .i64 ((lo:Int)+B),.int .i64 ((lo:Int)+B+r)] 69)).drew:=
     (((Q.o.alloc (by have:=Q.o.size;omega) _).alloc (by have:=Q.o.size;simp;omega) _)).drew
    have bI:=aa cx;clear cx;have g3:k<sz.length:=ap;have f5:IntKind.i64.wrap ((k:Int)+1)=(k:Int)+1:=QC _ ap;have f1:(0:Int)<=(k:Int)+1:=ap;have g0:((k:Int)+1).toNat=k+1:=ap;have f0:((lo:Int)+B).toNat=lo+B:=ap;have fi:(0:Int)<=(lo:Int)+B:=ap;have eY:(lo:Int)+B<=cp:=ap;have g7:(lo:Int)<=(lo:Int)+B:=ap;refine kK 23 (λC:R8=>C.cell? ⟨g5,k+1,none⟩=some (.int .i64 r)/\C.cell? ⟨g5,k,none⟩=some (.int .i64 c0)/\C.cell? ⟨I.heap.size,1,none⟩=some (.slice (some ⟨gp,0,none⟩) N cp)/\C.cell? ⟨H.heap.size,0,none⟩=some (.int .i64 lo)/\C.cell? ⟨H.heap.size,1,none⟩=some (.int .i64 ((lo:Int)+B))) (by kernel_rfl) ?_;refine wX 0 y ?_;refine wX 1 y ?_;refine wX 2 y ?_;refine wX 3 y ?_;refine wX 4 y ?_;refine wX 5 y ?_;refine wX 6 y ?_;refine wX 7 y ?_;refine wX 8 y ?_;refine wX 9 y ?_;refine wX 10 y ?_;refine wX 11 y ?_;refine wX 12 y ?_;refine wX 13 y ?_;refine wX 14 y ?_;refine wX 15 y ?_;refine wX 16 y ?_;refine wX 17 y ?_;simp only [QS,QT,QU,Act.put,QV,QX,QY];refine cJ (rs:=[18,22]) (by kernel_rfl) (by simp) ?_;refine aT.cons rfl (λK V=>?_) (aT.cons rfl (λK V=>?_) aT.nil)
    .simp only [QS,QT,QU];go_simp;refine (dr.o _ bI.o).mono ?_;rintro e w6 ⟨A6,d6,rfl,R,U,D⟩;have b1:=QF (aw D y.1) (QF (aw D y.2.1) (QF (aw D y.2.2.1) (QF (aw D y.2.2.2.1) (aw D y.2.2.2.2))));obtain ⟨aM,a4,aP⟩:=af R U D;clear R U D y;dsimp only;refine V.out _ _ b1 (λy=>?_);clear V K b1;refine wX 19 y ?_;refine wX 20 y ?_;simp only [QS,QT,QU,Act.put,QV,QX,QY];refine wX0 21 y ?_;simp only [QS,QT,QU,Act.put,QV,QX,QY];refine cJ (rs:=[22]) (by kernel_rfl) (by simp) ?_;refine aT.cons rfl (λK V=>?_) aT.nil;simp only [QS,QT,QU];go_simp;refine V.out _ _ ⟨aJ y.1 _,aJ y.2.1 _,aJ y.2.2.1 _,aJ y.2.2.2.1 _,aJ y.2.2.2.2 _⟩ (λy=>?_);clear V K y;refine fw (by rfl) (by kernel_rfl) ?_;simp only [Re,Rf];go_wp2_with fail;go_meet;have bA:=aP.o.size;simp at bA;refine ⟨w6.heap.size,A6,d6,rfl,Qy w6 _,aM.o,aF (a4.o.alloc _) (by first | omega | (simp;done) | (simp;omega)),(by first | omega | (simp;done) | (simp;omega)),?_⟩;exact (((QA _ _).drew).trans (aP.o.mono (by first | omega | (simp;done) | (simp;omega)))).alloc (by first | omega | (simp;done) | (simp;omega)) _
    .simp only [QS,QT,QU];go_simp;refine V.out _ _ ⟨aJ y.1 _,aJ y.2.1 _,aJ y.2.2.1 _,aJ y.2.2.2.1 _,aJ y.2.2.2.2 _⟩ (λy=>?_);clear V K;refine cJ (rs:=[18]) (by kernel_rfl) (by simp) ?_;refine aT.cons rfl (λK V=>?_) aT.nil;simp only [QS,QT,QU];go_simp;refine (dr.o _ (bI.o.alloc bI.o.size _)).mono ?_;rintro e w6 ⟨A6,d6,rfl,R,U,D⟩;have b1:=QF (aw D y.1) (QF (aw D y.2.1) (QF (aw D y.2.2.1) (QF (aw D y.2.2.2.1) (aw D y.2.2.2.2))));have b0:=(D.block _ (by simp)).trans (Qy _ _);simp only [QP,Ru] at b0;obtain ⟨⟨m0,m1,m2⟩,mf⟩:=bx3 b0;have fd:=Qw b0;obtain ⟨aM,a4,aP,df⟩:=ag R U D b0;clear R U D y b0;dsimp only;refine V.out _ _ b1 (λy=>?_);clear V K b1;refine wX 19 y ?_;refine wX 20 y ?_;simp only [QS,QT,QU,Act.put,QV,QX,QY];refine wX0 21 y ?_;simp only [QS,QT,QU,Act.put,QV,QX,QY];clear y;refine fw (by rfl) (by kernel_rfl) ?_;simp only [Re,Rf];go_wp2_with fail;go_meet;have bA:=aP.o.size;simp at bA;have k3:=sx (w:=w6) (b:=H.heap.size+1+1) (.int .i64 r) (.int .i64 c0) (.slice A6 B d6);have fs:=k3.size;refine ⟨H.heap.size+1+1,A6,d6,rfl,vO _ _ _ df.o,aM.o,aF (k3.own a4.o (λi hi e=>ay df.o (by decide) a4.o (by rw [hi,e]))) (by first | omega | (simp;done) | (simp;omega)),by first | omega | (simp;omega),?_⟩;exact ((((QA _ _).drew).alloc (by first | omega | (simp;done) | (simp;omega)) _).trans (aP.o.mono (by first | omega | (simp;done) | (simp;omega)))).trans (k3.toBelow (by first | omega | (simp;done) | (simp;omega)) (λi hi=>by first | omega | (simp;omega)))
   case rest=>
    obtain ⟨M,A6,d6,rfl,hM,R,U,f3,cc⟩:=hcut;have d3:aq H ((H.alloc (.cells #[.int .i64 lo,.int .i64 ((lo:Int)+B)] 69)).alloc (.cells #[.int .i64 ((lo:Int)+B),.int .i64 ((lo:Int)+B+r)] 69)):=((QA _ _).alloc (Qx _) _).alloc (by simp) _
    have bb:((H.alloc (.cells #[.int .i64 lo,.int .i64 ((lo:Int)+B)] 69)).alloc (.cells #[.int .i64 ((lo:Int)+B),.int .i64 ((lo:Int)+B+r)] 69)).heap[H.heap.size+1]?=some (.cells #[.int .i64 ((lo:Int)+B),.int .i64 ((lo:Int)+B+r)] 69 (0,0)):=by
     have:=Qy (H.alloc (.cells #[.int .i64 lo,.int .i64 ((lo:Int)+B)] 69)) (.cells #[.int .i64 ((lo:Int)+B),.int .i64 ((lo:Int)+B+r)] 69);simpa using this
    have bN:=(cc.block (H.heap.size+1) ap).trans bb;have cj:aq H wc:=d3.trans (cc.mono ap);have a8:=Q.o.trans (cj.mono Q.o.size);have cd:=(a8.block _ (Qw ab.o)).trans ab.o;have b8:=az bO.o a8;have b9:=az a9.o a8;have bh:=az b6.o a8;obtain ⟨⟨n0,n1,n2,n3⟩,nf⟩:=bx4 cd;obtain ⟨⟨m0,m1,m2⟩,mf⟩:=bx3 hM;obtain ⟨⟨t0,t1⟩,tf⟩:=bx2 bN;obtain ⟨cI,co,dc,Y,dv,cO,eL,a4⟩:=ak bN a8 cd b8 b9 bh hM U;have aM:=aa R;clear a8 cd b8 b9 bh hM U R cj d3 bb bN cc ds bs dn;have fe:I.heap.size<wc.heap.size:=Qw dc.o;go_wp2_with fail;have y:(λC:R8=>C.cell? ⟨I.heap.size,3,none⟩=some (.slice Al k cl)/\C.cell? ⟨M,0,none⟩=some (.int .i64 r)/\C.cell? ⟨M,1,none⟩=some (.int .i64 c0)/\C.cell? ⟨M,2,none⟩=some (.slice A6 B d6)/\C.cell? ⟨I.heap.size,1,none⟩=some (.slice (some ⟨gp,0,none⟩) N cp)/\C.cell? ⟨H.heap.size+1,0,none⟩=some (.int .i64 ((lo:Int)+B))/\C.cell? ⟨H.heap.size+1,1,none⟩=some (.int .i64 ((lo:Int)+B+r))) wc.drew:=⟨n3,m0,m1,m2,n1,t0,t1⟩;have g2:¬(cp=lo+B):=ap;have fr:(lo:Int)+B+r<=cp:=ap;have f6:(lo:Int)+B<=(lo:Int)+B+r:=ap;have f7:((lo:Int)+B+r).toNat=lo+B+r:=ap;have ga:((lo:Int)+B).toNat=lo+B:=ap;have gc:(0:Int)<=(lo:Int)+B:=ap;have g4:(0:Int)<=(lo:Int)+B+r:=ap;refine XA.g 18 (λC:R8=>C.cell? ⟨I.heap.size,3,none⟩=some (.slice Al k cl)/\C.cell? ⟨M,0,none⟩=some (.int .i64 r)/\C.cell? ⟨M,1,none⟩=some (.int .i64 c0)/\C.cell? ⟨M,2,none⟩=some (.slice A6 B d6)/\C.cell? ⟨I.heap.size,1,none⟩=some (.slice (some ⟨gp,0,none⟩) N cp)/\C.cell? ⟨H.heap.size+1,0,none⟩=some (.int .i64 ((lo:Int)+B))/\C.cell? ⟨H.heap.size+1,1,none⟩=some (.int .i64 ((lo:Int)+B+r))) ?_;refine XA.t ?_ [0,1,2,3,4,5,6,7,8,9,10,11,12,13,14,15] y ?_;refine XA.o 16 (λK V=>?_);go_simp;refine V.out _ _ ⟨aJ y.1 _,aJ y.2.1 _,aJ y.2.2.1 _,aJ y.2.2.2.1 _,aJ y.2.2.2.2.1 _,aJ y.2.2.2.2.2.1 _,aJ y.2.2.2.2.2.2 _⟩ (λy=>?_);clear V K;refine XA.o 17 (λK V=>?_);refine bW LY (.tmp 77) (.tmp 89) rfl rfl I.heap.size (.slice Al k cl) k (List.flatten rows) rfl (bZ (Y.o.alloc _) 1) (some ⟨wc.heap.size,0,none⟩) 1 1 [.int .i64 r,.int .i64 c0,.slice A6 B d6,.slice (some ⟨gp,lo+B,none⟩) r (cp-(lo+B))] rfl (dV wc _ _ _ rfl) rfl (by simp [Value.oneCell']) ap (by unfold maxLen;omega) (by simp;omega) ?_;intro A7 c7 w7 cY dG a3 ev;have a3:=rv a3;have aR:=eh (o:=.cells #[.int .i64 r,.int .i64 c0,.slice A6 B d6,.slice (some ⟨gp,lo+B,none⟩) r (cp-(lo+B))] 348 (0,0)) dc.o (by decide) Y.o a3;have i0:=Qz w7 _ 3 _ _ _ aR;have i1:=Qz w7 _ 1 _ _ _ aR;have i3:=QG w7 _ 3 _ _ aR;have b4:=eh (o:=.cells #[.int .i64 r,.int .i64 c0,.slice A6 B d6,.slice (some ⟨gp,lo+B,none⟩) r (cp-(lo+B))] 348 (0,0)) eL.o (by decide) Y.o a3;have bG:=eh (o:=.cells #[.int .i64 r,.int .i64 c0,.slice A6 B d6,.slice (some ⟨gp,lo+B,none⟩) r (cp-(lo+B))] 348 (0,0)) cI.o (by decide) Y.o a3;have i4:=Qz w7 _ 0 _ _ _ b4;have i5:=Qz w7 _ 1 _ _ _ b4;have i6:=Qz w7 _ 2 _ _ _ b4;have i7:=Qz w7 _ 0 _ _ _ bG;have i8:=Qz w7 _ 1 _ _ _ bG;obtain ⟨d2,bM,e9,ee⟩:=ag cY aR a3 dG;clear cY aR a3 ev dG b4 bG;dsimp only;refine V.out _ _ ⟨i0,i4,i5,i6,i1,i7,i8⟩ (λy=>?_);clear V K y;refine XA.e ?_;simp only [Re,Rf];go_wp2_with fail;have eo:=RG w7 I.heap.size 3 _ _ (.slice A7 (k+1) c7) bM.o;have er:Keep (λi=>i=I.heap.size) w7 (w7.setCell ⟨I.heap.size,3,none⟩ (.slice A7 (k+1) c7)):=Keep.setCell (S:=λi=>i=I.heap.size) (Keep.refl _ _) ⟨I.heap.size,3,none⟩ (.inr rfl) _;have e7:=er.own d2.o (λi hi e=>ay bM.o (by decide) d2.o (by rw [hi,e]))
    have eu:aq I (w7.setCell ⟨I.heap.size,3,none⟩ (.slice A7 (k+1) c7)):=
     (((HW.o.trans (co.o.mono HW.o.size)).alloc ap _).drew.trans ee.o).setCell (by simp) _
    have O:∀{b':Nat} {u:Value} {m:Nat} {ys:R7} {e':R9},wc.ownsRow b' e' 1 u m ys->348≠e'->342≠e'->(w7.setCell ⟨I.heap.size,3,none⟩ (.slice A7 (k+1) c7)).ownsRow b' e' 1 u m ys:=λh h1 h2=>AG h Y.o e9.o bM.o h1 h2;go_roundw
    case rel=>
     refine ⟨k+1,by omega,by go_num,A7,c7,rows++[[.int .i64 r,.int .i64 c0,.slice A6 B d6,.slice (some ⟨gp,lo+B,none⟩) r (cp-(lo+B))]],?_,?_,by simp [aG.o],?_,?_,?_,O cO.o (by decide) (by decide),eu⟩
     .rw [HN.o];exact eo
     .rw [Rs,List.flatten_cons,List.flatten_nil,List.append_nil];exact e7
     .intro x hx;rcases Rw.1 hx with hx | hx
      .exact bo.o x hx
      .rw [List.mem_singleton.1 hx];rfl
     .rw [HN.o];exact O dv.o (by decide) (by decide)
     .intro j hj;rcases QO j k with bz | bz
      .obtain ⟨g9,d9,bw,bl,c8⟩:=ao.o j bz;refine ⟨g9,d9,?_,bl,O (az c8 co.o) (by decide) (by decide)⟩;rw [<-bw];simp [cF,Rk (show j<rows.length by rw [aG.o];exact bz)]
      .obtain rfl:j=k:=ap;obtain ⟨g9,d9,dw,g8,_⟩:=a4.o.form ap;simp only [Rv] at dw;obtain ⟨rfl,_,rfl⟩:=dw;have e1:=Hr.o;have e2:=es.o;have e3:=en.o;have e4:=e6.o;refine ⟨g9,d6,?_,?_,?_⟩
       .have e5:dM sz j=lo+B:=by unfold dM;rw [e1,e2,e3,e4]
        rw [e5,e1,e2,e4];have:=aG.o;simp [cF,<-this]
       .rw [e1,e2,e4];exact aM.o
       .rw [e1,e2,e4];exact aF (O a4.o (by decide) (by decide)) (by have:=Hb.o.size;omega)
    case measure=>simp [intOf];omega
  .obtain rfl:k=n:=ap
   have dT:mG 199 342 wr I.heap.size sz ps q:=by
    refine ⟨S,some ⟨gp,0,none⟩,cp,Al,cl,rows,?_,HS.o.below ad.o,Rd.own a9.o,Rd.own bO.o,?_,bo.o,?_⟩
    .rw [HN.o,Hn.o];exact ab.o
    .rw [Hn.o];exact aG.o
    .intro j hj;rw [Hn.o] at hj;obtain ⟨g9,d9,bw,bl,c8⟩:=ao.o j hj;have hR:=HG.o.1;have b5:j+1<sz.length:=by have:=Hn.o;have:=hR.1;omega
     have a0:=QD (gr sz (show j+1<=k by omega)) (Nat.le_of_eq Hl.o.symm);have L:=fR sz j;have a7:bL sz ps j=(ps.drop (dM sz j)).take (szN sz (j+1)):=(fS (by rw [Rn,Rq];have:=HN.o;omega) λi hi=>by rw [eJ hi,eK]).symm;refine ⟨g9,0,d9,some ⟨gp,dM sz j,none⟩,cp-dM sz j,bw,bl,Rd.own c8,?_⟩;have:=((Rd.own a9.o).drop (dM sz j)).take (szN sz (j+1))
     rwa [RB,dL,dE,<-a7] at this
   have d8:Px wr w.heap.size I.heap.size ps:=by unfold Px;rw [HN.o];exact ⟨_,_,_,_,_,ab.o,a9.o,Hb.o.size⟩
   have cA:vV wr w.heap.size I.heap.size S sz ps q:=by
    unfold vV;rw [HN.o,Hn.o];exact ⟨gp,cp,Al,cl,rows,ab.o,Hb.o.size,a9.o,aF bO.o Hb.o.size,aG.o,bo.o,ao.o⟩
   obtain ⟨ej,ef,eG⟩:=af dT d8 cA;clear dT d8 cA;go_wp2_with fail;go_ret2;exact ⟨_,rfl,ej.o,ef.o,eG.o,ad.o⟩
theorem iF {S:Nat->Prop} {w i:R8} (hk:Keep S w i):Ext (aH S w) i:=λk hl=>by
 rw [pC] at hl;by_cases h:S k
 .exact .inl (za h hl)
 .exact .inr (by rw [jo h];exact hk.block k hl h)
def dt (i:Inp) (P G:Q_) (l:R_):Q_:=l.foldl (λa x=>eU a (fX i.cfg.sizes P i.cfg.shift x.1 x.2)) G
theorem Bt (i:Inp) (P G:Q_) (l:R_) (x:Ex):dt i P G (l++[x])=eU (dt i P G l) (fX i.cfg.sizes P i.cfg.shift x.1 x.2):=by simp [dt]
def pL (i:Inp) (x st a:Nat):Q_:=iV (de i.draws i.data.length i.cfg.batch.toNat st) i.cfg.workers.toNat x i.cfg.micros.toNat a
theorem uI {i:Inp} {l:Q_} (h:jJ i l) (k j:Nat):jJ i (cQ l k j):=λn hn=>by
 have h1:(cQ l k j).length<=l.length-bdN l.length k j:=by simp only [cQ,Rn,Rq];omega
 have o:(cQ l k j).length<=bdN l.length k (j+1)-bdN l.length k j:=by simp only [cQ,Rn];omega
 unfold cQ;rw [eJ ap,eK];exact h _ ap
theorem Bd {i:Inp} (hg:nk i) (x st a:Nat):jJ i (pL i x st a):=uI (uI (DX hg st) _ _) _ _
theorem GD {i:Inp} (hg:nk i) {l:Q_} (h:jJ i l) {k:Nat} {e:Ex} (he:(cN i.data l)[k]?=some e):fJ (inN i) (yO i) e:=by
 have hk:=(Ri.1 he).1;rw [pq] at hk;rw [AD _ _ hk] at he;have o:=h k hk;unfold ks at o;simp only [Option.some.injEq] at he;subst he;have hl:(nth l k).toNat<i.data.length:=ap;simp only [List.getD,Rj hl,Option.getD_some];exact hg.f _ (List.getElem_mem hl)
theorem In {H:Nat->Prop} {w:R8} {b x:Nat} {i:Inp} {a:MAd} {m:Mst} (h:aU H w b i x a m) (hs:bD i) (y:Itm) (u v:Value) (hu:u.oneCell'=true) (hv:v.oneCell'=true) (b8:y.st<i.cfg.steps.toNat) (hn:y.n<i.cfg.micros.toNat):Calls prog 212 #[(au b),.agg (bC y).toArray,.agg #[u,v]] w λe p=>e=.returned (RI 0)/\Keep (λk=>k=a.bg) w p/\
   p.ownsRow 0 2 1 (.slice (some (ar a.bg 0)) i.start.length a.cg) i.start.length (aA .i64 (dt i m.P m.G (cN i.data (pL i x y.st y.n)))):=by
 have hg:=hs.g;have hc:=hg.c;have a5:bS i.cfg.sizes (i.cfg.sizes.length-1)=i.start.length:=hg.s.symm;have Y:=hc.z.bound (k:=i.cfg.sizes.length-1) (by have:=hc.z.1.1;omega);have hq:0<=i.cfg.shift/\i.cfg.shift<=62:=⟨by have:=hc.s;omega,by have:=hc.s;omega⟩;have cj:b≠a.bg:=λe=>ay h.blk (by decide) h.oG (by rw [e];rfl);have bv:=Qw h.blk;have a9:=(h.oG.lt a.bg rfl).2;have R:=λp (q:Keep (λk=>k=a.bg) w p)=>(q.block b bv cj).trans h.blk;have hx:=λp (q:Keep (λk=>k=a.bg) w p)=>iF (S:=ib H b a) (q.mono (λk _ e=>.inl (.inr (.inr (.inr (.inl e))))));have av:=h.wP.1;have a6:m.P.length=bS i.cfg.sizes (i.cfg.sizes.length-1):=av.trans a5.symm;have a2:=λp (q:Keep (λk=>k=a.bg) w p)=>AS a.F i.cfg.sizes m.P (some (ar a.bp 0)) a.cp i.cfg.shift p (fM h.sh (hx p q)) hc.z hq a6 (Rd.own (q.own h.oP (λj hj e=>h.dj.2.1 (by cases hj;exact e))));rw [av] at a2;have eW:((i.cfg.workers.toNat:Nat):Int)=i.cfg.workers:=by have:=hc.w;omega
 have eM:((i.cfg.micros.toNat:Nat):Int)=i.cfg.micros:=by have:=hc.mi;omega
 have D:=λp (q:Keep (λk=>k=a.bg) w p)=>Ik a.S i.data.length i.cfg.batch.toNat i.cfg.steps.toNat y.st i.cfg.workers.toNat x i.cfg.micros.toNat y.n i.draws p (iD h.sa (hx p q)) (by have:=hc.ba;have:=hc.w;omega) (by have:=hg.b.1;omega) hg.b.2 (by have:=hc.st;omega) b8 (by have:=hc.w;omega) (by have:=hc.ba;omega) h.xw (by have:=hc.mi;omega) (by have:=hc.mi;omega) hn;rw [eW,eM] at D;have A:=Bd hg x y.st y.n;obtain ⟨C,I⟩:∃C,pL i x y.st y.n=C:=⟨_,rfl⟩;rw [I] at A;have O:iV (de i.draws i.data.length i.cfg.batch.toNat y.st) i.cfg.workers.toNat x i.cfg.micros.toNat y.n=C:=I;rw [O] at D;rw [I]
 have a1:C.length<=1048576:=by
  rw [<-I];have h0:=iY i.draws (n:=i.data.length) (b:=i.cfg.batch.toNat) (t:=y.st) (Nat.div_pos (by have:=hg.b.1;omega) (by have:=hc.ba;have:=hc.w;omega));have h1:∀(l:Q_) (k j:Nat),(cQ l k j).length<=l.length:=λl k j=>by simp only [cQ,Rn,Rq];omega
  have h2:=h1 (cQ (de i.draws i.data.length i.cfg.batch.toNat y.st) i.cfg.workers.toNat x) i.cfg.micros.toNat y.n;have h3:=h1 (de i.draws i.data.length i.cfg.batch.toNat y.st) i.cfg.workers.toNat x;have:=hc.ba;unfold pL iV;omega
 have Z:=λp (q:Keep (λk=>k=a.bg) w p) B d (hB:Rd p B (aA .i64 C))=>Kx a.ce d a.E B i.data C p (fj cW h.ex (hx p q)) hg.b.2 hB a1;have Q:=λ(k:Nat) (e:Ex) (he:(cN i.data C)[k]?=some e)=>GD hg A he;have V:=pq i.data C;obtain ⟨pl,N⟩:∃pl,cN i.data C=pl:=⟨_,rfl⟩;rw [N] at V Q;simp only [N] at Z |-;have a0:=λaR A1 A2 (e:Ex) c1 c2 p (hN:mG 199 342 p aR i.cfg.sizes m.P i.cfg.shift) (r1:cU p A1 e.1 c1) (r2:cU p A2 e.2 c2) (hf:fJ (inN i) (yO i) e)=>NN aR i.cfg.sizes m.P i.cfg.shift A1 A2 e.1 e.2 c1 c2 p hN hc.z h.wP.2 r1.hr hf.1 r1.hw r2.hr hf.2;have U:=λ(e:Ex) (hf:fJ (inN i) (yO i) e)=>xX (sz:=i.cfg.sizes) (ps:=m.P) (q:=i.cfg.shift) (x:=e.1) (y:=e.2) hf.1 (by have:=hc.z.1.1;omega);rw [a5] at a0 U Y;have a4:=λp (q:Keep (λk=>k=a.bg) w p)=>fM h.sh (hx p q);obtain ⟨K,hK⟩:∃K,C.length=K:=⟨_,rfl⟩;rw [hK] at D a1 Z V;unfold jJ at A;rw [hK] at A;have t0:∀p,Keep (λk=>k=a.bg) w p->p.cell? (ar b 0)=some (RI (x:Nat)):=λp q=>Qz p b 0 _ _ _ (R p q);have t1:∀p,Keep (λk=>k=a.bg) w p->p.cell? (ar b 1)=some (RI i.cfg.workers):=λp q=>Qz p b 1 _ _ _ (R p q);have t2:∀p,Keep (λk=>k=a.bg) w p->p.cell? (ar b 2)=some (RI i.cfg.micros):=λp q=>Qz p b 2 _ _ _ (R p q);have t3:∀p,Keep (λk=>k=a.bg) w p->p.cell? (ar b 3)=some ((au a.F)):=λp q=>Qz p b 3 _ _ _ (R p q);have t4:∀p,Keep (λk=>k=a.bg) w p->p.cell? (ar b 4)=some (.slice a.E i.data.length a.ce):=λp q=>Qz p b 4 _ _ _ (R p q);have t5:∀p,Keep (λk=>k=a.bg) w p->p.cell? (ar b 5)=some ((au a.S)):=λp q=>Qz p b 5 _ _ _ (R p q);have c6:∀p,Keep (λk=>k=a.bg) w p->p.cell? (ar b 10)=some (RI i.cfg.shift):=λp q=>Qz p b 10 _ _ _ (R p q);have b6:∀p,Keep (λk=>k=a.bg) w p->p.cell? (ar b 11)=some (.slice (some (ar a.bp 0)) i.start.length a.cp):=λp q=>Qz p b 11 _ _ _ (R p q);have bG:∀p,Keep (λk=>k=a.bg) w p->p.cell? (ar b 13)=some (.slice (some (ar a.bg 0)) i.start.length a.cg):=λp q=>Qz p b 13 _ _ _ (R p q);have tl:=λp (q:Keep (λk=>k=a.bg) w p)=>QE bv q.size;obtain ⟨n,be⟩:∃n,i.start.length=n:=⟨_,rfl⟩;have oG:=h.oG;rw [be] at a2 a0 U Y b6 bG oG |-;obtain ⟨W0,W1,bi,bh,g0,g1,aG, -⟩:=gM w (bC y).toArray #[u,v] 135 324;have q1:Keep (λk=>k=a.bg) w W1:=Keep.below aG;have s1:∀p,aq W1 p->p.cell? (ar w.heap.size 1)=some (RI (y.st:Nat)):=λp q=>Qz p w.heap.size 1 _ _ _ (sb g0 p q);have s2:∀p,aq W1 p->p.cell? (ar w.heap.size 2)=some (RI (y.n:Nat)):=λp q=>Qz p w.heap.size 2 _ _ _ (sb g0 p q);have cw:=sl g0;obtain ⟨K1,cr,cn,bw,b5,cl,bf,bM⟩:=ak aG bi bh a2 D Z Q a0;obtain ⟨bA,HG,c9,OG,Hz,cb,a7,cO⟩:=ak U A a4 oG hc.z a6 V R;obtain ⟨bO,ci⟩:=ae Y a1;clear bi bh g0 g1 aG R hx av a6 a2 D Z Q a0 U A a4 oG V Y a1 eW eM I O N hK be hc a5 hq b8 hn h hg hs;go_enter func212,ntmps212;go_wp2_with fail;rw [cr.o,cn.o];have b1:=(br W1).drew;refine HA.g (λp:R8=>Keep (λk=>k=a.bg) w p/\aq W1 p) ?_;refine HA.t ?_ [0,1,2,3,4,5,6,7,8,9,10,11,12,13,14,15] ⟨q1.drew,b1⟩ ?_;refine HA.c 16 (bw.o _ q1.drew) ?_;rintro e w2 ⟨nb,rfl, -, -,bo,k2⟩;have q2:=q1.drew.trans (Keep.below (S:=λk=>k=a.bg) k2);have b2:=b1.trans (k2.mono b1.size);refine ⟨_,rfl,⟨q2,b2⟩,λ_=>?_⟩;refine HA.t ?_ [17,18,19,20,21] ⟨q2,b2⟩ ?_;refine HA.d ?_;have NO:=aa bo;have bz:a.bg<w2.heap.size:=QE a9 q2.size;have a8:w.heap.size<=W1.drew.heap.size:=q1.drew.size;clear bo k2 q1 b1;go_wp2_with fail;refine HA.g (λp:R8=>Keep (λk=>k=a.bg) w p/\aq W1 p) ?_;refine HA.t ?_ [0,1,2,3,4,5,6,7,8,9,10,11,12,13,14,15,16,17,18,19,20,21,22,23,24,25,26,27,28] ⟨q2.drew,b2.drew⟩ ?_;refine HA.c 29 (b5.o _ q2.drew) ?_;rintro e w3 ⟨B,d,rfl,hd,rB,k3⟩;have q3:=q2.drew.trans (Keep.below (S:=λk=>k=a.bg) k3);have b3:=b2.drew.trans (k3.mono b2.drew.size);have ad:aq w2 w3:=(br w2).drew.trans k3;refine ⟨_,rfl,⟨q3,b3⟩,λ_=>?_⟩;refine HA.c 30 (cl.o w3 q3 B d rB) ?_;rintro e w4 ⟨k4,bl⟩;rcases bl with ⟨-,A',c',rfl,b0⟩ | ⟨bN, -⟩
 rotate_left
 .exact absurd HG.o bN
 have q4:=q3.trans (Keep.below (S:=λk=>k=a.bg) k4);have b4:=b3.trans (k4.mono b3.size);refine ⟨_,rfl,⟨q4,b4⟩,λ_=>?_⟩;refine HA.t ?_ [31,32,33,34,35] ⟨q4,b4⟩ ?_;refine HA.d ?_;obtain ⟨c8,M4,Q4,bI⟩:=ag ((NO.o.below ad).below k4) b0 q4 (az OG.o (K1.o.trans (b4.mono K1.o.size)));have c7:a.bg<w3.heap.size:=QE bz ad.size;have cv:a.bg<W1.drew.heap.size:=QE a9 a8;clear q2 q3 q4 b2 b3 b4 ad k3 k4 b0 rB hd s1 s2 cw t0 t1 t2 t3 t4 t5 c6 b6;go_wp2_with fail
 go_loopw [71] (λz wr=>∃k:Nat,k<=K/\z=RI k/\wr.ownsRow 0 2 1 (.slice (some (ar a.bg 0)) n a.cg) n (aA .i64 (dt i m.P m.G (pl.take k)))/\Keep (λk=>k=a.bg) w4 wr) (λz _=>K-(intOf z).toNat)
 .exact ⟨0,QB _,rfl,bI.o,Keep.refl _ _⟩
 case round=>
  obtain ⟨k,hk,rfl,og,qk⟩:=hrel;have qw:=Q4.o.trans qk;by_cases cI:k<K
  .have bV:(k:Int)<K:=ap;have cL:¬(k:Int)<0:=ap;have cA:IntKind.i64.wrap ((k:Int)+1)=((k+1:Nat):Int):=by have:=ci.o;rw [QC _ ap];push_cast;rfl
   obtain ⟨e,he⟩:∃e,pl[k]?=some e:=⟨_,Rj (by have:=a7.o;omega)⟩;have hf:=bf.o k e he;have b9:=(M4.o.keep qk (λj hj=>by rw [hj];exact c7)).rd a7.o;obtain ⟨eb,eo,A1,c1,A2,c2,rfl,cM,p1,p2,r1,r2⟩:=iG b9 he;have bX:=(br wr).alloc (Qx _) (.cells #[.slice A1 e.1.length c1,.slice A2 e.2.length c2] 145);have a3:=((c8.o.keep qk (λj hj=>by rw [hj];exact cv)).at (c9.o wr qw) Hz.o cb.o).below bX;have L:=bM.o nb A1 A2 e c1 c2 _ a3 (r1.below bX) (r2.below bX) hf;have ao:=bA.o e hf;have bn:pl.take (k+1)=pl.take k++[e]:=by rw [List.take_add_one,he];rfl
   obtain ⟨gv,J⟩:∃gv,fX i.cfg.sizes m.P i.cfg.shift e.1 e.2=gv:=⟨_,rfl⟩;obtain ⟨n1,aM⟩:∃n1,e.1.length=n1:=⟨_,rfl⟩;obtain ⟨n2,bs⟩:∃n2,e.2.length=n2:=⟨_,rfl⟩;rw [J] at ao L;rw [aM] at bX L p1;rw [bs] at bX L p2;obtain ⟨cd,BX,ab,co,cf,bb,QK,QW⟩:=ak L bX og ao bn J qk qw;clear L bX og ao bn J qk a3 b9 r1 r2 hf he aM bs;go_wp2_with fail;refine cd.o.mono ?_;rintro e' w6 ⟨A3,c3,rfl,o3,k6⟩;have T:=BX.o.trans (k6.mono BX.o.size);have q6:=QW.o.trans (Keep.below (S:=λk=>k=a.bg) T);have cx:a.bg<wr.heap.size:=QE a9 QW.o.size
   have b7:=zq 0 (some (ar a.bg 0)) A3 (dt i m.P m.G (pl.take k)) gv n a.cg c3 w6 (az ab.o T) (Rd.own o3) co.o (by have:=bO.o;omega) (λz1 z2 e1 e2=>by
    cases e1
    have:=(o3.lt z2.block (by rw [e2];rfl)).1;have h2:=BX.o.size;dsimp only
    omega)
   obtain ⟨cc,cs⟩:=ae b7 T;clear b7 T o3 k6 p1 p2 qw;go_wp2_with fail;refine cc.o.mono ?_;rintro cy w7 ⟨rfl,o7,k7⟩;have aP:Keep (λk=>k=a.bg) w4 w7:=(QK.o.trans (Keep.below cs.o)).trans (k7.mono λj _ hj=>by cases hj;rfl);rw [<-bb.o,<-Bt,<-cf.o] at o7;obtain ⟨O7,K7⟩:=ae o7 aP;clear o7 k7 aP q6;go_wp2_with fail;go_roundw
   .exact ⟨k+1,by omega,by go_num,O7.o,K7.o⟩
   .simp [intOf];omega
  .obtain rfl:k=K:=ap;have bV:¬(k:Int)<k:=ap;rw [List.take_of_length_le (by have:=a7.o;omega)] at og;obtain ⟨ab,QW⟩:=ae og qw;clear og qk qw;go_wp2_with fail;go_ret;exact ⟨rfl,QW.o,ab.o⟩
theorem aO {w h:R8} {o:Obj} (k:Keep (λj=>j=w.heap.size) (w.alloc o) h):aq w h:= ((br w).alloc (Qx _) o).trans (k.toBelow (by rw [QP];omega) (λj i=>ap))
theorem JT:dg prog 322 13:=⟨⟨_,underlying322,rfl⟩,by kernel_rfl⟩
theorem JU:dg prog 319 7:=⟨⟨_,underlying319,rfl⟩,by kernel_rfl⟩
theorem uY (w:R8):Calls prog 209 #[] w λe p=>e=.returned (.agg RK)/\aq w p:=by
 go_enter func209,ntmps209;go_wp2_with (refine aI (Qy _ _) JU rfl rfl rfl rfl rfl rfl rfl ?_;intro x i h;obtain ⟨u,v⟩:=ae i (aO h);clear i h);exact QM (Ai rfl rfl u.o JU) rfl ⟨rfl,v.o⟩
def adv (i:Inp) (x:Nat) (m:Mst):Mst:=if m.nx+1<(cz i x m.st).length then {m with nx:=m.nx+1} else {m with st:=m.st+1,nx:=0}
theorem aU.upd {H:Nat->Prop} {w p:R8} {b x:Nat} {i:Inp} {a:MAd} {m:Mst} (h:aU H w b i x a m) (hn:∀k,Mut b a k->¬H k) (hk:Keep (λk=>k=b) w p) (st nx:Nat) (IA:N_) (ic:Nat) (hb:p.heap[b]?=some (.cells #[RI (x:Nat),RI i.cfg.workers,RI i.cfg.micros,.pointer (some ⟨({a with IA:=IA,ic:=ic}:MAd).F,0,none⟩),.slice ({a with IA:=IA,ic:=ic}:MAd).E i.data.length ({a with IA:=IA,ic:=ic}:MAd).ce,.pointer (some ⟨({a with IA:=IA,ic:=ic}:MAd).S,0,none⟩),.pointer (some ⟨({a with IA:=IA,ic:=ic}:MAd).PP,0,none⟩),.slice ({a with IA:=IA,ic:=ic}:MAd).BA (ax i).buks.length ({a with IA:=IA,ic:=ic}:MAd).bc,RI i.cfg.rate,RI i.cfg.mom,RI i.cfg.shift,.slice (some ⟨({a with IA:=IA,ic:=ic}:MAd).bp,0,none⟩) i.start.length ({a with IA:=IA,ic:=ic}:MAd).cp,.slice (some ⟨({a with IA:=IA,ic:=ic}:MAd).bm,0,none⟩) i.start.length ({a with IA:=IA,ic:=ic}:MAd).cm,.slice (some ⟨({a with IA:=IA,ic:=ic}:MAd).bg,0,none⟩) i.start.length ({a with IA:=IA,ic:=ic}:MAd).cg,.slice (some ⟨({a with IA:=IA,ic:=ic}:MAd).rb,0,none⟩) ({m with st:=st,nx:=nx}:Mst).rc.length ({a with IA:=IA,ic:=ic}:MAd).rc,.slice ({a with IA:=IA,ic:=ic}:MAd).IA (cz i x ({m with st:=st,nx:=nx}:Mst).st).length ({a with IA:=IA,ic:=ic}:MAd).ic,RI (({m with st:=st,nx:=nx}:Mst).nx:Nat),RI (bF i x {m with st:=st,nx:=nx}:Nat),({a with IA:=IA,ic:=ic}:MAd).ov] 169 (0,0))) (hit:Rd (aH (ib H b a) p) IA (cD (cz i x st))) (ox:nx<(cz i x st).length\/(nx=0/\i.cfg.steps.toNat<=st)):aU H p b i x {a with IA:=IA,ic:=ic} {m with st:=st,nx:=nx}:=by
 have he:Ext (aH (ib H b a) w) (aH (ib H b a) p):=bP (hk.mono λk _ e=>.inl (.inl e)) (λk _ L=>L);have o:∀{v:Value} {e size n xs},e≠169->w.ownsRow 0 e size v n xs->p.ownsRow 0 e size v n xs:=λy o=>hk.own o (λj N e=>ay h.blk (Ne.symm y) o (by rw [N,e]));obtain ⟨D,a1,J,Q,R,u,C⟩:=h.pl;obtain ⟨rows,O,A,I,B⟩:=h.re
 exact ⟨hb,fM h.sh he,fj cW h.ex he,iD h.sa he,⟨D,a1,J,Q,R,u,iE C he⟩,aW h.bu he,hit,⟨rows,o (by decide) O,A,I,λj x T=>cW (B j x T) he⟩,
  o (by decide) h.oP,o (by decide) h.oM,o (by decide) h.oG,o (by decide) h.oO,h.dj,λk _ hm=>hn k hm,h.wP,h.wM,h.wG,ox,h.xw⟩
theorem tK {i:Inp} (hs:bD i) {x st nx:Nat} (h:nx<(cz i x st).length):st<i.cfg.steps.toNat/\(cz i x st).length=(aE (ax i) x 0).length:=by
 unfold cz at h |-;by_cases hc:st<i.cfg.steps.toNat
 .rw [if_pos hc];exact ⟨hc,kp hs.ok x st⟩
 .rw [if_neg hc] at h;simp at h
theorem vF (i:Inp) (x:Nat) (m:Mst):bF i x {m with st:=m.st,nx:=m.nx+1}=bF i x m+1:=rfl
theorem vE {i:Inp} (hs:bD i) {x:Nat} {m:Mst} (h:m.nx+1=(cz i x m.st).length):bF i x {m with st:=m.st+1,nx:=0}=bF i x m+1:=by
 have:=(tK hs (x:=x) (st:=m.st) (nx:=m.nx) ap).2;simp only [bF,Ry];omega
theorem Iu {p:Pln} {x st:Nat} {y:Itm} (h:y∈aE p x st):y.st=st:=by
 unfold aE at h;simp only [Rw,List.mem_map,List.mem_flatMap,List.mem_singleton] at h;rcases h with (⟨_,_,rfl⟩ | ⟨g,_,h⟩) | rfl
 .rfl
 .unfold dx at h;simp only [Rw,List.mem_map,List.mem_flatMap] at h;rcases h with (⟨_,_,rfl⟩ | ⟨_,_,_,_,_,_,h⟩) | ⟨_,_,rfl⟩
  .rfl
  .unfold cq at h;obtain ⟨_,_,rfl⟩:=List.mem_map.1 h;rfl
  .rfl
 .rfl
theorem zg {i:Inp} {x st nx:Nat} {y:Itm} (h:(cz i x st)[nx]?=some y):y.st=st:=by
 unfold cz at h;by_cases hc:st<i.cfg.steps.toNat
 .rw [if_pos hc] at h;exact Iu (List.mem_of_getElem? h)
 .rw [if_neg hc] at h;simp at h
theorem Mb {i:Inp} (hs:bD i) {x:Nat} {m:Mst} (h:m.nx<(cz i x m.st).length):bF i x m+1<=48000000:=by
 obtain ⟨h1,v⟩:=tK hs h;have o:=mj hs.ok x 0;have p:m.st<=5:=by have:=hs.s;omega
 have A:=Nat.mul_le_mul p o;have u:m.st*(aE (ax i) x 0).length+(aE (ax i) x 0).length=(m.st+1)*(aE (ax i) x 0).length:=(Ry _ _).symm;have y:=Nat.mul_le_mul (show m.st+1<=6 by omega) o;simp only [bF];omega
theorem aU.mlt {H:Nat->Prop} {w:R8} {b x:Nat} {i:Inp} {a:MAd} {m:Mst} (h:aU H w b i x a m):∀k,Mut b a k->k<w.heap.size:=by
 rintro k (rfl | rfl | rfl | rfl | rfl | hk)
 .exact Qw h.blk
 .exact (h.oP.lt _ rfl).2
 .exact (h.oM.lt _ rfl).2
 .exact (h.oG.lt _ rfl).2
 .obtain ⟨rows,o,_⟩:=h.re;exact (o.lt _ rfl).2
 .exact (h.oO.lt _ hk).2
theorem Gw {w:R8} {P x:Nat} {i:Inp} {u a1 B D H h:Value} (hP:ft w P (ax i) u a1 B D H (RI (i.cfg.steps.toNat:Nat)) h) (hs:bD i) (I:x<(ax i).W) (st:Nat):Calls prog 74 #[(au P),RI x,RI (st:Nat)] w λe p=>∃A c,e=.returned (.slice A (cz i x st).length c)/\Rd p A (cD (cz i x st))/\(∀y,A=some y->w.heap.size<=y.block)/\aq w p:=by
 unfold cz;by_cases hc:st<i.cfg.steps.toNat
 .rw [if_pos hc];refine (xt (ax i) P x st i.cfg.steps.toNat u a1 B D H h w hs.ok hs.n1 I hc hP).mono ?_;rintro e p ⟨v,rfl,o,k⟩;obtain ⟨A,c,rfl,_⟩:=aD o;exact ⟨A,c,rfl,Rd.own o,λy C=>(gP o y C).1,k⟩
 .rw [if_neg hc];refine (xr (ax i) P x st i.cfg.steps.toNat u a1 B D H h w I ap hP).mono ?_;rintro e p ⟨rfl,rfl⟩;exact ⟨none,0,rfl,Rd.nil _ _,(λy C=>by cases C),br w⟩
def Fxd (a a1:MAd):Prop:=a1.bp=a.bp/\a1.bm=a.bm/\a1.bg=a.bg
def Did (H G:Nat->Prop) (b:Nat) (i:Inp) (x:Nat) (a:MAd) (m:Mst) (n:Nat) (T:R8->Mst->Prop) (w h:R8):Prop:=∃a1 m1,aU H h b i x a1 m1/\m1.st=m.st/\m1.nx=m.nx/\Keep (λk=>Mut b a k\/G k) w h/\(∀k,Mut b a1 k->Mut b a k\/n<=k)/\Fxd a a1/\T h m1
def Qt (G:Nat->Prop) (b:Nat) (i:Inp) (x:Nat) (a:MAd) (m:Mst) (n:Nat) (T:(Nat->Prop)->R8->Mst->Prop) (w h:R8):Prop:=∃H a1 m1,aU H h b i x a1 m1/\(∀k,Mut b a1 k->¬H k)/\(∀k,h.heap.size<=k->¬H k)/\m1.st=m.st/\m1.nx=m.nx/\Keep (λk=>Mut b a k\/G k) w h/\(∀k,Mut b a1 k->Mut b a k\/n<=k)/\Fxd a a1/\T H h m1
def Ce (H G:Nat->Prop) (b:Nat) (i:Inp) (x:Nat) (a:MAd) (m:Mst) (T:R8->Mst->Prop) (w h:R8):Prop:=∃o m1,aU H h b i x o (adv i x m1)/\m1.st=m.st/\m1.nx=m.nx/\Keep (λk=>Mut b a k\/G k) w h/\(∀k,Mut b o k->Mut b a k\/w.heap.size<=k)/\Fxd a o/\T h m1
def MT (G:Nat->Prop) (b:Nat) (i:Inp) (x:Nat) (a:MAd) (m:Mst) (T:(Nat->Prop)->R8->Mst->Prop) (w h:R8):Prop:=∃H o m1,aU H h b i x o (adv i x m1)/\(∀k,Mut b o k->¬H k)/\(∀k,h.heap.size<=k->¬H k)/\m1.st=m.st/\m1.nx=m.nx/\Keep (λk=>Mut b a k\/G k) w h/\(∀k,Mut b o k->Mut b a k\/w.heap.size<=k)/\Fxd a o/\T H h m1
theorem Bh {H G:Nat->Prop} {w:R8} {b x:Nat} {i:Inp} {a:MAd} {m:Mst} (h:aU H w b i x a m) (hn:∀k,Mut b a k->¬H k) (aG:∀k,w.heap.size<=k->¬H k) (bo:∀k,G k->k<w.heap.size) (hs:bD i) {y:Itm} (hy:(cz i x m.st)[m.nx]?=some y) (u v:N_) (f:Nat) (hf:∀p,Sem.run prog (Instr.index 319 (.agg RK) (RI (y.kind:Nat))) p=.ok (.func (.func f) #[] #[]) p) (ci:∀args w,(callFunc f args).run prog w=.ok (.enter f args) w) (FP:Int->Prop) (T:(Nat->Prop)->R8->Mst->Prop) (hT:∀H1 B w2 m1,T H1 B m1->Keep (λk=>k=b) B w2->T H1 w2 m1) (hd:∀p,aq w p->Calls prog f #[(au b),.agg (bC y).toArray,.agg #[.pointer u,.pointer v]] p λe c6=>(e=.returned (RI 0)/\Qt G b i x a m w.heap.size T p c6)\/(∃C:Int,C≠0/\FP C/\e=.returned (RI C)/\aq p c6)):Calls prog 204 #[(au b),.pointer u,.pointer v] w λe p=>(e=.returned (RI 0)/\MT G b i x a m T w p)\/(∃C:Int,C≠0/\FP C/\e=.returned (RI C)/\aq w p):=by
 have N:=jQ h hy;have bl:=EQ y;obtain ⟨k0,k1,k2,b0,b1,i0,i1,i2,i3,i4,i5,i6,a8⟩:=tF y;have e0:(y.kind:Int)=k0:=by have:=a8;simp only [bC,List.cons.injEq,Value.int.injEq,true_and] at this;exact this.1
 have e1:(y.st:Int)=k1:=by have:=a8;simp only [bC,List.cons.injEq,Value.int.injEq,true_and] at this;exact this.2.1
 rw [a8] at N hd;rw [e0] at hf;have cd:=(Ri.1 hy).1;have av:=h.mlt;obtain ⟨d2,Hd,Hf,cr,HM,HT,cL,Hn⟩:=ak N hd hf ci h hT cd hn;obtain ⟨d5,Hs,E1,Hy,cw,d0⟩:=ai aG hs e1 hy av bo;clear av bo N hd hf ci h hT cd hn aG bl a8 e0 e1 hs hy;go_enter func204,ntmps204;go_wp2_with fail;refine d2.o.mono ?_;rintro e B ⟨rfl,q1⟩;have g2:=Qy B (.cells #[RI k0,RI k1,RI k2,.bool b0,.bool b1,RI i0,RI i1,RI i2,RI i3,RI i4,RI i5,RI i6] 135);have q2:aq w (B.alloc (.cells #[RI k0,RI k1,RI k2,.bool b0,.bool b1,RI i0,RI i1,RI i2,RI i3,RI i4,RI i5,RI i6] 135)):=q1.alloc q1.size _;obtain ⟨W2,bA⟩:∃W2,B.alloc (.cells #[RI k0,RI k1,RI k2,.bool b0,.bool b1,RI i0,RI i1,RI i2,RI i3,RI i4,RI i5,RI i6] 135)=W2:=⟨_,rfl⟩;rw [bA] at g2 q2;have hX:w.heap.size<=B.heap.size:=q1.size;go_wp2_with fail;clear bA q1;obtain ⟨G2,Q2⟩:=ae g2 q2;have t0:∀p,aq W2 p->p.cell? (ar B.heap.size 0)=some (RI k0):=λp q=>Qz p B.heap.size 0 _ _ _ (sb g2 p q);have tl:=sl g2;clear g2 q2;have b4:=λp=>Hf.o p
 go_cut [9] (λv wx=>∃J,v=(au J)/\wx.heap[J]?=some (.cells #[RI k0,RI k1,RI k2,.bool b0,.bool b1,RI i0,RI i1,RI i2,RI i3,RI i4,RI i5,RI i6,.func (.func f) #[] #[]] 322 (0,0))/\aq W2 wx)
 case first=>
  refine HA.g (λp:R8=>aq W2 p) ?_;have q3:=(br W2).drew;refine HA.ld 0 #[RI k0,RI k1,RI k2,.bool b0,.bool b1,RI i0,RI i1,RI i2,RI i3,RI i4,RI i5,RI i6] (λp q=>sb G2.o p q) mN q3 ?_;refine HA.t ?_ [2,3] q3 ?_;refine HA.two 1 6 ?_ ?_
  .refine HAS.c (uY _) ?_;rintro e D ⟨rfl,k3⟩;have q4:=q3.trans (k3.mono q3.size);refine ⟨_,rfl,q4,λ_=>?_⟩;refine HA.t ?_ [4,5] q4 ?_;refine HA.v 6 (D.alloc (.cells RN 322)) ((au D.heap.size)) (q4.alloc q4.size _) ?_;refine HA.st 7 (Qy D _) JT (λR e9 k9=>?_);have q9:=q4.trans ((aO k9).mono q4.size);refine ⟨q9,HA.d ?_⟩;obtain ⟨E9,Q9⟩:=ae e9 q9;clear e9 k9 q9 q4 q3 k3 b4 t0 tl;go_wp2_with fail;go_meet;exact ⟨_,rfl,E9.o,Q9.o⟩
  .refine HAS.v (W2.drew.alloc (.cells RN 322)) ((au W2.heap.size)) (q3.alloc (Qx _) _) ?_;have gJ:=Qy W2.drew (.cells RN 322);rw [Ru] at gJ;have q4:=q3.alloc (Qx _) (.cells RN 322);obtain ⟨W3,c7⟩:∃W3,W2.drew.alloc (.cells RN 322)=W3:=⟨_,rfl⟩;rw [c7] at gJ q4 |-;clear c7;refine HA.c 1 (uY _) ?_;rintro e D ⟨rfl,k3⟩;have q5:=q4.trans (k3.mono q4.size);refine ⟨_,rfl,q5,λ_=>?_⟩;refine HA.t ?_ [4,5] q5 ?_;refine HA.st 7 (sb gJ _ k3) JT (λR e9 k9=>?_);have q9:=q5.trans (k9.toBelow q5.size (λj hj=>by rw [hj];exact Qx _));refine ⟨q9,HA.d ?_⟩;obtain ⟨E9,Q9⟩:=ae e9 q9;clear e9 k9 q9 q4 q5 q3 k3 b4 t0 tl gJ;go_wp2_with fail;go_meet;exact ⟨_,rfl,E9.o,Q9.o⟩
 case rest=>
  obtain ⟨J,rfl,gJ,qJ⟩:=hcut;clear t0 tl b4;have bw:=Qz wc J 12 _ _ _ gJ;have lJ:=Qw gJ;have bi:wc.cell? (ar J 12)=some (.func (.func f) #[] #[]):=bw;clear bw;have GJ:=aa gJ;have bX:=Q2.o.trans (qJ.mono Q2.o.size);obtain ⟨QJ,B0⟩:=ae qJ bX;clear gJ qJ bX;have cj:=cr.o;go_wp2_with (refine aN #[RI k0,RI k1,RI k2,.bool b0,.bool b1,RI i0,RI i1,RI i2,RI i3,RI i4,RI i5,RI i6] GJ.o mN rfl rfl rfl rfl ?_);refine (Hd.o wc B0.o).mono ?_;rintro e D (⟨rfl,H1,a1,m1,b8,bf,ao,b3,N,hk,cf,bz,ht⟩ | ⟨C,hC,cI,rfl,k3⟩);rotate_left
  .have dr:(C != 0)=true:=by rw [bne_iff_ne];exact hC
   have K3:=aa (B0.o.trans (k3.mono B0.o.size));clear k3;go_wp2_with fail;go_ret;exact .inr ⟨C,hC,cI,rfl,K3.o⟩
  .have Q:m1.nx<(cz i x m1.st).length:=by rw [b3,N];exact cL.o
   have cx:=Mb Hs.o Q;obtain ⟨dn,b2⟩:∃dn,bF i x m1=dn:=⟨_,rfl⟩;obtain ⟨il,ab⟩:∃il,(cz i x m1.st).length=il:=⟨_,rfl⟩;have A:=b8.blk;rw [b2] at A cx;rw [ab] at A Q;have lb:=Qw A;have cs:D.cell? (ar b 16)=some (RI (m1.nx:Nat)):=Qz D b 16 _ _ _ A;have cy:D.cell? (ar b 17)=some (RI (dn:Nat)):=Qz D b 17 _ _ _ A;have aR:=QG D b 16 _ _ A;have co:=QG D b 17 _ _ A;have da:IntKind.i64.wrap ((dn:Int)+1)=((dn+1:Nat):Int):=by rw [QC _ ap];push_cast;rfl
   have d6:il<=8000000:=by rw [<-ab,(tK Hs.o (x:=x) (st:=m1.st) (nx:=m1.nx) ap).2];exact mj Hs.o.ok x 0
   have d9:IntKind.i64.wrap ((m1.nx:Int)+1)=((m1.nx+1:Nat):Int):=by rw [QC _ ap];push_cast;rfl
   have g5:=ss2 (i:=17) (j:=16) (v:=RI ((dn:Int)+1)) (u:=RI ((m1.nx:Int)+1)) A rfl;have k5:Keep (λk=>k=b) D ((D.setCell (ar b 17) (RI ((dn:Int)+1))).setCell (ar b 16) (RI ((m1.nx:Int)+1))):=Keep.setCell (S:=λk=>k=b) (Keep.setCell (S:=λk=>k=b) (Keep.refl _ _) _ (.inr rfl) _) _ (.inr rfl) _;obtain ⟨G5,K5,Z,Hk,bn,Ht,bG,aM⟩:=ak g5 k5 b8 hk cf ht bz b3;obtain ⟨ad,a6,a3,bh,I,b7⟩:=ai N bf ao b2 ab Q;clear b8 hk cf ht bz b3 N bf ao b2 ab g5 k5 A Q bi lJ cj;go_wp2_with fail;obtain ⟨W5,bN⟩:∃W5,(D.setCell (ar b 17) (RI ((dn:Int)+1))).setCell (ar b 16) (RI ((m1.nx:Int)+1))=W5:=⟨_,rfl⟩;have g5:=G5.o;have k5:=K5.o;rw [bN] at g5 k5 |-;clear G5 K5 bN cs cy aR co;have cl:b<W5.heap.size:=Qw g5;have bM:∀p,aq W5 p->p.cell? (ar b 15)=some (.slice a1.IA (cz i x m1.st).length a1.ic):=λp q=>by rw [I.o];exact Qz p b 15 _ _ _ (sb g5 p q)
   rw [I.o] at bM;have d1:∀p,aq W5 p->p.cell? (ar b 16)=some (RI ((m1.nx:Int)+1)):=λp q=>Qz p b 16 _ _ _ (sb g5 p q);obtain ⟨G5,K5⟩:=ae g5 k5;clear g5 k5;have q5:=(br W5).drew;refine HA.g (λp:R8=>aq W5 p) ?_;refine HA.t ?_ [0,1,2,3,4,5,6,7,8,9] q5 ?_;refine HA.d ?_;have k6:Keep (λk=>k=b) D W5.drew:=K5.o.drew;have g6:=sb G5.o _ q5;obtain ⟨V,b9⟩:∃V,W5.drew=V:=⟨_,rfl⟩;rw [b9] at k6 g6 |-;obtain ⟨G6,K6⟩:=ae g6 k6;have l6:b<V.heap.size:=Qw g6;clear b9 q5 bM d1 G5 K5 cl k6 g6;by_cases a4:m1.nx+1=il;rotate_left
   .have cY:¬(m1.nx:Int)+1=il:=ap;clear a4;go_wp2_with fail;go_ret;have O:adv i x m1={m1 with st:=m1.st,nx:=m1.nx+1}:=if_pos (by rw [I.o];have:=b7.o;omega);have e:((bF i x {m1 with st:=m1.st,nx:=m1.nx+1}:Nat):Int)=(dn:Int)+1:=by rw [vF,bh.o];push_cast;rfl
    have e2:((m1.nx+1:Nat):Int)=(m1.nx:Int)+1:=by push_cast;rfl
    have hb:=G6.o;rw [<-I.o,<-e,<-e2] at hb;have hm:=Z.o.upd a6.o K6.o m1.st (m1.nx+1) a1.IA a1.ic hb (aW Z.o.it (bP (K6.o.mono λk _ e=>.inl (.inl e)) (λ_ _ h=>h))) (.inl (by rw [I.o];have:=b7.o;omega));refine .inl ⟨rfl,H1,a1,m1,by rw [O];exact hm,a6.o,(λk hk=>a3.o k (QD K6.o.size hk)),aM.o,ad.o,((Keep.below B0.o).trans Hk.o).trans (K6.o.mono λk _ e=>.inl (.inl e)),bn.o,bG.o,HT.o H1 D V m1 Ht.o K6.o⟩
   .have cY:(m1.nx:Int)+1=il:=ap;have d3:k1=(m1.st:Int):=by rw [<-E1.o,zg Hy.o,aM.o]
    have dp:m1.st<6:=by have:=(tK Hs.o (x:=x) (st:=m1.st) (nx:=m1.nx) (by rw [I.o];exact b7.o)).1;have:=Hs.o.s;omega
    have cA:IntKind.i64.wrap ((m1.st:Int)+1)=((m1.st+1:Nat):Int):=by rw [QC _ ap];push_cast;rfl
    subst d3;have g6:=G6.o;have nw:¬(Mut b a B.heap.size\/G B.heap.size):=λh=>h.elim (λh=>by have:=cw.o _ h;omega) (λh=>by have:=d0.o _ h;omega)
    have cM:B.heap.size<wc.heap.size:=Qw (sb G2.o wc QJ.o);have g3:=(Hk.o.block _ cM nw).trans (sb G2.o wc QJ.o);have gB:=(K6.o.block B.heap.size (Qw g3) (λe=>nw (.inl (.inl e)))).trans g3;have hS:V.drew.cell? (ar b 6)=some ((au a1.PP))/\V.drew.cell? (ar b 0)=some (RI (x:Nat))/\V.drew.cell? (ar B.heap.size 1)=some (RI (m1.st:Nat))/\Keep (λk=>k=b) D V.drew:=⟨Qz V.drew b 6 _ _ _ g6,Qz V.drew b 0 _ _ _ g6,Qz V.drew B.heap.size 1 _ _ _ gB,K6.o.drew⟩;obtain ⟨dd,dc,dk,ds,df,d7,bI⟩:=Z.o.pl;have b5:=Gw (iE bI (iF (S:=ib H1 b a1) (K6.o.drew.mono λk _ e=>.inl (.inl e)))) Hs.o Z.o.xw (m1.st+1);rw [<-cA] at b5;obtain ⟨cO,d4,GB⟩:=af b5 (show V.drew.heap[b]?=_ from g6) (show V.drew.heap[B.heap.size]?=_ from gB);clear a4 g6 gB g3 bI b5;go_wp2_with fail;refine HA.g (λp:R8=>p.cell? (ar b 6)=some ((au a1.PP))/\p.cell? (ar b 0)=some (RI (x:Nat))/\p.cell? (ar B.heap.size 1)=some (RI (m1.st:Nat))/\Keep (λk=>k=b) D p) ?_;refine HA.t ?_ [0,1,2,3,4,5,6,7,8,9,10,11,12,13,14] hS ?_;refine HA.c 15 cO.o ?_;rintro e w7 ⟨IA,ic,rfl,c8,c9,k7⟩;have g7:=sb d4.o w7 k7;have a7:=sb GB.o w7 k7;have q7:=K6.o.drew.trans (Keep.below (S:=λk=>k=b) k7);refine ⟨_,rfl,⟨Qz w7 b 6 _ _ _ g7,Qz w7 b 0 _ _ _ g7,Qz w7 B.heap.size 1 _ _ _ a7,q7⟩,λcb=>?_⟩;refine HA.t ?_ [16,17] cb ?_;obtain ⟨CL,bb⟩:∃CL,(cz i x (m1.st+1)).length=CL:=⟨_,rfl⟩;rw [bb];have cc:=Qz w7 b 15 _ _ _ g7;have cv:=QG w7 b 15 _ _ g7;have g8:=ss (i:=15) (v:=.slice IA CL ic) g7 rfl;have a0:Keep (λk=>k=b) w7 (w7.setCell (ar b 15) (.slice IA CL ic)):=Keep.setCell (S:=λk=>k=b) (Keep.refl _ _) _ (.inr rfl) _;have a2:=(a0.block _ (Qw a7) (λe=>nw (.inl (.inl e)))).trans a7;obtain ⟨Y,U⟩:∃Y,w7.setCell (ar b 15) (.slice IA CL ic)=Y:=⟨_,rfl⟩;have a5:Y.cell? (ar b 6)=some ((au a1.PP))/\Y.cell? (ar b 0)=some (RI (x:Nat))/\Y.cell? (ar B.heap.size 1)=some (RI (m1.st:Nat))/\Keep (λk=>k=b) D Y:=⟨by rw [<-U];exact Qz _ b 6 _ _ _ g8,by rw [<-U];exact Qz _ b 0 _ _ _ g8,by rw [<-U];exact Qz _ B.heap.size 1 _ _ _ a2,by rw [<-U];exact q7.trans a0⟩;have bO:w7.cell? (ar b 15)=some (.slice a1.IA il a1.ic):=cc;clear cc;refine HA.s 18 Y a5 ?_;rw [U] at g8 a2 a0;clear U bO cv;refine HA.t ?_ [19,20] a5 ?_;have bv:Y.cell? (ar b 16)=some (RI ((m1.nx:Int)+1)):=Qz Y b 16 _ _ _ g8;have aR:=QG Y b 16 _ _ g8;have g9:=ss (i:=16) (v:=RI 0) g8 rfl;have a9:Keep (λk=>k=b) Y (Y.setCell (ar b 16) (RI 0)):=Keep.setCell (S:=λk=>k=b) (Keep.refl _ _) _ (.inr rfl) _;have bV:=(a9.block _ (Qw a2) (λe=>nw (.inl (.inl e)))).trans a2;obtain ⟨R,L⟩:∃R,Y.setCell (ar b 16) (RI 0)=R:=⟨_,rfl⟩;have aP:R.cell? (ar b 6)=some ((au a1.PP))/\R.cell? (ar b 0)=some (RI (x:Nat))/\R.cell? (ar B.heap.size 1)=some (RI (m1.st:Nat))/\Keep (λk=>k=b) D R:=⟨by rw [<-L];exact Qz _ b 6 _ _ _ g9,by rw [<-L];exact Qz _ b 0 _ _ _ g9,by rw [<-L];exact Qz _ B.heap.size 1 _ _ _ bV,by rw [<-L];exact a5.2.2.2.trans a9⟩;refine HA.s 21 R aP ?_;refine HA.d ?_;rw [L] at g9;have K9:=aP.2.2.2
    have bs:Rd (aH (ib H1 b a1) R) IA (cD (cz i x (m1.st+1))):=by
     have cn:Keep (λk=>k=b) w7 R:=by rw [<-L];exact a0.trans a9
     have be:∀z,IA=some z->¬ib H1 b a1 z.block:=λz hz hm=>by
      have b6:=c9 z hz;have d8:=K6.o.size;have h3:=Hk.o.size;have h0:=B0.o.size;have hw:w.heap.size<=z.block:=by rw [Ru] at b6;omega
      rcases hm with hm | hm
      .have:=Z.o.mlt _ hm;rw [Ru] at b6;omega
      .exact a3.o _ (by rw [Ru] at b6;omega) hm
     exact mV (cn.rd c8 (λz hz e=>be z hz (.inl (.inl e)))) be
    have O:adv i x m1={m1 with st:=m1.st+1,nx:=0}:=if_neg (by rw [I.o];omega);have e:((bF i x {m1 with st:=m1.st+1,nx:=0}:Nat):Int)=(dn:Int)+1:=by rw [vE Hs.o (by rw [I.o];omega),bh.o];push_cast;rfl
    rw [<-bb,<-e] at g9
    have ox:(0:Nat)<(cz i x (m1.st+1)).length\/((0:Nat)=0/\i.cfg.steps.toNat<=m1.st+1):=by
     unfold cz;by_cases hc:m1.st+1<i.cfg.steps.toNat
     .rw [if_pos hc];exact .inl (jU _ _ _)
     .exact .inr ⟨rfl,by omega⟩
    have hm:=Z.o.upd a6.o K9 (m1.st+1) 0 IA ic g9 bs ox;have HF:=aa (⟨H1,{a1 with IA:=IA,ic:=ic},m1,by rw [O];exact hm,a6.o,(λk hk=>a3.o k (QD K9.size hk)),aM.o,ad.o,((Keep.below B0.o).trans Hk.o).trans (K9.mono λk _ e=>.inl (.inl e)),bn.o,bG.o,HT.o H1 D R m1 Ht.o K9⟩:MT G b i x a m T w R);clear hm O bs ox e g9 bV a9 L aP K9 a5 cb hS g8 a2 a0 g7 a7 q7 k7 c8 c9 bv aR;go_wp2_with fail;go_ret;exact .inl ⟨rfl,HF.o⟩
theorem mY {H G:Nat->Prop} {w:R8} {b x:Nat} {i:Inp} {a:MAd} {m:Mst} (h:aU H w b i x a m) (hn:∀k,Mut b a k->¬H k) (p:∀k,w.heap.size<=k->¬H k) (O:∀k,G k->k<w.heap.size) (hs:bD i) {y:Itm} (hy:(cz i x m.st)[m.nx]?=some y) (u v:N_) (f:Nat) (B:∀o,Sem.run prog (Instr.index 319 (.agg RK) (RI (y.kind:Nat))) o=.ok (.func (.func f) #[] #[]) o) (V:∀args w,(callFunc f args).run prog w=.ok (.enter f args) w) (R:Int->Prop) (T:R8->Mst->Prop) (hT:∀D L m1,T D m1->Keep (λk=>k=b) D L->T L m1) (hd:∀o,aq w o->Calls prog f #[(au b),.agg (bC y).toArray,.agg #[.pointer u,.pointer v]] o λe A=>(e=.returned (RI 0)/\Did H G b i x a m w.heap.size T o A)\/(∃C:Int,C≠0/\R C/\e=.returned (RI C)/\aq o A)):Calls prog 204 #[(au b),.pointer u,.pointer v] w λe o=>(e=.returned (RI 0)/\Ce H G b i x a m T w o)\/(∃C:Int,C≠0/\R C/\e=.returned (RI C)/\aq w o):=by
 refine (Bh h hn p O hs hy u v f B V R (λQ w m=>Q=H/\T w m) (λQ D L m1 Z k=>⟨Z.1,hT D L m1 Z.2 k⟩) (λo q=>(hd o q).mono ?_)).mono ?_
 .rintro e A (⟨he,a1,m1,h1,N,U,I,J,B,Y⟩ | h)
  .exact .inl ⟨he,H,a1,m1,h1,λk hk=>(J k hk).elim (hn k) (p k),λk hk=>p k (QD (QD q.size I.size) hk),N,U,I,J,B,rfl,Y⟩
  .exact .inr h
 .rintro e o (⟨he,Q,a1,m1,h1, -, -,N,U,I,J,B,rfl,Y⟩ | h)
  .exact .inl ⟨he,a1,m1,h1,N,U,I,J,B,Y⟩
  .exact .inr h
theorem aU.setG {H:Nat->Prop} {w y:R8} {b x:Nat} {i:Inp} {a:MAd} {m:Mst} (h:aU H w b i x a m) (hn:∀k,Mut b a k->¬H k) (hk:Keep (λk=>k=a.bg) w y) (G:Q_) (oG:y.ownsRow 0 2 1 (.slice (some (ar a.bg 0)) i.start.length a.cg) i.start.length (aA .i64 G)) (wG:G.length=i.start.length/\W64 G):aU H y b i x a {m with G:=G}:=by
 have he:Ext (aH (ib H b a) w) (aH (ib H b a) y):=bP (hk.mono λk _ e=>.inl (.inr (.inr (.inr (.inl e))))) (λk _ Y=>Y);have hb:=(hk.block b (Qw h.blk) (λe=>ay h.blk (by decide) h.oG (by rw [e];rfl))).trans h.blk;have o:∀{v:Value} {e size n xs},(∀j,v.ownBlock=some j->j≠a.bg)->w.ownsRow 0 e size v n xs->y.ownsRow 0 e size v n xs:=λp o=>hk.own o (λj u e=>p j u e)
 have D:∀{v:Value} {e:R9} {size n:Nat} {xs:R7},e≠2->w.ownsRow 0 e size v n xs->∀j,v.ownBlock=some j->j≠a.bg:=λp o j u e=>by
  rcases h.oG.2 with ⟨A,_⟩ | ⟨Z,_,_,A,_,hg,_⟩
  .cases A
  .simp only [Rv,Option.some.injEq,Addr.mk.injEq] at A;obtain ⟨⟨U,_⟩,_⟩:=A;exact ay hg (Ne.symm p) o (by rw [u,e,U])
 obtain ⟨T,a1,V,L,N,B,O⟩:=h.pl;obtain ⟨rows,C,R,I,J⟩:=h.re
 exact ⟨hb,fM h.sh he,fj cW h.ex he,iD h.sa he,⟨T,a1,V,L,N,B,iE O he⟩,aW h.bu he,aW h.it he,⟨rows,o (D (by decide) C) C,R,I,λj x Q=>cW (J j x Q) he⟩,
  o (λj u=>by cases u;exact h.dj.2.1) h.oP,o (λj u=>by cases u;exact h.dj.2.2) h.oM,oG,o (D (by decide) h.oO) h.oO,h.dj,λk _ hm=>hn k hm,h.wP,h.wM,wG,h.ox,h.xw⟩
theorem vh {p:Pln} {x st:Nat} {y:Itm} (h:y∈aE p x st) (hk:y.kind=1):y.n<p.mi:=by
 unfold aE at h;simp only [Rw,List.mem_map,List.mem_flatMap,List.mem_singleton,List.mem_range] at h;rcases h with (⟨k,i,rfl⟩ | ⟨g,_,h⟩) | rfl
 .exact i
 .unfold dx at h;simp only [Rw,List.mem_map,List.mem_flatMap] at h;rcases h with (⟨_,_,rfl⟩ | ⟨_,_,_,_,_,_,h⟩) | ⟨_,_,rfl⟩
  .cases hk
  .unfold cq at h;obtain ⟨c,_,rfl⟩:=List.mem_map.1 h;unfold fD at hk
   split at hk<;>cases hk
  .cases hk
 .cases hk
theorem du {i:Inp} {x st nx:Nat} {y:Itm} (h:(cz i x st)[nx]?=some y):st<i.cfg.steps.toNat/\y∈aE (ax i) x st:=by
 unfold cz at h;by_cases hc:st<i.cfg.steps.toNat
 .rw [if_pos hc] at h;exact ⟨hc,List.mem_of_getElem? h⟩
 .rw [if_neg hc] at h;simp at h
theorem vm (i:Inp) (P G:Q_) (h:W64 G):∀l:R_,W64 (dt i P G l):=by
 intro l
 induction l generalizing G with
 | nil=>exact h
 | cons e l ih=>exact ih _ (vR _ _)
theorem m8 {i:Inp} {P:Q_} {n:Nat} (l:R_):∀G:Q_,G.length=n->(dt i P G l).length=n:=by
 induction l with
 | nil=>intro G h;exact h
 | cons e l ih=>intro G h;exact ih _ (by rw [gQ];exact h)
theorem Keep.sub {S S':Nat->Prop} {w i:R8} (h:Keep S w i) (hs:∀k,S k->S' k):Keep S' w i:=h.mono λk _ hk=>hs k hk
theorem Ln {H:Nat->Prop} {w:R8} {b x:Nat} {i:Inp} {a:MAd} {m:Mst} (h:aU H w b i x a m) (hn:∀k,Mut b a k->¬H k) (p:∀k,w.heap.size<=k->¬H k) (hs:bD i) {y:Itm} (D:(cz i x m.st)[m.nx]?=some y) (hk:y.kind=1) (u v:N_):Calls prog 204 #[(au b),.pointer u,.pointer v] w λe B=>e=.returned (RI 0)/\Ce H (λ_=>False) b i x a m (λ_ m1=>m1={m with G:=dt i m.P m.G (cN i.data (pL i x m.st y.n))}) w B:=by
 obtain ⟨h1,N⟩:=du D;have O:=vh N hk;have o:=zg D;refine (mY h hn p (G:=λ_=>False) (λ_ h=>h.elim) hs D u v 212 (λB=>by rw [hk];kernel_rfl) (λargs w=>by kernel_rfl) (λ_=>False) (λ_ m1=>m1={m with G:=dt i m.P m.G (cN i.data (pL i x m.st y.n))}) (λ_ _ _ h _=>h) (λB q=>?_)).mono ?_
 .have I:=h.below q hn;refine (In I hs y (.pointer u) (.pointer v) rfl rfl (by rw [o];exact h1) O).mono ?_;rintro e Q ⟨rfl,A,J⟩;rw [o] at J;exact .inl ⟨rfl,a,_,I.setG hn A _ J ⟨m8 _ _ h.wG.1,vm _ _ _ h.wG.2 _⟩,rfl,rfl,A.sub (λk e=>.inl (.inr (.inr (.inr (.inl e))))),λk hm=>.inl hm,⟨rfl,rfl,rfl⟩,rfl⟩
 .rintro e B (⟨rfl,L⟩ | ⟨C,_,R,_⟩)
  .exact ⟨rfl,L⟩
  .exact R.elim
theorem aU.setO {H:Nat->Prop} {w u:R8} {b x:Nat} {i:Inp} {a:MAd} {m:Mst} (h:aU H w b i x a m) (hn:∀k,Mut b a k->¬H k) (A:∀k,w.heap.size<=k->¬H k) (ov:Value) (op:List Nat) (hk:Keep (λk=>k=b\/a.ov.ownBlock=some k) w u) (hb:u.heap[b]?=some (.cells #[RI (x:Nat),RI i.cfg.workers,RI i.cfg.micros,.pointer (some ⟨({a with ov:=ov}:MAd).F,0,none⟩),.slice ({a with ov:=ov}:MAd).E i.data.length ({a with ov:=ov}:MAd).ce,.pointer (some ⟨({a with ov:=ov}:MAd).S,0,none⟩),.pointer (some ⟨({a with ov:=ov}:MAd).PP,0,none⟩),.slice ({a with ov:=ov}:MAd).BA (ax i).buks.length ({a with ov:=ov}:MAd).bc,RI i.cfg.rate,RI i.cfg.mom,RI i.cfg.shift,.slice (some ⟨({a with ov:=ov}:MAd).bp,0,none⟩) i.start.length ({a with ov:=ov}:MAd).cp,.slice (some ⟨({a with ov:=ov}:MAd).bm,0,none⟩) i.start.length ({a with ov:=ov}:MAd).cm,.slice (some ⟨({a with ov:=ov}:MAd).bg,0,none⟩) i.start.length ({a with ov:=ov}:MAd).cg,.slice (some ⟨({a with ov:=ov}:MAd).rb,0,none⟩) m.rc.length ({a with ov:=ov}:MAd).rc,.slice ({a with ov:=ov}:MAd).IA (cz i x m.st).length ({a with ov:=ov}:MAd).ic,RI (m.nx:Nat),RI (bF i x m:Nat),({a with ov:=ov}:MAd).ov] 169 (0,0))) (oO:u.ownsRow 0 3 1 ov op.length (aA .i64 (eF op))) (hv:∀k,ov.ownBlock=some k->a.ov.ownBlock=some k\/w.heap.size<=k):aU H u b i x {a with ov:=ov} {m with op:=op}/\∀k,Mut b {a with ov:=ov} k->Mut b a k\/w.heap.size<=k:=by
 have p:∀k,Mut b {a with ov:=ov} k->Mut b a k\/w.heap.size<=k:=by
  rintro k (h1 | h1 | h1 | h1 | h1 | h1)
  .exact .inl (.inl h1)
  .exact .inl (.inr (.inl h1))
  .exact .inl (.inr (.inr (.inl h1)))
  .exact .inl (.inr (.inr (.inr (.inl h1))))
  .exact .inl (.inr (.inr (.inr (.inr (.inl h1)))))
  .exact (hv k h1).imp (λy=>.inr (.inr (.inr (.inr (.inr y))))) id
 have he:Ext (aH (ib H b a) w) (aH (ib H b {a with ov:=ov}) u):=bP (hk.mono λk _ e=>.inl (e.imp id λy=>.inr (.inr (.inr (.inr y))))) (λk hl hS=>hS.imp (λh1=>(p k h1).elim id (λy=>ap)) id)
 have o:∀{v:Value} {e:R9} {size n:Nat} {xs:R7},e≠169->e≠3->w.ownsRow 0 e size v n xs->u.ownsRow 0 e size v n xs:=λh1 y o=>hk.own o (λj D e=>by
  rcases e with e | e
  .exact ay h.blk (Ne.symm h1) o (by rw [D,e])
  .rcases h.oO.2 with ⟨B,_⟩ | ⟨J,_,_,B,_,hg,_⟩
   .rw [B] at e;cases e
   .rw [B] at e;have Y:J=j:=by simpa [Value.ownBlock] using e
    exact ay hg (Ne.symm y) o (by rw [D,Y]))
 obtain ⟨V,a1,Z,O,Q,C,R⟩:=h.pl;obtain ⟨rows,L,U,I,N⟩:=h.re
 exact ⟨⟨hb,fM h.sh he,fj cW h.ex he,iD h.sa he,⟨V,a1,Z,O,Q,C,iE R he⟩,aW h.bu he,aW h.it he,⟨rows,o (by decide) (by decide) L,U,I,λj x T=>cW (N j x T) he⟩,
  o (by decide) (by decide) h.oP,o (by decide) (by decide) h.oM,o (by decide) (by decide) h.oG,oO,h.dj,λk _ hm=>(p k hm).elim (hn k) (A k),h.wP,h.wM,h.wG,h.ox,h.xw⟩,p⟩
theorem Bc {H:Nat->Prop} {w:R8} {b x:Nat} {i:Inp} {a:MAd} {m:Mst} (h:aU H w b i x a m) (hn:∀k,Mut b a k->¬H k) (L:∀k,w.heap.size<=k->¬H k) (hl:m.op.length<=1000) (y:Itm) (u v:Value) (hu:u.oneCell'=true) (hv:v.oneCell'=true):Calls prog 213 #[(au b),.agg (bC y).toArray,.agg #[u,v]] w λe p=>e=.returned (RI 0)/\Did H (λ_=>False) b i x a m w.heap.size (λ_ m1=>m1={m with op:=m.op++[y.n]}) w p:=by
 have N:=h.blk;obtain ⟨W0,W1,U,R,g0,g1,C, -⟩:=gM w (bC y).toArray #[u,v] 135 324;have I:=sb N _ C;have Q:=az h.oO C;have nt:=λc cs t' sg (a3:W1.heap[c]?=some (.cells cs t' sg)) (a0:t'≠3) (e:a.ov.ownBlock=some c)=>ay a3 a0 Q e.symm;have kb:=λp (q:Keep (λj=>a.ov.ownBlock=some j) W1 p)=>(q.block b (Qw I) (nt _ _ _ _ I (by decide))).trans I;have k0:=λp (q:Keep (λj=>a.ov.ownBlock=some j) W1 p)=>(q.block w.heap.size (Qw g0) (nt _ _ _ _ g0 (by decide))).trans g0;have a4:∀p,Keep (λj=>a.ov.ownBlock=some j) W1 p->p.cell? (ar b 18)=some a.ov:=λp q=>Qz p b 18 _ _ _ (kb p q);have s2:∀p,Keep (λj=>a.ov.ownBlock=some j) W1 p->p.cell? (ar w.heap.size 2)=some (RI (y.n:Nat)):=λp q=>Qz p w.heap.size 2 _ _ _ (k0 p q);obtain ⟨a1,a2,KB,O1,K1,HM,Hn,Y⟩:=ak U R kb Q C h hn L;have NT:=aa (nt b _ _ _ I (by decide));have q0:Keep (λj=>a.ov.ownBlock=some j) W1 W1.drew:=(Keep.refl _ _).drew;have a5:w.heap.size<=W1.heap.size:=C.size;clear U R g0 g1 C I Q nt kb k0 N h hn L;go_enter func213,ntmps213;go_wp2_with fail;rw [a1.o,a2.o];refine XA.g 9 (λp:R8=>Keep (λj=>a.ov.ownBlock=some j) W1 p) ?_;refine XA.t ?_ [0,1,2,3,4,5,6] q0 ?_;refine XA.v 7 (W1.drew.alloc (.cells #[RI (y.n:Nat)] 3)) (.slice (some (ar W1.heap.size 0)) 1 1) (q0.alloc _) ?_;refine XA.o 8 (λK' hK=>?_);have hO:=(O1.o.drew).alloc (.cells #[RI (y.n:Nat)] 3);refine bW gq (.tmp 11) (.tmp 14) rfl rfl 0 a.ov m.op.length _ rfl hO (some (ar W1.heap.size 0)) 1 1 [RI (y.n:Nat)] rfl (λk u hu=>⟨_,_,rfl,by rw [RB,Qz _ W1.heap.size k _ 3 (0,0) (Qy W1.drew _)];simpa using hu⟩) rfl (by simp [Value.oneCell']) ap (by unfold maxLen;omega) (QB _) ?_;intro V c5 O o5 b5 g5 Z;have q5:=(q0.alloc (.cells #[RI (y.n:Nat)] 3)).grown g5 (λk hk=>.inr hk);refine hK.out _ _ q5 λ_=>?_;refine XA.e ?_;simp only [Re,Rf];have B:=KB.o O q5;have e8:=ss (i:=18) (v:=.slice V (m.op.length+1) c5) B rfl;have k8:Keep (λk=>k=b) O (O.setCell (ar b 18) (.slice V (m.op.length+1) c5)):=Keep.setCell (S:=λk=>k=b) (Keep.refl _ _) _ (.inr rfl) _;have o8:=k8.own o5 (λj hj e=>ay B (by decide) o5 (by rw [hj,e]));have a7:O.cell? (ar b 18)=some a.ov:=Qz O b 18 _ _ _ B;have a6:=QG O b 18 _ _ B;have l5:=Qw B;have J:Keep (λk=>k=b\/a.ov.ownBlock=some k) w (O.setCell (ar b 18) (.slice V (m.op.length+1) c5)):=((Keep.below K1.o).trans (q5.mono λk _ e=>.inr e)).trans (k8.mono λk _ e=>.inl e);have T:aA .i64 (eF m.op)++[RI (y.n:Nat)]=aA .i64 (eF (m.op++[y.n])):=by simp [eF,aA]
 rw [T] at o8;have A:(m.op++[y.n]).length=m.op.length+1:=by simp
 rw [<-A] at e8 o8 J
 have D:=HM.o.setO Hn.o Y.o (.slice V (m.op++[y.n]).length c5) (m.op++[y.n]) J e8 o8 (λk hk=>by
  rcases Z with h1 | h1
  .rw [A] at hk;exact .inl (by rw [<-h1];exact hk)
  .rw [A] at hk;rw [h1] at hk;exact .inr (by simp at hk;omega))
 have HF:=aa (⟨{a with ov:=.slice V (m.op++[y.n]).length c5},{m with op:=m.op++[y.n]},D.1,rfl,rfl,J.sub (λk e=>.inl (e.elim .inl (λe=>.inr (.inr (.inr (.inr (.inr e))))))),D.2,⟨rfl,rfl,rfl⟩,rfl⟩:Did H (λ_=>False) b i x a m w.heap.size (λ_ m1=>m1={m with op:=m.op++[y.n]}) w _);rw [A] at HF;clear D J T o8 e8 k8 B Z g5 b5 o5 q5 hO q0 a4 s2 hK K' A;go_wp2_with fail;go_ret;exact ⟨rfl,HF.o⟩
theorem mW {e:R9} {base g n c:Nat}:∀(vs:R7) (o:Nat) (w:R8) (xs:R7),w.ownsRow base e 1 (.slice (some (ar g 0)) n c) n xs->o+vs.length<=n->(w.setCells g o vs).ownsRow base e 1 (.slice (some (ar g 0)) n c) n (xs.take o++vs++xs.drop (o+vs.length))
 | [],o,w,xs,h,_=>by simpa [World.setCells] using h
 | v::vs,o,w,xs,h,hl=>by
  have u:xs.length=n:=by have:=h.1;omega
  simp only [List.length_cons] at hl;have:=mW vs (o+1) _ _ (h.stored o v).1 ap
  have p:(xs.set o v).take (o+1)=xs.take o++[v]:=by
   rw [List.take_add_one,List.take_set_of_le (Qx o)];simp [show o<xs.length by omega]
  have i:(xs.set o v).drop (o+1+vs.length)=xs.drop (o+(vs.length+1)):=by
   rw [List.drop_set_of_lt ap];congr 1;omega
  rw [p,i] at this;simpa [World.setCells] using this
theorem lQ {g:Nat}:∀(vs:R7) (o:Nat) (w:R8),Keep (λj=>j=g) w (w.setCells g o vs)
 | [],_,w=>Keep.refl _ w
 | v::vs,o,w=>(Keep.setCell (S:=λj=>j=g) (Keep.refl _ w) (ar g o) (.inr rfl) v).trans (lQ vs (o+1) _)
theorem aU.setR {H:Nat->Prop} {w B:R8} {b x:Nat} {i:Inp} {a:MAd} {m:Mst} (h:aU H w b i x a m) (hn:∀k,Mut b a k->¬H k) (C:∀k,w.heap.size<=k->¬H k) (rb rc:Nat) (e:Ex) (u1 u2:Value) (hk:Keep (λk=>k=b\/k=a.rb) w B) (hb:B.heap[b]?=some (.cells #[RI (x:Nat),RI i.cfg.workers,RI i.cfg.micros,.pointer (some ⟨({a with rb:=rb,rc:=rc}:MAd).F,0,none⟩),.slice ({a with rb:=rb,rc:=rc}:MAd).E i.data.length ({a with rb:=rb,rc:=rc}:MAd).ce,.pointer (some ⟨({a with rb:=rb,rc:=rc}:MAd).S,0,none⟩),.pointer (some ⟨({a with rb:=rb,rc:=rc}:MAd).PP,0,none⟩),.slice ({a with rb:=rb,rc:=rc}:MAd).BA (ax i).buks.length ({a with rb:=rb,rc:=rc}:MAd).bc,RI i.cfg.rate,RI i.cfg.mom,RI i.cfg.shift,.slice (some ⟨({a with rb:=rb,rc:=rc}:MAd).bp,0,none⟩) i.start.length ({a with rb:=rb,rc:=rc}:MAd).cp,.slice (some ⟨({a with rb:=rb,rc:=rc}:MAd).bm,0,none⟩) i.start.length ({a with rb:=rb,rc:=rc}:MAd).cm,.slice (some ⟨({a with rb:=rb,rc:=rc}:MAd).bg,0,none⟩) i.start.length ({a with rb:=rb,rc:=rc}:MAd).cg,.slice (some ⟨({a with rb:=rb,rc:=rc}:MAd).rb,0,none⟩) ({m with rc:=m.rc++[e]}:Mst).rc.length ({a with rb:=rb,rc:=rc}:MAd).rc,.slice ({a with rb:=rb,rc:=rc}:MAd).IA (cz i x ({m with rc:=m.rc++[e]}:Mst).st).length ({a with rb:=rb,rc:=rc}:MAd).ic,RI (({m with rc:=m.rc++[e]}:Mst).nx:Nat),RI (bF i x m:Nat),({a with rb:=rb,rc:=rc}:MAd).ov] 169 (0,0))) (rows:List (R7)) (r2:rows.length=m.rc.length) (r3:∀r∈rows,r.length=2) (r4:∀j x,m.rc[j]?=some x->rEx (aH (ib H b a) w) (cF rows j) x) (o':B.ownsRow 0 91 2 (.slice (some (ar rb 0)) (m.rc++[e]).length rc) (m.rc++[e]).length (List.flatten rows++[u1,u2])) (hu:eD B w.heap.size [u1,u2] e) (hv:rb=a.rb\/w.heap.size<=rb):aU H B b i x {a with rb:=rb,rc:=rc} {m with rc:=m.rc++[e]}/\∀k,Mut b {a with rb:=rb,rc:=rc} k->Mut b a k\/w.heap.size<=k:=by
 have I:∀k,Mut b {a with rb:=rb,rc:=rc} k->Mut b a k\/w.heap.size<=k:=by
  rintro k (h1 | h1 | h1 | h1 | h1 | h1)
  .exact .inl (.inl h1)
  .exact .inl (.inr (.inl h1))
  .exact .inl (.inr (.inr (.inl h1)))
  .exact .inl (.inr (.inr (.inr (.inl h1))))
  .have a6:k=rb:=h1;exact hv.imp (λD=>.inr (.inr (.inr (.inr (.inl (a6.trans D)))))) (λD=>ap)
  .exact .inl (.inr (.inr (.inr (.inr (.inr h1)))))
 have he:Ext (aH (ib H b a) w) (aH (ib H b {a with rb:=rb,rc:=rc}) B):=bP (hk.mono λk _ e=>.inl (e.elim .inl λD=>.inr (.inr (.inr (.inr (.inl D)))))) (λk hl hS=>hS.imp (λh1=>(I k h1).elim id (λD=>ap)) id);obtain ⟨a0,a1,a2,a3,a5,V,hp⟩:=h.pl;obtain ⟨_,r1,_⟩:=h.re
 have u:∀{v:Value} {e:R9} {size n:Nat} {xs:R7},e≠169->e≠91->w.ownsRow 0 e size v n xs->B.ownsRow 0 e size v n xs:=λh1 D Y=>hk.own Y (λj O e=>by
  rcases e with e | e
  .exact ay h.blk (Ne.symm h1) Y (by rw [O,e])
  .rcases r1.2 with ⟨p,_⟩ | ⟨r',_,_,p,_,hg,_⟩
   .cases p
   .simp only [Rv,Option.some.injEq,Addr.mk.injEq] at p;obtain ⟨⟨J,_⟩,_⟩:=p
    exact ay hg (Ne.symm D) Y (by rw [O,e,J]))
 obtain ⟨v1,v2,hcs,U,T,z3,z4,z5,z6⟩:=hu;simp only [List.cons.injEq,and_true] at hcs;obtain ⟨rfl,rfl⟩:=hcs;obtain ⟨A1,c1,rfl,a7⟩:=aD U;obtain ⟨Q,c2,rfl,a4⟩:=aD T
 have L:∀{A:N_} {n c:Nat} {xs:R7},B.ownsRow w.heap.size 2 1 (.slice A n c) n xs->∀y,A=some y->¬ib H b {a with rb:=rb,rc:=rc} y.block:=λN y hy hm=>by
  have h1:=(gP N y hy).1;rcases hm with hm | hm
  .rcases hm with hm | hm | hm | hm | hm | hm
   .have:=h.mlt _ (.inl hm);omega
   .have:=h.mlt _ (.inr (.inl hm));omega
   .have:=h.mlt _ (.inr (.inr (.inl hm)));omega
   .have:=h.mlt _ (.inr (.inr (.inr (.inl hm))));omega
   .have R:y.block=rb:=hm;rcases o'.2 with ⟨p,_⟩ | ⟨r',_,_,p,_,hg,_⟩
    .cases p
    .simp only [Rv,Option.some.injEq,Addr.mk.injEq] at p;obtain ⟨⟨J,_⟩,_⟩:=p;exact ay hg (by decide) N (by rw [hy];show some r'=some y.block;rw [R,J])
   .have:=h.mlt _ (.inr (.inr (.inr (.inr (.inr hm)))));omega
  .exact C _ h1 hm
 refine ⟨⟨hb,fM h.sh he,fj cW h.ex he,iD h.sa he,⟨a0,a1,a2,a3,a5,V,iE hp he⟩,aW h.bu he,aW h.it he,⟨rows++[[.slice A1 e.1.length c1,.slice Q e.2.length c2]],?_,by simp [r2],?_,λj z N=>?_⟩,
  u (by decide) (by decide) h.oP,u (by decide) (by decide) h.oM,u (by decide) (by decide) h.oG,u (by decide) (by decide) h.oO,h.dj,λk _ hm=>(I k hm).elim (hn k) (C k),h.wP,h.wM,h.wG,h.ox,h.xw⟩,I⟩
 .rw [Rs,List.flatten_cons,List.flatten_nil,List.append_nil];exact o'
 .intro r hr;rcases Rw.1 hr with hr | hr
  .exact r3 r hr
  .rw [List.mem_singleton.1 hr];rfl
 .rcases QO j m.rc.length with O | O
  .have o:(m.rc++[e])[j]?=some z:=N;rw [Rk O] at o;have J:cF (rows++[[.slice A1 e.1.length c1,.slice Q e.2.length c2]]) j=cF rows j:=by simp [cF,Rk (show j<rows.length by omega)]
   rw [J];exact cW (r4 j z o) he
  .have o:(m.rc++[e])[j]?=some z:=N;have Z:j=m.rc.length:=by have:=(Ri.1 o).1;simp at this;omega
   subst Z;simp at o;subst o;have J:cF (rows++[[.slice A1 e.1.length c1,.slice Q e.2.length c2]]) m.rc.length=[.slice A1 e.1.length c1,.slice Q e.2.length c2]:=by rw [<-r2];simp [cF]
   rw [J];exact ⟨A1,c1,Q,c2,rfl,⟨a7,z3,mV (Rd.own U) (L U),z5⟩,⟨a4,z4,mV (Rd.own T) (L T),z6⟩⟩
theorem IJ {w:R8} {g n c:Nat} {xs:R7} (p:R9) (h:w.ownsRow 0 2 1 (.slice (some (ar g 0)) n c) n xs) (hn:0<n): (Builtin.clear_ #[73] p #[.slice (some (ar g 0)) n c]).run prog w=.ok (.tuple #[]) (w.setCells g 0 (List.replicate n (RI 0))):=by
 obtain ⟨i,v,o,_⟩:=nc.info;have hl:=h.1;refine Lib.run_clear_slice w 73 2 p (RI 0) nc.und (λx=>?_) rfl rfl g 0 n c hn (λj u=>?_) (λj u=>?_)
 .simp [zeroValue,typeInfo,v,o]
 .rw [RB,h.cellAt j ap,Rj ap];rfl
 .rw [RB];exact h.frozenAt j
theorem Bb {H:Nat->Prop} {w:R8} {b x:Nat} {i:Inp} {a:MAd} {m:Mst} (h:aU H w b i x a m) (hn:∀k,Mut b a k->¬H k) (U:∀k,w.heap.size<=k->¬H k) (hs:bD i) (hl:m.rc.length<=1000) (y:Itm) (u v:Value) (hu:u.oneCell'=true) (hv:v.oneCell'=true):Calls prog 217 #[(au b),.agg (bC y).toArray,.agg #[u,v]] w λe p=>e=.returned (RI 0)/\Did H (λ_=>False) b i x a m w.heap.size (λ_ m1=>m1={m with rc:=m.rc++[(m.P,m.M)],G:=List.replicate i.start.length 0}) w p:=by
 have D:=h.blk;have aM:=hs.n;have a6:0<i.start.length:=hs.n1;obtain ⟨W0,W1,a3,a2,g0,g1,J, -⟩:=gM w (bC y).toArray #[u,v] 135 324;obtain ⟨rows,r1,r2,r3,r4⟩:=h.re;have O:=sb D _ J;have a1:=az r1 J
 have nt:b≠a.rb:=λe=>by
  rcases r1.2 with ⟨e',_⟩ | ⟨r',_,_,e',_,hg,_⟩
  .cases e'
  .simp only [Rv,Option.some.injEq,Addr.mk.injEq] at e';obtain ⟨⟨e1,_⟩,_⟩:=e';rw [e,e1,hg] at D;simp at D
 have kb:=λp (q:Keep (λj=>j=a.rb) W1 p)=>(q.block b (Qw O) nt).trans O;have aG:∀p,Keep (λj=>j=a.rb) W1 p->p.cell? (ar b 14)=some (.slice (some (ar a.rb 0)) m.rc.length a.rc):=λp q=>Qz p b 14 _ _ _ (kb p q);have a7:∀p,Keep (λj=>j=a.rb) W1 p->p.cell? (ar b 11)=some (.slice (some (ar a.bp 0)) i.start.length a.cp):=λp q=>Qz p b 11 _ _ _ (kb p q);have a9:∀p,Keep (λj=>j=a.rb) W1 p->p.cell? (ar b 12)=some (.slice (some (ar a.bm 0)) i.start.length a.cm):=λp q=>Qz p b 12 _ _ _ (kb p q);have a5:=λp (q:aq W1 p)=>kY (some (ar a.bp 0)) (some (ar a.bm 0)) i.start.length a.cp a.cm m.P m.M p (Rd.own (az (az h.oP J) q)) (Rd.own (az (az h.oM J) q)) h.wP.1 h.wM.1 ap;obtain ⟨av,ab,KB,R1,K1,Q,Hn,T⟩:=ak a3 a2 kb a1 J h hn U;obtain ⟨NT,ad,R2,R3,R4⟩:=ah nt a5 r2 r3 r4;have q0:Keep (λj=>j=a.rb) W1 W1.drew:=(Keep.refl _ _).drew;have tl:=λp (q:Keep (λj=>j=a.rb) W1 p)=>QE (Qw O) q.size;clear a3 a2 g0 g1 J O a1 nt kb D h hn U a5 r1 r2 r3 r4;go_enter func217,ntmps217;go_wp2_with fail;rw [av.o,ab.o];refine XA.g 12 (λp:R8=>Keep (λj=>j=a.rb) W1 p) ?_;refine XA.t ?_ [0,1,2,3,4,5,6,7,8] q0 ?_;refine XA.c 9 (ad.o _ ((br W1).drew)) ?_;rintro e R ⟨A1,c1,V,c2,rfl,b4,b0,o1,o2, -,k3⟩;have b3:aq W1 R:=(br W1).drew.trans k3;have q3:Keep (λj=>j=a.rb) W1 R:=Keep.below b3;refine ⟨_,rfl,q3,λ_=>?_⟩;refine XA.v 10 (R.alloc (.cells #[.slice A1 i.start.length c1,.slice V i.start.length c2] 91)) (.slice (some (ar R.heap.size 0)) 1 1) (q3.alloc _) ?_;refine XA.o 11 (λK' hK=>?_);have hO:=(az R1.o b3).alloc (.cells #[.slice A1 i.start.length c1,.slice V i.start.length c2] 91);refine bW LU (.tmp 11) (.tmp 17) rfl rfl 0 (.slice (some (ar a.rb 0)) m.rc.length a.rc) m.rc.length _ rfl hO (some (ar R.heap.size 0)) 1 1 [.slice A1 i.start.length c1,.slice V i.start.length c2] rfl (λk u hu=>⟨_,_,rfl,by rw [RB,Qz _ R.heap.size k _ 91 (0,0) (Qy R _)];simpa using hu⟩) rfl (by simp [Value.oneCell']) ap (by unfold maxLen;omega) (QB _) ?_;intro A5 c5 L o5 b5 g5 a0
 have ao:∃g,A5=some (ar g 0):=by
  obtain ⟨g,_,e,_⟩:=o5.form ap;simp only [Rv] at e;exact ⟨g,e.1⟩
 obtain ⟨g,rfl⟩:=ao;have q5:=(q3.alloc (.cells #[.slice A1 i.start.length c1,.slice V i.start.length c2] 91)).grown g5 (λk hk=>.inr (by cases hk;rfl));refine hK.out _ _ q5 λ_=>?_;refine XA.e ?_;simp only [Re,Rf];have B:=KB.o L q5;have C:(m.rc++[(m.P,m.M)]).length=m.rc.length+1:=by simp
 have e8:=ss (i:=14) (v:=.slice (some (ar g 0)) (m.rc.length+1) c5) B rfl;have k8:Keep (λk=>k=b) L (L.setCell (ar b 14) (.slice (some (ar g 0)) (m.rc.length+1) c5)):=Keep.setCell (S:=λk=>k=b) (Keep.refl _ _) _ (.inr rfl) _;have o8:=k8.own o5 (λj hj e=>ay B (by decide) o5 (by rw [hj,e]));have z1:=iS (o1.alloc (.cells #[.slice A1 i.start.length c1,.slice V i.start.length c2] 91)) hO g5 (by decide);have z2:=iS (o2.alloc (.cells #[.slice A1 i.start.length c1,.slice V i.start.length c2] 91)) hO g5 (by decide);have Y:=aF (base':=w.heap.size) (k8.own z1 (λj hj e=>ay B (by decide) z1 (by rw [hj,e]))) (QD K1.o.size (br W1).drew.size);have Z:=aF (base':=w.heap.size) (k8.own z2 (λj hj e=>ay B (by decide) z2 (by rw [hj,e]))) (QD K1.o.size (br W1).drew.size);have aR:L.cell? (ar b 14)=some (.slice (some (ar a.rb 0)) m.rc.length a.rc):=Qz L b 14 _ _ _ B;have b1:=QG L b 14 _ _ B;have l5:=Qw B;have I:Keep (λk=>k=b\/k=a.rb) w (L.setCell (ar b 14) (.slice (some (ar g 0)) (m.rc.length+1) c5)):=((Keep.below K1.o).trans (q5.mono λk _ e=>.inr e)).trans (k8.mono λk _ e=>.inl e);have N:(L.setCell (ar b 14) (.slice (some (ar g 0)) (m.rc.length+1) c5)).cell? (ar b 13)=some (.slice (some (ar a.bg 0)) i.start.length a.cg):=Qz _ b 13 _ _ _ e8;rw [<-C] at e8 o8 I N
 have a4:eD (L.setCell (ar b 14) (.slice (some (ar g 0)) (m.rc++[(m.P,m.M)]).length c5)) w.heap.size [.slice A1 i.start.length c1,.slice V i.start.length c2] (m.P,m.M):=by
  rw [C];refine ⟨_,_,rfl,?_,?_,?_,?_,Q.o.wP.2,Q.o.wM.2⟩
  .show World.ownsRow _ _ _ _ _ m.P.length _;rw [Q.o.wP.1];exact Y
  .show World.ownsRow _ _ _ _ _ m.M.length _;rw [Q.o.wM.1];exact Z
  .show m.P.length<=_;rw [Q.o.wP.1];omega
  .show m.M.length<=_;rw [Q.o.wM.1];omega
 have A:=Q.o.setR Hn.o T.o g c5 (m.P,m.M) _ _ I e8 rows R2.o R3.o R4.o o8 a4 (by
  rcases a0 with h1 | h1
  .left;simpa [Value.ownBlock] using h1
  .right
   have h2:g=R.heap.size+1:=by simpa [Value.ownBlock] using h1
   have:=K1.o.size;have:=b3.size
   omega)
 rw [C] at A N I;obtain ⟨w8,a8⟩:∃w8,L.setCell (ar b 14) (.slice (some (ar g 0)) (m.rc.length+1) c5)=w8:=⟨_,rfl⟩;rw [a8] at A N I;have b2:b<w8.heap.size:=aB N;have aP:=λty=>IJ ty A.1.oG a6;have k9:=lQ (g:=a.bg) (List.replicate i.start.length (RI 0)) 0 w8;have o9:=mW (List.replicate i.start.length (RI 0)) 0 w8 _ A.1.oG (by simp)
 have e9:(aA .i64 m.G).take 0++List.replicate i.start.length (Value.int .i64 0)++(aA .i64 m.G).drop (0+(List.replicate i.start.length (Value.int .i64 0)).length)=aA .i64 (List.replicate i.start.length 0):=by
  rw [List.take_zero,List.nil_append,Rp,RB,List.drop_eq_nil_of_le (by rw [bU,Q.o.wG.1];exact Qx _),List.append_nil,fI]
 rw [e9] at o9;have hG:=A.1.setG (λk hk=>(A.2 k hk).elim (Hn.o k) (T.o k)) k9 (List.replicate i.start.length 0) o9 ⟨by simp,tB _⟩;have HF:=aa (⟨_,_,hG,rfl,rfl,(I.sub (λk e=>.inl (e.elim .inl (λe=>.inr (.inr (.inr (.inr (.inl e)))))))).trans (k9.sub (λk e=>.inl (.inr (.inr (.inr (.inl e)))))),A.2,⟨rfl,rfl,rfl⟩,rfl⟩:Did H (λ_=>False) b i x a m w.heap.size (λ_ m1=>m1={m with rc:=m.rc++[(m.P,m.M)],G:=List.replicate i.start.length 0}) w _);clear hG A I o9 e9 k9 a4 z1 z2 Y Z o8 e8 k8 B a0 g5 b5 o5 q5 hO q0 aG a7 a9 hK K' C o1 o2 k3 b3 q3 tl;go_wp2_with fail;go_ret;exact ⟨rfl,HF.o⟩
theorem NX (j n:Nat):((j:Int)==(n:Int))=decide (j=n):=by rw [Bool.eq_iff_iff];simp;omega
theorem BK (X n j:Nat) (w:R8) (i:w.cell? (ar X 2)=some (RI (n:Nat))):Calls prog 226 #[RI (j:Nat),(au X)] w λe h=>e=.returned (.bool (decide (j=n)))/\h=w:=by
 go_enter func226,ntmps226;go_wp2_with fail;go_ret;exact ⟨by simp [NX],rfl⟩
theorem vl {l:List Nat} {k j:Nat} (h:l[k]?=some j):(aA .i64 (eF l))[k]?=some (RI (j:Nat)):=by simp [aA,eF,h]
def Py (l:List Nat) (n:Nat) (w:R8) (e:Ending) (h:R8):Prop:=((∃k,k<l.length/\l[k]?=some n/\(∀j,j<k->l[j]?≠some n)/\e=.returned (RI (k:Nat)))\/((∀j,j<l.length->l[j]?≠some n)/\e=.returned (RI (-1))))/\h=w
theorem NJ (A:N_) (l:List Nat) (c X n:Nat) (w:R8) (hA:Rd w A (aA .i64 (eF l))) (hl:l.length<=1000) (Q:w.cell? (ar X 2)=some (RI (n:Nat))):Calls prog 133 #[.slice A l.length c,.func (.func 226) #[] #[(au X)]] w (Py l n w):=by
 have i:=λj=>BK X n j w Q;obtain ⟨N,H⟩:∃N,l.length=N:=⟨_,rfl⟩;have B:∀e J,((∃k,k<N/\l[k]?=some n/\(∀j,j<k->l[j]?≠some n)/\e=.returned (RI (k:Nat)))\/((∀j,j<N->l[j]?≠some n)/\e=.returned (RI (-1))))/\J=w->Py l n w e J:=λe J h=>by rw [<-H] at h;exact h
 rw [H] at hl |-;obtain ⟨V,HA,Z,R⟩:=ag i hA H B;clear i hA H Q B;go_enter func133,ntmps133;go_wp2_with fail
 go_loopw [8] (λy wr=>∃k:Nat,k<=N/\y=RI k/\(∀j,j<k->l[j]?≠some n)/\wr=w) (λy _=>N-(intOf y).toNat)
 .exact ⟨0,QB _,rfl,λj hj=>ap,rfl⟩
 case round=>
  obtain ⟨k,hk,rfl,C,rfl⟩:=hrel;have u:=aa C;clear C;by_cases D:k<N
  .have L:(k:Int)<N:=ap;have U:¬(k:Int)<0:=ap;have Y:IntKind.i64.wrap ((k:Int)+1)=((k+1:Nat):Int):=by rw [QC _ ap];push_cast;rfl
   obtain ⟨v,O⟩:∃v,l[k]?=some v:=⟨_,Rj (by rw [Z.o];exact D)⟩;obtain ⟨b,o,rfl,x⟩:=HA.o k _ (vl O);have lb:=aB x;have T:=aa O;clear O;go_wp2_with fail;refine (V.o v).mono ?_;rintro e w2 ⟨rfl,rfl⟩;by_cases p:v=n
   .subst p;rw [RC rfl];go_wp2_with fail;go_ret;exact R.o _ _ ⟨.inl ⟨k,D,T.o,u.o,rfl⟩,rfl⟩
   .rw [RD p];have I:=aa p;clear p;go_wp2_with fail;go_roundw
    case rel=>
     refine ⟨k+1,by omega,by go_num,λj hj=>?_,trivial⟩;rcases QO j k with h | h
     .exact u.o j h
     .obtain rfl:j=k:=ap;rw [T.o];intro h;exact I.o (by simpa using h)
    case measure=>simp [intOf];omega
  .have L:¬(k:Int)<N:=ap;obtain rfl:k=N:=ap;go_wp2_with fail;go_ret;exact R.o _ _ ⟨.inr ⟨u.o,rfl⟩,rfl⟩
theorem GH {w:R8} {base g n c k:Nat} {e:R9} {xs:R7} (h:w.ownsRow base e 1 (.slice (some (ar g 0)) n c) n xs) (hk:k<=n):w.ownsRow base e 1 (.slice (some (ar g 0)) k c) k (xs.take k):=by
 have hl:=h.1;rcases h.2 with ⟨i,_⟩ | ⟨A,cap,o,i,h1,u,y,v,x,p⟩
 .cases i
 .simp only [Rv,Option.some.injEq,Addr.mk.injEq] at i;obtain ⟨⟨rfl,_⟩,_,rfl⟩:=i;refine ⟨by rw [Rn];omega,.inr ⟨g,c,o,rfl,h1,u,by omega,v,x,?_⟩⟩;rw [<-p,List.take_take];congr 1;omega
def iu (l:List Nat) (n:Nat):List Nat:=l.filter λj=>decide (j≠n)
def On (l:List Nat) (n base g c:Nat) (w:R8) (e:Ending) (h:R8):Prop:=e=.returned (.slice (some (ar g 0)) (iu l n).length c)/\h.ownsRow base 3 1 (.slice (some (ar g 0)) (iu l n).length c) (iu l n).length (aA .i64 (eF (iu l n)))/\Keep (λj=>j=g) w h
theorem DA (l:List Nat) (k:Nat):(aA .i64 (eF l)).take k=aA .i64 (eF (l.take k)):=by simp [aA,eF,List.map_take]
theorem Iv (l:List Nat) (k v:Nat):(aA .i64 (eF l)).set k (RI (v:Nat))=aA .i64 (eF (l.set k v)):=by simp [aA,eF,List.map_set]
theorem Me {l R:List Nat} {n i j v:Nat} (o:l[j]?=some v) (h1:R.take i=iu (l.take j) n) (p:R.drop j=l.drop j) (u:i<j) (hl:R.length=l.length) (h:v≠n):(R.set i v).take (i+1)=iu (l.take (j+1)) n/\(R.set i v).drop (j+1)=l.drop (j+1):=by
 have x:=(Ri.1 o).1;constructor
 .rw [List.take_add_one,List.take_set_of_le (Qx i),h1,List.take_add_one,o];simp [iu,List.filter_append,h,show i<R.length by omega]
 .rw [List.drop_set_of_lt ap];have:=congrArg (List.drop 1) p;simpa [List.drop_drop] using this
theorem Mf {l R:List Nat} {n i j:Nat} (h:l[j]?=some n) (h1:R.take i=iu (l.take j) n) (o:R.drop j=l.drop j):R.take i=iu (l.take (j+1)) n/\R.drop (j+1)=l.drop (j+1):=by
 constructor
 .rw [h1,List.take_add_one,h];simp [iu,List.filter_append]
 .have:=congrArg (List.drop 1) o;simpa [List.drop_drop] using this
theorem Mg {l:List Nat} {n:Nat} (h:∀j,j<l.length->l[j]?≠some n):iu l n=l:=by
 refine List.filter_eq_self.2 λx o=>?_;obtain ⟨j,i,rfl⟩:=List.getElem_of_mem o;have:=h j i;rw [Rj i] at this;simpa using this
theorem Md (g c X n base:Nat) (l:List Nat) (w:R8) (Y:w.ownsRow base 3 1 (.slice (some (ar g 0)) l.length c) l.length (aA .i64 (eF l))) (hl:l.length<=1000) (hX:w.cell? (ar X 2)=some (RI (n:Nat))) (aM:X≠g):Calls prog 225 #[.slice (some (ar g 0)) l.length c,.func (.func 226) #[] #[(au X)]] w (On l n base g c w):=by
 have I:=NJ (some (ar g 0)) l c X n w (Rd.own Y) hl hX;have H:=λj V (q:Keep (λj=>j=g) w V)=>BK X n j V (q.cell hX aM)
 have a2:l.length<=c:=by
  obtain ⟨_,_,e,h⟩:=aD Y;simp only [Rv] at e;omega
 obtain ⟨N,hN⟩:∃N,l.length=N:=⟨_,rfl⟩;unfold Py at I;rw [hN] at I Y hl a2 |-;have b4:=(Y.lt g rfl).2;obtain ⟨a8,Hc,HO,T⟩:=ag I H Y hN;clear I H Y hN hX;go_enter func225,ntmps225;go_wp2_with fail;refine a8.o.mono ?_;rintro e V ⟨h,rfl⟩;rcases h with ⟨k,ao,hk,u,rfl⟩ | ⟨u,rfl⟩
 rotate_left
 .have hd:=Mg (n:=n) (l:=l) (by rw [T.o];exact u);have HD:=aa hd;clear u hd;go_wp2_with fail;go_ret;refine ⟨by rw [HD.o,T.o];rfl,by rw [HD.o,T.o];exact HO.o,Keep.refl _ _⟩
 .have b2:¬(k:Int)= -1:=ap;have b5:IntKind.i64.wrap ((k:Int)+1)=((k+1:Nat):Int):=by rw [QC _ ap];push_cast;rfl
  have h0:l.take k=iu (l.take (k+1)) n:=by
   rw [List.take_add_one,hk];simp only [iu,List.filter_append,Option.toList,List.filter_cons,List.filter_nil];simp only [ne_eq,not_true_eq_false,decide_false,Bool.false_eq_true,if_false,List.append_nil]
   exact (List.filter_eq_self.2 λx hx=>by
    obtain ⟨j,hj,rfl⟩:=List.getElem_of_mem hx;rw [Rn] at hj;have:=u j ap;rw [Rj ap] at this
    simpa using this).symm
  have H0:=aa h0;clear hk u h0;go_wp2_with fail
  go_loopw [5,6] (λy5 y6 wr=>∃i j:Nat,∃R:List Nat,y5=RI i/\y6=RI j/\i<j/\j<=N/\R.length=N/\R.take i=iu (l.take j) n/\R.drop j=l.drop j/\wr.ownsRow base 3 1 (.slice (some (ar g 0)) N c) N (aA .i64 (eF R))/\Keep (λj=>j=g) V wr) (λ_ y _=>N-(intOf y).toNat)
  .exact ⟨k,k+1,l,rfl,by push_cast;rfl,by omega,ao,T.o,H0.o,rfl,HO.o,Keep.refl _ _⟩
  case round=>
   obtain ⟨i,j,R,rfl,rfl,ab,be,hR,h1,h2,J,Z⟩:=hrel;have b7:(i:Int)<N:=ap;have b3:¬(i:Int)<0:=ap;have fr:=J.frozenAt i;obtain ⟨ri,U⟩:∃ri,R[i]?=some ri:=⟨_,Rj ap⟩;have ci:=J.cellAt i ap;rw [vl U] at ci;have b6:g<wr.heap.size:=(J.lt g rfl).2;by_cases L:j<N
   .have ad:(j:Int)<N:=ap;have b9:¬(j:Int)<0:=ap;have b1:IntKind.i64.wrap ((i:Int)+1)=((i+1:Nat):Int):=by rw [QC _ ap];push_cast;rfl
    have b8:IntKind.i64.wrap ((j:Int)+1)=((j+1:Nat):Int):=by rw [QC _ ap];push_cast;rfl
    obtain ⟨v,hv⟩:∃v,l[j]?=some v:=⟨_,Rj (by rw [T.o];exact L)⟩
    have a0:R[j]?=some v:=by
     have:=congrArg (λz=>z[0]?) h2;simpa [List.getElem?_drop,hv] using this
    have cj:=J.cellAt j ap;rw [vl a0] at cj;obtain ⟨a9,O,QK⟩:=af (Hc.o v wr Z) J Z;have D:=λh=>Me hv h1 h2 ab (hR.trans T.o.symm) h;have B:=λh:v=n=>Mf (by rw [<-h];exact hv) h1 h2;obtain ⟨a7,a5,HR⟩:=af D B hR;clear hv a0 h1 h2 J Z D B U hR;go_wp2_with fail;refine a9.o.mono ?_;rintro e w2 ⟨rfl,rfl⟩;by_cases p:v=n
    .rw [RC p];have A:=aa p;clear p;go_wp2_with fail;go_roundw
     ·(repeat apply Exists.intro);exact ⟨⟨i,j+1,R,rfl,by go_num,by omega,L,HR.o,(a5.o A.o).1,(a5.o A.o).2,O.o,QK.o⟩,rfl⟩
     .simp [intOf];omega
    .rw [RD p];have A:=aa p;clear p;go_wp2_with fail;go_roundw
     ·(repeat apply Exists.intro);exact ⟨⟨i+1,j+1,R.set i v,by go_num,by go_num,by omega,L,by rw [List.length_set];exact HR.o,(a7.o A.o).1,(a7.o A.o).2,by have:=(O.o.stored i (RI (v:Nat))).1;rwa [Iv] at this,Keep.setCell (S:=λj=>j=g) QK.o (ar g i) (.inr rfl) _⟩,rfl⟩
     .simp [intOf];omega
   .obtain rfl:j=N:=ap;have ad:¬(j:Int)<j:=ap;have av:l.take j=l:=List.take_of_length_le (by rw [T.o];exact Qx _);rw [av] at h1;obtain ⟨HD,O,QK,HR⟩:=ag h1 J Z hR;clear h1 h2 J Z U hR;have aG:i<=j:=ap;have bf:(i:Int)<=j:=ap;have bb:(i:Int)<=c:=ap;have b0:i<=c:=ap;have aP:¬c=i:=ap;have C:(iu l n).length=i:=by rw [<-HD.o,Rn];have:=HR.o;omega
    obtain ⟨zi,a4,a6,_⟩:=gq.info;have aR:=Lib.run_clear_slice wr 22 3 0 (RI 0) gq.und (λV=>by simp [zeroValue,typeInfo,a4,a6]) rfl rfl g i (j-i) (c-i) ap (λt ht=>by rw [O.o.cellAt (i+t) ap,Rj (by have:=O.o.1;omega)];rfl) (λt ht=>O.o.frozenAt (i+t));have o9:=mW (List.replicate (j-i) (RI 0)) i wr _ O.o (by rw [Rp];omega);have Q:=GH o9 aG
    have a3:(((aA .i64 (eF R)).take i++List.replicate (j-i) (Value.int .i64 0)++(aA .i64 (eF R)).drop (i+(List.replicate (j-i) (Value.int .i64 0)).length)).take i)=aA .i64 (eF (iu l n)):=by
     rw [Ro,List.take_append_of_le_length (by rw [Rn,bU,mq,HR.o];omega),List.take_take,Nat.min_self,DA,HD.o]
    rw [a3] at Q;have a1:=QK.o.trans (lQ (g:=g) (List.replicate (j-i) (RI 0)) i wr);have HF:=aa (⟨by rw [C],by rw [C];exact Q,a1⟩:On l n base g c V (.returned (.slice (some (ar g 0)) i c)) _);clear o9 Q a3 a1 a4 a6 C;go_wp2_with fail;go_ret;exact HF.o
theorem aU.setPM {H:Nat->Prop} {w y:R8} {b x:Nat} {i:Inp} {a:MAd} {m:Mst} (h:aU H w b i x a m) (hn:∀k,Mut b a k->¬H k) (hk:Keep (λk=>k=a.bp\/k=a.bm) w y) (P M:Q_) (oP:y.ownsRow 0 2 1 (.slice (some (ar a.bp 0)) i.start.length a.cp) i.start.length (aA .i64 P)) (oM:y.ownsRow 0 2 1 (.slice (some (ar a.bm 0)) i.start.length a.cm) i.start.length (aA .i64 M)) (wP:P.length=i.start.length/\W64 P) (wM:M.length=i.start.length/\W64 M):aU H y b i x a {m with P:=P,M:=M}:=by
 have he:Ext (aH (ib H b a) w) (aH (ib H b a) y):=bP (hk.mono λk _ e=>.inl (.inr (e.elim .inl λe=>.inr (.inl e)))) (λk _ Z=>Z);have nb:∀{r n c:Nat} {xs:R7},w.ownsRow 0 2 1 (.slice (some (ar r 0)) n c) n xs->b≠r:=λo e=>ay h.blk (by decide) o (by rw [e];rfl);have hb:=(hk.block b (Qw h.blk) (λe=>e.elim (nb h.oP) (nb h.oM))).trans h.blk
 have D:∀{r n c:Nat} {ys:R7} {v:Value} {e:R9} {size k:Nat} {xs:R7},w.ownsRow 0 2 1 (.slice (some (ar r 0)) n c) n ys->e≠2->w.ownsRow 0 e size v k xs->∀j,v.ownBlock=some j->j≠r:=λhr p u j A e=>by
  rcases hr.2 with ⟨B,_⟩ | ⟨r',_,_,B,_,hg,_⟩
  .cases B
  .simp only [Rv,Option.some.injEq,Addr.mk.injEq] at B;obtain ⟨⟨V,_⟩,_⟩:=B;exact ay hg (Ne.symm p) u (by rw [A,e,V])
 have u:∀{v:Value} {e:R9} {size n:Nat} {xs:R7},e≠2->w.ownsRow 0 e size v n xs->y.ownsRow 0 e size v n xs:=λp u=>hk.own u (λj A e=>e.elim (D h.oP p u j A) (D h.oM p u j A));obtain ⟨U,a1,Y,N,O,C,Q⟩:=h.pl;obtain ⟨rows,J,T,I,L⟩:=h.re
 exact ⟨hb,fM h.sh he,fj cW h.ex he,iD h.sa he,⟨U,a1,Y,N,O,C,iE Q he⟩,aW h.bu he,aW h.it he,⟨rows,u (by decide) J,T,I,λj x R=>cW (L j x R) he⟩,
  oP,oM,hk.own h.oG (λj A e=>by cases A;exact e.elim (λe=>h.dj.2.1 e.symm) (λe=>h.dj.2.2 e.symm)),u (by decide) h.oO,h.dj,λk _ hm=>hn k hm,wP,wM,h.wG,h.ox,h.xw⟩
theorem Ff {ra o q:Int} {ps ms g:Q_} {lo k:Nat} (h:W64 ps):W64 (apP ra o q ps ms g lo k):=fU λj i=>by
 split
 .exact ig _
 .have:=h j i;rw [dB _ _ i];simpa [dB _ _ i] using this
theorem Nb:dg prog 69 2:=⟨⟨_,underlying69,rfl⟩,by kernel_rfl⟩
theorem KU {H:Nat->Prop} {w:R8} {b x:Nat} {i:Inp} {a:MAd} {m:Mst} (h:aU H w b i x a m) (hn:∀k,Mut b a k->¬H k) (a0:∀k,w.heap.size<=k->¬H k) (hs:bD i) (y:Itm) (u v:Value) (hu:u.oneCell'=true) (hv:v.oneCell'=true) (bv:y.n<(ax i).buks.length) (bl:0<m.op.length) (b5:m.op.length<=1000) (b2: -9223372036854775808<=i.cfg.rate/\i.cfg.rate<=9223372036854775807) (b3: -9223372036854775808<=i.cfg.mom/\i.cfg.mom<=9223372036854775807) (lo B:Nat) (hr:aK (ax i).buks y.n=(lo,B)) (c8:lo<B) (cc:B<=i.start.length):Calls prog 216 #[(au b),.agg (bC y).toArray,.agg #[u,v]] w λe A=>e=.returned (RI 0)/\Did H (λ_=>False) b i x a m w.heap.size (λ_ m1=>m1={m with P:=apP i.cfg.rate i.cfg.mom i.cfg.shift m.P m.M ((m.G.drop lo).take (B-lo)) lo (B-lo),M:=apM i.cfg.mom i.cfg.shift m.M ((m.G.drop lo).take (B-lo)) lo (B-lo),op:=iu m.op y.n}) w A:=by
 have Z:=h.blk;have bA:=hs.n;obtain ⟨W0,W1,ao,ad,g0,g1,T, -⟩:=gM w (bC y).toArray #[u,v] 135 324;have U:=sb Z _ T;have a5:=aW h.bu (iF (S:=ib H b a) (Keep.below (S:=ib H b a) T));have O:=eA bv;rw [hr] at O;obtain ⟨bb,bo,a4,aR⟩:=a5 _ _ O.1;obtain ⟨b1,bs,e',a2⟩:=a5 _ _ O.2;rw [a4] at e';obtain ⟨rfl,rfl⟩:b1=bb/\bs=bo:=by simpa using e'.symm
 rw [<-Rz] at a2;have t7:∀A,aq W1 A->A.cell? (ar b 7)=some (.slice a.BA (ax i).buks.length a.bc):=λA q=>Qz A b 7 _ _ _ (sb U A q);rw [a4] at t7;have s2:∀A,aq W1 A->A.cell? (ar w.heap.size 2)=some (RI (y.n:Nat)):=λA q=>Qz A w.heap.size 2 _ _ _ (sb g0 A q);have d0:=λA (q:aq W1 A)=>aw q aR;have d1:=λA (q:aq W1 A)=>aw q a2;have bV:(y.n:Int)<(ax i).buks.length:=ap;have cf:¬(y.n:Int)<0:=ap;have tl:=sl U;obtain ⟨bn,bi,bh,G0,K1,V,Hn,ab⟩:=ak ao ad U g0 T h hn a0;have q0:=(br W1).drew;clear ao ad g0 g1 T U a5 O Z h hn a0 aR a2 a4 hr;go_enter func216,ntmps216;go_wp2_with fail;rw [bn.o,bi.o];refine HA.g (λA:R8=>aq W1 A) ?_;refine HA.t ?_ [0,1,2,3,4,5,6,7,8] q0 ?_;refine HA.v 9 (W1.drew.alloc (.cells #[RI 0,RI 0] 69)) ((au W1.heap.size)) (q0.alloc (Qx _) _) ?_;refine HA.st 10 (Qy W1.drew _) Nb (λC e2 k2=>?_);have q2:aq W1 C:=q0.trans (aO k2);refine ⟨q2,HA.d ?_⟩;rw [Ru] at e2;have D:=V.o.mlt;have ci:=K1.o.size;have Q:=sb bh.o C q2;have a7:=sb G0.o C q2;have B2:=bt K1.o q2;have bG:w.heap.size<W1.heap.size:=Qw G0.o;have bz:b≠a.bp:=λe=>ay V.o.blk (by decide) V.o.oP (by rw [e];rfl);have b4:b≠a.bm:=λe=>ay V.o.blk (by decide) V.o.oM (by rw [e];rfl);have bX:=D a.bp (.inr (.inl rfl));have cn:=D a.bm (.inr (.inr (.inl rfl)));have kb:=λA (q:Keep (λk=>k=a.bp\/k=a.bm) C A)=>(q.block b (Qw Q) (λe=>e.elim bz b4)).trans Q;have kx:=λA (q:Keep (λk=>k=a.bp\/k=a.bm) C A)=>(q.block W1.heap.size (Qw e2) (λe=>e.elim (λe=>ap) (λe=>ap))).trans e2;have r8:∀A,Keep (λk=>k=a.bp\/k=a.bm) C A->A.cell? (ar b 8)=some (RI i.cfg.rate):=λA q=>Qz A b 8 _ _ _ (kb A q);have r9:∀A,Keep (λk=>k=a.bp\/k=a.bm) C A->A.cell? (ar b 9)=some (RI i.cfg.mom):=λA q=>Qz A b 9 _ _ _ (kb A q);have be:∀A,Keep (λk=>k=a.bp\/k=a.bm) C A->A.cell? (ar b 10)=some (RI i.cfg.shift):=λA q=>Qz A b 10 _ _ _ (kb A q);have b6:∀A,Keep (λk=>k=a.bp\/k=a.bm) C A->A.cell? (ar b 11)=some (.slice (some (ar a.bp 0)) i.start.length a.cp):=λA q=>Qz A b 11 _ _ _ (kb A q);have bw:∀A,Keep (λk=>k=a.bp\/k=a.bm) C A->A.cell? (ar b 12)=some (.slice (some (ar a.bm 0)) i.start.length a.cm):=λA q=>Qz A b 12 _ _ _ (kb A q);have bf:∀A,Keep (λk=>k=a.bp\/k=a.bm) C A->A.cell? (ar b 13)=some (.slice (some (ar a.bg 0)) i.start.length a.cg):=λA q=>Qz A b 13 _ _ _ (kb A q);have x0:∀A,Keep (λk=>k=a.bp\/k=a.bm) C A->A.cell? (ar W1.heap.size 0)=some (RI (lo:Nat)):=λA q=>Qz A _ 0 _ _ _ (kx A q);have x1:∀A,Keep (λk=>k=a.bp\/k=a.bm) C A->A.cell? (ar W1.heap.size 1)=some (RI (B:Nat)):=λA q=>Qz A _ 1 _ _ _ (kx A q)
 have c6:i.start.length<=a.cg:=by
  obtain ⟨_,_,e,h⟩:=aD V.o.oG;simp only [Rv] at e;omega
 have N:=V.o.below B2 Hn.o
 have hG:Rd C (some (ar a.bg lo)) (aA .i64 ((m.G.drop lo).take (B-lo))):=by
  have:=((Rd.own N.oG).drop lo).take (B-lo)
  rwa [dL,dE,RB] at this
 have a3:=yg i.cfg.rate i.cfg.mom i.cfg.shift 0 i.start.length lo (B-lo) a.cp a.cm (a.cg-lo) (some (ar a.bp 0)) (some (ar a.bm 0)) (some (ar a.bg lo)) m.P m.M ((m.G.drop lo).take (B-lo)) C.drew N.oP.drew N.oM.drew (λj hj e=>by cases hj;exact N.dj.1 (by simpa [Value.ownBlock] using e.symm))
  hG (by rw [Rn,Rq,N.wG.1];omega) ap ap (λz hz e=>by cases hz;exact N.dj.2.1 (by simpa [Value.ownBlock] using e)) (λz hz e=>by cases hz;exact N.dj.2.2 (by simpa [Value.ownBlock] using e)) b2 b3 N.wM.2
 rw [show lo+(B-lo)=B by omega] at a3;have cl:(lo:Int)<=B:=ap;have co:(B:Int)<=a.cg:=ap;have bM:lo<=B:=ap;have bN:B<=a.cg:=ap;have bO:¬a.cg=lo:=ap;have q3:Keep (λk=>k=a.bp\/k=a.bm) C C.drew:=(Keep.refl _ _).drew;have b7:=λA (q:Keep (λk=>k=a.bp\/k=a.bm) C A)=>QE (Qw Q) q.size;have b9:=λA (q:Keep (λk=>k=a.bp\/k=a.bm) C A)=>QE (Qw e2) q.size;obtain ⟨b8,M2,b0,KB,GI⟩:=ah a3 N B2 kb a7;clear t7 s2 d0 d1 tl q0 k2 q2 a3 N B2 kb kx Q a7 e2 hG D;go_wp2_with fail;refine HA.g (λA:R8=>Keep (λk=>k=a.bp\/k=a.bm) C A) ?_;refine HA.t ?_ [0,1,2,3,4,5,6,7,8,9,10,11,12,13,14,15,16,17,18] q3 ?_;refine HA.c 19 b8.o ?_;rintro e w4 ⟨rfl,aP,a9,k4⟩;have q4:Keep (λk=>k=a.bp\/k=a.bm) C w4:=q3.trans (k4.mono λj _ e=>e.imp (λe=>by simpa [Value.ownBlock] using e.symm) (λe=>by simpa [Value.ownBlock] using e.symm));refine ⟨_,rfl,q4,λ_=>?_⟩;refine HA.d ?_;have m4:=M2.o.setPM Hn.o q4 _ _ aP a9 ⟨by rw [pH];exact M2.o.wP.1,Ff M2.o.wP.2⟩ ⟨by rw [pI];exact M2.o.wM.1,zn M2.o.wM.2⟩;have hX:=q4.cell (Qz C w.heap.size 2 _ _ _ GI.o) (p:=(ar w.heap.size 2)) (λe=>e.elim (λe=>by have:w.heap.size=a.bp:=e;omega) (λe=>by have:w.heap.size=a.bm:=e;omega));obtain ⟨g,c,I,c7⟩:=m4.oO.form bl;have c9:=V.o.mlt g (.inr (.inr (.inr (.inr (.inr (by rw [I];rfl))))));have R:=m4.oO;rw [I] at R;have Y:=Md g c w.heap.size y.n 0 m.op w4 R b5 hX ap;have L:=m4.blk;have aG:b≠g:=λe=>ay L (by decide) R (by rw [e];rfl);have cb:w4.cell? (ar b 18)=some (.slice (some (ar g 0)) m.op.length c):=by rw [<-I];exact Qz w4 b 18 _ _ _ L
 have cj:=Qw L;obtain ⟨H4,av,aM,Q4,a6⟩:=ah m4 Y L q4 I;clear m4 hX Y L q4 I R aP a9 k4 r8 r9 be b6 bw bf x0 x1 b7 b9 q3;go_wp2_with fail;refine av.o.mono ?_;rintro e w5 ⟨rfl,o5,k5⟩;have g5:=(k5.block b (Qw aM.o) aG).trans aM.o;have bI:w5.cell? (ar b 18)=some a.ov:=Qz w5 b 18 _ _ _ g5;have cd:=QG w5 b 18 _ _ g5;have l5:=Qw g5;have e6:=ss (i:=18) (v:=.slice (some (ar g 0)) (iu m.op y.n).length c) g5 rfl;have k6:Keep (λk=>k=b) w5 (w5.setCell (ar b 18) (.slice (some (ar g 0)) (iu m.op y.n).length c)):=Keep.setCell (S:=λk=>k=b) (Keep.refl _ _) _ (.inr rfl) _;have o6:=k6.own o5 (λj hj e=>by cases hj;exact aG e.symm);have a1:Keep (λk=>k=b\/a.ov.ownBlock=some k) w4 (w5.setCell (ar b 18) (.slice (some (ar g 0)) (iu m.op y.n).length c)):=(k5.mono λk _ e=>.inr (by rw [a6.o,e];rfl)).trans (k6.mono λk _ e=>.inl e);have a8:w.heap.size<=w4.heap.size:=QD b0.o.size Q4.o.size;have J:=H4.o.setO Hn.o (λk hk=>ab.o k (QD a8 hk)) (.slice (some (ar g 0)) (iu m.op y.n).length c) (iu m.op y.n) a1 e6 o6 (λk hk=>.inl (by rw [a6.o];exact hk));have HF:=aa (⟨_,_,J.1,rfl,rfl,((Keep.below b0.o).trans (Q4.o.sub λk e=>.inl (.inr (e.elim .inl λe=>.inr (.inl e))))).trans (a1.sub λk e=>.inl (e.elim .inl λe=>.inr (.inr (.inr (.inr (.inr e)))))),λk hk=>(J.2 k hk).imp id (λh=>QD a8 h),⟨rfl,rfl,rfl⟩,rfl⟩:Did H (λ_=>False) b i x a m w.heap.size (λ_ m1=>m1={m with P:=apP i.cfg.rate i.cfg.mom i.cfg.shift m.P m.M ((m.G.drop lo).take (B-lo)) lo (B-lo),M:=apM i.cfg.mom i.cfg.shift m.M ((m.G.drop lo).take (B-lo)) lo (B-lo),op:=iu m.op y.n}) w _);clear J a1 e6 k6 o6 o5 k5 g5;go_wp2_with fail;go_ret;exact ⟨rfl,HF.o⟩
theorem Did.older {H G:Nat->Prop} {b:Nat} {i:Inp} {x:Nat} {a:MAd} {m:Mst} {n o:Nat} {T:R8->Mst->Prop} {w p:R8} (h:Did H G b i x a m n T w p) (hn:o<=n):Did H G b i x a m o T w p:=by
 obtain ⟨a1,m1,h1,v,B,y,A,u⟩:=h;exact ⟨a1,m1,h1,v,B,y,λk hk=>(A k hk).imp id λe=>QD hn e,u⟩
theorem Dr {H:Nat->Prop} {w:R8} {b x:Nat} {i:Inp} {a:MAd} {m:Mst} (h:aU H w b i x a m) (hn:∀k,Mut b a k->¬H k) (o:∀k,w.heap.size<=k->¬H k) (hs:bD i) {y:Itm} (B:(cz i x m.st)[m.nx]?=some y) (hk:y.kind=2) (hl:m.op.length<=1000) (u v:N_):Calls prog 204 #[(au b),.pointer u,.pointer v] w λe p=>e=.returned (RI 0)/\Ce H (λ_=>False) b i x a m (λ_ m1=>m1={m with op:=m.op++[y.n]}) w p:=by
 refine (mY h hn o (G:=λ_=>False) (λ_ h=>h.elim) hs B u v 213 (λp=>by rw [hk];kernel_rfl) (λargs w=>by kernel_rfl) (λ_=>False) (λ_ m1=>m1={m with op:=m.op++[y.n]}) (λ_ _ _ h _=>h) (λp q=>?_)).mono ?_
 .refine (Bc (h.below q hn) hn (λk hk=>o k (QD q.size hk)) hl y (.pointer u) (.pointer v) rfl rfl).mono ?_;rintro e D ⟨rfl,A⟩;exact .inl ⟨rfl,A.older q.size⟩
 .rintro e p (⟨rfl,A⟩ | ⟨C,_,I,_⟩)
  .exact ⟨rfl,A⟩
  .exact I.elim
theorem Dq {H:Nat->Prop} {w:R8} {b x:Nat} {i:Inp} {a:MAd} {m:Mst} (h:aU H w b i x a m) (hn:∀k,Mut b a k->¬H k) (o:∀k,w.heap.size<=k->¬H k) (hs:bD i) {y:Itm} (B:(cz i x m.st)[m.nx]?=some y) (hk:y.kind=6) (hl:m.rc.length<=1000) (u v:N_):Calls prog 204 #[(au b),.pointer u,.pointer v] w λe p=>e=.returned (RI 0)/\Ce H (λ_=>False) b i x a m (λ_ m1=>m1={m with rc:=m.rc++[(m.P,m.M)],G:=List.replicate i.start.length 0}) w p:=by
 refine (mY h hn o (G:=λ_=>False) (λ_ h=>h.elim) hs B u v 217 (λp=>by rw [hk];kernel_rfl) (λargs w=>by kernel_rfl) (λ_=>False) (λ_ m1=>m1={m with rc:=m.rc++[(m.P,m.M)],G:=List.replicate i.start.length 0}) (λ_ _ _ h _=>h) (λp q=>?_)).mono ?_
 .refine (Bb (h.below q hn) hn (λk hk=>o k (QD q.size hk)) hs hl y (.pointer u) (.pointer v) rfl rfl).mono ?_;rintro e D ⟨rfl,A⟩;exact .inl ⟨rfl,A.older q.size⟩
 .rintro e p (⟨rfl,A⟩ | ⟨C,_,I,_⟩)
  .exact ⟨rfl,A⟩
  .exact I.elim
theorem NA {H:Nat->Prop} {w:R8} {b x:Nat} {i:Inp} {a:MAd} {m:Mst} (h:aU H w b i x a m) (hn:∀k,Mut b a k->¬H k) (p:∀k,w.heap.size<=k->¬H k) (hs:bD i) {y:Itm} (R:(cz i x m.st)[m.nx]?=some y) (hk:y.kind=5) (u v:N_) (D:y.n<(ax i).buks.length) (Q:0<m.op.length) (J:m.op.length<=1000) (N: -9223372036854775808<=i.cfg.rate/\i.cfg.rate<=9223372036854775807) (L: -9223372036854775808<=i.cfg.mom/\i.cfg.mom<=9223372036854775807) (lo o:Nat) (hr:aK (ax i).buks y.n=(lo,o)) (I:lo<o) (O:o<=i.start.length):Calls prog 204 #[(au b),.pointer u,.pointer v] w λe A=>e=.returned (RI 0)/\Ce H (λ_=>False) b i x a m (λ_ m1=>m1={m with P:=apP i.cfg.rate i.cfg.mom i.cfg.shift m.P m.M ((m.G.drop lo).take (o-lo)) lo (o-lo),M:=apM i.cfg.mom i.cfg.shift m.M ((m.G.drop lo).take (o-lo)) lo (o-lo),op:=iu m.op y.n}) w A:=by
 refine (mY h hn p (G:=λ_=>False) (λ_ h=>h.elim) hs R u v 216 (λA=>by rw [hk];kernel_rfl) (λargs w=>by kernel_rfl) (λ_=>False) (λ_ m1=>m1={m with P:=apP i.cfg.rate i.cfg.mom i.cfg.shift m.P m.M ((m.G.drop lo).take (o-lo)) lo (o-lo),M:=apM i.cfg.mom i.cfg.shift m.M ((m.G.drop lo).take (o-lo)) lo (o-lo),op:=iu m.op y.n}) (λ_ _ _ h _=>h) (λA q=>?_)).mono ?_
 .refine (KU (h.below q hn) hn (λk hk=>p k (QD q.size hk)) hs y (.pointer u) (.pointer v) rfl rfl D Q J N L lo o hr I O).mono ?_;rintro e T ⟨rfl,B⟩;exact .inl ⟨rfl,B.older q.size⟩
 .rintro e A (⟨rfl,B⟩ | ⟨C,_,U,_⟩)
  .exact ⟨rfl,B⟩
  .exact U.elim
theorem xO {p:Pln} {x st:Nat} {y:Itm} (h:y∈aE p x st) (hk:y.kind=2\/y.kind=5):∃g∈p.grps,g.1<=y.n/\y.n<g.2:=by
 unfold aE at h;simp only [Rw,List.mem_map,List.mem_flatMap,List.mem_singleton,List.mem_range] at h;rcases h with (⟨k,i,rfl⟩ | ⟨g,hg,h⟩) | rfl
 .rcases hk with hk | hk<;>cases hk
 .refine ⟨g,hg,?_⟩;unfold dx at h;simp only [Rw,List.mem_map,List.mem_flatMap,List.mem_range'_1] at h;rcases h with (⟨j,o,rfl⟩ | ⟨_,_,_,_,_,_,h⟩) | ⟨j,o,rfl⟩
  .show g.1<=j/\j<g.2
   omega
  .unfold cq at h;obtain ⟨c,_,rfl⟩:=List.mem_map.1 h;unfold fD at hk;rcases hk with hk | hk<;>(split at hk<;>cases hk)
  .show g.1<=j/\j<g.2
   omega
 .rcases hk with hk | hk<;>cases hk
def aC (w:R8) (b:Nat) (ring:Value) (cap sent recv peak:Nat):Prop:=
 w.heap[b]?=some (.cells #[ring,RI cap,RI sent,RI recv,RI peak] 172 (0,0))
section
variable {w:R8} {b:Nat} {ring:Value} {cap sent recv peak:Nat}
theorem aC.c0 (h:aC w b ring cap sent recv peak):w.cell? (ar b 0)=some ring:=Qz w b 0 _ _ _ h
theorem aC.c1 (h:aC w b ring cap sent recv peak):w.cell? (ar b 1)=some (RI cap):=Qz w b 1 _ _ _ h
theorem aC.c2 (h:aC w b ring cap sent recv peak):w.cell? (ar b 2)=some (RI sent):=Qz w b 2 _ _ _ h
theorem aC.c3 (h:aC w b ring cap sent recv peak):w.cell? (ar b 3)=some (RI recv):=Qz w b 3 _ _ _ h
theorem aC.c4 (h:aC w b ring cap sent recv peak):w.cell? (ar b 4)=some (RI peak):=Qz w b 4 _ _ _ h
theorem aC.free (h:aC w b ring cap sent recv peak) (i:Nat):w.frozen? (ar b i)=false:=QG w b i _ _ h
end
theorem mZ (b:Nat) (ring:Value) (cap sent recv peak:Nat) (w:R8) (h:aC w b ring cap sent recv peak) (o:recv<=sent) (hs:sent<=17592186043904):Calls prog 75 #[(au b)] w λe i=>e=.returned (RI ((sent:Int)-recv))/\∃n,i=w.drewN n:=by
 have c2:=h.c2;have c3:=h.c3;go_enter func75,ntmps75;go_wp2
 go_quiet (fail)
 go_wp2;go_ret;exact ⟨rfl,_,rfl⟩
theorem Bp (b:Nat) (x y:Int) (w:R8) (c2:w.cell? (ar b 2)=some (RI x)) (c3:w.cell? (ar b 3)=some (RI y)) (hb:0<=y/\y<=x/\x<=17592186043904):Calls prog 75 #[(au b)] w λe h=>e=.returned (RI (x-y))/\∃n,h=w.drewN n:=by
 go_enter func75,ntmps75;go_wp2
 go_quiet (fail)
 go_wp2;go_ret;exact ⟨rfl,_,rfl⟩
theorem Iq (b:Nat) (ring:Value) (cap sent recv peak:Nat) (n:Int) (w:R8) (h:aC w b ring cap sent recv peak) (hc:1<=cap) (hn:0<=n) (i:cap<=1048576):Calls prog 76 #[(au b),RI n] w λe o=>e=.returned (RI (n%cap))/\w=o:=by
 have c1:=h.c1;go_enter func76,ntmps76;go_wp2;go_ret;exact ⟨rfl,rfl⟩
theorem NF (c:Int) (w:R8) (h:1<=c/\c<=1048576):Calls prog 42 #[RI c] w λe i=>e=.returned ((au w.heap.size))/\i=w.alloc (.cells #[RJ,RI c,RI 0,RI 0,RI 0] 172):=by
 obtain ⟨h1,o⟩:=h;go_enter func42,ntmps42;go_wp2;go_ret;exact ⟨rfl,rfl⟩
theorem Pf:dN prog 26 2 (RI 0) 1 8:=⟨underlying26,info_parts (by kernel_rfl),rfl,by decide⟩
theorem II (A:N_) (zs:Q_) (c:Nat) (w:R8) (hA:Rd w A (aA .i64 zs)) (hl:zs.length<=17592186043904):Calls prog 117 #[.slice A zs.length c] w λe y=>∃v,e=.returned v/\y.ownsRow w.heap.size 2 1 v zs.length (aA .i64 zs)/\aq w y:=by
 have q:=λ(w:R8)=>Lib.run_eql_slice_nil (P:=prog) w 26 2 A zs.length c 0 0 underlying26
 cases A with
 | none=>
  have B:zs=[]:=by
   cases zs with
   | nil=>rfl
   | cons z l=>obtain ⟨b,o,h,_⟩:=hA 0 _ rfl;cases h
  subst B;clear q;have q:=λ(w:R8)=>Lib.run_eql_slice_nil (P:=prog) w 26 2 none 0 c 0 0 underlying26;simp only [Option.isNone_none] at q;rw [List.length_nil];go_enter func117,ntmps117;go_wp2;go_ret;exact ⟨_,rfl,QI _ _ _ _,QA _ _⟩
 | some a=>
  go_enter func117,ntmps117;go_wp2_with (at_builtin;refine dK Pf _ rfl (.tmp 5) (.tmp 6) rfl w.heap.size _ 0 [] rfl (fh w 2 1) _ zs.length c (aA .i64 zs) rfl (hA.alloc _) (by rw [bU];omega) (cH _ _) ap (by unfold maxLen;omega) (by simp) ?_);intro H D C i hb _ _;have u:=((QA _ w).alloc (Qx _) (.cells #[] 2)).trans hb;obtain ⟨p,x⟩:=ae i u;clear i hb u;go_wp2;go_ret;exact ⟨_,rfl,p.o,x.o⟩
end Go.Proofs.YtindmkcnjlgomaaGreat
