/- No condition. -/
import Derived.Test.YtaccfnffmbndhaaGreatC00
import Derived.Test.YtaccfnffmbndhaaGreatC02
import Derived.Test.YtaccfnffmbndhaaGreatC06
import Derived.Test.YtaccfnffmbndhaaGreatC18
import Derived.Deep.DeepCutAuto
import Derived.Test.YtaccfnffmbndhaaGreatC12
import Derived.Test.YtaccfnffmbndhaaGreatC10
set_option linter.unusedSimpArgs false
set_option linter.unusedVariables false
set_option maxRecDepth 100000
set_option maxHeartbeats 4000000
namespace Go.Proofs.YtaccfnffmbndhaaGreat
open Go.RowKit
theorem E0:dq Tryz.prog 278 286 (.agg #[.int .i64 0,.int .i64 0,.slice none 0 0,.slice none 0 0]) 4 64:=⟨Tryz.underlying278,info_parts (by kernel_rfl),rfl,by decide⟩
theorem vC {w:World} {base n g c:Nat} {xs:List Int} {e:TypeId} (h:w.ownsRow base e 1 (.slice (some ⟨g,0,none⟩) n c) n (aq .i64 xs)) {k:Nat} (i:k<n):w.cell? ⟨g,k,none⟩=some (.int .i64 (nth xs k)):=cq h i
def Jw (sz ps:List Int) (q:Int) (S o cp b u:Nat) (x:Option Addr) (y:Nat) (k:Nat) (A w:World):Prop:=
 ∃v p i,w.heap[b]?=some (.cells #[.pointer (some ⟨S,0,none⟩),.slice (some ⟨o,0,none⟩) ps.length cp,.int .i64 q,.slice v k p] 280 (0,0))∧
  w.ownsRow b 286 4 (.slice v k p) k (List.flatten i)∧i.length=k∧(∀r∈i,r.length=4)∧
  w.ownsRow u 2 1 (.slice (some ⟨o,0,none⟩) ps.length cp) ps.length (aq .i64 ps)∧
  (∀j,j<k→∃g d,bq i j=[.int .i64 (szN sz (j+1):Int),.int .i64 (szN sz j:Int),.slice (some ⟨g,0,none⟩) (szN sz (j+1)*szN sz j) d,.slice (some ⟨o,cW sz j,none⟩) (szN sz (j+1)) (cp-cW sz j)]∧
   szN sz (j+1)*szN sz j≤d∧w.ownsRow u 2 1 (.slice (some ⟨g,0,none⟩) (szN sz (j+1)*szN sz j) d) (szN sz (j+1)*szN sz j) (aq .i64 (wL sz ps j)))∧
  w.ownsRow b 3 1 (.slice x sz.length y) sz.length (aq .i64 sz)∧Below b A w
def CZ (w:World) (base b:Nat) (ps:List Int):Prop:=∃s i cp q l,w.heap[b]?=some (.cells #[s,.slice i ps.length cp,q,l] 280 (0,0))∧w.ownsRow base 2 1 (.slice i ps.length cp) ps.length (aq .i64 ps)∧base≤b
theorem CZ.base {w:World} {base base' b:Nat} {ps:List Int} (h:CZ w base b ps) (i:base'≤base):CZ w base' b ps:=by
 obtain ⟨s,o,cp,q,l,h1,j,p⟩:=h
 exact ⟨s,o,cp,q,l,h1,ax j i,JJ i p⟩
def rQ (w:World) (base b S:Nat) (sz ps:List Int) (q:Int):Prop:=∃g cp p o i,
 w.heap[b]?=some (.cells #[.pointer (some ⟨S,0,none⟩),.slice (some ⟨g,0,none⟩) ps.length cp,.int .i64 q,.slice p (sz.length-1) o] 280 (0,0))∧base≤b∧
  w.ownsRow base 2 1 (.slice (some ⟨g,0,none⟩) ps.length cp) ps.length (aq .i64 ps)∧w.ownsRow base 286 4 (.slice p (sz.length-1) o) (sz.length-1) (List.flatten i)∧i.length=sz.length-1∧(∀r∈i,r.length=4)∧
  ∀j,j<sz.length-1→∃u d,bq i j=[.int .i64 (szN sz (j+1):Int),.int .i64 (szN sz j:Int),.slice (some ⟨u,0,none⟩) (szN sz (j+1)*szN sz j) d,.slice (some ⟨g,cW sz j,none⟩) (szN sz (j+1)) (cp-cW sz j)]∧
   szN sz (j+1)*szN sz j≤d∧w.ownsRow base 2 1 (.slice (some ⟨u,0,none⟩) (szN sz (j+1)*szN sz j) d) (szN sz (j+1)*szN sz j) (aq .i64 (wL sz ps j))
theorem rQ.keep {w x:World} {base b A:Nat} {sz ps:List Int} {q:Int} (h:rQ w base b A sz ps q) {S:Nat→Prop} (k:Keep S w x) (u:∀j,S j→j<base):rQ x base b A sz ps q:=by
 obtain ⟨g,cp,L,Q,p,B,h1,y,C,J,N,R⟩:=h
 have H:∀{e' size n m:Nat} {v:Value} {xs:List Value},w.ownsRow base e' size v n xs→x.ownsRow base e' size v n xs:=fun hr=>k.own hr (fun i o hs=>by have:=u i hs;have:=(hr.lt i o).1;omega)
 exact ⟨g,cp,L,Q,p,(k.block b (JC B) (fun hs=>by have:=u b hs;omega)).trans B,h1,k.own y (fun i o hs=>by have:=u i hs;have:=(y.lt i o).1;omega),k.own C (fun i o hs=>by have:=u i hs;have:=(C.lt i o).1;omega),J,N,fun j U=>by
  obtain ⟨I,d,T,O,D⟩:=R j U
  exact ⟨I,d,T,O,k.own D (fun i o hs=>by have:=u i hs;have:=(D.lt i o).1;omega)⟩⟩
theorem rQ.below {w i:World} {base b j:Nat} {sz ps:List Int} {q:Int} (h:rQ w base b j sz ps q) (o:Below w.heap.size w i):rQ i base b j sz ps q:=h.keep (S:=fun _=>False) (Keep.below o) (fun _ h=>h.elim)
theorem rQ.at {w:World} {base b S:Nat} {sz ps:List Int} {q:Int} (h:rQ w base b S sz ps q) (T:bY 186 w S sz) (hg:dy sz) (hl:ps.length=aZ sz (sz.length-1)):kT 186 280 w b sz ps q:=by
 obtain ⟨g,cp,I,O,o,D,h1,B,L,H,J,Q⟩:=h
 refine ⟨S,some ⟨g,0,none⟩,cp,I,O,o,D,T,Rd.own B,Rd.own L,H,J,fun j R=>?_⟩
 obtain ⟨C,U,p,v,u⟩:=Q j R
 have x:=JJ (fv sz (show j+1≤sz.length-1 by omega)) (Nat.le_of_eq hl.symm)
 have A:=eP sz j
 have y:bL sz ps j=(ps.drop (cW sz j)).take (szN sz (j+1)):=(eQ (by rw [Kk,Kn];omega) fun i N=>by rw [eF N,fj]).symm
 refine ⟨C,0,U,some ⟨g,cW sz j,none⟩,cp-cW sz j,p,v,Rd.own u,?_⟩
 have:=((Rd.own B).drop (cW sz j)).take (szN sz (j+1))
 rwa [Kz,cV,cK,←y] at this
theorem vK (S:Nat) (sz ps:List Int) (A:Option Addr) (c:Nat) (q:Int) (w:World) (hS:bY 186 w S sz) (hg:dy sz) (hq:0≤q∧q≤62) (hl:ps.length=aZ sz (sz.length-1)) (hA:Rd w A (aq .i64 ps)):
  Calls Tryz.prog 145 #[.pointer (some ⟨S,0,none⟩),.slice A ps.length c,.int .i64 q] w fun e C=>∃b,e=.returned (.tuple #[.pointer (some ⟨b,0,none⟩),.bool true])∧kT 186 280 C b sz ps q∧CZ C w.heap.size b ps∧rQ C w.heap.size b S sz ps q∧Below w.heap.size w C:=by
 obtain ⟨q1,q2⟩:=hq
 have hc:=jv S sz w hS
 have cb:=dY A ps c w hA (by have:=hg.2;omega)
 have co:=fun C (k:Below w.heap.size w C)=>pI S sz C (hS.below k) (by have:=hg.1.1.2;omega)
 have bs:=fun C (k:Below w.heap.size w C)=>ju S sz C (hS.below k)
 have c6:=fun j C (k:Below w.heap.size w C)=>mw S sz j C (hS.below k) (by have:=hg.1.1.2;omega)
 have bl:=fun j C (k:Below w.heap.size w C)=>nr S sz j C (hS.below k) (by have:=hg.1.1.2;omega)
 rw [←hl] at hc
 obtain ⟨n,hn⟩:∃n,sz.length-1=n:=⟨_,rfl⟩
 obtain ⟨N,hN⟩:∃N,ps.length=N:=⟨_,rfl⟩
 rw [hn] at bs c6 bl hl
 rw [hN] at hc cb hl ⊢
 have Z:1≤n∧n≤15:=by have:=hg.1.1;omega
 have fd:N≤1048576:=by have:=hg.2;rw [hn] at this;omega
 obtain ⟨Hc,eS,ec,eM,ei,eX,HG,Hn⟩:=ak hc cb co bs c6 bl hg hn;obtain ⟨HN,HS,gb,Hl⟩:=ag hN hS hA hl;clear hc cb co bs c6 bl hg hn hN hS hA hl
 go_enter Tryz.func145,Tryz.ntmps145
 go_wp2_with fail
 refine Hc.out.mono ?_
 rintro e C ⟨rfl,rfl⟩
 go_wp2_with fail
 refine eS.out.mono ?_
 rintro e I ⟨A',cp,rfl,cc,be,hb⟩
 obtain ⟨bh,Hb,eG⟩:=af be hb cc;clear be hb cc
 go_wp2_with fail
 refine (ec.out _ ?_).mono ?_
 ·have hb:=Hb.out
  have f5:=hb.size
  exact al
 rintro e w2 ⟨As,cs,rfl,d5,a1⟩
 obtain ⟨eo,dv⟩:=ae d5 a1;clear d5 a1
 go_wp2_with fail
 refine (eM.out _ ?_).mono ?_
 ·have hb:=Hb.out
  have a1:=dv.out
  exact hb.trans ((((JG _ I).alloc (JD _) _).trans (a1.mono (by simp))).mono hb.size)
 rintro e C ⟨rfl,rfl⟩
 go_wp2_with fail
 have em:1≤N:=by
  have h0:=Hl.out
  have h1:=(HG.out.1.at (k:=1) (by have:=HG.out.1.1;omega)).1
  have h2:=fv sz (show 1≤n by omega)
  have h3:cW sz 0+szN sz 1=aZ sz 1:=eP sz 0
  omega
 obtain ⟨gp,g6,d7,g1,_⟩:=bh.out.form (by omega)
 simp only [Ku] at d7
 obtain ⟨rfl,ef,rfl⟩:=d7
 clear ef
 go_loopw [42] (fun i wr=>∃k:Nat,k≤n∧i=.int .i64 k∧Jw sz ps q S gp cp I.heap.size w.heap.size As cs k I wr) (fun i _=>n-(intOf i).toNat)
 case atStart=>
  have a1:=dv.out
  have hk:Below I.heap.size I w2:=((JG _ I).alloc (JD _) _).trans (a1.mono (by simp))
  have eq:=(a1.block I.heap.size (by simp)).trans (JE I _)
  refine ⟨0,JH _,rfl,none,0,[],?_,JO _ _ _ _,rfl,by simp,?_,fun j hj=>by omega,ax eo.out (by simp),hk⟩
  ·rw [HN.out];exact eq
  ·rw [HN.out];exact ap bh.out hk
 case round=>
  obtain ⟨k,hk,rfl,Al,cl,R,av,cy,cr,cf,hop,bd,cv,hW⟩:=hrel
  rw [HN.out] at av hop
  obtain ⟨⟨x0,x1,x2,x3⟩,xf⟩:=bx4 av
  have es:=JC av
  have dn:Below w.heap.size w wr:=Hb.out.trans (hW.mono Hb.out.size)
  obtain ⟨ab,bN,aG,bn,a8,ao,b6,HW⟩:=ak av cy cr cf hop bd cv hW;have ad:=aa dn;clear av cy cr cf hop bd cv hW dn
  by_cases fb:k<n
  ·have hR:=HG.out.1
   have b5:k+1<sz.length:=by have:=Hn.out;have:=hR.1;omega
   have z0:=hR.at (k:=k) (by omega)
   have z1:=hR.at b5
   have dr:=HG.out.mul b5
   have cA:1≤szN sz (k+1)*szN sz k:=Nat.mul_pos z1.1 z0.1
   have U:cW sz k=aZ sz k+szN sz (k+1)*szN sz k:=rfl
   have L:=eP sz k
   have a0:=JJ (fv sz (show k+1≤n by omega)) (Nat.le_of_eq Hl.out.symm)
   have a5:=ei.out k
   have a6:=eX.out k
   have bU:wL sz ps k=(ps.drop (aZ sz k)).take (szN sz (k+1)*szN sz k):=(eQ (by rw [Kk,Kn];have:=HN.out;omega) fun i hi=>by rw [eF hi,fj]).symm
   have a7:bL sz ps k=(ps.drop (cW sz k)).take (szN sz (k+1)):=(eQ (by rw [Kk,Kn];have:=HN.out;omega) fun i hi=>by rw [eF hi,fj]).symm
   obtain ⟨g5,c5,d2,gg,_⟩:=b6.out.form (by omega)
   simp only [Ku] at d2
   obtain ⟨rfl,ej,rfl⟩:=d2
   clear ej
   have p0:=vC b6.out (show k<sz.length by omega)
   have p1:=vC b6.out b5
   rw [z0.2.2] at p0
   rw [z1.2.2] at p1
   rw [U,←L,U] at a6
   rw [U] at a5 a7
   have b7:=Rd.own a8.out
   obtain ⟨lo,b2⟩:∃lo,aZ sz k=lo:=⟨_,rfl⟩
   obtain ⟨r,hr⟩:∃r,szN sz (k+1)=r:=⟨_,rfl⟩
   obtain ⟨c0,a2⟩:∃c0,szN sz k=c0:=⟨_,rfl⟩
   obtain ⟨B,Z⟩:∃B,r*c0=B:=⟨_,rfl⟩
   rw [←L,U] at a0
   rw [b2,hr,a2,Z] at a6 a5 a0
   rw [hr,a2,Z] at cA dr
   rw [hr] at p1 z1
   rw [a2] at p0 z0
   rw [b2,hr,a2,Z] at bU a7
   have dc:Rd wr (some ⟨gp,lo,none⟩) (aq .i64 (wL sz ps k)):=by
    have:=(b7.drop lo).take B
    rwa [Kz,cV,cK,←bU] at this
   have bV:(wL sz ps k).length=B:=by rw [xn,hr,a2,Z]
   have bO:=fun W (h:Below wr.heap.size wr W)=>IE r c0 (some ⟨gp,lo,none⟩) (wL sz ps k) (cp-lo) W ⟨z1.1,z1.2.1⟩ ⟨z0.1,z0.2.1⟩ (bV.trans Z.symm) (by omega) (dc.below h)
   rw [bV] at bO
   obtain ⟨cj,d1,dG,eu,Hr,ey,ea,f7⟩:=ak a5 a6 bO b2 hr a2 Z a7
   have eY:=eG.out
   clear a5 a6 bO U L bU a7 b2 hr a2 Z b7 dc bV
   go_wp2_with fail
   refine (cj.out _ ad.out (by omega)).mono ?_
   rintro e w3 ⟨rfl,d8⟩
   have b3:=aa d8;clear d8
   go_wp2_with fail
   refine (d1.out _ (ad.out.trans (b3.out.mono ad.out.size)) (by omega)).mono ?_
   rintro e H ⟨rfl,e9⟩
   have J:=b3.out.trans (e9.mono b3.out.size)
   have dT:=(J.cell (p:=⟨I.heap.size,1,none⟩) es).trans x1
   have bo:=(J.cell (p:=⟨g5,k,none⟩) (ar p0)).trans p0
   have ds:=(J.cell (p:=⟨g5,k+1,none⟩) (ar p1)).trans p1
   have f0:I.heap.size<H.heap.size:=by have:=J.size;omega
   have f1:g5<H.heap.size:=ar bo
   have Q:=aa J;clear J e9 b3 x0 x1 x2 x3 xf p0 p1
   have fc:(k:Int)+1<sz.length:=by omega
   have fe:¬(cp=lo):=by omega
   have fi:lo+B≤cp:=by omega
   go_wp2_with fail
   go_cut [13,14] (fun v _ wx=>∃M A d,v=.pointer (some ⟨M,0,none⟩)∧wx.heap[M]?=some (.cells #[.int .i64 r,.int .i64 c0,.slice A B d] 282 (0,0))∧B≤d∧wx.ownsRow H.heap.size 2 1 (.slice A B d) B (aq .i64 (wL sz ps k))∧H.heap.size+2≤wx.heap.size∧
    Below (H.heap.size+2) ((H.alloc (.cells #[.int .i64 lo,.int .i64 ((lo:Int)+B)] 52)).alloc (.cells #[.int .i64 ((lo:Int)+B),.int .i64 ((lo:Int)+B+r)] 52)) wx)
   case first=>
    have y:(fun C:World=>C.cell? ⟨g5,k+1,none⟩=some (.int .i64 r)∧C.cell? ⟨g5,k,none⟩=some (.int .i64 c0)∧C.cell? ⟨I.heap.size,1,none⟩=some (.slice (some ⟨gp,0,none⟩) N cp)∧C.cell? ⟨H.heap.size,0,none⟩=some (.int .i64 lo)∧C.cell? ⟨H.heap.size,1,none⟩=some (.int .i64 ((lo:Int)+B))) ((H.alloc (.cells #[.int .i64 lo,.int .i64 ((lo:Int)+B)] 52)).alloc (.cells #[.int .i64 ((lo:Int)+B),.int .i64 ((lo:Int)+B+r)] 52)).drew:=
     ⟨aA (aA ds _) _,aA (aA bo _) _,aA (aA dT _) _,aA (JF _ H.heap.size 0 _ _ _ (JE H _)) _,aA (JF _ H.heap.size 1 _ _ _ (JE H _)) _⟩
    have ct:Below wr.heap.size wr ((H.alloc (.cells #[.int .i64 lo,.int .i64 ((lo:Int)+B)] 52)).alloc (.cells #[.int .i64 ((lo:Int)+B),.int .i64 ((lo:Int)+B+r)] 52)).drew:=
     (((Q.out.alloc (by have:=Q.out.size;omega) _).alloc (by have:=Q.out.size;simp;omega) _)).drew
    have bG:=aa ct;clear ct
    have g8:k<sz.length:=by omega
    have f8:IntKind.i64.wrap ((k:Int)+1)=(k:Int)+1:=JI _ (by omega)
    have f4:(0:Int)≤(k:Int)+1:=by omega
    have g4:((k:Int)+1).toNat=k+1:=by omega
    have f3:((lo:Int)+B).toNat=lo+B:=by omega
    have fs:(0:Int)≤(lo:Int)+B:=by omega
    have f2:(lo:Int)+B≤cp:=by omega
    have gc:(lo:Int)≤(lo:Int)+B:=by omega
    refine jq 23 (fun C:World=>C.cell? ⟨g5,k+1,none⟩=some (.int .i64 r)∧C.cell? ⟨g5,k,none⟩=some (.int .i64 c0)∧C.cell? ⟨I.heap.size,1,none⟩=some (.slice (some ⟨gp,0,none⟩) N cp)∧C.cell? ⟨H.heap.size,0,none⟩=some (.int .i64 lo)∧C.cell? ⟨H.heap.size,1,none⟩=some (.int .i64 ((lo:Int)+B))) (by kernel_rfl) ?_
    refine wX 0 y ?_
    refine wX 1 y ?_
    refine wX 2 y ?_
    refine wX 3 y ?_
    refine wX 4 y ?_
    refine wX 5 y ?_
    refine wX 6 y ?_
    refine wX 7 y ?_
    refine wX 8 y ?_
    refine wX 9 y ?_
    refine wX 10 y ?_
    refine wX 11 y ?_
    refine wX 12 y ?_
    refine wX 13 y ?_
    refine wX 14 y ?_
    refine wX 15 y ?_
    refine wX 16 y ?_
    refine wX 17 y ?_
    simp only [JT,JU,JV,Act.put,JW,JX,J0]
    refine cn (rs:=[18,22]) (by kernel_rfl) (by simp) ?_
    refine aL.cons rfl (fun K X=>?_) (aL.cons rfl (fun K X=>?_) aL.nil)
    ·simp only [JT,JU,JV]
     go_simp
     refine (dG.out _ bG.out).mono ?_
     rintro e w6 ⟨A6,d6,rfl,T,V,D⟩
     have b1:=JL (am D y.1) (JL (am D y.2.1) (JL (am D y.2.2.1) (JL (am D y.2.2.2.1) (am D y.2.2.2.2))))
     obtain ⟨aM,a4,aP⟩:=af T V D;clear T V D y
     dsimp only
     refine X.out _ _ b1 (fun y=>?_)
     clear X K b1
     refine wX 19 y ?_
     refine wX 20 y ?_
     simp only [JT,JU,JV,Act.put,JW,JX,J0]
     refine wX0 21 y ?_
     simp only [JT,JU,JV,Act.put,JW,JX,J0]
     refine cn (rs:=[22]) (by kernel_rfl) (by simp) ?_
     refine aL.cons rfl (fun K X=>?_) aL.nil
     simp only [JT,JU,JV]
     go_simp
     refine X.out _ _ ⟨aA y.1 _,aA y.2.1 _,aA y.2.2.1 _,aA y.2.2.2.1 _,aA y.2.2.2.2 _⟩ (fun y=>?_)
     clear X K y
     refine dV (by rfl) (by kernel_rfl) ?_
     simp only [Kc,Ke]
     go_wp2_with fail
     go_meet
     have bz:=aP.out.size
     simp at bz
     refine ⟨w6.heap.size,A6,d6,rfl,JE w6 _,aM.out,ax (a4.out.alloc _) (by first | omega | (simp;done) | (simp;omega)),(by first | omega | (simp;done) | (simp;omega)),?_⟩
     exact (((JG _ _).drew).trans (aP.out.mono (by first | omega | (simp;done) | (simp;omega)))).alloc (by first | omega | (simp;done) | (simp;omega)) _
    ·simp only [JT,JU,JV]
     go_simp
     refine X.out _ _ ⟨aA y.1 _,aA y.2.1 _,aA y.2.2.1 _,aA y.2.2.2.1 _,aA y.2.2.2.2 _⟩ (fun y=>?_)
     clear X K
     refine cn (rs:=[18]) (by kernel_rfl) (by simp) ?_
     refine aL.cons rfl (fun K X=>?_) aL.nil
     simp only [JT,JU,JV]
     go_simp
     refine (dG.out _ (bG.out.alloc bG.out.size _)).mono ?_
     rintro e w6 ⟨A6,d6,rfl,T,V,D⟩
     have b1:=JL (am D y.1) (JL (am D y.2.1) (JL (am D y.2.2.1) (JL (am D y.2.2.2.1) (am D y.2.2.2.2))))
     have b0:=(D.block _ (by simp)).trans (JE _ _)
     simp only [JS,Kt] at b0
     obtain ⟨⟨m0,m1,m2⟩,mf⟩:=bx3 b0
     have fn:=JC b0
     obtain ⟨aM,a4,aP,dp⟩:=ag T V D b0;clear T V D y b0
     dsimp only
     refine X.out _ _ b1 (fun y=>?_)
     clear X K b1
     refine wX 19 y ?_
     refine wX 20 y ?_
     simp only [JT,JU,JV,Act.put,JW,JX,J0]
     refine wX0 21 y ?_
     simp only [JT,JU,JV,Act.put,JW,JX,J0]
     clear y
     refine dV (by rfl) (by kernel_rfl) ?_
     simp only [Kc,Ke]
     go_wp2_with fail
     go_meet
     have bz:=aP.out.size
     simp at bz
     have k3:=oZ (w:=w6) (b:=H.heap.size+1+1) (.int .i64 r) (.int .i64 c0) (.slice A6 B d6)
     have g3:=k3.size
     refine ⟨H.heap.size+1+1,A6,d6,rfl,rN _ _ _ dp.out,aM.out,ax (k3.own a4.out (fun i hi e=>an dp.out (by decide) a4.out (by rw [hi,e]))) (by first | omega | (simp;done) | (simp;omega)),by omega,?_⟩
     exact ((((JG _ _).drew).alloc (by first | omega | (simp;done) | (simp;omega)) _).trans (aP.out.mono (by first | omega | (simp;done) | (simp;omega)))).trans (k3.toBelow (by first | omega | (simp;done) | (simp;omega)) (fun i hi=>by omega))
   case rest=>
    obtain ⟨M,A6,d6,rfl,hM,T,V,f6,c8⟩:=hcut
    have d4:Below H.heap.size H ((H.alloc (.cells #[.int .i64 lo,.int .i64 ((lo:Int)+B)] 52)).alloc (.cells #[.int .i64 ((lo:Int)+B),.int .i64 ((lo:Int)+B+r)] 52)):=((JG _ _).alloc (JD _) _).alloc (by simp) _
    have bb:((H.alloc (.cells #[.int .i64 lo,.int .i64 ((lo:Int)+B)] 52)).alloc (.cells #[.int .i64 ((lo:Int)+B),.int .i64 ((lo:Int)+B+r)] 52)).heap[H.heap.size+1]?=some (.cells #[.int .i64 ((lo:Int)+B),.int .i64 ((lo:Int)+B+r)] 52 (0,0)):=by
     have:=JE (H.alloc (.cells #[.int .i64 lo,.int .i64 ((lo:Int)+B)] 52)) (.cells #[.int .i64 ((lo:Int)+B),.int .i64 ((lo:Int)+B+r)] 52)
     simpa using this
    have bM:=(c8.block (H.heap.size+1) (by omega)).trans bb
    have cd:Below H.heap.size H wc:=d4.trans (c8.mono (by omega))
    have hrc:=Q.out.trans (cd.mono Q.out.size)
    have c9:=(hrc.block _ (JC ab.out)).trans ab.out
    have b8:=ap bN.out hrc
    have b9:=ap a8.out hrc
    have bf:=ap b6.out hrc
    obtain ⟨⟨n0,n1,n2,n3⟩,nf⟩:=bx4 c9
    obtain ⟨⟨m0,m1,m2⟩,mf⟩:=bx3 hM
    obtain ⟨⟨t0,t1⟩,tf⟩:=bx2 bM
    obtain ⟨cx,ci,dk,Y,e0,cO,eV,a4⟩:=ak bM hrc c9 b8 b9 bf hM V;have aM:=aa T;clear hrc c9 b8 b9 bf hM V T cd d4 bb bM c8 dT bo ds
    have fr:I.heap.size<wc.heap.size:=JC dk.out
    go_wp2_with fail
    have y:(fun C:World=>C.cell? ⟨I.heap.size,3,none⟩=some (.slice Al k cl)∧C.cell? ⟨M,0,none⟩=some (.int .i64 r)∧C.cell? ⟨M,1,none⟩=some (.int .i64 c0)∧C.cell? ⟨M,2,none⟩=some (.slice A6 B d6)∧C.cell? ⟨I.heap.size,1,none⟩=some (.slice (some ⟨gp,0,none⟩) N cp)∧C.cell? ⟨H.heap.size+1,0,none⟩=some (.int .i64 ((lo:Int)+B))∧C.cell? ⟨H.heap.size+1,1,none⟩=some (.int .i64 ((lo:Int)+B+r))) wc.drew:=⟨n3,m0,m1,m2,n1,t0,t1⟩
    have g7:¬(cp=lo+B):=by omega
    have g2:(lo:Int)+B+r≤cp:=by omega
    have f9:(lo:Int)+B≤(lo:Int)+B+r:=by omega
    have fa:((lo:Int)+B+r).toNat=lo+B+r:=by omega
    have gf:((lo:Int)+B).toNat=lo+B:=by omega
    have gk:(0:Int)≤(lo:Int)+B:=by omega
    have ga:(0:Int)≤(lo:Int)+B+r:=by omega
    refine XA.g 18 (fun C:World=>C.cell? ⟨I.heap.size,3,none⟩=some (.slice Al k cl)∧C.cell? ⟨M,0,none⟩=some (.int .i64 r)∧C.cell? ⟨M,1,none⟩=some (.int .i64 c0)∧C.cell? ⟨M,2,none⟩=some (.slice A6 B d6)∧C.cell? ⟨I.heap.size,1,none⟩=some (.slice (some ⟨gp,0,none⟩) N cp)∧C.cell? ⟨H.heap.size+1,0,none⟩=some (.int .i64 ((lo:Int)+B))∧C.cell? ⟨H.heap.size+1,1,none⟩=some (.int .i64 ((lo:Int)+B+r))) ?_
    refine XA.t ?_ [0,1,2,3,4,5,6,7,8,9,10,11,12,13,14,15] y ?_
    refine XA.o 16 (fun K X=>?_)
    go_simp
    refine X.out _ _ ⟨aA y.1 _,aA y.2.1 _,aA y.2.2.1 _,aA y.2.2.2.1 _,aA y.2.2.2.2.1 _,aA y.2.2.2.2.2.1 _,aA y.2.2.2.2.2.2 _⟩ (fun y=>?_)
    clear X K
    refine XA.o 17 (fun K X=>?_)
    refine bF E0 (.tmp 77) (.tmp 89) rfl rfl I.heap.size (.slice Al k cl) k (List.flatten R) rfl (bC (Y.out.alloc _) 1) (some ⟨wc.heap.size,0,none⟩) 1 1 [.int .i64 r,.int .i64 c0,.slice A6 B d6,.slice (some ⟨gp,lo+B,none⟩) r (cp-(lo+B))] rfl (dZ wc _ _ _ rfl) rfl (by simp [Value.oneCell']) (by omega) (by unfold maxLen;omega) (by simp;omega) ?_
    intro A7 c7 w7 d0 e7 a3 eB
    have a3:=nM a3
    have aR:=dm (o:=.cells #[.int .i64 r,.int .i64 c0,.slice A6 B d6,.slice (some ⟨gp,lo+B,none⟩) r (cp-(lo+B))] 286 (0,0)) dk.out (by decide) Y.out a3
    have i0:=JF w7 _ 3 _ _ _ aR
    have i1:=JF w7 _ 1 _ _ _ aR
    have i3:=JM w7 _ 3 _ _ aR
    have b4:=dm (o:=.cells #[.int .i64 r,.int .i64 c0,.slice A6 B d6,.slice (some ⟨gp,lo+B,none⟩) r (cp-(lo+B))] 286 (0,0)) eV.out (by decide) Y.out a3
    have bA:=dm (o:=.cells #[.int .i64 r,.int .i64 c0,.slice A6 B d6,.slice (some ⟨gp,lo+B,none⟩) r (cp-(lo+B))] 286 (0,0)) cx.out (by decide) Y.out a3
    have i4:=JF w7 _ 0 _ _ _ b4
    have i5:=JF w7 _ 1 _ _ _ b4
    have i6:=JF w7 _ 2 _ _ _ b4
    have i7:=JF w7 _ 0 _ _ _ bA
    have i8:=JF w7 _ 1 _ _ _ bA
    obtain ⟨d3,bI,ee,ek⟩:=ag d0 aR a3 e7;clear d0 aR a3 eB e7 b4 bA
    dsimp only
    refine X.out _ _ ⟨i0,i4,i5,i6,i1,i7,i8⟩ (fun y=>?_)
    clear X K y
    refine XA.e ?_
    simp only [Kc,Ke]
    go_wp2_with fail
    have ev:=KG w7 I.heap.size 3 _ _ (.slice A7 (k+1) c7) bI.out
    have ew:Keep (fun i=>i=I.heap.size) w7 (w7.setCell ⟨I.heap.size,3,none⟩ (.slice A7 (k+1) c7)):=Keep.setCell (S:=fun i=>i=I.heap.size) (Keep.refl _ _) ⟨I.heap.size,3,none⟩ (.inr rfl) _
    have eb:=ew.own d3.out (fun i hi e=>an bI.out (by decide) d3.out (by rw [hi,e]))
    have ez:Below I.heap.size I (w7.setCell ⟨I.heap.size,3,none⟩ (.slice A7 (k+1) c7)):=
     (((HW.out.trans (ci.out.mono HW.out.size)).alloc (by omega) _).drew.trans ek.out).setCell (by simp) _
    have O:∀{b':Nat} {u:Value} {m:Nat} {ys:List Value} {e':TypeId},wc.ownsRow b' e' 1 u m ys→286≠e'→280≠e'→(w7.setCell ⟨I.heap.size,3,none⟩ (.slice A7 (k+1) c7)).ownsRow b' e' 1 u m ys:=fun h h1 h2=>vB h Y.out ee.out bI.out h1 h2
    go_roundw
    case rel=>
     refine ⟨k+1,by omega,by go_num,A7,c7,R++[[.int .i64 r,.int .i64 c0,.slice A6 B d6,.slice (some ⟨gp,lo+B,none⟩) r (cp-(lo+B))]],?_,?_,by simp [aG.out],?_,?_,?_,O cO.out (by decide) (by decide),ez⟩
     ·rw [HN.out];exact ev
     ·rw [Kr,List.flatten_cons,List.flatten_nil,List.append_nil];exact eb
     ·intro x hx
      rcases Kv.1 hx with hx | hx
      ·exact bn.out x hx
      ·rw [List.mem_singleton.1 hx];rfl
     ·rw [HN.out];exact O e0.out (by decide) (by decide)
     ·intro j hj
      rcases JR j k with bw | bw
      ·obtain ⟨g9,d9,bv,bi,bX⟩:=ao.out j bw
       refine ⟨g9,d9,?_,bi,O (ap bX ci.out) (by decide) (by decide)⟩
       rw [←bv]
       simp [bq,Ki (show j<R.length by rw [aG.out];exact bw)]
      ·obtain rfl:j=k:=by omega
       obtain ⟨g9,d9,e6,gd,_⟩:=a4.out.form (by omega)
       simp only [Ku] at e6
       obtain ⟨rfl,_,rfl⟩:=e6
       have e1:=Hr.out;have e2:=ey.out;have e3:=eu.out;have e4:=ea.out
       refine ⟨g9,d6,?_,?_,?_⟩
       ·have e5:cW sz j=lo+B:=by unfold cW;rw [e1,e2,e3,e4]
        rw [e5,e1,e2,e4]
        have:=aG.out
        simp [bq,←this]
       ·rw [e1,e2,e4];exact aM.out
       ·rw [e1,e2,e4];exact ax (O a4.out (by decide) (by decide)) (by have:=Hb.out.size;omega)
    case measure=>simp [intOf];omega
  ·obtain rfl:k=n:=by omega
   have e8:kT 186 280 wr I.heap.size sz ps q:=by
    refine ⟨S,some ⟨gp,0,none⟩,cp,Al,cl,R,?_,HS.out.below ad.out,Rd.own a8.out,Rd.own bN.out,?_,bn.out,?_⟩
    ·rw [HN.out,Hn.out];exact ab.out
    ·rw [Hn.out];exact aG.out
    ·intro j hj
     rw [Hn.out] at hj
     obtain ⟨g9,d9,bv,bi,bX⟩:=ao.out j hj
     have hR:=HG.out.1
     have b5:j+1<sz.length:=by have:=Hn.out;have:=hR.1;omega
     have a0:=JJ (fv sz (show j+1≤k by omega)) (Nat.le_of_eq Hl.out.symm)
     have L:=eP sz j
     have a7:bL sz ps j=(ps.drop (cW sz j)).take (szN sz (j+1)):=(eQ (by rw [Kk,Kn];have:=HN.out;omega) fun i hi=>by rw [eF hi,fj]).symm
     refine ⟨g9,0,d9,some ⟨gp,cW sz j,none⟩,cp-cW sz j,bv,bi,Rd.own bX,?_⟩
     have:=((Rd.own a8.out).drop (cW sz j)).take (szN sz (j+1))
     rwa [Kz,cV,cK,←a7] at this
   have da:CZ wr w.heap.size I.heap.size ps:=by unfold CZ;rw [HN.out];exact ⟨_,_,_,_,_,ab.out,a8.out,Hb.out.size⟩
   have cw:rQ wr w.heap.size I.heap.size S sz ps q:=by
    unfold rQ
    rw [HN.out,Hn.out]
    exact ⟨gp,cp,Al,cl,R,ab.out,Hb.out.size,a8.out,ax bN.out Hb.out.size,aG.out,bn.out,ao.out⟩
   obtain ⟨en,el,eU⟩:=af e8 da cw;clear e8 da cw
   go_wp2_with fail
   go_ret2
   exact ⟨_,rfl,en.out,el.out,eU.out,ad.out⟩
theorem gn {S:Nat→Prop} {w i:World} (j:Keep S w i):Ext (ay S w) i:=fun k hl=>by
 rw [oV] at hl
 by_cases h:S k
 ·exact .inl (ur h hl)
 ·exact .inr (by rw [jm h];exact j.block k hl h)
def eg (i:Inp) (P G:List Int) (l:List Ex):List Int:=l.foldl (fun a x=>eI a (gD i.cfg.sizes P i.cfg.shift x.1 x.2)) G
theorem wu (i:Inp) (P G:List Int) (l:List Ex) (x:Ex):eg i P G (l++[x])=eI (eg i P G l) (gD i.cfg.sizes P i.cfg.shift x.1 x.2):=by simp [eg]
def nK (i:Inp) (x st a:Nat):List Int:=gQ (db i.draws i.data.length i.cfg.batch.toNat st) i.cfg.workers.toNat x i.cfg.micros.toNat a
theorem qO {i:Inp} {l:List Int} (h:iK i l) (k j:Nat):iK i (cH l k j):=fun n hn=>by
 have h1:(cH l k j).length≤l.length-bdN l.length k j:=by simp only [cH,Kk,Kn];omega
 have o:(cH l k j).length≤bdN l.length k (j+1)-bdN l.length k j:=by simp only [cH,Kk];omega
 unfold cH
 rw [eF (by omega),fj]
 exact h _ (by omega)
theorem vV {i:Inp} (hg:kQ i) (x st a:Nat):iK i (nK i x st a):=qO (qO (zk hg st) _ _) _ _
theorem Bv {i:Inp} (hg:kQ i) {l:List Int} (h:iK i l) {k:Nat} {e:Ex} (he:(di i.data l)[k]?=some e):eH (inN i) (ug i) e:=by
 have j:=(Kg.1 he).1
 rw [lT] at j
 rw [vy _ _ j] at he
 have hx:=h k j
 unfold jn at hx
 simp only [Option.some.injEq] at he
 subst he
 have hl:(nth l k).toNat<i.data.length:=by omega
 simp only [List.getD,Kh hl,Option.getD_some]
 exact hg.f _ (List.getElem_mem hl)
theorem Cg {H:Nat→Prop} {w:World} {b x:Nat} {i:Inp} {a:MAd} {m:Mst} (h:aI H w b i x a m) (hs:cU i) (y:Itm) (u v:Value) (hu:u.oneCell'=true) (hv:v.oneCell'=true) (b7:y.st<i.cfg.steps.toNat) (hn:y.n<i.cfg.micros.toNat):
  Calls Tryz.prog 110 #[.pointer (some ⟨b,0,none⟩),.agg (aN y).toArray,.agg #[u,v]] w fun e o=>e=.returned (KL 0)∧Keep (fun k=>k=a.bg) w o∧
   o.ownsRow 0 2 1 (.slice (some ⟨a.bg,0,none⟩) i.start.length a.cg) i.start.length (aq .i64 (eg i m.P m.G (di i.data (nK i x y.st y.n)))):=by
 have hg:=hs.g
 have hc:=hg.c
 have a3:aZ i.cfg.sizes (i.cfg.sizes.length-1)=i.start.length:=hg.s.symm
 have V:=hc.z.bound (k:=i.cfg.sizes.length-1) (by have:=hc.z.1.1;omega)
 have hq:0≤i.cfg.shift∧i.cfg.shift≤62:=⟨by have:=hc.s;omega,by have:=hc.s;omega⟩
 have cc:b≠a.bg:=fun e=>an h.blk (by decide) h.oG (by rw [e];rfl)
 have bn:=JC h.blk
 have a7:=(h.oG.lt a.bg rfl).2
 have Q:=fun o (q:Keep (fun k=>k=a.bg) w o)=>(q.block b bn cc).trans h.blk
 have hx:=fun o (q:Keep (fun k=>k=a.bg) w o)=>gn (S:=fL H b a) (q.mono (fun k _ e=>.inl (.inr (.inr (.inr (.inl e))))))
 have ao:=h.wP.1
 have a4:m.P.length=aZ i.cfg.sizes (i.cfg.sizes.length-1):=ao.trans a3.symm
 have a0:=fun o (q:Keep (fun k=>k=a.bg) w o)=>vK a.F i.cfg.sizes m.P (some ⟨a.bp,0,none⟩) a.cp i.cfg.shift o (eK h.sh (hx o q)) hc.z hq a4 (Rd.own (q.own h.oP (fun j hj e=>h.dj.2.1 (by cases hj;exact e))))
 rw [ao] at a0
 have eW:((i.cfg.workers.toNat:Nat):Int)=i.cfg.workers:=by have:=hc.w;omega
 have eM:((i.cfg.micros.toNat:Nat):Int)=i.cfg.micros:=by have:=hc.mi;omega
 have C:=fun o (q:Keep (fun k=>k=a.bg) w o)=>Cc a.S i.data.length i.cfg.batch.toNat i.cfg.steps.toNat y.st i.cfg.workers.toNat x i.cfg.micros.toNat y.n i.draws o (gi h.sa (hx o q)) (by have:=hc.ba;have:=hc.w;omega) (by have:=hg.b.1;omega) hg.b.2 (by have:=hc.st;omega) b7 (by have:=hc.w;omega) (by have:=hc.ba;omega) h.xw (by have:=hc.mi;omega) (by have:=hc.mi;omega) hn
 rw [eW,eM] at C
 have p:=vV hg x y.st y.n
 obtain ⟨A,D⟩:∃A,nK i x y.st y.n=A:=⟨_,rfl⟩
 rw [D] at p
 have N:gQ (db i.draws i.data.length i.cfg.batch.toNat y.st) i.cfg.workers.toNat x i.cfg.micros.toNat y.n=A:=D
 rw [N] at C
 rw [D]
 have Z:A.length≤1048576:=by
  rw [←D]
  have h0:=gX i.draws (n:=i.data.length) (b:=i.cfg.batch.toNat) (t:=y.st) (Nat.div_pos (by have:=hg.b.1;omega) (by have:=hc.ba;have:=hc.w;omega))
  have h1:∀(l:List Int) (k j:Nat),(cH l k j).length≤l.length:=fun l k j=>by simp only [cH,Kk,Kn];omega
  have h2:=h1 (cH (db i.draws i.data.length i.cfg.batch.toNat y.st) i.cfg.workers.toNat x) i.cfg.micros.toNat y.n
  have h3:=h1 (db i.draws i.data.length i.cfg.batch.toNat y.st) i.cfg.workers.toNat x
  have:=hc.ba
  unfold nK gQ
  omega
 have X:=fun o (q:Keep (fun k=>k=a.bg) w o) B d (hB:Rd o B (aq .i64 A))=>D4 a.ce d a.E B i.data A o (dJ bW h.ex (hx o q)) hg.b.2 hB Z
 have O:=fun (k:Nat) (e:Ex) (he:(di i.data A)[k]?=some e)=>Bv hg p he
 have U:=lT i.data A
 obtain ⟨pl,L⟩:∃pl,di i.data A=pl:=⟨_,rfl⟩
 rw [L] at U O
 simp only [L] at X ⊢
 have Y:=fun aP A1 A2 (e:Ex) c1 c2 o (hN:kT 186 280 o aP i.cfg.sizes m.P i.cfg.shift) (r1:bD o A1 e.1 c1) (r2:bD o A2 e.2 c2) (hf:eH (inN i) (ug i) e)=>GT aP i.cfg.sizes m.P i.cfg.shift A1 A2 e.1 e.2 c1 c2 o hN hc.z h.wP.2 r1.hr hf.1 r1.hw r2.hr hf.2
 have T:=fun (e:Ex) (hf:eH (inN i) (ug i) e)=>tp (sz:=i.cfg.sizes) (ps:=m.P) (q:=i.cfg.shift) (x:=e.1) (y:=e.2) hf.1 (by have:=hc.z.1.1;omega)
 rw [a3] at Y T V
 have a2:=fun o (q:Keep (fun k=>k=a.bg) w o)=>eK h.sh (hx o q)
 obtain ⟨K,hK⟩:∃K,A.length=K:=⟨_,rfl⟩
 rw [hK] at C Z X U
 unfold iK at p
 rw [hK] at p
 have t0:∀o,Keep (fun k=>k=a.bg) w o→o.cell? ⟨b,0,none⟩=some (KL (x:Nat)):=fun o q=>JF o b 0 _ _ _ (Q o q)
 have t1:∀o,Keep (fun k=>k=a.bg) w o→o.cell? ⟨b,1,none⟩=some (KL i.cfg.workers):=fun o q=>JF o b 1 _ _ _ (Q o q)
 have t2:∀o,Keep (fun k=>k=a.bg) w o→o.cell? ⟨b,2,none⟩=some (KL i.cfg.micros):=fun o q=>JF o b 2 _ _ _ (Q o q)
 have t3:∀o,Keep (fun k=>k=a.bg) w o→o.cell? ⟨b,3,none⟩=some (.pointer (some ⟨a.F,0,none⟩)):=fun o q=>JF o b 3 _ _ _ (Q o q)
 have t4:∀o,Keep (fun k=>k=a.bg) w o→o.cell? ⟨b,4,none⟩=some (.slice a.E i.data.length a.ce):=fun o q=>JF o b 4 _ _ _ (Q o q)
 have t5:∀o,Keep (fun k=>k=a.bg) w o→o.cell? ⟨b,5,none⟩=some (.pointer (some ⟨a.S,0,none⟩)):=fun o q=>JF o b 5 _ _ _ (Q o q)
 have bN:∀o,Keep (fun k=>k=a.bg) w o→o.cell? ⟨b,10,none⟩=some (KL i.cfg.shift):=fun o q=>JF o b 10 _ _ _ (Q o q)
 have b5:∀o,Keep (fun k=>k=a.bg) w o→o.cell? ⟨b,11,none⟩=some (.slice (some ⟨a.bp,0,none⟩) i.start.length a.cp):=fun o q=>JF o b 11 _ _ _ (Q o q)
 have bw:∀o,Keep (fun k=>k=a.bg) w o→o.cell? ⟨b,13,none⟩=some (.slice (some ⟨a.bg,0,none⟩) i.start.length a.cg):=fun o q=>JF o b 13 _ _ _ (Q o q)
 have tl:=fun o (q:Keep (fun k=>k=a.bg) w o)=>JK bn q.size
 obtain ⟨n,bb⟩:∃n,i.start.length=n:=⟨_,rfl⟩
 have oG:=h.oG
 rw [bb] at a0 Y T V b5 bw oG ⊢
 obtain ⟨W0,W1,hW0,be,g0,g1,av, -⟩:=eE w (aN y).toArray #[u,v] 56 154
 have q1:Keep (fun k=>k=a.bg) w W1:=Keep.below av
 have s1:∀o,Below W1.heap.size W1 o→o.cell? ⟨w.heap.size,1,none⟩=some (KL (y.st:Nat)):=fun o q=>JF o w.heap.size 1 _ _ _ (sb g0 o q)
 have s2:∀o,Below W1.heap.size W1 o→o.cell? ⟨w.heap.size,2,none⟩=some (KL (y.n:Nat)):=fun o q=>JF o w.heap.size 2 _ _ _ (sb g0 o q)
 have cr:=sl g0
 obtain ⟨K1,cj,cf,bo,b0,cd,bd,bA⟩:=ak av hW0 be a0 C X O Y;obtain ⟨bv,HG,bV,OG,Hz,c6,a5,cA⟩:=ak T p a2 oG hc.z a4 U Q;obtain ⟨bI,cb⟩:=ae V Z;clear hW0 be g0 g1 av Q hx ao a4 a0 C X O Y T p a2 oG U V Z eW eM D N L hK bb hc a3 hq b7 hn h hg hs
 go_enter Tryz.func110,Tryz.ntmps110
 go_wp2_with fail
 rw [cj.out,cf.out]
 have b1:=(br W1).drew
 refine HA.g (fun o:World=>Keep (fun k=>k=a.bg) w o∧Below W1.heap.size W1 o) ?_
 refine HA.t ?_ [0,1,2,3,4,5,6,7,8,9,10,11,12,13,14,15] ⟨q1.drew,b1⟩ ?_
 refine HA.c 16 (bo.out _ q1.drew) ?_
 rintro e w2 ⟨nb,rfl, -, -,bi,k2⟩
 have q2:=q1.drew.trans (Keep.below (S:=fun k=>k=a.bg) k2)
 have b2:=b1.trans (k2.mono b1.size)
 refine ⟨_,rfl,⟨q2,b2⟩,fun _=>?_⟩
 refine HA.t ?_ [17,18,19,20,21] ⟨q2,b2⟩ ?_
 refine HA.d ?_
 have NO:=aa bi;have bs:a.bg<w2.heap.size:=JK a7 q2.size
 have a6:w.heap.size≤W1.drew.heap.size:=q1.drew.size
 clear bi k2 q1 b1
 go_wp2_with fail
 refine HA.g (fun o:World=>Keep (fun k=>k=a.bg) w o∧Below W1.heap.size W1 o) ?_
 refine HA.t ?_ [0,1,2,3,4,5,6,7,8,9,10,11,12,13,14,15,16,17,18,19,20,21,22,23,24,25,26,27,28] ⟨q2.drew,b2.drew⟩ ?_
 refine HA.c 29 (b0.out _ q2.drew) ?_
 rintro e w3 ⟨B,d,rfl,hd,rB,k3⟩
 have q3:=q2.drew.trans (Keep.below (S:=fun k=>k=a.bg) k3)
 have b3:=b2.drew.trans (k3.mono b2.drew.size)
 have ab:Below w2.heap.size w2 w3:=(br w2).drew.trans k3
 refine ⟨_,rfl,⟨q3,b3⟩,fun _=>?_⟩
 refine HA.c 30 (cd.out w3 q3 B d rB) ?_
 rintro e w4 ⟨k4,bf⟩
 rcases bf with ⟨-,A',c',rfl,aR⟩ | ⟨bG, -⟩
 rotate_left
 ·exact absurd HG.out bG
 have q4:=q3.trans (Keep.below (S:=fun k=>k=a.bg) k4)
 have b4:=b3.trans (k4.mono b3.size)
 refine ⟨_,rfl,⟨q4,b4⟩,fun _=>?_⟩
 refine HA.t ?_ [31,32,33,34,35] ⟨q4,b4⟩ ?_
 refine HA.d ?_
 obtain ⟨bU,M4,Q4,bz⟩:=ag ((NO.out.below ab).below k4) aR q4 (ap OG.out (K1.out.trans (b4.mono K1.out.size)))
 have bO:a.bg<w3.heap.size:=JK bs ab.size
 have co:a.bg<W1.drew.heap.size:=JK a7 a6
 clear q2 q3 q4 b2 b3 b4 ab k3 k4 aR rB hd s1 s2 cr t0 t1 t2 t3 t4 t5 bN b5
 go_wp2_with fail
 go_loopw [71] (fun z wr=>∃k:Nat,k≤K∧z=KL k∧wr.ownsRow 0 2 1 (.slice (some ⟨a.bg,0,none⟩) n a.cg) n (aq .i64 (eg i m.P m.G (pl.take k)))∧Keep (fun k=>k=a.bg) w4 wr) (fun z _=>K-(intOf z).toNat)
 case atStart=>exact ⟨0,JH _,rfl,bz.out,Keep.refl _ _⟩
 case round=>
  obtain ⟨k,hk,rfl,og,qk⟩:=hrel
  have qw:=Q4.out.trans qk
  by_cases cw:k<K
  ·have bM:(k:Int)<K:=by omega
   have cx:¬(k:Int)<0:=by omega
   have cv:IntKind.i64.wrap ((k:Int)+1)=((k+1:Nat):Int):=by have:=cb.out;rw [JI _ (by omega)];push_cast;rfl
   obtain ⟨e,he⟩:∃e,pl[k]?=some e:=⟨_,Kh (by have:=a5.out;omega)⟩
   have hf:=bd.out k e he
   have b8:=(M4.out.keep qk (fun j hj=>by rw [hj];exact bO)).rd a5.out
   obtain ⟨eb,eo,A1,c1,A2,c2,rfl,cy,p1,p2,r1,r2⟩:=fl b8 he
   have bX:=(br wr).alloc (JD _) (.cells #[.slice A1 e.1.length c1,.slice A2 e.2.length c2] 107)
   have a1:=((bU.out.keep qk (fun j hj=>by rw [hj];exact co)).at (bV.out wr qw) Hz.out c6.out).below bX
   have J:=bA.out nb A1 A2 e c1 c2 _ a1 (r1.below bX) (r2.below bX) hf
   have ad:=bv.out e hf
   have bh:pl.take (k+1)=pl.take k++[e]:=by rw [List.take_add_one,he];rfl
   obtain ⟨gv,I⟩:∃gv,gD i.cfg.sizes m.P i.cfg.shift e.1 e.2=gv:=⟨_,rfl⟩
   obtain ⟨n1,aG⟩:∃n1,e.1.length=n1:=⟨_,rfl⟩
   obtain ⟨n2,bl⟩:∃n2,e.2.length=n2:=⟨_,rfl⟩
   rw [I] at ad J
   rw [aG] at bX J p1
   rw [bl] at bX J p2
   obtain ⟨c8,BX,a8,ci,c9,b9,QK,QW⟩:=ak J bX og ad bh I qk qw;clear J bX og ad bh I qk a1 b8 r1 r2 hf he aG bl
   go_wp2_with fail
   refine c8.out.mono ?_
   rintro e' w6 ⟨A3,c3,rfl,o3,k6⟩
   have R:=BX.out.trans (k6.mono BX.out.size)
   have q6:=QW.out.trans (Keep.below (S:=fun k=>k=a.bg) R)
   have cs:a.bg<wr.heap.size:=JK a7 QW.out.size
   have b6:=uF 0 (some ⟨a.bg,0,none⟩) A3 (eg i m.P m.G (pl.take k)) gv n a.cg c3 w6 (ap a8.out R) (Rd.own o3) ci.out (by have:=bI.out;omega) (fun z1 z2 e1 e2=>by
    cases e1
    have:=(o3.lt z2.block (by rw [e2];rfl)).1
    have h2:=BX.out.size
    dsimp only
    omega)
   obtain ⟨c7,cl⟩:=ae b6 R;clear b6 R o3 k6 p1 p2 qw
   go_wp2_with fail
   refine c7.out.mono ?_
   rintro ct w7 ⟨rfl,o7,k7⟩
   have aM:Keep (fun k=>k=a.bg) w4 w7:=(QK.out.trans (Keep.below cl.out)).trans (k7.mono fun j _ hj=>by cases hj;rfl)
   rw [←b9.out,←wu,←c9.out] at o7
   obtain ⟨O7,K7⟩:=ae o7 aM;clear o7 k7 aM q6
   go_wp2_with fail
   go_roundw
   case rel=>exact ⟨k+1,by omega,by go_num,O7.out,K7.out⟩
   case measure=>simp [intOf];omega
  ·obtain rfl:k=K:=by omega
   have bM:¬(k:Int)<k:=by omega
   rw [List.take_of_length_le (by have:=a5.out;omega)] at og
   obtain ⟨a8,QW⟩:=ae og qw;clear og qk qw
   go_wp2_with fail
   go_ret
   exact ⟨rfl,QW.out,a8.out⟩
theorem aB {w i:World} {o:Obj} (k:Keep (fun j=>j=w.heap.size) (w.alloc o) i):Below w.heap.size w i:=
 ((br w).alloc (JD _) o).trans (k.toBelow (by rw [JS];omega) (fun j p=>by omega))
theorem DD:cL Tryz.prog 152 13:=⟨⟨_,Tryz.underlying152,rfl⟩,by kernel_rfl⟩
theorem DE:cL Tryz.prog 149 7:=⟨⟨_,Tryz.underlying149,rfl⟩,by kernel_rfl⟩
theorem qS (w:World):Calls Tryz.prog 64 #[] w fun e o=>e=.returned (.agg KO)∧Below w.heap.size w o:=by
 go_enter Tryz.func64,Tryz.ntmps64
 go_wp2_with (refine az (JE _ _) DE rfl rfl rfl rfl rfl rfl rfl ?_;intro u j i;obtain ⟨p,q⟩:=ae j (aB i);clear j i)
 exact JQ (ny rfl rfl p.out DE) rfl ⟨rfl,q.out⟩
def adv (i:Inp) (x:Nat) (m:Mst):Mst:=if m.nx+1<(bZ i x m.st).length then {m with nx:=m.nx+1} else {m with st:=m.st+1,nx:=0}
theorem aI.upd {H:Nat→Prop} {w p:World} {b x:Nat} {i:Inp} {a:MAd} {m:Mst} (h:aI H w b i x a m) (hn:∀k,Mut b a k→¬H k) (A:Keep (fun k=>k=b) w p) (st nx:Nat) (IA:Option Addr) (ic:Nat)
  (D:p.heap[b]?=some (.cells #[KL (x:Nat),KL i.cfg.workers,KL i.cfg.micros,.pointer (some ⟨({a with IA:=IA,ic:=ic}:MAd).F,0,none⟩),.slice ({a with IA:=IA,ic:=ic}:MAd).E i.data.length ({a with IA:=IA,ic:=ic}:MAd).ce,.pointer (some ⟨({a with IA:=IA,ic:=ic}:MAd).S,0,none⟩),.pointer (some ⟨({a with IA:=IA,ic:=ic}:MAd).PP,0,none⟩),.slice ({a with IA:=IA,ic:=ic}:MAd).BA (aE i).buks.length ({a with IA:=IA,ic:=ic}:MAd).bc,KL i.cfg.rate,KL i.cfg.mom,KL i.cfg.shift,.slice (some ⟨({a with IA:=IA,ic:=ic}:MAd).bp,0,none⟩) i.start.length ({a with IA:=IA,ic:=ic}:MAd).cp,.slice (some ⟨({a with IA:=IA,ic:=ic}:MAd).bm,0,none⟩) i.start.length ({a with IA:=IA,ic:=ic}:MAd).cm,.slice (some ⟨({a with IA:=IA,ic:=ic}:MAd).bg,0,none⟩) i.start.length ({a with IA:=IA,ic:=ic}:MAd).cg,.slice (some ⟨({a with IA:=IA,ic:=ic}:MAd).rb,0,none⟩) ({m with st:=st,nx:=nx}:Mst).rc.length ({a with IA:=IA,ic:=ic}:MAd).rc,.slice ({a with IA:=IA,ic:=ic}:MAd).IA (bZ i x ({m with st:=st,nx:=nx}:Mst).st).length ({a with IA:=IA,ic:=ic}:MAd).ic,KL (({m with st:=st,nx:=nx}:Mst).nx:Nat),KL (aW i x {m with st:=st,nx:=nx}:Nat),({a with IA:=IA,ic:=ic}:MAd).ov] 130 (0,0)))
  (hit:Rd (ay (fL H b a) p) IA (bH (bZ i x st))) (ox:nx<(bZ i x st).length∨(nx=0∧i.cfg.steps.toNat≤st)):aI H p b i x {a with IA:=IA,ic:=ic} {m with st:=st,nx:=nx}:=by
 have he:Ext (ay (fL H b a) w) (ay (fL H b a) p):=cu (A.mono fun k _ e=>.inl (.inl e)) (fun k _ V=>V)
 have o:∀{v:Value} {e size n xs},e≠130→w.ownsRow 0 e size v n xs→p.ownsRow 0 e size v n xs:=fun u o=>A.own o (fun j R e=>an h.blk (Ne.symm u) o (by rw [R,e]))
 obtain ⟨Q,T,U,J,L,y,N⟩:=h.pl
 obtain ⟨q,C,O,B,I⟩:=h.re
 exact ⟨D,eK h.sh he,dJ bW h.ex he,gi h.sa he,⟨Q,T,U,J,L,y,gj N he⟩,aU h.bu he,hit,⟨q,o (by decide) C,O,B,fun j x hx=>bW (I j x hx) he⟩,
  o (by decide) h.oP,o (by decide) h.oM,o (by decide) h.oG,o (by decide) h.oO,h.dj,fun k _ hm=>hn k hm,h.wP,h.wM,h.wG,ox,h.xw⟩
theorem qi {i:Inp} (hs:cU i) {x st nx:Nat} (h:nx<(bZ i x st).length):st<i.cfg.steps.toNat∧(bZ i x st).length=(aD (aE i) x 0).length:=by
 unfold bZ at h ⊢
 by_cases hc:st<i.cfg.steps.toNat
 ·rw [if_pos hc];exact ⟨hc,jk hs.ok x st⟩
 ·rw [if_neg hc] at h;simp at h
theorem rG (i:Inp) (x:Nat) (m:Mst):aW i x {m with st:=m.st,nx:=m.nx+1}=aW i x m+1:=rfl
theorem rF {i:Inp} (hs:cU i) {x:Nat} {m:Mst} (h:m.nx+1=(bZ i x m.st).length):aW i x {m with st:=m.st+1,nx:=0}=aW i x m+1:=by
 have:=(qi hs (x:=x) (st:=m.st) (nx:=m.nx) (by omega)).2
 simp only [aW,Kx]
 omega
theorem Cq {p:Pln} {x st:Nat} {y:Itm} (h:y∈aD p x st):y.st=st:=by
 unfold aD at h
 simp only [Kv,List.mem_map,List.mem_flatMap,List.mem_singleton] at h
 rcases h with (⟨_,_,rfl⟩ | ⟨g,_,h⟩) | rfl
 ·rfl
 ·unfold de at h
  simp only [Kv,List.mem_map,List.mem_flatMap] at h
  rcases h with (⟨_,_,rfl⟩ | ⟨_,_,_,_,_,_,h⟩) | ⟨_,_,rfl⟩
  ·rfl
  ·unfold cC at h
   obtain ⟨_,_,rfl⟩:=List.mem_map.1 h
   rfl
  ·rfl
 ·rfl
theorem uy {i:Inp} {x st nx:Nat} {y:Itm} (h:(bZ i x st)[nx]?=some y):y.st=st:=by
 unfold bZ at h
 by_cases hc:st<i.cfg.steps.toNat
 ·rw [if_pos hc] at h;exact Cq (List.mem_of_getElem? h)
 ·rw [if_neg hc] at h;simp at h
theorem Ff {i:Inp} (hs:cU i) {x:Nat} {m:Mst} (h:m.nx<(bZ i x m.st).length):aW i x m+1≤48000000:=by
 obtain ⟨h1,q⟩:=qi hs h
 have j:=lZ hs.ok x 0
 have o:m.st≤5:=by have:=hs.s;omega
 have v:=Nat.mul_le_mul o j
 have p:m.st*(aD (aE i) x 0).length+(aD (aE i) x 0).length=(m.st+1)*(aD (aE i) x 0).length:=(Kx _ _).symm
 have u:=Nat.mul_le_mul (show m.st+1≤6 by omega) j
 simp only [aW]
 omega
theorem aI.mlt {H:Nat→Prop} {w:World} {b x:Nat} {i:Inp} {a:MAd} {m:Mst} (h:aI H w b i x a m):∀k,Mut b a k→k<w.heap.size:=by
 rintro k (rfl | rfl | rfl | rfl | rfl | o)
 ·exact JC h.blk
 ·exact (h.oP.lt _ rfl).2
 ·exact (h.oM.lt _ rfl).2
 ·exact (h.oG.lt _ rfl).2
 ·obtain ⟨j,p,_⟩:=h.re
  exact (p.lt _ rfl).2
 ·exact (h.oO.lt _ o).2
theorem Bq {w:World} {P x:Nat} {i:Inp} {q u C D H j:Value} (hP:et w P (aE i) q u C D H (KL (i.cfg.steps.toNat:Nat)) j) (hs:cU i) (hx:x<(aE i).W) (st:Nat):
  Calls Tryz.prog 51 #[.pointer (some ⟨P,0,none⟩),KL x,KL (st:Nat)] w fun e p=>∃A c,e=.returned (.slice A (bZ i x st).length c)∧Rd p A (bH (bZ i x st))∧(∀y,A=some y→w.heap.size≤y.block)∧Below w.heap.size w p:=by
 unfold bZ
 by_cases hc:st<i.cfg.steps.toNat
 ·rw [if_pos hc]
  refine (sJ (aE i) P x st i.cfg.steps.toNat q u C D H j w hs.ok hs.n1 hx hc hP).mono ?_
  rintro e p ⟨v,rfl,o,k⟩
  obtain ⟨A,c,rfl,_⟩:=aw o
  exact ⟨A,c,rfl,Rd.own o,fun y B=>(fG o y B).1,k⟩
 ·rw [if_neg hc]
  refine (sI (aE i) P x st i.cfg.steps.toNat q u C D H j w hx (by omega) hP).mono ?_
  rintro e p ⟨rfl,rfl⟩
  exact ⟨none,0,rfl,Rd.nil _ _,(fun y B=>by cases B),br w⟩
def Fxd (a i:MAd):Prop:=i.bp=a.bp∧i.bm=a.bm∧i.bg=a.bg
def Did (H G:Nat→Prop) (b:Nat) (i:Inp) (x:Nat) (a:MAd) (m:Mst) (n:Nat) (T:World→Mst→Prop) (w o:World):Prop:=∃p j,aI H o b i x p j∧j.st=m.st∧j.nx=m.nx∧Keep (fun k=>Mut b a k∨G k) w o∧(∀k,Mut b p k→Mut b a k∨n≤k)∧Fxd a p∧T o j
def Jz (G:Nat→Prop) (b:Nat) (i:Inp) (x:Nat) (a:MAd) (m:Mst) (n:Nat) (T:(Nat→Prop)→World→Mst→Prop) (w j:World):Prop:=∃H o p,aI H j b i x o p∧(∀k,Mut b o k→¬H k)∧(∀k,j.heap.size≤k→¬H k)∧p.st=m.st∧p.nx=m.nx∧Keep (fun k=>Mut b a k∨G k) w j∧(∀k,Mut b o k→Mut b a k∨n≤k)∧Fxd a o∧T H j p
def xj (H G:Nat→Prop) (b:Nat) (i:Inp) (x:Nat) (a:MAd) (m:Mst) (T:World→Mst→Prop) (w o:World):Prop:=∃p j,aI H o b i x p (adv i x j)∧j.st=m.st∧j.nx=m.nx∧Keep (fun k=>Mut b a k∨G k) w o∧(∀k,Mut b p k→Mut b a k∨w.heap.size≤k)∧Fxd a p∧T o j
def FQ (G:Nat→Prop) (b:Nat) (i:Inp) (x:Nat) (a:MAd) (m:Mst) (T:(Nat→Prop)→World→Mst→Prop) (w j:World):Prop:=∃H o p,aI H j b i x o (adv i x p)∧(∀k,Mut b o k→¬H k)∧(∀k,j.heap.size≤k→¬H k)∧p.st=m.st∧p.nx=m.nx∧Keep (fun k=>Mut b a k∨G k) w j∧(∀k,Mut b o k→Mut b a k∨w.heap.size≤k)∧Fxd a o∧T H j p
theorem vY {H G:Nat→Prop} {w:World} {b x:Nat} {i:Inp} {a:MAd} {m:Mst} (h:aI H w b i x a m) (hn:∀k,Mut b a k→¬H k) (aM:∀k,w.heap.size≤k→¬H k) (bo:∀k,G k→k<w.heap.size) (hs:cU i) {y:Itm} (hy:(bZ i x m.st)[m.nx]?=some y) (u v:Option Addr)
  (f:Nat) (hf:∀p,Sem.run Tryz.prog (Instr.index 149 (.agg KO) (KL (y.kind:Nat))) p=.ok (.func (.func f) #[] #[]) p) (cf:∀args w,(callFunc f args).run Tryz.prog w=.ok (.enter f args) w)
  (FP:Int→Prop) (T:(Nat→Prop)→World→Mst→Prop) (hT:∀H1 B w2 o,T H1 B o→Keep (fun k=>k=b) B w2→T H1 w2 o)
  (hd:∀p,Below w.heap.size w p→Calls Tryz.prog f #[.pointer (some ⟨b,0,none⟩),.agg (aN y).toArray,.agg #[.pointer u,.pointer v]] p fun e bX=>(e=.returned (KL 0)∧Jz G b i x a m w.heap.size T p bX)∨(∃C:Int,C≠0∧FP C∧e=.returned (KL C)∧Below p.heap.size p bX)):
  Calls Tryz.prog 17 #[.pointer (some ⟨b,0,none⟩),.pointer u,.pointer v] w fun e p=>(e=.returned (KL 0)∧FQ G b i x a m T w p)∨(∃C:Int,C≠0∧FP C∧e=.returned (KL C)∧Below w.heap.size w p):=by
 have hnx:=iP h hy
 have bl:=ma y
 obtain ⟨k0,k1,k2,b0,b1,i0,i1,i2,i3,i4,i5,i6,a8⟩:=mb y
 have e0:(y.kind:Int)=k0:=by have:=a8;simp only [aN,List.cons.injEq,Value.int.injEq,true_and] at this;exact this.1
 have e1:(y.st:Int)=k1:=by have:=a8;simp only [aN,List.cons.injEq,Value.int.injEq,true_and] at this;exact this.2.1
 rw [a8] at hnx hd
 rw [e0] at hf
 have cc:=(Kg.1 hy).1
 have aG:=h.mlt
 obtain ⟨d5,Hd,Hf,cr,HM,HT,cO,Hn⟩:=ak hnx hd hf cf h hT cc hn;obtain ⟨d8,Hs,E1,Hy,cv,d3⟩:=ai aM hs e1 hy aG bo;clear aG bo hnx hd hf cf h hT cc hn aM bl a8 e0 e1 hs hy
 go_enter Tryz.func17,Tryz.ntmps17
 go_wp2_with fail
 refine d5.out.mono ?_
 rintro e B ⟨rfl,q1⟩
 have g2:=JE B (.cells #[KL k0,KL k1,KL k2,.bool b0,.bool b1,KL i0,KL i1,KL i2,KL i3,KL i4,KL i5,KL i6] 56)
 have q2:Below w.heap.size w (B.alloc (.cells #[KL k0,KL k1,KL k2,.bool b0,.bool b1,KL i0,KL i1,KL i2,KL i3,KL i4,KL i5,KL i6] 56)):=q1.alloc q1.size _
 obtain ⟨X,bA⟩:∃X,B.alloc (.cells #[KL k0,KL k1,KL k2,.bool b0,.bool b1,KL i0,KL i1,KL i2,KL i3,KL i4,KL i5,KL i6] 56)=X:=⟨_,rfl⟩
 rw [bA] at g2 q2
 have hX:w.heap.size≤B.heap.size:=q1.size
 go_wp2_with fail
 clear bA q1
 obtain ⟨G2,Q2⟩:=ae g2 q2
 have t0:∀p,Below X.heap.size X p→p.cell? ⟨B.heap.size,0,none⟩=some (KL k0):=fun p q=>JF p B.heap.size 0 _ _ _ (sb g2 p q)
 have tl:=sl g2
 clear g2 q2
 have b5:=fun p=>Hf.out p
 go_cut [9] (fun v wx=>∃J,v=.pointer (some ⟨J,0,none⟩)∧wx.heap[J]?=some (.cells #[KL k0,KL k1,KL k2,.bool b0,.bool b1,KL i0,KL i1,KL i2,KL i3,KL i4,KL i5,KL i6,.func (.func f) #[] #[]] 152 (0,0))∧Below X.heap.size X wx)
 case first=>
  refine HA.g (fun p:World=>Below X.heap.size X p) ?_
  have q3:=(br X).drew
  refine HA.ld 0 #[KL k0,KL k1,KL k2,.bool b0,.bool b1,KL i0,KL i1,KL i2,KL i3,KL i4,KL i5,KL i6] (fun p q=>sb G2.out p q) iD q3 ?_
  refine HA.t ?_ [2,3] q3 ?_
  refine HA.two 1 6 ?_ ?_
  ·refine HAS.c (qS _) ?_
   rintro e D ⟨rfl,k3⟩
   have q4:=q3.trans (k3.mono q3.size)
   refine ⟨_,rfl,q4,fun _=>?_⟩
   refine HA.t ?_ [4,5] q4 ?_
   refine HA.v 6 (D.alloc (.cells KQ 152)) (.pointer (some ⟨D.heap.size,0,none⟩)) (q4.alloc q4.size _) ?_
   refine HA.st 7 (JE D _) DD (fun R e9 k9=>?_)
   have q9:=q4.trans ((aB k9).mono q4.size)
   refine ⟨q9,HA.d ?_⟩
   obtain ⟨E9,Q9⟩:=ae e9 q9;clear e9 k9 q9 q4 q3 k3 b5 t0 tl
   go_wp2_with fail
   go_meet
   exact ⟨_,rfl,E9.out,Q9.out⟩
  ·refine HAS.v (X.drew.alloc (.cells KQ 152)) (.pointer (some ⟨X.heap.size,0,none⟩)) (q3.alloc (JD _) _) ?_
   have gJ:=JE X.drew (.cells KQ 152)
   rw [Kt] at gJ
   have q4:=q3.alloc (JD _) (.cells KQ 152)
   obtain ⟨W3,c6⟩:∃W3,X.drew.alloc (.cells KQ 152)=W3:=⟨_,rfl⟩
   rw [c6] at gJ q4 ⊢
   clear c6
   refine HA.c 1 (qS _) ?_
   rintro e D ⟨rfl,k3⟩
   have q5:=q4.trans (k3.mono q4.size)
   refine ⟨_,rfl,q5,fun _=>?_⟩
   refine HA.t ?_ [4,5] q5 ?_
   refine HA.st 7 (sb gJ _ k3) DD (fun R e9 k9=>?_)
   have q9:=q5.trans (k9.toBelow q5.size (fun j hj=>by rw [hj];exact JD _))
   refine ⟨q9,HA.d ?_⟩
   obtain ⟨E9,Q9⟩:=ae e9 q9;clear e9 k9 q9 q4 q5 q3 k3 b5 t0 tl gJ
   go_wp2_with fail
   go_meet
   exact ⟨_,rfl,E9.out,Q9.out⟩
 case rest=>
  obtain ⟨J,rfl,gJ,qJ⟩:=hcut
  clear t0 tl b5
  have bw:=JF wc J 12 _ _ _ gJ
  have lJ:=JC gJ
  have bi:wc.cell? ⟨J,12,none⟩=some (.func (.func f) #[] #[]):=bw
  clear bw
  have GJ:=aa gJ
  have bV:=Q2.out.trans (qJ.mono Q2.out.size)
  obtain ⟨QJ,B0⟩:=ae qJ bV;clear gJ qJ bV
  have ci:=cr.out
  go_wp2_with (refine aJ #[KL k0,KL k1,KL k2,.bool b0,.bool b1,KL i0,KL i1,KL i2,KL i3,KL i4,KL i5,KL i6] GJ.out iD rfl rfl rfl rfl ?_)
  refine (Hd.out wc B0.out).mono ?_
  rintro e D (⟨rfl,H1,N,o,b9,bf,av,b4,hnx,hk,cd,bz,ht⟩ | ⟨C,hC,cA,rfl,k3⟩)
  rotate_left
  ·have e3:(C != 0)=true:=by rw [bne_iff_ne];exact hC
   have K3:=aa (B0.out.trans (k3.mono B0.out.size));clear k3
   go_wp2_with fail
   go_ret
   exact .inr ⟨C,hC,cA,rfl,K3.out⟩
  ·have Q:o.nx<(bZ i x o.st).length:=by rw [b4,hnx];exact cO.out
   have cw:=Ff Hs.out Q
   obtain ⟨dn,b3⟩:∃dn,aW i x o=dn:=⟨_,rfl⟩
   obtain ⟨il,ad⟩:∃il,(bZ i x o.st).length=il:=⟨_,rfl⟩
   have A:=b9.blk
   rw [b3] at A cw
   rw [ad] at A Q
   have lb:=JC A
   have cs:D.cell? ⟨b,16,none⟩=some (KL (o.nx:Nat)):=JF D b 16 _ _ _ A
   have cx:D.cell? ⟨b,17,none⟩=some (KL (dn:Nat)):=JF D b 17 _ _ _ A
   have b2:=JM D b 16 _ _ A
   have co:=JM D b 17 _ _ A
   have dp:IntKind.i64.wrap ((dn:Int)+1)=((dn+1:Nat):Int):=by rw [JI _ (by omega)];push_cast;rfl
   have d9:il≤8000000:=by rw [←ad,(qi Hs.out (x:=x) (st:=o.st) (nx:=o.nx) (by omega)).2];exact lZ Hs.out.ok x 0
   have dk:IntKind.i64.wrap ((o.nx:Int)+1)=((o.nx+1:Nat):Int):=by rw [JI _ (by omega)];push_cast;rfl
   have g5:=ss2 (i:=17) (j:=16) (v:=KL ((dn:Int)+1)) (u:=KL ((o.nx:Int)+1)) A rfl
   have k5:Keep (fun k=>k=b) D ((D.setCell ⟨b,17,none⟩ (KL ((dn:Int)+1))).setCell ⟨b,16,none⟩ (KL ((o.nx:Int)+1))):=Keep.setCell (S:=fun k=>k=b) (Keep.setCell (S:=fun k=>k=b) (Keep.refl _ _) _ (.inr rfl) _) _ (.inr rfl) _
   obtain ⟨G5,K5,Z,Hk,bn,Ht,bG,aP⟩:=ak g5 k5 b9 hk cd ht bz b4;obtain ⟨ao,a6,a3,bh,I,b8⟩:=ai hnx bf av b3 ad Q;clear b9 hk cd ht bz b4 hnx bf av b3 ad g5 k5 A Q bi lJ ci
   go_wp2_with fail
   obtain ⟨W5,bN⟩:∃W5,(D.setCell ⟨b,17,none⟩ (KL ((dn:Int)+1))).setCell ⟨b,16,none⟩ (KL ((o.nx:Int)+1))=W5:=⟨_,rfl⟩
   have g5:=G5.out
   have k5:=K5.out
   rw [bN] at g5 k5 ⊢
   clear G5 K5 bN cs cx b2 co
   have cj:b<W5.heap.size:=JC g5
   have bM:∀p,Below W5.heap.size W5 p→p.cell? ⟨b,15,none⟩=some (.slice N.IA (bZ i x o.st).length N.ic):=fun p q=>by rw [I.out];exact JF p b 15 _ _ _ (sb g5 p q)
   rw [I.out] at bM
   have d4:∀p,Below W5.heap.size W5 p→p.cell? ⟨b,16,none⟩=some (KL ((o.nx:Int)+1)):=fun p q=>JF p b 16 _ _ _ (sb g5 p q)
   obtain ⟨G5,K5⟩:=ae g5 k5;clear g5 k5
   have q5:=(br W5).drew
   refine HA.g (fun p:World=>Below W5.heap.size W5 p) ?_
   refine HA.t ?_ [0,1,2,3,4,5,6,7,8,9] q5 ?_
   refine HA.d ?_
   have k6:Keep (fun k=>k=b) D W5.drew:=K5.out.drew
   have g6:=sb G5.out _ q5
   obtain ⟨V,bb⟩:∃V,W5.drew=V:=⟨_,rfl⟩
   rw [bb] at k6 g6 ⊢
   obtain ⟨G6,K6⟩:=ae g6 k6
   have l6:b<V.heap.size:=JC g6
   clear bb q5 bM d4 G5 K5 cj k6 g6
   by_cases a4:o.nx+1=il
   rotate_left
   ·have d2:¬(o.nx:Int)+1=il:=by omega
    clear a4
    go_wp2_with fail
    go_ret
    have O:adv i x o={o with st:=o.st,nx:=o.nx+1}:=if_pos (by rw [I.out];have:=b8.out;omega)
    have e:((aW i x {o with st:=o.st,nx:=o.nx+1}:Nat):Int)=(dn:Int)+1:=by rw [rG,bh.out];push_cast;rfl
    have e2:((o.nx+1:Nat):Int)=(o.nx:Int)+1:=by push_cast;rfl
    have hb:=G6.out
    rw [←I.out,←e,←e2] at hb
    have hm:=Z.out.upd a6.out K6.out o.st (o.nx+1) N.IA N.ic hb (aU Z.out.it (cu (K6.out.mono fun k _ e=>.inl (.inl e)) (fun _ _ h=>h))) (.inl (by rw [I.out];have:=b8.out;omega))
    refine .inl ⟨rfl,H1,N,o,by rw [O];exact hm,a6.out,(fun k hk=>a3.out k (JJ K6.out.size hk)),aP.out,ao.out,((Keep.below B0.out).trans Hk.out).trans (K6.out.mono fun k _ e=>.inl (.inl e)),bn.out,bG.out,HT.out H1 D V o Ht.out K6.out⟩
   ·have d2:(o.nx:Int)+1=il:=by omega
    have d6:k1=(o.st:Int):=by rw [←E1.out,uy Hy.out,aP.out]
    have dT:o.st<6:=by have:=(qi Hs.out (x:=x) (st:=o.st) (nx:=o.nx) (by rw [I.out];exact b8.out)).1;have:=Hs.out.s;omega
    have cy:IntKind.i64.wrap ((o.st:Int)+1)=((o.st+1:Nat):Int):=by rw [JI _ (by omega)];push_cast;rfl
    subst d6
    have g6:=G6.out
    have nw:¬(Mut b a B.heap.size∨G B.heap.size):=fun h=>h.elim (fun h=>by have:=cv.out _ h;omega) (fun h=>by have:=d3.out _ h;omega)
    have d0:B.heap.size<wc.heap.size:=JC (sb G2.out wc QJ.out)
    have g3:=(Hk.out.block _ d0 nw).trans (sb G2.out wc QJ.out)
    have gB:=(K6.out.block B.heap.size (JC g3) (fun e=>nw (.inl (.inl e)))).trans g3
    have hS:V.drew.cell? ⟨b,6,none⟩=some (.pointer (some ⟨N.PP,0,none⟩))∧V.drew.cell? ⟨b,0,none⟩=some (KL (x:Nat))∧V.drew.cell? ⟨B.heap.size,1,none⟩=some (KL (o.st:Nat))∧Keep (fun k=>k=b) D V.drew:=⟨JF V.drew b 6 _ _ _ g6,JF V.drew b 0 _ _ _ g6,JF V.drew B.heap.size 1 _ _ _ gB,K6.out.drew⟩
    obtain ⟨ds,dr,dG,e4,dv,da,bI⟩:=Z.out.pl
    have b6:=Bq (gj bI (gn (S:=fL H1 b N) (K6.out.drew.mono fun k _ e=>.inl (.inl e)))) Hs.out Z.out.xw (o.st+1)
    rw [←cy] at b6
    obtain ⟨d1,d7,GB⟩:=af b6 (show V.drew.heap[b]?=_ from g6) (show V.drew.heap[B.heap.size]?=_ from gB);clear a4 g6 gB g3 bI b6
    go_wp2_with fail
    refine HA.g (fun p:World=>p.cell? ⟨b,6,none⟩=some (.pointer (some ⟨N.PP,0,none⟩))∧p.cell? ⟨b,0,none⟩=some (KL (x:Nat))∧p.cell? ⟨B.heap.size,1,none⟩=some (KL (o.st:Nat))∧Keep (fun k=>k=b) D p) ?_
    refine HA.t ?_ [0,1,2,3,4,5,6,7,8,9,10,11,12,13,14] hS ?_
    refine HA.c 15 d1.out ?_
    rintro e w7 ⟨IA,ic,rfl,c7,c8,k7⟩
    have g7:=sb d7.out w7 k7
    have a7:=sb GB.out w7 k7
    have q7:=K6.out.drew.trans (Keep.below (S:=fun k=>k=b) k7)
    refine ⟨_,rfl,⟨JF w7 b 6 _ _ _ g7,JF w7 b 0 _ _ _ g7,JF w7 B.heap.size 1 _ _ _ a7,q7⟩,fun c9=>?_⟩
    refine HA.t ?_ [16,17] c9 ?_
    obtain ⟨CL,bd⟩:∃CL,(bZ i x (o.st+1)).length=CL:=⟨_,rfl⟩
    rw [bd]
    have cb:=JF w7 b 15 _ _ _ g7
    have ct:=JM w7 b 15 _ _ g7
    have g8:=ss (i:=15) (v:=.slice IA CL ic) g7 rfl
    have a0:Keep (fun k=>k=b) w7 (w7.setCell ⟨b,15,none⟩ (.slice IA CL ic)):=Keep.setCell (S:=fun k=>k=b) (Keep.refl _ _) _ (.inr rfl) _
    have a2:=(a0.block _ (JC a7) (fun e=>nw (.inl (.inl e)))).trans a7
    obtain ⟨Y,U⟩:∃Y,w7.setCell ⟨b,15,none⟩ (.slice IA CL ic)=Y:=⟨_,rfl⟩
    have a5:Y.cell? ⟨b,6,none⟩=some (.pointer (some ⟨N.PP,0,none⟩))∧Y.cell? ⟨b,0,none⟩=some (KL (x:Nat))∧Y.cell? ⟨B.heap.size,1,none⟩=some (KL (o.st:Nat))∧Keep (fun k=>k=b) D Y:=⟨by rw [←U];exact JF _ b 6 _ _ _ g8,by rw [←U];exact JF _ b 0 _ _ _ g8,by rw [←U];exact JF _ B.heap.size 1 _ _ _ a2,by rw [←U];exact q7.trans a0⟩
    have bO:w7.cell? ⟨b,15,none⟩=some (.slice N.IA il N.ic):=cb
    clear cb
    refine HA.s 18 Y a5 ?_
    rw [U] at g8 a2 a0
    clear U bO ct
    refine HA.t ?_ [19,20] a5 ?_
    have bv:Y.cell? ⟨b,16,none⟩=some (KL ((o.nx:Int)+1)):=JF Y b 16 _ _ _ g8
    have b2:=JM Y b 16 _ _ g8
    have g9:=ss (i:=16) (v:=KL 0) g8 rfl
    have ab:Keep (fun k=>k=b) Y (Y.setCell ⟨b,16,none⟩ (KL 0)):=Keep.setCell (S:=fun k=>k=b) (Keep.refl _ _) _ (.inr rfl) _
    have bU:=(ab.block _ (JC a2) (fun e=>nw (.inl (.inl e)))).trans a2
    obtain ⟨R,L⟩:∃R,Y.setCell ⟨b,16,none⟩ (KL 0)=R:=⟨_,rfl⟩
    have aR:R.cell? ⟨b,6,none⟩=some (.pointer (some ⟨N.PP,0,none⟩))∧R.cell? ⟨b,0,none⟩=some (KL (x:Nat))∧R.cell? ⟨B.heap.size,1,none⟩=some (KL (o.st:Nat))∧Keep (fun k=>k=b) D R:=⟨by rw [←L];exact JF _ b 6 _ _ _ g9,by rw [←L];exact JF _ b 0 _ _ _ g9,by rw [←L];exact JF _ B.heap.size 1 _ _ _ bU,by rw [←L];exact a5.2.2.2.trans ab⟩
    refine HA.s 21 R aR ?_
    refine HA.d ?_
    rw [L] at g9
    have K9:=aR.2.2.2
    have bs:Rd (ay (fL H1 b N) R) IA (bH (bZ i x (o.st+1))):=by
     have cl:Keep (fun k=>k=b) w7 R:=by rw [←L];exact a0.trans ab
     have be:∀z,IA=some z→¬fL H1 b N z.block:=fun z hz hm=>by
      have b7:=c8 z hz
      have dc:=K6.out.size
      have h3:=Hk.out.size
      have h0:=B0.out.size
      have hw:w.heap.size≤z.block:=by rw [Kt] at b7;omega
      rcases hm with hm | hm
      ·have:=Z.out.mlt _ hm
       rw [Kt] at b7
       omega
      ·exact a3.out _ (by rw [Kt] at b7;omega) hm
     exact kh (cl.rd c7 (fun z hz e=>be z hz (.inl (.inl e)))) be
    have O:adv i x o={o with st:=o.st+1,nx:=0}:=if_neg (by rw [I.out];omega)
    have e:((aW i x {o with st:=o.st+1,nx:=0}:Nat):Int)=(dn:Int)+1:=by rw [rF Hs.out (by rw [I.out];omega),bh.out];push_cast;rfl
    rw [←bd,←e] at g9
    have ox:(0:Nat)<(bZ i x (o.st+1)).length∨((0:Nat)=0∧i.cfg.steps.toNat≤o.st+1):=by
     unfold bZ
     by_cases hc:o.st+1<i.cfg.steps.toNat
     ·rw [if_pos hc];exact .inl (iT _ _ _)
     ·exact .inr ⟨rfl,by omega⟩
    have hm:=Z.out.upd a6.out K9 (o.st+1) 0 IA ic g9 bs ox
    have HF:=aa (⟨H1,{N with IA:=IA,ic:=ic},o,by rw [O];exact hm,a6.out,(fun k hk=>a3.out k (JJ K9.size hk)),aP.out,ao.out,((Keep.below B0.out).trans Hk.out).trans (K9.mono fun k _ e=>.inl (.inl e)),bn.out,bG.out,HT.out H1 D R o Ht.out K9⟩:FQ G b i x a m T w R);clear hm O bs ox e g9 bU ab L aR K9 a5 c9 hS g8 a2 a0 g7 a7 q7 k7 c7 c8 bv b2
    go_wp2_with fail
    go_ret
    exact .inl ⟨rfl,HF.out⟩
theorem kp {H G:Nat→Prop} {w:World} {b x:Nat} {i:Inp} {a:MAd} {m:Mst} (h:aI H w b i x a m) (hn:∀k,Mut b a k→¬H k) (o:∀k,w.heap.size≤k→¬H k) (O:∀k,G k→k<w.heap.size) (hs:cU i) {y:Itm} (hy:(bZ i x m.st)[m.nx]?=some y) (u v:Option Addr)
  (f:Nat) (B:∀j,Sem.run Tryz.prog (Instr.index 149 (.agg KO) (KL (y.kind:Nat))) j=.ok (.func (.func f) #[] #[]) j) (X:∀args w,(callFunc f args).run Tryz.prog w=.ok (.enter f args) w)
  (U:Int→Prop) (T:World→Mst→Prop) (hT:∀D L p,T D p→Keep (fun k=>k=b) D L→T L p)
  (hd:∀j,Below w.heap.size w j→Calls Tryz.prog f #[.pointer (some ⟨b,0,none⟩),.agg (aN y).toArray,.agg #[.pointer u,.pointer v]] j fun e A=>(e=.returned (KL 0)∧Did H G b i x a m w.heap.size T j A)∨(∃C:Int,C≠0∧U C∧e=.returned (KL C)∧Below j.heap.size j A)):
  Calls Tryz.prog 17 #[.pointer (some ⟨b,0,none⟩),.pointer u,.pointer v] w fun e j=>(e=.returned (KL 0)∧xj H G b i x a m T w j)∨(∃C:Int,C≠0∧U C∧e=.returned (KL C)∧Below w.heap.size w j):=by
 refine (vY h hn o O hs hy u v f B X U (fun R w m=>R=H∧T w m) (fun R D L p ht k=>⟨ht.1,hT D L p ht.2 k⟩) (fun j q=>(hd j q).mono ?_)).mono ?_
 ·rintro e A (⟨he,Z,p,h1,N,V,I,J,B,Y⟩ | h)
  ·exact .inl ⟨he,H,Z,p,h1,fun k Q=>(J k Q).elim (hn k) (o k),fun k Q=>o k (JJ (JJ q.size I.size) Q),N,V,I,J,B,rfl,Y⟩
  ·exact .inr h
 ·rintro e j (⟨he,R,Z,p,h1, -, -,N,V,I,J,B,rfl,Y⟩ | h)
  ·exact .inl ⟨he,Z,p,h1,N,V,I,J,B,Y⟩
  ·exact .inr h
end Go.Proofs.YtaccfnffmbndhaaGreat
