/- No condition. -/
import Derived.Test.YtindmkcnjlgomaaGreatR02
import Derived.BigRegion
set_option linter.unusedSimpArgs false
set_option linter.unusedVariables false
set_option maxRecDepth 100000
set_option maxHeartbeats 4000000
namespace Go.Proofs.YtindmkcnjlgomaaGreat
open Go.RowKit
open Tryz
theorem jJ {T:N6} {B:Nat} {u v:N5} {b:Nat} {sz:N1} (h:bF T (dY B u) b sz) (i:Agr B u v):bF T v b sz:=by
 obtain ⟨A1,c1,p,c2,o,c3,A,y,x,C⟩:=h;exact ⟨A1,c1,p,c2,o,c3,nl A i,iJ y i,iJ x i,iJ C i⟩
theorem iY:cW prog 159 69 (.agg #[H8 0,H8 0]) 2 16:=⟨underlying159,info_parts (by kernel_rfl),rfl,by decide⟩
def FV (sz:N1) (o:Value) (P S:Nat) (k:Nat) (p w:N5):Prop:=
 ∃A1 c1 h c2,w.heap[P]?=some (.cells #[(ar S)] 151 (0,0))/\w.heap[S]?=some (.cells #[o,.slice A1 k c1,.slice h k c2,H8 (bZ sz k:Int)] 199 (0,0))/\
  w.ownsRow S 69 2 (.slice A1 k c1) k (kt sz k)/\w.ownsRow S 69 2 (.slice h k c2) k (le sz k)/\(∀i,(Value.slice A1 k c1).ownBlock=some i->(Value.slice h k c2).ownBlock≠some i)/\Below S p w
theorem uo (A:N0) (sz:N1) (c:Nat) (w:N5) (hc:sz.length<=c) (hm:c<=9223372036854775807) (h:¬(2<=sz.length/\sz.length<=16)):Calls prog 65 #[.slice A sz.length c] w λe i=>e=.returned (.tuple #[.pointer none,H8 5])/\w=i:=by
 by_cases p:sz.length<2
 ·go_enter func65,ntmps65;go_wp2;go_ret2;exact ⟨rfl,rfl⟩
 ·have o:16<sz.length:=ao;go_enter func65,ntmps65;go_wp2;go_ret2;exact ⟨rfl,rfl⟩
theorem un (A:N0) (sz:N1) (c:Nat) (w:N5) (v:Rd w A (az .i64 sz)) (hc:sz.length<=c) (hm:c<=9223372036854775807) (h:2<=sz.length/\sz.length<=16) (hb:¬∀k,k<sz.length->1<=nth sz k/\nth sz k<=1048576):Calls prog 65 #[.slice A sz.length c] w λe u=>e=.returned (.tuple #[.pointer none,H8 5])/\w=u:=by
 obtain ⟨y,x⟩:=h;have i:=rC A sz c w v ao hb;have p:=aa i;clear i hb v;go_enter func65,ntmps65;go_wp2_with fail;refine p.o.mono ?_;rintro e u ⟨rfl,rfl⟩;go_wp2;go_ret2;exact ⟨rfl,rfl⟩
theorem rU (A:N0) (sz:N1) (c:Nat) (w:N5) (hA:Rd w A (az .i64 sz)) (hc:sz.length<=c) (hm:c<=9223372036854775807) (h:dJ sz):Calls prog 65 #[.slice A sz.length c] w λe D=>ap w D/\((1048576<bZ sz (sz.length-1)/\e=.returned (.tuple #[.pointer none,H8 4]))\/
   (bZ sz (sz.length-1)<=1048576/\∃b,e=.returned (.tuple #[(ar b),H8 0])/\bF 199 (dY w.heap.size D) b sz/\w.heap.size<=b)):=by
 obtain ⟨b,o,rfl,_⟩:=hA.num (show 0<sz.length by have:=h.1.1;omega);have bh:=tF (some (aq b o)) sz c w hA (by have:=h.1.2;omega) h.2;have bn:=kl (some (aq b o)) sz c w hA (by have:=h.1.2;omega);obtain ⟨n,hn⟩:∃n,sz.length=n:=⟨_,rfl⟩;obtain ⟨h1,h2⟩:=h.1;rw [hn] at h1 h2 bh bn hc ⊢;have ei:¬(c=1):=ao;have ee:1<=c:=ao;obtain ⟨dT,e4,cS,HR,Hn⟩:=ag bh bn hA h hn;clear bh bn hA h hn;go_enter func65,ntmps65;go_wp2_with fail;refine dT.o.mono ?_;rintro e D ⟨rfl,rfl⟩;go_wp2_with fail;refine e4.o.mono ?_;rintro e u ⟨v,rfl,U,hb⟩;obtain ⟨Ac,cc,rfl,cw⟩:=aE U;obtain ⟨d0,Hb,ef⟩:=ae U hb cw;clear U hb cw;go_wp2_with fail
 go_loopw [30] (λi wr=>∃k:Nat,k<=n-1/\i=H8 k/\FV sz (.slice Ac n cc) (u.heap.size+1) u.heap.size k u wr) (λi _=>n-(intOf i).toNat)
 case atStart=>
  refine ⟨0,Gc _,rfl,none,0,none,0,?_,?_,Gj _ _ _ _,Gj _ _ _ _,(λi y=>by cases y),?_⟩
  ·have:=F4 (u.alloc (.cells #[.slice Ac n cc,H9,H9,H8 0] 199)) (.cells #[(ar u.heap.size)] 151);simpa using this
  ·exact (Gk _ _ _ (by simp)).trans (F4 u _)
  ·exact am
 case round=>
  obtain ⟨k,hk,rfl,A1,c1,A2,c2,hP,hS,cl,c8,bo,hW⟩:=hrel;have ak:k<sz.length:=by rw [Hn.o];omega
  have dA:=HR.o.bound ak;obtain ⟨x0,xf⟩:=bx1 hP;obtain ⟨⟨s0,s1,s2,s3⟩,sf⟩:=bx4 hS;have d9:=F1 hP;have dk:=F1 hS;obtain ⟨HP,HS,aM,b0,HN,HW⟩:=ah hP hS cl c8 bo hW;clear hP hS cl c8 bo hW;by_cases eb:k<n-1
  ·have C:k+1<sz.length:=by rw [Hn.o];omega
   have cj:=HR.o.mul C;have z0:=HR.o.at ak;have z1:=HR.o.at C;obtain ⟨_,_,e',p0⟩:=cS.o.num ak;injection e' with e';injection e' with e1 e2 _;subst e1;subst e2
   obtain ⟨_,_,e',p1⟩:=cS.o.num C;injection e' with e';injection e' with e1 e2 _;subst e1;subst e2
   have bM:b<w.heap.size:=aC p0;have cv:b<u.heap.size:=by have:=Hb.o.size;omega
   have bb:=((Hb.o.trans (HW.o.mono Hb.o.size)).cell (p:=(aq b (o+k))) bM).trans p0;have dp:=((Hb.o.trans (HW.o.mono Hb.o.size)).cell (p:=⟨b,o+(k+1),none⟩) bM).trans p1;rw [z0.2.2] at bb;rw [z1.2.2,show o+(k+1)=o+1+k by omega] at dp;have J:db sz k=bZ sz k+szN sz (k+1)*szN sz k:=rfl;obtain ⟨p,hp⟩:∃p,szN sz (k+1)*szN sz k=p:=⟨_,rfl⟩;rw [hp] at cj J;have I:=λW (h1:W.heap[u.heap.size+1]?=_) (h2:W.heap[u.heap.size]?=_)=>sL p (bZ sz k) (u.heap.size+1) u.heap.size (.slice Ac n cc) (.slice A1 k c1) (.slice A2 k c2) W h1 h2 dA ao;rw [<-J] at I;have dG:(szN sz (k+1):Int)*(szN sz k:Int)=(p:Int):=by rw [<-Int.natCast_mul,hp]
   have dw:IntKind.i64.wrap (p:Int)=(p:Int):=Gd _ ao;obtain ⟨cs,e8⟩:=ab I J;clear I p0 p1 z0 z1 J;have ec:(k:Int)<n:=ao;go_wp2_with fail;have x:(λD:N5=>D.cell? (aq (u.heap.size+1) 0)=some ((ar u.heap.size))/\D.cell? (aq u.heap.size 1)=some (.slice A1 k c1)/\D.cell? (aq b (o+k))=some (H8 (szN sz k))) wr.drew:=⟨x0,s1,bb⟩;refine XA.g 15 (λD:N5=>D.cell? (aq (u.heap.size+1) 0)=some ((ar u.heap.size))/\D.cell? (aq u.heap.size 1)=some (.slice A1 k c1)/\D.cell? (aq b (o+k))=some (H8 (szN sz k))) ?_;refine XA.t ?_ [0,1,2,3,4,5,6,7,8,9,10,11] x ?_;refine XA.o 12 (λK H=>?_);go_simp;refine (cs.o wr.drew HP.o HS.o).mono ?_;rintro e w3 ⟨rfl,ax,a2⟩;have g0:=a2.cell (p:=(aq (u.heap.size+1) 0)) x0 (by simp);have g1:=Ga w3 _ 1 _ _ _ ax;have g2:=a2.cell (p:=(aq b (o+k))) bb (by simp;omega);have l0:u.heap.size+1<w3.heap.size:=aC g0;have l1:u.heap.size<w3.heap.size:=aC g1;have l2:b<w3.heap.size:=aC g2;obtain ⟨bO,T⟩:=ab ax a2;clear ax a2;dsimp only;refine H.out _ _ ⟨g0,g1,g2⟩ (λx=>?_);clear H K;refine XA.o 13 (λK H=>?_);go_simp;refine H.out _ _ ⟨aF g0 _,aF g1 _,aF g2 _⟩ (λx=>?_);clear H K;have cd:=T.o.own (bW aM.o 1) (λi y e=>aw HS.o (by decide) aM.o (by rw [y,e]));have cb:=(T.o.block _ (F1 HP.o) ao).trans HP.o;obtain ⟨Z,bG⟩:=ab cd cb;clear cd cb;refine XA.o 14 (λK H=>?_);refine cZ iY (.tmp 39) (.tmp 48) rfl rfl u.heap.size (.slice A1 k c1) k (kt sz k) rfl (Z.o.alloc _) (some (aq w3.heap.size 0)) 1 1 [H8 (bZ sz k:Int),H8 (db sz k:Int)] rfl (gN w3 _ _ _ rfl) rfl (by simp [Value.oneCell']) ao (by unfold maxLen;omega) (by simp;omega) ?_;intro A4 c4 w4 cA d4 Y bA;have b3:=cJ bG.o (by decide) Z.o Y;have a5:=cJ bO.o (by decide) Z.o Y;have i0:=Ga w4 _ 0 _ _ _ b3;have i1:=Ga w4 _ 1 _ _ _ a5;have i2:=vG g2 cv Z.o Y;have i3:=Gh w4 _ 1 _ _ a5;obtain ⟨b4,bI,a1,c9,cn,bv⟩:=ah cA b3 a5 Y bA d4;clear cA b3 a5 Y bA d4;dsimp only;refine H.out _ _ ⟨i0,i1,i2⟩ (λx=>?_);clear H K x;refine XA.e ?_;simp only [GC,GD];go_wp2_with fail;obtain ⟨L,a4⟩:=qh (T.o.own (bW b0.o 1) (λi y e=>aw HS.o (by decide) b0.o (by rw [y,e]))) HN.o c9.o cn.o;have O:=(Below.heap_setCell w4 (aq u.heap.size 1) (.slice A4 (k+1) c4) (u.heap.size+1) (by simp)).trans bI.o;have Q:=HE w4 u.heap.size 1 _ _ (.slice A4 (k+1) c4) a1.o;have b6:Keep (λi=>i=u.heap.size) w4 (w4.setCell (aq u.heap.size 1) (.slice A4 (k+1) c4)):=Keep.setCell (S:=λi=>i=u.heap.size) (Keep.refl _ _) (aq u.heap.size 1) (.inr rfl) _;have a0:=b6.own b4.o (λi y e=>aw a1.o (by decide) b4.o (by rw [y,e]));have V:=b6.own L (λi y e=>aw a1.o (by decide) L (by rw [y,e]))
   have b7:ap u (w4.setCell (aq u.heap.size 1) (.slice A4 (k+1) c4)):=
    ((HW.o.drew.trans ((T.o.toBelow (B:=u.heap.size) (by simp;omega) (λi y=>ao)))).trans ((((Gb _ w3).alloc ao _)).trans bv.o)).setCell (by simp) _
   rw [<-j5] at a0;obtain ⟨w5,c6⟩:∃w5,w5=w4.setCell (aq u.heap.size 1) (.slice A4 (k+1) c4):=⟨_,rfl⟩;rw [<-c6] at O Q a0 V b7 ⊢;clear c6 b6 L i0 i1 i2 i3 g0 g1 g2 l0 l1 l2 x0 xf s0 s1 s2 s3 sf;obtain ⟨x0,xf⟩:=bx1 O;have y2:=Ga w5 _ 2 _ _ _ Q;have b1:=fC sz k;have z1:=(HR.o.at C).2.1;have e9:=HR.o.bound C;have I:=λW (h1:W.heap[u.heap.size+1]?=_) (h2:W.heap[u.heap.size]?=_)=>sL (szN sz (k+1)) (db sz k) (u.heap.size+1) u.heap.size (.slice Ac n cc) (.slice A4 (k+1) c4) (.slice A2 k c2) W h1 h2 ao ao;rw [b1] at I;have d9:=F1 O;have dk:=F1 Q;obtain ⟨e3,bd,b2,bz,a8,dc,e0,ea⟩:=aj I O Q a0 V a4 b7 b1;clear I O Q a0 V a4 b7 b1 cs T bO Z bG b4 bI a1 c9 cn bv dG dw;go_wp2_with fail;have x:(λD:N5=>D.cell? (aq (u.heap.size+1) 0)=some ((ar u.heap.size))/\D.cell? (aq u.heap.size 2)=some (.slice A2 k c2)) w5.drew:=⟨x0,y2⟩;refine XA.g 10 (λD:N5=>D.cell? (aq (u.heap.size+1) 0)=some ((ar u.heap.size))/\D.cell? (aq u.heap.size 2)=some (.slice A2 k c2)) ?_;refine XA.t ?_ [0,1,2,3,4,5,6] x ?_;refine XA.o 7 (λK H=>?_);go_simp;refine (e3.o w5.drew bd.o b2.o).mono ?_;rintro e w6 ⟨rfl,bi,aP⟩;have g0:=aP.cell (p:=(aq (u.heap.size+1) 0)) x0 (by simp);have g1:=Ga w6 _ 2 _ _ _ bi;have l0:u.heap.size+1<w6.heap.size:=aC g0;obtain ⟨dv,a7⟩:=ab bi aP;clear bi aP;dsimp only;refine H.out _ _ ⟨g0,g1⟩ (λx=>?_);clear H K;refine XA.o 8 (λK H=>?_);go_simp;refine H.out _ _ ⟨aF g0 _,aF g1 _⟩ (λx=>?_);clear H K;have cx:=a7.o.own (bW a8.o 1) (λi y e=>aw b2.o (by decide) a8.o (by rw [y,e]));have cf:=(a7.o.block _ (F1 bd.o) ao).trans bd.o;obtain ⟨b8,ds⟩:=ab cx cf;clear cx cf;refine XA.o 9 (λK H=>?_);refine cZ iY (.tmp 56) (.tmp 60) rfl rfl u.heap.size (.slice A2 k c2) k (le sz k) rfl (b8.o.alloc _) (some (aq w6.heap.size 0)) 1 1 [H8 (db sz k:Int),H8 (bZ sz (k+1):Int)] rfl (gN w6 _ _ _ rfl) rfl (by simp [Value.oneCell']) ao (by unfold maxLen;omega) (by simp;omega) ?_;intro A7 c7 w7 bN d2 a3 co;have b5:=cJ ds.o (by decide) b8.o a3;have a6:=cJ dv.o (by decide) b8.o a3;have i0:=Ga w7 _ 0 _ _ _ b5;have i1:=Ga w7 _ 2 _ _ _ a6;have i3:=Gh w7 _ 2 _ _ a6;obtain ⟨bV,d7,bl,d6,e7,dn⟩:=ah bN b5 a6 a3 co d2;clear bN b5 a6 a3 co d2;dsimp only;refine H.out _ _ ⟨i0,i1⟩ (λx=>?_);clear H K x;refine XA.e ?_;simp only [GC,GD];go_wp2_with fail;obtain ⟨L,a4⟩:=qh (a7.o.own (bW bz.o 1) (λi y e=>aw b2.o (by decide) bz.o (by rw [y,e]))) (λi y e=>dc.o i e y) d6.o e7.o;have e5:=(Below.heap_setCell w7 (aq u.heap.size 2) (.slice A7 (k+1) c7) (u.heap.size+1) (by simp)).trans d7.o;have d5:=HE w7 u.heap.size 2 _ _ (.slice A7 (k+1) c7) bl.o;have ci:Keep (λi=>i=u.heap.size) w7 (w7.setCell (aq u.heap.size 2) (.slice A7 (k+1) c7)):=Keep.setCell (S:=λi=>i=u.heap.size) (Keep.refl _ _) (aq u.heap.size 2) (.inr rfl) _;have bs:=ci.own bV.o (λi y e=>aw bl.o (by decide) bV.o (by rw [y,e]));have cr:=ci.own L (λi y e=>aw bl.o (by decide) L (by rw [y,e]))
   have dO:ap u (w7.setCell (aq u.heap.size 2) (.slice A7 (k+1) c7)):=
    ((e0.o.drew.trans ((a7.o.toBelow (B:=u.heap.size) (by simp;omega) (λi y=>ao)))).trans ((((Gb _ w6).alloc ao _)).trans dn.o)).setCell (by simp) _
   rw [<-kr] at bs;go_roundw
   ·exact ⟨k+1,by omega,by go_num,A4,c4,A7,c7,e5,d5,cr,bs,λi y e=>a4 i e y,dO⟩
   ·simp [intOf];omega
  ·obtain rfl:k=n-1:=ao;have N:sz.length-1=n-1:=by rw [Hn.o]
   have d3:bF 199 (dY w.heap.size wr) u.heap.size sz:=by
    have e6:=Hb.o.size;refine ⟨Ac,cc,A1,c1,A2,c2,?_,?_,?_,?_⟩
    ·rw [Hn.o,fA e6];exact HS.o
    ·exact Rd.own (dI (aA d0.o HW.o) (F3 _))
    ·rw [N];exact Rd.own (dI aM.o ao)
    ·rw [N];exact Rd.own (dI b0.o ao)
   have ad:ap w wr:=Hb.o.trans (HW.o.mono Hb.o.size);obtain ⟨bX,R,bw⟩:=ae d3 ad Hb.o.size;clear d3 ad N;by_cases d1:1048576<bZ sz (n-1)
   ·have d8:(1048576:Int)<bZ sz (n-1):=ao;go_wp2_with fail;go_ret2;exact ⟨R.o,.inl ⟨d1,rfl⟩⟩
   ·have d8:¬(1048576:Int)<bZ sz (n-1):=ao;go_wp2_with fail;go_ret2
    first | exact ⟨R.o,by omega,_,rfl,bX.o,bw.o⟩ | exact ⟨R.o,.inr ⟨by omega,_,rfl,bX.o,bw.o⟩⟩
theorem qy (n size:Nat) (w:N5) (hn:n<=1048576) (D:1<=size) (v:size<=1048576):Calls prog 111 #[H8 n,H8 size] w λe u=>e=.returned (H8 (be n size:Int))/\w=u:=by
 have B:¬((size:Int)<1):=ao;by_cases p:n=0
 ·subst p;go_enter func111,ntmps111;go_wp2;go_ret;exact ⟨rfl,rfl⟩
 ·have x:¬((n:Int)<1):=ao;have i:(0:Int)<=(n:Int)-1:=ao;have he:=zk n size ao;have o:=Nat.div_le_self (n-1) size;have hc:be n size=(n-1)/size+1:=by unfold be;rw [if_neg p]
  rw [hc];obtain ⟨y,h⟩:∃y,(n-1)/size=y:=⟨_,rfl⟩;rw [h] at he o ⊢;have A:((n:Int)-1).tdiv size=y:=by rw [Int.tdiv_eq_ediv_of_nonneg i,he]
  obtain ⟨H,C⟩:=ab h hc;clear h hc p;go_enter func111,ntmps111;go_wp2;go_ret;exact ⟨rfl,rfl⟩
theorem ja (n size:Nat) (w:N5) (hn:n<=1048576) (hs:1<=size) (T:size<=1048576):Calls prog 107 #[H8 n,H8 size] w λe Q=>∃v,e=.returned v/\Q.ownsRow w.heap.size 69 2 v (be n size) (dS n size (be n size))/\ap w Q:=by
 have D:=qy n size w hn hs T;have Y:=fF n size;have A:=λk (h:k<be n size)=>fe h;obtain ⟨m,hm⟩:∃m,be n size=m:=⟨_,rfl⟩;rw [hm] at D Y A ⊢;obtain ⟨R,U⟩:=ab D A;clear D hm A;go_enter func107,ntmps107;go_wp2_with fail;refine R.o.mono ?_;rintro e Q ⟨rfl,rfl⟩;go_wp2_with fail
 go_loopw [5,11] (λv x wr=>∃k:Nat,k<=m/\x=H8 k/\wr.ownsRow w.heap.size 69 2 v k (dS n size k)/\ap w wr) (λ_ x _=>m-(intOf x).toNat)
 ·exact ⟨0,Gc _,rfl,Gj _ _ _ _,Gb _ _⟩
 case round=>
  obtain ⟨k,hk,rfl,i,hb⟩:=hrel;by_cases O:k<m
  ·have V:=U.o k O;obtain ⟨y,N⟩:∃y,k*size=y:=⟨_,rfl⟩;rw [N] at V;have a0:(k:Int)*(size:Int)=(y:Int):=by rw [<-N];push_cast;rfl
   obtain ⟨Z,cl,rfl,_⟩:=aE i;obtain ⟨Hy,p,J⟩:=ae N i hb;clear i hb N;by_cases a1:(size:Int)<=(n:Int)-y
   ·have L:(y:Int)+size<=n:=ao;go_wp2_with (at_builtin;refine bJ iY _ rfl (.tmp 17) (.tmp 27) rfl w.heap.size (.slice Z k cl) k _ rfl p.o [H8 (y:Int),H8 ((y:Int)+size)] rfl rfl (bS .i64 [_,_]) ao (by unfold maxLen;omega) J.o.size ?_);intro g6 c6 w6 u B I;obtain ⟨H,C⟩:=ab u (J.o.trans B);clear u B I;go_wp2_with fail;go_roundw
    case rel=>
     refine ⟨k+1,by omega,by go_num,?_,C.o⟩;rw [fU,Hy.o,show ((min (y+size) n:Nat):Int)=(y:Int)+size by omega];exact H.o
    case measure=>simp [intOf];omega
   ·have L:(n:Int)-y<size:=ao;go_wp2_with (at_builtin;refine bJ iY _ rfl (.tmp 17) (.tmp 27) rfl w.heap.size (.slice Z k cl) k _ rfl p.o [H8 (y:Int),H8 ((y:Int)+((n:Int)-y))] rfl rfl (bS .i64 [_,_]) ao (by unfold maxLen;omega) J.o.size ?_);intro g6 c6 w6 u B I;obtain ⟨H,C⟩:=ab u (J.o.trans B);clear u B I;go_wp2_with fail;go_roundw
    case rel=>
     refine ⟨k+1,by omega,by go_num,?_,C.o⟩;rw [fU,Hy.o,show ((min (y+size) n:Nat):Int)=(y:Int)+((n:Int)-y) by omega];exact H.o
    case measure=>simp [intOf];omega
  ·obtain rfl:m=k:=ao;obtain ⟨p,J⟩:=ab i hb;clear i hb;go_wp2_with fail;go_ret;exact ⟨_,rfl,p.o,J.o⟩
def swp (p:N1) (i j:Nat):N1:=(p.set i (nth p j)).set j (nth p i)
theorem Dm (p:N1) (i j:Nat):(swp p i j).length=p.length:=by simp [swp]
theorem vW {p:N1} {i j:Nat} (o:i<p.length) (h:j<p.length) (k:Nat):nth (swp p i j) k=if k=j then nth p i else if k=i then nth p j else nth p k:=by
 unfold swp;rw [fB,fB,List.length_set];simp only [o,h,and_true]
theorem zS {p:N1} {i j:Nat} (u:i<p.length) (o:j<p.length):(p.set j (nth p i)).set i (nth p j)=swp p i j:=by
 refine eG (by simp [swp]) λk hk=>?_;rw [vW u o,fB,fB,List.length_set];simp only [u,o,and_true];by_cases h:k=i
 ·subst h;by_cases v:k=j
  ·subst v;simp
  ·simp [v]
 ·simp [h]
def te (n:Nat):N1:=cY n λk=>(k:Int)
theorem B7 (n:Nat):(te n).length=n:=aZ _ _
def jf (n:Nat) (d:Nat->Nat):Nat->N1
 | 0=>te n
 | k+1=>swp (jf n d k) (n-1-k) (d k)
theorem lv (n:Nat) (d:Nat->Nat) (k:Nat):(jf n d k).length=n:=by
 induction k with
 | zero=>exact B7 n
 | succ k ih=>rw [jf,Dm,ih]
theorem Af {n:Nat} {d:Nat->Nat} (k:Nat) (p:∀j,j<k->d j<n-j) (hk:k<=n-1):∀i,i<n->0<=nth (jf n d k) i/\nth (jf n d k) i<n:=by
 induction k with
 | zero=>intro i o;unfold jf te;rw [bP _ o];omega
 | succ k h=>
  have h:=h (λj u=>p j ao) ao;have v:=p k ao;intro i o;rw [jf,vW (by rw [lv];omega) (by rw [lv];omega)]
  split
  ·exact h _ ao
  ·split
   ·exact h _ ao
   ·exact h _ o
def ji (l:N1) (n i k:Nat):Nat:=(nth l (i+k)%((n-k:Nat):Int)).toNat
theorem tC (l:N1) {n i k:Nat} (h:k<n):ji l n i k<n-k:=by
 unfold ji;have o:=Int.emod_nonneg (nth l (i+k)) (show ((n-k:Nat):Int)≠0 by omega);have p:=Int.emod_lt_of_pos (nth l (i+k)) (show (0:Int)<((n-k:Nat):Int) by omega);omega
theorem zl (l:N1) {n i k:Nat} (h:k<n):(ji l n i k:Int)=nth l (i+k)%((n-k:Nat):Int):=by
 unfold ji;have o:=Int.emod_nonneg (nth l (i+k)) (show ((n-k:Nat):Int)≠0 by omega);omega
def iw (l:N1) (n i:Nat):N1:=jf n (ji l n i) (n-1)
theorem qg (l:N1) (n i:Nat):(iw l n i).length=n:=lv _ _ _
theorem Ba (l:N1) (n i:Nat):∀k,k<n->0<=nth (iw l n i) k/\nth (iw l n i) k<n:=Af _ (λj h=>tC l ao) (F3 _)
theorem BQ (n:Int) (w:N5) (h:1<=n):Calls prog 154 #[H8 n] w λe i=>e=.returned (.bool false)/\w=i:=by
 have o:¬n<1:=ao;go_enter func154,ntmps154;go_wp2;go_ret;exact ⟨cB (by first | rfl | (simp;omega) | (simp;done)),rfl⟩
theorem uV (A:N0) (l:N1) (c:Nat) (w:N5) (x:Rd w A (az .i64 l)) (hl:l.length<=17592186043904) (hb:∀k,k<l.length->1<=nth l k):Calls prog 133 #[.slice A l.length c,.func (.func 154) #[] #[]] w λe v=>e=.returned (H8 (-1))/\w=v:=by
 obtain ⟨n,hn⟩:∃n,l.length=n:=⟨_,rfl⟩;have hw:=λk (hk:k<l.length)=>BQ (nth l k) w (hb k hk);rw [hn] at hl hw ⊢;obtain ⟨HA,B,y⟩:=ae x hn hw;clear x hn hw hb;go_enter func133,ntmps133;go_wp2_with fail
 go_loop [5,8] (λ_ i=>∃k:Nat,k<=n/\i=H8 k) (λ_ i=>n-(intOf i).toNat)
 ·exact ⟨0,Gc _,rfl⟩
 case round=>
  obtain ⟨k,hk,rfl⟩:=hrel;by_cases h:k<n
  ·obtain ⟨b,o,rfl,p⟩:=HA.o.num (show k<l.length by rw [B.o];exact h);have hw:=y.o k h;have u:=aa hw;clear hw;go_wp2_with fail;refine u.o.mono ?_;rintro e v ⟨rfl,rfl⟩;go_wp2_with fail;go_round
   ·exact ⟨k+1,by omega,by go_num⟩
   ·simp [intOf];omega
  ·obtain rfl:k=n:=ao;go_wp2_with fail;go_ret;exact ⟨rfl,rfl⟩
theorem rp (A:N0) (l:N1) (c:Nat) (w:N5) (i:Rd w A (az .i64 l)) (hl:l.length<=17592186043904) (hb:∀k,k<l.length->1<=nth l k):Calls prog 100 #[.slice A l.length c,.func (.func 154) #[] #[]] w λe h=>e=.returned (.bool false)/\w=h:=by
 have p:=uV A l c w i hl hb;have u:=aa p;clear p i hb;go_enter func100,ntmps100;go_wp2_with fail;refine u.o.mono ?_;rintro e h ⟨rfl,rfl⟩;go_wp2;go_ret;exact ⟨rfl,rfl⟩
theorem za (n:Nat) (w:N5) (hn:n<=1048576):Calls prog 136 #[H8 n] w λe H=>∃v,e=.returned v/\H.ownsRow w.heap.size 3 1 v n (az .i64 (te n))/\ap w H:=by
 go_enter func136,ntmps136;go_wp2_with fail
 go_loopw [3,6] (λv i wr=>∃k:Nat,k<=n/\i=H8 k/\wr.ownsRow w.heap.size 3 1 v k (az .i64 (te k))/\ap w wr) (λ_ i _=>n-(intOf i).toNat)
 ·exact ⟨0,Gc _,rfl,Gj _ _ _ _,Gb _ _⟩
 case round=>
  obtain ⟨k,hk,rfl,h,hb⟩:=hrel;by_cases I:k<n
  ·obtain ⟨L,J,rfl,_⟩:=aE h;obtain ⟨p,A⟩:=ab h hb;clear h hb;go_wp2_with (at_builtin;refine bJ gT _ rfl (.tmp 9) (.tmp 11) rfl w.heap.size (.slice L k J) k _ rfl p.o [H8 (k:Int)] rfl rfl (bS .i64 [_]) ao (by unfold maxLen;omega) A.o.size ?_);intro N O Q x y D;have u:=A.o.trans y;obtain ⟨C,B⟩:=ab x u;clear x y D u;go_wp2_with fail;go_roundw
   case rel=>
    refine ⟨k+1,by omega,by go_num,?_,B.o⟩;have:te (k+1)=te k++[(k:Int)]:=lq _ _;rw [this,eP];exact C.o
   case measure=>simp [intOf];omega
  ·obtain rfl:k=n:=ao;obtain ⟨p,A⟩:=ab h hb;clear h hb;go_wp2_with fail;go_ret;exact ⟨_,rfl,p.o,A.o⟩
theorem BP (b c i:Nat) (A:N0) (l:N1) (B:N0) (bs:N1) (d:Nat) (w:N5) (h:bQ w b A c l i) (hi:i+bs.length<=l.length) (hl:l.length<=1048576) (hu:U64 l) (hB:Rd w B (az .i64 bs)) (a0:∀a,B=some a->a.block≠b) (J:∀k,k<bs.length->1<=nth bs k/\nth bs k<=1048576):Calls prog 135 #[(ar b),.slice B bs.length d] w λe O=>∃v,e=.returned (.tuple #[v,.bool true])/\O.ownsRow w.heap.size 3 1 v bs.length (az .i64 (cY bs.length λk=>nth l (i+k)%nth bs k))/\bQ O b A c l (i+bs.length)/\Keep (λj=>j=b) w O:=by
 have U:=mq b c i A l w h ao ao;have Q:=λn=>rp B bs d (w.drewN n) (hB.drewN n) ao (λk hk=>(J k hk).1);have C:=λj m O (h:bQ O b A c l j) (hj:j<l.length)=>rS b c j m A l O h hj ao hu;obtain ⟨n,hn⟩:∃n,bs.length=n:=⟨_,rfl⟩;rw [hn] at hi Q J ⊢;obtain ⟨N,hN⟩:∃N,l.length=N:=⟨_,rfl⟩;rw [hN] at hi hl U C;have ax:=h.lt;obtain ⟨ak,ad,a8,H,HB,Hn,b3,b1⟩:=aj U Q C h hB hn J a0;clear U Q C h hB hn J hu a0 hN;have hq:decide (((N-i:Nat):Int)<(n:Int))=false:=by simp;omega
 have b6:decide (N-i<n)=false:=by simp;omega
 go_enter func135,ntmps135;go_wp2_with fail;refine ak.o.mono ?_;rintro e O ⟨rfl,a,rfl⟩;go_wp2_with fail;refine (ad.o a).mono ?_;rintro e O ⟨rfl,rfl⟩;clear hq b6;go_wp2_with fail
 go_loopw [6,26] (λv x wr=>∃k:Nat,k<=n/\x=H8 k/\wr.ownsRow w.heap.size 3 1 v k (az .i64 (cY k λk=>nth l (i+k)%nth bs k))/\bQ wr b A c l (i+k)/\Keep (λj=>j=b) w wr) (λ_ x _=>n-(intOf x).toNat)
 ·exact ⟨0,Gc _,rfl,Gj _ _ _ _,H.o.drewN a,(Keep.refl _ _).drewN a⟩
 case round=>
  obtain ⟨k,hk,rfl,u,hS,V⟩:=hrel;by_cases Z:k<n
  ·obtain ⟨Al,cl,rfl,_⟩:=aE u;have a4:=V.rd HB.o (λa ha e=>b1.o a ha e);obtain ⟨bB,oB,rfl,p⟩:=a4.num (show k<bs.length by rw [Hn.o];exact Z);have b5:=b3.o k Z;obtain ⟨m,hm⟩:∃m:Nat,nth bs k=(m:Int):=⟨(nth bs k).toNat,by omega⟩;rw [hm] at p b5;have C:=a8.o (i+k) m wr hS ao ao ao;obtain ⟨y,hy⟩:∃y,nth l (i+k)%(m:Int)=y:=⟨_,rfl⟩;rw [hy] at C;have b8:=V.size;have a6:=u.lt;obtain ⟨D,HK,Hm,a5,Hy,aP⟩:=ah u V hm C hy a6;clear u V hS a4 hm C hy a6;go_wp2_with fail;refine a5.o.mono ?_;rintro e w1 ⟨rfl,a3,L⟩;have I:=L.own D.o (λx hx e=>by have:=(aP.o x hx).1;omega);have b7:=L.size;obtain ⟨aM,b0,T⟩:=ae a3 L I;clear a3 L I;go_wp2_with (at_builtin;refine bJ gT _ rfl (.tmp 36) (.tmp 38) rfl w.heap.size (.slice Al k cl) k _ rfl T.o [H8 y] rfl rfl (bS .i64 [_]) ao (by unfold maxLen;omega) ao ?_);intro g6 c6 w6 Y R b4;obtain ⟨b2,a7⟩:=ab Y R;have a1:=(HK.o.trans b0.o).below2 R;have a2:=aa a1;clear Y R b4 a1;go_wp2_with fail;go_roundw
   case rel=>
    refine ⟨k+1,by omega,by go_num,?_,?_,a2.o⟩
    ·rw [lq,eP,Hm.o,Hy.o];exact b2.o
    ·exact ⟨(a7.o.block b ax).trans aM.o.blk,a2.o.rd H.o.rd (λa ha e=>H.o.ne a ha e),H.o.ne⟩
   case measure=>simp [intOf];omega
  ·obtain rfl:k=n:=ao;obtain ⟨D,HK,HS⟩:=ae u V hS;clear u V hS;go_wp2_with fail;go_ret2;exact ⟨_,rfl,D.o,HS.o,HK.o⟩
theorem gx {w:N5} {p q:Addr} {x v:Value} (h:w.cell? q=some v):∃v',(w.setCell p x).cell? q=some v':=by
 by_cases e:p=q
 ·subst e;exact ⟨x,World.cell?_setCell_same w p x h⟩
 ·exact ⟨v,(World.cell?_setCell_other w p q x e).trans h⟩
theorem et {w:N5} {base size n c m:Nat} {e:N6} {A:N0} {xs:N4} (h:w.ownsRow base e size (.slice A n c) m xs):∀a,A=some a->base<=a.block/\a.block<w.heap.size:=λa p=>by
 subst p;rcases h.2 with ⟨hn,_⟩ | ⟨g,cap,o,i,_⟩
 ·cases hn
 ·simp only [GT,Option.some.injEq] at i;obtain ⟨rfl,_,_⟩:=i;exact h.lt g rfl
theorem zT (P g n c base i j:Nat) (p:N1) (w:N5) (A:w.heap[P]?=some (.cells #[.slice (some (aq g 0)) n c] 22 (0,0))) (h:w.ownsRow base 3 1 (.slice (some (aq g 0)) n c) n (az .i64 p)) (U:i<n) (Y:j<n) (hn:n<=1048576):Calls prog 137 #[H8 i,H8 j,(ar P)] w λe C=>e=.returned (.tuple #[])/\C.ownsRow base 3 1 (.slice (some (aq g 0)) n c) n (az .i64 (swp p i j))/\Keep (λk=>k=g) w C:=by
 have y:=fT h;have Q:=cL h U;have H:=cL h Y;have f1:=h.frozenAt i;have f2:=h.frozenAt j;have v:=zS (p:=p) (i:=i) (j:=j) ao ao;obtain ⟨B,Z⟩:=bx1 A;have T:(i:Int)<n:=ao;have O:(j:Int)<n:=ao;have u:g≠P:=λe=>aw A (by decide) h (by rw [<-e];rfl);have N:=(World.cell?_setCell_other w (aq g i) (aq P 0) (H8 (nth p j)) (by simp [u])).trans B;have D:=(World.cell?_setCell_other w (aq g j) (aq P 0) (H8 (nth p i)) (by simp [u])).trans B;obtain ⟨v1,I⟩:=gx (w:=w) (p:=(aq g i)) (x:=H8 (nth p j)) (q:=(aq g j)) H;obtain ⟨v2,J⟩:=gx (w:=w) (p:=(aq g j)) (x:=H8 (nth p i)) (q:=(aq g i)) Q;obtain ⟨R,V,L⟩:=ae h y v;clear h y A v;go_enter func137,ntmps137;go_wp2_with fail
 go_region
 all_goals go_wp2_with fail
 all_goals
  go_end0
  refine ⟨rfl,?_,?_⟩
 ·exact bW (eD (eD R.o i _) j _) 1
 ·exact (Keep.setCell (S:=λk=>k=g) (Keep.setCell (S:=λk=>k=g) (Keep.refl _ w) (aq g i) (.inr rfl) _) (aq g j) (.inr rfl) _).drew
theorem rW (n b c i:Nat) (A:N0) (l:N1) (w:N5) (h:bQ w b A c l i) (hn:1<=n) (b8:n<=1048576) (hi:i+(n-1)<=l.length) (hl:l.length<=1048576) (hu:U64 l):Calls prog 110 #[H8 n,(ar b)] w λe Q=>∃v,e=.returned (.tuple #[v,.bool true])/\Q.ownsRow w.heap.size 3 1 v n (az .i64 (iw l n i))/\bQ Q b A c l (i+(n-1))/\Keep (λj=>j=b) w Q:=by
 obtain ⟨m,hm⟩:∃m,n-1=m:=⟨_,rfl⟩;rw [hm] at hi ⊢;have bb:iw l n i=jf n (ji l n i) m:=by unfold iw;rw [hm]
 rw [bb];have cn:m<n:=ao;have cf:n<=m+1:=ao;clear hm bb;have R:=λB d Q (h:bQ Q b A c l i) (hB:Rd Q B (az .i64 (cY m λk=>((n-k:Nat):Int)))) I=>BP b c i A l B (cY m λk=>((n-k:Nat):Int)) d Q h (by rw [aZ];exact hi) hl hu hB I (λk hk=>by rw [aZ] at hk;rw [bP _ hk];omega)
 simp only [aZ] at R;have he:(cY m λk=>nth l (i+k)%nth (cY m λk=>((n-k:Nat):Int)) k)=cY m λk=>(ji l n i k:Int):=eI λk hk=>by rw [bP _ hk,zl l ao]
 rw [he] at R;have b3:=λQ=>za n Q b8;have co:=h.lt;obtain ⟨cb,ak,H⟩:=ae R b3 h;clear R he b3 h hu;go_enter func110,ntmps110;go_wp2_with fail
 go_loopw [6,7] (λv x wr=>∃k:Nat,k<=m/\x=H8 ((n:Int)-k)/\wr.ownsRow w.heap.size 3 1 v k (az .i64 (cY k λk=>((n-k:Nat):Int)))/\ap w wr) (λ_ x _=>(intOf x).toNat)
 ·exact ⟨0,Gc _,by go_num,Gj _ _ _ _,Gb _ _⟩
 case round=>
  obtain ⟨k,hk,rfl,u,hb⟩:=hrel;by_cases Z:k<m
  ·obtain ⟨Al,cl,rfl,_⟩:=aE u;obtain ⟨D,Hb⟩:=ab u hb;clear u hb;go_wp2_with (at_builtin;refine bJ gT _ rfl (.tmp 29) (.tmp 31) rfl w.heap.size (.slice Al k cl) k _ rfl D.o [H8 ((n:Int)-k)] rfl rfl (bS .i64 [_]) ao (by unfold maxLen;omega) Hb.o.size ?_);intro g6 c6 w6 aP b1 c7;have U:=Hb.o.trans b1;obtain ⟨bX,bs⟩:=ab aP U;clear aP b1 c7 U;go_wp2_with fail;go_roundw
   case rel=>
    refine ⟨k+1,by omega,by go_num,?_,bs.o⟩;rw [lq,eP,show ((n-k:Nat):Int)=(n:Int)-k by omega];exact bX.o
   case measure=>simp [intOf];omega
  ·obtain rfl:m=k:=ao;obtain ⟨Al,cl,rfl,_⟩:=aE u
   have I:∀a,Al=some a->a.block≠b:=λa ha e=>by
    subst ha;have:=et u a rfl;omega
   have bd:=cb.o Al cl wr (H.o.below hb) (Rd.own u) I;obtain ⟨bV,Hb⟩:=ab bd hb;clear u hb bd I;obtain ⟨wq,rfl⟩:∃wq:N5,wq=wr:=⟨_,rfl⟩;go_wp2_with fail;refine bV.o.mono ?_;rintro e w1 ⟨v1,rfl,N,b7,V⟩;obtain ⟨A1,c1,rfl,_⟩:=aE N;have a4:=et N;have a8:=Rd.own N;have cr:=V.size;have a0:=(Keep.below (S:=λj=>j=b) Hb.o).trans V;have cj:=a0.size;obtain ⟨bh,bi,bo,bl⟩:=af b7 a0 a8 a4;clear b7 V a8 N a4 a0;go_wp2_with fail;refine (ak.o w1).mono ?_;rintro e w2 ⟨v2,rfl,L,a2⟩;obtain ⟨g,c2,rfl,_⟩:=L.form hn;have bn:=a2.size;have ci:=L.lt g rfl;have O:=F4 w2 (.cells #[.slice (some (aq g 0)) n c2] 22);have Y:=a2.alloc bn (.cells #[.slice (some (aq g 0)) n c2] 22);have b5:=L.alloc (.cells #[.slice (some (aq g 0)) n c2] 22);have aM:=bo.o.below Y;obtain ⟨HP,b0,ad,b4⟩:=af O Y b5 aM;clear O Y b5 aM L a2;go_wp2_with fail;obtain ⟨T,C⟩:∃T,T=w2.alloc (.cells #[.slice (some (aq g 0)) n c2] 22):=⟨_,rfl⟩;have cd:w2.heap.size<T.heap.size:=by rw [C];simp
   have bw:an (T.heap[w2.heap.size]?=some (.cells #[.slice (some (aq g 0)) n c2] 22 (0,0))):=aa (by rw [C];exact HP.o);have b2:an (ap w1 T):=aa (by rw [C];exact b0.o);have bM:an (T.ownsRow w1.heap.size 3 1 (.slice (some (aq g 0)) n c2) n (az .i64 (te n))):=aa (by rw [C];exact ad.o);have cc:an (Rd T A1 (az .i64 (cY m λk=>(ji l n i k:Int)))):=aa (by rw [C];exact b4.o);rw [<-C];clear HP b0 ad b4 C
   go_loopw [46] (λx wr=>∃k:Nat,k<=m/\x=H8 k/\wr.heap[w2.heap.size]?=some (.cells #[.slice (some (aq g 0)) n c2] 22 (0,0))/\wr.ownsRow w1.heap.size 3 1 (.slice (some (aq g 0)) n c2) n (az .i64 (jf n (ji l n i) k))/\Keep (λj=>j=g) T wr) (λx _=>m-(intOf x).toNat)
   ·exact ⟨0,Gc _,rfl,bw.out,bM.out,Keep.refl _ _⟩
   case round=>
    obtain ⟨k,hk,rfl,O,u,hK⟩:=hrel;by_cases Z:k<m
    ·have hr:=hK.rd cc.out (λa ha e=>by have:=(bl.o a ha).2;omega);obtain ⟨bA,oA,rfl,p⟩:=hr.num (show k<_ by rw [aZ];exact Z);rw [bP _ Z] at p;have bz:=tC l (n:=n) (i:=i) (k:=k) ao;have y:=zT w2.heap.size g n c2 w1.heap.size (n-1-k) (ji l n i k) (jf n (ji l n i) k) wr O u ao ao b8;rw [show ((n-1-k:Nat):Int)=(n:Int)-1-k by omega] at y;have bG:=F1 O;obtain ⟨a5,HP,HK⟩:=ae y O hK;clear y O u hK hr;obtain ⟨dk,J⟩:∃dk,ji l n i k=dk:=⟨_,rfl⟩;rw [J] at p;have y:=a5.o;rw [J] at y bz;obtain ⟨ax,bv⟩:=ab y J;clear a5 y J;go_wp2_with fail;refine ax.o.mono ?_;rintro e w5 ⟨rfl,a6,a1⟩;have a7:=(a1.block _ bG ao).trans HP.o;obtain ⟨c9,bO,c8⟩:=ae a7 a6 (HK.o.trans a1);clear a7 a6 a1 p;go_wp2_with fail;go_roundw
     case rel=>
      refine ⟨k+1,by omega,by go_num,c9.o,?_,c8.o⟩;rw [jf,bv.o];exact bO.o
     case measure=>simp [intOf];omega
    ·obtain rfl:m=k:=ao;obtain ⟨x0,xf⟩:=bx1 O;have a3:Keep (λj=>j=b) w wr:=bi.o.below2 ((b2.out.mono ao).trans (hK.toBelow ao (λj hj=>ao)));have b6:bQ wr b A c l (i+m):=⟨(hK.block b ao ao).trans ((b2.out.block b ao).trans bh.o.blk),a3.rd H.o.rd (λa ha e=>H.o.ne a ha e),H.o.ne⟩;obtain ⟨bI,bN,D⟩:=ae a3 b6 (aG (base':=w.heap.size) u ao);clear a3 b6 u hK O;go_wp2_with fail;go_ret2;exact ⟨_,rfl,D.o,bN.o,bI.o⟩
theorem Ct:cW prog 203 22 (H9) 1 24:=⟨underlying203,info_parts (by kernel_rfl),rfl,by decide⟩
def En (S n b c i k base:Nat) (A:N0) (l:N1) (u x y:Value) (vs:N4) (w:N5) (e:Ending) (h:N5):Prop:=
 e=.returned (.bool true)/\∃A1 c1 p o,h.heap[S]?=some (.cells #[u,x,y,.slice p (k+1) o] 205 (0,0))/\
  h.ownsRow base 22 1 (.slice p (k+1) o) (k+1) (vs++[.slice A1 n c1])/\n<=c1/\h.ownsRow base 3 1 (.slice A1 n c1) n (az .i64 (iw l n i))/\
  h.heap[b]?=some (.cells #[.slice A l.length c,H8 ((i+(n-1):Nat):Int)] 239 (0,0))/\
  (∀base' m v xs,w.ownsRow base' 3 1 v m xs->h.ownsRow base' 3 1 v m xs)/\Keep (λj=>j=b\/j=S\/base<=j) w h
theorem zj (N P1 P2 S n b c i k base:Nat) (A:N0) (l:N1) (Ao:N0) (co:Nat) (x0 x1 x2:Value) (vs:N4) (w:N5) (hN:w.heap[N]?=some (.cells #[H8 n] 3 (0,0))) (b1:w.heap[P1]?=some (.cells #[(ar b)] 206 (0,0))) (L:w.heap[P2]?=some (.cells #[(ar S)] 154 (0,0))) (hS:w.heap[S]?=some (.cells #[x0,x1,x2,.slice Ao k co] 205 (0,0))) (h:bQ w b A c l i) (a2:w.ownsRow base 22 1 (.slice Ao k co) k vs) (a0:base<=w.heap.size) (hk:k<=1048576) (hn:1<=n) (bN:n<=1048576) (hi:i+(n-1)<=l.length) (hl:l.length<=1048576) (hu:U64 l):Calls prog 109 #[(ar N),(ar P1),(ar P2)] w (En S n b c i k base A l x0 x1 x2 vs w):=by
 have b6:=rW n b c i A l w h hn bN hi hl hu
 have b0:b≠S:=λe=>by
  have h1:=h.blk;rw [e,hS] at h1;simp at h1
 have b3:b≠P2:=λe=>by
  have h1:=h.blk;rw [e,L] at h1;simp at h1
 have ad:∀j,(Value.slice Ao k co).ownBlock=some j->j≠b:=λj I e=>aw h.blk (by decide) a2 (by rw [<-e,I]);have R:∀base' m v xs,w.ownsRow base' 3 1 v m xs->∀j,v.ownBlock=some j->j≠b:=λbase' m v xs hr j I e=>aw h.blk (by decide) hr (by rw [<-e,I]);obtain ⟨p0,pf⟩:=bx1 hN;obtain ⟨q0,qf⟩:=bx1 b1;have bd:=F1 L;have bn:=F1 hS;obtain ⟨bs,bi,HS,bA,bw,a7,aM,bo⟩:=aj b6 L hS a2 ad R b0 b3;clear b6 L hS a2 ad R b0 b3 hN b1 h hu;go_enter func109,ntmps109;go_wp2_with fail;refine bs.o.mono ?_;rintro e w1 ⟨v1,rfl,a3,b4,y⟩;obtain ⟨A1,c1,rfl,b7⟩:=aE a3;have Z:=(y.block P2 bd (λe=>bo.o e.symm)).trans bi.o;have Y:=(y.block S bn (λe=>aM.o e.symm)).trans HS.o;have U:=y.own bA.o (λj I e=>bw.o j I e);have c8:=y.size;obtain ⟨t0,tf⟩:=bx1 Z;obtain ⟨⟨y0,y1,y2,y3⟩,yf⟩:=bx4 Y;obtain ⟨bI,bb,D,bM,bl,u,bV⟩:=ai a3 b4 y Z Y U b7;clear a3 b4 y Z Y U b7 p0 pf q0 qf;go_wp2_with fail;have B:(λw':N5=>w'.cell? (aq P2 0)=some ((ar S))/\w'.cell? (aq S 3)=some (.slice Ao k co)) w1.drew:=⟨t0,y3⟩;refine XA.g 8 (λw':N5=>w'.cell? (aq P2 0)=some ((ar S))/\w'.cell? (aq S 3)=some (.slice Ao k co)) ?_;refine XA.t ?_ [0,1,2,3,4,5] B ?_;refine XA.o 6 (λK hK=>?_);go_simp;refine hK.out _ _ ⟨aF B.1 _,aF B.2 _⟩ (λB=>?_);clear hK K;refine XA.o 7 (λK hK=>?_);refine cZ Ct (.tmp 16) (.tmp 18) rfl rfl base (.slice Ao k co) k vs rfl (bW (u.o.alloc _) 1) (some (aq w1.heap.size 0)) 1 1 [.slice A1 n c1] rfl (gN w1 _ _ _ rfl) rfl (by simp [Value.oneCell']) ao (by unfold maxLen;omega) (by simp;omega) ?_;intro A7 c7 O ak b5 x _;have x:=kT x;have J:=cJ (o:=.cells #[.slice A1 n c1] 22 (0,0)) bl.o (by decide) u.o x;have aP:=cJ (o:=.cells #[.slice A1 n c1] 22 (0,0)) bM.o (by decide) u.o x;have T:=cJ (o:=.cells #[.slice A1 n c1] 22 (0,0)) bb.o.blk (by decide) u.o x;have i0:=Ga O _ 0 _ _ _ aP;have i3:=Ga O _ 3 _ _ _ J;have c6:=Gh O _ 3 _ _ J;obtain ⟨ax,a4,b8,C,b2⟩:=ag ak J x b5 T;clear ak J x b5 aP T;dsimp only;refine hK.out _ _ ⟨i0,i3⟩ (λB=>?_);clear hK K B;refine XA.e ?_;simp only [GC,GD];go_wp2_with fail;have a5:=HE O S 3 _ _ (.slice A7 (k+1) c7) a4.o;have p:Keep (λj=>j=S) O (O.setCell (aq S 3) (.slice A7 (k+1) c7)):=Keep.setCell (S:=λj=>j=S) (Keep.refl _ _) (aq S 3) (.inr rfl) _;have a6:=p.own ax.o (λj I e=>aw a4.o (by decide) ax.o (by rw [I,e]));have a8:=(p.block b (by have:=F1 b2.o;omega) (λe=>aM.o e)).trans b2.o;have V:∀base' m v xs,w1.ownsRow base' 3 1 v m xs->(O.setCell (aq S 3) (.slice A7 (k+1) c7)).ownsRow base' 3 1 v m xs:=λbase' m v xs h=>sE h u.o b8.o a4.o (by decide) (by decide)
 have H:Keep (λj=>j=b\/j=S\/base<=j) w (O.setCell (aq S 3) (.slice A7 (k+1) c7)):=by
  refine ⟨p.os.trans (C.o.os.trans D.o.os),p.tape.trans (C.o.tape.trans D.o.tape),p.output.trans (C.o.output.trans D.o.output),?_,λj I hn=>?_⟩
  ·have:=C.o.size;have:=p.size;simp at *;omega
  ·have bv:¬j=b:=λe=>hn (.inl e);have bG:¬j=S:=λe=>hn (.inr (.inl e));have bX:j<base:=by rcases Gn j base with h | h;exact h;exact absurd (.inr (.inr h)) hn
   have h1:=D.o.block j I bv;have h2:=C.o.block j bX;have h3:=p.block j (by have:=C.o.size;simp at this;omega) bG;refine h3.trans (h2.trans (Eq.trans ?_ h1));exact Gk w1 _ j ao
 obtain ⟨bz,bO,bh,Q,a1⟩:=ag a5 a6 a8 V H;clear a5 p a6 a8 V H;go_ret;refine ⟨rfl,A1,c1,A7,c7,bz.o,bO.o,bV.o,?_,bh.o,λbase' m v xs hr=>Q.o _ _ _ _ (D.o.own hr (λj I e=>a7.o _ _ _ _ hr j I e)),a1.o⟩;exact Q.o _ _ _ _ (aG bI.o a0)
def epN (n batch steps:Nat):Nat:=be steps (n/batch)
def ed (w:N5) (S n batch steps:Nat) (l:N1):Prop:=
 ∃h u o v vs,w.heap[S]?=some (.cells #[H8 batch,H8 steps,.slice h (n/batch) u,.slice o (epN n batch steps) v] 205 (0,0))/\
  Rd w h (dS (n-n%batch) batch (n/batch))/\Rd w o vs/\vs.length=epN n batch steps/\
  ∀j,j<epN n batch steps->∃p i,vs[j]?=some (.slice p n i)/\n<=i/\Rd w p (az .i64 (iw l n (j*(n-1))))
theorem zQ {B:Nat} {u v:N5} {S n batch steps:Nat} {l:N1} (h:ed (dY B u) S n batch steps l) (i:Agr B u v):ed v S n batch steps l:=by
 obtain ⟨p,x,Q,N,vs,J,D,O,H,L⟩:=h
 exact ⟨p,x,Q,N,vs,nl J i,iJ D i,iJ O i,H,λj C=>by
  obtain ⟨R,I,o,y,A⟩:=L j C
  exact ⟨R,I,o,y,iJ A i⟩⟩
theorem ed.below {w i:N5} {S n batch steps:Nat} {l:N1} (h:ed w S n batch steps l) (hb:ap w i):ed i S n batch steps l:=by
 obtain ⟨u,v,L,I,vs,o,B,J,C,H⟩:=h
 exact ⟨u,v,L,I,vs,(hb.block _ (F1 o)).trans o,B.below hb,J.below hb,C,λj A=>by
  obtain ⟨N,D,p,x,y⟩:=H j A
  exact ⟨N,D,p,x,y.below hb⟩⟩
def EB (h wr:N5) (S n b c k:Nat) (A:N0) (l:N1) (v x y:Value):Prop:=
 ∃p o vs,wr.heap[S]?=some (.cells #[v,x,y,.slice p k o] 205 (0,0))/\wr.ownsRow h.heap.size 22 1 (.slice p k o) k vs/\
  (∀j,j<k->∃u i,vs[j]?=some (.slice u n i)/\n<=i/\wr.ownsRow h.heap.size 3 1 (.slice u n i) n (az .i64 (iw l n (j*(n-1)))))/\
  wr.heap[b]?=some (.cells #[.slice A l.length c,H8 ((k*(n-1):Nat):Int)] 239 (0,0))/\Keep (λj=>j=b\/j=S) h wr
theorem qU (A:N0) (l:N1) (c n batch steps:Nat) (w:N5) (hA:Rd w A (az .u64 l)) (hl:l.length<=1048576) (hu:U64 l) (hb:1<=batch) (d3:batch<=n) (hn:n<=1048576) (b0:steps<=1048576) (hd:epN n batch steps*(n-1)<=l.length):Calls prog 69 #[H8 n,H8 batch,H8 steps,.slice A l.length c] w λe w'=>∃S,e=.returned (.tuple #[(ar S),H8 0])/\ed (dY w.heap.size w') S n batch steps l/\w.heap.size<=S/\ap w w':=by
 have er:¬((n:Int)<1):=ao;have ek:¬((1048576:Int)<n):=ao;have ee:¬((steps:Int)<0):=ao;have ef:¬((1048576:Int)<steps):=ao;have es:¬((batch:Int)<1):=ao;have eu:¬((n:Int)<batch):=ao;obtain ⟨N,hN⟩:∃N,l.length=N:=⟨_,rfl⟩;have a6:=λw'=>ja (n-n%batch) batch w' ao hb ao;rw [vB n batch hb d3] at a6;obtain ⟨nb,a4⟩:∃nb,n/batch=nb:=⟨_,rfl⟩;have cS:1<=nb:=by rw [<-a4];exact Nat.div_pos d3 hb
 have e8:nb<=n:=by rw [<-a4];exact Nat.div_le_self _ _
 obtain ⟨r,hr⟩:∃r,n%batch=r:=⟨_,rfl⟩;have e9:r<=n:=by rw [<-hr];exact Nat.mod_le _ _
 rw [hr,a4] at a6;have eo:(n:Int).tmod (batch:Int)=(r:Int):=by rw [<-hr];rfl
 have ea:(n:Int)%(batch:Int)=(r:Int):=by rw [<-hr];rfl
 have en:IntKind.i64.wrap (r:Int)=(r:Int):=Gd _ ao;have eb:IntKind.i64.wrap ((n:Int)-(r:Int))=((n-r:Nat):Int):=by rw [Gd _ ao];omega
 have ei:¬(batch=0):=ao;obtain ⟨HA,Hu,Hd,HN,d1,bV,Hr⟩:=ai hA hu hd hN a6 a4 hr;rw [hN] at hl ⊢;clear hA hu hd hN a6 a4 hr;go_enter func69,ntmps69;go_wp2_with fail
 go_cut [10] (λv wx=>∃P2 S I J,v=(ar P2)/\wx.heap[P2]?=some (.cells #[(ar S)] 154 (0,0))/\wx.heap[S]?=some (.cells #[H8 batch,H8 steps,.slice I nb J,H9] 205 (0,0))/\
  wx.ownsRow (w.heap.size+1) 69 2 (.slice I nb J) nb (dS (n-r) batch nb)/\w.heap.size+1<=P2/\w.heap.size+1<=S/\Below (w.heap.size+1) (w.alloc (.cells #[H8 n] 3)) wx)
 case first=>
  have e0:=Ga (w.alloc (.cells #[H8 n] 3)) w.heap.size 0 _ _ _ (F4 w _);have i:(λw':N5=>w'.cell? (aq w.heap.size 0)=some (H8 n)) (w.alloc (.cells #[H8 n] 3)).drew:=e0;refine gF 12 (λw':N5=>w'.cell? (aq w.heap.size 0)=some (H8 n)) (by kernel_rfl) ?_;refine wX 0 i ?_;refine wX 1 i ?_;refine wX 2 i ?_;refine wX 3 i ?_;refine wX 4 i ?_;refine wX 5 i ?_;refine wX 6 i ?_;refine wX 7 i ?_;simp only [Gq,Gr,Gs,Act.put,Gt,Gu,Gv];refine bK (rs:=[8,11]) (by kernel_rfl) (by simp) ?_;refine aK.cons rfl (λK p=>?_) (aK.cons rfl (λK p=>?_) aK.nil)
  ·simp only [Gq,Gr,Gs];go_simp;refine (d1.o _).mono ?_;rintro e B ⟨v,rfl,ho,u⟩;obtain ⟨I,J,rfl,_⟩:=aE ho;have ad:=av u i;have u:Below _ _ _:=u;simp only [GS,Gp] at ho u;obtain ⟨Ho,T⟩:=ab ho u;clear ho u i;dsimp only;refine p.out _ _ ad (λi=>?_);clear p K ad;refine wX 9 i ?_;simp only [Gq,Gr,Gs,Act.put,Gt,Gu,Gv];refine bK (rs:=[10,11]) (by kernel_rfl) (by simp) ?_;refine aK.cons rfl (λK p=>?_) (aK.cons rfl (λK p=>?_) aK.nil)
   ·simp only [Gq,Gr,Gs];go_simp;refine p.out _ _ (aF i _) (λi=>?_);clear p K;refine bK (rs:=[11]) (by kernel_rfl) (by simp) ?_;refine aK.cons rfl (λK p=>?_) aK.nil;simp only [Gq,Gr,Gs];go_simp;refine p.out _ _ (aF i _) (λi=>?_);clear p K i;refine de (by rfl) (by kernel_rfl) ?_;simp only [GC,GD];go_wp2_with fail;go_meet;have a7:=T.o.size;simp at a7;refine ⟨B.heap.size+1,B.heap.size,I,J,rfl,?_,?_,(Ho.o.alloc _).alloc _,by omega,by omega,?_⟩
    ·have:=F4 (B.alloc (.cells #[H8 batch,H8 steps,.slice I nb J,H9] 205)) (.cells #[(ar B.heap.size)] 154);simpa using this
    ·exact (Gk _ _ _ (by simp)).trans (F4 B _)
    ·exact ((((Gb _ _).drew).trans T.o).alloc ao _).alloc (by simp;omega) _
   ·simp only [Gq,Gr,Gs];go_simp;refine p.out _ _ (aF i _) (λi=>?_);clear p K;refine bK (rs:=[10]) (by kernel_rfl) (by simp) ?_;refine aK.cons rfl (λK p=>?_) aK.nil;simp only [Gq,Gr,Gs];go_simp;refine p.out _ _ (aF i _) (λi=>?_);clear p K i;refine de (by rfl) (by kernel_rfl) ?_;simp only [GC,GD];go_wp2_with fail;go_meet;have a7:=T.o.size;simp at a7;refine ⟨B.heap.size,B.heap.size+1,I,J,rfl,?_,?_,(Ho.o.alloc _).alloc _,by omega,by omega,?_⟩
    ·exact (Gk _ _ _ (by simp)).trans (F4 B _)
    ·have:=F4 (B.alloc (.cells #[(ar (B.heap.size+1))] 154)) (.cells #[H8 batch,H8 steps,.slice I nb J,H9] 205);simpa using this
    ·exact ((((Gb _ _).drew).trans T.o).alloc ao _).alloc (by simp;omega) _
  ·simp only [Gq,Gr,Gs];go_simp;refine p.out _ _ (aF i _) (λi=>?_);clear p K;refine bK (rs:=[8]) (by kernel_rfl) (by simp) ?_;refine aK.cons rfl (λK p=>?_) aK.nil;simp only [Gq,Gr,Gs];go_simp;refine (d1.o _).mono ?_;rintro e B ⟨v,rfl,ho,u⟩;have C:B.heap[w.heap.size+1]?=some (.cells #[.pointer none] 154 (0,0)):=(u.block (w.heap.size+1) (by simp)).trans (by rw [<-show (w.alloc (.cells #[H8 n] 3)).heap.size=w.heap.size+1 by simp];exact F4 _ _);obtain ⟨t0,tf⟩:=bx1 C;have d8:=F1 C;have a1:=aa C;clear C;obtain ⟨I,J,rfl,_⟩:=aE ho;have ad:=av u i;have u:Below _ _ _:=u;simp only [GS,Gp] at ho u;obtain ⟨Ho,T⟩:=ab ho u;clear ho u i;dsimp only;refine p.out _ _ ad (λi=>?_);clear p K ad;refine wX 9 i ?_;simp only [Gq,Gr,Gs,Act.put,Gt,Gu,Gv];refine bK (rs:=[10]) (by kernel_rfl) (by simp) ?_;refine aK.cons rfl (λK p=>?_) aK.nil;simp only [Gq,Gr,Gs];go_simp;refine p.out _ _ (aF i _) (λi=>?_);clear p K i;refine de (by rfl) (by kernel_rfl) ?_;simp only [GC,GD];go_wp2_with fail;go_meet;have a7:=T.o.size;simp at a7;have hk:Keep (λj=>j=w.heap.size+1) B (B.setCell (aq (w.heap.size+1) 0) ((ar B.heap.size))):=Keep.setCell (S:=λj=>j=w.heap.size+1) (Keep.refl _ _) (aq (w.heap.size+1) 0) (.inr rfl) _;have h0:Below (w.heap.size+1) (w.alloc (.cells #[H8 n] 3)) B:=((Gb _ _).alloc (by simp) _).drew.trans (T.o.mono ao);refine ⟨w.heap.size+1,B.heap.size,I,J,rfl,?_,?_,?_,by omega,by omega,?_⟩
   ·exact (Gk _ _ _ (by simpa using d8)).trans (HE B (w.heap.size+1) 0 _ _ _ a1.o)
   ·have:=F4 (B.setCell (aq (w.heap.size+1) 0) ((ar B.heap.size))) (.cells #[H8 batch,H8 steps,.slice I nb J,H9] 205)
    rwa [show (B.setCell (aq (w.heap.size+1) 0) ((ar B.heap.size))).heap.size=B.heap.size by simp] at this
   ·exact aG ((hk.own Ho.o (λj L e=>aw a1.o (by decide) Ho.o (by rw [L,e]))).alloc _) ao
   ·exact (h0.trans (hk.toBelow ao (λj L=>ao))).alloc (by simp;omega) _
 case rest=>
  obtain ⟨P2,S,I,J,rfl,C,hS,cl,em,el,bz⟩:=hcut;have bO:ap w wc:=((Gb _ w).alloc (F3 _) _).trans (bz.mono ao);have cf:=(bz.block w.heap.size ao).trans (F4 w (.cells #[H8 n] 3));have bI:=Cy A l c wc (HA.o.below bO) (by have:=HN.o;omega);rw [HN.o] at bI;obtain ⟨a1,HS,ds,bG,cx,d9⟩:=ah C hS cl bO cf bI;clear C hS cl bO cf bI bz;go_wp2_with fail;refine d9.o.mono ?_;rintro e w3 ⟨b,A3,c3,rfl,b8,cA,dG,O⟩;have b1:=(O.block _ (F1 a1.o)).trans a1.o;have aM:=(O.block _ (F1 HS.o)).trans HS.o;have c8:=(O.block _ (F1 cx.o)).trans cx.o;have bi:=aA ds.o O;have b5:=bG.o.trans (O.mono bG.o.size);have ec:=O.size;obtain ⟨t0,tf⟩:=bx1 b1;obtain ⟨⟨y0,y1,y2,y3⟩,yf⟩:=bx4 aM;have l1:=F1 b1;have l2:=F1 aM;obtain ⟨cj,cn,bN,b3,bs,bb,dT⟩:=ai b1 aM c8 bi b5 b8 cA;clear b1 aM c8 bi b5 b8 cA O;go_wp2_with fail;have he:epN n batch steps=be steps nb:=by unfold epN;rw [bV.o]
  have dO:=fF steps nb;have hd:=Hd.o;rw [he] at hd;rw [HN.o] at hd;obtain ⟨E,hE⟩:∃E,be steps nb=E:=⟨_,rfl⟩;rw [hE] at he dO hd;have bA:=qy steps nb (w3.alloc (.cells #[(ar b)] 206)) b0 cS ao;rw [hE] at bA;obtain ⟨He,e6,c6⟩:=ae he hd bA;clear he hd bA hE;refine c6.o.mono ?_;rintro e w' ⟨rfl,rfl⟩;obtain ⟨Z,Q⟩:∃Z,Z=w3.alloc (.cells #[(ar b)] 206):=⟨_,rfl⟩;have b2:Z.heap[w3.heap.size]?=some (.cells #[(ar b)] 206 (0,0)):=by rw [Q];exact F4 w3 _
  have R:ap w3 Z:=by rw [Q];exact (Gb _ _).alloc (F3 _) _
  have dp:w3.heap.size<Z.heap.size:=F1 b2;have a2:=(R.block _ l2).trans cn.o;have a8:=(R.block _ l1).trans cj.o;have aP:=(R.block _ (F1 bN.o)).trans bN.o;have H:=aA b3.o R;have y:=bb.o.below R;have bh:=bs.o.trans (R.mono bs.o.size);rw [<-Q];have e4:=F1 aP;have a6:=y.lt
  have cw:b≠S:=λe=>by
   have h1:=y.blk;rw [e,a2] at h1;simp at h1
  have U:∀{x t},Z.heap[x]?=some (.cells #[t] 3 (0,0))\/Z.heap[x]?=some (.cells #[t] 206 (0,0))\/Z.heap[x]?=some (.cells #[t] 154 (0,0))->¬(x=b\/x=S):=λh=>by
   rintro (rfl | rfl)
   ·have h1:=y.blk;rcases h with h | h | h<;>(rw [h1] at h;simp at h)
   ·rcases h with h | h | h<;>(rw [a2] at h;simp at h)
  have d4:=U (.inl aP);have bv:=U (.inr (.inl b2));have b7:=U (.inr (.inr a8));have c9:=H.lt
  have ci:∀a,A3=some a->¬(a.block=b\/a.block=S):=λa ha=>by
   rintro (h | h)
   ·exact y.ne a ha h
   ·have:=dT.o a ha;have:=F1 HS.o;omega
  have bw:∀j,(Value.slice I nb J).ownBlock=some j->¬(j=b\/j=S):=λj L=>by
   rintro (rfl | rfl)
   ·exact aw y.blk (by decide) H L.symm
   ·exact aw a2 (by decide) H L.symm
  obtain ⟨e5,dc,b6,d7,cs,a5,ak,e2⟩:=aj b2 a2 a8 aP H y bh d4;obtain ⟨cv,bo,e7,cr,ej⟩:=ag bv b7 ci bw cw;clear b2 a2 a8 aP H y bh d4 bv b7 ci bw cw U c9 R Q c6 cj cn bN b3 bb t0 tf y0 y1 y2 y3 yf;go_wp2_with fail
  go_loopw [57] (λx wr=>∃k:Nat,k<=E/\x=H8 k/\EB Z wr S n b c3 k A3 l (H8 batch) (H8 steps) (.slice I nb J)) (λx _=>E-(intOf x).toNat)
  case atStart=>
   refine ⟨0,Gc _,rfl,none,0,[],dc.o,Gj _ _ _ _,λj L=>ao,?_,Keep.refl _ _⟩;rw [Nat.zero_mul];exact a5.o.blk
  case round=>
   obtain ⟨k,hk,rfl,Ao,co,vs,hS,a3,D,bX,p⟩:=hrel;by_cases dk:k<E
   ·have dn:k*(n-1)+(n-1)<=N:=by
     have h1:(k+1)*(n-1)<=E*(n-1):=HU _ dk;rw [GW] at h1;have:=e6.o;omega
    have b0:bQ wr b A3 c3 l (k*(n-1)):=⟨bX,p.rd a5.o.rd (λa ha e=>e7.o a ha e),a5.o.ne⟩
    have d0:=zj w.heap.size w3.heap.size P2 S n b c3 (k*(n-1)) k Z.heap.size A3 l Ao co (H8 batch) (H8 steps) (.slice I nb J) vs wr
     ((p.block _ e4 e2.o).trans d7.o) ((p.block _ dp cv.o).trans e5.o) ((p.block _ ao bo.o).trans b6.o) hS b0 a3 p.size ao ao hn (by rw [HN.o];exact dn) (by rw [HN.o];exact hl) Hu.o
    obtain ⟨dv,bM,HK⟩:=ae d0 D p;clear d0 D p b0 hS a3 bX;go_wp2_with fail;refine dv.o.mono ?_;rintro e w5 ⟨rfl,A1,c1,e1,d6,cc,ax,d5,c7,d2,a0,Y⟩
    have b4:Keep (λj=>j=b\/j=S) Z w5:=⟨Y.os.trans HK.o.os,Y.tape.trans HK.o.tape,Y.output.trans HK.o.output,Ge HK.o.size Y.size,λj L hn=>(Y.block j (Gf L HK.o.size) (λh=>by
     rcases h with h | h | h
     ·exact hn (.inl h)
     ·exact hn (.inr h)
     ·omega)).trans (HK.o.block j L hn)⟩
    have V:∀j,j<k+1->∃A' c',(vs++[Value.slice A1 n c1])[j]?=some (.slice A' n c')/\n<=c'/\w5.ownsRow Z.heap.size 3 1 (.slice A' n c') n (az .i64 (iw l n (j*(n-1)))):=λj L=>by
     have e3:vs.length=k:=by have:=ax.1;simp at this;omega
     rcases Gn j k with h | h
     ·obtain ⟨A',c',k1,k2,k3⟩:=bM.o j h;exact ⟨A',c',by rw [GH ao];exact k1,k2,a0 _ _ _ _ k3⟩
     ·obtain rfl:j=k:=ao;exact ⟨A1,c1,by rw [GK ao,e3];simp,d5,c7⟩
    have bd:EB Z w5 S n b c3 (k+1) A3 l (H8 batch) (H8 steps) (.slice I nb J):=⟨e1,d6,_,cc,ax,V,by rw [GW];exact d2,b4⟩;have dw:=aa bd;clear bd cc ax d5 c7 d2 a0 Y b4 V;go_wp2_with fail;go_roundw
    ·exact ⟨k+1,by omega,by go_num,dw.o⟩
    ·simp [intOf];omega
   ·obtain rfl:E=k:=ao;have C:=(p.block _ ao bo.o).trans b6.o;have Q:=ak.o.size
    have bn:ed (dY w.heap.size wr) S n batch steps l/\w.heap.size<=S:=by
     refine ⟨?_,by omega⟩;refine ⟨I,J,Ao,co,vs,?_,?_,Rd.own (dI a3 Q),?_,?_⟩
     ·rw [He.o,bV.o,fA ao];exact hS
     ·rw [Hr.o,bV.o];exact Rd.own (dI (p.own cs.o cr.o) ao)
     ·have:=a3.1;rw [He.o];omega
     ·intro j L;rw [He.o] at L;obtain ⟨A',c',k1,k2,k3⟩:=D j L;exact ⟨A',c',k1,k2,Rd.own (dI k3 Q)⟩
    have cd:ap w wr:=ak.o.trans (p.toBelow ak.o.size (λj L=>by have:=dG;have:=bG.o.size;rcases L with h | h<;>omega));obtain ⟨t0,tf⟩:=bx1 C;obtain ⟨bl,dA⟩:=ab bn cd;clear bn cd hS a3 D bX p C;go_wp2_with fail;go_ret2;exact ⟨S,rfl,bl.o.1,bl.o.2,dA.o⟩
structure Inp where
 cfg:Cfg
 data:N8
 start:N1
 draws:N1
def mD (n b st:Nat):Nat:=epN n b st*(n-1)
theorem E0 (n b st:Nat):epN n b st<=st:=fF _ _
theorem Bt {n b st:Nat} (hn:n<=1048576) (o:st<=1048576):mD n b st<=1099511627776:=by
 have h:=E0 n b st;have i:epN n b st*(n-1)<=1048576*1048576:=Nat.mul_le_mul ao ao;unfold mD;omega
def inN (i:Inp):Nat:=szN i.cfg.sizes 0
def yx (i:Inp):Nat:=szN i.cfg.sizes (i.cfg.sizes.length-1)
def cnt (i:Inp):Nat:=bZ i.cfg.sizes (i.cfg.sizes.length-1)
def kq (i:Inp):Bool:=decide (i.cfg.batch<=i.data.length/\i.data.length<=1048576)
def FD (i:Inp):Bool:=decide (∀x∈i.data,fL (inN i) (yx i) x)
def jr (i:Inp):Bool:=FD i&&decide (i.start.length=cnt i)
def oQ (i:Inp):Bool:=decide (mD i.data.length i.cfg.batch.toNat i.cfg.steps.toNat<=i.draws.length)
noncomputable def fx (i:Inp):Int:=if bT i.cfg≠0 then bT i.cfg else if kq i=false then 7 else if jr i=false then 5 else if oQ i=false then 8 else 0
theorem Fy {i:Inp} (h:bT i.cfg≠0):fx i=bT i.cfg:=by unfold fx;rw [if_pos h]
theorem FA {i:Inp} (o:bT i.cfg=0) (h:kq i=false):fx i=7:=by unfold fx;rw [if_neg (by simp [o]),if_pos h]
theorem FB {i:Inp} (p:bT i.cfg=0) (o:kq i=true) (h:jr i=false):fx i=5:=by unfold fx;rw [if_neg (by simp [p]),if_neg (by simp [o]),if_pos h]
theorem Fz {i:Inp} (u:bT i.cfg=0) (o:kq i=true) (p:jr i=true) (h:oQ i=false):fx i=8:=by unfold fx;rw [if_neg (by simp [u]),if_neg (by simp [o]),if_neg (by simp [p]),if_pos h]
theorem FC {i:Inp} (u:bT i.cfg=0) (o:kq i=true) (p:jr i=true) (h:oQ i=true):fx i=0:=by unfold fx;rw [if_neg (by simp [u]),if_neg (by simp [o]),if_neg (by simp [p]),if_neg (by simp [h])]
structure me (i:Inp):Prop where
 c:jT i.cfg
 b:i.cfg.batch<=i.data.length/\i.data.length<=1048576
 f:∀x∈i.data,fL (inN i) (yx i) x
 s:i.start.length=cnt i
 d:mD i.data.length i.cfg.batch.toNat i.cfg.steps.toNat<=i.draws.length
theorem wV {i:Inp}:fx i=0↔me i:=by
 constructor
 ·intro h;by_cases o:bT i.cfg=0
  ·cases h1:kq i with
   | false=>rw [FA o h1] at h;omega
   | true=>
    cases h2:jr i with
    | false=>rw [FB o h1 h2] at h;omega
    | true=>
     cases h3:oQ i with
     | false=>rw [Fz o h1 h2 h3] at h;omega
     | true=>
      simp only [jr,Bool.and_eq_true] at h2;exact ⟨jE.1 o,of_decide_eq_true h1,of_decide_eq_true h2.1,of_decide_eq_true h2.2,of_decide_eq_true h3⟩
  ·rw [Fy o] at h;exact absurd h o
 ·intro h;refine FC (jE.2 h.c) (GZ h.b) ?_ (GZ h.d);simp only [jr,Bool.and_eq_true];exact ⟨GZ h.f,GZ h.s⟩
theorem iq (n:Int) (w:N5):Calls prog 98 #[H8 n] w λe h=>e=.returned (.bool (okB n))/\w=h:=by
 by_cases i:n<1
 ·go_enter func98,ntmps98;go_wp2;go_ret;exact ⟨cB (by unfold okB;simp;omega),rfl⟩
 ·by_cases o:1048576<n
  ·go_enter func98,ntmps98;go_wp2;go_ret;exact ⟨cB (by unfold okB;simp;omega),rfl⟩
  ·go_enter func98,ntmps98;go_wp2;go_ret;exact ⟨cB (by unfold okB;simp;omega),rfl⟩
def FG (sz:N1) (w:N5) (e:Ending) (h:N5):Prop:=ap w h/\((cP sz/\∃b,e=.returned (.tuple #[(ar b),H8 0])/\bF 199 h b sz/\w.heap.size<=b)\/(¬cP sz/\e=.returned (.tuple #[.pointer none,H8 (dE sz)])))
def Fi (sz:N1) (w:N5) (e:Ending) (h:N5):Prop:=ap w h/\((cP sz/\∃b,e=.returned (.tuple #[(ar b),H8 0])/\bF 199 (dY w.heap.size h) b sz/\w.heap.size<=b)\/(¬cP sz/\e=.returned (.tuple #[.pointer none,H8 (dE sz)])))
theorem ny (A:N0) (sz:N1) (c:Nat) (w:N5) (v:Rd w A (az .i64 sz)) (hc:sz.length<=c) (hm:c<=9223372036854775807):Calls prog 65 #[.slice A sz.length c] w (Fi sz w):=by
 by_cases o:2<=sz.length/\sz.length<=16
 ·by_cases p:∀k,k<sz.length->1<=nth sz k/\nth sz k<=1048576
  ·refine (rU A sz c w v hc hm ⟨o,p⟩).mono λe u ⟨hb,h⟩=>⟨hb,?_⟩;rcases h with ⟨h,he⟩ | ⟨h,b,he,x,y⟩
   ·have i:¬cP sz:=λi=>by have:=i.2;omega
    exact .inr ⟨i,by rw [mp i ⟨o,p⟩];exact he⟩
   ·exact .inl ⟨⟨⟨o,p⟩,h⟩,b,he,x,y⟩
  ·refine (un A sz c w v hc hm o p).mono λe u ⟨he,hw⟩=>?_;subst hw;exact ⟨Gb _ _,.inr ⟨λi=>p i.1.2,by rw [iK (λhr=>p hr.2)];exact he⟩⟩
 ·refine (uo A sz c w hc hm o).mono λe u ⟨he,hw⟩=>?_;subst hw;exact ⟨Gb _ _,.inr ⟨λi=>o i.1.1,by rw [iK (λhr=>o hr.1)];exact he⟩⟩
theorem pS (A:N0) (sz:N1) (c:Nat) (w:N5) (p:Rd w A (az .i64 sz)) (hc:sz.length<=c) (hm:c<=9223372036854775807):Calls prog 65 #[.slice A sz.length c] w (FG sz w):=by
 refine (ny A sz c w p hc hm).mono ?_;rintro e v ⟨hb,⟨o,b,he,i,u⟩ | h⟩
 ·exact ⟨hb,.inl ⟨o,b,he,jJ i (Agr.refl _ _),u⟩⟩
 ·exact ⟨hb,.inr h⟩
abbrev gW (A:N0) (c:Nat) (k:Cfg):N2:=#[.slice A k.sizes.length c,H8 k.shift,H8 k.rate,H8 k.mom,H8 k.workers,H8 k.batch,H8 k.micros,H8 k.steps,H8 k.bucket,H8 k.chunk,H8 k.window,H8 k.cap]
structure pt (w:N5) (A:N0) (c:Nat) (k:Cfg):Prop where
 hc:k.sizes.length<=c
 hm:c<=9223372036854775807
 hl:k.sizes.length<=17592186043904
 hr:Rd w A (az .i64 k.sizes)
theorem pt.below {w i:N5} {A:N0} {c:Nat} {k:Cfg} (h:pt w A c k) (hb:ap w i):pt i A c k:=⟨h.hc,h.hm,h.hl,h.hr.below hb⟩
theorem lV (A:N0) (c:Nat) (k:Cfg) (w:N5) (h:pt w A c k):Calls prog 64 #[.agg (gW A c k)] w λe D=>e=.returned (H8 (bT k))/\ap w D:=by
 have J:=λD (q:ap w D)=>pS A k.sizes c D (h.hr.below q) h.hc h.hm;have f6:=@Ew k;have f9:=@Eu k;have fs:=@Et k;have f2:=@Ey k;have f7:=@Ev k;have f0:=@Ez k;unfold wkB shB mC baB qS at *;obtain ⟨C,B⟩:∃C,bT k=C:=⟨_,rfl⟩;rw [B] at f6 f9 fs f2 f7 f0 ⊢;clear B h;obtain ⟨sz,sh,ra,mo,H,ba,mi,st,bu,ch,wi,ca⟩:=k;dsimp only [gW] at *;obtain ⟨L,hL⟩:∃L,sz.length=L:=⟨_,rfl⟩;rw [hL] at J ⊢;obtain ⟨a2,F6,F9,Fs,Y,F7,F0⟩:=ai J f6 f9 fs f2 f7 f0;clear J f6 f9 fs f2 f7 f0 hL;go_enter func64,ntmps64;go_wp2_with fail;have hz:=F4 w (.cells #[.slice A L c,H8 sh,H8 ra,H8 mo,H8 H,H8 ba,H8 mi,H8 st,H8 bu,H8 ch,H8 wi,H8 ca] 24);have hB:=(Gb _ w).alloc (F3 _) (.cells #[.slice A L c,H8 sh,H8 ra,H8 mo,H8 H,H8 ba,H8 mi,H8 st,H8 bu,H8 ch,H8 wi,H8 ca] 24);refine (a2.o _ hB).mono ?_;rintro e w1 ⟨x,hs⟩;have a1:=(x.block _ (F1 hz)).trans hz;have u:=aa (hB.trans (x.mono hB.size));obtain ⟨⟨z0,z1,z2,z3,z4,z5,z6,z7,z8,z9,a4,a7⟩,zf⟩:=mR a1;clear hz hB x a1
 -- the sizes' C
 obtain ⟨p,sc,rfl,a0⟩:∃p sc,e=.returned (.tuple #[.pointer p,H8 sc])/\dE sz=sc:=by
  rcases hs with ⟨hg,b,rfl,_⟩ | ⟨hg,rfl⟩
  ·exact ⟨_,0,rfl,jn hg⟩
  ·exact ⟨_,_,rfl,rfl⟩
 have i:=aa a0;clear hs a0;by_cases h1:H<1
 ·go_wp2_with fail;go_ret;exact ⟨bE (F6.o (by rw [G7];omega)).symm,u.o⟩
 by_cases a6:64<H
 ·go_wp2_with fail;go_ret;exact ⟨bE (F6.o (by rw [G7];omega)).symm,u.o⟩
 have v:=aa (show decide (1<=H/\H<=64)=true by rw [G9];omega);by_cases h2:sh<1
 ·go_wp2_with fail;go_ret;exact ⟨bE (F9.o v.o (by rw [G7];omega)).symm,u.o⟩
 by_cases a5:62<sh
 ·go_wp2_with fail;go_ret;exact ⟨bE (F9.o v.o (by rw [G7];omega)).symm,u.o⟩
 have y:=aa (show decide (1<=sh/\sh<=62)=true by rw [G9];omega);by_cases h3:sc≠0
 ·have hq:(sc != 0)=true:=by rw [bne_iff_ne];exact h3
  have H3:=aa h3;clear h3;go_wp2_with fail;go_ret;exact ⟨bE (by rw [Fs.o v.o y.o (by rw [i.o];exact H3.o)];exact i.o.symm),u.o⟩
 obtain rfl:sc=0:=ao;clear h3;go_wp2_with fail;refine (iq mi _).mono ?_;rintro e D ⟨rfl,rfl⟩;obtain ⟨b0,O⟩:∃b,okB mi=b:=⟨_,rfl⟩;have I:=aa O;rw [O];clear O;rcases iZ b0 with rfl | rfl
 ·go_wp2_with fail;go_ret;exact ⟨bE (Y.o v.o y.o i.o (by simp [I.o])).symm,u.o⟩
 go_wp2_with fail;refine (iq bu _).mono ?_;rintro e D ⟨rfl,rfl⟩;obtain ⟨b1,x⟩:∃b,okB bu=b:=⟨_,rfl⟩;have V:=aa x;rw [x];clear x;rcases iZ b1 with rfl | rfl
 ·go_wp2_with fail;go_ret;exact ⟨bE (Y.o v.o y.o i.o (by simp [I.o,V.o])).symm,u.o⟩
 go_wp2_with fail;refine (iq ch _).mono ?_;rintro e D ⟨rfl,rfl⟩;obtain ⟨b2,Q⟩:∃b,okB ch=b:=⟨_,rfl⟩;have Z:=aa Q;rw [Q];clear Q;rcases iZ b2 with rfl | rfl
 ·go_wp2_with fail;go_ret;exact ⟨bE (Y.o v.o y.o i.o (by simp [I.o,V.o,Z.o])).symm,u.o⟩
 go_wp2_with fail;refine (iq wi _).mono ?_;rintro e D ⟨rfl,rfl⟩;obtain ⟨b3,R⟩:∃b,okB wi=b:=⟨_,rfl⟩;have O3:=aa R;rw [R];clear R;rcases iZ b3 with rfl | rfl
 ·go_wp2_with fail;go_ret;exact ⟨bE (Y.o v.o y.o i.o (by simp [I.o,V.o,Z.o,O3.o])).symm,u.o⟩
 go_wp2_with fail;refine (iq ca _).mono ?_;rintro e D ⟨rfl,rfl⟩;obtain ⟨b4,U⟩:∃b,okB ca=b:=⟨_,rfl⟩;have O4:=aa U;rw [U];clear U;rcases iZ b4 with rfl | rfl
 ·go_wp2_with fail;go_ret;exact ⟨bE (Y.o v.o y.o i.o (by simp [I.o,V.o,Z.o,O3.o,O4.o])).symm,u.o⟩
 by_cases h4:st=0
 ·have hq:(st != 0)=false:=by rw [h4];rfl
  have N:=aa (show (okB mi&&okB bu&&okB ch&&okB wi&&okB ca&&decide (0<=st/\st<=1048576))=true by rw [I.o,V.o,Z.o,O3.o,O4.o];simp;omega);clear h4;by_cases h5:ba<H
  ·go_wp2_with fail;go_ret;exact ⟨bE (F7.o v.o y.o i.o N.o (by rw [G7];omega)).symm,u.o⟩
  by_cases a3:1048576<ba
  ·go_wp2_with fail;go_ret;exact ⟨bE (F7.o v.o y.o i.o N.o (by rw [G7];omega)).symm,u.o⟩
  go_wp2_with fail;go_ret;exact ⟨bE (F0.o v.o y.o i.o N.o (by rw [G9];omega)).symm,u.o⟩
 ·have hq:(st != 0)=true:=by rw [bne_iff_ne];exact h4
  have H4:=aa h4;clear h4;go_wp2_with fail;refine (iq st _).mono ?_;rintro e D ⟨rfl,rfl⟩;obtain ⟨b5,T⟩:∃b,okB st=b:=⟨_,rfl⟩;have O5:=aa T;rw [T];clear T;rcases iZ b5 with rfl | rfl
  ·go_wp2_with fail;go_ret;exact ⟨bE (Y.o v.o y.o i.o (by rw [I.o,V.o,Z.o,O3.o,O4.o];have:=yC O5.o;have:=H4.o;simp;omega)).symm,u.o⟩
  have N:=aa (show (okB mi&&okB bu&&okB ch&&okB wi&&okB ca&&decide (0<=st/\st<=1048576))=true by rw [I.o,V.o,Z.o,O3.o,O4.o];have:=iz O5.o;simp;omega);by_cases h5:ba<H
  ·go_wp2_with fail;go_ret;exact ⟨bE (F7.o v.o y.o i.o N.o (by rw [G7];omega)).symm,u.o⟩
  by_cases a3:1048576<ba
  ·go_wp2_with fail;go_ret;exact ⟨bE (F7.o v.o y.o i.o N.o (by rw [G7];omega)).symm,u.o⟩
  go_wp2_with fail;go_ret;exact ⟨bE (F0.o v.o y.o i.o N.o (by rw [G9];omega)).symm,u.o⟩
theorem yk (n:Nat) (w:N5) (hn:1<=n) (i:n<=1048576):Calls prog 106 #[H8 n] w λe h=>e=.returned (H8 ((n-1:Nat):Int))/\w=h:=by
 have o:(0:Int)<=(n:Int)-1:=ao;go_enter func106,ntmps106;go_wp2
 all_goals
  go_ret;exact ⟨bE ao,rfl⟩
theorem vw (A:N0) (c n:Nat) (k:Cfg) (w:N5) (h:pt w A c k) (C:jT k) (hn:k.batch<=n/\(n:Int)<=1048576):Calls prog 105 #[.agg (gW A c k),H8 n] w λe H=>e=.returned (H8 (epN n k.batch.toNat k.steps.toNat:Int))/\ap w H:=by
 have x:=λH (q:ap w H)=>lV A c k H (h.below q);rw [jE.2 C] at x;have g1:=C.w;have g2:=C.ba;have g3:=C.st;clear h C;obtain ⟨sz,sh,ra,Q,T,ba,mi,st,bu,ch,wi,ca⟩:=k;dsimp only [gW] at *;obtain ⟨bt,rfl⟩:∃bt:Nat,ba=bt:=⟨ba.toNat,by omega⟩;obtain ⟨sn,rfl⟩:∃sn:Nat,st=sn:=⟨st.toNat,by omega⟩;rw [Int.toNat_natCast,Int.toNat_natCast];obtain ⟨L,U⟩:∃L,sz.length=L:=⟨_,rfl⟩;rw [U] at x ⊢;obtain ⟨i,p⟩:∃i,n/bt=i:=⟨_,rfl⟩;have y:1<=i:=by rw [<-p];exact Nat.div_pos ao ao
 have N:i<=n:=by rw [<-p];exact Nat.div_le_self _ _
 have V:epN n bt sn=(sn+i-1)/i:=by unfold epN;rw [p,xc _ _ y]
 rw [V];have J:(sn+i-1)/i<=sn+i-1:=Nat.div_le_self _ _;obtain ⟨E,v⟩:∃E,(sn+i-1)/i=E:=⟨_,rfl⟩;rw [v] at J ⊢;have Z:(n:Int).tdiv (bt:Int)=(i:Int):=by rw [<-p];rfl
 have Y:(n:Int)/(bt:Int)=(i:Int):=by rw [<-p];rfl
 have u:(sn:Int)+i-1=((sn+i-1:Nat):Int):=ao;have a6:((sn:Int)+i-1).tdiv (i:Int)=(E:Int):=by rw [u,<-v];rfl
 have R:((sn:Int)+i-1)/(i:Int)=(E:Int):=by rw [u,<-v];rfl
 have a3:¬(bt=0):=ao;have a5:¬(i=0):=ao;have a2:¬((n:Int)<bt):=ao;have a1:¬((1048576:Int)<n):=ao;have I:=aa x;clear x U p V v u;go_enter func105,ntmps105;go_wp2_with fail;have O:=F4 w (.cells #[.slice A L c,H8 sh,H8 ra,H8 Q,H8 T,H8 bt,H8 mi,H8 sn,H8 bu,H8 ch,H8 wi,H8 ca] 24);have hB:=(Gb _ w).alloc (F3 _) (.cells #[.slice A L c,H8 sh,H8 ra,H8 Q,H8 T,H8 bt,H8 mi,H8 sn,H8 bu,H8 ch,H8 wi,H8 ca] 24);refine (I.o _ hB).mono ?_;rintro e w1 ⟨rfl,B⟩;have D:=(B.block _ (F1 O)).trans O;have HB:=aa (hB.trans (B.mono hB.size));obtain ⟨⟨z0,z1,z2,z3,z4,z5,z6,z7,z8,z9,a0,a4⟩,zf⟩:=mR D;clear O hB B D;go_wp2_with fail;go_ret;exact ⟨rfl,HB.o⟩
theorem Bs (A:N0) (c n:Nat) (k:Cfg) (w:N5) (h:pt w A c k) (x:jT k) (hn:k.batch<=n/\(n:Int)<=1048576):Calls prog 68 #[.agg (gW A c k),H8 n] w λe v=>e=.returned (H8 (mD n k.batch.toNat k.steps.toNat:Int))/\ap w v:=by
 have i:=λv (q:ap w v)=>vw A c n k v (h.below q) x hn;have g1:=x.w;have V:=x.ba;have Z:=x.st;have u:=λv=>yk n v ao ao;have p:=Bt (n:=n) (b:=k.batch.toNat) (st:=k.steps.toNat) ao ao;unfold mD at p ⊢;clear h x;obtain ⟨sz,sh,ra,I,J,ba,mi,st,bu,ch,wi,ca⟩:=k;dsimp only [gW] at *;obtain ⟨L,N⟩:∃L,sz.length=L:=⟨_,rfl⟩;rw [N] at i ⊢;obtain ⟨E,O⟩:∃E,epN n ba.toNat st.toNat=E:=⟨_,rfl⟩;obtain ⟨m,hm⟩:∃m,n-1=m:=⟨_,rfl⟩;rw [O] at i p ⊢;rw [hm] at u p ⊢;obtain ⟨y,H⟩:∃y,E*m=y:=⟨_,rfl⟩;rw [H] at p ⊢;have Q:(E:Int)*(m:Int)=(y:Int):=by rw [<-H];push_cast;rfl
 obtain ⟨C,D⟩:=ab i u;clear i u N O hm H;go_enter func68,ntmps68;go_wp2_with fail;have T:=F4 w (.cells #[.slice A L c,H8 sh,H8 ra,H8 I,H8 J,H8 ba,H8 mi,H8 st,H8 bu,H8 ch,H8 wi,H8 ca] 24);have hB:=(Gb _ w).alloc (F3 _) (.cells #[.slice A L c,H8 sh,H8 ra,H8 I,H8 J,H8 ba,H8 mi,H8 st,H8 bu,H8 ch,H8 wi,H8 ca] 24);refine (C.o _ hB).mono ?_;rintro e U ⟨rfl,B⟩;have R:=aa (hB.trans (B.mono hB.size));clear T hB B;go_wp2_with fail;refine (D.o _).mono ?_;rintro e Y ⟨rfl,rfl⟩;go_wp2_with fail;go_ret;exact ⟨rfl,R.o⟩
abbrev iU (A:N0) (c:Nat) (D:N0) (cd:Nat) (T:N0) (ct:Nat) (R:N0) (cr:Nat) (i:Inp):N2:=
 #[.slice A i.cfg.sizes.length c,H8 i.cfg.shift,H8 i.cfg.rate,H8 i.cfg.mom,H8 i.cfg.workers,H8 i.cfg.batch,H8 i.cfg.micros,H8 i.cfg.steps,H8 i.cfg.bucket,H8 i.cfg.chunk,H8 i.cfg.window,H8 i.cfg.cap,
  .slice D i.data.length cd,.slice T i.start.length ct,.slice R i.draws.length cr]
structure mM (w:N5) (A:N0) (c:Nat) (D:N0) (T:N0) (ct:Nat) (R:N0) (i:Inp):Prop where
 c:pt w A c i.cfg
 d:cO rEx 2 w D i.data
 dl:i.data.length<=1048576
 t:dr w T i.start ct
 tl:i.start.length<=1048576
 r:Rd w R (az .u64 i.draws)
 rl:i.draws.length<=1048576
 ru:U64 i.draws
 ra: -9223372036854775808<=i.cfg.rate/\i.cfg.rate<=9223372036854775807
 rm: -9223372036854775808<=i.cfg.mom/\i.cfg.mom<=9223372036854775807
theorem mM.below {w o:N5} {A:N0} {c:Nat} {D T R:N0} {ct:Nat} {i:Inp} (h:mM w A c D T ct R i) (hb:ap w o):mM o A c D T ct R i:=
 ⟨h.c.below hb,h.d.below fI hb,h.dl,h.t.below hb,h.tl,h.r.below hb,h.rl,h.ru,h.ra,h.rm⟩
theorem qu (A:N0) (c:Nat) (D:N0) (cd:Nat) (T:N0) (ct:Nat) (R:N0) (cr:Nat) (i:Inp) (w:N5) (h:mM w A c D T ct R i):Calls prog 40 #[.agg (iU A c D cd T ct R cr i)] w λe u=>e=.returned (H8 (fx i))/\ap w u:=by
 have ak:=λu (q:ap w u)=>lV A c i.cfg u (h.c.below q);have bi:=λu (q:ap w u)=>pS A i.cfg.sizes c u (h.c.hr.below q) h.c.hc h.c.hm;have b2:=λS u (hS:bF 199 u S i.cfg.sizes)=>gM S i.cfg.sizes u hS;have ad:=λa b u (q:ap w u)=>vy a b cd D i.data u (h.d.below fI q) h.dl;have Y:=λ(hg:jT i.cfg) (hb:i.cfg.batch<=i.data.length/\(i.data.length:Int)<=1048576) u (q:ap w u)=>Bs A c i.data.length i.cfg u (h.c.below q) hg hb;have fc:=@Fy i;have f7:=@FA i;have f5:=@FB i;have J:=@Fz i;have O:=@FC i;have bb:=@jE i.cfg;have bw:=h.c.hr;have cw:=h.dl;have d0:=h.tl;have hrl:=h.rl;unfold vR at ad;unfold kq at f7 f5 J O;unfold jr FD inN yx cnt at f5 J O;unfold oQ at J O;obtain ⟨b6,a7⟩:∃b6,fx i=b6:=⟨_,rfl⟩;rw [a7] at fc f7 f5 J O ⊢;clear a7 h;obtain ⟨⟨sz,sh,ra,mo,wk,ba,mi,st,bu,ch,wi,ca⟩,data,start,draws⟩:=i;dsimp only [iU,gW] at *;obtain ⟨L,hL⟩:∃L,sz.length=L:=⟨_,rfl⟩;obtain ⟨N,hN⟩:∃N,data.length=N:=⟨_,rfl⟩;obtain ⟨M,hM⟩:∃M,start.length=M:=⟨_,rfl⟩;obtain ⟨Q,hQ⟩:∃Q,draws.length=Q:=⟨_,rfl⟩;obtain ⟨cc,c6⟩:∃cc,bT ⟨sz,sh,ra,mo,wk,ba,mi,st,bu,ch,wi,ca⟩=cc:=⟨_,rfl⟩;rw [hL] at ak bi b2 Y f5 J O ⊢;rw [hN] at ad Y f7 f5 J O cw ⊢;rw [hM] at f5 J O d0 ⊢;rw [hQ] at J O hrl ⊢;rw [c6] at ak fc f7 f5 J O bb;obtain ⟨CN,bh⟩:∃CN,bZ sz (L-1)=CN:=⟨_,rfl⟩;rw [bh] at b2 f5 J O;obtain ⟨ND,bA⟩:∃ND,mD N ba.toNat st.toNat=ND:=⟨_,rfl⟩;rw [bA] at Y J O;obtain ⟨cS,ci,cA,d4,d2,Fc,F7,F5⟩:=aj ak bi b2 ad Y fc f7 f5;obtain ⟨F8,F0,co,bI,HL,d8⟩:=ah J O bb bw hL bh;clear ak bi b2 ad Y fc f7 f5 J O bb bw hL hN hM hQ c6 bh bA;go_enter func40,ntmps40;go_wp2_with fail;have hz:=(Gk (w.alloc (.cells #[.slice A L c,H8 sh,H8 ra,H8 mo,H8 wk,H8 ba,H8 mi,H8 st,H8 bu,H8 ch,H8 wi,H8 ca,.slice D N cd,.slice T M ct,.slice R Q cr] 29)) (.cells #[.slice A L c,H8 sh,H8 ra,H8 mo,H8 wk,H8 ba,H8 mi,H8 st,H8 bu,H8 ch,H8 wi,H8 ca] 24) w.heap.size (by simp)).trans (F4 w _);have hy:=F4 (w.alloc (.cells #[.slice A L c,H8 sh,H8 ra,H8 mo,H8 wk,H8 ba,H8 mi,H8 st,H8 bu,H8 ch,H8 wi,H8 ca,.slice D N cd,.slice T M ct,.slice R Q cr] 29)) (.cells #[.slice A L c,H8 sh,H8 ra,H8 mo,H8 wk,H8 ba,H8 mi,H8 st,H8 bu,H8 ch,H8 wi,H8 ca] 24);rw [show (w.alloc (.cells #[.slice A L c,H8 sh,H8 ra,H8 mo,H8 wk,H8 ba,H8 mi,H8 st,H8 bu,H8 ch,H8 wi,H8 ca,.slice D N cd,.slice T M ct,.slice R Q cr] 29)).heap.size=w.heap.size+1 by simp] at hy;have hB:ap w ((w.alloc (.cells #[.slice A L c,H8 sh,H8 ra,H8 mo,H8 wk,H8 ba,H8 mi,H8 st,H8 bu,H8 ch,H8 wi,H8 ca,.slice D N cd,.slice T M ct,.slice R Q cr] 29)).alloc (.cells #[.slice A L c,H8 sh,H8 ra,H8 mo,H8 wk,H8 ba,H8 mi,H8 st,H8 bu,H8 ch,H8 wi,H8 ca] 24)):=((Gb _ w).alloc (F3 _) _).alloc (by simp) _;obtain ⟨W0,bM⟩:∃W0,W0=(w.alloc (.cells #[.slice A L c,H8 sh,H8 ra,H8 mo,H8 wk,H8 ba,H8 mi,H8 st,H8 bu,H8 ch,H8 wi,H8 ca,.slice D N cd,.slice T M ct,.slice R Q cr] 29)).alloc (.cells #[.slice A L c,H8 sh,H8 ra,H8 mo,H8 wk,H8 ba,H8 mi,H8 st,H8 bu,H8 ch,H8 wi,H8 ca] 24):=⟨_,rfl⟩;rw [<-bM] at hz hy hB ⊢;clear bM;refine (cS.o _ hB).mono ?_;rintro e w1 ⟨rfl,b4⟩;have b3:=(b4.block _ (F1 hz)).trans hz;have a8:=(b4.block _ (F1 hy)).trans hy;have HB:=aa (hB.trans (b4.mono hB.size));obtain ⟨⟨z0,z1,z2,z3,z4,z5,z6,z7,z8,z9,Z,a1,U,a0,I⟩,zf⟩:=mQ b3;obtain ⟨⟨y0,y1,y2,y3,y4,y5,y6,y7,y8,y9,B,C⟩,yf⟩:=mR a8;have lz:=F1 b3;have ly:=F1 a8;obtain ⟨HZ,HY⟩:=ab b3 a8;clear hz hy hB b4 b3 a8;by_cases h3:cc≠0
 ·have hq:(cc != 0)=true:=by rw [bne_iff_ne];exact h3
  have H3:=aa h3;clear h3;go_wp2_with fail;go_ret;exact ⟨bE (Fc.o H3.o).symm,HB.o⟩
 obtain rfl:cc=0:=ao;clear h3;have hg:=co.o.1 rfl;have g1:=hg.w;have g2:=hg.ba;have g3:=hg.st;have gz:=hg.z;have HG:=aa hg;dsimp only at g1 g2 g3 gz;clear hg;have bO:=gz.1.1;rw [HL.o] at bO;have s0:=gz.1.at (k:=0) (by have:=HL.o;omega);have s1:=gz.1.at (k:=L-1) (by have:=HL.o;omega);obtain ⟨bz,oz,rfl,p0⟩:=bI.o.num (show 0<sz.length by have:=HL.o;omega);obtain ⟨_,_,e',p1⟩:=bI.o.num (show L-1<sz.length by have:=HL.o;omega);injection e' with e';injection e' with e1 e2 _;subst e1;subst e2
 rw [s0.2.2,Nat.add_zero] at p0;rw [s1.2.2] at p1;obtain ⟨n0,bl⟩:∃n0,szN sz 0=n0:=⟨_,rfl⟩;obtain ⟨n1,bd⟩:∃n1,szN sz (L-1)=n1:=⟨_,rfl⟩;have f5:=F5.o;have J:=F8.o;have O:=F0.o;rw [bl,bd] at f5 J O;rw [bl] at p0 s0;rw [bd] at p1 s1;obtain ⟨F5,F8,F0,d3⟩:=af f5 J O gz;have cb:bz<w.heap.size:=aC p0;obtain ⟨P0,P1⟩:=ab p0 p1;clear f5 J O gz bl bd p0 p1 s0 s1;obtain ⟨bt,rfl⟩:∃bt:Nat,ba=bt:=⟨ba.toNat,by omega⟩;go_wp2_with fail;refine (ci.o _ HB.o).mono ?_;rintro e w2 ⟨aP,hs⟩
 obtain ⟨S,rfl,hS⟩:∃S,e=.returned (.tuple #[(ar S),H8 0])/\bF 199 w2 S sz:=by
  rcases hs with ⟨_,S,he,hS,_⟩ | ⟨cf,_⟩
  ·exact ⟨S,he,hS⟩
  ·exact absurd d3.o cf
 clear hs;have b1:=(aP.block _ lz).trans HZ.o;have aM:=(aP.block _ ly).trans HY.o;have a6:=aa (HB.o.trans (aP.mono HB.o.size));clear z0 z1 z2 z3 z4 z5 z6 z7 z8 z9 Z a1 U a0 I zf y0 y1 y2 y3 y4 y5 y6 y7 y8 y9 B C yf lz ly;obtain ⟨⟨z0,z1,z2,z3,z4,z5,z6,z7,z8,z9,Z,a1,U,a0,I⟩,zf⟩:=mQ b1;obtain ⟨⟨y0,y1,y2,y3,y4,y5,y6,y7,y8,y9,B,C⟩,yf⟩:=mR aM;have lz:=F1 b1;have ly:=F1 aM;obtain ⟨cs,d1,HS⟩:=ae b1 aM hS;clear aP b1 aM hS;have p0:=(a6.o.cell (p:=(aq bz oz)) cb).trans P0.o;have p1:=(a6.o.cell (p:=⟨bz,oz+(L-1),none⟩) cb).trans P1.o;have cj:IntKind.i64.wrap ((L:Int)-1)=((L-1:Nat):Int):=by rw [Gd _ ao];omega
 have dc:((L-1:Nat):Int)<L:=ao;have d9:L-1<L:=ao;have d7:0<L:=ao;have d5:(0:Int)<L:=ao;go_wp2_with fail;have v:(λu:N5=>u.cell? (aq w.heap.size 12)=some (.slice D N cd)/\u.cell? (aq (w.heap.size+1) 0)=some (.slice (some (aq bz oz)) L c)/\u.cell? (aq bz oz)=some (H8 n0)/\u.cell? ⟨bz,oz+(L-1),none⟩=some (H8 n1)) w2.drew:=⟨U,y0,p0,p1⟩;refine HA.g (λu:N5=>u.cell? (aq w.heap.size 12)=some (.slice D N cd)/\u.cell? (aq (w.heap.size+1) 0)=some (.slice (some (aq bz oz)) L c)/\u.cell? (aq bz oz)=some (H8 n0)/\u.cell? ⟨bz,oz+(L-1),none⟩=some (H8 n1)) ?_;refine HA.t ?_ [0,1,2,3,4,5,6,7,8,9,10,11,12,13] v ?_;refine HA.o 14 (λK hK=>?_);go_simp;refine (d4.o n0 n1 _ a6.o.drew).mono ?_;rintro e w3 ⟨a3,d,hd⟩;have bv:=Gg (av a3 v.1) (Gg (av a3 v.2.1) (Gg (av a3 v.2.2.1) (av a3 v.2.2.2)));have H:ap w2 w3:=(Gb w2.heap.size w2).drew.trans a3;have a2:=(H.block _ lz).trans cs.o;have a4:=(H.block _ ly).trans d1.o;have bo:=HS.o.below H;obtain ⟨b0,c7,bG,cv⟩:=af (a6.o.trans (H.mono a6.o.size)) a2 a4 bo
 obtain ⟨ax,rfl,b8⟩:∃ax,e=.returned (.tuple #[H8 d,.bool ax])/\decide (∀x∈data,fL n0 n1 x)=ax:=by
  rcases hd with ⟨ha,rfl⟩ | ⟨ha,rfl⟩
  ·exact ⟨true,rfl,GZ ha⟩
  ·exact ⟨false,rfl,G3 ha⟩
 have a5:=aa b8;clear a3 H a2 a4 bo hd b8 v;dsimp only;refine hK.out _ _ bv (λv=>?_);clear hK K bv;refine HA.t ?_ [15,16,17,18,19] v ?_;refine HA.d ?_;clear v z0 z1 z2 z3 z4 z5 z6 z7 z8 z9 Z a1 U a0 I zf y0 y1 y2 y3 y4 y5 y6 y7 y8 y9 B C yf lz ly cj;have a2:=c7.o;have a4:=bG.o;obtain ⟨⟨z0,z1,z2,z3,z4,z5,z6,z7,z8,z9,Z,a1,U,a0,I⟩,zf⟩:=mQ a2;obtain ⟨⟨y0,y1,y2,y3,y4,y5,y6,y7,y8,y9,B,C⟩,yf⟩:=mR a4;have lz:=F1 a2;have ly:=F1 a4;clear a2 a4;by_cases h7:N<bt
 ·have hq:(N:Int)<bt:=ao;go_wp2_with fail;go_ret;exact ⟨bE (F7.o trivial (by rw [G7];omega)).symm,b0.o⟩
 have dk:¬((N:Int)<bt):=ao;have d6:¬((1048576:Int)<N):=ao;have G1:=aa (show decide ((bt:Int)<=N/\N<=1048576)=true by rw [G9];omega);rcases iZ ax with rfl | rfl
 ·go_wp2_with fail
  go_quiet (fail)
  go_wp2_with fail;go_ret;exact ⟨bE (F5.o trivial G1.o (by rw [a5.o];rfl)).symm,Gi b0.o _⟩
 have b5:=λu (q:ap w3 u)=>cA.o S u (cv.o.below q);have b7:=aa b5;clear b5;by_cases h5:M≠CN
 ·have hq:((M:Int) != (CN:Int))=true:=by rw [bne_iff_ne];omega
  have H5:=aa h5;clear h5;go_wp2_with fail
  go_quiet ((go_at_call 67;refine Calls.quiet_of ((b7.o _ ?_).mono λe u ⟨he,hw⟩=>⟨he,0,hw.symm⟩);exact am))
  go_wp2_with fail;go_ret;exact ⟨bE (F5.o trivial G1.o (by rw [a5.o,G3 H5.o];rfl)).symm,Gi b0.o _⟩
 have hq:((M:Int) != (CN:Int))=false:=by rw [bne_eq_false_iff_eq];omega
 have G2:=aa (show (decide (∀x∈data,fL n0 n1 x)&&decide (M=CN))=true by rw [a5.o,GZ (show M=CN by omega)];rfl);clear h5;go_wp2_with fail
 go_quiet ((go_at_call 67;refine Calls.quiet_of ((b7.o _ ?_).mono λe u ⟨he,hw⟩=>⟨he,0,hw.symm⟩);exact am))
 go_wp2_with fail;obtain ⟨V,hV⟩:∃V,V=w3.drewN nq:=⟨_,rfl⟩;have c9:ap w V:=by rw [hV];exact Gi b0.o _
 have bs:V.heap[w.heap.size]?=some (.cells #[.slice (some (aq bz oz)) L c,H8 sh,H8 ra,H8 mo,H8 wk,H8 bt,H8 mi,H8 st,H8 bu,H8 ch,H8 wi,H8 ca,.slice D N cd,.slice T M ct,.slice R Q cr] 29 (0,0)):=by rw [hV];exact c7.o
 have c8:V.heap[w.heap.size+1]?=some (.cells #[.slice (some (aq bz oz)) L c,H8 sh,H8 ra,H8 mo,H8 wk,H8 bt,H8 mi,H8 st,H8 bu,H8 ch,H8 wi,H8 ca] 24 (0,0)):=by rw [hV];exact bG.o
 clear z0 z1 z2 z3 z4 z5 z6 z7 z8 z9 Z a1 U a0 I zf y0 y1 y2 y3 y4 y5 y6 y7 y8 y9 B C yf;rw [<-hV];clear hV;obtain ⟨⟨z0,z1,z2,z3,z4,z5,z6,z7,z8,z9,Z,a1,U,a0,I⟩,zf⟩:=mQ bs;obtain ⟨⟨y0,y1,y2,y3,y4,y5,y6,y7,y8,y9,B,C⟩,yf⟩:=mR c8;have bn:=aa c9;clear c9 bs c8;have Y:=d2.o HG.o ao V.drew bn.o.drew;have bN:=aa Y;clear Y;have v:(λu:N5=>u.cell? (aq w.heap.size 14)=some (.slice R Q cr)/\u.cell? (aq (w.heap.size+1) 0)=some (.slice (some (aq bz oz)) L c)/\u.cell? (aq (w.heap.size+1) 1)=some (H8 sh)/\u.cell? (aq (w.heap.size+1) 2)=some (H8 ra)/\u.cell? (aq (w.heap.size+1) 3)=some (H8 mo)/\u.cell? (aq (w.heap.size+1) 4)=some (H8 wk)/\u.cell? (aq (w.heap.size+1) 5)=some (H8 bt)/\u.cell? (aq (w.heap.size+1) 6)=some (H8 mi)/\u.cell? (aq (w.heap.size+1) 7)=some (H8 st)/\u.cell? (aq (w.heap.size+1) 8)=some (H8 bu)/\u.cell? (aq (w.heap.size+1) 9)=some (H8 ch)/\u.cell? (aq (w.heap.size+1) 10)=some (H8 wi)/\u.cell? (aq (w.heap.size+1) 11)=some (H8 ca)) V.drew:=⟨I,y0,y1,y2,y3,y4,y5,y6,y7,y8,y9,B,C⟩;refine HA.g (λu:N5=>u.cell? (aq w.heap.size 14)=some (.slice R Q cr)/\u.cell? (aq (w.heap.size+1) 0)=some (.slice (some (aq bz oz)) L c)/\u.cell? (aq (w.heap.size+1) 1)=some (H8 sh)/\u.cell? (aq (w.heap.size+1) 2)=some (H8 ra)/\u.cell? (aq (w.heap.size+1) 3)=some (H8 mo)/\u.cell? (aq (w.heap.size+1) 4)=some (H8 wk)/\u.cell? (aq (w.heap.size+1) 5)=some (H8 bt)/\u.cell? (aq (w.heap.size+1) 6)=some (H8 mi)/\u.cell? (aq (w.heap.size+1) 7)=some (H8 st)/\u.cell? (aq (w.heap.size+1) 8)=some (H8 bu)/\u.cell? (aq (w.heap.size+1) 9)=some (H8 ch)/\u.cell? (aq (w.heap.size+1) 10)=some (H8 wi)/\u.cell? (aq (w.heap.size+1) 11)=some (H8 ca)) ?_;refine HA.t ?_ [0,1,2,3,4] v ?_;refine HA.o 5 (λK hK=>?_);go_simp;refine bN.o.mono ?_;rintro e w4 ⟨rfl,y⟩;have bV:=aa (bn.o.trans ((Gb V.heap.size V).drew.trans y |>.mono bn.o.size));have bX:=Gg (av y v.1) (Gg (av y v.2.1) (Gg (av y v.2.2.1) (Gg (av y v.2.2.2.1) (Gg (av y v.2.2.2.2.1) (Gg (av y v.2.2.2.2.2.1) (Gg (av y v.2.2.2.2.2.2.1) (Gg (av y v.2.2.2.2.2.2.2.1) (Gg (av y v.2.2.2.2.2.2.2.2.1) (Gg (av y v.2.2.2.2.2.2.2.2.2.1) (Gg (av y v.2.2.2.2.2.2.2.2.2.2.1) (Gg (av y v.2.2.2.2.2.2.2.2.2.2.2.1) (av y v.2.2.2.2.2.2.2.2.2.2.2.2))))))))))));clear y v;dsimp only;refine hK.out _ _ bX (λv=>?_);clear hK K bX;refine HA.t ?_ [6,7] v ?_;refine HA.d ?_;clear v z0 z1 z2 z3 z4 z5 z6 z7 z8 z9 Z a1 U a0 I zf y0 y1 y2 y3 y4 y5 y6 y7 y8 y9 B C yf;by_cases h8:ND<=Q
 ·have cl:¬((Q:Int)<ND):=ao;have cx:decide ((Q:Int)<ND)=false:=by simp;omega
  have cn:decide (Q<ND)=false:=by simp;omega
  have G8:=aa (GZ h8);go_wp2_with fail;go_ret;exact ⟨bE (F0.o trivial G1.o G2.o G8.o).symm,bV.o⟩
 ·have cl:(Q:Int)<ND:=ao;have cx:decide ((Q:Int)<ND)=true:=by simp;omega
  have cn:decide (Q<ND)=true:=by simp;omega
  have G8:=aa (G3 h8);go_wp2_with fail;go_ret;exact ⟨bE (F8.o trivial G1.o G2.o G8.o).symm,bV.o⟩
end Go.Proofs.YtindmkcnjlgomaaGreat
namespace Go.Proofs.YtindmkcnjlgomaaGreat
open Go.RowKit Go.Shelf
open Tryz
attribute [local go_sem] Oper.semAt_some
def no (l:N1):Int:=l.foldl (λa x=>wrap64 (a+x)) 0
theorem xC (l:N1) (x:Int):no (l++[x])=wrap64 (no l+x):=by simp [no]
def qO (zs:N1) {m:Nat} (k:Fin m):N2:=#[H8 (nth zs k.1)]
theorem Df {zs:N1} {m:Nat} (h:zs.length=m):((List.finRange m).map λk=>nth zs k.1)=zs:=by
 refine eG (by simp [h]) λk hk=>?_;rw [dh _ _ hk];simp
theorem sG {β:Type} (B b:Nat) (o:List β->Obj) (v:∀p,(o p).isCells=true):OwnFrom B (λ(p:List β) W=>W.heap[b]?=some (o p)):=λp W u row h i hr=>ez (β:=List β) B b (o p) (v p) p W u row h i hr
theorem zN (n l Y n₀ m d:Nat) (A:N0) (zs:N1) (T:zs.length=m) (hm:m<=1048576) (a7:Y<n₀) (R:∀a,A=some a->a.block<n₀) (J Jx:List (Fin m)->N5->Prop) (hY:∀u x W,J u W->u.length<m->YieldAt Fence.wide (n-1) prog l (qO zs x) W λe I=> (e=.returned (.bool true)/\J (u++[x]) I/\fM n₀ Y W I)\/(e=.returned (.bool false)/\Jx (u++[x]) I)) (W:N5) (H:W.heap[Y]?=some (.cells #[.slice A m d] 26 (0,0))) (hA:Rd W A (az .i64 zs)) (h0:J [] W):
  CallsIn Fence.wide n prog 263 #[.func (.yield l) #[] #[],(ar Y)] W λe I=>(∃v,e=.returned v)/\
   ((∃ys,ys=List.finRange m/\J ys I)\/(∃u,True/\Jx u I)):=by
 obtain ⟨e0,ef⟩:=bx1 H;obtain ⟨a6,HA,Z,a3⟩:=af H hA T R;clear H hA T R;refine callsIn_of_wp func263 rfl trivial ?_ rfl;simp only [ntmps263,List.size_toArray,List.length_cons,List.length_nil,Nat.reduceAdd,Nat.reduceSub,Array.replicate_succ,Array.replicate_zero,List.push_toArray,List.append_toArray,List.nil_append,List.cons_append]
 gi_wp2
 gi_loopw [7] (λi wr=>∃k:Nat,k<=m/\i=H8 k/\J ((List.finRange m).take k) wr/\Rd wr A (az .i64 zs))
  (λi _=>m-(intOf i).toNat)
 ·exact ⟨0,Gc _,rfl,h0,HA.o⟩
 case round=>
  obtain ⟨k,hk,rfl,y,B⟩:=hrel;clear e0 ef;by_cases D:k<m
  ·have U:((List.finRange m).take k).length<m:=by simp;omega
   have a2:=aa B;obtain ⟨b,o,rfl,p⟩:=B.num (show k<zs.length by rw [Z.o];exact D);obtain ⟨fn,tmps,V,a5,hy,hR⟩:=hY _ ⟨k,D⟩ wr y U;unfold qO at hy;dsimp only at hy;clear B y
   gi_wp2
   refine ⟨(λh=>by cases h),?_⟩;refine hR.mono ?_;rintro e w5 (⟨rfl,L,Q⟩ | ⟨rfl,O⟩)
   ·have N:=a2.o.belowB Q.1 a3.o;obtain ⟨a0,a4⟩:=ab N L;clear N L Q p
    gi_wp2
    go_roundw
    ·exact ⟨k+1,by omega,by go_num,by rw [wY D];exact a4.o,a0.o⟩
    ·simp [intOf];omega
   ·gi_wp2
    refine Gm (results_none rfl _ _ _) rfl ?_;exact ⟨⟨_,rfl⟩,.inr ⟨_,trivial,O⟩⟩
  ·obtain rfl:k=m:=ao;have C:(List.finRange k).take k=List.finRange k:=List.take_of_length_le (by simp);rw [C] at y;have a1:=aa y;clear y C B
   gi_wp2
   go_end0
   exact ⟨⟨_,rfl⟩,.inl ⟨_,rfl,a1.o⟩⟩
theorem tZ (n i n₀ m d:Nat) (A:N0) (zs:N1) (u:zs.length=m) (hm:m<=1048576) (p:i<n₀) (o:∀a,A=some a->a.block<n₀) (w:N5) (h:w.heap[i]?=some (.cells #[.slice A m d] 26 (0,0))) (B:Rd w A (az .i64 zs)):
  SeqStopsK Fence.wide n prog 263 #[(ar i)] (qO zs (m:=m)) (fM n₀ i) (λx=>x=List.finRange m) (λ_=>True) m w:=λl J C W v _ _ D y=>
 zN n l i n₀ m d A zs u hm p o J C D W ((v.block _ (F1 h)).trans h) (B.below v) y
theorem xx (L m d:Nat) (A:N0) (zs:N1) (w:N5) (C:w.heap[L]?=some (.cells #[.slice A m d] 26 (0,0))) (hA:Rd w A (az .i64 zs)) (y:zs.length=m) (hm:m<=1048576) (J:∀a,A=some a->a.block<w.heap.size):Calls prog 259 #[.func (.func 263) #[] #[(ar L)]] w λe w'=>e=.returned (H8 (no zs))/\ap w w':=by
 have N:=F1 C;have H:=tZ 2 L w.heap.size m d A zs y hm N J (w.alloc (.cells #[H8 0] 2)) ((Gk w _ _ N).trans C) (hA.alloc _);obtain ⟨V,T⟩:=ab H y;clear H C hA y J;refine (callsIn_wide (n:=3)).1 ?_;refine callsIn_of_wp_marks func259 rfl trivial ?_ rfl;simp only [ntmps259,List.size_toArray,List.length_cons,List.length_nil,Nat.reduceAdd,Nat.reduceSub,Array.replicate_succ,Array.replicate_zero,List.push_toArray,List.append_toArray,List.nil_append,List.cons_append]
 gi_wp2_with fail
 refine' wpIn_rangeFunc_ownG (F:=Fence.wide) (n:=3) rfl ao (gf:=263) (lb:=#[(ar L)]) rfl trivial (enters_of func263 (by kernel_rfl) rfl)
  V.o iL (iM (by simp) (by simp;omega)) (Gb _ _) (λ_=>rfl)
  (λ(p:List (Fin m)) W=>(W.heap[w.heap.size]?=some (.cells #[H8 (no (p.map λk=>nth zs k.1))] 2 (0,0)))/\ap w W)
  (λ_ _ _=>False)
  (OwnFrom.and (sG _ _ (λp:List (Fin m)=>.cells #[H8 (no (p.map λk=>nth zs k.1))] 2 (0,0)) (λ_=>rfl)) (ownFrom_below (F3 _) (by simp)))
  (λ_ _ _ _ _ Z _ _=>Z)
  ⟨F4 w _,(Gb _ w).alloc (F3 _) _⟩
  _ ?assign ?body ?done ?stop
 case assign=>
  intro l x W K Q;unfold qO
  gi_wp2
  exact Q
 case body=>
  rintro l p x W ⟨u,i⟩ U;obtain ⟨R,v⟩:∃R,no (p.map λk=>nth zs k.1)=R:=⟨_,rfl⟩;obtain ⟨O,B⟩:∃O,nth zs x.1=O:=⟨_,rfl⟩;rw [v] at u;obtain ⟨p0,pf⟩:=bx1 u;have a1:=F1 u;obtain ⟨HS,HB,a0,Y⟩:=af u i v B;clear u i U v;simp only [B];clear B
  gi_wp2_with fail
  have hk:Keep (λj=>j=w.heap.size) W (W.setCell (aq w.heap.size 0) (H8 (wrap64 (R+O)))):=Keep.setCell (S:=λj=>j=w.heap.size) (Keep.refl _ _) (aq w.heap.size 0) (.inr rfl) _;have hb:Below w.heap.size W (W.setCell (aq w.heap.size 0) (H8 (wrap64 (R+O)))):=hk.toBelow HB.o.size (λj hj=>ao);refine ⟨(jv hk (λk o Z I=>by rw [Z,HS.o] at I;injection I with e;subst e;rfl)).from _,⟨hb,λh=>hk.block L h ao⟩,?_,HB.o.trans hb⟩;rw [List.map_append,List.map_cons,List.map_nil,xC,a0.o,Y.o];exact HE W w.heap.size 0 _ _ _ HS.o
 case done=>
  rintro D ys W hD rfl ⟨u,i⟩ Q;rw [Df T.o] at u;obtain ⟨p0,pf⟩:=bx1 u
  gi_wp2
  refine ⟨by simp,.inl ⟨_,_,rfl,run_takeDeferred Q,?_⟩⟩;exact ⟨H8 (no zs),by simp [results,results259,go_sem],rfl,i.trans (belowK_b (w:=w) (F3 _) W D _ _ (by simp at hD;omega) Q rfl rfl)⟩
 case stop=>
  rintro D c p W _ _ h _;exact h.elim
theorem zM (A:N0) (m d:Nat) (w:N5):Calls prog 260 #[.slice A m d] w λe h=>e=.returned (.func (.func 263) #[] #[(ar w.heap.size)])/\h=w.alloc (.cells #[.slice A m d] 26):=by
 go_enter func260,ntmps260;go_wp2;go_ret;exact ⟨rfl,rfl⟩
theorem Cg (A:N0) (m d:Nat) (zs:N1) (w:N5) (u:Rd w A (az .i64 zs)) (i:zs.length=m) (hm:m<=1048576) (h:∀a,A=some a->a.block<w.heap.size):Calls prog 249 #[.slice A m d] w λe v=>e=.returned (H8 (no zs))/\ap w v:=by
 have p:=xx w.heap.size m d A zs (w.alloc (.cells #[.slice A m d] 26)) (F4 w _) (u.alloc _) i hm (λa x=>by have:=h a x;simp;omega);have y:=aa p;clear p u i h;go_enter func249,ntmps249;go_wp2_with fail;refine (zM A m d w).mono ?_;rintro e C ⟨rfl,rfl⟩;go_wp2_with fail;refine y.o.mono ?_;rintro e D ⟨rfl,hb⟩;have B:=aa (((Gb _ w).alloc (F3 _) _).trans (hb.mono (by simp)));clear hb;go_wp2;go_ret;exact ⟨rfl,B.o⟩
end Go.Proofs.YtindmkcnjlgomaaGreat
namespace Go.Proofs.YtindmkcnjlgomaaGreat
open Go.RowKit
open Tryz
theorem zX (a b:Int):no [a,b]=wrap64 (a+b):=by
 show wrap64 (wrap64 (0+a)+b)=wrap64 (a+b)
 unfold wrap64;omega
def ip (h q m g:Int):Int:=wrap64 (gE h m q+g)
def nu (ra q p m:Int):Int:=wrap64 (p-gE ra m q)
def apM (i q:Int) (h g:N1) (lo k:Nat):N1:=cY h.length λj=>if lo<=j/\j<lo+k then ip i q (nth h j) (nth g (j-lo)) else nth h j
def apP (ra i q:Int) (ps h g:N1) (lo k:Nat):N1:=cY ps.length λj=>if lo<=j/\j<lo+k then nu ra q (nth ps j) (ip i q (nth h j) (nth g (j-lo))) else nth ps j
theorem CW (i q:Int) (h g:N1) (lo:Nat):apM i q h g lo 0=h:=(dR rfl λk _=>by rw [if_neg ao]).symm
theorem CV (ra i q:Int) (ps h g:N1) (lo:Nat):apP ra i q ps h g lo 0=ps:=(dR rfl λk _=>by rw [if_neg ao]).symm
theorem lk (i q:Int) (h g:N1) (lo k:Nat):(apM i q h g lo k).length=h.length:=aZ _ _
theorem lh (ra i q:Int) (ps h g:N1) (lo k:Nat):(apP ra i q ps h g lo k).length=ps.length:=aZ _ _
theorem Ff (o q:Int) (i g:N1) (lo k:Nat) (h:lo+k<i.length):nth (apM o q i g lo k) (lo+k)=nth i (lo+k):=by
 unfold apM;rw [bP _ h,if_neg ao]
theorem Fe (ra o q:Int) (ps i g:N1) (lo k:Nat) (h:lo+k<ps.length):nth (apP ra o q ps i g lo k) (lo+k)=nth ps (lo+k):=by
 unfold apP;rw [bP _ h,if_neg ao]
theorem Ee (o q:Int) (i g:N1) (lo k:Nat) (h:lo+k<i.length):(apM o q i g lo k).set (lo+k) (ip o q (nth i (lo+k)) (nth g k))=apM o q i g lo (k+1):=by
 refine eG (by simp [lk]) λj p=>?_;rw [List.length_set,lk] at p;rw [fB,lk];unfold apM;rw [bP _ p,bP _ p];by_cases v:j=lo+k
 ·subst v;rw [if_pos ⟨rfl,h⟩,if_pos ao,show lo+k-lo=k by omega]
 ·rw [if_neg ao];by_cases u:lo<=j/\j<lo+k
  ·rw [if_pos u,if_pos ao]
  ·rw [if_neg u,if_neg ao]
theorem Eb (ra o q:Int) (ps i g:N1) (lo k:Nat) (h:lo+k<ps.length):(apP ra o q ps i g lo k).set (lo+k) (nu ra q (nth ps (lo+k)) (ip o q (nth i (lo+k)) (nth g k)))=apP ra o q ps i g lo (k+1):=by
 refine eG (by simp [lh]) λj p=>?_;rw [List.length_set,lh] at p;rw [fB,lh];unfold apP;rw [bP _ p,bP _ p];by_cases v:j=lo+k
 ·subst v;rw [if_pos ⟨rfl,h⟩,if_pos ao,show lo+k-lo=k by omega]
 ·rw [if_neg ao];by_cases u:lo<=j/\j<lo+k
  ·rw [if_pos u,if_pos ao]
  ·rw [if_neg u,if_neg ao]
theorem xg {o q:Int} {i g:N1} {lo k:Nat} (h:W64 i):W64 (apM o q i g lo k):=eh λj p=>by
 split
 ·exact fj _
 ·exact h j p
def wN (i q:Int) (h g:N1):N1:=cY h.length λj=>ip i q (nth h j) (nth g j)
def wK (ra i q:Int) (ps h g:N1):N1:=cY ps.length λj=>nu ra q (nth ps j) (ip i q (nth h j) (nth g j))
theorem Ef (i q:Int) (h g:N1):apM i q h g 0 h.length=wN i q h g:=eI λk hk=>by rw [if_pos ao,Nat.sub_zero]
theorem Ec (ra i q:Int) (ps h g:N1):apP ra i q ps h g 0 ps.length=wK ra i q ps h g:=eI λk hk=>by rw [if_pos ao,Nat.sub_zero]
theorem yE (i q:Int) (h g:N1):(wN i q h g).length=h.length:=aZ _ _
theorem yD (ra i q:Int) (ps h g:N1):(wK ra i q ps h g).length=ps.length:=aZ _ _
theorem xY (lo i:Nat) (w:N5) (h:lo<=i) (x:i<=17592186043904):Calls prog 124 #[.agg #[H8 lo,H8 i]] w λe v=>e=.returned (H8 ((i-lo:Nat):Int))/\ap w v:=by
 have y:(0:Int)<=(i:Int)-lo:=ao;have p:max ((i:Int)-lo) 0=((i-lo:Nat):Int):=ao;have u:=aa p;clear p;go_enter func124,ntmps124;go_wp2
 all_goals
  go_ret;exact ⟨bE (by have:=u.o;omega),(Gb _ w).alloc (F3 _) _⟩
theorem ub (ra I q g:Int) (base n i y cp x cm:Nat) (ps ms:N1) (w:N5) (hp:w.ownsRow base 2 1 (.slice (some (aq y 0)) n cp) n (az .i64 ps)) (hm:w.ownsRow base 2 1 (.slice (some (aq x 0)) n cm) n (az .i64 ms)) (bi:y≠x) (hi:i<n) (wr: -9223372036854775808<=ra/\ra<=9223372036854775807) (wo: -9223372036854775808<=I/\I<=9223372036854775807) (wm:W64 ms):Calls prog 240 #[.agg #[H8 ra,H8 I,H8 q],.pointer (some (aq y i)),.pointer (some (aq x i)),H8 g] w λe u=>e=.returned (.tuple #[])/\
   u.ownsRow base 2 1 (.slice (some (aq y 0)) n cp) n (az .i64 (ps.set i (nu ra q (nth ps i) (ip I q (nth ms i) g))))/\u.ownsRow base 2 1 (.slice (some (aq x 0)) n cm) n (az .i64 (ms.set i (ip I q (nth ms i) g)))/\Keep (λj=>j=y\/j=x) w u:=by
 have a8:=fT hm;have p1:=cL hp hi;have p2:=cL hm hi;have f1:=hp.frozenAt i;have f2:=hm.frozenAt i;have l1:=(hp.lt y rfl).2;have l2:=(hm.lt x rfl).2;have Z:=λu=>oJ I (nth ms i) q u wo (wm i ao);have R:=λm' u (h: -9223372036854775808<=m'/\m'<=9223372036854775807)=>oJ ra m' q u wr h;obtain ⟨m0,b5⟩:∃m0,nth ms i=m0:=⟨_,rfl⟩;obtain ⟨p0,b0⟩:∃p0,nth ps i=p0:=⟨_,rfl⟩;rw [b5] at p2 Z ⊢;rw [b0] at p1 ⊢;obtain ⟨m1,B⟩:∃m1,ip I q m0 g=m1:=⟨_,rfl⟩;have bb: -9223372036854775808<=m1/\m1<=9223372036854775807:=by rw [<-B];exact fj _
 obtain ⟨mu,N⟩:∃mu,gE I m0 q=mu:=⟨_,rfl⟩;have b3:no [mu,g]=m1:=by rw [zX,<-B,<-N];rfl
 rw [B];rw [N] at Z;have R:=λu=>R m1 u bb;obtain ⟨pu,L⟩:∃pu,gE ra m1 q=pu:=⟨_,rfl⟩;rw [L] at R;obtain ⟨p9,ad⟩:∃p9,nu ra q p0 m1=p9:=⟨_,rfl⟩;have a1:wrap64 (p0-pu)=p9:=by rw [<-ad,<-L];rfl
 rw [ad];have ak:=λu=>vZ p0 pu u;rw [a1] at ak;have a7:=λA u (hA:Rd u A (az .i64 [mu,g])) ha=>Cg A 2 2 [mu,g] u hA rfl ao ha;rw [b3] at a7;obtain ⟨bw,bA,bI,bz,HP,HM,bn,b6⟩:=aj Z R ak a7 hp hm b0 bi;clear Z R ak a7 hp hm b5 b0 B N b3 L ad a1 wr wo wm a8 bb;go_enter func240,ntmps240;go_wp2_with fail;have hz:=F4 w (.cells #[H8 ra,H8 I,H8 q] 162);have D:ap w (w.alloc (.cells #[H8 ra,H8 I,H8 q] 162)):=(Gb _ w).alloc (F3 _) _;obtain ⟨W0,b7⟩:∃W0,W0=w.alloc (.cells #[H8 ra,H8 I,H8 q] 162):=⟨_,rfl⟩;rw [<-b7] at hz D ⊢;clear b7;have q1:=av D p1;have q2:=av D p2;obtain ⟨⟨y0,y1,y2⟩,yf⟩:=bx3 hz;have a0:=aA HP.o D;have a4:=aA HM.o D;have bl:=F1 hz;obtain ⟨HZ,bM,bo,bV⟩:=af hz D a0 a4;clear hz D a0 a4 p1 p2 f1 f2;have p:(λu:N5=>u.cell? (aq w.heap.size 1)=some (H8 I)/\u.cell? (aq w.heap.size 2)=some (H8 q)/\u.cell? (aq x i)=some (H8 m0)) W0.drew:=⟨y1,y2,q2⟩;refine XA.g 12 (λu:N5=>u.cell? (aq w.heap.size 1)=some (H8 I)/\u.cell? (aq w.heap.size 2)=some (H8 q)/\u.cell? (aq x i)=some (H8 m0)) ?_;refine XA.t ?_ [0,1,2,3,4,5,6,7,9] p ?_;refine XA.o 8 (λK H=>?_);go_simp;refine (bw.o _).mono ?_;rintro e w1 ⟨rfl,v⟩;have b4:=Gg (av v p.1) (Gg (av v p.2.1) (av v p.2.2));have ax:=aa ((Gb W0.heap.size W0).drew.trans v);clear v p;dsimp only;refine H.out _ _ b4 (λp=>?_);clear H K b4;refine XA.o 10 (λK H=>?_);go_simp;refine H.out _ _ ⟨aF p.1 _,aF p.2.1 _,aF p.2.2 _⟩ (λp=>?_);clear H K;refine XA.o 11 (λK H=>?_);go_simp;refine (bz.o _ _ ?_ ?_).mono ?_
 ·exact gN _ [H8 mu,H8 g] 2 _ (by simp)
 ·intro a ha;injection ha with ha;subst ha;simp
 rintro e w2 ⟨rfl,v⟩;have aP:=Gg (av v p.1) (Gg (av v p.2.1) (av v p.2.2));have C:ap W0 w2:=(ax.o.alloc ax.o.size _).trans (v.mono (by have:=ax.o.size;simp;omega));have aM:=aA bo.o C;have B:=aA bV.o C;have bv:=av C q1;have g1:=B.frozenAt i;have g2:=aM.frozenAt i;have bd:=(C.block _ bl).trans HZ.o;have cd:=C.size;obtain ⟨c7,c9,b8,c8⟩:=af aM B C bd;clear aM B C v bd p y0 y1 y2 yf q1 q2;dsimp only;refine H.out _ _ aP (λp=>?_);clear H K;have q3:=aP.2.2;refine XA.e ?_;clear p aP;simp only [GC,GD];go_wp2_with fail;have Q:Keep (λj=>j=x) w2 (w2.setCell (aq x i) (H8 m1)):=Keep.setCell (S:=λj=>j=x) (Keep.refl _ _) (aq x i) (.inr rfl) _;have U:=eD c9.o i m1
 have a2:∀j,(Value.slice (some (aq y 0)) n cp).ownBlock=some j->¬j=x:=λj hj e=>by
  have h1:y=j:=by simpa [Value.ownBlock] using hj
  exact b6.o ao
 have a3:∀j,(Value.slice (some (aq x 0)) n cm).ownBlock=some j->¬j=y:=λj hj e=>by
  have h1:x=j:=by simpa [Value.ownBlock] using hj
  exact b6.o ao
 have Y:=Q.own c7.o a2;have b1:=aa a3;clear a2 a3;have O:=(Q.block _ (by have:=b8.o.size;omega) ao).trans c8.o;obtain ⟨V,hV⟩:∃V,V=w2.setCell (aq x i) (H8 m1):=⟨_,rfl⟩;rw [<-hV] at Q U Y O ⊢;clear hV bv q3 g1 g2;have r1:=cL Y hi;have r2:=cL U hi;have a8:=fT HM.o;rw [fB,if_pos ⟨rfl,by omega⟩] at r2;rw [bn.o] at r1;obtain ⟨⟨y0,y1,y2⟩,yf⟩:=bx3 O;have cb:=F1 O;obtain ⟨bO,bX,bs,cc⟩:=af Q U Y O;clear Q U Y O a8;have p:(λu:N5=>u.cell? (aq w.heap.size 0)=some (H8 ra)/\u.cell? (aq w.heap.size 2)=some (H8 q)/\u.cell? (aq y i)=some (H8 p0)/\u.cell? (aq x i)=some (H8 m1)) V.drew:=⟨y0,y2,r1,r2⟩;refine XA.g 13 (λu:N5=>u.cell? (aq w.heap.size 0)=some (H8 ra)/\u.cell? (aq w.heap.size 2)=some (H8 q)/\u.cell? (aq y i)=some (H8 p0)/\u.cell? (aq x i)=some (H8 m1)) ?_;refine XA.t ?_ [0,1,2,3,4,5,6,7,8,9,10] p ?_;refine XA.o 11 (λK H=>?_);go_simp;refine (bA.o _).mono ?_;rintro e w3 ⟨rfl,J⟩;have a6:=Gg (av J p.1) (Gg (av J p.2.1) (Gg (av J p.2.2.1) (av J p.2.2.2)));have T:ap V w3:=(Gb V.heap.size V).drew.trans J;have a5:=aA bs.o T;have bh:=aA bX.o T;have g2:=a5.frozenAt i;have q3:=a6.2.2.1;obtain ⟨bN,bG,c6⟩:=ae T a5 bh;clear J T a5 bh p;dsimp only;refine H.out _ _ a6 (λp=>?_);clear H K a6;refine XA.o 12 (λK H=>?_);go_simp;refine (bI.o _).mono ?_;rintro e w4 ⟨rfl,rfl⟩;dsimp only;refine H.out _ _ p (λp=>?_);clear H K;refine XA.e ?_;clear p y0 y1 y2 yf r1 r2;simp only [GC,GD];go_wp2_with fail
 go_end0
 have b2:Keep (λj=>j=y) w3 (w3.setCell (aq y i) (H8 p9)):=Keep.setCell (S:=λj=>j=y) (Keep.refl _ _) (aq y i) (.inr rfl) _;refine ⟨rfl,eD bG.o i p9,b2.own c6.o b1.o,?_⟩;have k1:Keep (λj=>j=y\/j=x) w W0:=Keep.below bM.o;have k2:Keep (λj=>j=y\/j=x) W0 w2:=Keep.below b8.o;have k3:Keep (λj=>j=y\/j=x) w2 V:=bO.o.mono (λ_ _ h=>.inr h);have k4:Keep (λj=>j=y\/j=x) V w3:=Keep.below bN.o;exact (((k1.trans k2).trans k3).trans k4).trans (b2.mono (λ_ _ h=>.inl h))
theorem qE (ra p q:Int) (base n lo m c1 c2 cg:Nat) (A B G:N0) (ps H g:N1) (w:N5) (hp:w.ownsRow base 2 1 (.slice A n c1) n (az .i64 ps)) (hm:w.ownsRow base 2 1 (.slice B n c2) n (az .i64 H)) (aM:∀i,(Value.slice A n c1).ownBlock=some i->(Value.slice B n c2).ownBlock≠some i) (hG:Rd w G (az .i64 g)) (b6:g.length=m) (d1:lo+m<=n) (hn:n<=1048576) (ax:∀a,G=some a->(Value.slice A n c1).ownBlock≠some a.block) (b8:∀a,G=some a->(Value.slice B n c2).ownBlock≠some a.block) (wr: -9223372036854775808<=ra/\ra<=9223372036854775807) (wo: -9223372036854775808<=p/\p<=9223372036854775807) (wm:W64 H):Calls prog 224 #[.agg #[H8 ra,H8 p,H8 q],.agg #[.slice A n c1,.slice B n c2],.agg #[H8 lo,H8 ((lo+m:Nat):Int)],.slice G m cg] w λe v=>e=.returned (.bool true)/\
   v.ownsRow base 2 1 (.slice A n c1) n (az .i64 (apP ra p q ps H g lo m))/\v.ownsRow base 2 1 (.slice B n c2) n (az .i64 (apM p q H g lo m))/\Keep (λj=>(Value.slice A n c1).ownBlock=some j\/(Value.slice B n c2).ownBlock=some j) w v:=by
 have bs:=fT hp;have bn:=fT hm;have a0:=λv=>xY lo (lo+m) v ao ao;rw [Nat.add_sub_cancel_left] at a0;obtain ⟨I,bd⟩:∃I,lo+m=I:=⟨_,rfl⟩;rw [bd] at a0 ⊢;have cS:lo<=I:=ao;have d8:I<=n:=ao;have d9:((n:Int) != (n:Int))=false:=by simp
 have d6:((m:Int) != (m:Int))=false:=by simp
 have d2:¬((n:Int)<(I:Int)):=ao;have d3:¬((I:Int)<lo):=ao;have a4:=hp.lt;have a6:=hm.lt;obtain ⟨b0,HP,HM,cd,HG,c8,bw,aP⟩:=aj a0 hp hm aM hG b6 ax b8;obtain ⟨b4,bh,Wr,Wo,Wm,a1,a2⟩:=ai bs bn wr wo wm a4 a6;clear a0 hp hm aM hG b6 ax b8 bs bn wr wo wm a4 a6 bd;go_enter func224,ntmps224;go_wp2_with fail;have a7:(((w.alloc (.cells #[H8 ra,H8 p,H8 q] 162)).alloc (.cells #[.slice A n c1,.slice B n c2] 91)).alloc (.cells #[H8 lo,H8 I] 69)).heap.size=w.heap.size+3:=by simp
 have ad:ap w (((w.alloc (.cells #[H8 ra,H8 p,H8 q] 162)).alloc (.cells #[.slice A n c1,.slice B n c2] 91)).alloc (.cells #[H8 lo,H8 I] 69)):=(((Gb _ w).alloc (F3 _) _).alloc (by simp) _).alloc (by simp;omega) _;have a8:=(Gk ((w.alloc (.cells #[H8 ra,H8 p,H8 q] 162)).alloc (.cells #[.slice A n c1,.slice B n c2] 91)) (.cells #[H8 lo,H8 I] 69) w.heap.size (by simp;omega)).trans ((Gk (w.alloc (.cells #[H8 ra,H8 p,H8 q] 162)) (.cells #[.slice A n c1,.slice B n c2] 91) w.heap.size (by simp)).trans (F4 w _));have D:=F4 (w.alloc (.cells #[H8 ra,H8 p,H8 q] 162)) (.cells #[.slice A n c1,.slice B n c2] 91);rw [show (w.alloc (.cells #[H8 ra,H8 p,H8 q] 162)).heap.size=w.heap.size+1 by simp] at D;have D:=(Gk ((w.alloc (.cells #[H8 ra,H8 p,H8 q] 162)).alloc (.cells #[.slice A n c1,.slice B n c2] 91)) (.cells #[H8 lo,H8 I] 69) (w.heap.size+1) (by simp)).trans D;have U:=F4 ((w.alloc (.cells #[H8 ra,H8 p,H8 q] 162)).alloc (.cells #[.slice A n c1,.slice B n c2] 91)) (.cells #[H8 lo,H8 I] 69);rw [show ((w.alloc (.cells #[H8 ra,H8 p,H8 q] 162)).alloc (.cells #[.slice A n c1,.slice B n c2] 91)).heap.size=w.heap.size+1+1 by simp] at U;obtain ⟨W0,bA⟩:∃W0,W0=((w.alloc (.cells #[H8 ra,H8 p,H8 q] 162)).alloc (.cells #[.slice A n c1,.slice B n c2] 91)).alloc (.cells #[H8 lo,H8 I] 69):=⟨_,rfl⟩;rw [<-bA] at a7 ad a8 D U ⊢;obtain ⟨d0,N,b1,b5,Y⟩:=ag a7 ad a8 D U;clear a7 ad a8 D U bA;refine (b0.o _).mono ?_;rintro e w1 ⟨rfl,k1⟩;have y:=(k1.block _ (F1 Y.o)).trans Y.o;have cj:=F1 y;obtain ⟨⟨x0,x1⟩,xf⟩:=bx2 y;have K1:=aa k1;clear k1 y;go_wp2_with fail;refine (b0.o _).mono ?_;rintro e w2 ⟨rfl,k2⟩;have K2:=aa (K1.o.trans (k2.mono K1.o.size));clear k2 x0 x1 xf cj;have bl:=N.o.trans (K2.o.mono N.o.size);have bI:=aA (aA HP.o N.o) K2.o;have bb:=aA (aA HM.o N.o) K2.o;have bV:=(HG.o.below N.o).below K2.o;have J:=(K2.o.block _ (F1 b1.o)).trans b1.o;have R:=(K2.o.block _ (F1 b5.o)).trans b5.o;have y:=(K2.o.block _ (F1 Y.o)).trans Y.o;obtain ⟨cf,cb,cr,cl,bz,bo,bO⟩:=ai bl bI bb bV J R y;clear bl bI bb bV J R y;go_wp2_with fail
 go_loopw [46] (λx wr=>∃k:Nat,k<=m/\x=H8 k/\wr.ownsRow base 2 1 (.slice A n c1) n (az .i64 (apP ra p q ps H g lo k))/\wr.ownsRow base 2 1 (.slice B n c2) n (az .i64 (apM p q H g lo k))/\Keep (λj=>(Value.slice A n c1).ownBlock=some j\/(Value.slice B n c2).ownBlock=some j) w2 wr) (λx _=>m-(intOf x).toNat)
 ·exact ⟨0,Gc _,rfl,by rw [CV];exact cb.o,by rw [CW];exact cr.o,Keep.refl _ _⟩
 case round=>
  obtain ⟨k,hk,rfl,T,L,O⟩:=hrel;by_cases cc:k<m
  ·have hG:=O.rd cl.o (λa ha=>by
    rintro (h | h)
    ·exact bw.o a ha h
    ·exact aP.o a ha h)
   obtain ⟨bG,oG,rfl,pg⟩:=hG.num (show k<g.length by rw [c8.o];exact cc);obtain ⟨gk,Q⟩:∃gk,nth g k=gk:=⟨_,rfl⟩;rw [Q] at pg
   have V:∀j,w.heap.size<=j->¬((Value.slice A n c1).ownBlock=some j\/(Value.slice B n c2).ownBlock=some j):=λj hj=>by
    rintro (h | h)
    ·have:=(a1.o j h).2;omega
    ·have:=(a2.o j h).2;omega
   have J:=(O.block _ (F1 bz.o) (V _ (F3 _))).trans bz.o;have R:=(O.block _ (F1 bo.o) (V _ ao)).trans bo.o;have y:=(O.block _ (F1 bO.o) (V _ ao)).trans bO.o;obtain ⟨Z,e1,b7,_,_⟩:=T.form ao;obtain ⟨gm,e2,bv,_,_⟩:=L.form ao;simp only [GT] at b7 bv;obtain ⟨rfl,_,rfl⟩:=b7;obtain ⟨rfl,_,rfl⟩:=bv;have a5:Z≠gm:=λe=>cd.o Z rfl (by rw [e];rfl);have ak:=ub ra p q gk base n (lo+k) Z c1 gm c2 (apP ra p q ps H g lo k) (apM p q H g lo k) wr.drew (bW T 1) (bW L 1) a5 ao Wr.o Wo.o (xg Wm.o);rw [Fe ra p q ps H g lo k (by have:=b4.o;omega),Ff p q H g lo k (by have:=bh.o;omega),<-Q,Eb ra p q ps H g lo k (by have:=b4.o;omega),Ee p q H g lo k (by have:=bh.o;omega),Q] at ak;obtain ⟨⟨y0,y1,y2⟩,yf⟩:=bx3 J;obtain ⟨⟨z0,z1⟩,zf⟩:=bx2 R;obtain ⟨⟨t0,t1⟩,tf⟩:=bx2 y;have d4:(k:Int)<m:=ao;have c9:IntKind.i64.wrap ((lo:Int)+(k:Int))=(lo:Int)+k:=Gd _ ao;have cA:(0:Int)<=(lo:Int)+k:=ao;have d7:(lo:Int)+k<n:=ao;have c6:((lo:Int)+k).toNat=lo+k:=ao;obtain ⟨HK,cn,d5⟩:=ae O ak Q;clear O ak T L hG J R y V Q a5;go_wp2_with fail;have u:(λv:N5=>v.cell? (aq w.heap.size 0)=some (H8 ra)/\v.cell? (aq w.heap.size 1)=some (H8 p)/\v.cell? (aq w.heap.size 2)=some (H8 q)/\v.cell? (aq (w.heap.size+1) 0)=some (.slice (some (aq Z 0)) n c1)/\v.cell? (aq (w.heap.size+1) 1)=some (.slice (some (aq gm 0)) n c2)/\v.cell? (aq (w.heap.size+1+1) 0)=some (H8 lo)/\v.cell? (aq bG (oG+k))=some (H8 gk)) wr.drew:=⟨y0,y1,y2,z0,z1,t0,pg⟩;have cw:Z<w.heap.size:=(a1.o Z rfl).2;have cx:gm<w.heap.size:=(a2.o gm rfl).2
   have a3:¬(bG=Z\/bG=gm):=by
    rintro (h | h)
    ·exact bw.o _ rfl (by rw [h];rfl)
    ·exact aP.o _ rfl (by rw [h];rfl)
   refine HA.g (λv:N5=>v.cell? (aq w.heap.size 0)=some (H8 ra)/\v.cell? (aq w.heap.size 1)=some (H8 p)/\v.cell? (aq w.heap.size 2)=some (H8 q)/\v.cell? (aq (w.heap.size+1) 0)=some (.slice (some (aq Z 0)) n c1)/\v.cell? (aq (w.heap.size+1) 1)=some (.slice (some (aq gm 0)) n c2)/\v.cell? (aq (w.heap.size+1+1) 0)=some (H8 lo)/\v.cell? (aq bG (oG+k))=some (H8 gk)) ?_;refine HA.t ?_ [0,1,2,3,4,5,6,7,8,9,10,11,12,13,14,15,16,17,18] u ?_;clear c9 c6;refine HA.o 19 (λK O=>?_);go_simp;refine cn.o.mono ?_;rintro e w5 ⟨rfl,bN,b2,C⟩;have b3:=Gg (C.cell u.1 (by simp;omega)) (Gg (C.cell u.2.1 (by simp;omega)) (Gg (C.cell u.2.2.1 (by simp;omega)) (Gg (C.cell u.2.2.2.1 (by simp;omega)) (Gg (C.cell u.2.2.2.2.1 (by simp;omega)) (Gg (C.cell u.2.2.2.2.2.1 (by simp;omega)) (C.cell u.2.2.2.2.2.2 a3))))))
   have bi:Keep (λj=>(Value.slice (some (aq Z 0)) n c1).ownBlock=some j\/(Value.slice (some (aq gm 0)) n c2).ownBlock=some j) w2 w5:=HK.o.trans ((Keep.refl _ wr).drew.trans (C.mono (λj _ h=>by
    rcases h with rfl | rfl
    ·exact .inl rfl
    ·exact .inr rfl)))
   obtain ⟨co,c7,cs⟩:=ae bN b2 bi;clear bN b2 C bi u a3;dsimp only;refine O.out _ _ b3 (λu=>?_);clear O K b3 u y0 y1 y2 yf z0 z1 zf t0 t1 tf pg;refine HA.d ?_;go_wp2_with fail;go_roundw
   ·exact ⟨k+1,by omega,by go_num,co.o,c7.o,cs.o⟩
   ·simp [intOf];omega
  ·obtain rfl:m=k:=ao;have bM:Keep (λj=>(Value.slice A n c1).ownBlock=some j\/(Value.slice B n c2).ownBlock=some j) w wr:=(Keep.below cf.o).trans O;obtain ⟨bX,cv,ci⟩:=ae T L bM;clear T L bM O;go_wp2_with fail;go_ret;exact ⟨rfl,bX.o,cv.o,ci.o⟩
theorem uv {P:Program} {t e:N6} {z:Value} {h:Nat} (T:cW P t e z 1 h) (w:N5) (A:z.cells=#[z]) (n:Nat) (C:h*n<=281474976710656) (D:n<=maxLen):
  ∃u,Sem.run P (Instr.makeSlice t (H8 (n:Int)) (H8 (n:Int))) w=.ok (.slice (some (aq w.heap.size 0)) n n) u/\u.ownsRow w.heap.size e 1 (.slice (some (aq w.heap.size 0)) n n) n (List.replicate n z)/\ap w u:=by
 obtain ⟨i,H,x,y,v⟩:=T.info;obtain ⟨u,p,B,o⟩:=run_make_full (P:=P) w w.heap.size t e i z 1 T.und H x y .i64 .i64 n (by rw [v];exact C) D (F3 _);rw [A,Nat.mul_one,toList_madeCells_one] at B;exact ⟨u,p,B,⟨o.os,o.tape,o.output,o.size,λk hk=>o.block k hk (by simp)⟩⟩
end Go.Proofs.YtindmkcnjlgomaaGreat
