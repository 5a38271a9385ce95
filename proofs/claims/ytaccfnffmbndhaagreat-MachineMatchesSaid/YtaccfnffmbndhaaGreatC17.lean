/- No condition. -/
import Derived.Test.YtaccfnffmbndhaaGreatC00
import Derived.Test.YtaccfnffmbndhaaGreatC16
import Derived.Test.YtaccfnffmbndhaaGreatC15
import Derived.Test.YtaccfnffmbndhaaGreatC09
import Derived.Test.YtaccfnffmbndhaaGreatC11
import Derived.Test.YtaccfnffmbndhaaGreatC02
import Derived.Test.YtaccfnffmbndhaaGreatC06
import Derived.Test.YtaccfnffmbndhaaGreatC10
import Derived.Deep.RegionHeld3
import Derived.Test.YtaccfnffmbndhaaGreatC13
set_option linter.unusedSimpArgs false
set_option linter.unusedVariables false
set_option maxRecDepth 100000
set_option maxHeartbeats 4000000
namespace Go.Proofs.YtaccfnffmbndhaaGreat
open Go.RowKit
def j1 (l:List Int) (n B k:Nat) (v:Value) (vs:List Value) (w:World):Prop:=w.ownsRow B 22 1 v k vs∧∀j,j<k→∃o i,vs[j]?=some (.slice o n i)∧n≤i∧w.ownsRow B 3 1 (.slice o n i) n (aq .i64 (fz l n (j*(n-1))))
theorem j1.below {l:List Int} {n B k:Nat} {v:Value} {vs:List Value} {w i:World} (h:j1 l n B k v vs w) (o:Below w.heap.size w i):j1 l n B k v vs i:=
 ⟨ap h.1 o,fun j x=>by obtain ⟨A,y,p,q,u⟩:=h.2 j x;exact ⟨A,y,p,q,ap u o⟩⟩
theorem j1.keep {l:List Int} {n B k:Nat} {v:Value} {vs:List Value} {S:Nat→Prop} {w q:World} (h:j1 l n B k v vs w) (o:Keep S w q) (u:∀k,S k→k<B):j1 l n B k v vs q:=
 ⟨o.own h.1 (fun j i e=>by have:=(h.1.lt j i).1;have:=u j e;omega),fun j i=>by
  obtain ⟨C,A,x,y,p⟩:=h.2 j i
  exact ⟨C,A,x,y,o.own p (fun j i e=>by have:=(p.lt j i).1;have:=u j e;omega)⟩⟩
theorem j1.base {l:List Int} {n B i k:Nat} {v:Value} {vs:List Value} {w:World} (h:j1 l n B k v vs w) (o:i≤B):j1 l n i k v vs w:=
 ⟨ax h.1 o,fun j x=>by obtain ⟨A,y,p,q,u⟩:=h.2 j x;exact ⟨A,y,p,q,ax u o⟩⟩
theorem j1.push {l:List Int} {n B k:Nat} {v v':Value} {vs:List Value} {w i:World} {A:Option Addr} {c:Nat} (h:j1 l n B k v vs w) (hr:w.ownsRow B 3 1 (.slice A n c) n (aq .i64 (fz l n (k*(n-1))))) (hc:n≤c)
  (x:i.ownsRow B 22 1 v' (k+1) (vs++[.slice A n c])) (hg:w.grownBy i v.ownBlock):j1 l n B (k+1) v' (vs++[.slice A n c]) i:=
 ⟨x,fun j H=>by
  have o:vs.length=k:=by have:=h.1.1;simpa using this
  rcases JR j k with q | q
  ·obtain ⟨D,C,p,u,y⟩:=h.2 j q
   exact ⟨D,C,by rw [Ki (by omega)];exact p,u,fh y h.1 hg (by decide)⟩
  ·obtain rfl:j=k:=by omega
   exact ⟨A,c,by rw [Kj (by omega),o];simp,hc,fh hr h.1 hg (by decide)⟩⟩
theorem j1.rd {l:List Int} {n B k c:Nat} {A:Option Addr} {vs:List Value} {w:World} (h:j1 l n B k (.slice A k c) vs w) (hn:n≤1048576):cE yo 1 w A (iF l n k):=by
 have i:vs.length=k:=by have:=h.1.1;simpa using this
 refine uU (Rd.own h.1) (by rw [i,pM]) fun j x hx=>?_
 have o:j<k:=by rw [←pM l n k];exact (Kg.1 hx).1
 rw [qQ l n o] at hx;injection hx with hx
 obtain ⟨y,v,p,q,u⟩:=h.2 j o
 refine ⟨_,p,y,v,?_,?_,?_,?_⟩
 ·rw [←hx,iN]
 ·rw [←hx,iN];exact q
 ·rw [←hx,iN];omega
 ·rw [←hx];exact Rd.own u
theorem IF {k E m:Nat} (h:k<E) {N:Nat} (i:E*m≤N):k*m+m≤N:=by
 have h1:(k+1)*m≤E*m:=KH _ h
 rw [Kx] at h1;omega
def FN (l:List Int) (n b steps E:Nat) (w:World) (e:Ending) (i:World):Prop:=∃A c,e=.returned (.tuple #[.agg #[KL n,KL b,KL steps,.slice A E c],KL 0])∧(∃vs,j1 l n w.heap.size E (.slice A E c) vs i)∧Below w.heap.size w i
theorem xT (n b steps E c:Nat) (A:Option Addr) (l:List Int) (w:World) (hA:Rd w A (aq .u64 l)) (hl:l.length≤1048576) (hu:U64 l) (hb:1≤b) (bl:b≤n) (hn:n≤1048576) (bz:steps≤1048576) (hE:epN n b steps=E) (hd:E*(n-1)≤l.length):
  Calls Tryz.prog 119 #[KL n,KL b,KL steps,.slice A l.length c] w (FN l n b steps E w):=by
 have cr:E≤steps:=by rw [←hE];exact fu _ _
 have a2:=fun U=>ux n b steps U ⟨hb,bl⟩ hn bz
 rw [hE] at a2
 have a4:=fun U=>mM n U (by omega) hn
 obtain ⟨m,hm⟩:∃m,n-1=m:=⟨_,rfl⟩
 have o:=fun k U (hk:k*m+m≤l.length) (q:Rd U A (aq .u64 l))=>tW n c (k*m) A l U q (by omega) hn (by rw [hm];exact hk) hl hu
 rw [hm] at hd a4
 simp only [hm] at o
 obtain ⟨N,hN⟩:∃N,l.length=N:=⟨_,rfl⟩
 rw [hN] at hd hl o ⊢
 have q1:¬((n:Int)<1):=by omega
 have q2:¬((1048576:Int)<n):=by omega
 have q3:¬((steps:Int)<0):=by omega
 have q4:¬((1048576:Int)<steps):=by omega
 have q5:¬((b:Int)<1):=by omega
 have q6:¬((n:Int)<b):=by omega
 have Z:(E:Int)*(m:Int)=((E*m:Nat):Int):=by push_cast;rfl
 have q7:¬((N:Int)<(E:Int)*(m:Int)):=by rw [Z];omega
 have q8:wrap64 ((E:Int)*(m:Int))=(E:Int)*(m:Int):=by rw [Z];unfold wrap64;omega
 obtain ⟨Q7,Q8⟩:=ae q7 q8;clear Z q7 q8;obtain ⟨HA,bG,cb,bU,Hd,Hm,HN⟩:=aj hA a2 a4 o hd hm hN;clear hA a2 a4 o hd hu hE hb bl hm hN
 have C:=(JP (w.alloc (.cells #[KL 0,KL 0,KL 0,KN] 159)) (.cells #[KL n,KL b,KL steps,KN] 159) w.heap.size (by simp)).trans (JE w _)
 have y:=JE (w.alloc (.cells #[KL 0,KL 0,KL 0,KN] 159)) (.cells #[KL n,KL b,KL steps,KN] 159)
 rw [show (w.alloc (.cells #[KL 0,KL 0,KL 0,KN] 159)).heap.size=w.heap.size+1 by simp] at y
 have hB:Below w.heap.size w ((w.alloc (.cells #[KL 0,KL 0,KL 0,KN] 159)).alloc (.cells #[KL n,KL b,KL steps,KN] 159)):=((JG _ w).alloc (JD _) _).alloc (by simp) _
 have p:((w.alloc (.cells #[KL 0,KL 0,KL 0,KN] 159)).alloc (.cells #[KL n,KL b,KL steps,KN] 159)).heap.size=w.heap.size+2:=by simp
 obtain ⟨HZ,HY,HB,ad⟩:=ag C y hB p;clear C y hB p
 go_enter Tryz.func119,Tryz.ntmps119
 go_wp2_with fail
 refine (bG.out _).mono ?_
 rintro e U ⟨rfl,rfl⟩
 clear q1 q2 q3 q4 q5 q6
 go_wp2_with fail
 refine (cb.out _).mono ?_
 rintro e U ⟨rfl,rfl⟩
 have C:=HZ.out;have y:=HY.out;have hB:=HB.out;have p:=ad.out
 generalize (w.alloc (.cells #[KL 0,KL 0,KL 0,KN] 159)).alloc (.cells #[KL n,KL b,KL steps,KN] 159)=W1 at C y hB p ⊢
 obtain ⟨b0,bh,J,i⟩:=ag C y hB p;clear C y hB p HZ HY HB ad
 have q7:=Q7.out;have q8:=Q8.out
 go_wp2_with fail
 clear q7 q8
 rw [i.out]
 have hx:=JE W1 (.cells #[.slice A N c,KL 0] 258)
 rw [i.out] at hx
 have a1:=(JP W1 (.cells #[.slice A N c,KL 0] 258) w.heap.size (by rw [i.out];omega)).trans b0.out
 have V:=(JP W1 (.cells #[.slice A N c,KL 0] 258) (w.heap.size+1) (by rw [i.out];omega)).trans bh.out
 have Y:=J.out.alloc (by rw [i.out];omega) (.cells #[.slice A N c,KL 0] 258)
 have a8:(W1.alloc (.cells #[.slice A N c,KL 0] 258)).heap.size=w.heap.size+3:=by simp [i.out]
 generalize W1.alloc (.cells #[.slice A N c,KL 0] 258)=W0 at hx a1 V Y a8 ⊢
 obtain ⟨HX,HZ,HY,HB,HS⟩:=ah hx a1 V Y a8;clear hx a1 V Y b0 bh J i W1
 go_loopw [13] (fun x wr=>∃(k:Nat) (R:Option Addr) (T:Nat) (vs:List Value),k≤E∧x=KL k∧wr.heap[w.heap.size+1]?=some (.cells #[KL n,KL b,KL steps,.slice R k T] 159 (0,0))∧
  wr.heap[w.heap.size+2]?=some (.cells #[.slice A N c,KL ((k*m:Nat):Int)] 258 (0,0))∧j1 l n (w.heap.size+3) k (.slice R k T) vs wr∧Keep (fun j=>j=w.heap.size+1∨j=w.heap.size+2) W0 wr) (fun x _=>E-(intOf x).toNat)
 case atStart=>exact ⟨0,none,0,[],JH _,rfl,HY.out,by rw [Nat.zero_mul];exact HX.out,⟨JO _ _ _ _,fun j O=>by omega⟩,Keep.refl _ _⟩
 case round=>
  obtain ⟨k,R,T,vs,hk,rfl,y,hx,hO,hK⟩:=hrel
  have a3:=hK.size
  rw [HS.out] at a3
  by_cases aG:k<E
  ·have cj:(k:Int)<E:=by omega
   have bf:Rd wr A (aq .u64 l):=GN hK HA.out (HA.out.below HB.out) (fun j O=>by omega)
   have o:=bU.out k wr (IF aG Hd.out) bf
   obtain ⟨Q,HO,HK,bI,c9⟩:=ah o hO hK y hx
   obtain ⟨⟨x0,x1⟩,xf⟩:=bx2 hx
   have bw:=JC hx
   clear o hO hK y hx bf
   go_wp2_with fail
   refine Q.out.mono ?_
   rintro e w1 ⟨v,rfl,B,u⟩
   obtain ⟨Av,cv,rfl,b3⟩:=aw B
   clear x0 x1 xf Q
   have L:=(u.block _ bw).trans c9.out
   have a5:=(u.block _ (by omega)).trans bI.out
   have b7:=HO.out.below u
   have ab:=ax B a3
   have b9:=u.size
   obtain ⟨⟨x0,x1⟩,xf⟩:=bx2 L
   have b2:=JC L
   obtain ⟨bX,b4,bs,b1,J,bn,bO⟩:=aj L a5 b7 ab u b9 b3;clear L a5 b7 ab u b9 B b3
   go_upto_region 15 with (fail)
   obtain ⟨e2,k2⟩:=Do w1 (w.heap.size+2) (.slice A N c) (KL ((k:Int)*m+m)) bX.out
   have k5:=k2.alloc (.cells #[.slice A N c,KL ((k:Int)*m+m)] 258)
   have e5:=(JP ((w1.setCell ⟨w.heap.size+2,0,none⟩ (.slice A N c)).setCell ⟨w.heap.size+2,1,none⟩ (KL ((k:Int)*m+m))) (.cells #[.slice A N c,KL ((k:Int)*m+m)] 258) (w.heap.size+2) (by simpa using b2)).trans e2
   generalize ((w1.setCell ⟨w.heap.size+2,0,none⟩ (.slice A N c)).setCell ⟨w.heap.size+2,1,none⟩ (KL ((k:Int)*m+m))).alloc (.cells #[.slice A N c,KL ((k:Int)*m+m)] 258)=W5 at k5 e5 ⊢
   have bM:=JJ (JJ a3 bn.out) k5.size
   have D:=(k5.block _ (JC b4.out) (by omega)).trans b4.out
   have a6:=bs.out.keep k5 (fun j O=>by omega)
   have b6:=k5.own b1.out (fun j O e=>by have:=(b1.out.lt j O).1;omega)
   have aP:Keep (fun j=>j=w.heap.size+1∨j=w.heap.size+2) W0 W5:=(HK.out.trans (Keep.below J.out)).trans (k5.mono fun j _ h=>.inr h)
   have a7:W5.heap[w.heap.size+2]?=some (.cells #[.slice A N c,KL ((((k+1)*m:Nat)):Int)] 258 (0,0)):=by rw [e5,Kx];push_cast;rfl
   clear x0 x1 xf e2 k2 e5 k5
   obtain ⟨⟨y0,y1,y2,y3⟩,yf⟩:=bx4 D
   obtain ⟨bV,bA,av,cd,c8⟩:=ah a7 D a6 b6 aP
   have ci:=JC D
   clear a7 D a6 b6 aP
   go_wp2_with (at_builtin;refine aQ wI W5 rfl (.tmp 72) (.tmp 74) rfl (w.heap.size+3) (.slice R k T) k vs rfl av.out.1 [.slice Av n cv] rfl rfl (by simp [Value.oneCell']) (by omega) (by unfold maxLen;omega) bM ?_)
   intro g6 c6 w6 a0 I bb
   have be:=av.out.push (by have h:=cd.out;rw [←Hm.out] at h;exact h) bO.out a0 bb
   have H:=(I.block _ (by omega)).trans bA.out
   have b8:=(I.block _ (by omega)).trans bV.out
   have aM:=c8.out.below2 (by rw [HS.out];exact I)
   have cf:g6≠w.heap.size+1:=fun e=>by
    have:=(a0.lt g6 rfl).1
    omega
   obtain ⟨⟨z0,z1,z2,z3⟩,zf⟩:=bx4 H
   have cl:=JC H
   obtain ⟨b5,bv,c7,cc⟩:=ag b8 H be aM;clear b8 H be aM a0 I bb y0 y1 y2 y3 yf cf
   go_wp2_with fail
   go_roundw
   case rel=>
    have e1:=KG w6 (w.heap.size+1) 3 _ _ (.slice (some ⟨g6,0,none⟩) (k+1) c6) bv.out
    have k1:Keep (fun j=>j=w.heap.size+1) w6 (w6.setCell ⟨w.heap.size+1,3,none⟩ (.slice (some ⟨g6,0,none⟩) (k+1) c6)):=Keep.setCell (S:=fun j=>j=w.heap.size+1) (Keep.refl _ _) _ (.inr rfl) _
    exact ⟨k+1,some ⟨g6,0,none⟩,c6,_,aG,by go_num,by simpa using e1,(k1.block _ (JC b5.out) (by omega)).trans b5.out,c7.out.keep k1 (fun j O=>by omega),cc.out.trans (k1.mono fun j _ h=>.inl h)⟩
   case measure=>simp [intOf];omega
  ·obtain rfl:E=k:=by omega
   have C:=(hK.block _ (by rw [HS.out];omega) (by omega)).trans HZ.out
   have X:Below w.heap.size w wr:=HB.out.trans (hK.toBelow (by rw [HS.out];omega) (fun j O=>by omega))
   obtain ⟨e4,k4⟩:=Dn wr w.heap.size (KL n) (KL b) (KL steps) (.slice R E T) C
   have ao:=(hO.keep k4 (fun j O=>by omega)).base (show w.heap.size≤w.heap.size+3 by omega)
   have bi:Below w.heap.size w ((((wr.setCell ⟨w.heap.size,0,none⟩ (KL n)).setCell ⟨w.heap.size,1,none⟩ (KL b)).setCell ⟨w.heap.size,2,none⟩ (KL steps)).setCell ⟨w.heap.size,3,none⟩ (.slice R E T)):=X.trans (k4.toBelow X.size (fun j O=>by omega))
   obtain ⟨⟨y0,y1,y2,y3⟩,yf⟩:=bx4 y
   obtain ⟨⟨z0,z1,z2,z3⟩,zf⟩:=bx4 C
   obtain ⟨E4,bo,bN⟩:=af e4 ao bi;clear e4 k4 ao bi hO hK hx y C X
   go_wp2_with fail
   have e3:=E4.out
   have bd:=bo.out
   have aR:=bN.out
   generalize ((((wr.setCell ⟨w.heap.size,0,none⟩ (KL n)).setCell ⟨w.heap.size,1,none⟩ (KL b)).setCell ⟨w.heap.size,2,none⟩ (KL steps)).setCell ⟨w.heap.size,3,none⟩ (.slice R E T))=W9 at e3 bd aR ⊢
   clear y0 y1 y2 y3 yf z0 z1 z2 z3 zf
   obtain ⟨⟨r0,r1,r2,r3⟩,rf⟩:=bx4 e3
   exact JQ (v:=.tuple #[.agg #[KL n,KL b,KL steps,.slice R E T],KL 0]) (by simp [results,Tryz.results119,go_sem,r0,r1,r2,r3]) rfl ⟨_,_,rfl,⟨_,bd⟩,aR⟩
def epI (i:Inp):Nat:=epN i.data.length i.cfg.batch.toNat i.cfg.steps.toNat
def CW (i:Inp) (w:World) (e:Ending) (j:World):Prop:=∃A c,e=.returned (.agg #[KL i.data.length,KL i.cfg.batch,KL i.cfg.steps,.slice A (epI i) c])∧(∃vs,j1 i.draws i.data.length w.heap.size (epI i) (.slice A (epI i) c) vs j)∧Below w.heap.size w j
theorem uZ (A:Option Addr) (c:Nat) (D:Option Addr) (cd:Nat) (T:Option Addr) (ct:Nat) (R:Option Addr) (O:Nat) (i:Inp) (w:World) (hg:kQ i) (hR:Rd w R (aq .u64 i.draws)) (V:i.draws.length≤1048576) (hu:U64 i.draws):
  Calls Tryz.prog 70 #[.agg (aH A c D cd T ct R O i)] w (CW i w):=by
 have a0:=hg.b
 have Q:=hg.d
 have a3:1≤i.cfg.batch:=by have:=hg.c.w;have:=hg.c.ba;omega
 have a1:=hg.c.st
 have y:=fun w' (q:Below w.heap.size w w')=>xT i.data.length i.cfg.batch.toNat i.cfg.steps.toNat (epI i) O R i.draws w' (hR.below q) V hu (by omega) (by omega) a0.2 (by omega) rfl Q
 rw [Int.toNat_of_nonneg (show 0≤i.cfg.batch by omega),Int.toNat_of_nonneg (show 0≤i.cfg.steps by omega)] at y
 have H:(w.alloc (.cells (aH A c D cd T ct R O i) 29)).heap.size=w.heap.size+1:=by simp
 have X:=kJ w (aH A c D cd T ct R O i) 29 rfl
 have Y:Below w.heap.size w (w.alloc (.cells (aH A c D cd T ct R O i) 29)):=(JG _ w).alloc (JD _) _
 have p:=fw X (.cells #[KL 0,KL 0,KL 0,KN] 159)
 have x:=kJ _ #[KL 0,KL 0,KL 0,KN] 159 H
 have o:=Y.alloc (by rw [H];omega) (.cells #[KL 0,KL 0,KL 0,KN] 159)
 obtain ⟨W1,I⟩:∃W1,W1=(w.alloc (.cells (aH A c D cd T ct R O i) 29)).alloc (.cells #[KL 0,KL 0,KL 0,KN] 159):=⟨_,rfl⟩
 rw [←I] at p x o
 have Hq:=aa (show 0≤i.cfg.batch∧0≤i.cfg.steps by omega)
 obtain ⟨HX,HY,HB,Z⟩:=ag p x o y;clear X p x o y Y H a0 Q a3 a1 hu V hR hg
 dsimp only [aH] at I
 go_enter Tryz.func70,Tryz.ntmps70
 dsimp only [aH]
 go_wp2_with fail
 rw [←I]
 refine (Z.out W1 HB.out).mono ?_
 rintro e w2 ⟨N,c2,rfl,⟨vs,hO⟩,o⟩
 have C:=(o.block _ (JC HY.out)).trans HY.out
 have L:=HB.out.trans (o.mono HB.out.size)
 rw [Int.toNat_of_nonneg Hq.out.1,Int.toNat_of_nonneg Hq.out.2]
 obtain ⟨e4,k4⟩:=Dn w2 (w.heap.size+1) (KL i.data.length) (KL i.cfg.batch) (KL i.cfg.steps) (.slice N (epI i) c2) C
 have U:=fw e4 (.cells #[KL i.data.length,KL i.cfg.batch,KL i.cfg.steps,.slice N (epI i) c2] 159)
 have J:=L.trans (k4.toBelow L.size (fun j hj=>by omega))
 have B:=J.alloc J.size (.cells #[KL i.data.length,KL i.cfg.batch,KL i.cfg.steps,.slice N (epI i) c2] 159)
 have u:=((hO.keep k4 (fun j hj=>by have:=JC HY.out;omega)).base HB.out.size).below ((JG _ _).alloc (JD _) (.cells #[KL i.data.length,KL i.cfg.batch,KL i.cfg.steps,.slice N (epI i) c2] 159))
 have ly:=JC C
 obtain ⟨⟨y0,y1,y2,y3⟩,yf⟩:=bx4 C
 obtain ⟨E5,a2,a4⟩:=af U B u;clear e4 k4 U J B u hO o L C
 go_wp2_with fail
 have U:=E5.out;have B:=a2.out;have u:=a4.out
 generalize ((((w2.setCell ⟨w.heap.size+1,0,none⟩ (KL i.data.length)).setCell ⟨w.heap.size+1,1,none⟩ (KL i.cfg.batch)).setCell ⟨w.heap.size+1,2,none⟩ (KL i.cfg.steps)).setCell ⟨w.heap.size+1,3,none⟩ (.slice N (epI i) c2)).alloc (.cells #[KL i.data.length,KL i.cfg.batch,KL i.cfg.steps,.slice N (epI i) c2] 159)=W9 at U B u ⊢
 clear y0 y1 y2 y3 yf
 obtain ⟨⟨r0,r1,r2,r3⟩,rf⟩:=bx4 U
 exact JQ (v:=.agg #[KL i.data.length,KL i.cfg.batch,KL i.cfg.steps,.slice N (epI i) c2]) (by simp [results,Tryz.results70,go_sem,r0,r1,r2,r3]) rfl ⟨_,_,rfl,⟨_,u⟩,B⟩
def Jf (ra p q:Int) (P M g:List Int) (b B k:Nat) (u w:World):Prop:=∃A1 c1 o c2,w.heap[b]?=some (.cells #[.slice A1 k c1,.slice o k c2] 39 (0,0))∧
 w.ownsRow B 2 1 (.slice A1 k c1) k (aq .i64 (dh k fun j=>kR ra q (nth P j) (eD p q (nth M j) (nth g j))))∧
 w.ownsRow B 2 1 (.slice o k c2) k (aq .i64 (dh k fun j=>eD p q (nth M j) (nth g j)))∧
 (∀i,(Value.slice A1 k c1).ownBlock=some i→(Value.slice o k c2).ownBlock≠some i)∧Keep (fun j=>j=b) u w
theorem Ja {n k:Nat} (h:k<n):(k:Int)<n:=by omega
theorem Jo {n k:Nat} (h:k<n):n-(k+1)<n-k:=by omega
def CX (ra j q:Int) (P M g:List Int) (n:Nat) (w:World) (e:Ending) (i:World):Prop:=∃A1 c1 o c2,e=.returned (.tuple #[.agg #[.slice A1 n c1,.slice o n c2],.bool true])∧
 i.ownsRow w.heap.size 2 1 (.slice A1 n c1) n (aq .i64 (vI ra j q P M g))∧i.ownsRow w.heap.size 2 1 (.slice o n c2) n (aq .i64 (vJ j q M g))∧Below w.heap.size w i
theorem vb (ra C q:Int) (A B G:Option Addr) (P M g:List Int) (n ca cb cg:Nat) (w:World) (hA:Rd w A (aq .i64 P)) (hB:Rd w B (aq .i64 M)) (hG:Rd w G (aq .i64 g)) (hP:P.length=n) (hM:M.length=n) (hg:g.length=n) (hn:n≤1048576) (wM:W64 M) (bN: -9223372036854775808≤ra∧ra≤9223372036854775807) (bI: -9223372036854775808≤C∧C≤9223372036854775807):
  Calls Tryz.prog 80 #[.agg #[KL ra,KL C,KL q],.agg #[.slice A n ca,.slice B n cb],.slice G n cg] w (CX ra C q P M g n w):=by
 have cd:=fun k y=>qI C (nth M k) q y bI (wM.nth k)
 have a1:=fun x y (hx: -9223372036854775808≤x∧x≤9223372036854775807)=>qI ra x q y bN hx
 obtain ⟨cx,HB,HG,HP,HM,Hg,cl,co⟩:=ak hA hB hG hP hM hg cd a1;clear hA hB hG hP hM hg wM bN bI cd a1
 go_enter Tryz.func80,Tryz.ntmps80
 go_wp2_with fail
 have s1:=hZ (w:=w) rfl (.cells #[KL ra,KL C,KL q] 168)
 have r1:=kJ w #[KL ra,KL C,KL q] 168 rfl
 have b1:Below w.heap.size w (w.alloc (.cells #[KL ra,KL C,KL q] 168)):=(JG _ w).alloc (JD _) _
 generalize w.alloc (.cells #[KL ra,KL C,KL q] 168)=W1 at s1 r1 b1 ⊢
 have s2:=hZ s1 (.cells #[.slice A n ca,.slice B n cb] 39)
 have r2:=fw r1 (.cells #[.slice A n ca,.slice B n cb] 39)
 have t2:=kJ W1 #[.slice A n ca,.slice B n cb] 39 s1
 have b2:=b1.alloc (by omega) (.cells #[.slice A n ca,.slice B n cb] 39)
 generalize W1.alloc (.cells #[.slice A n ca,.slice B n cb] 39)=W2 at s2 r2 t2 b2 ⊢
 clear s1 r1 b1
 have s3:=hZ s2 (.cells #[KN,KN] 39)
 have r3:=fw r2 (.cells #[KN,KN] 39)
 have t3:=fw t2 (.cells #[KN,KN] 39)
 have u3:=kJ W2 #[KN,KN] 39 s2
 have b3:=b2.alloc (by omega) (.cells #[KN,KN] 39)
 generalize W2.alloc (.cells #[KN,KN] 39)=W3 at s3 r3 t3 u3 b3 ⊢
 clear s2 r2 t2 b2
 have s4:=hZ s3 (.cells #[KN,KN] 39)
 have r4:=fw r3 (.cells #[KN,KN] 39)
 have t4:=fw t3 (.cells #[KN,KN] 39)
 have u4:=fw u3 (.cells #[KN,KN] 39)
 have v4:=kJ W3 #[KN,KN] 39 s3
 have b4:=b3.alloc (by omega) (.cells #[KN,KN] 39)
 generalize W3.alloc (.cells #[KN,KN] 39)=W0 at s4 r4 t4 u4 v4 b4 ⊢
 clear s3 r3 t3 u3 b3
 obtain ⟨S4,R4,T4,U4,V4,B4⟩:=ai s4 r4 t4 u4 v4 b4;clear s4 r4 t4 u4 v4 b4
 go_loopw [9] (fun x wr=>∃k:Nat,k≤n∧x=KL k∧Jf ra C q P M g (w.heap.size+1+1+1) (w.heap.size+4) k W0 wr) (fun x _=>n-(intOf x).toNat)
 case atStart=>exact ⟨0,JH _,rfl,none,0,none,0,V4.out,JO _ _ _ _,JO _ _ _ _,fun i h=>by simp [Value.ownBlock] at h,Keep.refl _ _⟩
 case round=>
  obtain ⟨k,hk,rfl,A1,c1,A2,c2,hv,a6,a4,b8,H⟩:=hrel
  have bl:=H.size
  rw [S4.out] at bl
  by_cases R:k<n
  ·have d0:=Ja R
   have bn:=(H.block _ (by rw [S4.out];omega) (by omega)).trans R4.out
   have bb:=(H.block _ (by rw [S4.out];omega) (by omega)).trans T4.out
   obtain ⟨ba,oa,rfl,pa⟩:=cx.out.num (show k<P.length by rw [HP.out];exact R)
   obtain ⟨bm,om,rfl,pm⟩:=HB.out.num (show k<M.length by rw [HM.out];exact R)
   obtain ⟨bg,og,rfl,pg⟩:=HG.out.num (show k<g.length by rw [Hg.out];exact R)
   have la:ba<w.heap.size:=ar pa
   have lm:bm<w.heap.size:=ar pm
   have lg:bg<w.heap.size:=ar pg
   have pa:=H.cell (B4.out.cell (p:=⟨ba,oa+k,none⟩) la |>.trans pa) (by dsimp only;omega)
   have pm:=H.cell (B4.out.cell (p:=⟨bm,om+k,none⟩) lm |>.trans pm) (by dsimp only;omega)
   have pg:=H.cell (B4.out.cell (p:=⟨bg,og+k,none⟩) lg |>.trans pg) (by dsimp only;omega)
   obtain ⟨⟨x0,x1,x2⟩,xf⟩:=bx3 bn
   obtain ⟨⟨y0,y1⟩,yf⟩:=bx2 bb
   obtain ⟨HV,bw,ct,bU,HK,bv,cy,cr⟩:=ak hv a6 a4 b8 H bl bn bb;have cA:=aa pa;clear hv a6 a4 b8 H bn bb bl pa
   go_wp2_with fail
   have u:(fun y:World=>y.cell? ⟨w.heap.size,1,none⟩=some (KL C)∧y.cell? ⟨w.heap.size,2,none⟩=some (KL q)∧y.cell? ⟨w.heap.size+1,1,none⟩=some (.slice (some ⟨bm,om,none⟩) n cb)∧y.cell? ⟨bm,om+k,none⟩=some (KL (nth M k))∧y.cell? ⟨bg,og+k,none⟩=some (KL (nth g k))) wr.drew:=⟨x1,x2,y1,pm,pg⟩
   refine HA.g (fun y:World=>y.cell? ⟨w.heap.size,1,none⟩=some (KL C)∧y.cell? ⟨w.heap.size,2,none⟩=some (KL q)∧y.cell? ⟨w.heap.size+1,1,none⟩=some (.slice (some ⟨bm,om,none⟩) n cb)∧y.cell? ⟨bm,om+k,none⟩=some (KL (nth M k))∧y.cell? ⟨bg,og+k,none⟩=some (KL (nth g k))) ?_
   refine HA.t ?_ [0,1,2,3,4,5,6,7,8,10,11,12,13] u ?_
   refine HA.o 9 (fun K H=>?_)
   go_simp
   refine (cl.out k _).mono ?_
   rintro e w9 ⟨rfl,rfl⟩
   dsimp only
   refine H.out _ _ u (fun u=>?_)
   clear H K
   refine HA.t ?_ [14,15] u ?_
   refine HA.d ?_
   clear u pm pg x0 x1 x2 xf y0 y1 yf
   have bf: -9223372036854775808≤eD C q (nth M k) (nth g k)∧eD C q (nth M k) (nth g k)≤9223372036854775807:=gH _
   have bi:IntKind.i64.wrap (eL C (nth M k) q+nth g k)=eD C q (nth M k) (nth g k):=by rw [IntKind.wrap_i64];unfold eD wrap64;rfl
   obtain ⟨mv,a2⟩:∃mv,eD C q (nth M k) (nth g k)=mv:=⟨_,rfl⟩
   rw [a2] at bf bi
   rw [bi]
   have a1:=co.out mv
   obtain ⟨cv,b5,cw⟩:=af bf a2 a1
   have hv:=HV.out
   obtain ⟨⟨z0,z1⟩,zf⟩:=bx2 hv
   have cO:=JC hv
   clear a1 bf a2 hv bi
   have d2:=JJ bv.out (JD _)
   go_wp2_with (at_builtin;refine dX ip _ rfl (.tmp 49) (.tmp 51) rfl (w.heap.size+4) (.slice A2 k c2) k _ rfl (ct.out.alloc _) (some ⟨wr.heap.size,0,none⟩) 1 1 [KL mv] rfl (dZ wr _ _ _ rfl) rfl (by simp [Value.oneCell']) (by omega) (by unfold maxLen;omega) (by simp;omega) ?_)
   intro Z c7 w7 a3 ci bM c6
   have a3:w7.ownsRow (w.heap.size+4) 2 1 (.slice Z (k+1) c7) (k+1) (aq .i64 (dh (k+1) fun j=>eD C q (nth M j) (nth g j))):=by rw [gK,cD,b5.out];exact a3
   have D:Below (w.heap.size+4) wr w7:=(((JG _ wr).alloc (by omega) _).drew).trans ci
   have be:w7.ownsRow (w.heap.size+4) 2 1 (.slice A1 k c1) k (aq .i64 (dh k fun j=>kR ra q (nth P j) (eD C q (nth M j) (nth g j)))):=by
    refine (bC (bw.out.alloc (.cells #[KL mv] 2)) 1).kept bM ?_
    cases hu:(Value.slice A1 k c1).ownBlock with
    | none=>exact .inl rfl
    | some i=>exact .inr fun e=>bU.out i hu e.symm
   have aP:∀i,(Value.slice A1 k c1).ownBlock=some i→(Value.slice Z (k+1) c7).ownBlock≠some i:=fun i hi e=>by
    rcases c6 with h | h
    ·exact bU.out i hi (h.symm.trans e)
    ·have h1:=(bw.out.lt i hi).2
     rw [h] at e;injection e with e;omega
   have N:=(D.block _ (by omega)).trans HV.out
   have ab:=(D.block _ (by omega)).trans cy.out
   have bh:=(D.block _ (by omega)).trans cr.out
   have bV:=(D.cell (p:=⟨ba,oa+k,none⟩) (by dsimp only;omega)).trans cA.out
   have bO:=HK.out.below2 (D.mono (by rw [S4.out];omega))
   have T:=Keep.setCell (S:=fun j=>j=w.heap.size+1+1+1) bO ⟨w.heap.size+1+1+1,1,none⟩ (.inr rfl) (.slice Z (k+1) c7)
   have V:Keep (fun j=>j=w.heap.size+1+1+1) w7 (w7.setCell ⟨w.heap.size+1+1+1,1,none⟩ (.slice Z (k+1) c7)):=Keep.setCell (S:=fun j=>j=w.heap.size+1+1+1) (Keep.refl _ _) _ (.inr rfl) _
   have I:=KG w7 (w.heap.size+1+1+1) 1 _ _ (.slice Z (k+1) c7) N
   have U:=(V.block _ (JC ab) (by omega)).trans ab
   have X:=(V.block _ (JC bh) (by omega)).trans bh
   have a5:=V.cell bV (by dsimp only;omega)
   have Y:=V.own be (fun j Q e=>by have:=(be.lt j Q).1;omega)
   have O:=V.own a3 (fun j Q e=>by have:=(a3.lt j Q).1;omega)
   obtain ⟨⟨z0,z1⟩,zf⟩:=bx2 N
   have b7:=JC N
   obtain ⟨cs,b6,aG,ao,cj,bA,bo,ad⟩:=ak D aP T I U X a5 Y;have a0:=aa O;clear D be aP N ab bh bV bO T V I U X a5 Y O a3 ci bM c6
   go_wp2_with fail
   have I:=ao.out;have U:=cj.out;have X:=bA.out;have a5:=bo.out;have Y:=ad.out;have O:=a0.out;have T:=aG.out
   have bz:w7.heap.size=(w7.setCell ⟨w.heap.size+1+1+1,1,none⟩ (.slice Z (k+1) c7)).heap.size:=by simp
   clear z0 z1 zf ao cj bA bo ad a0 aG
   have c8:=JJ bv.out cs.out.size
   rw [bz] at b7 c8
   generalize w7.setCell ⟨w.heap.size+1+1+1,1,none⟩ (.slice Z (k+1) c7)=w8 at I U X a5 Y O T b7 c8 ⊢
   clear bz
   have I:w8.heap[w.heap.size+1+1+1]?=some (.cells #[.slice A1 k c1,.slice Z (k+1) c7] 39 (0,0)):=by simpa using I
   obtain ⟨⟨x0,x1,x2⟩,xf⟩:=bx3 U
   obtain ⟨⟨y0,y1⟩,yf⟩:=bx2 X
   obtain ⟨⟨z0,z1⟩,zf⟩:=bx2 I
   obtain ⟨ao,ad,a0,aG⟩:=ag I Y O T;clear I U X Y O T
   have u:(fun y:World=>y.cell? ⟨w.heap.size,0,none⟩=some (KL ra)∧y.cell? ⟨w.heap.size,2,none⟩=some (KL q)∧y.cell? ⟨w.heap.size+1,0,none⟩=some (.slice (some ⟨ba,oa,none⟩) n ca)∧y.cell? ⟨ba,oa+k,none⟩=some (KL (nth P k))∧y.cell? ⟨w.heap.size+1+1+1,0,none⟩=some (.slice A1 k c1)) w8.drew:=⟨x0,x2,y0,a5,z0⟩
   refine XA.g 16 (fun y:World=>y.cell? ⟨w.heap.size,0,none⟩=some (KL ra)∧y.cell? ⟨w.heap.size,2,none⟩=some (KL q)∧y.cell? ⟨w.heap.size+1,0,none⟩=some (.slice (some ⟨ba,oa,none⟩) n ca)∧y.cell? ⟨ba,oa+k,none⟩=some (KL (nth P k))∧y.cell? ⟨w.heap.size+1+1+1,0,none⟩=some (.slice A1 k c1)) ?_
   refine XA.t ?_ [0,1,2,3,4,5,6,7,8,9,10,11] u ?_
   refine XA.o 12 (fun K H=>?_)
   go_simp
   refine (cw.out w8.drew cv.out).mono ?_
   rintro e w9 ⟨rfl,rfl⟩
   dsimp only
   refine H.out _ _ u (fun u=>?_)
   clear H K
   refine XA.t ?_ [13] u ?_
   refine XA.o 14 (fun K H=>?_)
   go_simp
   refine H.out _ _ ⟨aA u.1 _,aA u.2.1 _,aA u.2.2.1 _,aA u.2.2.2.1 _,aA u.2.2.2.2 _⟩ (fun u=>?_)
   clear H K
   refine XA.o 15 (fun K H=>?_)
   refine bF ip (.tmp 55) (.tmp 68) rfl rfl (w.heap.size+4) (.slice A1 k c1) k _ rfl (bC (ad.out.alloc _) 1) (some ⟨w8.heap.size,0,none⟩) 1 1 [KL (IntKind.i64.wrap (nth P k-eL ra mv q))] rfl (dZ w8 _ _ _ rfl) rfl (by simp [Value.oneCell']) (by omega) (by unfold maxLen;omega) (by simp;omega) ?_
   intro A9 c9 w9 a7 J cf cc
   have a8:Below (w.heap.size+4) w8 w9:=(((JG _ w8).alloc (by omega) _).drew).trans J
   have bs:=JL ((J.cell (p:=⟨w.heap.size,0,none⟩) (by dsimp only;omega)).trans u.1) (JL ((J.cell (p:=⟨w.heap.size,2,none⟩) (by dsimp only;omega)).trans u.2.1) (JL ((J.cell (p:=⟨w.heap.size+1,0,none⟩) (by dsimp only;omega)).trans u.2.2.1) (JL ((J.cell (p:=⟨ba,oa+k,none⟩) (by dsimp only;omega)).trans u.2.2.2.1) ((J.cell (p:=⟨w.heap.size+1+1+1,0,none⟩) (by dsimp only;omega)).trans u.2.2.2.2))))
   have bX:IntKind.i64.wrap (nth P k-eL ra mv q)=kR ra q (nth P k) (eD C q (nth M k) (nth g k)):=by rw [IntKind.wrap_i64,b5.out];unfold kR wrap64;rfl
   have a7:w9.ownsRow (w.heap.size+4) 2 1 (.slice A9 (k+1) c9) (k+1) (aq .i64 (dh (k+1) fun j=>kR ra q (nth P j) (eD C q (nth M j) (nth g j)))):=by rw [gK,cD,←bX];exact a7
   have b9:w9.ownsRow (w.heap.size+4) 2 1 (.slice Z (k+1) c7) (k+1) (aq .i64 (dh (k+1) fun j=>eD C q (nth M j) (nth g j))):=by
    refine (bC (a0.out.alloc (.cells #[KL (IntKind.i64.wrap (nth P k-eL ra mv q))] 2)) 1).kept cf ?_
    cases hu:(Value.slice Z (k+1) c7).ownBlock with
    | none=>exact .inl rfl
    | some i=>exact .inr fun e=>b6.out i e.symm hu
   have aR:∀i,(Value.slice A9 (k+1) c9).ownBlock=some i→(Value.slice Z (k+1) c7).ownBlock≠some i:=fun i hi e=>by
    rcases cc with h | h
    ·exact b6.out i (h.symm.trans hi) e
    ·have h1:=(a0.out.lt i e).2
     rw [h] at hi;injection hi with hi;simp at hi;omega
   have aM:=(a8.block _ (by omega)).trans ao.out
   have bG:=aG.out.below2 (a8.mono (by rw [S4.out];omega))
   have b0:=KG w9 (w.heap.size+1+1+1) 0 _ _ (.slice A9 (k+1) c9) aM
   have L:Keep (fun j=>j=w.heap.size+1+1+1) w9 (w9.setCell ⟨w.heap.size+1+1+1,0,none⟩ (.slice A9 (k+1) c9)):=Keep.setCell (S:=fun j=>j=w.heap.size+1+1+1) (Keep.refl _ _) _ (.inr rfl) _
   have hI:Jf ra C q P M g (w.heap.size+1+1+1) (w.heap.size+4) (k+1) W0 (w9.setCell ⟨w.heap.size+1+1+1,0,none⟩ (.slice A9 (k+1) c9)):=
    ⟨A9,c9,Z,c7,by simpa using b0,L.own a7 (fun j Q e=>by have:=(a7.lt j Q).1;omega),L.own b9 (fun j Q e=>by have:=(b9.lt j Q).1;omega),aR,bG.trans L⟩
   have HI:=aa hI;clear x0 x1 x2 xf y0 y1 yf z0 z1 zf
   obtain ⟨⟨z0,z1⟩,zf⟩:=bx2 aM
   have d3:=JC aM
   clear a7 J cf cc a8 bX b9 aR aM bG b0 L hI u
   dsimp only
   refine H.out _ _ bs (fun u=>?_)
   clear H K bs u
   refine XA.e ?_
   simp only [Kc,Ke]
   go_wp2_with fail
   go_roundw
   case rel=>exact ⟨k+1,R,by go_num,HI.out⟩
   case measure=>exact Jo R
  ·obtain rfl:n=k:=by omega
   have av:=(H.block _ (by rw [S4.out];omega) (by omega)).trans U4.out
   have bd:Below w.heap.size w wr:=B4.out.trans (H.toBelow (by rw [S4.out];omega) (fun j Q=>by omega))
   obtain ⟨e2,k2⟩:=Do wr (w.heap.size+1+1) (.slice A1 n c1) (.slice A2 n c2) av
   have h1:=ax (base':=w.heap.size) (k2.own a6 (fun j Q e=>by have:=(a6.lt j Q).1;omega)) (by omega)
   have h2:=ax (base':=w.heap.size) (k2.own a4 (fun j Q e=>by have:=(a4.lt j Q).1;omega)) (by omega)
   have h3:=bd.trans (k2.toBelow bd.size (fun j Q=>by omega))
   obtain ⟨⟨y0,y1⟩,yf⟩:=bx2 hv
   obtain ⟨⟨z0,z1⟩,zf⟩:=bx2 av
   obtain ⟨E2,F1,F2,F3⟩:=ag e2 h1 h2 h3
   have cO:=JC hv
   have d1:=JC av
   clear e2 k2 h1 h2 h3 a6 a4 H hv av bd b8
   go_wp2_with fail
   have e3:=E2.out;have h1:=F1.out;have h2:=F2.out;have h3:=F3.out
   generalize (wr.setCell ⟨w.heap.size+1+1,0,none⟩ (.slice A1 n c1)).setCell ⟨w.heap.size+1+1,1,none⟩ (.slice A2 n c2)=W9 at e3 h1 h2 h3 ⊢
   clear y0 y1 yf z0 z1 zf
   obtain ⟨⟨r0,r1⟩,rf⟩:=bx2 e3
   exact JQ (v:=.tuple #[.agg #[.slice A1 n c1,.slice A2 n c2],.bool true]) (by simp [results,Tryz.results80,go_sem,r0,r1]) rfl ⟨_,_,_,_,rfl,by unfold vI;rw [HP.out];exact h1,by unfold vJ;rw [HM.out];exact h2,h3⟩
theorem yk (n b steps t E c:Nat) (A:Option Addr) (l:List Int) (w:World) (hA:cE yo 1 w A (iF l n E)) (hb:1≤b) (H:b≤n) (hn:n≤1048576) (Q:steps≤1048576) (ht:t<steps) (V:E=epN n b steps):
  Calls Tryz.prog 79 #[.agg #[KL n,KL b,KL steps,.slice A E c],KL t] w fun e I=>∃A c,e=.returned (.slice A b c)∧b≤c∧Rd I A (aq .i64 (db l n b t))∧Below w.heap.size w I:=by
 have aP:1≤n/b:=Nat.div_pos H hb
 have p:=fun I=>yb n b steps t c A E I ⟨hb,H⟩ hn Q ht
 have x:t/(n/b)<E:=by rw [V];exact wJ ht
 have a7:E≤steps:=by rw [V];exact fu _ _
 have B:db l n b t=((fz l n ((t/(n/b))*(n-1))).drop (t%(n/b)*b)).take b:=rfl
 have D:t%(n/b)*b+b≤n:=nh n b _ (Nat.mod_lt _ (by omega))
 rw [B]
 have hx:=qQ l n x
 obtain ⟨pl,q⟩:∃pl,fz l n ((t/(n/b))*(n-1))=pl:=⟨_,rfl⟩
 have Y:pl.length=n:=by rw [←q];exact iN _ _ _
 rw [q] at hx ⊢
 obtain ⟨O,y⟩:∃O,t/(n/b)=O:=⟨_,rfl⟩
 obtain ⟨N,C⟩:∃N,t%(n/b)=N:=⟨_,rfl⟩
 rw [y] at p x hx
 rw [C] at p D ⊢
 obtain ⟨lo,v⟩:∃lo,N*b=lo:=⟨_,rfl⟩
 rw [v] at D ⊢
 obtain ⟨L,X,A1,c1,rfl,aM,q2,R,U,h9⟩:=Bp hA hx
 rw [Y] at h9 U q2
 obtain ⟨bg,og,rfl,q3⟩:=R.num (show 0<pl.length by omega)
 have ad:(O:Int)<E:=by omega
 have Z:(lo:Int)≤((lo+b:Nat):Int):=by omega
 have a8:lo+b≤c1:=by omega
 have a1:(N:Int)*b=(lo:Int):=by rw [←v];push_cast;rfl
 obtain ⟨T,K3⟩:=ae p R;clear p R V y C v q hA B q3 hx
 have J:=JE w (.cells #[KL n,KL b,KL steps,.slice (some ⟨L,X,none⟩) E c] 159)
 have o:Below w.heap.size w (w.alloc (.cells #[KL n,KL b,KL steps,.slice (some ⟨L,X,none⟩) E c] 159)):=(JG _ w).alloc (JD _) _
 go_enter Tryz.func79,Tryz.ntmps79
 obtain ⟨W0,hW0⟩:∃W0,W0=w.alloc (.cells #[KL n,KL b,KL steps,.slice (some ⟨L,X,none⟩) E c] 159):=⟨_,rfl⟩
 go_wp2_with fail
 rw [←hW0] at J o ⊢
 clear hW0
 refine (T.out _).mono ?_
 rintro e w1 ⟨rfl,i⟩
 have u:=(i.block _ (JC J)).trans J
 have j:=o.trans (i.mono o.size)
 have aG:=am j q2
 have hbs:L<w1.heap.size:=by have:=j.size;omega
 have a6:=JC u
 obtain ⟨⟨y0,y1,y2,y3⟩,yf⟩:=bx4 u
 have HB:=aa j;clear q2 J o i u j Z
 go_upto_region 4 with (fail)
 have a2:IntKind.i64.wrap ((lo:Int)+b)=(lo:Int)+b:=JI _ (by omega)
 have a0:IntKind.i64.wrap (lo:Int)=(lo:Int):=JI _ (by omega)
 have ab:(lo:Int)+b≤c1:=by omega
 have av:((lo:Int)+b).toNat=lo+b:=by omega
 have a5:(0:Int)≤(lo:Int)+b:=by omega
 have ao:(lo:Int)≤(lo:Int)+b:=by omega
 have a4:lo+b-lo=b:=by omega
 have a3:¬(lo+b=lo):=by omega
 go_quiet (fail)
 go_wp2_with fail
 go_ret
 refine ⟨_,_,rfl,?_,?_,JN HB.out _⟩
 ·omega
 ·have:=(((K3.out.below HB.out).drewN nq).drop lo).take b
  rwa [cV,cK] at this
theorem kE:dq Tryz.prog 40 39 (.agg #[KN,KN]) 2 48:=⟨Tryz.underlying40,info_parts (by kernel_rfl),rfl,by decide⟩
def rS (w wr:World) (l:List Ex) (k:Nat) (v:Value):Prop:=∃i,wr.ownsRow w.heap.size 39 2 v k (List.flatten i)∧i.length=k∧(∀r∈i,r.length=2)∧(∀j x,j<k→l[j]?=some x→rEx w (bq i j) x)∧Below w.heap.size w wr
theorem rS.push {w A u:World} {l:List Ex} {k:Nat} {v' p o:Value} {x:Ex} {i:List (List Value)} (v:i.length=k) (H:∀r∈i,r.length=2) (C:∀j x,j<k→l[j]?=some x→rEx w (bq i j) x) (D:Below w.heap.size w A)
  (hx:l[k]?=some x) (hu:rEx w [p,o] x) (B:u.ownsRow w.heap.size 39 2 v' (k+1) (List.flatten i++[p,o])) (I:Below w.heap.size A u):rS w u l (k+1) v':=by
 refine ⟨i++[[p,o]],by rw [Kr,List.flatten_cons,List.flatten_nil,List.append_nil];exact B,by simp [v],?_,?_,D.trans I⟩
 ·intro r hr
  rcases Kv.1 hr with hr | hr
  ·exact H r hr
  ·rw [List.mem_singleton.1 hr];rfl
 ·intro j y J q
  rcases JR j k with h | h
  ·have e:bq (i++[[p,o]]) j=bq i j:=by simp [bq,Ki (show j<i.length by omega)]
   rw [e];exact C j y h q
  ·obtain rfl:j=k:=by omega
   rw [hx] at q;injection q with q;subst q
   have e:bq (i++[[p,o]]) j=[p,o]:=by rw [←v];simp [bq]
   rw [e];exact hu
theorem rS.rd {w wr:World} {l:List Ex} {n c:Nat} {A:Option Addr} (h:rS w wr l n (.slice A n c)) (hn:l.length=n):cE rEx 2 wr A l:=by
 obtain ⟨i,h1,u,q,o,p⟩:=h
 exact ⟨i,Rd.own h1,by omega,q,fun j x hx=>cY p (o j x (by rw [←hn];exact (Kg.1 hx).1) hx)⟩
theorem CP (A:Option Addr) (l:List Ex) (c:Nat) (w:World) (h:cE rEx 2 w A l) (hl:l.length≤1048577):
  Calls Tryz.prog 30 #[.slice A l.length c] w fun e w'=>∃A' c',e=.returned (.slice A' l.length c')∧cE rEx 2 w' A' l∧Below w.heap.size w w':=by
 obtain ⟨n,hn⟩:∃n,l.length=n:=⟨_,rfl⟩
 rw [hn] at hl ⊢
 obtain ⟨H,Hn⟩:=ae h hn;clear h hn
 go_enter Tryz.func30,Tryz.ntmps30
 go_wp2_with fail
 go_loopw [3,8] (fun v i wr=>∃k:Nat,k≤n∧i=KL k∧rS w wr l k v) (fun _ i _=>n-(intOf i).toNat)
 case atStart=>exact ⟨0,JH _,rfl,[],JO _ _ _ _,rfl,by simp,fun j x hj=>by omega,JG _ _⟩
 case round=>
  obtain ⟨k,hk,rfl,R,h1,h2,h3,h4,Y⟩:=hrel
  obtain ⟨Al,cl,rfl,_⟩:=aw h1
  obtain ⟨R1,R2,R3,R4,Q⟩:=ah h1 h2 h3 h4 Y
  have N:=Y.size
  clear h1 h2 h3 h4 Y
  by_cases y:k<n
  ·have a3:(k:Int)<n:=by omega
   obtain ⟨x,hx⟩:∃x,l[k]?=some x:=⟨_,Kh (by rw [Hn.out];exact y)⟩
   obtain ⟨b,o,A1,c1,A2,c2,rfl,B,p1,p2,r1,r2⟩:=fl H.out hx
   have q1:=(Q.out.cell (p:=⟨b,o+k*2,none⟩) B).trans p1
   have q2:=(Q.out.cell (p:=⟨b,o+k*2+1,none⟩) B).trans p2
   have hu:rEx w [.slice A1 x.1.length c1,.slice A2 x.2.length c2] x:=⟨_,_,_,_,rfl,r1,r2⟩
   obtain ⟨U,C⟩:∃U,x.1.length=U:=⟨_,rfl⟩
   obtain ⟨V,D⟩:∃V,x.2.length=V:=⟨_,rfl⟩
   rw [C,D] at hu
   rw [C] at q1
   rw [D] at q2
   obtain ⟨Hu,Hx⟩:=ae hu hx
   have a4:b<wr.heap.size:=JK B N
   clear hu hx C D r1 r2 p1 p2
   go_wp2_with fail
   refine (wY A1 A2 U c1 V c2 _).mono ?_
   rintro e w3 ⟨rfl,I⟩
   have q:Below w.heap.size w w3:=(Q.out.alloc N _).trans (I.mono (by simp;omega))
   have L:=ap (R1.out.alloc _) I
   have a2:=q.size
   obtain ⟨X,Z⟩:=ae q L;clear I q L q1 q2
   go_wp2_with (at_builtin;refine aQ kE _ rfl (.tmp 12) (.tmp 15) rfl w.heap.size (.slice Al k cl) k _ rfl Z.out [.slice A1 U c1,.slice A2 V c2] rfl rfl (by simp [Value.oneCell']) (by omega) (by unfold maxLen;omega) a2 ?_)
   intro g6 c6 w6 J O a1
   have T:=rS.push R2.out R3.out R4.out X.out Hx.out Hu.out J O
   have a0:=aa T;clear J O a1 T
   go_wp2_with fail
   go_roundw
   case rel=>exact ⟨k+1,y,by go_num,a0.out⟩
   case measure=>exact Im y
  ·obtain rfl:n=k:=by omega
   have u:cE rEx 2 wr Al l:=rS.rd ⟨R,R1.out,R2.out,R3.out,R4.out,Q.out⟩ Hn.out
   have HF:=aa u;clear u
   go_wp2_with fail
   go_ret
   exact ⟨_,_,rfl,HF.out,Q.out⟩
theorem AL (A1 A2:Option Addr) (B A:List Ex) (c1 c2:Nat) (w:World) (h1:cE rEx 2 w A1 B) (h2:cE rEx 2 w A2 A) (a4:B.length≤1048577) (a1:A.length≤1048577):
  Calls Tryz.prog 29 #[.slice A1 B.length c1,.slice A2 A.length c2] w fun e u=>e=.returned (.bool (decide (B=A)))∧Below w.heap.size w u:=by
 obtain ⟨n,hn⟩:∃n,B.length=n:=⟨_,rfl⟩
 obtain ⟨m,hm⟩:∃m,A.length=m:=⟨_,rfl⟩
 obtain ⟨b,hb⟩:∃b,decide (B=A)=b:=⟨_,rfl⟩
 rw [hn] at a4 ⊢
 rw [hm] at a1 ⊢
 rw [hb]
 obtain ⟨H1,H2,Hn,Hm,Hb⟩:=ah h1 h2 hn hm hb;clear h1 h2 hn hm hb
 by_cases Y:n≠m
 ·have hq:((n:Int) != (m:Int))=true:=by rw [bne_iff_ne];omega
  have D:b=false:=by
   rw [←Hb.out];refine KD fun e=>Y ?_
   rw [←Hn.out,←Hm.out,e]
  go_enter Tryz.func29,Tryz.ntmps29
  go_wp2_with fail
  go_ret
  exact ⟨by rw [D];rfl,JG _ _⟩
 obtain rfl:n=m:=by omega
 clear Y
 go_enter Tryz.func29,Tryz.ntmps29
 go_wp2_with fail
 go_loopw [5] (fun i wr=>∃k:Nat,k≤n∧i=KL k∧Hid (∀j,j<k→B[j]?=A[j]?)∧Below w.heap.size w wr) (fun i _=>n-(intOf i).toNat)
 case atStart=>exact ⟨0,JH _,rfl,Lib.hid fun j hj=>by omega,JG _ _⟩
 case round=>
  obtain ⟨k,hk,rfl,C,R⟩:=hrel
  have T:=aa R;clear R
  by_cases O:k<n
  ·have a6:(k:Int)<n:=by omega
   obtain ⟨x,hx⟩:∃x,B[k]?=some x:=⟨_,Kh (by rw [Hn.out];exact O)⟩
   obtain ⟨y,hy⟩:∃y,A[k]?=some y:=⟨_,Kh (by rw [Hm.out];exact O)⟩
   have g1:cE rEx 2 wr A1 B:=H1.out.below cY T.out
   have g2:cE rEx 2 wr A2 A:=H2.out.below cY T.out
   obtain ⟨Z,o1,P1,d1,Q1,f1,rfl,a5,p1,p2,r1,r2⟩:=fl g1 hx
   obtain ⟨b2,o2,P2,d2,Q2,f2,rfl,a7,q1,q2,s1,s2⟩:=fl g2 hy
   have N:=fun u (k:Below wr.heap.size wr u)=>qu P1 Q1 P2 Q2 x.1 x.2 y.1 y.2 d1 f1 d2 f2 u (r1.below k) (r2.below k) (s1.below k) (s2.below k)
   obtain ⟨eq,heq⟩:∃eq,(decide (x.1=y.1)&&decide (x.2=y.2))=eq:=⟨_,rfl⟩
   have V:eq=true↔x=y:=by
    rw [←heq,Bool.and_eq_true,KF,KF]
    exact ⟨fun h=>Prod.ext h.1 h.2,fun h=>by rw [h];exact ⟨rfl,rfl⟩⟩
   obtain ⟨n1,H⟩:∃n,x.1.length=n:=⟨_,rfl⟩
   obtain ⟨n2,L⟩:∃n,x.2.length=n:=⟨_,rfl⟩
   obtain ⟨m1,I⟩:∃n,y.1.length=n:=⟨_,rfl⟩
   obtain ⟨m2,J⟩:∃n,y.2.length=n:=⟨_,rfl⟩
   rw [heq,H,L,I,J] at N
   rw [H] at p1
   rw [L] at p2
   rw [I] at q1
   rw [J] at q2
   obtain ⟨a0,Hx,Hy,U⟩:=ag N hx hy V;clear N hx hy V heq H L I J g1 g2 r1 r2 s1 s2
   go_wp2_with fail
   have q:(fun u:World=>u.cell? ⟨Z,o1+k*2,none⟩=some (.slice P1 n1 d1)∧u.cell? ⟨Z,o1+k*2+1,none⟩=some (.slice Q1 n2 f1)∧u.cell? ⟨b2,o2+k*2,none⟩=some (.slice P2 m1 d2)∧u.cell? ⟨b2,o2+k*2+1,none⟩=some (.slice Q2 m2 f2)) wr.drew:=⟨p1,p2,q1,q2⟩
   refine HA.g (fun u:World=>u.cell? ⟨Z,o1+k*2,none⟩=some (.slice P1 n1 d1)∧u.cell? ⟨Z,o1+k*2+1,none⟩=some (.slice Q1 n2 f1)∧u.cell? ⟨b2,o2+k*2,none⟩=some (.slice P2 m1 d2)∧u.cell? ⟨b2,o2+k*2+1,none⟩=some (.slice Q2 m2 f2)) ?_
   refine HA.t ?_ [0,1,2,3,4,5,6,7] q ?_
   refine HA.o 8 (fun K hK=>?_)
   go_simp
   refine (a0.out _ ((JG _ _).drew)).mono ?_
   rintro e w3 ⟨rfl,v⟩
   have X:=JL (am v q.1) (JL (am v q.2.1) (JL (am v q.2.2.1) (am v q.2.2.2)))
   have Q:=aa (T.out.trans (((JG wr.heap.size wr).drew.trans v).mono T.out.size));clear v q
   dsimp only
   refine hK.out _ _ X (fun q=>?_)
   clear hK K X
   refine HA.t ?_ [9] q ?_
   refine HA.d ?_
   clear q p1 p2 q1 q2
   rcases dB eq with rfl | rfl
   ·go_wp2_with fail
    go_ret
    have D:b=false:=by
     rw [←Hb.out];refine KD fun e=>?_
     have h:=Hx.out;rw [e,Hy.out] at h;injection h with h
     have:=U.out.2 h.symm;cases this
    exact ⟨by rw [D];rfl,Q.out⟩
   ·have a3:=aa (U.out.1 rfl)
    go_wp2_with fail
    go_roundw
    case rel=>exact ⟨k+1,by omega,by go_num,Lib.hid (p:=∀j,j<k+1→B[j]?=A[j]?) fun j hj=>by
     rcases JR j k with h | h
     ·exact C.out j h
     ·obtain rfl:j=k:=by omega
      rw [Hx.out,Hy.out,a3.out],Q.out⟩
    case measure=>simp [intOf];omega
  ·obtain rfl:n=k:=by omega
   have a2:b=true:=by
    rw [←Hb.out];refine KA (List.ext_getElem? fun j=>?_)
    rcases JR j n with h | h
    ·exact C.out j h
    ·rw [List.getElem?_eq_none (by rw [Hn.out];exact h),List.getElem?_eq_none (by rw [Hm.out];exact h)]
   go_wp2_with fail
   go_ret
   exact ⟨by rw [a2];rfl,T.out⟩
def uE (w:World):List Obj→World
 | []=>w
 | o::l=>uE (w.alloc o) l
theorem er:∀(l:List Obj) (w:World),Below w.heap.size w (uE w l)
 | [],w=>br w
 | o::l,w=>bt ((br w).alloc (JD _) o) (er l _)
theorem cz:∀(l:List Obj) (w:World) (k:Nat) {o:Obj},l[k]?=some o→(uE w l).heap[w.heap.size+k]?=some o
 | [],_,_,_,h=>by simp at h
 | o::l,w,0,_,h=>by
  simp only [Kb,Option.some.injEq] at h
  subst h
  exact sb (JE w o) _ (er l _)
 | o::l,w,k+1,_,h=>by
  have:=cz l (w.alloc o) k (by simpa using h)
  rwa [show (w.alloc o).heap.size+k=w.heap.size+(k+1) by rw [JS];omega] at this
theorem th (C A B:Int) (p o:Bool) (j i x u v q y:Int) (w:World):
  Calls Tryz.prog 54 #[.agg #[KL C,KL A,KL B,.bool p,.bool o,KL j,KL i,KL x,KL u,KL v,KL q,KL y]] w fun e J=>e=.returned (.agg #[KL C,KL A,KL B,.bool p,.bool o,KL j,KL i,KL x,KL u,KL v,KL q,KL y])∧Below w.heap.size w J:=by
 have h1:=cz [.cells #[KL C,KL A,KL B,.bool p,.bool o,KL j,KL i,KL x,KL u,KL v,KL q,KL y] 56,.cells #[KL C,KL A,KL B,.bool p,.bool o,KL j,KL i,KL x,KL u,KL v,KL q,KL y] 136,.cells #[.bool p,.bool o,KL j,KL i,KL x,KL u,KL v,KL q,KL y] 134] w 1 rfl
 have D:=er [.cells #[KL C,KL A,KL B,.bool p,.bool o,KL j,KL i,KL x,KL u,KL v,KL q,KL y] 56,.cells #[KL C,KL A,KL B,.bool p,.bool o,KL j,KL i,KL x,KL u,KL v,KL q,KL y] 136,.cells #[.bool p,.bool o,KL j,KL i,KL x,KL u,KL v,KL q,KL y] 134] w
 obtain ⟨I,H⟩:=ae h1 D;clear h1 D
 go_enter Tryz.func54,Tryz.ntmps54
 go_wp2_with fail
 exact JQ (ny rfl rfl I.out fg) rfl ⟨rfl,H.out⟩
theorem mb (y:Itm):∃(B i p:Int) (u q:Bool) (o j C v A x D:Int),aN y=[KL B,KL i,KL p,.bool u,.bool q,KL o,KL j,KL C,KL v,KL A,KL x,KL D]:=by
 obtain ⟨k,s,n,a⟩:=y
 cases a with
 | none=>exact ⟨_,_,_,_,_,_,_,_,_,_,_,_,rfl⟩
 | some a=>exact ⟨_,_,_,_,_,_,_,_,_,_,_,_,rfl⟩
theorem iD:cL Tryz.prog 56 12:=⟨⟨_,Tryz.underlying56,rfl⟩,by kernel_rfl⟩
theorem vu {w i:World} {b o:Nat} {p:List Value} (h:w.rangeAt b o p) (q:Below w.heap.size w i):i.rangeAt b o p:=fun j v hv=>am q (h j v hv)
def I2 (w:World) (b:Nat) (i:List Itm) (p:Nat) (ok:Bool) (zs:List Value):Prop:=(∀j,Below w.heap.size w j→Calls Tryz.prog 16 #[.pointer (some ⟨b,0,none⟩)] j fun e o=>e=.returned (.tuple #[.agg zs.toArray,.bool ok])∧Below j.heap.size j o)∧ok=decide (p<i.length)∧(ok=true→∃y,i[p]?=some y∧zs=aN y)∧(ok=false→zs=[KL 0,KL 0,KL 0,.bool false,.bool false,KL 0,KL 0,KL 0,KL 0,KL 0,KL 0,KL 0])
theorem Gv {H:Nat→Prop} {w:World} {b x:Nat} {i:Inp} {a:MAd} {m:Mst} (h:aI H w b i x a m) (hn:∀k,Mut b a k→¬H k) (hcur:(bZ i x m.st)[m.nx]?=(dx i x)[aW i x m]?):
  ∃(ok:Bool) (I j u:Int) (A v:Bool) (o p J C D B L:Int),I2 w b (dx i x) (aW i x m) ok [KL I,KL j,KL u,.bool A,.bool v,KL o,KL p,KL J,KL C,KL D,KL B,KL L]:=by
 cases hy:(dx i x)[aW i x m]? with
 | some y=>
  obtain ⟨I,j,u,A,v,o,p,J,C,D,B,L,N⟩:=mb y
  refine ⟨true,I,j,u,A,v,o,p,J,C,D,B,L,fun O q=>?_,?_,fun _=>⟨y,hy,N.symm⟩,by simp⟩
  ·have:=iP (h.below q hn) (hcur.trans hy)
   rw [N] at this
   exact this
  ·have:=(Kg.1 hy).1
   simp [this]
 | none=>
  refine ⟨false,0,0,0,false,false,0,0,0,0,0,0,0,fun O q=>?_,?_,by simp,fun _=>rfl⟩
  ·exact qd (h.below q hn) (List.getElem?_eq_none_iff.1 (hcur.trans hy))
  ·have:=List.getElem?_eq_none_iff.1 hy
   simp;omega
theorem Cj {H:Nat→Prop} {w:World} {b x:Nat} {i:Inp} {a:MAd} {m:Mst} {vs:Array Value} (h:aI H w b i x a m) (hn:∀k,Mut b a k→¬H k) (r:dM w vs i x m) (hs:cU i) (hcur:(bZ i x m.st)[m.nx]?=(dx i x)[aW i x m]?)
  (a6:aW i x m≤(dx i x).length) (hop:m.op=kU (dx i x) (aW i x m) (aE i).buks.length) (hrc:∀y∈m.rc,y.1.length=i.start.length∧y.2.length=i.start.length) (b8:m.rc.length≤100):
  Calls Tryz.prog 14 #[.pointer (some ⟨b,0,none⟩),.agg vs] w fun e j=>e=.returned (KL 1)∧Below w.heap.size w j:=by
 have hM:=fun j (q:Below w.heap.size w j)=>h.below q hn
 have hrop:=fun j (q:Below w.heap.size w j)=>AZ j (r.below q) hs a6
 obtain ⟨ok,k0,k1,k2,b0,b1,i0,i1,i2,i3,i4,i5,i6,hnx⟩:=Gv h hn hcur
 have hcount:=fun j (q:Below w.heap.size w j)=>yI (hM j q)
 have hstate:=fun j (q:Below w.heap.size w j)=>yA (hM j q) hs.n
 have hgrad:=fun j (q:Below w.heap.size w j)=>Ce (hM j q) hs.n
 have htraj:=fun j (q:Below w.heap.size w j)=>BT (hM j q) hrc hs.n b8
 have hlop:m.op.length≤60:=by rw [hop];exact JJ (zR _ _ _) hs.ok.buks
 have hopen:=fun j (q:Below w.heap.size w j)=>BV (hM j q) hlop
 rw [hop] at hlop
 simp only [hop] at hopen
 have wP:=h.wP;have wM:=h.wM;have wG:=h.wG
 obtain ⟨A,c,D,cd,T,ct,R,cr,PA,pc,MA,mc,GA,gc,SA,sc,IA,ic,rfl,hI,hP,hMm,hG,hR,hIt,hl⟩:=r
 have hss:=fun j (q:Below w.heap.size w j) A1 A2 c1 c2 (h1:bD j A1 m.P c1) (h2:bD j A2 m.M c2)=>qu A1 A2 PA MA m.P m.M m.P m.M c1 c2 pc mc j h1 h2 (hP.below q) (hMm.below q)
 simp only [hl.1,hl.2.1,decide_true,Bool.and_self] at hss
 have hsg:=fun j (q:Below w.heap.size w j) A1 c1 (h1:Rd j A1 (aq .i64 m.G))=>ns A1 GA m.G m.G c1 gc j h1 (hG.below q).hr (by rw [wG.1];have:=hs.n;omega) hG.hl
 simp only [hl.2.2,decide_true] at hsg
 have hsa:=fun j (q:Below w.heap.size w j) A1 c1 (h1:cE rEx 2 j A1 m.rc)=>AL A1 SA m.rc m.rc c1 sc j h1 (hR.below cY q) (by omega) (by omega)
 simp only [decide_true] at hsa
 have hbs:=fun j A1 c1 (h1:cE rEx 2 j A1 m.rc)=>CP A1 m.rc c1 j h1 (by omega)
 obtain ⟨nb,hnb'⟩:∃nb,(aE i).buks.length=nb:=⟨_,rfl⟩
 obtain ⟨N,hdn'⟩:∃N,aW i x m=N:=⟨_,rfl⟩
 obtain ⟨B,hits⟩:∃B,dx i x=B:=⟨_,rfl⟩
 have hal:(dx i x).length≤48000000:=ml hs x (JD _)
 rw [hits,hdn'] at a6 hnx
 rw [hnb'] at hrop hopen hlop
 rw [hits] at hIt hal
 simp only [hits,hdn'] at hrop hopen hcount hlop ⊢
 obtain ⟨L,hL⟩:∃L,kU B N nb=L:=⟨_,rfl⟩
 rw [hL] at hrop hopen hlop
 have heq:=fun j A1 A2 c1 c2 (h1:Rd j A1 (aq .i64 (dw L))) (h2:Rd j A2 (aq .i64 (dw L)))=>CC A1 A2 (dw L) (dw L) c1 c2 j h1 h2 (by rw [jV];omega)
 simp only [jV,decide_true] at heq
 obtain ⟨o,hW0⟩:∃o,w.alloc (.cells #[.slice A i.cfg.sizes.length c,KL i.cfg.shift,KL i.cfg.rate,KL i.cfg.mom,KL i.cfg.workers,KL i.cfg.batch,KL i.cfg.micros,KL i.cfg.steps,KL i.cfg.bucket,KL i.cfg.chunk,KL i.cfg.window,KL i.cfg.cap,.slice D i.data.length cd,.slice T i.start.length ct,.slice R i.draws.length cr,KL (x:Nat),.slice PA i.start.length pc,.slice MA i.start.length mc,.slice GA i.start.length gc,.slice SA m.rc.length sc,.slice IA B.length ic,KL (N:Nat)] 43)=o:=⟨_,rfl⟩
 have g0:o.heap[w.heap.size]?=some (.cells #[.slice A i.cfg.sizes.length c,KL i.cfg.shift,KL i.cfg.rate,KL i.cfg.mom,KL i.cfg.workers,KL i.cfg.batch,KL i.cfg.micros,KL i.cfg.steps,KL i.cfg.bucket,KL i.cfg.chunk,KL i.cfg.window,KL i.cfg.cap,.slice D i.data.length cd,.slice T i.start.length ct,.slice R i.draws.length cr,KL (x:Nat),.slice PA i.start.length pc,.slice MA i.start.length mc,.slice GA i.start.length gc,.slice SA m.rc.length sc,.slice IA B.length ic,KL (N:Nat)] 43 (0,0)):=by rw [←hW0];exact JE w _
 have k0':Below w.heap.size w o:=by rw [←hW0];exact (br w).alloc (JD _) _
 have aP:∀j,Below o.heap.size o j→j.cell? ⟨w.heap.size,16,none⟩=some (.slice PA i.start.length pc):=fun j q=>JF j w.heap.size 16 _ _ _ (sb g0 j q)
 have b4:∀j,Below o.heap.size o j→j.cell? ⟨w.heap.size,17,none⟩=some (.slice MA i.start.length mc):=fun j q=>JF j w.heap.size 17 _ _ _ (sb g0 j q)
 have bn:∀j,Below o.heap.size o j→j.cell? ⟨w.heap.size,18,none⟩=some (.slice GA i.start.length gc):=fun j q=>JF j w.heap.size 18 _ _ _ (sb g0 j q)
 have bd:∀j,Below o.heap.size o j→j.cell? ⟨w.heap.size,19,none⟩=some (.slice SA m.rc.length sc):=fun j q=>JF j w.heap.size 19 _ _ _ (sb g0 j q)
 have aG:∀j,Below o.heap.size o j→j.cell? ⟨w.heap.size,20,none⟩=some (.slice IA B.length ic):=fun j q=>JF j w.heap.size 20 _ _ _ (sb g0 j q)
 have av:∀j,Below o.heap.size o j→j.cell? ⟨w.heap.size,21,none⟩=some (KL (N:Nat)):=fun j q=>JF j w.heap.size 21 _ _ _ (sb g0 j q)
 have tl:=sl g0
 obtain ⟨bh,G0,K0,a7,ad,Y,Z,a1⟩:=ak hW0 g0 k0' hrop hnx hcount hstate hgrad;obtain ⟨a4,a3,aM,bl,b2,b6,bi,be⟩:=ak htraj hopen hss hsg hsa hbs heq (hIt.below k0');obtain ⟨WP,WM,WG,bw,Hn,Hl⟩:=ai wP wM wG hal hs.n hl;clear hM hW0 g0 k0' hrop hnx hcount hstate hgrad htraj hopen hss hsg hsa hbs heq hIt wP wM wG hal hl hP hMm hG hR hI hn h hs hcur hdn' hits hnb' hL hop hrc
 go_enter Tryz.func14,Tryz.ntmps14
 go_wp2_with fail
 rw [bh.out]
 refine (ad.out.1 o K0.out).mono ?_
 rintro e w1 ⟨rfl,q1⟩
 go_wp2_with fail
 obtain ⟨I,X⟩:∃I,w1.alloc (.cells #[KL k0,KL k1,KL k2,.bool b0,.bool b1,KL i0,KL i1,KL i2,KL i3,KL i4,KL i5,KL i6] 56)=I:=⟨_,rfl⟩
 have g2:I.heap[w1.heap.size]?=some (.cells #[KL k0,KL k1,KL k2,.bool b0,.bool b1,KL i0,KL i1,KL i2,KL i3,KL i4,KL i5,KL i6] 56 (0,0)):=by rw [←X];exact JE w1 _
 have p:Below o.heap.size o I:=by rw [←X];exact q1.alloc q1.size _
 rw [X]
 have G2:=aa g2;clear X g2 q1
 have tK:=fun j (q:Below o.heap.size o j)=>K0.out.trans (q.mono K0.out.size)
 have U:=aa tK;clear tK
 go_cut [43] (fun v wx=>v=.bool false∧Below o.heap.size o wx)
 case first=>
  have hnx:=ad.out.2
  have ao:=fun j (q:Below I.heap.size I j)=>aG j (p.trans (q.mono p.size))
  have a8:=fun j (q:Below I.heap.size I j)=>av j (p.trans (q.mono p.size))
  have pl:=fun j (q:Below I.heap.size I j)=>tl j (p.trans (q.mono p.size))
  have Q2:=aa p
  have u:=(br I).drew
  clear aP b4 bn bd aG av tl p
  cases ok with
  | false=>
   have b3:¬(N:Int)<B.length:=by have:=hnx.1;simp at this;omega
   have hz:=hnx.2.2 rfl
   simp only [List.cons.injEq,Value.int.injEq,Value.bool.injEq,true_and,and_true] at hz
   obtain ⟨rfl,rfl,rfl,rfl,rfl,rfl,rfl,rfl,rfl,rfl,rfl,rfl⟩:=hz
   clear hnx
   refine HA.g (fun j:World=>Below I.heap.size I j) ?_
   refine HA.t ?_ [0,1,2,3,4,5,6,7,8,9,10,11,12,13,14,15,16,17,18,19,20,21,22,23,24,25,28] u ?_
   refine HA.ld 26 KR (fun j q=>sb G2.out j q) iD u ?_
   refine HA.c 27 (th 0 0 0 false false 0 0 0 0 0 0 0 _) ?_
   rintro e w3 ⟨rfl,O⟩
   have C:=u.trans (O.mono u.size)
   refine ⟨_,rfl,C,fun _=>?_⟩
   refine HA.t ?_ [29,30,31] C ?_
   refine HA.d ?_
   have Q4:=aa (Q2.out.trans (C.mono Q2.out.size));clear ao a8 pl u C O
   go_wp2_with fail
   go_meet
   exact ⟨rfl,Q4.out⟩
  | true=>
   have b3:(N:Int)<B.length:=by have:=hnx.1;simp at this;omega
   have bs:N<B.length:=by omega
   have h0:¬(N:Int)<0:=by omega
   obtain ⟨y,hy,hz⟩:=hnx.2.1 rfl
   obtain ⟨ib,io,hA,a5⟩:=lA (be.out.below Q2.out) hy
   rw [←hz] at a5
   subst hA
   have a0:=fun j (q:Below I.heap.size I j)=>vu a5 q
   have bf:=aa a0;clear hnx hy hz a5 a0
   refine HA.g (fun j:World=>Below I.heap.size I j) ?_
   refine HA.t ?_ [0,1,2,3,4,5,6,7,8,9,10] u ?_
   refine HA.ld 11 #[KL k0,KL k1,KL k2,.bool b0,.bool b1,KL i0,KL i1,KL i2,KL i3,KL i4,KL i5,KL i6] (fun j q=>sb G2.out j q) iD u ?_
   refine HA.t ?_ [13,14,15,16,17] u ?_
   refine HA.lr 18 bf.out fg u ?_
   refine HA.c 12 (th k0 k1 k2 b0 b1 i0 i1 i2 i3 i4 i5 i6 _) ?_
   rintro e w3 ⟨rfl,O⟩
   have C:=u.trans (O.mono u.size)
   refine ⟨_,rfl,C,fun _=>?_⟩
   refine HA.t ?_ [19,20,21,22,23,24,25,26,27,28,29,30,31] C ?_
   refine HA.d ?_
   have Q4:=aa (Q2.out.trans (C.mono Q2.out.size));clear ao a8 pl u C O
   go_wp2_with fail
   go_meet
   exact ⟨rfl,Q4.out⟩
 case rest=>
  obtain ⟨rfl,q⟩:=hcut
  clear p
  go_wp2_with fail
  have p:=q.drew
  refine HA.g (fun j:World=>Below o.heap.size o j) ?_
  refine HA.t ?_ [0,2,3] p ?_
  refine HA.c 1 (Y.out _ (U.out _ p)) ?_
  rintro e w3 ⟨rfl,rfl⟩
  refine ⟨_,rfl,p,fun _=>?_⟩
  refine HA.t ?_ [4,5,6,9,10] p ?_
  refine HA.c 7 (Z.out _ (U.out _ p)) ?_
  rintro e w3 ⟨A1,c1,A2,c2,rfl,bo,b7,o1,o2, -,O⟩
  have u:=p.trans (O.mono p.size)
  refine ⟨_,rfl,u,fun _=>?_⟩
  refine HA.c 8 (wY A1 A2 i.start.length c1 i.start.length c2 w3) ?_
  rintro e w4 ⟨rfl,k4⟩
  have C:=u.trans (k4.mono u.size)
  refine ⟨_,rfl,C,fun _=>?_⟩
  refine HA.c 11 (aM.out w4 (U.out _ C) A1 A2 c1 c2 ⟨by rw [Hl.out.1];exact bo,by rw [Hl.out.1];have:=Hn.out;omega,Rd.own (ap o1 k4),WP.out.2⟩ ⟨by rw [Hl.out.2.1];exact b7,by rw [Hl.out.2.1];have:=Hn.out;omega,Rd.own (ap o2 k4),WM.out.2⟩) ?_
  rintro e w5 ⟨rfl,k5⟩
  have J:=C.trans (k5.mono C.size)
  refine ⟨_,rfl,J,fun _=>?_⟩
  refine HA.t ?_ [12,13,14,15,17,18] J ?_
  refine HA.c 16 (a1.out w5 (U.out _ J)) ?_
  rintro e w6 ⟨A3,c3,rfl,bv,o3,k6⟩
  have Q:=J.trans (k6.mono J.size)
  refine ⟨_,rfl,Q,fun _=>?_⟩
  refine HA.c 19 (bl.out w6 (U.out _ Q) A3 c3 (Rd.own o3)) ?_
  rintro e w7 ⟨rfl,n7,rfl⟩
  have q7:=JN Q n7
  refine ⟨_,rfl,q7,fun _=>?_⟩
  refine HA.t ?_ [20,21] q7 ?_
  refine HA.d ?_
  obtain ⟨V,hV⟩:∃V,w6.drewN n7=V:=⟨_,rfl⟩
  rw [hV] at q7 ⊢
  clear hV q p u C J Q O k4 k5 k6 o1 o2 o3
  go_wp2_with fail
  have p:=q7.drew
  refine HA.g (fun j:World=>Below o.heap.size o j) ?_
  refine HA.t ?_ [0,3,4] p ?_
  refine HA.c 1 (a4.out _ (U.out _ p)) ?_
  rintro e w3 ⟨v,rfl,a2,O⟩
  have u:=p.trans (O.mono p.size)
  refine ⟨_,rfl,u,fun _=>?_⟩
  obtain ⟨b9,aR,rfl,_⟩:=a2.form
  refine HA.c 2 (b6.out w3 b9 aR a2.rd) ?_
  rintro e w4 ⟨b5,bb,rfl,ab,k4⟩
  have C:=u.trans (k4.mono u.size)
  refine ⟨_,rfl,C,fun _=>?_⟩
  refine HA.c 5 (b2.out w4 (U.out _ C) b5 bb ab) ?_
  rintro e w5 ⟨rfl,k5⟩
  have J:=C.trans (k5.mono C.size)
  refine ⟨_,rfl,J,fun _=>?_⟩
  refine HA.t ?_ [6,7,8] J ?_
  refine HA.ld 10 #[.slice A i.cfg.sizes.length c,KL i.cfg.shift,KL i.cfg.rate,KL i.cfg.mom,KL i.cfg.workers,KL i.cfg.batch,KL i.cfg.micros,KL i.cfg.steps,KL i.cfg.bucket,KL i.cfg.chunk,KL i.cfg.window,KL i.cfg.cap,.slice D i.data.length cd,.slice T i.start.length ct,.slice R i.draws.length cr,KL (x:Nat),.slice PA i.start.length pc,.slice MA i.start.length mc,.slice GA i.start.length gc,.slice SA m.rc.length sc,.slice IA B.length ic,KL (N:Nat)] (fun j q=>sb G0.out j q) cI J ?_
  refine HA.c 9 (a3.out w5 (U.out _ J)) ?_
  rintro e w6 ⟨v6,rfl,o6,k6⟩
  have Q:=J.trans (k6.mono J.size)
  refine ⟨_,rfl,Q,fun _=>?_⟩
  refine HA.c 11 (a7.out w6 (U.out _ Q)) ?_
  rintro e w7 ⟨v7,rfl,o7,k7⟩
  have q8:=Q.trans (k7.mono Q.size)
  refine ⟨_,rfl,q8,fun _=>?_⟩
  obtain ⟨A6,c6,rfl,_⟩:=aw o6
  obtain ⟨A7,c7,rfl,_⟩:=aw o7
  refine HA.c 12 (bi.out w7 A6 A7 c6 c7 (Rd.own (ap o6 k7)) (Rd.own o7)) ?_
  rintro e w8 ⟨rfl,n8,rfl⟩
  have q9:=JN q8 n8
  refine ⟨_,rfl,q9,fun _=>?_⟩
  refine HA.t ?_ [13,14] q9 ?_
  refine HA.d ?_
  have Q9:=aa (U.out _ q9);clear p u C J Q q7 q8 q9 O k4 k5 k6 k7 o6 o7 a2 ab
  go_wp2_with fail
  go_ret
  exact ⟨rfl,Q9.out⟩
end Go.Proofs.YtaccfnffmbndhaaGreat
