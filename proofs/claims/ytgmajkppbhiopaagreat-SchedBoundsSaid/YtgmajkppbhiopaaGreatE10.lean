/- No condition. -/
import Derived.Test.YtgmajkppbhiopaaGreatE09
import Derived.Lib.SliceRun
import Derived.Deep.RegionLaw
set_option linter.unusedSimpArgs false
set_option linter.unusedVariables false
set_option maxRecDepth 100000
set_option maxHeartbeats 4000000
namespace Go.Proofs.YtgmajkppbhiopaaGreat
open Go.RowKit
open Tryz
theorem aU {w h:World} {o:Obj} (k:Keep (fun j=>j=w.heap.size) (w.alloc o) h):aq w h:=
 ((br w).alloc (LO _) o).trans (k.toBelow (by rw [Mb];omega) (fun j i=>ap))
theorem EJ:cW prog 331 13:=⟨⟨_,underlying331,rfl⟩,by kernel_rfl⟩
theorem EK:cW prog 328 7:=⟨⟨_,underlying328,rfl⟩,by kernel_rfl⟩
theorem rO (w:World):Calls prog 221 #[] w fun e p=>e=.returned (.agg MQ)/\aq w p:=by
 go_enter func221,ntmps221
 go_wp2_with (refine aJ (LP _ _) EK rfl rfl rfl rfl rfl rfl rfl ?_;intro x i h;obtain ⟨u,v⟩:=ae i (aU h);clear i h)
 exact L7 (Fd rfl rfl u.o EK) rfl ⟨rfl,v.o⟩
def adv (i:Inp) (x:Nat) (m:Mst):Mst:=if m.nx+1<(cR i x m.st).length then {m with nx:=m.nx+1} else {m with st:=m.st+1,nx:=0}
theorem aT.upd {H:Nat->Prop} {w p:World} {b x:Nat} {i:Inp} {a:MAd} {m:Mst} (h:aT H w b i x a m) (hn:∀k,Mut b a k->¬H k) (hk:Keep (fun k=>k=b) w p) (st nx:Nat) (IA:Option Addr) (ic:Nat)
  (hb:p.heap[b]?=some (.cells #[MO (x:Nat),MO i.cfg.workers,MO i.cfg.micros,.pointer (some ⟨({a with IA:=IA,ic:=ic}:MAd).F,0,none⟩),.slice ({a with IA:=IA,ic:=ic}:MAd).E i.data.length ({a with IA:=IA,ic:=ic}:MAd).ce,.pointer (some ⟨({a with IA:=IA,ic:=ic}:MAd).S,0,none⟩),.pointer (some ⟨({a with IA:=IA,ic:=ic}:MAd).PP,0,none⟩),.slice ({a with IA:=IA,ic:=ic}:MAd).BA (aB i).buks.length ({a with IA:=IA,ic:=ic}:MAd).bc,MO i.cfg.rate,MO i.cfg.mom,MO i.cfg.shift,.slice (some ⟨({a with IA:=IA,ic:=ic}:MAd).bp,0,none⟩) i.start.length ({a with IA:=IA,ic:=ic}:MAd).cp,.slice (some ⟨({a with IA:=IA,ic:=ic}:MAd).bm,0,none⟩) i.start.length ({a with IA:=IA,ic:=ic}:MAd).cm,.slice (some ⟨({a with IA:=IA,ic:=ic}:MAd).bg,0,none⟩) i.start.length ({a with IA:=IA,ic:=ic}:MAd).cg,.slice (some ⟨({a with IA:=IA,ic:=ic}:MAd).rb,0,none⟩) ({m with st:=st,nx:=nx}:Mst).rc.length ({a with IA:=IA,ic:=ic}:MAd).rc,.slice ({a with IA:=IA,ic:=ic}:MAd).IA (cR i x ({m with st:=st,nx:=nx}:Mst).st).length ({a with IA:=IA,ic:=ic}:MAd).ic,MO (({m with st:=st,nx:=nx}:Mst).nx:Nat),MO (bD i x {m with st:=st,nx:=nx}:Nat),({a with IA:=IA,ic:=ic}:MAd).ov] 179 (0,0)))
  (hit:Rd (aF (fT H b a) p) IA (cu (cR i x st))) (ox:nx<(cR i x st).length\/(nx=0/\i.cfg.steps.toNat<=st)):aT H p b i x {a with IA:=IA,ic:=ic} {m with st:=st,nx:=nx}:=by
 have he:Ext (aF (fT H b a) w) (aF (fT H b a) p):=bE (hk.mono fun k _ e=>.inl (.inl e)) (fun k _ L=>L)
 have o:∀{v:Value} {e size n xs},e≠179->w.ownsRow 0 e size v n xs->p.ownsRow 0 e size v n xs:=fun y o=>hk.own o (fun j N e=>ax h.blk (Ne.symm y) o (by rw [N,e]))
 obtain ⟨D,a1,J,Q,R,u,C⟩:=h.pl
 obtain ⟨rows,O,A,I,B⟩:=h.re
 exact ⟨hb,fl h.sh he,eA cJ h.ex he,gE h.sa he,⟨D,a1,J,Q,R,u,gF C he⟩,aV h.bu he,hit,⟨rows,o (by decide) O,A,I,fun j x T=>cJ (B j x T) he⟩,
  o (by decide) h.oP,o (by decide) h.oM,o (by decide) h.oG,o (by decide) h.oO,h.dj,fun k _ hm=>hn k hm,h.wP,h.wM,h.wG,ox,h.xw⟩
theorem qK {i:Inp} (hs:cK i) {x st nx:Nat} (h:nx<(cR i x st).length):st<i.cfg.steps.toNat/\(cR i x st).length=(aI (aB i) x 0).length:=by
 unfold cR at h ⊢
 by_cases hc:st<i.cfg.steps.toNat
 ·rw [if_pos hc];exact ⟨hc,jC hs.ok x st⟩
 ·rw [if_neg hc] at h;simp at h
theorem sD (i:Inp) (x:Nat) (m:Mst):bD i x {m with st:=m.st,nx:=m.nx+1}=bD i x m+1:=rfl
theorem sC {i:Inp} (hs:cK i) {x:Nat} {m:Mst} (h:m.nx+1=(cR i x m.st).length):bD i x {m with st:=m.st+1,nx:=0}=bD i x m+1:=by
 have:=(qK hs (x:=x) (st:=m.st) (nx:=m.nx) ap).2
 simp only [bD,MF]
 omega
theorem DB {p:Pln} {x st:Nat} {y:Itm} (h:y∈aI p x st):y.st=st:=by
 unfold aI at h
 simp only [MD,List.mem_map,List.mem_flatMap,List.mem_singleton] at h
 rcases h with (⟨_,_,rfl⟩ | ⟨g,_,h⟩) | rfl
 ·rfl
 ·unfold dg at h
  simp only [MD,List.mem_map,List.mem_flatMap] at h
  rcases h with (⟨_,_,rfl⟩ | ⟨_,_,_,_,_,_,h⟩) | ⟨_,_,rfl⟩
  ·rfl
  ·unfold bY at h
   obtain ⟨_,_,rfl⟩:=List.mem_map.1 h
   rfl
  ·rfl
 ·rfl
theorem vx {i:Inp} {x st nx:Nat} {y:Itm} (h:(cR i x st)[nx]?=some y):y.st=st:=by
 unfold cR at h
 by_cases hc:st<i.cfg.steps.toNat
 ·rw [if_pos hc] at h;exact DB (List.mem_of_getElem? h)
 ·rw [if_neg hc] at h;simp at h
theorem GQ {i:Inp} (hs:cK i) {x:Nat} {m:Mst} (h:m.nx<(cR i x m.st).length):bD i x m+1<=48000000:=by
 obtain ⟨h1,v⟩:=qK hs h
 have o:=mQ hs.ok x 0
 have p:m.st<=5:=by have:=hs.s;omega
 have A:=Nat.mul_le_mul p o
 have u:m.st*(aI (aB i) x 0).length+(aI (aB i) x 0).length=(m.st+1)*(aI (aB i) x 0).length:=(MF _ _).symm
 have y:=Nat.mul_le_mul (show m.st+1<=6 by omega) o
 simp only [bD]
 omega
theorem aT.mlt {H:Nat->Prop} {w:World} {b x:Nat} {i:Inp} {a:MAd} {m:Mst} (h:aT H w b i x a m):∀k,Mut b a k->k<w.heap.size:=by
 rintro k (rfl | rfl | rfl | rfl | rfl | hk)
 ·exact LN h.blk
 ·exact (h.oP.lt _ rfl).2
 ·exact (h.oM.lt _ rfl).2
 ·exact (h.oG.lt _ rfl).2
 ·obtain ⟨rows,o,_⟩:=h.re
  exact (o.lt _ rfl).2
 ·exact (h.oO.lt _ hk).2
theorem CS {w:World} {P x:Nat} {i:Inp} {u a1 B D H h:Value} (hP:eQ w P (aB i) u a1 B D H (MO (i.cfg.steps.toNat:Nat)) h) (hs:cK i) (I:x<(aB i).W) (st:Nat):
  Calls prog 87 #[(au P),MO x,MO (st:Nat)] w fun e p=>∃A c,e=.returned (.slice A (cR i x st).length c)/\Rd p A (cu (cR i x st))/\(∀y,A=some y->w.heap.size<=y.block)/\aq w p:=by
 unfold cR
 by_cases hc:st<i.cfg.steps.toNat
 ·rw [if_pos hc]
  refine (tO (aB i) P x st i.cfg.steps.toNat u a1 B D H h w hs.ok hs.n1 I hc hP).mono ?_
  rintro e p ⟨v,rfl,o,k⟩
  obtain ⟨A,c,rfl,_⟩:=aD o
  exact ⟨A,c,rfl,Rd.own o,fun y C=>(fR o y C).1,k⟩
 ·rw [if_neg hc]
  refine (tM (aB i) P x st i.cfg.steps.toNat u a1 B D H h w I ap hP).mono ?_
  rintro e p ⟨rfl,rfl⟩
  exact ⟨none,0,rfl,Rd.nil _ _,(fun y C=>by cases C),br w⟩
def Fxd (a a1:MAd):Prop:=a1.bp=a.bp/\a1.bm=a.bm/\a1.bg=a.bg
def Did (H G:Nat->Prop) (b:Nat) (i:Inp) (x:Nat) (a:MAd) (m:Mst) (n:Nat) (T:World->Mst->Prop) (w h:World):Prop:=∃a1 m1,aT H h b i x a1 m1/\m1.st=m.st/\m1.nx=m.nx/\Keep (fun k=>Mut b a k\/G k) w h/\(∀k,Mut b a1 k->Mut b a k\/n<=k)/\Fxd a a1/\T h m1
def LL (G:Nat->Prop) (b:Nat) (i:Inp) (x:Nat) (a:MAd) (m:Mst) (n:Nat) (T:(Nat->Prop)->World->Mst->Prop) (w h:World):Prop:=∃H a1 m1,aT H h b i x a1 m1/\(∀k,Mut b a1 k->¬H k)/\(∀k,h.heap.size<=k->¬H k)/\m1.st=m.st/\m1.nx=m.nx/\Keep (fun k=>Mut b a k\/G k) w h/\(∀k,Mut b a1 k->Mut b a k\/n<=k)/\Fxd a a1/\T H h m1
def yi (H G:Nat->Prop) (b:Nat) (i:Inp) (x:Nat) (a:MAd) (m:Mst) (T:World->Mst->Prop) (w h:World):Prop:=∃o m1,aT H h b i x o (adv i x m1)/\m1.st=m.st/\m1.nx=m.nx/\Keep (fun k=>Mut b a k\/G k) w h/\(∀k,Mut b o k->Mut b a k\/w.heap.size<=k)/\Fxd a o/\T h m1
def ID (G:Nat->Prop) (b:Nat) (i:Inp) (x:Nat) (a:MAd) (m:Mst) (T:(Nat->Prop)->World->Mst->Prop) (w h:World):Prop:=∃H o m1,aT H h b i x o (adv i x m1)/\(∀k,Mut b o k->¬H k)/\(∀k,h.heap.size<=k->¬H k)/\m1.st=m.st/\m1.nx=m.nx/\Keep (fun k=>Mut b a k\/G k) w h/\(∀k,Mut b o k->Mut b a k\/w.heap.size<=k)/\Fxd a o/\T H h m1
theorem xn {H G:Nat->Prop} {w:World} {b x:Nat} {i:Inp} {a:MAd} {m:Mst} (h:aT H w b i x a m) (hn:∀k,Mut b a k->¬H k) (aG:∀k,w.heap.size<=k->¬H k) (bn:∀k,G k->k<w.heap.size) (hs:cK i) {y:Itm} (hy:(cR i x m.st)[m.nx]?=some y) (u v:Option Addr)
  (f:Nat) (hf:∀p,Sem.run prog (Instr.index 328 (.agg MQ) (MO (y.kind:Nat))) p=.ok (.func (.func f) #[] #[]) p) (cf:∀args w,(callFunc f args).run prog w=.ok (.enter f args) w)
  (FP:Int->Prop) (T:(Nat->Prop)->World->Mst->Prop) (hT:∀H1 B w2 m1,T H1 B m1->Keep (fun k=>k=b) B w2->T H1 w2 m1)
  (hd:∀p,aq w p->Calls prog f #[(au b),.agg (bq y).toArray,.agg #[.pointer u,.pointer v]] p fun e bX=>(e=.returned (MO 0)/\LL G b i x a m w.heap.size T p bX)\/(∃C:Int,C≠0/\FP C/\e=.returned (MO C)/\aq p bX)):
  Calls prog 216 #[(au b),.pointer u,.pointer v] w fun e p=>(e=.returned (MO 0)/\ID G b i x a m T w p)\/(∃C:Int,C≠0/\FP C/\e=.returned (MO C)/\aq w p):=by
 have N:=ub h hy
 have bi:=Bn y
 obtain ⟨k0,k1,k2,b0,b1,i0,i1,i2,i3,i4,i5,i6,a8⟩:=Jl y
 have e0:(y.kind:Int)=k0:=by have:=a8;simp only [bq,List.cons.injEq,Value.int.injEq,true_and] at this;exact this.1
 have e1:(y.st:Int)=k1:=by have:=a8;simp only [bq,List.cons.injEq,Value.int.injEq,true_and] at this;exact this.2.1
 rw [a8] at N hd
 rw [e0] at hf
 have cc:=(Mp.1 hy).1
 have av:=h.mlt
 obtain ⟨d0,Hd,Hf,co,HM,HT,cA,Hn⟩:=ak N hd hf cf h hT cc hn;obtain ⟨d3,Hs,E1,Hy,ct,cP⟩:=ai aG hs e1 hy av bn;clear av bn N hd hf cf h hT cc hn aG bi a8 e0 e1 hs hy
 go_enter func216,ntmps216
 go_wp2_with fail
 refine d0.o.mono ?_
 rintro e B ⟨rfl,q1⟩
 have g2:=LP B (.cells #[MO k0,MO k1,MO k2,.bool b0,.bool b1,MO i0,MO i1,MO i2,MO i3,MO i4,MO i5,MO i6] 152)
 have q2:aq w (B.alloc (.cells #[MO k0,MO k1,MO k2,.bool b0,.bool b1,MO i0,MO i1,MO i2,MO i3,MO i4,MO i5,MO i6] 152)):=q1.alloc q1.size _
 obtain ⟨W2,bz⟩:∃W2,B.alloc (.cells #[MO k0,MO k1,MO k2,.bool b0,.bool b1,MO i0,MO i1,MO i2,MO i3,MO i4,MO i5,MO i6] 152)=W2:=⟨_,rfl⟩
 rw [bz] at g2 q2
 have hX:w.heap.size<=B.heap.size:=q1.size
 go_wp2_with fail
 clear bz q1
 obtain ⟨G2,Q2⟩:=ae g2 q2
 have t0:∀p,aq W2 p->p.cell? (ar B.heap.size 0)=some (MO k0):=fun p q=>LQ p B.heap.size 0 _ _ _ (sb g2 p q)
 have tl:=sl g2
 clear g2 q2
 have b4:=fun p=>Hf.o p
 go_cut [9] (fun v wx=>∃J,v=(au J)/\wx.heap[J]?=some (.cells #[MO k0,MO k1,MO k2,.bool b0,.bool b1,MO i0,MO i1,MO i2,MO i3,MO i4,MO i5,MO i6,.func (.func f) #[] #[]] 331 (0,0))/\aq W2 wx)
 case first=>
  refine HA.g (fun p:World=>aq W2 p) ?_
  have q3:=(br W2).drew
  refine HA.ld 0 #[MO k0,MO k1,MO k2,.bool b0,.bool b1,MO i0,MO i1,MO i2,MO i3,MO i4,MO i5,MO i6] (fun p q=>sb G2.o p q) AN q3 ?_
  refine HA.t ?_ [2,3] q3 ?_
  refine HA.two 1 6 ?_ ?_
  ·refine HAS.c (rO _) ?_
   rintro e D ⟨rfl,k3⟩
   have q4:=q3.trans (k3.mono q3.size)
   refine ⟨_,rfl,q4,fun _=>?_⟩
   refine HA.t ?_ [4,5] q4 ?_
   refine HA.v 6 (D.alloc (.cells MS 331)) ((au D.heap.size)) (q4.alloc q4.size _) ?_
   refine HA.st 7 (LP D _) EJ (fun R e9 k9=>?_)
   have q9:=q4.trans ((aU k9).mono q4.size)
   refine ⟨q9,HA.d ?_⟩
   obtain ⟨E9,Q9⟩:=ae e9 q9;clear e9 k9 q9 q4 q3 k3 b4 t0 tl
   go_wp2_with fail
   go_meet
   exact ⟨_,rfl,E9.o,Q9.o⟩
  ·refine HAS.v (W2.drew.alloc (.cells MS 331)) ((au W2.heap.size)) (q3.alloc (LO _) _) ?_
   have gJ:=LP W2.drew (.cells MS 331)
   rw [MB] at gJ
   have q4:=q3.alloc (LO _) (.cells MS 331)
   obtain ⟨W3,c6⟩:∃W3,W2.drew.alloc (.cells MS 331)=W3:=⟨_,rfl⟩
   rw [c6] at gJ q4 ⊢
   clear c6
   refine HA.c 1 (rO _) ?_
   rintro e D ⟨rfl,k3⟩
   have q5:=q4.trans (k3.mono q4.size)
   refine ⟨_,rfl,q5,fun _=>?_⟩
   refine HA.t ?_ [4,5] q5 ?_
   refine HA.st 7 (sb gJ _ k3) EJ (fun R e9 k9=>?_)
   have q9:=q5.trans (k9.toBelow q5.size (fun j hj=>by rw [hj];exact LO _))
   refine ⟨q9,HA.d ?_⟩
   obtain ⟨E9,Q9⟩:=ae e9 q9;clear e9 k9 q9 q4 q5 q3 k3 b4 t0 tl gJ
   go_wp2_with fail
   go_meet
   exact ⟨_,rfl,E9.o,Q9.o⟩
 case rest=>
  obtain ⟨J,rfl,gJ,qJ⟩:=hcut
  clear t0 tl b4
  have bv:=LQ wc J 12 _ _ _ gJ
  have lJ:=LN gJ
  have bh:wc.cell? (ar J 12)=some (.func (.func f) #[] #[]):=bv
  clear bv
  have GJ:=aa gJ
  have bV:=Q2.o.trans (qJ.mono Q2.o.size)
  obtain ⟨QJ,B0⟩:=ae qJ bV;clear gJ qJ bV
  have ci:=co.o
  go_wp2_with (refine aS #[MO k0,MO k1,MO k2,.bool b0,.bool b1,MO i0,MO i1,MO i2,MO i3,MO i4,MO i5,MO i6] GJ.o AN rfl rfl rfl rfl ?_)
  refine (Hd.o wc B0.o).mono ?_
  rintro e D (⟨rfl,H1,a1,m1,b8,be,ao,b3,N,hk,cd,bw,ht⟩ | ⟨C,hC,cy,rfl,k3⟩)
  rotate_left
  ·have dr:(C != 0)=true:=by rw [bne_iff_ne];exact hC
   have K3:=aa (B0.o.trans (k3.mono B0.o.size));clear k3
   go_wp2_with fail
   go_ret
   exact .inr ⟨C,hC,cy,rfl,K3.o⟩
  ·have Q:m1.nx<(cR i x m1.st).length:=by rw [b3,N];exact cA.o
   have cv:=GQ Hs.o Q
   obtain ⟨dn,b2⟩:∃dn,bD i x m1=dn:=⟨_,rfl⟩
   obtain ⟨il,ab⟩:∃il,(cR i x m1.st).length=il:=⟨_,rfl⟩
   have A:=b8.blk
   rw [b2] at A cv
   rw [ab] at A Q
   have lb:=LN A
   have cr:D.cell? (ar b 16)=some (MO (m1.nx:Nat)):=LQ D b 16 _ _ _ A
   have cw:D.cell? (ar b 17)=some (MO (dn:Nat)):=LQ D b 17 _ _ _ A
   have aR:=LX D b 16 _ _ A
   have cn:=LX D b 17 _ _ A
   have d8:IntKind.i64.wrap ((dn:Int)+1)=((dn+1:Nat):Int):=by rw [LT _ ap];push_cast;rfl
   have d4:il<=8000000:=by rw [<-ab,(qK Hs.o (x:=x) (st:=m1.st) (nx:=m1.nx) ap).2];exact mQ Hs.o.ok x 0
   have d7:IntKind.i64.wrap ((m1.nx:Int)+1)=((m1.nx+1:Nat):Int):=by rw [LT _ ap];push_cast;rfl
   have g5:=ss2 (i:=17) (j:=16) (v:=MO ((dn:Int)+1)) (u:=MO ((m1.nx:Int)+1)) A rfl
   have k5:Keep (fun k=>k=b) D ((D.setCell (ar b 17) (MO ((dn:Int)+1))).setCell (ar b 16) (MO ((m1.nx:Int)+1))):=Keep.setCell (S:=fun k=>k=b) (Keep.setCell (S:=fun k=>k=b) (Keep.refl _ _) _ (.inr rfl) _) _ (.inr rfl) _
   obtain ⟨G5,K5,Z,Hk,bl,Ht,bA,aM⟩:=ak g5 k5 b8 hk cd ht bw b3;obtain ⟨ad,a6,a3,bf,I,b7⟩:=ai N be ao b2 ab Q;clear b8 hk cd ht bw b3 N be ao b2 ab g5 k5 A Q bh lJ ci
   go_wp2_with fail
   obtain ⟨W5,bM⟩:∃W5,(D.setCell (ar b 17) (MO ((dn:Int)+1))).setCell (ar b 16) (MO ((m1.nx:Int)+1))=W5:=⟨_,rfl⟩
   have g5:=G5.o
   have k5:=K5.o
   rw [bM] at g5 k5 ⊢
   clear G5 K5 bM cr cw aR cn
   have cj:b<W5.heap.size:=LN g5
   have bI:∀p,aq W5 p->p.cell? (ar b 15)=some (.slice a1.IA (cR i x m1.st).length a1.ic):=fun p q=>by rw [I.o];exact LQ p b 15 _ _ _ (sb g5 p q)
   rw [I.o] at bI
   have cY:∀p,aq W5 p->p.cell? (ar b 16)=some (MO ((m1.nx:Int)+1)):=fun p q=>LQ p b 16 _ _ _ (sb g5 p q)
   obtain ⟨G5,K5⟩:=ae g5 k5;clear g5 k5
   have q5:=(br W5).drew
   refine HA.g (fun p:World=>aq W5 p) ?_
   refine HA.t ?_ [0,1,2,3,4,5,6,7,8,9] q5 ?_
   refine HA.d ?_
   have k6:Keep (fun k=>k=b) D W5.drew:=K5.o.drew
   have g6:=sb G5.o _ q5
   obtain ⟨V,b9⟩:∃V,W5.drew=V:=⟨_,rfl⟩
   rw [b9] at k6 g6 ⊢
   obtain ⟨G6,K6⟩:=ae g6 k6
   have l6:b<V.heap.size:=LN g6
   clear b9 q5 bI cY G5 K5 cj k6 g6
   by_cases a4:m1.nx+1=il
   rotate_left
   ·have cO:¬(m1.nx:Int)+1=il:=ap
    clear a4
    go_wp2_with fail
    go_ret
    have O:adv i x m1={m1 with st:=m1.st,nx:=m1.nx+1}:=if_pos (by rw [I.o];have:=b7.o;omega)
    have e:((bD i x {m1 with st:=m1.st,nx:=m1.nx+1}:Nat):Int)=(dn:Int)+1:=by rw [sD,bf.o];push_cast;rfl
    have e2:((m1.nx+1:Nat):Int)=(m1.nx:Int)+1:=by push_cast;rfl
    have hb:=G6.o
    rw [<-I.o,<-e,<-e2] at hb
    have hm:=Z.o.upd a6.o K6.o m1.st (m1.nx+1) a1.IA a1.ic hb (aV Z.o.it (bE (K6.o.mono fun k _ e=>.inl (.inl e)) (fun _ _ h=>h))) (.inl (by rw [I.o];have:=b7.o;omega))
    refine .inl ⟨rfl,H1,a1,m1,by rw [O];exact hm,a6.o,(fun k hk=>a3.o k (LU K6.o.size hk)),aM.o,ad.o,((Keep.below B0.o).trans Hk.o).trans (K6.o.mono fun k _ e=>.inl (.inl e)),bl.o,bA.o,HT.o H1 D V m1 Ht.o K6.o⟩
   ·have cO:(m1.nx:Int)+1=il:=ap
    have d1:k1=(m1.st:Int):=by rw [<-E1.o,vx Hy.o,aM.o]
    have dp:m1.st<6:=by have:=(qK Hs.o (x:=x) (st:=m1.st) (nx:=m1.nx) (by rw [I.o];exact b7.o)).1;have:=Hs.o.s;omega
    have cx:IntKind.i64.wrap ((m1.st:Int)+1)=((m1.st+1:Nat):Int):=by rw [LT _ ap];push_cast;rfl
    subst d1
    have g6:=G6.o
    have nw:¬(Mut b a B.heap.size\/G B.heap.size):=fun h=>h.elim (fun h=>by have:=ct.o _ h;omega) (fun h=>by have:=cP.o _ h;omega)
    have cL:B.heap.size<wc.heap.size:=LN (sb G2.o wc QJ.o)
    have g3:=(Hk.o.block _ cL nw).trans (sb G2.o wc QJ.o)
    have gB:=(K6.o.block B.heap.size (LN g3) (fun e=>nw (.inl (.inl e)))).trans g3
    have hS:V.drew.cell? (ar b 6)=some ((au a1.PP))/\V.drew.cell? (ar b 0)=some (MO (x:Nat))/\V.drew.cell? (ar B.heap.size 1)=some (MO (m1.st:Nat))/\Keep (fun k=>k=b) D V.drew:=⟨LQ V.drew b 6 _ _ _ g6,LQ V.drew b 0 _ _ _ g6,LQ V.drew B.heap.size 1 _ _ _ gB,K6.o.drew⟩
    obtain ⟨da,d9,dk,ds,dc,d5,bG⟩:=Z.o.pl
    have b5:=CS (gF bG (gH (S:=fT H1 b a1) (K6.o.drew.mono fun k _ e=>.inl (.inl e)))) Hs.o Z.o.xw (m1.st+1)
    rw [<-cx] at b5
    obtain ⟨cM,d2,GB⟩:=af b5 (show V.drew.heap[b]?=_ from g6) (show V.drew.heap[B.heap.size]?=_ from gB);clear a4 g6 gB g3 bG b5
    go_wp2_with fail
    refine HA.g (fun p:World=>p.cell? (ar b 6)=some ((au a1.PP))/\p.cell? (ar b 0)=some (MO (x:Nat))/\p.cell? (ar B.heap.size 1)=some (MO (m1.st:Nat))/\Keep (fun k=>k=b) D p) ?_
    refine HA.t ?_ [0,1,2,3,4,5,6,7,8,9,10,11,12,13,14] hS ?_
    refine HA.c 15 cM.o ?_
    rintro e w7 ⟨IA,ic,rfl,c7,c8,k7⟩
    have g7:=sb d2.o w7 k7
    have a7:=sb GB.o w7 k7
    have q7:=K6.o.drew.trans (Keep.below (S:=fun k=>k=b) k7)
    refine ⟨_,rfl,⟨LQ w7 b 6 _ _ _ g7,LQ w7 b 0 _ _ _ g7,LQ w7 B.heap.size 1 _ _ _ a7,q7⟩,fun c9=>?_⟩
    refine HA.t ?_ [16,17] c9 ?_
    obtain ⟨CL,bb⟩:∃CL,(cR i x (m1.st+1)).length=CL:=⟨_,rfl⟩
    rw [bb]
    have cb:=LQ w7 b 15 _ _ _ g7
    have cs:=LX w7 b 15 _ _ g7
    have g8:=ss (i:=15) (v:=.slice IA CL ic) g7 rfl
    have a0:Keep (fun k=>k=b) w7 (w7.setCell (ar b 15) (.slice IA CL ic)):=Keep.setCell (S:=fun k=>k=b) (Keep.refl _ _) _ (.inr rfl) _
    have a2:=(a0.block _ (LN a7) (fun e=>nw (.inl (.inl e)))).trans a7
    obtain ⟨Y,U⟩:∃Y,w7.setCell (ar b 15) (.slice IA CL ic)=Y:=⟨_,rfl⟩
    have a5:Y.cell? (ar b 6)=some ((au a1.PP))/\Y.cell? (ar b 0)=some (MO (x:Nat))/\Y.cell? (ar B.heap.size 1)=some (MO (m1.st:Nat))/\Keep (fun k=>k=b) D Y:=⟨by rw [<-U];exact LQ _ b 6 _ _ _ g8,by rw [<-U];exact LQ _ b 0 _ _ _ g8,by rw [<-U];exact LQ _ B.heap.size 1 _ _ _ a2,by rw [<-U];exact q7.trans a0⟩
    have bN:w7.cell? (ar b 15)=some (.slice a1.IA il a1.ic):=cb
    clear cb
    refine HA.s 18 Y a5 ?_
    rw [U] at g8 a2 a0
    clear U bN cs
    refine HA.t ?_ [19,20] a5 ?_
    have bs:Y.cell? (ar b 16)=some (MO ((m1.nx:Int)+1)):=LQ Y b 16 _ _ _ g8
    have aR:=LX Y b 16 _ _ g8
    have g9:=ss (i:=16) (v:=MO 0) g8 rfl
    have a9:Keep (fun k=>k=b) Y (Y.setCell (ar b 16) (MO 0)):=Keep.setCell (S:=fun k=>k=b) (Keep.refl _ _) _ (.inr rfl) _
    have bO:=(a9.block _ (LN a2) (fun e=>nw (.inl (.inl e)))).trans a2
    obtain ⟨R,L⟩:∃R,Y.setCell (ar b 16) (MO 0)=R:=⟨_,rfl⟩
    have aP:R.cell? (ar b 6)=some ((au a1.PP))/\R.cell? (ar b 0)=some (MO (x:Nat))/\R.cell? (ar B.heap.size 1)=some (MO (m1.st:Nat))/\Keep (fun k=>k=b) D R:=⟨by rw [<-L];exact LQ _ b 6 _ _ _ g9,by rw [<-L];exact LQ _ b 0 _ _ _ g9,by rw [<-L];exact LQ _ B.heap.size 1 _ _ _ bO,by rw [<-L];exact a5.2.2.2.trans a9⟩
    refine HA.s 21 R aP ?_
    refine HA.d ?_
    rw [L] at g9
    have K9:=aP.2.2.2
    have bo:Rd (aF (fT H1 b a1) R) IA (cu (cR i x (m1.st+1))):=by
     have cl:Keep (fun k=>k=b) w7 R:=by rw [<-L];exact a0.trans a9
     have bd:∀z,IA=some z->¬fT H1 b a1 z.block:=fun z hz hm=>by
      have b6:=c8 z hz
      have d6:=K6.o.size
      have h3:=Hk.o.size
      have h0:=B0.o.size
      have hw:w.heap.size<=z.block:=by rw [MB] at b6;omega
      rcases hm with hm | hm
      ·have:=Z.o.mlt _ hm
       rw [MB] at b6
       omega
      ·exact a3.o _ (by rw [MB] at b6;omega) hm
     exact lh (cl.rd c7 (fun z hz e=>bd z hz (.inl (.inl e)))) bd
    have O:adv i x m1={m1 with st:=m1.st+1,nx:=0}:=if_neg (by rw [I.o];omega)
    have e:((bD i x {m1 with st:=m1.st+1,nx:=0}:Nat):Int)=(dn:Int)+1:=by rw [sC Hs.o (by rw [I.o];omega),bf.o];push_cast;rfl
    rw [<-bb,<-e] at g9
    have ox:(0:Nat)<(cR i x (m1.st+1)).length\/((0:Nat)=0/\i.cfg.steps.toNat<=m1.st+1):=by
     unfold cR
     by_cases hc:m1.st+1<i.cfg.steps.toNat
     ·rw [if_pos hc];exact .inl (ji _ _ _)
     ·exact .inr ⟨rfl,by omega⟩
    have hm:=Z.o.upd a6.o K9 (m1.st+1) 0 IA ic g9 bo ox
    have HF:=aa (⟨H1,{a1 with IA:=IA,ic:=ic},m1,by rw [O];exact hm,a6.o,(fun k hk=>a3.o k (LU K9.size hk)),aM.o,ad.o,((Keep.below B0.o).trans Hk.o).trans (K9.mono fun k _ e=>.inl (.inl e)),bl.o,bA.o,HT.o H1 D R m1 Ht.o K9⟩:ID G b i x a m T w R);clear hm O bo ox e g9 bO a9 L aP K9 a5 c9 hS g8 a2 a0 g7 a7 q7 k7 c7 c8 bs aR
    go_wp2_with fail
    go_ret
    exact .inl ⟨rfl,HF.o⟩
theorem lq {H G:Nat->Prop} {w:World} {b x:Nat} {i:Inp} {a:MAd} {m:Mst} (h:aT H w b i x a m) (hn:∀k,Mut b a k->¬H k) (p:∀k,w.heap.size<=k->¬H k) (O:∀k,G k->k<w.heap.size) (hs:cK i) {y:Itm} (hy:(cR i x m.st)[m.nx]?=some y) (u v:Option Addr)
  (f:Nat) (B:∀o,Sem.run prog (Instr.index 328 (.agg MQ) (MO (y.kind:Nat))) o=.ok (.func (.func f) #[] #[]) o) (V:∀args w,(callFunc f args).run prog w=.ok (.enter f args) w)
  (R:Int->Prop) (T:World->Mst->Prop) (hT:∀D L m1,T D m1->Keep (fun k=>k=b) D L->T L m1)
  (hd:∀o,aq w o->Calls prog f #[(au b),.agg (bq y).toArray,.agg #[.pointer u,.pointer v]] o fun e A=>(e=.returned (MO 0)/\Did H G b i x a m w.heap.size T o A)\/(∃C:Int,C≠0/\R C/\e=.returned (MO C)/\aq o A)):
  Calls prog 216 #[(au b),.pointer u,.pointer v] w fun e o=>(e=.returned (MO 0)/\yi H G b i x a m T w o)\/(∃C:Int,C≠0/\R C/\e=.returned (MO C)/\aq w o):=by
 refine (xn h hn p O hs hy u v f B V R (fun Q w m=>Q=H/\T w m) (fun Q D L m1 Z k=>⟨Z.1,hT D L m1 Z.2 k⟩) (fun o q=>(hd o q).mono ?_)).mono ?_
 ·rintro e A (⟨he,a1,m1,h1,N,U,I,J,B,Y⟩ | h)
  ·exact .inl ⟨he,H,a1,m1,h1,fun k hk=>(J k hk).elim (hn k) (p k),fun k hk=>p k (LU (LU q.size I.size) hk),N,U,I,J,B,rfl,Y⟩
  ·exact .inr h
 ·rintro e o (⟨he,Q,a1,m1,h1, -, -,N,U,I,J,B,rfl,Y⟩ | h)
  ·exact .inl ⟨he,a1,m1,h1,N,U,I,J,B,Y⟩
  ·exact .inr h
theorem aT.setG {H:Nat->Prop} {w y:World} {b x:Nat} {i:Inp} {a:MAd} {m:Mst} (h:aT H w b i x a m) (hn:∀k,Mut b a k->¬H k) (hk:Keep (fun k=>k=a.bg) w y) (G:List Int)
  (oG:y.ownsRow 0 2 1 (.slice (some (ar a.bg 0)) i.start.length a.cg) i.start.length (aA .i64 G)) (wG:G.length=i.start.length/\W64 G):aT H y b i x a {m with G:=G}:=by
 have he:Ext (aF (fT H b a) w) (aF (fT H b a) y):=bE (hk.mono fun k _ e=>.inl (.inr (.inr (.inr (.inl e))))) (fun k _ Y=>Y)
 have hb:=(hk.block b (LN h.blk) (fun e=>ax h.blk (by decide) h.oG (by rw [e];rfl))).trans h.blk
 have o:∀{v:Value} {e size n xs},(∀j,v.ownBlock=some j->j≠a.bg)->w.ownsRow 0 e size v n xs->y.ownsRow 0 e size v n xs:=fun p o=>hk.own o (fun j u e=>p j u e)
 have D:∀{v:Value} {e:TypeId} {size n:Nat} {xs:List Value},e≠2->w.ownsRow 0 e size v n xs->∀j,v.ownBlock=some j->j≠a.bg:=fun p o j u e=>by
  rcases h.oG.2 with ⟨A,_⟩ | ⟨Z,_,_,A,_,hg,_⟩
  ·cases A
  ·simp only [MC,Option.some.injEq,Addr.mk.injEq] at A
   obtain ⟨⟨U,_⟩,_⟩:=A
   exact ax hg (Ne.symm p) o (by rw [u,e,U])
 obtain ⟨T,a1,V,L,N,B,O⟩:=h.pl
 obtain ⟨rows,C,R,I,J⟩:=h.re
 exact ⟨hb,fl h.sh he,eA cJ h.ex he,gE h.sa he,⟨T,a1,V,L,N,B,gF O he⟩,aV h.bu he,aV h.it he,⟨rows,o (D (by decide) C) C,R,I,fun j x Q=>cJ (J j x Q) he⟩,
  o (fun j u=>by cases u;exact h.dj.2.1) h.oP,o (fun j u=>by cases u;exact h.dj.2.2) h.oM,oG,o (D (by decide) h.oO) h.oO,h.dj,fun k _ hm=>hn k hm,h.wP,h.wM,wG,h.ox,h.xw⟩
theorem rV {p:Pln} {x st:Nat} {y:Itm} (h:y∈aI p x st) (hk:y.kind=1):y.n<p.mi:=by
 unfold aI at h
 simp only [MD,List.mem_map,List.mem_flatMap,List.mem_singleton,List.mem_range] at h
 rcases h with (⟨k,i,rfl⟩ | ⟨g,_,h⟩) | rfl
 ·exact i
 ·unfold dg at h
  simp only [MD,List.mem_map,List.mem_flatMap] at h
  rcases h with (⟨_,_,rfl⟩ | ⟨_,_,_,_,_,_,h⟩) | ⟨_,_,rfl⟩
  ·cases hk
  ·unfold bY at h
   obtain ⟨c,_,rfl⟩:=List.mem_map.1 h
   unfold gC at hk
   split at hk<;>cases hk
  ·cases hk
 ·cases hk
theorem dF {i:Inp} {x st nx:Nat} {y:Itm} (h:(cR i x st)[nx]?=some y):st<i.cfg.steps.toNat/\y∈aI (aB i) x st:=by
 unfold cR at h
 by_cases hc:st<i.cfg.steps.toNat
 ·rw [if_pos hc] at h;exact ⟨hc,List.mem_of_getElem? h⟩
 ·rw [if_neg hc] at h;simp at h
theorem rY (i:Inp) (P G:List Int) (h:W64 G):∀l:List Ex,W64 (ez i P G l):=by
 intro l
 induction l generalizing G with
 | nil=>exact h
 | cons e l ih=>exact ih _ (sM _ _)
theorem lC {i:Inp} {P:List Int} {n:Nat} (l:List Ex):∀G:List Int,G.length=n->(ez i P G l).length=n:=by
 induction l with
 | nil=>intro G h;exact h
 | cons e l ih=>intro G h;exact ih _ (by rw [iI];exact h)
theorem Keep.sub {S S':Nat->Prop} {w i:World} (h:Keep S w i) (hs:∀k,S k->S' k):Keep S' w i:=h.mono fun k _ hk=>hs k hk
theorem F4 {H:Nat->Prop} {w:World} {b x:Nat} {i:Inp} {a:MAd} {m:Mst} (h:aT H w b i x a m) (hn:∀k,Mut b a k->¬H k) (p:∀k,w.heap.size<=k->¬H k) (hs:cK i) {y:Itm} (D:(cR i x m.st)[m.nx]?=some y) (hk:y.kind=1) (u v:Option Addr):
  Calls prog 216 #[(au b),.pointer u,.pointer v] w fun e B=>e=.returned (MO 0)/\yi H (fun _=>False) b i x a m (fun _ m1=>m1={m with G:=ez i m.P m.G (dK i.data (oN i x m.st y.n))}) w B:=by
 obtain ⟨h1,N⟩:=dF D
 have O:=rV N hk
 have o:=vx D
 refine (lq h hn p (G:=fun _=>False) (fun _ h=>h.elim) hs D u v 224 (fun B=>by rw [hk];kernel_rfl) (fun args w=>by kernel_rfl) (fun _=>False) (fun _ m1=>m1={m with G:=ez i m.P m.G (dK i.data (oN i x m.st y.n))}) (fun _ _ _ h _=>h) (fun B q=>?_)).mono ?_
 ·have I:=h.below q hn
  refine (Ds I hs y (.pointer u) (.pointer v) rfl rfl (by rw [o];exact h1) O).mono ?_
  rintro e Q ⟨rfl,A,J⟩
  rw [o] at J
  exact .inl ⟨rfl,a,_,I.setG hn A _ J ⟨lC _ _ h.wG.1,rY _ _ _ h.wG.2 _⟩,rfl,rfl,A.sub (fun k e=>.inl (.inr (.inr (.inr (.inl e))))),fun k hm=>.inl hm,⟨rfl,rfl,rfl⟩,rfl⟩
 ·rintro e B (⟨rfl,L⟩ | ⟨C,_,R,_⟩)
  ·exact ⟨rfl,L⟩
  ·exact R.elim
theorem aT.setO {H:Nat->Prop} {w u:World} {b x:Nat} {i:Inp} {a:MAd} {m:Mst} (h:aT H w b i x a m) (hn:∀k,Mut b a k->¬H k) (A:∀k,w.heap.size<=k->¬H k) (ov:Value) (op:List Nat)
  (hk:Keep (fun k=>k=b\/a.ov.ownBlock=some k) w u) (hb:u.heap[b]?=some (.cells #[MO (x:Nat),MO i.cfg.workers,MO i.cfg.micros,.pointer (some ⟨({a with ov:=ov}:MAd).F,0,none⟩),.slice ({a with ov:=ov}:MAd).E i.data.length ({a with ov:=ov}:MAd).ce,.pointer (some ⟨({a with ov:=ov}:MAd).S,0,none⟩),.pointer (some ⟨({a with ov:=ov}:MAd).PP,0,none⟩),.slice ({a with ov:=ov}:MAd).BA (aB i).buks.length ({a with ov:=ov}:MAd).bc,MO i.cfg.rate,MO i.cfg.mom,MO i.cfg.shift,.slice (some ⟨({a with ov:=ov}:MAd).bp,0,none⟩) i.start.length ({a with ov:=ov}:MAd).cp,.slice (some ⟨({a with ov:=ov}:MAd).bm,0,none⟩) i.start.length ({a with ov:=ov}:MAd).cm,.slice (some ⟨({a with ov:=ov}:MAd).bg,0,none⟩) i.start.length ({a with ov:=ov}:MAd).cg,.slice (some ⟨({a with ov:=ov}:MAd).rb,0,none⟩) m.rc.length ({a with ov:=ov}:MAd).rc,.slice ({a with ov:=ov}:MAd).IA (cR i x m.st).length ({a with ov:=ov}:MAd).ic,MO (m.nx:Nat),MO (bD i x m:Nat),({a with ov:=ov}:MAd).ov] 179 (0,0)))
  (oO:u.ownsRow 0 3 1 ov op.length (aA .i64 (eJ op))) (hv:∀k,ov.ownBlock=some k->a.ov.ownBlock=some k\/w.heap.size<=k):aT H u b i x {a with ov:=ov} {m with op:=op}/\∀k,Mut b {a with ov:=ov} k->Mut b a k\/w.heap.size<=k:=by
 have p:∀k,Mut b {a with ov:=ov} k->Mut b a k\/w.heap.size<=k:=by
  rintro k (h1 | h1 | h1 | h1 | h1 | h1)
  ·exact .inl (.inl h1)
  ·exact .inl (.inr (.inl h1))
  ·exact .inl (.inr (.inr (.inl h1)))
  ·exact .inl (.inr (.inr (.inr (.inl h1))))
  ·exact .inl (.inr (.inr (.inr (.inr (.inl h1)))))
  ·exact (hv k h1).imp (fun y=>.inr (.inr (.inr (.inr (.inr y))))) id
 have he:Ext (aF (fT H b a) w) (aF (fT H b {a with ov:=ov}) u):=bE (hk.mono fun k _ e=>.inl (e.imp id fun y=>.inr (.inr (.inr (.inr y))))) (fun k hl hS=>hS.imp (fun h1=>(p k h1).elim id (fun y=>ap)) id)
 have o:∀{v:Value} {e:TypeId} {size n:Nat} {xs:List Value},e≠179->e≠3->w.ownsRow 0 e size v n xs->u.ownsRow 0 e size v n xs:=fun h1 y o=>hk.own o (fun j D e=>by
  rcases e with e | e
  ·exact ax h.blk (Ne.symm h1) o (by rw [D,e])
  ·rcases h.oO.2 with ⟨B,_⟩ | ⟨J,_,_,B,_,hg,_⟩
   ·rw [B] at e;cases e
   ·rw [B] at e
    have Y:J=j:=by simpa [Value.ownBlock] using e
    exact ax hg (Ne.symm y) o (by rw [D,Y]))
 obtain ⟨V,a1,Z,O,Q,C,R⟩:=h.pl
 obtain ⟨rows,L,U,I,N⟩:=h.re
 exact ⟨⟨hb,fl h.sh he,eA cJ h.ex he,gE h.sa he,⟨V,a1,Z,O,Q,C,gF R he⟩,aV h.bu he,aV h.it he,⟨rows,o (by decide) (by decide) L,U,I,fun j x T=>cJ (N j x T) he⟩,
  o (by decide) (by decide) h.oP,o (by decide) (by decide) h.oM,o (by decide) (by decide) h.oG,oO,h.dj,fun k _ hm=>(p k hm).elim (hn k) (A k),h.wP,h.wM,h.wG,h.ox,h.xw⟩,p⟩
theorem xi {H:Nat->Prop} {w:World} {b x:Nat} {i:Inp} {a:MAd} {m:Mst} (h:aT H w b i x a m) (hn:∀k,Mut b a k->¬H k) (L:∀k,w.heap.size<=k->¬H k) (hl:m.op.length<=1000) (y:Itm) (u v:Value) (hu:u.oneCell'=true) (hv:v.oneCell'=true):
  Calls prog 225 #[(au b),.agg (bq y).toArray,.agg #[u,v]] w fun e p=>e=.returned (MO 0)/\Did H (fun _=>False) b i x a m w.heap.size (fun _ m1=>m1={m with op:=m.op++[y.n]}) w p:=by
 have N:=h.blk
 obtain ⟨W0,W1,U,R,g0,g1,C, -⟩:=fQ w (bq y).toArray #[u,v] 152 333
 have I:=sb N _ C
 have Q:=ay h.oO C
 have nt:=fun c cs t' sg (a3:W1.heap[c]?=some (.cells cs t' sg)) (a0:t'≠3) (e:a.ov.ownBlock=some c)=>ax a3 a0 Q e.symm
 have kb:=fun p (q:Keep (fun j=>a.ov.ownBlock=some j) W1 p)=>(q.block b (LN I) (nt _ _ _ _ I (by decide))).trans I
 have k0:=fun p (q:Keep (fun j=>a.ov.ownBlock=some j) W1 p)=>(q.block w.heap.size (LN g0) (nt _ _ _ _ g0 (by decide))).trans g0
 have a4:∀p,Keep (fun j=>a.ov.ownBlock=some j) W1 p->p.cell? (ar b 18)=some a.ov:=fun p q=>LQ p b 18 _ _ _ (kb p q)
 have s2:∀p,Keep (fun j=>a.ov.ownBlock=some j) W1 p->p.cell? (ar w.heap.size 2)=some (MO (y.n:Nat)):=fun p q=>LQ p w.heap.size 2 _ _ _ (k0 p q)
 obtain ⟨a1,a2,KB,O1,K1,HM,Hn,Y⟩:=ak U R kb Q C h hn L;have NT:=aa (nt b _ _ _ I (by decide))
 have q0:Keep (fun j=>a.ov.ownBlock=some j) W1 W1.drew:=(Keep.refl _ _).drew
 have a5:w.heap.size<=W1.heap.size:=C.size
 clear U R g0 g1 C I Q nt kb k0 N h hn L
 go_enter func225,ntmps225
 go_wp2_with fail
 rw [a1.o,a2.o]
 refine XA.g 9 (fun p:World=>Keep (fun j=>a.ov.ownBlock=some j) W1 p) ?_
 refine XA.t ?_ [0,1,2,3,4,5,6] q0 ?_
 refine XA.v 7 (W1.drew.alloc (.cells #[MO (y.n:Nat)] 3)) (.slice (some (ar W1.heap.size 0)) 1 1) (q0.alloc _) ?_
 refine XA.o 8 (fun K' hK=>?_)
 have hO:=(O1.o.drew).alloc (.cells #[MO (y.n:Nat)] 3)
 refine bR iA (.tmp 11) (.tmp 14) rfl rfl 0 a.ov m.op.length _ rfl hO (some (ar W1.heap.size 0)) 1 1 [MO (y.n:Nat)] rfl (fun k u hu=>⟨_,_,rfl,by rw [MH,LQ _ W1.heap.size k _ 3 (0,0) (LP W1.drew _)];simpa using hu⟩) rfl (by simp [Value.oneCell']) ap (by unfold maxLen;omega) (LS _) ?_
 intro V c5 O o5 b5 g5 Z
 have q5:=(q0.alloc (.cells #[MO (y.n:Nat)] 3)).grown g5 (fun k hk=>.inr hk)
 refine hK.out _ _ q5 fun _=>?_
 refine XA.e ?_
 simp only [Mm,Mn]
 have B:=KB.o O q5
 have e8:=ss (i:=18) (v:=.slice V (m.op.length+1) c5) B rfl
 have k8:Keep (fun k=>k=b) O (O.setCell (ar b 18) (.slice V (m.op.length+1) c5)):=Keep.setCell (S:=fun k=>k=b) (Keep.refl _ _) _ (.inr rfl) _
 have o8:=k8.own o5 (fun j hj e=>ax B (by decide) o5 (by rw [hj,e]))
 have a7:O.cell? (ar b 18)=some a.ov:=LQ O b 18 _ _ _ B
 have a6:=LX O b 18 _ _ B
 have l5:=LN B
 have J:Keep (fun k=>k=b\/a.ov.ownBlock=some k) w (O.setCell (ar b 18) (.slice V (m.op.length+1) c5)):=((Keep.below K1.o).trans (q5.mono fun k _ e=>.inr e)).trans (k8.mono fun k _ e=>.inl e)
 have T:aA .i64 (eJ m.op)++[MO (y.n:Nat)]=aA .i64 (eJ (m.op++[y.n])):=by simp [eJ,aA]
 rw [T] at o8
 have A:(m.op++[y.n]).length=m.op.length+1:=by simp
 rw [<-A] at e8 o8 J
 have D:=HM.o.setO Hn.o Y.o (.slice V (m.op++[y.n]).length c5) (m.op++[y.n]) J e8 o8 (fun k hk=>by
  rcases Z with h1 | h1
  ·rw [A] at hk;exact .inl (by rw [<-h1];exact hk)
  ·rw [A] at hk;rw [h1] at hk;exact .inr (by simp at hk;omega))
 have HF:=aa (⟨{a with ov:=.slice V (m.op++[y.n]).length c5},{m with op:=m.op++[y.n]},D.1,rfl,rfl,J.sub (fun k e=>.inl (e.elim .inl (fun e=>.inr (.inr (.inr (.inr (.inr e))))))),D.2,⟨rfl,rfl,rfl⟩,rfl⟩:Did H (fun _=>False) b i x a m w.heap.size (fun _ m1=>m1={m with op:=m.op++[y.n]}) w _)
 rw [A] at HF
 clear D J T o8 e8 k8 B Z g5 b5 o5 q5 hO q0 a4 s2 hK K' A
 go_wp2_with fail
 go_ret
 exact ⟨rfl,HF.o⟩
theorem lj {e:TypeId} {base g n c:Nat}:∀(vs:List Value) (o:Nat) (w:World) (xs:List Value),w.ownsRow base e 1 (.slice (some (ar g 0)) n c) n xs->o+vs.length<=n->(w.setCells g o vs).ownsRow base e 1 (.slice (some (ar g 0)) n c) n (xs.take o++vs++xs.drop (o+vs.length))
 | [],o,w,xs,h,_=>by simpa [World.setCells] using h
 | v::vs,o,w,xs,h,hl=>by
  have u:xs.length=n:=by have:=h.1;omega
  simp only [List.length_cons] at hl
  have:=lj vs (o+1) _ _ (h.stored o v).1 ap
  have p:(xs.set o v).take (o+1)=xs.take o++[v]:=by
   rw [List.take_add_one,List.take_set_of_le (LO o)]
   simp [show o<xs.length by omega]
  have i:(xs.set o v).drop (o+1+vs.length)=xs.drop (o+(vs.length+1)):=by
   rw [List.drop_set_of_lt ap];congr 1;omega
  rw [p,i] at this
  simpa [World.setCells] using this
theorem kg {g:Nat}:∀(vs:List Value) (o:Nat) (w:World),Keep (fun j=>j=g) w (w.setCells g o vs)
 | [],_,w=>Keep.refl _ w
 | v::vs,o,w=>(Keep.setCell (S:=fun j=>j=g) (Keep.refl _ w) (ar g o) (.inr rfl) v).trans (kg vs (o+1) _)
theorem aT.setR {H:Nat->Prop} {w B:World} {b x:Nat} {i:Inp} {a:MAd} {m:Mst} (h:aT H w b i x a m) (hn:∀k,Mut b a k->¬H k) (C:∀k,w.heap.size<=k->¬H k) (rb rc:Nat) (e:Ex) (u1 u2:Value)
  (hk:Keep (fun k=>k=b\/k=a.rb) w B) (hb:B.heap[b]?=some (.cells #[MO (x:Nat),MO i.cfg.workers,MO i.cfg.micros,.pointer (some ⟨({a with rb:=rb,rc:=rc}:MAd).F,0,none⟩),.slice ({a with rb:=rb,rc:=rc}:MAd).E i.data.length ({a with rb:=rb,rc:=rc}:MAd).ce,.pointer (some ⟨({a with rb:=rb,rc:=rc}:MAd).S,0,none⟩),.pointer (some ⟨({a with rb:=rb,rc:=rc}:MAd).PP,0,none⟩),.slice ({a with rb:=rb,rc:=rc}:MAd).BA (aB i).buks.length ({a with rb:=rb,rc:=rc}:MAd).bc,MO i.cfg.rate,MO i.cfg.mom,MO i.cfg.shift,.slice (some ⟨({a with rb:=rb,rc:=rc}:MAd).bp,0,none⟩) i.start.length ({a with rb:=rb,rc:=rc}:MAd).cp,.slice (some ⟨({a with rb:=rb,rc:=rc}:MAd).bm,0,none⟩) i.start.length ({a with rb:=rb,rc:=rc}:MAd).cm,.slice (some ⟨({a with rb:=rb,rc:=rc}:MAd).bg,0,none⟩) i.start.length ({a with rb:=rb,rc:=rc}:MAd).cg,.slice (some ⟨({a with rb:=rb,rc:=rc}:MAd).rb,0,none⟩) ({m with rc:=m.rc++[e]}:Mst).rc.length ({a with rb:=rb,rc:=rc}:MAd).rc,.slice ({a with rb:=rb,rc:=rc}:MAd).IA (cR i x ({m with rc:=m.rc++[e]}:Mst).st).length ({a with rb:=rb,rc:=rc}:MAd).ic,MO (({m with rc:=m.rc++[e]}:Mst).nx:Nat),MO (bD i x m:Nat),({a with rb:=rb,rc:=rc}:MAd).ov] 179 (0,0)))
  (rows:List (List Value)) (r2:rows.length=m.rc.length) (r3:∀r∈rows,r.length=2) (r4:∀j x,m.rc[j]?=some x->rEx (aF (fT H b a) w) (cq rows j) x) (o':B.ownsRow 0 141 2 (.slice (some (ar rb 0)) (m.rc++[e]).length rc) (m.rc++[e]).length (List.flatten rows++[u1,u2]))
  (hu:dR B w.heap.size [u1,u2] e) (hv:rb=a.rb\/w.heap.size<=rb):aT H B b i x {a with rb:=rb,rc:=rc} {m with rc:=m.rc++[e]}/\∀k,Mut b {a with rb:=rb,rc:=rc} k->Mut b a k\/w.heap.size<=k:=by
 have I:∀k,Mut b {a with rb:=rb,rc:=rc} k->Mut b a k\/w.heap.size<=k:=by
  rintro k (h1 | h1 | h1 | h1 | h1 | h1)
  ·exact .inl (.inl h1)
  ·exact .inl (.inr (.inl h1))
  ·exact .inl (.inr (.inr (.inl h1)))
  ·exact .inl (.inr (.inr (.inr (.inl h1))))
  ·have a6:k=rb:=h1
   exact hv.imp (fun D=>.inr (.inr (.inr (.inr (.inl (a6.trans D)))))) (fun D=>ap)
  ·exact .inl (.inr (.inr (.inr (.inr (.inr h1)))))
 have he:Ext (aF (fT H b a) w) (aF (fT H b {a with rb:=rb,rc:=rc}) B):=bE (hk.mono fun k _ e=>.inl (e.elim .inl fun D=>.inr (.inr (.inr (.inr (.inl D)))))) (fun k hl hS=>hS.imp (fun h1=>(I k h1).elim id (fun D=>ap)) id)
 obtain ⟨a0,a1,a2,a3,a5,V,hp⟩:=h.pl
 obtain ⟨_,r1,_⟩:=h.re
 have u:∀{v:Value} {e:TypeId} {size n:Nat} {xs:List Value},e≠179->e≠141->w.ownsRow 0 e size v n xs->B.ownsRow 0 e size v n xs:=fun h1 D Y=>hk.own Y (fun j O e=>by
  rcases e with e | e
  ·exact ax h.blk (Ne.symm h1) Y (by rw [O,e])
  ·rcases r1.2 with ⟨p,_⟩ | ⟨r',_,_,p,_,hg,_⟩
   ·cases p
   ·simp only [MC,Option.some.injEq,Addr.mk.injEq] at p
    obtain ⟨⟨J,_⟩,_⟩:=p
    exact ax hg (Ne.symm D) Y (by rw [O,e,J]))
 obtain ⟨v1,v2,hcs,U,T,z3,z4,z5,z6⟩:=hu
 simp only [List.cons.injEq,and_true] at hcs
 obtain ⟨rfl,rfl⟩:=hcs
 obtain ⟨A1,c1,rfl,a7⟩:=aD U
 obtain ⟨Q,c2,rfl,a4⟩:=aD T
 have L:∀{A:Option Addr} {n c:Nat} {xs:List Value},B.ownsRow w.heap.size 2 1 (.slice A n c) n xs->∀y,A=some y->¬fT H b {a with rb:=rb,rc:=rc} y.block:=fun N y hy hm=>by
  have h1:=(fR N y hy).1
  rcases hm with hm | hm
  ·rcases hm with hm | hm | hm | hm | hm | hm
   ·have:=h.mlt _ (.inl hm);omega
   ·have:=h.mlt _ (.inr (.inl hm));omega
   ·have:=h.mlt _ (.inr (.inr (.inl hm)));omega
   ·have:=h.mlt _ (.inr (.inr (.inr (.inl hm))));omega
   ·have R:y.block=rb:=hm
    rcases o'.2 with ⟨p,_⟩ | ⟨r',_,_,p,_,hg,_⟩
    ·cases p
    ·simp only [MC,Option.some.injEq,Addr.mk.injEq] at p
     obtain ⟨⟨J,_⟩,_⟩:=p
     exact ax hg (by decide) N (by rw [hy];show some r'=some y.block;rw [R,J])
   ·have:=h.mlt _ (.inr (.inr (.inr (.inr (.inr hm)))));omega
  ·exact C _ h1 hm
 refine ⟨⟨hb,fl h.sh he,eA cJ h.ex he,gE h.sa he,⟨a0,a1,a2,a3,a5,V,gF hp he⟩,aV h.bu he,aV h.it he,⟨rows++[[.slice A1 e.1.length c1,.slice Q e.2.length c2]],?_,by simp [r2],?_,fun j z N=>?_⟩,
  u (by decide) (by decide) h.oP,u (by decide) (by decide) h.oM,u (by decide) (by decide) h.oG,u (by decide) (by decide) h.oO,h.dj,fun k _ hm=>(I k hm).elim (hn k) (C k),h.wP,h.wM,h.wG,h.ox,h.xw⟩,I⟩
 ·rw [My,List.flatten_cons,List.flatten_nil,List.append_nil];exact o'
 ·intro r hr
  rcases MD.1 hr with hr | hr
  ·exact r3 r hr
  ·rw [List.mem_singleton.1 hr];rfl
 ·rcases Ma j m.rc.length with O | O
  ·have o:(m.rc++[e])[j]?=some z:=N
   rw [Mr O] at o
   have J:cq (rows++[[.slice A1 e.1.length c1,.slice Q e.2.length c2]]) j=cq rows j:=by simp [cq,Mr (show j<rows.length by omega)]
   rw [J];exact cJ (r4 j z o) he
  ·have o:(m.rc++[e])[j]?=some z:=N
   have Z:j=m.rc.length:=by have:=(Mp.1 o).1;simp at this;omega
   subst Z
   simp at o
   subst o
   have J:cq (rows++[[.slice A1 e.1.length c1,.slice Q e.2.length c2]]) m.rc.length=[.slice A1 e.1.length c1,.slice Q e.2.length c2]:=by rw [<-r2];simp [cq]
   rw [J]
   exact ⟨A1,c1,Q,c2,rfl,⟨a7,z3,lh (Rd.own U) (L U),z5⟩,⟨a4,z4,lh (Rd.own T) (L T),z6⟩⟩
theorem DN {w:World} {g n c:Nat} {xs:List Value} (p:TypeId) (h:w.ownsRow 0 2 1 (.slice (some (ar g 0)) n c) n xs) (hn:0<n):
  (Builtin.clear_ #[139] p #[.slice (some (ar g 0)) n c]).run prog w=.ok (.tuple #[]) (w.setCells g 0 (List.replicate n (MO 0))):=by
 obtain ⟨i,v,o,_⟩:=lE.info
 have hl:=h.1
 refine Lib.run_clear_slice w 139 2 p (MO 0) lE.und (fun x=>?_) rfl rfl g 0 n c hn (fun j u=>?_) (fun j u=>?_)
 ·simp [zeroValue,typeInfo,v,o]
 ·rw [MH,h.cellAt j ap,Mq ap];rfl
 ·rw [MH];exact h.frozenAt j
theorem xh {H:Nat->Prop} {w:World} {b x:Nat} {i:Inp} {a:MAd} {m:Mst} (h:aT H w b i x a m) (hn:∀k,Mut b a k->¬H k) (U:∀k,w.heap.size<=k->¬H k) (hs:cK i) (hl:m.rc.length<=1000) (y:Itm) (u v:Value) (hu:u.oneCell'=true) (hv:v.oneCell'=true):
  Calls prog 229 #[(au b),.agg (bq y).toArray,.agg #[u,v]] w fun e p=>e=.returned (MO 0)/\Did H (fun _=>False) b i x a m w.heap.size (fun _ m1=>m1={m with rc:=m.rc++[(m.P,m.M)],G:=List.replicate i.start.length 0}) w p:=by
 have D:=h.blk
 have aM:=hs.n
 have a6:0<i.start.length:=hs.n1
 obtain ⟨W0,W1,a3,a2,g0,g1,J, -⟩:=fQ w (bq y).toArray #[u,v] 152 333
 obtain ⟨rows,r1,r2,r3,r4⟩:=h.re
 have O:=sb D _ J
 have a1:=ay r1 J
 have nt:b≠a.rb:=fun e=>by
  rcases r1.2 with ⟨e',_⟩ | ⟨r',_,_,e',_,hg,_⟩
  ·cases e'
  ·simp only [MC,Option.some.injEq,Addr.mk.injEq] at e'
   obtain ⟨⟨e1,_⟩,_⟩:=e'
   rw [e,e1,hg] at D
   simp at D
 have kb:=fun p (q:Keep (fun j=>j=a.rb) W1 p)=>(q.block b (LN O) nt).trans O
 have aG:∀p,Keep (fun j=>j=a.rb) W1 p->p.cell? (ar b 14)=some (.slice (some (ar a.rb 0)) m.rc.length a.rc):=fun p q=>LQ p b 14 _ _ _ (kb p q)
 have a7:∀p,Keep (fun j=>j=a.rb) W1 p->p.cell? (ar b 11)=some (.slice (some (ar a.bp 0)) i.start.length a.cp):=fun p q=>LQ p b 11 _ _ _ (kb p q)
 have a9:∀p,Keep (fun j=>j=a.rb) W1 p->p.cell? (ar b 12)=some (.slice (some (ar a.bm 0)) i.start.length a.cm):=fun p q=>LQ p b 12 _ _ _ (kb p q)
 have a5:=fun p (q:aq W1 p)=>jS (some (ar a.bp 0)) (some (ar a.bm 0)) i.start.length a.cp a.cm m.P m.M p (Rd.own (ay (ay h.oP J) q)) (Rd.own (ay (ay h.oM J) q)) h.wP.1 h.wM.1 ap
 obtain ⟨av,ab,KB,R1,K1,Q,Hn,T⟩:=ak a3 a2 kb a1 J h hn U;obtain ⟨NT,ad,R2,R3,R4⟩:=ah nt a5 r2 r3 r4
 have q0:Keep (fun j=>j=a.rb) W1 W1.drew:=(Keep.refl _ _).drew
 have tl:=fun p (q:Keep (fun j=>j=a.rb) W1 p)=>LV (LN O) q.size
 clear a3 a2 g0 g1 J O a1 nt kb D h hn U a5 r1 r2 r3 r4
 go_enter func229,ntmps229
 go_wp2_with fail
 rw [av.o,ab.o]
 refine XA.g 12 (fun p:World=>Keep (fun j=>j=a.rb) W1 p) ?_
 refine XA.t ?_ [0,1,2,3,4,5,6,7,8] q0 ?_
 refine XA.c 9 (ad.o _ ((br W1).drew)) ?_
 rintro e R ⟨A1,c1,V,c2,rfl,b4,b0,o1,o2, -,k3⟩
 have b3:aq W1 R:=(br W1).drew.trans k3
 have q3:Keep (fun j=>j=a.rb) W1 R:=Keep.below b3
 refine ⟨_,rfl,q3,fun _=>?_⟩
 refine XA.v 10 (R.alloc (.cells #[.slice A1 i.start.length c1,.slice V i.start.length c2] 141)) (.slice (some (ar R.heap.size 0)) 1 1) (q3.alloc _) ?_
 refine XA.o 11 (fun K' hK=>?_)
 have hO:=(ay R1.o b3).alloc (.cells #[.slice A1 i.start.length c1,.slice V i.start.length c2] 141)
 refine bR GE (.tmp 11) (.tmp 17) rfl rfl 0 (.slice (some (ar a.rb 0)) m.rc.length a.rc) m.rc.length _ rfl hO (some (ar R.heap.size 0)) 1 1 [.slice A1 i.start.length c1,.slice V i.start.length c2] rfl (fun k u hu=>⟨_,_,rfl,by rw [MH,LQ _ R.heap.size k _ 141 (0,0) (LP R _)];simpa using hu⟩) rfl (by simp [Value.oneCell']) ap (by unfold maxLen;omega) (LS _) ?_
 intro A5 c5 L o5 b5 g5 a0
 have ao:∃g,A5=some (ar g 0):=by
  obtain ⟨g,_,e,_⟩:=o5.form ap
  simp only [MC] at e
  exact ⟨g,e.1⟩
 obtain ⟨g,rfl⟩:=ao
 have q5:=(q3.alloc (.cells #[.slice A1 i.start.length c1,.slice V i.start.length c2] 141)).grown g5 (fun k hk=>.inr (by cases hk;rfl))
 refine hK.out _ _ q5 fun _=>?_
 refine XA.e ?_
 simp only [Mm,Mn]
 have B:=KB.o L q5
 have C:(m.rc++[(m.P,m.M)]).length=m.rc.length+1:=by simp
 have e8:=ss (i:=14) (v:=.slice (some (ar g 0)) (m.rc.length+1) c5) B rfl
 have k8:Keep (fun k=>k=b) L (L.setCell (ar b 14) (.slice (some (ar g 0)) (m.rc.length+1) c5)):=Keep.setCell (S:=fun k=>k=b) (Keep.refl _ _) _ (.inr rfl) _
 have o8:=k8.own o5 (fun j hj e=>ax B (by decide) o5 (by rw [hj,e]))
 have z1:=ig (o1.alloc (.cells #[.slice A1 i.start.length c1,.slice V i.start.length c2] 141)) hO g5 (by decide)
 have z2:=ig (o2.alloc (.cells #[.slice A1 i.start.length c1,.slice V i.start.length c2] 141)) hO g5 (by decide)
 have Y:=aE (base':=w.heap.size) (k8.own z1 (fun j hj e=>ax B (by decide) z1 (by rw [hj,e]))) (LU K1.o.size (br W1).drew.size)
 have Z:=aE (base':=w.heap.size) (k8.own z2 (fun j hj e=>ax B (by decide) z2 (by rw [hj,e]))) (LU K1.o.size (br W1).drew.size)
 have aR:L.cell? (ar b 14)=some (.slice (some (ar a.rb 0)) m.rc.length a.rc):=LQ L b 14 _ _ _ B
 have b1:=LX L b 14 _ _ B
 have l5:=LN B
 have I:Keep (fun k=>k=b\/k=a.rb) w (L.setCell (ar b 14) (.slice (some (ar g 0)) (m.rc.length+1) c5)):=((Keep.below K1.o).trans (q5.mono fun k _ e=>.inr e)).trans (k8.mono fun k _ e=>.inl e)
 have N:(L.setCell (ar b 14) (.slice (some (ar g 0)) (m.rc.length+1) c5)).cell? (ar b 13)=some (.slice (some (ar a.bg 0)) i.start.length a.cg):=LQ _ b 13 _ _ _ e8
 rw [<-C] at e8 o8 I N
 have a4:dR (L.setCell (ar b 14) (.slice (some (ar g 0)) (m.rc++[(m.P,m.M)]).length c5)) w.heap.size [.slice A1 i.start.length c1,.slice V i.start.length c2] (m.P,m.M):=by
  rw [C]
  refine ⟨_,_,rfl,?_,?_,?_,?_,Q.o.wP.2,Q.o.wM.2⟩
  ·show World.ownsRow _ _ _ _ _ m.P.length _;rw [Q.o.wP.1];exact Y
  ·show World.ownsRow _ _ _ _ _ m.M.length _;rw [Q.o.wM.1];exact Z
  ·show m.P.length<=_;rw [Q.o.wP.1];omega
  ·show m.M.length<=_;rw [Q.o.wM.1];omega
 have A:=Q.o.setR Hn.o T.o g c5 (m.P,m.M) _ _ I e8 rows R2.o R3.o R4.o o8 a4 (by
  rcases a0 with h1 | h1
  ·left;simpa [Value.ownBlock] using h1
  ·right
   have h2:g=R.heap.size+1:=by simpa [Value.ownBlock] using h1
   have:=K1.o.size;have:=b3.size
   omega)
 rw [C] at A N I
 obtain ⟨w8,a8⟩:∃w8,L.setCell (ar b 14) (.slice (some (ar g 0)) (m.rc.length+1) c5)=w8:=⟨_,rfl⟩
 rw [a8] at A N I
 have b2:b<w8.heap.size:=az N
 have aP:=fun ty=>DN ty A.1.oG a6
 have k9:=kg (g:=a.bg) (List.replicate i.start.length (MO 0)) 0 w8
 have o9:=lj (List.replicate i.start.length (MO 0)) 0 w8 _ A.1.oG (by simp)
 have e9:(aA .i64 m.G).take 0++List.replicate i.start.length (Value.int .i64 0)++(aA .i64 m.G).drop (0+(List.replicate i.start.length (Value.int .i64 0)).length)=aA .i64 (List.replicate i.start.length 0):=by
  rw [List.take_zero,List.nil_append,Mv,MH,List.drop_eq_nil_of_le (by rw [bU,Q.o.wG.1];exact LO _),List.append_nil,eZ]
 rw [e9] at o9
 have hG:=A.1.setG (fun k hk=>(A.2 k hk).elim (Hn.o k) (T.o k)) k9 (List.replicate i.start.length 0) o9 ⟨by simp,qE _⟩
 have HF:=aa (⟨_,_,hG,rfl,rfl,(I.sub (fun k e=>.inl (e.elim .inl (fun e=>.inr (.inr (.inr (.inr (.inl e)))))))).trans (k9.sub (fun k e=>.inl (.inr (.inr (.inr (.inl e)))))),A.2,⟨rfl,rfl,rfl⟩,rfl⟩:Did H (fun _=>False) b i x a m w.heap.size (fun _ m1=>m1={m with rc:=m.rc++[(m.P,m.M)],G:=List.replicate i.start.length 0}) w _);clear hG A I o9 e9 k9 a4 z1 z2 Y Z o8 e8 k8 B a0 g5 b5 o5 q5 hO q0 aG a7 a9 hK K' C o1 o2 k3 b3 q3 tl
 go_wp2_with fail
 go_ret
 exact ⟨rfl,HF.o⟩
theorem Jv (j n:Nat):((j:Int)==(n:Int))=decide (j=n):=by rw [Bool.eq_iff_iff];simp;omega
theorem xO (X n j:Nat) (w:World) (i:w.cell? (ar X 2)=some (MO (n:Nat))):Calls prog 239 #[MO (j:Nat),(au X)] w fun e h=>e=.returned (.bool (decide (j=n)))/\h=w:=by
 go_enter func239,ntmps239
 go_wp2_with fail
 go_ret
 exact ⟨by simp [Jv],rfl⟩
theorem rX {l:List Nat} {k j:Nat} (h:l[k]?=some j):(aA .i64 (eJ l))[k]?=some (MO (j:Nat)):=by simp [aA,eJ,h]
def KP (l:List Nat) (n:Nat) (w:World) (e:Ending) (h:World):Prop:=((∃k,k<l.length/\l[k]?=some n/\(∀j,j<k->l[j]?≠some n)/\e=.returned (MO (k:Nat)))\/((∀j,j<l.length->l[j]?≠some n)/\e=.returned (MO (-1))))/\h=w
theorem Jk (A:Option Addr) (l:List Nat) (c X n:Nat) (w:World) (hA:Rd w A (aA .i64 (eJ l))) (hl:l.length<=1000) (Q:w.cell? (ar X 2)=some (MO (n:Nat))):
  Calls prog 154 #[.slice A l.length c,.func (.func 239) #[] #[(au X)]] w (KP l n w):=by
 have i:=fun j=>xO X n j w Q
 obtain ⟨N,H⟩:∃N,l.length=N:=⟨_,rfl⟩
 have B:∀e J,((∃k,k<N/\l[k]?=some n/\(∀j,j<k->l[j]?≠some n)/\e=.returned (MO (k:Nat)))\/((∀j,j<N->l[j]?≠some n)/\e=.returned (MO (-1))))/\J=w->KP l n w e J:=fun e J h=>by rw [<-H] at h;exact h
 rw [H] at hl ⊢
 obtain ⟨V,HA,Z,R⟩:=ag i hA H B;clear i hA H Q B
 go_enter func154,ntmps154
 go_wp2_with fail
 go_loopw [8] (fun y wr=>∃k:Nat,k<=N/\y=MO k/\(∀j,j<k->l[j]?≠some n)/\wr=w) (fun y _=>N-(intOf y).toNat)
 case atStart=>exact ⟨0,LS _,rfl,fun j hj=>ap,rfl⟩
 case round=>
  obtain ⟨k,hk,rfl,C,rfl⟩:=hrel
  have u:=aa C;clear C
  by_cases D:k<N
  ·have L:(k:Int)<N:=ap
   have U:¬(k:Int)<0:=ap
   have Y:IntKind.i64.wrap ((k:Int)+1)=((k+1:Nat):Int):=by rw [LT _ ap];push_cast;rfl
   obtain ⟨v,O⟩:∃v,l[k]?=some v:=⟨_,Mq (by rw [Z.o];exact D)⟩
   obtain ⟨b,o,rfl,x⟩:=HA.o k _ (rX O)
   have lb:=az x
   have T:=aa O;clear O
   go_wp2_with fail
   refine (V.o v).mono ?_
   rintro e w2 ⟨rfl,rfl⟩
   by_cases p:v=n
   ·subst p
    rw [MI rfl]
    go_wp2_with fail
    go_ret
    exact R.o _ _ ⟨.inl ⟨k,D,T.o,u.o,rfl⟩,rfl⟩
   ·rw [MJ p]
    have I:=aa p;clear p
    go_wp2_with fail
    go_roundw
    case rel=>
     refine ⟨k+1,by omega,by go_num,fun j hj=>?_,trivial⟩
     rcases Ma j k with h | h
     ·exact u.o j h
     ·obtain rfl:j=k:=ap
      rw [T.o];intro h;exact I.o (by simpa using h)
    case measure=>simp [intOf];omega
  ·have L:¬(k:Int)<N:=ap
   obtain rfl:k=N:=ap
   go_wp2_with fail
   go_ret
   exact R.o _ _ ⟨.inr ⟨u.o,rfl⟩,rfl⟩
theorem C4 {w:World} {base g n c k:Nat} {e:TypeId} {xs:List Value} (h:w.ownsRow base e 1 (.slice (some (ar g 0)) n c) n xs) (hk:k<=n):w.ownsRow base e 1 (.slice (some (ar g 0)) k c) k (xs.take k):=by
 have hl:=h.1
 rcases h.2 with ⟨i,_⟩ | ⟨A,cap,o,i,h1,u,y,v,x,p⟩
 ·cases i
 ·simp only [MC,Option.some.injEq,Addr.mk.injEq] at i
  obtain ⟨⟨rfl,_⟩,_,rfl⟩:=i
  refine ⟨by rw [Mt];omega,.inr ⟨g,c,o,rfl,h1,u,by omega,v,x,?_⟩⟩
  rw [<-p,List.take_take];congr 1;omega
def gL (l:List Nat) (n:Nat):List Nat:=l.filter fun j=>decide (j≠n)
def JS (l:List Nat) (n base g c:Nat) (w:World) (e:Ending) (h:World):Prop:=e=.returned (.slice (some (ar g 0)) (gL l n).length c)/\h.ownsRow base 3 1 (.slice (some (ar g 0)) (gL l n).length c) (gL l n).length (aA .i64 (eJ (gL l n)))/\Keep (fun j=>j=g) w h
theorem zH (l:List Nat) (k:Nat):(aA .i64 (eJ l)).take k=aA .i64 (eJ (l.take k)):=by simp [aA,eJ,List.map_take]
theorem DC (l:List Nat) (k v:Nat):(aA .i64 (eJ l)).set k (MO (v:Nat))=aA .i64 (eJ (l.set k v)):=by simp [aA,eJ,List.map_set]
theorem GV {l R:List Nat} {n i j v:Nat} (o:l[j]?=some v) (h1:R.take i=gL (l.take j) n) (p:R.drop j=l.drop j) (u:i<j) (hl:R.length=l.length) (h:v≠n):(R.set i v).take (i+1)=gL (l.take (j+1)) n/\(R.set i v).drop (j+1)=l.drop (j+1):=by
 have x:=(Mp.1 o).1
 constructor
 ·rw [List.take_add_one,List.take_set_of_le (LO i),h1,List.take_add_one,o]
  simp [gL,List.filter_append,h,show i<R.length by omega]
 ·rw [List.drop_set_of_lt ap]
  have:=congrArg (List.drop 1) p
  simpa [List.drop_drop] using this
theorem GW {l R:List Nat} {n i j:Nat} (h:l[j]?=some n) (h1:R.take i=gL (l.take j) n) (o:R.drop j=l.drop j):R.take i=gL (l.take (j+1)) n/\R.drop (j+1)=l.drop (j+1):=by
 constructor
 ·rw [h1,List.take_add_one,h];simp [gL,List.filter_append]
 ·have:=congrArg (List.drop 1) o
  simpa [List.drop_drop] using this
theorem G7 {l:List Nat} {n:Nat} (h:∀j,j<l.length->l[j]?≠some n):gL l n=l:=by
 refine List.filter_eq_self.2 fun x o=>?_
 obtain ⟨j,i,rfl⟩:=List.getElem_of_mem o
 have:=h j i
 rw [Mq i] at this
 simpa using this
theorem GU (g c X n base:Nat) (l:List Nat) (w:World) (V:w.ownsRow base 3 1 (.slice (some (ar g 0)) l.length c) l.length (aA .i64 (eJ l))) (hl:l.length<=1000) (hX:w.cell? (ar X 2)=some (MO (n:Nat))) (a8:X≠g):
  Calls prog 238 #[.slice (some (ar g 0)) l.length c,.func (.func 239) #[] #[(au X)]] w (JS l n base g c w):=by
 have I:=Jk (some (ar g 0)) l c X n w (Rd.own V) hl hX
 have B:=fun j Y (q:Keep (fun j=>j=g) w Y)=>xO X n j Y (q.cell hX a8)
 have a0:l.length<=c:=by
  obtain ⟨_,_,e,h⟩:=aD V
  simp only [MC] at e
  omega
 obtain ⟨N,hN⟩:∃N,l.length=N:=⟨_,rfl⟩
 unfold KP at I
 rw [hN] at I V hl a0 ⊢
 have b4:=(V.lt g rfl).2
 obtain ⟨av,Hc,HO,U⟩:=ag I B V hN;clear I B V hN hX
 go_enter func238,ntmps238
 go_wp2_with fail
 refine av.o.mono ?_
 rintro e Y ⟨h,rfl⟩
 rcases h with ⟨k,ao,hk,C,rfl⟩ | ⟨C,rfl⟩
 rotate_left
 ·have hd:=G7 (n:=n) (l:=l) (by rw [U.o];exact C)
  have HD:=aa hd;clear C hd
  go_wp2_with fail
  go_ret
  refine ⟨by rw [HD.o,U.o];rfl,by rw [HD.o,U.o];exact HO.o,Keep.refl _ _⟩
 ·have bb:¬(k:Int)= -1:=ap
  have b1:IntKind.i64.wrap ((k:Int)+1)=((k+1:Nat):Int):=by rw [LT _ ap];push_cast;rfl
  have h0:l.take k=gL (l.take (k+1)) n:=by
   rw [List.take_add_one,hk]
   simp only [gL,List.filter_append,Option.toList,List.filter_cons,List.filter_nil]
   simp only [ne_eq,not_true_eq_false,decide_false,Bool.false_eq_true,if_false,List.append_nil]
   exact (List.filter_eq_self.2 fun x hx=>by
    obtain ⟨j,hj,rfl⟩:=List.getElem_of_mem hx
    rw [Mt] at hj
    have:=C j ap
    rw [Mq ap] at this
    simpa using this).symm
  have H0:=aa h0;clear hk C h0
  go_wp2_with fail
  go_loopw [5,6] (fun y5 y6 wr=>∃i j:Nat,∃R:List Nat,y5=MO i/\y6=MO j/\i<j/\j<=N/\R.length=N/\R.take i=gL (l.take j) n/\R.drop j=l.drop j/\wr.ownsRow base 3 1 (.slice (some (ar g 0)) N c) N (aA .i64 (eJ R))/\Keep (fun j=>j=g) Y wr) (fun _ y _=>N-(intOf y).toNat)
  case atStart=>exact ⟨k,k+1,l,rfl,by push_cast;rfl,by omega,ao,U.o,H0.o,rfl,HO.o,Keep.refl _ _⟩
  case round=>
   obtain ⟨i,j,R,rfl,rfl,a9,be,hR,h1,h2,J,Z⟩:=hrel
   have bd:(i:Int)<N:=ap
   have b9:¬(i:Int)<0:=ap
   have fr:=J.frozenAt i
   obtain ⟨ri,L⟩:∃ri,R[i]?=some ri:=⟨_,Mq ap⟩
   have ci:=J.cellAt i ap
   rw [rX L] at ci
   have b7:g<wr.heap.size:=(J.lt g rfl).2
   by_cases O:j<N
   ·have ad:(j:Int)<N:=ap
    have b3:¬(j:Int)<0:=ap
    have b6:IntKind.i64.wrap ((i:Int)+1)=((i+1:Nat):Int):=by rw [LT _ ap];push_cast;rfl
    have b2:IntKind.i64.wrap ((j:Int)+1)=((j+1:Nat):Int):=by rw [LT _ ap];push_cast;rfl
    obtain ⟨v,hv⟩:∃v,l[j]?=some v:=⟨_,Mq (by rw [U.o];exact O)⟩
    have a6:R[j]?=some v:=by
     have:=congrArg (fun z=>z[0]?) h2
     simpa [List.getElem?_drop,hv] using this
    have cj:=J.cellAt j ap
    rw [rX a6] at cj
    obtain ⟨aG,Q,QK⟩:=af (Hc.o v wr Z) J Z
    have D:=fun h=>GV hv h1 h2 a9 (hR.trans U.o.symm) h
    have H:=fun h:v=n=>GW (by rw [<-h];exact hv) h1 h2
    obtain ⟨a7,a4,HR⟩:=af D H hR;clear hv a6 h1 h2 J Z D H L hR
    go_wp2_with fail
    refine aG.o.mono ?_
    rintro e w2 ⟨rfl,rfl⟩
    by_cases p:v=n
    ·rw [MI p]
     have u:=aa p;clear p
     go_wp2_with fail
     go_roundw
     case rel=>(repeat apply Exists.intro);exact ⟨⟨i,j+1,R,rfl,by go_num,by omega,O,HR.o,(a4.o u.o).1,(a4.o u.o).2,Q.o,QK.o⟩,rfl⟩
     case measure=>simp [intOf];omega
    ·rw [MJ p]
     have u:=aa p;clear p
     go_wp2_with fail
     go_roundw
     case rel=>(repeat apply Exists.intro);exact ⟨⟨i+1,j+1,R.set i v,by go_num,by go_num,by omega,O,by rw [List.length_set];exact HR.o,(a7.o u.o).1,(a7.o u.o).2,by have:=(Q.o.stored i (MO (v:Nat))).1;rwa [DC] at this,Keep.setCell (S:=fun j=>j=g) QK.o (ar g i) (.inr rfl) _⟩,rfl⟩
     case measure=>simp [intOf];omega
   ·obtain rfl:j=N:=ap
    have ad:¬(j:Int)<j:=ap
    have aM:l.take j=l:=List.take_of_length_le (by rw [U.o];exact LO _)
    rw [aM] at h1
    obtain ⟨HD,Q,QK,HR⟩:=ag h1 J Z hR;clear h1 h2 J Z L hR
    have ab:i<=j:=ap
    have b8:(i:Int)<=j:=ap
    have b5:(i:Int)<=c:=ap
    have b0:i<=c:=ap
    have aP:¬c=i:=ap
    have A:(gL l n).length=i:=by rw [<-HD.o,Mt];have:=HR.o;omega
    obtain ⟨zi,a3,a5,_⟩:=iA.info
    have aR:=Lib.run_clear_slice wr 22 3 0 (MO 0) iA.und (fun Y=>by simp [zeroValue,typeInfo,a3,a5]) rfl rfl g i (j-i) (c-i) ap (fun t ht=>by rw [Q.o.cellAt (i+t) ap,Mq (by have:=Q.o.1;omega)];rfl) (fun t ht=>Q.o.frozenAt (i+t))
    have o9:=lj (List.replicate (j-i) (MO 0)) i wr _ Q.o (by rw [Mv];omega)
    have T:=C4 o9 ab
    have a2:(((aA .i64 (eJ R)).take i++List.replicate (j-i) (Value.int .i64 0)++(aA .i64 (eJ R)).drop (i+(List.replicate (j-i) (Value.int .i64 0)).length)).take i)=aA .i64 (eJ (gL l n)):=by
     rw [Mu,List.take_append_of_le_length (by rw [Mt,bU,pQ,HR.o];omega),List.take_take,Nat.min_self,zH,HD.o]
    rw [a2] at T
    have a1:=QK.o.trans (kg (g:=g) (List.replicate (j-i) (MO 0)) i wr)
    have HF:=aa (⟨by rw [A],by rw [A];exact T,a1⟩:JS l n base g c Y (.returned (.slice (some (ar g 0)) i c)) _);clear o9 T a2 a1 a3 a5 A
    go_wp2_with fail
    go_ret
    exact HF.o
theorem aT.setPM {H:Nat->Prop} {w y:World} {b x:Nat} {i:Inp} {a:MAd} {m:Mst} (h:aT H w b i x a m) (hn:∀k,Mut b a k->¬H k) (hk:Keep (fun k=>k=a.bp\/k=a.bm) w y) (P M:List Int)
  (oP:y.ownsRow 0 2 1 (.slice (some (ar a.bp 0)) i.start.length a.cp) i.start.length (aA .i64 P)) (oM:y.ownsRow 0 2 1 (.slice (some (ar a.bm 0)) i.start.length a.cm) i.start.length (aA .i64 M))
  (wP:P.length=i.start.length/\W64 P) (wM:M.length=i.start.length/\W64 M):aT H y b i x a {m with P:=P,M:=M}:=by
 have he:Ext (aF (fT H b a) w) (aF (fT H b a) y):=bE (hk.mono fun k _ e=>.inl (.inr (e.elim .inl fun e=>.inr (.inl e)))) (fun k _ Z=>Z)
 have nb:∀{r n c:Nat} {xs:List Value},w.ownsRow 0 2 1 (.slice (some (ar r 0)) n c) n xs->b≠r:=fun o e=>ax h.blk (by decide) o (by rw [e];rfl)
 have hb:=(hk.block b (LN h.blk) (fun e=>e.elim (nb h.oP) (nb h.oM))).trans h.blk
 have D:∀{r n c:Nat} {ys:List Value} {v:Value} {e:TypeId} {size k:Nat} {xs:List Value},w.ownsRow 0 2 1 (.slice (some (ar r 0)) n c) n ys->e≠2->w.ownsRow 0 e size v k xs->∀j,v.ownBlock=some j->j≠r:=fun hr p u j A e=>by
  rcases hr.2 with ⟨B,_⟩ | ⟨r',_,_,B,_,hg,_⟩
  ·cases B
  ·simp only [MC,Option.some.injEq,Addr.mk.injEq] at B
   obtain ⟨⟨V,_⟩,_⟩:=B
   exact ax hg (Ne.symm p) u (by rw [A,e,V])
 have u:∀{v:Value} {e:TypeId} {size n:Nat} {xs:List Value},e≠2->w.ownsRow 0 e size v n xs->y.ownsRow 0 e size v n xs:=fun p u=>hk.own u (fun j A e=>e.elim (D h.oP p u j A) (D h.oM p u j A))
 obtain ⟨U,a1,Y,N,O,C,Q⟩:=h.pl
 obtain ⟨rows,J,T,I,L⟩:=h.re
 exact ⟨hb,fl h.sh he,eA cJ h.ex he,gE h.sa he,⟨U,a1,Y,N,O,C,gF Q he⟩,aV h.bu he,aV h.it he,⟨rows,u (by decide) J,T,I,fun j x R=>cJ (L j x R) he⟩,
  oP,oM,hk.own h.oG (fun j A e=>by cases A;exact e.elim (fun e=>h.dj.2.1 e.symm) (fun e=>h.dj.2.2 e.symm)),u (by decide) h.oO,h.dj,fun k _ hm=>hn k hm,wP,wM,h.wG,h.ox,h.xw⟩
theorem BD {ra o q:Int} {ps ms g:List Int} {lo k:Nat} (h:W64 ps):W64 (apP ra o q ps ms g lo k):=fx fun j i=>by
 split
 ·exact fU _
 ·have:=h j i
  rw [dE _ _ i]
  simpa [dE _ _ i] using this
theorem IR:cW prog 148 2:=⟨⟨_,underlying148,rfl⟩,by kernel_rfl⟩
theorem FK {H:Nat->Prop} {w:World} {b x:Nat} {i:Inp} {a:MAd} {m:Mst} (h:aT H w b i x a m) (hn:∀k,Mut b a k->¬H k) (a0:∀k,w.heap.size<=k->¬H k) (hs:cK i) (y:Itm) (u v:Value) (hu:u.oneCell'=true) (hv:v.oneCell'=true) (bs:y.n<(aB i).buks.length) (bi:0<m.op.length) (b5:m.op.length<=1000)
  (b2: -9223372036854775808<=i.cfg.rate/\i.cfg.rate<=9223372036854775807) (b3: -9223372036854775808<=i.cfg.mom/\i.cfg.mom<=9223372036854775807) (lo B:Nat) (hr:aL (aB i).buks y.n=(lo,B)) (c7:lo<B) (cb:B<=i.start.length):
  Calls prog 228 #[(au b),.agg (bq y).toArray,.agg #[u,v]] w fun e A=>e=.returned (MO 0)/\Did H (fun _=>False) b i x a m w.heap.size (fun _ m1=>m1={m with P:=apP i.cfg.rate i.cfg.mom i.cfg.shift m.P m.M ((m.G.drop lo).take (B-lo)) lo (B-lo),M:=apM i.cfg.mom i.cfg.shift m.M ((m.G.drop lo).take (B-lo)) lo (B-lo),op:=gL m.op y.n}) w A:=by
 have Z:=h.blk
 have bz:=hs.n
 obtain ⟨W0,W1,ao,ad,g0,g1,T, -⟩:=fQ w (bq y).toArray #[u,v] 152 333
 have U:=sb Z _ T
 have a5:=aV h.bu (gH (S:=fT H b a) (Keep.below (S:=fT H b a) T))
 have O:=dY bs
 rw [hr] at O
 obtain ⟨bb,bo,a4,aR⟩:=a5 _ _ O.1
 obtain ⟨b1,bn,e',a2⟩:=a5 _ _ O.2
 rw [a4] at e'
 obtain ⟨rfl,rfl⟩:b1=bb/\bn=bo:=by simpa using e'.symm
 rw [<-MG] at a2
 have t7:∀A,aq W1 A->A.cell? (ar b 7)=some (.slice a.BA (aB i).buks.length a.bc):=fun A q=>LQ A b 7 _ _ _ (sb U A q)
 rw [a4] at t7
 have s2:∀A,aq W1 A->A.cell? (ar w.heap.size 2)=some (MO (y.n:Nat)):=fun A q=>LQ A w.heap.size 2 _ _ _ (sb g0 A q)
 have d0:=fun A (q:aq W1 A)=>aw q aR
 have d1:=fun A (q:aq W1 A)=>aw q a2
 have bO:(y.n:Int)<(aB i).buks.length:=ap
 have cd:¬(y.n:Int)<0:=ap
 have tl:=sl U
 obtain ⟨bl,bh,bf,G0,K1,V,Hn,ab⟩:=ak ao ad U g0 T h hn a0
 have q0:=(br W1).drew
 clear ao ad g0 g1 T U a5 O Z h hn a0 aR a2 a4 hr
 go_enter func228,ntmps228
 go_wp2_with fail
 rw [bl.o,bh.o]
 refine HA.g (fun A:World=>aq W1 A) ?_
 refine HA.t ?_ [0,1,2,3,4,5,6,7,8] q0 ?_
 refine HA.v 9 (W1.drew.alloc (.cells #[MO 0,MO 0] 148)) ((au W1.heap.size)) (q0.alloc (LO _) _) ?_
 refine HA.st 10 (LP W1.drew _) IR (fun C e2 k2=>?_)
 have q2:aq W1 C:=q0.trans (aU k2)
 refine ⟨q2,HA.d ?_⟩
 rw [MB] at e2
 have D:=V.o.mlt
 have cf:=K1.o.size
 have Q:=sb bf.o C q2
 have a7:=sb G0.o C q2
 have B2:=bt K1.o q2
 have bA:w.heap.size<W1.heap.size:=LN G0.o
 have bw:b≠a.bp:=fun e=>ax V.o.blk (by decide) V.o.oP (by rw [e];rfl)
 have b4:b≠a.bm:=fun e=>ax V.o.blk (by decide) V.o.oM (by rw [e];rfl)
 have bV:=D a.bp (.inr (.inl rfl))
 have cl:=D a.bm (.inr (.inr (.inl rfl)))
 have kb:=fun A (q:Keep (fun k=>k=a.bp\/k=a.bm) C A)=>(q.block b (LN Q) (fun e=>e.elim bw b4)).trans Q
 have kx:=fun A (q:Keep (fun k=>k=a.bp\/k=a.bm) C A)=>(q.block W1.heap.size (LN e2) (fun e=>e.elim (fun e=>ap) (fun e=>ap))).trans e2
 have r8:∀A,Keep (fun k=>k=a.bp\/k=a.bm) C A->A.cell? (ar b 8)=some (MO i.cfg.rate):=fun A q=>LQ A b 8 _ _ _ (kb A q)
 have r9:∀A,Keep (fun k=>k=a.bp\/k=a.bm) C A->A.cell? (ar b 9)=some (MO i.cfg.mom):=fun A q=>LQ A b 9 _ _ _ (kb A q)
 have bd:∀A,Keep (fun k=>k=a.bp\/k=a.bm) C A->A.cell? (ar b 10)=some (MO i.cfg.shift):=fun A q=>LQ A b 10 _ _ _ (kb A q)
 have b6:∀A,Keep (fun k=>k=a.bp\/k=a.bm) C A->A.cell? (ar b 11)=some (.slice (some (ar a.bp 0)) i.start.length a.cp):=fun A q=>LQ A b 11 _ _ _ (kb A q)
 have bv:∀A,Keep (fun k=>k=a.bp\/k=a.bm) C A->A.cell? (ar b 12)=some (.slice (some (ar a.bm 0)) i.start.length a.cm):=fun A q=>LQ A b 12 _ _ _ (kb A q)
 have be:∀A,Keep (fun k=>k=a.bp\/k=a.bm) C A->A.cell? (ar b 13)=some (.slice (some (ar a.bg 0)) i.start.length a.cg):=fun A q=>LQ A b 13 _ _ _ (kb A q)
 have x0:∀A,Keep (fun k=>k=a.bp\/k=a.bm) C A->A.cell? (ar W1.heap.size 0)=some (MO (lo:Nat)):=fun A q=>LQ A _ 0 _ _ _ (kx A q)
 have x1:∀A,Keep (fun k=>k=a.bp\/k=a.bm) C A->A.cell? (ar W1.heap.size 1)=some (MO (B:Nat)):=fun A q=>LQ A _ 1 _ _ _ (kx A q)
 have bX:i.start.length<=a.cg:=by
  obtain ⟨_,_,e,h⟩:=aD V.o.oG
  simp only [MC] at e
  omega
 have N:=V.o.below B2 Hn.o
 have hG:Rd C (some (ar a.bg lo)) (aA .i64 ((m.G.drop lo).take (B-lo))):=by
  have:=((Rd.own N.oG).drop lo).take (B-lo)
  rwa [dm,de,MH] at this
 have a3:=uC i.cfg.rate i.cfg.mom i.cfg.shift 0 i.start.length lo (B-lo) a.cp a.cm (a.cg-lo) (some (ar a.bp 0)) (some (ar a.bm 0)) (some (ar a.bg lo)) m.P m.M ((m.G.drop lo).take (B-lo)) C.drew N.oP.drew N.oM.drew (fun j hj e=>by cases hj;exact N.dj.1 (by simpa [Value.ownBlock] using e.symm))
  hG (by rw [Mt,Mw,N.wG.1];omega) ap ap (fun z hz e=>by cases hz;exact N.dj.2.1 (by simpa [Value.ownBlock] using e)) (fun z hz e=>by cases hz;exact N.dj.2.2 (by simpa [Value.ownBlock] using e)) b2 b3 N.wM.2
 rw [show lo+(B-lo)=B by omega] at a3
 have cj:(lo:Int)<=B:=ap
 have cn:(B:Int)<=a.cg:=ap
 have bI:lo<=B:=ap
 have bM:B<=a.cg:=ap
 have bN:¬a.cg=lo:=ap
 have q3:Keep (fun k=>k=a.bp\/k=a.bm) C C.drew:=(Keep.refl _ _).drew
 have b7:=fun A (q:Keep (fun k=>k=a.bp\/k=a.bm) C A)=>LV (LN Q) q.size
 have b9:=fun A (q:Keep (fun k=>k=a.bp\/k=a.bm) C A)=>LV (LN e2) q.size
 obtain ⟨b8,M2,b0,KB,GI⟩:=ah a3 N B2 kb a7;clear t7 s2 d0 d1 tl q0 k2 q2 a3 N B2 kb kx Q a7 e2 hG D
 go_wp2_with fail
 refine HA.g (fun A:World=>Keep (fun k=>k=a.bp\/k=a.bm) C A) ?_
 refine HA.t ?_ [0,1,2,3,4,5,6,7,8,9,10,11,12,13,14,15,16,17,18] q3 ?_
 refine HA.c 19 b8.o ?_
 rintro e w4 ⟨rfl,aP,a9,k4⟩
 have q4:Keep (fun k=>k=a.bp\/k=a.bm) C w4:=q3.trans (k4.mono fun j _ e=>e.imp (fun e=>by simpa [Value.ownBlock] using e.symm) (fun e=>by simpa [Value.ownBlock] using e.symm))
 refine ⟨_,rfl,q4,fun _=>?_⟩
 refine HA.d ?_
 have m4:=M2.o.setPM Hn.o q4 _ _ aP a9 ⟨by rw [mW];exact M2.o.wP.1,BD M2.o.wP.2⟩ ⟨by rw [mX];exact M2.o.wM.1,vB M2.o.wM.2⟩
 have hX:=q4.cell (LQ C w.heap.size 2 _ _ _ GI.o) (p:=(ar w.heap.size 2)) (fun e=>e.elim (fun e=>by have:w.heap.size=a.bp:=e;omega) (fun e=>by have:w.heap.size=a.bm:=e;omega))
 obtain ⟨g,c,I,c6⟩:=m4.oO.form bi
 have c8:=V.o.mlt g (.inr (.inr (.inr (.inr (.inr (by rw [I];rfl))))))
 have R:=m4.oO
 rw [I] at R
 have Y:=GU g c w.heap.size y.n 0 m.op w4 R b5 hX ap
 have L:=m4.blk
 have aG:b≠g:=fun e=>ax L (by decide) R (by rw [e];rfl)
 have c9:w4.cell? (ar b 18)=some (.slice (some (ar g 0)) m.op.length c):=by rw [<-I];exact LQ w4 b 18 _ _ _ L
 have ci:=LN L
 obtain ⟨H4,av,aM,Q4,a6⟩:=ah m4 Y L q4 I;clear m4 hX Y L q4 I R aP a9 k4 r8 r9 bd b6 bv be x0 x1 b7 b9 q3
 go_wp2_with fail
 refine av.o.mono ?_
 rintro e w5 ⟨rfl,o5,k5⟩
 have g5:=(k5.block b (LN aM.o) aG).trans aM.o
 have bG:w5.cell? (ar b 18)=some a.ov:=LQ w5 b 18 _ _ _ g5
 have cc:=LX w5 b 18 _ _ g5
 have l5:=LN g5
 have e6:=ss (i:=18) (v:=.slice (some (ar g 0)) (gL m.op y.n).length c) g5 rfl
 have k6:Keep (fun k=>k=b) w5 (w5.setCell (ar b 18) (.slice (some (ar g 0)) (gL m.op y.n).length c)):=Keep.setCell (S:=fun k=>k=b) (Keep.refl _ _) _ (.inr rfl) _
 have o6:=k6.own o5 (fun j hj e=>by cases hj;exact aG e.symm)
 have a1:Keep (fun k=>k=b\/a.ov.ownBlock=some k) w4 (w5.setCell (ar b 18) (.slice (some (ar g 0)) (gL m.op y.n).length c)):=(k5.mono fun k _ e=>.inr (by rw [a6.o,e];rfl)).trans (k6.mono fun k _ e=>.inl e)
 have a8:w.heap.size<=w4.heap.size:=LU b0.o.size Q4.o.size
 have J:=H4.o.setO Hn.o (fun k hk=>ab.o k (LU a8 hk)) (.slice (some (ar g 0)) (gL m.op y.n).length c) (gL m.op y.n) a1 e6 o6 (fun k hk=>.inl (by rw [a6.o];exact hk))
 have HF:=aa (⟨_,_,J.1,rfl,rfl,((Keep.below b0.o).trans (Q4.o.sub fun k e=>.inl (.inr (e.elim .inl fun e=>.inr (.inl e))))).trans (a1.sub fun k e=>.inl (e.elim .inl fun e=>.inr (.inr (.inr (.inr (.inr e)))))),fun k hk=>(J.2 k hk).imp id (fun h=>LU a8 h),⟨rfl,rfl,rfl⟩,rfl⟩:Did H (fun _=>False) b i x a m w.heap.size (fun _ m1=>m1={m with P:=apP i.cfg.rate i.cfg.mom i.cfg.shift m.P m.M ((m.G.drop lo).take (B-lo)) lo (B-lo),M:=apM i.cfg.mom i.cfg.shift m.M ((m.G.drop lo).take (B-lo)) lo (B-lo),op:=gL m.op y.n}) w _);clear J a1 e6 k6 o6 o5 k5 g5
 go_wp2_with fail
 go_ret
 exact ⟨rfl,HF.o⟩
theorem Did.older {H G:Nat->Prop} {b:Nat} {i:Inp} {x:Nat} {a:MAd} {m:Mst} {n o:Nat} {T:World->Mst->Prop} {w p:World} (h:Did H G b i x a m n T w p) (hn:o<=n):Did H G b i x a m o T w p:=by
 obtain ⟨a1,m1,h1,v,B,y,A,u⟩:=h
 exact ⟨a1,m1,h1,v,B,y,fun k hk=>(A k hk).imp id fun e=>LU hn e,u⟩
theorem zy {H:Nat->Prop} {w:World} {b x:Nat} {i:Inp} {a:MAd} {m:Mst} (h:aT H w b i x a m) (hn:∀k,Mut b a k->¬H k) (o:∀k,w.heap.size<=k->¬H k) (hs:cK i) {y:Itm} (B:(cR i x m.st)[m.nx]?=some y) (hk:y.kind=2) (hl:m.op.length<=1000) (u v:Option Addr):
  Calls prog 216 #[(au b),.pointer u,.pointer v] w fun e p=>e=.returned (MO 0)/\yi H (fun _=>False) b i x a m (fun _ m1=>m1={m with op:=m.op++[y.n]}) w p:=by
 refine (lq h hn o (G:=fun _=>False) (fun _ h=>h.elim) hs B u v 225 (fun p=>by rw [hk];kernel_rfl) (fun args w=>by kernel_rfl) (fun _=>False) (fun _ m1=>m1={m with op:=m.op++[y.n]}) (fun _ _ _ h _=>h) (fun p q=>?_)).mono ?_
 ·refine (xi (h.below q hn) hn (fun k hk=>o k (LU q.size hk)) hl y (.pointer u) (.pointer v) rfl rfl).mono ?_
  rintro e D ⟨rfl,A⟩
  exact .inl ⟨rfl,A.older q.size⟩
 ·rintro e p (⟨rfl,A⟩ | ⟨C,_,I,_⟩)
  ·exact ⟨rfl,A⟩
  ·exact I.elim
theorem zx {H:Nat->Prop} {w:World} {b x:Nat} {i:Inp} {a:MAd} {m:Mst} (h:aT H w b i x a m) (hn:∀k,Mut b a k->¬H k) (o:∀k,w.heap.size<=k->¬H k) (hs:cK i) {y:Itm} (B:(cR i x m.st)[m.nx]?=some y) (hk:y.kind=6) (hl:m.rc.length<=1000) (u v:Option Addr):
  Calls prog 216 #[(au b),.pointer u,.pointer v] w fun e p=>e=.returned (MO 0)/\yi H (fun _=>False) b i x a m (fun _ m1=>m1={m with rc:=m.rc++[(m.P,m.M)],G:=List.replicate i.start.length 0}) w p:=by
 refine (lq h hn o (G:=fun _=>False) (fun _ h=>h.elim) hs B u v 229 (fun p=>by rw [hk];kernel_rfl) (fun args w=>by kernel_rfl) (fun _=>False) (fun _ m1=>m1={m with rc:=m.rc++[(m.P,m.M)],G:=List.replicate i.start.length 0}) (fun _ _ _ h _=>h) (fun p q=>?_)).mono ?_
 ·refine (xh (h.below q hn) hn (fun k hk=>o k (LU q.size hk)) hs hl y (.pointer u) (.pointer v) rfl rfl).mono ?_
  rintro e D ⟨rfl,A⟩
  exact .inl ⟨rfl,A.older q.size⟩
 ·rintro e p (⟨rfl,A⟩ | ⟨C,_,I,_⟩)
  ·exact ⟨rfl,A⟩
  ·exact I.elim
theorem Je {H:Nat->Prop} {w:World} {b x:Nat} {i:Inp} {a:MAd} {m:Mst} (h:aT H w b i x a m) (hn:∀k,Mut b a k->¬H k) (p:∀k,w.heap.size<=k->¬H k) (hs:cK i) {y:Itm} (R:(cR i x m.st)[m.nx]?=some y) (hk:y.kind=5) (u v:Option Addr) (D:y.n<(aB i).buks.length) (Q:0<m.op.length) (J:m.op.length<=1000)
  (N: -9223372036854775808<=i.cfg.rate/\i.cfg.rate<=9223372036854775807) (L: -9223372036854775808<=i.cfg.mom/\i.cfg.mom<=9223372036854775807) (lo o:Nat) (hr:aL (aB i).buks y.n=(lo,o)) (I:lo<o) (O:o<=i.start.length):
  Calls prog 216 #[(au b),.pointer u,.pointer v] w fun e A=>e=.returned (MO 0)/\yi H (fun _=>False) b i x a m (fun _ m1=>m1={m with P:=apP i.cfg.rate i.cfg.mom i.cfg.shift m.P m.M ((m.G.drop lo).take (o-lo)) lo (o-lo),M:=apM i.cfg.mom i.cfg.shift m.M ((m.G.drop lo).take (o-lo)) lo (o-lo),op:=gL m.op y.n}) w A:=by
 refine (lq h hn p (G:=fun _=>False) (fun _ h=>h.elim) hs R u v 228 (fun A=>by rw [hk];kernel_rfl) (fun args w=>by kernel_rfl) (fun _=>False) (fun _ m1=>m1={m with P:=apP i.cfg.rate i.cfg.mom i.cfg.shift m.P m.M ((m.G.drop lo).take (o-lo)) lo (o-lo),M:=apM i.cfg.mom i.cfg.shift m.M ((m.G.drop lo).take (o-lo)) lo (o-lo),op:=gL m.op y.n}) (fun _ _ _ h _=>h) (fun A q=>?_)).mono ?_
 ·refine (FK (h.below q hn) hn (fun k hk=>p k (LU q.size hk)) hs y (.pointer u) (.pointer v) rfl rfl D Q J N L lo o hr I O).mono ?_
  rintro e T ⟨rfl,B⟩
  exact .inl ⟨rfl,B.older q.size⟩
 ·rintro e A (⟨rfl,B⟩ | ⟨C,_,U,_⟩)
  ·exact ⟨rfl,B⟩
  ·exact U.elim
theorem ul {p:Pln} {x st:Nat} {y:Itm} (h:y∈aI p x st) (hk:y.kind=2\/y.kind=5):∃g∈p.grps,g.1<=y.n/\y.n<g.2:=by
 unfold aI at h
 simp only [MD,List.mem_map,List.mem_flatMap,List.mem_singleton,List.mem_range] at h
 rcases h with (⟨k,i,rfl⟩ | ⟨g,hg,h⟩) | rfl
 ·rcases hk with hk | hk<;>cases hk
 ·refine ⟨g,hg,?_⟩
  unfold dg at h
  simp only [MD,List.mem_map,List.mem_flatMap,List.mem_range'_1] at h
  rcases h with (⟨j,o,rfl⟩ | ⟨_,_,_,_,_,_,h⟩) | ⟨j,o,rfl⟩
  ·show g.1<=j/\j<g.2
   omega
  ·unfold bY at h
   obtain ⟨c,_,rfl⟩:=List.mem_map.1 h
   unfold gC at hk
   rcases hk with hk | hk<;>(split at hk<;>cases hk)
  ·show g.1<=j/\j<g.2
   omega
 ·rcases hk with hk | hk<;>cases hk
def aC (w:World) (b:Nat) (ring:Value) (cap sent recv peak:Nat):Prop:=
 w.heap[b]?=some (.cells #[ring,MO cap,MO sent,MO recv,MO peak] 182 (0,0))
section
variable {w:World} {b:Nat} {ring:Value} {cap sent recv peak:Nat}
theorem aC.c0 (h:aC w b ring cap sent recv peak):w.cell? (ar b 0)=some ring:=LQ w b 0 _ _ _ h
theorem aC.c1 (h:aC w b ring cap sent recv peak):w.cell? (ar b 1)=some (MO cap):=LQ w b 1 _ _ _ h
theorem aC.c2 (h:aC w b ring cap sent recv peak):w.cell? (ar b 2)=some (MO sent):=LQ w b 2 _ _ _ h
theorem aC.c3 (h:aC w b ring cap sent recv peak):w.cell? (ar b 3)=some (MO recv):=LQ w b 3 _ _ _ h
theorem aC.c4 (h:aC w b ring cap sent recv peak):w.cell? (ar b 4)=some (MO peak):=LQ w b 4 _ _ _ h
theorem aC.free (h:aC w b ring cap sent recv peak) (i:Nat):w.frozen? (ar b i)=false:=LX w b i _ _ h
end
theorem mN (b:Nat) (ring:Value) (cap sent recv peak:Nat) (w:World) (h:aC w b ring cap sent recv peak) (o:recv<=sent) (hs:sent<=17592186043904):
  Calls prog 104 #[(au b)] w fun e i=>e=.returned (MO ((sent:Int)-recv))/\∃n,i=w.drewN n:=by
 have c2:=h.c2
 have c3:=h.c3
 go_enter func104,ntmps104
 go_wp2
 go_quiet (fail)
 go_wp2
 go_ret
 exact ⟨rfl,_,rfl⟩
theorem xr (b:Nat) (x y:Int) (w:World) (c2:w.cell? (ar b 2)=some (MO x)) (c3:w.cell? (ar b 3)=some (MO y)) (hb:0<=y/\y<=x/\x<=17592186043904):
  Calls prog 104 #[(au b)] w fun e h=>e=.returned (MO (x-y))/\∃n,h=w.drewN n:=by
 go_enter func104,ntmps104
 go_wp2
 go_quiet (fail)
 go_wp2
 go_ret
 exact ⟨rfl,_,rfl⟩
theorem Dv (b:Nat) (ring:Value) (cap sent recv peak:Nat) (n:Int) (w:World) (h:aC w b ring cap sent recv peak) (hc:1<=cap) (hn:0<=n) (i:cap<=1048576):
  Calls prog 105 #[(au b),MO n] w fun e o=>e=.returned (MO (n%cap))/\w=o:=by
 have c1:=h.c1
 go_enter func105,ntmps105
 go_wp2
 go_ret
 exact ⟨rfl,rfl⟩
theorem Gh (b:Nat) (ring:Value) (cap sent recv peak:Nat) (w:World) (h:aC w b ring cap sent recv peak):
  Calls prog 70 #[(au b)] w fun e i=>e=.returned (MO peak)/\w=i:=by
 have c4:=h.c4
 go_enter func70,ntmps70
 go_wp2
 go_ret
 exact ⟨rfl,rfl⟩
theorem Jh (c:Int) (w:World) (h:1<=c/\c<=1048576):
  Calls prog 45 #[MO c] w fun e i=>e=.returned ((au w.heap.size))/\i=w.alloc (.cells #[MP,MO c,MO 0,MO 0,MO 0] 182):=by
 obtain ⟨h1,o⟩:=h
 go_enter func45,ntmps45
 go_wp2
 go_ret
 exact ⟨rfl,rfl⟩
theorem Kv:dt prog 26 2 (MO 0) 1 8:=⟨underlying26,info_parts (by kernel_rfl),rfl,by decide⟩
theorem DM (A:Option Addr) (zs:List Int) (c:Nat) (w:World) (hA:Rd w A (aA .i64 zs)) (hl:zs.length<=17592186043904):
  Calls prog 151 #[.slice A zs.length c] w fun e y=>∃v,e=.returned v/\y.ownsRow w.heap.size 2 1 v zs.length (aA .i64 zs)/\aq w y:=by
 have q:=fun (w:World)=>Lib.run_eql_slice_nil (P:=prog) w 26 2 A zs.length c 0 0 underlying26
 cases A with
 | none=>
  have B:zs=[]:=by
   cases zs with
   | nil=>rfl
   | cons z l=>obtain ⟨b,o,h,_⟩:=hA 0 _ rfl;cases h
  subst B
  clear q
  have q:=fun (w:World)=>Lib.run_eql_slice_nil (P:=prog) w 26 2 none 0 c 0 0 underlying26
  simp only [Option.isNone_none] at q
  rw [List.length_nil]
  go_enter func151,ntmps151
  go_wp2
  go_ret
  exact ⟨_,rfl,LZ _ _ _ _,LR _ _⟩
 | some a=>
  go_enter func151,ntmps151
  go_wp2_with (at_builtin;refine dy Kv _ rfl (.tmp 5) (.tmp 6) rfl w.heap.size _ 0 [] rfl (ey w 2 1) _ zs.length c (aA .i64 zs) rfl (hA.alloc _) (by rw [bU];omega) (cG _ _) ap (by unfold maxLen;omega) (by simp) ?_)
  intro H D C i hb _ _
  have u:=((LR _ w).alloc (LO _) (.cells #[] 2)).trans hb
  obtain ⟨p,x⟩:=ae i u;clear i hb u
  go_wp2
  go_ret
  exact ⟨_,rfl,p.o,x.o⟩
structure Tg where
 a:Int
 b:Int
 c:Int
 d:Int
 e:Int
structure Msg where
 tag:Tg
 vals:List Int
def Tg.cells (t:Tg):List Value:=[MO t.a,MO t.b,MO t.c,MO t.d,MO t.e]
def Tg.zero:Tg:=⟨0,0,0,0,0⟩
def Msg.zero:Msg:=⟨Tg.zero,[]⟩
theorem j3:dt prog 71 79 (.agg MW) 6 64:=⟨underlying71,info_parts (by kernel_rfl),rfl,by decide⟩
theorem mp (A:Option Addr) (zs:List Int) (c:Nat) (w:World) (hA:Rd w A (aA .i64 zs)) (hl:zs.length<=17592186043904):
  Calls prog 106 #[.slice A zs.length c] w fun e u=>∃v,e=.returned v/\u.ownsRow w.heap.size 2 1 v zs.length (aA .i64 zs)/\aq w u:=by
 have h:=DM A zs c w hA hl
 go_enter func106,ntmps106
 go_wp2_with fail
 refine h.mono ?_
 rintro e y ⟨v,rfl,i,hb⟩
 obtain ⟨C,B,rfl,_⟩:=aD i
 clear h
 obtain ⟨p,x⟩:=ae i hb;clear i hb
 go_wp2
 go_ret
 exact ⟨_,rfl,p.o,x.o⟩
def vE (w:World) (base:Nat) (h:List Value) (m:Msg):Prop:=
 ∃A c,h=m.tag.cells++[.slice A m.vals.length c]/\w.ownsRow base 2 1 (.slice A m.vals.length c) m.vals.length (aA .i64 m.vals)
def BN (w:World) (h:List Value) (m:Msg):Prop:=
 ∃A c,h=m.tag.cells++[.slice A m.vals.length c]/\Rd w A (aA .i64 m.vals)
structure LSt where
 cap:Nat
 msgs:List Msg
 recv:Nat
 peak:Nat
structure LSt.Ok (s:LSt):Prop where
 cap1:1<=s.cap
 cap2:s.cap<=1048576
 rs:s.recv<=s.msgs.length
 sr:s.msgs.length<=s.recv+s.cap
 pk:s.peak<=s.cap
 many:s.msgs.length<=100000000000
 vals:∀m∈s.msgs,m.vals.length<=17592186043904
def aK (l:List Msg) (j:Nat):Msg:=l.getD j Msg.zero
def et (l:List (List Value)) (j:Nat):List Value:=l.getD j []
structure aW (w:World) (base b:Nat) (g:Option Nat) (s:LSt):Prop where
 ok:s.Ok
 ex:∃ring rows,aC w b ring s.cap s.msgs.length s.recv s.peak/\w.ownsRow base 79 6 ring (min s.msgs.length s.cap) (List.flatten rows)/\ring.ownBlock=g/\
  rows.length=min s.msgs.length s.cap/\(∀r∈rows,r.length=6)/\∀j,s.recv<=j->j<s.msgs.length->vE w base (et rows (j%s.cap)) (aK s.msgs j)
theorem jB (b:Nat) (ring:Value) (cap sent recv peak n i:Nat) (w:World) (h:aC w b ring cap sent recv peak) (hc:1<=cap) (o:cap<=1048576) (u:n%cap=i):
  Calls prog 105 #[(au b),MO (n:Int)] w fun e p=>e=.returned (MO (i:Int))/\w=p:=by
 subst u
 refine (Dv b ring cap sent recv peak n w h hc ap o).mono ?_
 rintro e p ⟨rfl,rfl⟩
 exact ⟨by rw [Int.natCast_emod],rfl⟩
theorem mr {rows:List (List Value)} {k:Nat} (h:∀r∈rows,r.length=k) (i t:Nat) (o:i<rows.length) (p:t<k):(List.flatten rows)[i*k+t]?=(et rows i)[t]?:=by
 induction rows generalizing i with
 | nil=>simp at o
 | cons r l ih=>
  have hr:r.length=k:=h r (by simp)
  cases i with
  | zero=>
   rw [List.flatten_cons,Nat.zero_mul,MH,Mr ap]
   simp [et]
  | succ i=>
   rw [List.flatten_cons,Ms (by rw [hr,Nat.add_mul];omega),hr,show (i+1)*k+t-k=i*k+t by rw [Nat.add_mul];omega,ih (fun r hr=>h r (by simp [hr])) i (by simpa using o)]
   simp [et]
structure qb (w:World) (g o:Nat) (t:Tg) (v:Value):Prop where
 c0:w.cell? (ar g o)=some (MO t.a)
 c1:w.cell? (ar g (o+1))=some (MO t.b)
 c2:w.cell? (ar g (o+2))=some (MO t.c)
 c3:w.cell? (ar g (o+3))=some (MO t.d)
 c4:w.cell? (ar g (o+4))=some (MO t.e)
 c5:w.cell? (ar g (o+5))=some v
theorem rM {j n r cap:Nat} (_h1:r<=j) (o:j<n) (_h3:n<=r+cap) (hc:1<=cap):j%cap<min n cap:=by
 have h:=Nat.mod_lt j (show 0<cap by omega)
 have i:=Nat.mod_le j cap
 omega
theorem aW.at_ {w:World} {base b:Nat} {g:Option Nat} {s:LSt} (h:aW w base b g s) (j:Nat) (h1:s.recv<=j) (B:j<s.msgs.length):
  ∃p c y u,g=some p/\aC w b (.slice (some (ar p 0)) (min s.msgs.length s.cap) c) s.cap s.msgs.length s.recv s.peak/\j%s.cap<min s.msgs.length s.cap/\
   qb w p (j%s.cap*6) (aK s.msgs j).tag (.slice y (aK s.msgs j).vals.length u)/\
   w.ownsRow base 2 1 (.slice y (aK s.msgs j).vals.length u) (aK s.msgs j).vals.length (aA .i64 (aK s.msgs j).vals):=by
 obtain ⟨ok,ring,rows,hc,o,hg,hrl,A,hm⟩:=h
 have C:=rM h1 B ok.sr ok.cap1
 obtain ⟨y,u,v,x⟩:=hm j h1 B
 obtain ⟨p,c,rfl,_,_⟩:=o.form ap
 refine ⟨p,c,y,u,hg.symm,hc,C,?_,x⟩
 have i:∀t,t<6->w.cell? ⟨p,j%s.cap*6+t,none⟩=((aK s.msgs j).tag.cells++[Value.slice y (aK s.msgs j).vals.length u])[t]?:=fun t D=>by
  rw [o.cellAt _ (by have:=MN 6 (Nat.succ_le_of_lt C);rw [MF] at this;omega),mr A _ t ap D,v]
 exact ⟨i 0 ap,i 1 ap,i 2 ap,i 3 ap,i 4 ap,i 5 ap⟩
theorem aC.alloc {w:World} {b:Nat} {ring:Value} {cap sent recv peak:Nat} (h:aC w b ring cap sent recv peak) (o:Obj):aC (w.alloc o) b ring cap sent recv peak:=(L0 _ _ _ (LN h)).trans h
theorem xq (base b:Nat) (g:Option Nat) (s:LSt) (w:World) (h:aW w base b g s) (A:s.recv<s.msgs.length):
  Calls prog 223 #[(.pointer (some ⟨b,0,none⟩))] w fun e p=>e=.returned (.tuple #[.agg #[MO (aK s.msgs s.recv).tag.a,MO (aK s.msgs s.recv).tag.b,MO (aK s.msgs s.recv).tag.c,MO (aK s.msgs s.recv).tag.d,MO (aK s.msgs s.recv).tag.e],.bool true])/\aq w p:=by
 obtain ⟨x,c,A',c',rfl,hc,O,I,y⟩:=h.at_ s.recv (LO _) A
 obtain ⟨D,C,B,V,Q,T,H⟩:=h.ok
 clear H y
 obtain ⟨i,u⟩:∃i,s.recv%s.cap=i:=⟨_,rfl⟩
 rw [u] at O I
 obtain ⟨L,J⟩:∃L,min s.msgs.length s.cap=L:=⟨_,rfl⟩
 rw [J] at O hc
 have hl:=fun o=>mN b _ _ _ _ _ _ (hc.alloc o) B ap
 have N:=fun o n=>jB b _ _ _ _ _ s.recv i _ (show aC ((w.alloc o).drewN n) _ _ _ _ _ _ from hc.alloc o) D C u
 have c0:=hc.c0
 have c3:=hc.c3
 have hb:=LN hc
 have hg:=az I.c0
 obtain ⟨d0,d1,Y,d3,d4,d5⟩:=I
 obtain ⟨R,U⟩:=ae hl N;clear hl N u J h
 generalize (aK s.msgs s.recv).tag=tg at *
 go_enter func223,ntmps223
 go_wp2_with fail
 refine (R.o _).mono ?_
 rintro e Z ⟨rfl,n,rfl⟩
 go_wp2_with fail
 go_region_held3 (fun p=>p.cell? ⟨b,0,none⟩=some (.slice (some ⟨x,0,none⟩) L c)/\p.cell? ⟨b,3,none⟩=some (MO (s.recv:Int))/\p.cell? ⟨x,(i*6),none⟩=some (MO tg.a)/\p.cell? ⟨x,(i*6+1),none⟩=some (MO tg.b)/\
   p.cell? ⟨x,(i*6+2),none⟩=some (MO tg.c)/\p.cell? ⟨x,(i*6+3),none⟩=some (MO tg.d)/\p.cell? ⟨x,(i*6+4),none⟩=some (MO tg.e)) (simp [go_sem, *])
  ((go_at_call 105;refine (U.o _ _).mono ?_;rintro e p ⟨rfl,rfl⟩))
 go_wp2
 refine L7 (v:=.tuple #[.agg #[MO tg.a,MO tg.b,MO tg.c,MO tg.d,MO tg.e],.bool true]) (by simp [results,results223,go_sem]) rfl ⟨rfl,?_⟩
 exact am
theorem sZ (base b:Nat) (g:Option Nat) (s:LSt) (w:World) (h:aW w base b g s) (i:s.recv=s.msgs.length):
  Calls prog 223 #[(au b)] w fun e A=>e=.returned (.tuple #[.agg #[MO 0,MO 0,MO 0,MO 0,MO 0],.bool false])/\aq w A:=by
 obtain ⟨ok,ring,rows,hc,_⟩:=h
 obtain ⟨C,H,p,x,y,D,u⟩:=ok
 clear u
 have hl:=fun o=>mN b _ _ _ _ _ _ (hc.alloc o) p ap
 rw [i,Int.sub_self] at hl
 have B:=aa hl;clear hl hc i
 go_enter func223,ntmps223
 go_wp2_with fail
 refine (B.o _).mono ?_
 rintro e I ⟨rfl,n,rfl⟩
 go_wp2
 refine L7 (v:=.tuple #[.agg #[MO 0,MO 0,MO 0,MO 0,MO 0],.bool false]) (by simp [results,results223,go_sem]) rfl ⟨rfl,?_⟩
 exact am
theorem qb.same {w i:World} {g o:Nat} {t:Tg} {v:Value} (h:qb w g o t v) (hb:i.heap[g]?=w.heap[g]?):qb i g o t v:=
 ⟨(World.cell?_of_block (w:=w) hb).trans h.c0,(World.cell?_of_block (w:=w) hb).trans h.c1,(World.cell?_of_block (w:=w) hb).trans h.c2,(World.cell?_of_block (w:=w) hb).trans h.c3,(World.cell?_of_block (w:=w) hb).trans h.c4,(World.cell?_of_block (w:=w) hb).trans h.c5⟩
theorem aC.same {w i:World} {b:Nat} {ring:Value} {cap sent recv peak:Nat} (h:aC w b ring cap sent recv peak) (hb:i.heap[b]?=w.heap[b]?):aC i b ring cap sent recv peak:=hb.trans h
theorem aW.keep {S:Nat->Prop} {w D:World} {base b:Nat} {g:Option Nat} {s:LSt} (h:aW w base b g s) (k:Keep S w D) (h1:¬S b) (J:∀i,g=some i->¬S i) (N:∀i c,w.heap[i]?=some (.cells c 2 (0,0))->base<=i->¬S i):aW D base b g s:=by
 obtain ⟨ok,ring,rows,hc,p,hg,hrl,x,hm⟩:=h
 refine ⟨ok,ring,rows,hc.same (k.block _ (LN hc) h1),k.own p (fun i o=>J i (hg.symm.trans o)),hg,hrl,x,fun j v B=>?_⟩
 obtain ⟨A,c,e,C⟩:=hm j v B
 refine ⟨A,c,e,k.own C fun i o=>?_⟩
 rcases C.2 with ⟨hn,_⟩ | ⟨I,cap,H,L,u,y,_⟩
 ·rw [hn] at o;cases o
 ·rw [L] at o
  obtain rfl:I=i:=by simpa [Value.ownBlock] using o
  exact N _ _ y u
theorem aW.below {w i:World} {base b:Nat} {g:Option Nat} {s:LSt} (h:aW w base b g s) (hb:aq w i):aW i base b g s:=
 h.keep (S:=fun _=>False) (Keep.below hb) id (fun _ _=>id) (fun _ _ _ _=>id)
theorem sY (base b:Nat) (g:Option Nat) (s:LSt) (t:Tg) (w:World) (h:aW w base b g s) (x:s.recv=s.msgs.length):
  Calls prog 236 #[(au b),.agg #[MO t.a,MO t.b,MO t.c,MO t.d,MO t.e]] w fun e D=>e=.returned (.tuple #[.agg MW,MO 12])/\aq w D:=by
 obtain ⟨t0,t1,t2,B,J⟩:=t
 have A:=fun R O=>sZ base b g s ((w.alloc R).alloc O) ((h.below ((LR _ _).alloc (LO _) _)).below ((LR _ _).alloc (LO _) _)) x
 have T:=aa A;clear A x h
 go_enter func236,ntmps236
 go_wp2_with fail
 refine (T.o _ _).mono ?_
 rintro e p ⟨rfl,u⟩
 have i:p.heap[w.heap.size+1]?=some (.cells MW 79 (0,0)):=by
  rw [u.block _ (by simp)]
  simpa using LP (w.alloc (.cells #[MO t0,MO t1,MO t2,MO B,MO J] 77)) (.cells MW 79)
 have y:=LN i
 have N:p.cell? (ar (w.heap.size+1) 0)=some (MO 0):=LQ p _ 0 _ _ _ i
 have H:p.cell? (ar (w.heap.size+1) 1)=some (MO 0):=LQ p _ 1 _ _ _ i
 have U:p.cell? (ar (w.heap.size+1) 2)=some (MO 0):=LQ p _ 2 _ _ _ i
 have C:p.cell? (ar (w.heap.size+1) 3)=some (MO 0):=LQ p _ 3 _ _ _ i
 have L:p.cell? (ar (w.heap.size+1) 4)=some (MO 0):=LQ p _ 4 _ _ _ i
 have Q:p.cell? (ar (w.heap.size+1) 5)=some (MP):=LQ p _ 5 _ _ _ i
 have V:=fun j=>LX p _ j _ _ i
 have I:aq w p:=(((LR _ w).alloc (LO _) _).alloc (by simp) _).trans (u.mono (by simp;omega))
 clear u i
 go_wp2
 refine L7 (v:=.tuple #[.agg MW,MO 12]) (by simp [results,results236,go_sem,N,H,U,C,L,Q,y]) rfl ⟨rfl,?_⟩
 exact am
theorem vq (base b:Nat) (g:Option Nat) (s:LSt) (t:Tg) (w:World) (h:aW w base b g s) (y:s.recv<s.msgs.length) (A:(aK s.msgs s.recv).tag≠t):
  Calls prog 236 #[(au b),.agg #[MO t.a,MO t.b,MO t.c,MO t.d,MO t.e]] w fun e L=>e=.returned (.tuple #[.agg MW,MO 10])/\aq w L:=by
 obtain ⟨t0,t1,t2,B,C⟩:=t
 have H:=fun Y U=>xq base b g s ((w.alloc Y).alloc U) ((h.below ((LR _ _).alloc (LO _) _)).below ((LR _ _).alloc (LO _) _)) y
 generalize (aK s.msgs s.recv).tag=tg at *
 obtain ⟨u0,u1,u2,u3,u4⟩:=tg
 dsimp only at H
 have Z:=aa H;clear H y h;have D:=aa A;clear A
 go_enter func236,ntmps236
 go_wp2_with fail
 refine (Z.o _ _).mono ?_
 rintro e p ⟨rfl,x⟩
 have i:p.heap[w.heap.size+1]?=some (.cells MW 79 (0,0)):=by
  rw [x.block _ (by simp)]
  simpa using LP (w.alloc (.cells #[MO t0,MO t1,MO t2,MO B,MO C] 77)) (.cells MW 79)
 have I:=LN i
 have T:p.cell? (ar (w.heap.size+1) 0)=some (MO 0):=LQ p _ 0 _ _ _ i
 have N:p.cell? (ar (w.heap.size+1) 1)=some (MO 0):=LQ p _ 1 _ _ _ i
 have r2:p.cell? (ar (w.heap.size+1) 2)=some (MO 0):=LQ p _ 2 _ _ _ i
 have J:p.cell? (ar (w.heap.size+1) 3)=some (MO 0):=LQ p _ 3 _ _ _ i
 have Q:p.cell? (ar (w.heap.size+1) 4)=some (MO 0):=LQ p _ 4 _ _ _ i
 have V:p.cell? (ar (w.heap.size+1) 5)=some (MP):=LQ p _ 5 _ _ _ i
 have fr:=fun j=>LX p _ j _ _ i
 have u:p.heap[w.heap.size]?=some (.cells #[MO t0,MO t1,MO t2,MO B,MO C] 77 (0,0)):=by
  rw [x.block _ (by simp;omega),L0 _ _ _ (by simp)]
  exact LP w _
 have p0:p.cell? (ar w.heap.size 0)=some (MO t0):=LQ p _ 0 _ _ _ u
 have p1:p.cell? (ar w.heap.size 1)=some (MO t1):=LQ p _ 1 _ _ _ u
 have p2:p.cell? (ar w.heap.size 2)=some (MO t2):=LQ p _ 2 _ _ _ u
 have p3:p.cell? (ar w.heap.size 3)=some (MO B):=LQ p _ 3 _ _ _ u
 have p4:p.cell? (ar w.heap.size 4)=some (MO C):=LQ p _ 4 _ _ _ u
 have O:aq w p:=(((LR _ w).alloc (LO _) _).alloc (by simp) _).trans (x.mono (by simp;omega))
 have R:w.heap.size<p.heap.size:=ap
 clear x i u
 go_wp2
 ·exact absurd (by simp only [*]) D.o
 all_goals
  refine L7 (v:=.tuple #[.agg MW,MO 10]) (by simp [results,results236,go_sem,T,N,r2,J,Q,V,I]) rfl ⟨rfl,?_⟩
  exact am
theorem sW {w x:World} {base b:Nat} {g:Option Nat} {s:LSt} {T:Option Addr} {Q:Nat} (h:aW w base b g s) (C:s.recv<s.msgs.length) (k:Keep (· =b) w x)
  (N:w.ownsRow base 2 1 (.slice T (aK s.msgs s.recv).vals.length Q) (aK s.msgs s.recv).vals.length (aA .i64 (aK s.msgs s.recv).vals))
  {L c y:Nat} (_hgg:g=some y) (u:aC w b (.slice (some (ar y 0)) L c) s.cap s.msgs.length s.recv s.peak) (hc:aC x b (.slice (some (ar y 0)) L c) s.cap s.msgs.length (s.recv+1) s.peak):
  x.ownsRow base 2 1 (.slice T (aK s.msgs s.recv).vals.length Q) (aK s.msgs s.recv).vals.length (aA .i64 (aK s.msgs s.recv).vals)/\aW x base b g {s with recv:=s.recv+1}/\Keep (· =b) w x:=by
 have D:∀i e R,w.heap[i]?=some (.cells R e (0,0))->e≠182->¬i=b:=by
  rintro i e R p he rfl
  unfold aC at u
  rw [u] at p
  injection p with p
  injection p with _ p
  exact he p.symm
 have o:∀{e:TypeId} {size:Nat} {v:Value} {n:Nat} {xs:List Value},w.ownsRow base e size v n xs->e≠182->x.ownsRow base e size v n xs:=fun {e size v n xs} B he=>
  k.own B fun i p=>by
   rcases B.2 with ⟨hn,_⟩ | ⟨y,cap,V,N,Y,J,_⟩
   ·rw [hn] at p;cases p
   ·rw [N] at p
    obtain rfl:y=i:=by simpa [Value.ownBlock] using p
    exact D _ _ _ J he
 refine ⟨o N (by decide),?_,k⟩
 obtain ⟨ok,ring,rows,O,B,hg,hrl,I,hm⟩:=h
 obtain rfl:ring=.slice (some (ar y 0)) L c:=by
  have:=O.c0.symm.trans u.c0
  injection this
 refine ⟨⟨ok.cap1,ok.cap2,C,by have:=ok.sr;simp only;omega,ok.pk,ok.many,ok.vals⟩,_,rows,hc,o B (by decide),hg,hrl,I,fun j h1 U=>?_⟩
 obtain ⟨A,c2,e,H⟩:=hm j (by simp only at h1;omega) U
 exact ⟨A,c2,e,o H (by decide)⟩
theorem aC.set {w:World} {b:Nat} {ring:Value} {cap sent recv peak:Nat} (h:aC w b ring cap sent recv peak) (n:Nat) (v:Int) (i:v=(n:Int)):aC (w.setCell (ar b 3) (MO v)) b ring cap sent n peak:=by
 subst i
 unfold aC at h ⊢
 simp [World.setCell,Array.getElem?_modify,h]
theorem xp (base b:Nat) (g:Option Nat) (s:LSt) (t:Tg) (w:World) (h:aW w base b g s) (Q:s.recv<s.msgs.length) (a3:(aK s.msgs s.recv).tag=t):
  Calls prog 236 #[(.pointer (some ⟨b,0,none⟩)),.agg #[MO t.a,MO t.b,MO t.c,MO t.d,MO t.e]] w fun e y=>∃A c,
   e=.returned (.tuple #[.agg #[MO t.a,MO t.b,MO t.c,MO t.d,MO t.e,.slice A (aK s.msgs s.recv).vals.length c],MO 0])/\
   y.ownsRow base 2 1 (.slice A (aK s.msgs s.recv).vals.length c) (aK s.msgs s.recv).vals.length (aA .i64 (aK s.msgs s.recv).vals)/\
   aW y base b g {s with recv:=s.recv+1}/\Keep (· =b) w y:=by
 subst a3
 have hp:=fun o1 o2=>xq base b g s ((w.alloc o1).alloc o2) ((h.below ((LR _ _).alloc (LO _) _)).below ((LR _ _).alloc (LO _) _)) Q
 obtain ⟨N,c,A',c',a0,hc,hi,h6,O⟩:=h.at_ s.recv (LO _) Q
 have I:=h.ok
 have av:s.recv<=100000000000:=by have:=I.many;omega
 have x:=I.cap1
 have aM:=I.cap2
 obtain ⟨i,R⟩:∃i,s.recv%s.cap=i:=⟨_,rfl⟩
 rw [R] at hi h6
 obtain ⟨L,hL⟩:∃L,min s.msgs.length s.cap=L:=⟨_,rfl⟩
 rw [hL] at hi hc
 have hb:=LN hc
 have ad:=az h6.c0
 generalize (aK s.msgs s.recv).tag=tg at *
 obtain ⟨t0,t1,t2,T,V⟩:=tg
 dsimp only at hp
 obtain ⟨Hp,a2,H,Z,a9,a6⟩:=ai hp I h O R a0;clear hp I h O R a0 hL
 go_enter func236,ntmps236
 go_wp2_with fail
 refine (Hp.o _ _).mono ?_
 rintro e p ⟨rfl,D⟩
 have u:p.heap[w.heap.size+1]?=some (.cells MW 79 (0,0)):=by
  rw [D.block _ (by simp)]
  simpa using LP (w.alloc (.cells #[MO t0,MO t1,MO t2,MO T,MO V] 77)) (.cells MW 79)
 have a5:=LN u
 have r0:p.cell? ⟨(w.heap.size+1),0,none⟩=some (MO 0):=LQ p _ 0 _ _ _ u
 have r1:p.cell? ⟨(w.heap.size+1),1,none⟩=some (MO 0):=LQ p _ 1 _ _ _ u
 have r2:p.cell? ⟨(w.heap.size+1),2,none⟩=some (MO 0):=LQ p _ 2 _ _ _ u
 have r3:p.cell? ⟨(w.heap.size+1),3,none⟩=some (MO 0):=LQ p _ 3 _ _ _ u
 have r4:p.cell? ⟨(w.heap.size+1),4,none⟩=some (MO 0):=LQ p _ 4 _ _ _ u
 have r5:p.cell? ⟨(w.heap.size+1),5,none⟩=some (MP):=LQ p _ 5 _ _ _ u
 have fr:=fun j=>LX p _ j _ _ u
 have C:p.heap[w.heap.size]?=some (.cells #[MO t0,MO t1,MO t2,MO T,MO V] 77 (0,0)):=by
  rw [D.block _ (by simp;omega),L0 _ _ _ (by simp)]
  exact LP w _
 have p0:p.cell? ⟨w.heap.size,0,none⟩=some (MO t0):=LQ p _ 0 _ _ _ C
 have p1:p.cell? ⟨w.heap.size,1,none⟩=some (MO t1):=LQ p _ 1 _ _ _ C
 have p2:p.cell? ⟨w.heap.size,2,none⟩=some (MO t2):=LQ p _ 2 _ _ _ C
 have p3:p.cell? ⟨w.heap.size,3,none⟩=some (MO T):=LQ p _ 3 _ _ _ C
 have p4:p.cell? ⟨w.heap.size,4,none⟩=some (MO V):=LQ p _ 4 _ _ _ C
 have J:aq w p:=(((LR _ w).alloc (LO _) _).alloc (by simp) _).trans (D.mono (by simp;omega))
 have a4:w.heap.size<p.heap.size:=ap
 have J:aq w p:=(((LR _ w).alloc (LO _) _).alloc (by simp) _).trans (D.mono (by simp;omega))
 have x:=hc.same (J.block b hb)
 have Y:=h6.same (J.block N ad)
 have a8:=LN x
 have aG:=az Y.c0
 have U:=fun W hW=>jB b (.slice (some ⟨N,0,none⟩) L c) s.cap s.msgs.length s.recv s.peak s.recv i W hW a2.o.cap1 a2.o.cap2 a9.o
 have k0:=x.c0
 have k3:=x.c3
 obtain ⟨m0,m1,m2,m3,m4,m5⟩:=Y
 have f3:=x.free 3
 have aP:¬(b=w.heap.size+1):=ap
 have ao:¬(w.heap.size+1=b):=ap
 obtain ⟨b0,a1,a7,Hc,H6⟩:=ah D x U hc h6;clear D u C x U hc h6
 go_wp2_with fail
 go_region_held3 (fun y=>y.cell? ⟨b,0,none⟩=some (.slice (some ⟨N,0,none⟩) L c)/\y.cell? ⟨b,3,none⟩=some (MO (s.recv:Int))/\y.cell? ⟨N,(i*6),none⟩=some (MO t0)/\y.cell? ⟨N,(i*6+1),none⟩=some (MO t1)/\
   y.cell? ⟨N,(i*6+2),none⟩=some (MO t2)/\y.cell? ⟨N,(i*6+3),none⟩=some (MO T)/\y.cell? ⟨N,(i*6+4),none⟩=some (MO V)/\y.cell? ⟨N,(i*6+5),none⟩=some (.slice A' (aK s.msgs s.recv).vals.length c')) (simp [go_sem, *])
  ((go_at_call 105;refine (a7.o _ (a1.o.same (Below.block (B:=p.heap.size) ?_ b a8))).mono ?_;exact am;rintro e y ⟨rfl,rfl⟩))
 all_goals
  go_wp2_with fail
  have ab:IntKind.i64.wrap ((s.recv:Int)+1)=(s.recv:Int)+1:=LT _ ap
  go_region
  clear ab
  go_wp2
  refine L7 (v:=.tuple #[.agg #[MO t0,MO t1,MO t2,MO T,MO V,.slice A' (aK s.msgs s.recv).vals.length c'],MO 0]) (by simp [results,results236,go_sem,r0,r1,r2,r3,r4,r5,a4,a5]) rfl ⟨A',c',rfl,?_⟩
  refine sW H.o Q ?_ Z.o a6.o Hc.o ((a1.o.set (s.recv+1) ((s.recv:Int)+1) ap).same (Below.block (B:=w.heap.size) ?_ b hb))
  ·have aR:Keep (· =b) w p:=Keep.below J
   (focus (repeat' (first | (with_reducible exact Keep.refl _ _) | (with_reducible assumption) | (with_reducible refine Keep.setCell ?_ _ ?_ _) | (with_reducible refine Keep.alloc ?_ _) | (with_reducible refine Keep.drewN ?_ _) | (with_reducible refine Keep.drew ?_) | (with_reducible exact Or.inr (iz _ _)) | (with_reducible exact Or.inr (iy _ _)) | (refine Or.inr ?_;first | rfl | (simp;done) | omega) | (refine Or.inl ?_;first | omega | (simp;done) | (simp;omega)))))
  ·exact am
def dL (b:Nat) (g:Option Nat) (k:Nat):Prop:=k=b\/g=some k
theorem iz (b:Nat) (g:Option Nat):dL b g b:=.inl rfl
theorem iy (b g:Nat):dL b (some g) g:=.inr rfl
theorem aC.drew {w:World} {b:Nat} {ring:Value} {cap sent recv peak:Nat} (h:aC w b ring cap sent recv peak):aC w.drew b ring cap sent recv peak:=h
theorem aC.drewN {w:World} {b:Nat} {ring:Value} {cap sent recv peak:Nat} (h:aC w b ring cap sent recv peak) (n:Nat):aC (w.drewN n) b ring cap sent recv peak:=h
theorem aC.far {w:World} {b:Nat} {ring:Value} {cap sent recv peak:Nat} (h:aC w b ring cap sent recv peak) (p:Addr) (u:Value) (i:¬(b=p.block)):aC (w.setCell p u) b ring cap sent recv peak:=h.same (Below.heap_setCell w p u b i)
theorem aC.set0 {w:World} {b:Nat} {ring:Value} {cap sent recv peak:Nat} (h:aC w b ring cap sent recv peak) (v:Value):aC (w.setCell (ar b 0) v) b v cap sent recv peak:=by
 unfold aC at h ⊢
 simp [World.setCell,Array.getElem?_modify,h]
theorem aC.set2 {w:World} {b:Nat} {ring:Value} {cap sent recv peak:Nat} (h:aC w b ring cap sent recv peak) (n:Nat) (v:Int) (i:v=(n:Int)):aC (w.setCell (ar b 2) (MO v)) b ring cap n recv peak:=by
 subst i
 unfold aC at h ⊢
 simp [World.setCell,Array.getElem?_modify,h]
theorem aC.set4 {w:World} {b:Nat} {ring:Value} {cap sent recv peak:Nat} (h:aC w b ring cap sent recv peak) (n:Nat) (v:Int) (i:v=(n:Int)):aC (w.setCell (ar b 4) (MO v)) b ring cap sent recv n:=by
 subst i
 unfold aC at h ⊢
 simp [World.setCell,Array.getElem?_modify,h]
theorem AR {w:World} {base b:Nat} {ring u:Value} {cap sent recv peak n:Nat} {xs:List Value} (h:aC w b u cap sent recv peak) (x:w.ownsRow base 79 6 ring n xs):ring.ownBlock≠some b:=fun e=>by
 rcases x.2 with ⟨hn,_⟩ | ⟨v,cap2,p,o,_,i,_⟩
 ·rw [hn] at e;cases e
 ·rw [o] at e
  obtain rfl:v=b:=by simpa [Value.ownBlock] using e
  unfold aC at h
  rw [h] at i;injection i with i;injection i with _ i;exact absurd i (by decide)
theorem xD (H:List Value) (B I C J D L:Value) (hcs:H=[B,I,C,J,D,L]):∀(rows:List (List Value)) (i:Nat),(∀r∈rows,r.length=6)->i<rows.length->
  ((((((List.flatten rows).set (i*6) B).set (i*6+1) I).set (i*6+2) C).set (i*6+3) J).set (i*6+4) D).set (i*6+5) L=List.flatten (rows.set i H):=by
 intro rows
 induction rows with
 | nil=>intro i _ A;simp at A
 | cons r l ih=>
  intro i h A
  have hr:r.length=6:=h r (by simp)
  cases i with
  | zero=>
   obtain ⟨p,a1,u,v,o,y,rfl⟩:∃p a1 u v o y,r=[p,a1,u,v,o,y]:=by
    match r,hr with
    | [p,a1,u,v,o,y],_=>exact ⟨p,a1,u,v,o,y,rfl⟩
   subst hcs
   rfl
  | succ i=>
   have e:∀(xs:List Value) (k:Nat) (x:Value),(r++xs).set (6+k) x=r++xs.set k x:=fun xs k x=>by
    rw [List.set_append_right _ _ ap,hr,show 6+k-6=k by omega]
   rw [List.flatten_cons,show (i+1)*6=6+i*6 by omega]
   simp only [MG,e]
   rw [Mh,List.flatten_cons,<-ih i (fun r hr=>h r (by simp [hr])) (by simpa using A)]
theorem rp (rows:List (List Value)) (i:Nat) (o:List Value) (h:i<rows.length):et (rows.set i o) i=o:=by simp [et,h]
theorem qB (rows:List (List Value)) (i j:Nat) (o:List Value) (h:i≠j):et (rows.set i o) j=et rows j:=by simp [et,h]
theorem jn (rows:List (List Value)) (i:List Value) (j:Nat) (h:j<rows.length):et (rows++[i]) j=et rows j:=by simp [et,Mr h]
theorem jo (rows:List (List Value)) (h:List Value):et (rows++[h]) rows.length=h:=by simp [et]
theorem jx (l:List Msg) (m:Msg) (j:Nat) (h:j<l.length):aK (l++[m]) j=aK l j:=by simp [aK,Mr h]
theorem jy (l:List Msg) (m:Msg):aK (l++[m]) l.length=m:=by simp [aK]
theorem Kj {a b r cap:Nat} (h1:r<=a) (i:a<b) (o:b<r+cap):a%cap≠b%cap:=fun e=>by
 have h:cap ∣ b-a:=Nat.dvd_of_mod_eq_zero (Nat.sub_mod_eq_zero_of_mod_eq e.symm)
 have:=Nat.le_of_dvd ap h
 omega
theorem nd {w B:World} {base b:Nat} {g:Option Nat} {s:LSt} {ring:Value} {rows:List (List Value)} (ok:s.Ok) (C:aC w b ring s.cap s.msgs.length s.recv s.peak)
  (Z:w.ownsRow base 79 6 ring (min s.msgs.length s.cap) (List.flatten rows)) (p:ring.ownBlock=g)
  (hm:∀j,s.recv<=j->j<s.msgs.length->vE w base (et rows (j%s.cap)) (aK s.msgs j))
  (J:s.msgs.length<s.recv+s.cap) (T:s.msgs.length<100000000000) (t:Tg) (zs:List Int) (O:zs.length<=17592186043904)
  (k:Keep (dL b g) w B) {ring':Value} {V:Option Nat} {rows':List (List Value)} {A1:Option Addr} {c1:Nat} {P:Nat} (hP:P=max s.peak (s.msgs.length+1-s.recv))
  (hc:aC B b ring' s.cap (s.msgs.length+1) s.recv P) (x:B.ownsRow base 79 6 ring' (min (s.msgs.length+1) s.cap) (List.flatten rows')) (hg:ring'.ownBlock=V)
  (hrl:rows'.length=min (s.msgs.length+1) s.cap) (N:∀r∈rows',r.length=6)
  (D:∀j,s.recv<=j->j<s.msgs.length->et rows' (j%s.cap)=et rows (j%s.cap))
  (H:et rows' (s.msgs.length%s.cap)=[MO t.a,MO t.b,MO t.c,MO t.d,MO t.e,.slice A1 zs.length c1])
  (hv:B.ownsRow base 2 1 (.slice A1 zs.length c1) zs.length (aA .i64 zs)):
  aW B base b V {s with msgs:=s.msgs++[⟨t,zs⟩],peak:=max s.peak (s.msgs.length+1-s.recv)}:=by
 subst hP
 have hty:∀i U,w.heap[i]?=some (.cells U 2 (0,0))->¬(i=b\/g=some i):=by
  rintro i U h (rfl | y)
  ·unfold aC at C
   rw [C] at h;injection h with h;injection h with _ h;exact absurd h (by decide)
  ·rcases Z.2 with ⟨hn,_⟩ | ⟨L,cap,Q,u,_,v,_⟩
   ·rw [hn] at p;rw [y] at p;cases p
   ·rw [u,y] at p
    obtain rfl:L=i:=by simpa [Value.ownBlock] using p
    rw [v] at h;injection h with h;injection h with _ h;exact absurd h (by decide)
 refine ⟨⟨ok.cap1,ok.cap2,?_,?_,?_,?_,?_⟩,ring',rows',?_,?_,hg,?_,N,fun j h1 Y=>?_⟩
 ·have:=ok.rs;simp;omega
 ·simp;omega
 ·have:=ok.pk;simp only;omega
 ·simp;omega
 ·intro m o
  rcases MD.1 o with o | o
  ·exact ok.vals m o
  ·rw [List.mem_singleton.1 o];exact O
 ·simpa using hc
 ·simpa using x
 ·simpa using hrl
 ·simp only [Mo,Mx] at h1 Y
  rcases Ma j s.msgs.length with I | I
  ·rw [jx _ _ _ I]
   simp only
   rw [D j h1 I]
   obtain ⟨A,c2,e,u⟩:=hm j h1 I
   refine ⟨A,c2,e,k.own u fun i h=>?_⟩
   rcases u.2 with ⟨hn,_⟩ | ⟨L,cap,Q,R,_,v,_⟩
   ·rw [hn] at h;cases h
   ·rw [R] at h
    obtain rfl:L=i:=by simpa [Value.ownBlock] using h
    exact hty _ _ v
  ·obtain rfl:j=s.msgs.length:=ap
   rw [jy]
   exact ⟨A1,c1,H,hv⟩
theorem sX (base b:Nat) (g:Option Nat) (s:LSt) (y:Array Value) (w:World) (h:aW w base b g s) (i:s.msgs.length=s.recv+s.cap):
  Calls prog 235 #[(au b),.agg y] w fun e v=>e=.returned (MO 11)/\aq w v:=by
 obtain ⟨ok,ring,rows,hc,_⟩:=h
 have B:=ok.cap2
 have p:=ok.rs
 have u:=ok.many
 have hl:=fun o n=>mN b _ _ _ _ _ _ (show aC ((w.alloc o).drewN n) _ _ _ _ _ _ from hc.alloc o) p ap
 rw [show (s.msgs.length:Int)-(s.recv:Int)=(s.cap:Int) by omega] at hl
 have c1:=hc.c1
 have hb:=LN hc
 obtain ⟨x,A,C,D⟩:=ag hl ok hc i;clear hl hc ok i p u
 go_enter func235,ntmps235
 go_wp2_with fail
 go_quiet ((go_at_call 104;exact Calls.quiet_of (x.o _ _)))
 go_wp2_with fail
 go_ret
 refine ⟨rfl,?_⟩
 exact am
theorem rQ (base b:Nat) (g:Option Nat) (s:LSt) (t:Tg) (A:Option Addr) (zs:List Int) (c:Nat) (w:World) (h:aW w base b g s) (R:s.msgs.length<s.recv+s.cap) (b5:s.cap<=s.msgs.length) (Y:s.msgs.length<100000000000)
  (b0:base<=w.heap.size) (hA:Rd w A (aA .i64 zs)) (a9:zs.length<=17592186043904):
  Calls prog 235 #[(.pointer (some ⟨b,0,none⟩)),.agg #[MO t.a,MO t.b,MO t.c,MO t.d,MO t.e,.slice A zs.length c]] w fun e T=>e=.returned (MO 0)/\
   ∃g',aW T base b g' {s with msgs:=s.msgs++[⟨t,zs⟩],peak:=max s.peak (s.msgs.length+1-s.recv)}/\Keep (dL b g) w T/\(g'=g\/∃k,g'=some k/\w.heap.size<=k):=by
 obtain ⟨t0,t1,t2,t3,t4⟩:=t
 have H:=aa h
 obtain ⟨ok,ring,rows,hc,J,hg,hrl,ad,hm⟩:=h
 obtain ⟨RA,rc,rfl,b4⟩:=aD J
 have bh:=ok.cap1
 have bz:=ok.cap2
 have aP:=ok.rs
 have bG:=ok.pk
 have hl:=fun o n=>mN b _ _ _ _ _ _ (show aC ((w.alloc o).drewN n) _ _ _ _ _ _ from hc.alloc o) aP ap
 obtain ⟨i,Z⟩:∃i,s.msgs.length%s.cap=i:=⟨_,rfl⟩
 obtain ⟨L,hL⟩:∃L,min s.msgs.length s.cap=L:=⟨_,rfl⟩
 rw [hL] at b4 J hrl hc
 have c1:=hc.c1
 have hb:=LN hc
 have a7:(((s.msgs.length:Int)-(s.recv:Int))==(s.cap:Int))=false:=by simp;omega
 have a6:=fun W hW=>mp A zs c W hW a9
 obtain ⟨D,hD⟩:∃D:Int,D=(s.msgs.length:Int)-(s.recv:Int):=⟨_,rfl⟩
 rw [<-hD] at a7 hl
 have bw:0<=D/\D<s.cap:=ap
 have b3:i<L:=by rw [<-hL,<-Z];have:=Nat.mod_lt s.msgs.length (show 0<s.cap by omega);omega
 obtain ⟨Hl,a0,Hc,N,Hg,aG,av,Hm⟩:=ak hl ok hc J hg hrl ad hm;obtain ⟨a2,HL,b6,HD⟩:=ag Z hL a6 hD;clear hl hc ok J hg hrl ad hm Z hL a6 hD
 go_enter func235,ntmps235
 go_wp2_with fail
 go_quiet ((go_at_call 104;exact Calls.quiet_of (Hl.o _ _)))
 clear a7
 go_wp2_with fail
 refine (b6.o _ ((hA.alloc _).drewN _)).mono ?_
 rintro e B ⟨v1,rfl,C,V⟩
 obtain ⟨A1,a3,rfl,bA⟩:=aD C
 have p:B.heap[w.heap.size]?=some (.cells #[MO t0,MO t1,MO t2,MO t3,MO t4,.slice A zs.length c] 79 (0,0)):=by
  rw [V.block _ (by simp)]
  exact LP w _
 have bv:=LN p
 have p0:B.cell? ⟨w.heap.size,0,none⟩=some (MO t0):=LQ B _ 0 _ _ _ p
 have p1:B.cell? ⟨w.heap.size,1,none⟩=some (MO t1):=LQ B _ 1 _ _ _ p
 have p2:B.cell? ⟨w.heap.size,2,none⟩=some (MO t2):=LQ B _ 2 _ _ _ p
 have p3:B.cell? ⟨w.heap.size,3,none⟩=some (MO t3):=LQ B _ 3 _ _ _ p
 have p4:B.cell? ⟨w.heap.size,4,none⟩=some (MO t4):=LQ B _ 4 _ _ _ p
 have p5:B.cell? ⟨w.heap.size,5,none⟩=some (.slice A zs.length c):=LQ B _ 5 _ _ _ p
 have pf:=fun j=>LX B _ j _ _ p
 have a1:aq w B:=(LY ((LR _ w).alloc (LO _) _) _).trans (V.mono (by simp))
 have y:=Hc.o.same (a1.block b hb)
 have bl:=LN y
 have k0:=y.c0
 have k2:=y.c2
 have k3:=y.c3
 have k4:=y.c4
 have f2:=y.free 2
 have f4:=y.free 4
 have f0:=y.free 0
 have b9:¬(b=w.heap.size):=ap
 have bd:¬(w.heap.size=b):=ap
 have ao:=fun W hW=>jB b (.slice RA L rc) s.cap s.msgs.length s.recv s.peak s.msgs.length i W hW a0.o.cap1 a0.o.cap2 a2.o
 obtain ⟨a5,bs,I,aR⟩:=ag y V C ao;clear y V C ao p
 go_wp2_with fail
 refine (aR.o _ (a5.o.same (Below.heap_setCell B ⟨w.heap.size,5,none⟩ _ b b9))).mono ?_
 rintro e w2 ⟨rfl,rfl⟩
 obtain ⟨O,b7,U,bI,bo⟩:=N.o.form ap
 obtain ⟨rfl,rfl⟩:RA=some ⟨O,0,none⟩/\rc=b7:=by simp only [MC] at U;exact ⟨U.1,U.2.2⟩
 clear U
 obtain rfl:g=some O:=Hg.o.symm
 have u:=ay N.o ((Below.mono a1 (LO _)))
 have v:∀t,t<6->∃x,B.cell? ⟨O,(i*6+t),none⟩=some x:=fun t ht=>by
  have h6:i*6+t<L*6:=ap
  rw [u.cellAt _ h6]
  exact ⟨_,Mq (by rw [u.1];exact h6)⟩
 obtain ⟨x0,q0⟩:=v 0 ap
 obtain ⟨x1,q1⟩:=v 1 ap
 obtain ⟨x2,q2⟩:=v 2 ap
 obtain ⟨x3,q3⟩:=v 3 ap
 obtain ⟨x4,q4⟩:=v 4 ap
 obtain ⟨x5,q5⟩:=v 5 ap
 rw [Nat.add_zero] at q0
 have qf:=fun j=>u.frozenAt j
 have bi:¬(O=w.heap.size):=ap
 have be:¬(w.heap.size=O):=ap
 have aM:¬(O=b):=fun e=>by
  subst e
  have h1:=a5.o.c1
  rcases N.o.2 with ⟨h0,_⟩ | ⟨g2,cap,bf,hv,_,Q,_⟩
  ·cases h0
  ·have e2:g2=O:=by simp only [MC,Option.some.injEq,Addr.mk.injEq] at hv;exact hv.1.1.symm
   subst e2
   have h2:=Hc.o
   unfold aC at h2
   rw [h2] at Q
   injection Q with Q
   injection Q with _ Q
   exact absurd Q (by decide)
 have b8:¬(b=O):=fun e=>aM e.symm
 clear v
 have a4:=aa u;clear u
 go_wp2_with fail
 go_region_held3 (fun T=>T.cell? ⟨b,0,none⟩=some (.slice (some ⟨O,0,none⟩) L rc)/\T.cell? ⟨w.heap.size,0,none⟩=some (MO t0)/\T.cell? ⟨w.heap.size,1,none⟩=some (MO t1)/\T.cell? ⟨w.heap.size,2,none⟩=some (MO t2)/\T.cell? ⟨w.heap.size,3,none⟩=some (MO t3)/\
  T.cell? ⟨w.heap.size,4,none⟩=some (MO t4)/\T.cell? ⟨w.heap.size,5,none⟩=some (.slice A1 zs.length a3)) (simp [go_sem, *]) ((fail))
 go_wp2_with fail
 have b2:IntKind.i64.wrap ((s.msgs.length:Int)+1)=(s.msgs.length:Int)+1:=LT _ ap
 go_region
 clear b2
 go_wp2_with fail
 have b1:0<=(s.recv:Int)/\(s.recv:Int)<=(s.msgs.length:Int)+1/\(s.msgs.length:Int)+1<=17592186043904:=ap
 go_region_with ((go_at_call 104;refine (xr b ((s.msgs.length:Int)+1) s.recv _ (by simp [go_sem, *]) (by simp [go_sem, *]) b1).mono ?_;rintro e T ⟨rfl,n',rfl⟩))
 have bb:=I.o
 all_goals go_wp2_with fail
 all_goals go_ret
 all_goals
  have bn:Keep (dL b (some O)) w B:=Keep.below a1
  have a8:i<rows.length:=by rw [aG.o];exact b3
  have ab:L=min (s.msgs.length+1) s.cap:=by have:=HL.o;omega
  refine ⟨rfl,some O,?_,by (focus (repeat' (first | (with_reducible exact Keep.refl _ _) | (with_reducible assumption) | (with_reducible refine Keep.setCell ?_ _ ?_ _) | (with_reducible refine Keep.alloc ?_ _) | (with_reducible refine Keep.drewN ?_ _) | (with_reducible refine Keep.drew ?_) | (with_reducible exact Or.inr (iz _ _)) | (with_reducible exact Or.inr (iy _ _)) | (refine Or.inr ?_;first | rfl | (simp;done) | omega) | (refine Or.inl ?_;first | omega | (simp;done) | (simp;omega))))),.inl rfl⟩
  refine nd (A1:=A1) (c1:=a3) (g:=some O) (rows':=rows.set i [MO t0,MO t1,MO t2,MO t3,MO t4,.slice A1 zs.length a3]) (ring':=.slice (some ⟨O,0,none⟩) L rc) a0.o Hc.o (HL.o▸N.o) rfl Hm.o R Y ⟨t0,t1,t2,t3,t4⟩ zs a9 (by (focus (repeat' (first | (with_reducible exact Keep.refl _ _) | (with_reducible assumption) | (with_reducible refine Keep.setCell ?_ _ ?_ _) | (with_reducible refine Keep.alloc ?_ _) | (with_reducible refine Keep.drewN ?_ _) | (with_reducible refine Keep.drew ?_) | (with_reducible exact Or.inr (iz _ _)) | (with_reducible exact Or.inr (iy _ _)) | (refine Or.inr ?_;first | rfl | (simp;done) | omega) | (refine Or.inl ?_;first | omega | (simp;done) | (simp;omega)))))) (P:=max s.peak (s.msgs.length+1-s.recv)) rfl (by (focus (repeat' (first | (with_reducible exact a5.o) | (with_reducible refine aC.drew ?_) | (with_reducible refine aC.drewN ?_ _) | (with_reducible refine aC.alloc ?_ _) | (with_reducible refine aC.set0 (ring:=.slice RA L rc) ?_ _) | (with_reducible refine aC.set2 (sent:=s.msgs.length) ?_ _ _ ?_) | (with_reducible refine aC.set4 (peak:=s.peak) ?_ _ _ ?_) | (with_reducible refine aC.far ?_ _ _ ?_) | omega | (push_cast;omega))))) ?_ rfl ?_ ?_ ?_ ?_ ?_
  ·rw [<-ab,<-xD _ _ _ _ _ _ _ rfl rows i av.o a8]
   (focus (repeat' (first | (with_reducible exact a4.o) | (with_reducible refine World.ownsRow.drew ?_) | (with_reducible refine bT ?_ _) | (with_reducible refine World.ownsRow.alloc ?_ _) | (with_reducible refine (World.ownsRow.stored ?_ _ _).1) | (with_reducible refine ownsRow_setCell_other ?_ ?_ _) | (with_reducible assumption) | (simp [Value.ownBlock];done) | (simp [Value.ownBlock];omega))))
  ·rw [List.length_set,aG.o,ab]
  ·intro r hr
   rcases List.mem_or_eq_of_mem_set hr with hr | rfl
   ·exact av.o r hr
   ·rfl
  ·intro j h1 h2
   exact qB _ _ _ _ fun e=>Kj h1 h2 R (e.symm.trans a2.o.symm)
  ·rw [a2.o];exact rp _ _ _ a8
  ·refine Keep.own (S:=fun k=>k<=w.heap.size) (w:=B) ?_ (aE I.o (by simp;omega)) ?_
   ·(focus (repeat' (first | (with_reducible exact Keep.refl _ _) | (with_reducible assumption) | (with_reducible refine Keep.setCell ?_ _ ?_ _) | (with_reducible refine Keep.alloc ?_ _) | (with_reducible refine Keep.drewN ?_ _) | (with_reducible refine Keep.drew ?_) | (with_reducible exact Or.inr (iz _ _)) | (with_reducible exact Or.inr (iy _ _)) | (refine Or.inr ?_;first | rfl | (simp;done) | omega) | (refine Or.inl ?_;first | omega | (simp;done) | (simp;omega)))))
    all_goals (dsimp only;omega)
   ·intro k hk
    have:=(I.o.lt k hk).1
    simp at this ⊢;omega
end Go.Proofs.YtgmajkppbhiopaaGreat
