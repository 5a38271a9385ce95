/- No condition. -/
import Derived.Test.YtgmajkppbhiopaaGreatQ10
import Derived.Lib.SliceRun
set_option linter.unusedSimpArgs false
set_option linter.unusedVariables false
set_option maxRecDepth 100000
set_option maxHeartbeats 4000000
namespace Go.Proofs.YtgmajkppbhiopaaGreat
open Go.RowKit
open Tryz
theorem aL {w h:Qd} {o:Obj} (k:Keep (fun j=>j=w.heap.size) (w.alloc o) h):aq w h:= ((br w).alloc (NF _) o).trans (k.toBelow (by rw [NZ];omega) (fun j i=>ap))
theorem Gv:cY prog 331 13:=⟨⟨_,underlying331,rfl⟩,by kernel_rfl⟩
theorem Gw:cY prog 328 7:=⟨⟨_,underlying328,rfl⟩,by kernel_rfl⟩
theorem sZ (w:Qd):Calls prog 221 #[] w fun e p=>e=.returned (.agg OK)/\aq w p:=by
 go_enter func221,ntmps221;go_wp2_with (refine aH (NG _ _) Gw rfl rfl rfl rfl rfl rfl rfl ?_;intro x i h;obtain ⟨u,v⟩:=ae i (aL h);clear i h);exact NX (GQ rfl rfl u.o Gw) rfl ⟨rfl,v.o⟩
def adv (i:Inp) (x:Nat) (m:Mst):Mst:=if m.nx+1<(cK i x m.st).length then {m with nx:=m.nx+1} else {m with st:=m.st+1,nx:=0}
theorem aV.upd {H:Nat->Prop} {w p:Qd} {b x:Nat} {i:Inp} {a:MAd} {m:Mst} (h:aV H w b i x a m) (hn:∀k,Mut b a k->¬H k) (hk:Keep (fun k=>k=b) w p) (st nx:Nat) (IA:N_) (ic:Nat) (hb:p.heap[b]?=some (.cells #[OH (x:Nat),OH i.cfg.workers,OH i.cfg.micros,.pointer (some ⟨({a with IA:=IA,ic:=ic}:MAd).F,0,none⟩),.slice ({a with IA:=IA,ic:=ic}:MAd).E i.data.length ({a with IA:=IA,ic:=ic}:MAd).ce,.pointer (some ⟨({a with IA:=IA,ic:=ic}:MAd).S,0,none⟩),.pointer (some ⟨({a with IA:=IA,ic:=ic}:MAd).PP,0,none⟩),.slice ({a with IA:=IA,ic:=ic}:MAd).BA (az i).buks.length ({a with IA:=IA,ic:=ic}:MAd).bc,OH i.cfg.rate,OH i.cfg.mom,OH i.cfg.shift,.slice (some ⟨({a with IA:=IA,ic:=ic}:MAd).bp,0,none⟩) i.start.length ({a with IA:=IA,ic:=ic}:MAd).cp,.slice (some ⟨({a with IA:=IA,ic:=ic}:MAd).bm,0,none⟩) i.start.length ({a with IA:=IA,ic:=ic}:MAd).cm,.slice (some ⟨({a with IA:=IA,ic:=ic}:MAd).bg,0,none⟩) i.start.length ({a with IA:=IA,ic:=ic}:MAd).cg,.slice (some ⟨({a with IA:=IA,ic:=ic}:MAd).rb,0,none⟩) ({m with st:=st,nx:=nx}:Mst).rc.length ({a with IA:=IA,ic:=ic}:MAd).rc,.slice ({a with IA:=IA,ic:=ic}:MAd).IA (cK i x ({m with st:=st,nx:=nx}:Mst).st).length ({a with IA:=IA,ic:=ic}:MAd).ic,OH (({m with st:=st,nx:=nx}:Mst).nx:Nat),OH (bq i x {m with st:=st,nx:=nx}:Nat),({a with IA:=IA,ic:=ic}:MAd).ov] 179 (0,0))) (hit:Rd (aF (gE H b a) p) IA (cC (cK i x st))) (ox:nx<(cK i x st).length\/(nx=0/\i.cfg.steps.toNat<=st)):aV H p b i x {a with IA:=IA,ic:=ic} {m with st:=st,nx:=nx}:=by
 have he:Ext (aF (gE H b a) w) (aF (gE H b a) p):=aX (hk.mono fun k _ e=>.inl (.inl e)) (fun k _ L=>L);have o:∀{v:Value} {e size n xs},e≠179->w.ownsRow 0 e size v n xs->p.ownsRow 0 e size v n xs:=fun y o=>hk.own o (fun j N e=>ax h.blk (Ne.symm y) o (by rw [N,e]));obtain ⟨D,a1,J,Q,R,u,C⟩:=h.pl;obtain ⟨rows,O,A,I,B⟩:=h.re
 exact ⟨hb,fA h.sh he,eO cQ h.ex he,iq h.sa he,⟨D,a1,J,Q,R,u,ir C he⟩,aQ h.bu he,hit,⟨rows,o (by decide) O,A,I,fun j x T=>cQ (B j x T) he⟩,
  o (by decide) h.oP,o (by decide) h.oM,o (by decide) h.oG,o (by decide) h.oO,h.dj,fun k _ hm=>hn k hm,h.wP,h.wM,h.wG,ox,h.xw⟩
theorem rM {i:Inp} (hs:cq i) {x st nx:Nat} (h:nx<(cK i x st).length):st<i.cfg.steps.toNat/\(cK i x st).length=(aJ (az i) x 0).length:=by
 unfold cK at h ⊢;by_cases hc:st<i.cfg.steps.toNat
 ·rw [if_pos hc];exact ⟨hc,j6 hs.ok x st⟩
 ·rw [if_neg hc] at h;simp at h
theorem tH (i:Inp) (x:Nat) (m:Mst):bq i x {m with st:=m.st,nx:=m.nx+1}=bq i x m+1:=rfl
theorem tF {i:Inp} (hs:cq i) {x:Nat} {m:Mst} (h:m.nx+1=(cK i x m.st).length):bq i x {m with st:=m.st+1,nx:=0}=bq i x m+1:=by
 have:=(rM hs (x:=x) (st:=m.st) (nx:=m.nx) ap).2;simp only [bq,Ox];omega
theorem ER {p:Pln} {x st:Nat} {y:Itm} (h:y∈aJ p x st):y.st=st:=by
 unfold aJ at h;simp only [Ov,List.mem_map,List.mem_flatMap,List.mem_singleton] at h;rcases h with (⟨_,_,rfl⟩ | ⟨g,_,h⟩) | rfl
 ·rfl
 ·unfold du at h;simp only [Ov,List.mem_map,List.mem_flatMap] at h;rcases h with (⟨_,_,rfl⟩ | ⟨_,_,_,_,_,_,h⟩) | ⟨_,_,rfl⟩
  ·rfl
  ·unfold cz at h;obtain ⟨_,_,rfl⟩:=List.mem_map.1 h;rfl
  ·rfl
 ·rfl
theorem xo {i:Inp} {x st nx:Nat} {y:Itm} (h:(cK i x st)[nx]?=some y):y.st=st:=by
 unfold cK at h;by_cases hc:st<i.cfg.steps.toNat
 ·rw [if_pos hc] at h;exact ER (List.mem_of_getElem? h)
 ·rw [if_neg hc] at h;simp at h
theorem Jl {i:Inp} (hs:cq i) {x:Nat} {m:Mst} (h:m.nx<(cK i x m.st).length):bq i x m+1<=48000000:=by
 obtain ⟨h1,v⟩:=rM hs h;have o:=nI hs.ok x 0;have p:m.st<=5:=by have:=hs.s;omega
 have A:=Nat.mul_le_mul p o;have u:m.st*(aJ (az i) x 0).length+(aJ (az i) x 0).length=(m.st+1)*(aJ (az i) x 0).length:=(Ox _ _).symm;have y:=Nat.mul_le_mul (show m.st+1<=6 by omega) o;simp only [bq];omega
theorem aV.mlt {H:Nat->Prop} {w:Qd} {b x:Nat} {i:Inp} {a:MAd} {m:Mst} (h:aV H w b i x a m):∀k,Mut b a k->k<w.heap.size:=by
 rintro k (rfl | rfl | rfl | rfl | rfl | hk)
 ·exact NE h.blk
 ·exact (h.oP.lt _ rfl).2
 ·exact (h.oM.lt _ rfl).2
 ·exact (h.oG.lt _ rfl).2
 ·obtain ⟨rows,o,_⟩:=h.re;exact (o.lt _ rfl).2
 ·exact (h.oO.lt _ hk).2
theorem D7 {w:Qd} {P x:Nat} {i:Inp} {u a1 B D H h:Value} (hP:fk w P (az i) u a1 B D H (OH (i.cfg.steps.toNat:Nat)) h) (hs:cq i) (I:x<(az i).W) (st:Nat):Calls prog 87 #[(au P),OH x,OH (st:Nat)] w fun e p=>∃A c,e=.returned (.slice A (cK i x st).length c)/\Rd p A (cC (cK i x st))/\(∀y,A=some y->w.heap.size<=y.block)/\aq w p:=by
 unfold cK;by_cases hc:st<i.cfg.steps.toNat
 ·rw [if_pos hc];refine (uY (az i) P x st i.cfg.steps.toNat u a1 B D H h w hs.ok hs.n1 I hc hP).mono ?_;rintro e p ⟨v,rfl,o,k⟩;obtain ⟨A,c,rfl,_⟩:=aC o;exact ⟨A,c,rfl,Rd.own o,fun y C=>(gq o y C).1,k⟩
 ·rw [if_neg hc];refine (uX (az i) P x st i.cfg.steps.toNat u a1 B D H h w I ap hP).mono ?_;rintro e p ⟨rfl,rfl⟩;exact ⟨none,0,rfl,Rd.nil _ _,(fun y C=>by cases C),br w⟩
def Fxd (a a1:MAd):Prop:=a1.bp=a.bp/\a1.bm=a.bm/\a1.bg=a.bg
def Did (H G:Nat->Prop) (b:Nat) (i:Inp) (x:Nat) (a:MAd) (m:Mst) (n:Nat) (T:Qd->Mst->Prop) (w h:Qd):Prop:=∃a1 m1,aV H h b i x a1 m1/\m1.st=m.st/\m1.nx=m.nx/\Keep (fun k=>Mut b a k\/G k) w h/\(∀k,Mut b a1 k->Mut b a k\/n<=k)/\Fxd a a1/\T h m1
def NB (G:Nat->Prop) (b:Nat) (i:Inp) (x:Nat) (a:MAd) (m:Mst) (n:Nat) (T:(Nat->Prop)->Qd->Mst->Prop) (w h:Qd):Prop:=∃H a1 m1,aV H h b i x a1 m1/\(∀k,Mut b a1 k->¬H k)/\(∀k,h.heap.size<=k->¬H k)/\m1.st=m.st/\m1.nx=m.nx/\Keep (fun k=>Mut b a k\/G k) w h/\(∀k,Mut b a1 k->Mut b a k\/n<=k)/\Fxd a a1/\T H h m1
def zK (H G:Nat->Prop) (b:Nat) (i:Inp) (x:Nat) (a:MAd) (m:Mst) (T:Qd->Mst->Prop) (w h:Qd):Prop:=∃o m1,aV H h b i x o (adv i x m1)/\m1.st=m.st/\m1.nx=m.nx/\Keep (fun k=>Mut b a k\/G k) w h/\(∀k,Mut b o k->Mut b a k\/w.heap.size<=k)/\Fxd a o/\T h m1
def Ka (G:Nat->Prop) (b:Nat) (i:Inp) (x:Nat) (a:MAd) (m:Mst) (T:(Nat->Prop)->Qd->Mst->Prop) (w h:Qd):Prop:=∃H o m1,aV H h b i x o (adv i x m1)/\(∀k,Mut b o k->¬H k)/\(∀k,h.heap.size<=k->¬H k)/\m1.st=m.st/\m1.nx=m.nx/\Keep (fun k=>Mut b a k\/G k) w h/\(∀k,Mut b o k->Mut b a k\/w.heap.size<=k)/\Fxd a o/\T H h m1
theorem yS {H G:Nat->Prop} {w:Qd} {b x:Nat} {i:Inp} {a:MAd} {m:Mst} (h:aV H w b i x a m) (hn:∀k,Mut b a k->¬H k) (aG:∀k,w.heap.size<=k->¬H k) (bn:∀k,G k->k<w.heap.size) (hs:cq i) {y:Itm} (hy:(cK i x m.st)[m.nx]?=some y) (u v:N_) (f:Nat) (hf:∀p,Sem.run prog (Instr.index 328 (.agg OK) (OH (y.kind:Nat))) p=.ok (.func (.func f) #[] #[]) p) (cf:∀args w,(callFunc f args).run prog w=.ok (.enter f args) w) (FP:Int->Prop) (T:(Nat->Prop)->Qd->Mst->Prop) (hT:∀H1 B w2 m1,T H1 B m1->Keep (fun k=>k=b) B w2->T H1 w2 m1) (hd:∀p,aq w p->Calls prog f #[(au b),.agg (bj y).toArray,.agg #[.pointer u,.pointer v]] p fun e bX=>(e=.returned (OH 0)/\NB G b i x a m w.heap.size T p bX)\/(∃C:Int,C≠0/\FP C/\e=.returned (OH C)/\aq p bX)):Calls prog 216 #[(au b),.pointer u,.pointer v] w fun e p=>(e=.returned (OH 0)/\Ka G b i x a m T w p)\/(∃C:Int,C≠0/\FP C/\e=.returned (OH C)/\aq w p):=by
 have N:=jD h hy;have bi:=mD y;obtain ⟨k0,k1,k2,b0,b1,i0,i1,i2,i3,i4,i5,i6,a8⟩:=rI y;have e0:(y.kind:Int)=k0:=by have:=a8;simp only [bj,List.cons.injEq,Value.int.injEq,true_and] at this;exact this.1
 have e1:(y.st:Int)=k1:=by have:=a8;simp only [bj,List.cons.injEq,Value.int.injEq,true_and] at this;exact this.2.1
 rw [a8] at N hd;rw [e0] at hf;have cc:=(Oe.1 hy).1;have av:=h.mlt;obtain ⟨d1,Hd,Hf,co,HM,HT,cA,Hn⟩:=ak N hd hf cf h hT cc hn;obtain ⟨d4,Hs,E1,Hy,ct,cP⟩:=ai aG hs e1 hy av bn;clear av bn N hd hf cf h hT cc hn aG bi a8 e0 e1 hs hy;go_enter func216,ntmps216;go_wp2_with fail;refine d1.o.mono ?_;rintro e B ⟨rfl,q1⟩;have g2:=NG B (.cells #[OH k0,OH k1,OH k2,.bool b0,.bool b1,OH i0,OH i1,OH i2,OH i3,OH i4,OH i5,OH i6] 152);have q2:aq w (B.alloc (.cells #[OH k0,OH k1,OH k2,.bool b0,.bool b1,OH i0,OH i1,OH i2,OH i3,OH i4,OH i5,OH i6] 152)):=q1.alloc q1.size _;obtain ⟨W2,bz⟩:∃W2,B.alloc (.cells #[OH k0,OH k1,OH k2,.bool b0,.bool b1,OH i0,OH i1,OH i2,OH i3,OH i4,OH i5,OH i6] 152)=W2:=⟨_,rfl⟩;rw [bz] at g2 q2;have hX:w.heap.size<=B.heap.size:=q1.size;go_wp2_with fail;clear bz q1;obtain ⟨G2,Q2⟩:=ae g2 q2;have t0:∀p,aq W2 p->p.cell? (ar B.heap.size 0)=some (OH k0):=fun p q=>NH p B.heap.size 0 _ _ _ (sb g2 p q);have tl:=sl g2;clear g2 q2;have b4:=fun p=>Hf.o p
 go_cut [9] (fun v wx=>∃J,v=(au J)/\wx.heap[J]?=some (.cells #[OH k0,OH k1,OH k2,.bool b0,.bool b1,OH i0,OH i1,OH i2,OH i3,OH i4,OH i5,OH i6,.func (.func f) #[] #[]] 331 (0,0))/\aq W2 wx)
 case first=>
  refine HA.g (fun p:Qd=>aq W2 p) ?_;have q3:=(br W2).drew;refine HA.ld 0 #[OH k0,OH k1,OH k2,.bool b0,.bool b1,OH i0,OH i1,OH i2,OH i3,OH i4,OH i5,OH i6] (fun p q=>sb G2.o p q) mh q3 ?_;refine HA.t ?_ [2,3] q3 ?_;refine HA.two 1 6 ?_ ?_
  ·refine HAS.c (sZ _) ?_;rintro e D ⟨rfl,k3⟩;have q4:=q3.trans (k3.mono q3.size);refine ⟨_,rfl,q4,fun _=>?_⟩;refine HA.t ?_ [4,5] q4 ?_;refine HA.v 6 (D.alloc (.cells OQ 331)) ((au D.heap.size)) (q4.alloc q4.size _) ?_;refine HA.st 7 (NG D _) Gv (fun R e9 k9=>?_);have q9:=q4.trans ((aL k9).mono q4.size);refine ⟨q9,HA.d ?_⟩;obtain ⟨E9,Q9⟩:=ae e9 q9;clear e9 k9 q9 q4 q3 k3 b4 t0 tl;go_wp2_with fail;go_meet;exact ⟨_,rfl,E9.o,Q9.o⟩
  ·refine HAS.v (W2.drew.alloc (.cells OQ 331)) ((au W2.heap.size)) (q3.alloc (NF _) _) ?_;have gJ:=NG W2.drew (.cells OQ 331);rw [Ot] at gJ;have q4:=q3.alloc (NF _) (.cells OQ 331);obtain ⟨W3,c6⟩:∃W3,W2.drew.alloc (.cells OQ 331)=W3:=⟨_,rfl⟩;rw [c6] at gJ q4 ⊢;clear c6;refine HA.c 1 (sZ _) ?_;rintro e D ⟨rfl,k3⟩;have q5:=q4.trans (k3.mono q4.size);refine ⟨_,rfl,q5,fun _=>?_⟩;refine HA.t ?_ [4,5] q5 ?_;refine HA.st 7 (sb gJ _ k3) Gv (fun R e9 k9=>?_);have q9:=q5.trans (k9.toBelow q5.size (fun j hj=>by rw [hj];exact NF _));refine ⟨q9,HA.d ?_⟩;obtain ⟨E9,Q9⟩:=ae e9 q9;clear e9 k9 q9 q4 q5 q3 k3 b4 t0 tl gJ;go_wp2_with fail;go_meet;exact ⟨_,rfl,E9.o,Q9.o⟩
 case rest=>
  obtain ⟨J,rfl,gJ,qJ⟩:=hcut;clear t0 tl b4;have bv:=NH wc J 12 _ _ _ gJ;have lJ:=NE gJ;have bh:wc.cell? (ar J 12)=some (.func (.func f) #[] #[]):=bv;clear bv;have GJ:=aa gJ;have bV:=Q2.o.trans (qJ.mono Q2.o.size);obtain ⟨QJ,B0⟩:=ae qJ bV;clear gJ qJ bV;have ci:=co.o;go_wp2_with (refine aK #[OH k0,OH k1,OH k2,.bool b0,.bool b1,OH i0,OH i1,OH i2,OH i3,OH i4,OH i5,OH i6] GJ.o mh rfl rfl rfl rfl ?_);refine (Hd.o wc B0.o).mono ?_;rintro e D (⟨rfl,H1,a1,m1,b8,be,ao,b3,N,hk,cd,bw,ht⟩ | ⟨C,hC,cy,rfl,k3⟩);rotate_left
  ·have ds:(C != 0)=true:=by rw [bne_iff_ne];exact hC
   have K3:=aa (B0.o.trans (k3.mono B0.o.size));clear k3;go_wp2_with fail;go_ret;exact .inr ⟨C,hC,cy,rfl,K3.o⟩
  ·have Q:m1.nx<(cK i x m1.st).length:=by rw [b3,N];exact cA.o
   have cv:=Jl Hs.o Q;obtain ⟨dn,b2⟩:∃dn,bq i x m1=dn:=⟨_,rfl⟩;obtain ⟨il,ab⟩:∃il,(cK i x m1.st).length=il:=⟨_,rfl⟩;have A:=b8.blk;rw [b2] at A cv;rw [ab] at A Q;have lb:=NE A;have cr:D.cell? (ar b 16)=some (OH (m1.nx:Nat)):=NH D b 16 _ _ _ A;have cw:D.cell? (ar b 17)=some (OH (dn:Nat)):=NH D b 17 _ _ _ A;have aR:=NS D b 16 _ _ A;have cn:=NS D b 17 _ _ A;have d9:IntKind.i64.wrap ((dn:Int)+1)=((dn+1:Nat):Int):=by rw [NK _ ap];push_cast;rfl
   have d5:il<=8000000:=by rw [<-ab,(rM Hs.o (x:=x) (st:=m1.st) (nx:=m1.nx) ap).2];exact nI Hs.o.ok x 0
   have d8:IntKind.i64.wrap ((m1.nx:Int)+1)=((m1.nx+1:Nat):Int):=by rw [NK _ ap];push_cast;rfl
   have g5:=ss2 (i:=17) (j:=16) (v:=OH ((dn:Int)+1)) (u:=OH ((m1.nx:Int)+1)) A rfl;have k5:Keep (fun k=>k=b) D ((D.setCell (ar b 17) (OH ((dn:Int)+1))).setCell (ar b 16) (OH ((m1.nx:Int)+1))):=Keep.setCell (S:=fun k=>k=b) (Keep.setCell (S:=fun k=>k=b) (Keep.refl _ _) _ (.inr rfl) _) _ (.inr rfl) _;obtain ⟨G5,K5,Z,Hk,bl,Ht,bA,aM⟩:=ak g5 k5 b8 hk cd ht bw b3;obtain ⟨ad,a6,a3,bf,I,b7⟩:=ai N be ao b2 ab Q;clear b8 hk cd ht bw b3 N be ao b2 ab g5 k5 A Q bh lJ ci;go_wp2_with fail;obtain ⟨W5,bM⟩:∃W5,(D.setCell (ar b 17) (OH ((dn:Int)+1))).setCell (ar b 16) (OH ((m1.nx:Int)+1))=W5:=⟨_,rfl⟩;have g5:=G5.o;have k5:=K5.o;rw [bM] at g5 k5 ⊢;clear G5 K5 bM cr cw aR cn;have cj:b<W5.heap.size:=NE g5;have bI:∀p,aq W5 p->p.cell? (ar b 15)=some (.slice a1.IA (cK i x m1.st).length a1.ic):=fun p q=>by rw [I.o];exact NH p b 15 _ _ _ (sb g5 p q)
   rw [I.o] at bI;have d0:∀p,aq W5 p->p.cell? (ar b 16)=some (OH ((m1.nx:Int)+1)):=fun p q=>NH p b 16 _ _ _ (sb g5 p q);obtain ⟨G5,K5⟩:=ae g5 k5;clear g5 k5;have q5:=(br W5).drew;refine HA.g (fun p:Qd=>aq W5 p) ?_;refine HA.t ?_ [0,1,2,3,4,5,6,7,8,9] q5 ?_;refine HA.d ?_;have k6:Keep (fun k=>k=b) D W5.drew:=K5.o.drew;have g6:=sb G5.o _ q5;obtain ⟨V,b9⟩:∃V,W5.drew=V:=⟨_,rfl⟩;rw [b9] at k6 g6 ⊢;obtain ⟨G6,K6⟩:=ae g6 k6;have l6:b<V.heap.size:=NE g6;clear b9 q5 bI d0 G5 K5 cj k6 g6;by_cases a4:m1.nx+1=il;rotate_left
   ·have cO:¬(m1.nx:Int)+1=il:=ap;clear a4;go_wp2_with fail;go_ret;have O:adv i x m1={m1 with st:=m1.st,nx:=m1.nx+1}:=if_pos (by rw [I.o];have:=b7.o;omega);have e:((bq i x {m1 with st:=m1.st,nx:=m1.nx+1}:Nat):Int)=(dn:Int)+1:=by rw [tH,bf.o];push_cast;rfl
    have e2:((m1.nx+1:Nat):Int)=(m1.nx:Int)+1:=by push_cast;rfl
    have hb:=G6.o;rw [<-I.o,<-e,<-e2] at hb;have hm:=Z.o.upd a6.o K6.o m1.st (m1.nx+1) a1.IA a1.ic hb (aQ Z.o.it (aX (K6.o.mono fun k _ e=>.inl (.inl e)) (fun _ _ h=>h))) (.inl (by rw [I.o];have:=b7.o;omega));refine .inl ⟨rfl,H1,a1,m1,by rw [O];exact hm,a6.o,(fun k hk=>a3.o k (NN K6.o.size hk)),aM.o,ad.o,((Keep.below B0.o).trans Hk.o).trans (K6.o.mono fun k _ e=>.inl (.inl e)),bl.o,bA.o,HT.o H1 D V m1 Ht.o K6.o⟩
   ·have cO:(m1.nx:Int)+1=il:=ap;have d2:k1=(m1.st:Int):=by rw [<-E1.o,xo Hy.o,aM.o]
    have dr:m1.st<6:=by have:=(rM Hs.o (x:=x) (st:=m1.st) (nx:=m1.nx) (by rw [I.o];exact b7.o)).1;have:=Hs.o.s;omega
    have cx:IntKind.i64.wrap ((m1.st:Int)+1)=((m1.st+1:Nat):Int):=by rw [NK _ ap];push_cast;rfl
    subst d2;have g6:=G6.o;have nw:¬(Mut b a B.heap.size\/G B.heap.size):=fun h=>h.elim (fun h=>by have:=ct.o _ h;omega) (fun h=>by have:=cP.o _ h;omega)
    have cL:B.heap.size<wc.heap.size:=NE (sb G2.o wc QJ.o);have g3:=(Hk.o.block _ cL nw).trans (sb G2.o wc QJ.o);have gB:=(K6.o.block B.heap.size (NE g3) (fun e=>nw (.inl (.inl e)))).trans g3;have hS:V.drew.cell? (ar b 6)=some ((au a1.PP))/\V.drew.cell? (ar b 0)=some (OH (x:Nat))/\V.drew.cell? (ar B.heap.size 1)=some (OH (m1.st:Nat))/\Keep (fun k=>k=b) D V.drew:=⟨NH V.drew b 6 _ _ _ g6,NH V.drew b 0 _ _ _ g6,NH V.drew B.heap.size 1 _ _ _ gB,K6.o.drew⟩;obtain ⟨dc,da,dp,dv,dk,d6,bG⟩:=Z.o.pl;have b5:=D7 (ir bG (iu (S:=gE H1 b a1) (K6.o.drew.mono fun k _ e=>.inl (.inl e)))) Hs.o Z.o.xw (m1.st+1);rw [<-cx] at b5;obtain ⟨cM,d3,GB⟩:=af b5 (show V.drew.heap[b]?=_ from g6) (show V.drew.heap[B.heap.size]?=_ from gB);clear a4 g6 gB g3 bG b5;go_wp2_with fail;refine HA.g (fun p:Qd=>p.cell? (ar b 6)=some ((au a1.PP))/\p.cell? (ar b 0)=some (OH (x:Nat))/\p.cell? (ar B.heap.size 1)=some (OH (m1.st:Nat))/\Keep (fun k=>k=b) D p) ?_;refine HA.t ?_ [0,1,2,3,4,5,6,7,8,9,10,11,12,13,14] hS ?_;refine HA.c 15 cM.o ?_;rintro e w7 ⟨IA,ic,rfl,c7,c8,k7⟩;have g7:=sb d3.o w7 k7;have a7:=sb GB.o w7 k7;have q7:=K6.o.drew.trans (Keep.below (S:=fun k=>k=b) k7);refine ⟨_,rfl,⟨NH w7 b 6 _ _ _ g7,NH w7 b 0 _ _ _ g7,NH w7 B.heap.size 1 _ _ _ a7,q7⟩,fun c9=>?_⟩;refine HA.t ?_ [16,17] c9 ?_;obtain ⟨CL,bb⟩:∃CL,(cK i x (m1.st+1)).length=CL:=⟨_,rfl⟩;rw [bb];have cb:=NH w7 b 15 _ _ _ g7;have cs:=NS w7 b 15 _ _ g7;have g8:=ss (i:=15) (v:=.slice IA CL ic) g7 rfl;have a0:Keep (fun k=>k=b) w7 (w7.setCell (ar b 15) (.slice IA CL ic)):=Keep.setCell (S:=fun k=>k=b) (Keep.refl _ _) _ (.inr rfl) _;have a2:=(a0.block _ (NE a7) (fun e=>nw (.inl (.inl e)))).trans a7;obtain ⟨Y,U⟩:∃Y,w7.setCell (ar b 15) (.slice IA CL ic)=Y:=⟨_,rfl⟩;have a5:Y.cell? (ar b 6)=some ((au a1.PP))/\Y.cell? (ar b 0)=some (OH (x:Nat))/\Y.cell? (ar B.heap.size 1)=some (OH (m1.st:Nat))/\Keep (fun k=>k=b) D Y:=⟨by rw [<-U];exact NH _ b 6 _ _ _ g8,by rw [<-U];exact NH _ b 0 _ _ _ g8,by rw [<-U];exact NH _ B.heap.size 1 _ _ _ a2,by rw [<-U];exact q7.trans a0⟩;have bN:w7.cell? (ar b 15)=some (.slice a1.IA il a1.ic):=cb;clear cb;refine HA.s 18 Y a5 ?_;rw [U] at g8 a2 a0;clear U bN cs;refine HA.t ?_ [19,20] a5 ?_;have bs:Y.cell? (ar b 16)=some (OH ((m1.nx:Int)+1)):=NH Y b 16 _ _ _ g8;have aR:=NS Y b 16 _ _ g8;have g9:=ss (i:=16) (v:=OH 0) g8 rfl;have a9:Keep (fun k=>k=b) Y (Y.setCell (ar b 16) (OH 0)):=Keep.setCell (S:=fun k=>k=b) (Keep.refl _ _) _ (.inr rfl) _;have bO:=(a9.block _ (NE a2) (fun e=>nw (.inl (.inl e)))).trans a2;obtain ⟨R,L⟩:∃R,Y.setCell (ar b 16) (OH 0)=R:=⟨_,rfl⟩;have aP:R.cell? (ar b 6)=some ((au a1.PP))/\R.cell? (ar b 0)=some (OH (x:Nat))/\R.cell? (ar B.heap.size 1)=some (OH (m1.st:Nat))/\Keep (fun k=>k=b) D R:=⟨by rw [<-L];exact NH _ b 6 _ _ _ g9,by rw [<-L];exact NH _ b 0 _ _ _ g9,by rw [<-L];exact NH _ B.heap.size 1 _ _ _ bO,by rw [<-L];exact a5.2.2.2.trans a9⟩;refine HA.s 21 R aP ?_;refine HA.d ?_;rw [L] at g9;have K9:=aP.2.2.2
    have bo:Rd (aF (gE H1 b a1) R) IA (cC (cK i x (m1.st+1))):=by
     have cl:Keep (fun k=>k=b) w7 R:=by rw [<-L];exact a0.trans a9
     have bd:∀z,IA=some z->¬gE H1 b a1 z.block:=fun z hz hm=>by
      have b6:=c8 z hz;have d7:=K6.o.size;have h3:=Hk.o.size;have h0:=B0.o.size;have hw:w.heap.size<=z.block:=by rw [Ot] at b6;omega
      rcases hm with hm | hm
      ·have:=Z.o.mlt _ hm;rw [Ot] at b6;omega
      ·exact a3.o _ (by rw [Ot] at b6;omega) hm
     exact mr (cl.rd c7 (fun z hz e=>bd z hz (.inl (.inl e)))) bd
    have O:adv i x m1={m1 with st:=m1.st+1,nx:=0}:=if_neg (by rw [I.o];omega);have e:((bq i x {m1 with st:=m1.st+1,nx:=0}:Nat):Int)=(dn:Int)+1:=by rw [tF Hs.o (by rw [I.o];omega),bf.o];push_cast;rfl
    rw [<-bb,<-e] at g9
    have ox:(0:Nat)<(cK i x (m1.st+1)).length\/((0:Nat)=0/\i.cfg.steps.toNat<=m1.st+1):=by
     unfold cK;by_cases hc:m1.st+1<i.cfg.steps.toNat
     ·rw [if_pos hc];exact .inl (jH _ _ _)
     ·exact .inr ⟨rfl,by omega⟩
    have hm:=Z.o.upd a6.o K9 (m1.st+1) 0 IA ic g9 bo ox;have HF:=aa (⟨H1,{a1 with IA:=IA,ic:=ic},m1,by rw [O];exact hm,a6.o,(fun k hk=>a3.o k (NN K9.size hk)),aM.o,ad.o,((Keep.below B0.o).trans Hk.o).trans (K9.mono fun k _ e=>.inl (.inl e)),bl.o,bA.o,HT.o H1 D R m1 Ht.o K9⟩:Ka G b i x a m T w R);clear hm O bo ox e g9 bO a9 L aP K9 a5 c9 hS g8 a2 a0 g7 a7 q7 k7 c7 c8 bs aR;go_wp2_with fail;go_ret;exact .inl ⟨rfl,HF.o⟩
theorem my {H G:Nat->Prop} {w:Qd} {b x:Nat} {i:Inp} {a:MAd} {m:Mst} (h:aV H w b i x a m) (hn:∀k,Mut b a k->¬H k) (p:∀k,w.heap.size<=k->¬H k) (O:∀k,G k->k<w.heap.size) (hs:cq i) {y:Itm} (hy:(cK i x m.st)[m.nx]?=some y) (u v:N_) (f:Nat) (B:∀o,Sem.run prog (Instr.index 328 (.agg OK) (OH (y.kind:Nat))) o=.ok (.func (.func f) #[] #[]) o) (V:∀args w,(callFunc f args).run prog w=.ok (.enter f args) w) (R:Int->Prop) (T:Qd->Mst->Prop) (hT:∀D L m1,T D m1->Keep (fun k=>k=b) D L->T L m1) (hd:∀o,aq w o->Calls prog f #[(au b),.agg (bj y).toArray,.agg #[.pointer u,.pointer v]] o fun e A=>(e=.returned (OH 0)/\Did H G b i x a m w.heap.size T o A)\/(∃C:Int,C≠0/\R C/\e=.returned (OH C)/\aq o A)):Calls prog 216 #[(au b),.pointer u,.pointer v] w fun e o=>(e=.returned (OH 0)/\zK H G b i x a m T w o)\/(∃C:Int,C≠0/\R C/\e=.returned (OH C)/\aq w o):=by
 refine (yS h hn p O hs hy u v f B V R (fun Q w m=>Q=H/\T w m) (fun Q D L m1 Z k=>⟨Z.1,hT D L m1 Z.2 k⟩) (fun o q=>(hd o q).mono ?_)).mono ?_
 ·rintro e A (⟨he,a1,m1,h1,N,U,I,J,B,Y⟩ | h)
  ·exact .inl ⟨he,H,a1,m1,h1,fun k hk=>(J k hk).elim (hn k) (p k),fun k hk=>p k (NN (NN q.size I.size) hk),N,U,I,J,B,rfl,Y⟩
  ·exact .inr h
 ·rintro e o (⟨he,Q,a1,m1,h1, -, -,N,U,I,J,B,rfl,Y⟩ | h)
  ·exact .inl ⟨he,a1,m1,h1,N,U,I,J,B,Y⟩
  ·exact .inr h
section
variable {P:Program} {ops:Qh} {Q:Exit->Qi->Qd->Prop} {S:Qd->Prop} {n:Nat}
structure XAS (P:Program) (ops:Qh) (Q:Exit->Qi->Qd->Prop) (S:Qd->Prop) (n i:Nat) (L:List Nat) (a:Qi) (w:Qd):Prop where
 out:∃o,ops[i]?=some o/\∀K':Qi->Qd->Prop,Shut (∀a w,S w->(S w->XA P ops Q S n (i::L) a w)->K' a w)->if Region.wanted o (yielded ops a.tmps)=true then Oper.wp P o a w K' Q else K' (a.put o.dst undef) w
theorem XAS.v {L:List Nat} {a:Qi} {w:Qd} {i:Nat} {o:Oper} (h:Qd) (v:Value) (u:S h) (k:XA P ops Q S n (i::L) (a.put o.dst v) h) (p:ops[i]?=some o:=by (simp only [N8,N9,Oa];rfl)) (hw:Region.wanted o (yielded ops a.tmps)=true:=by rfl) (he:(execOp a.eval o).run P w=.ok (.value v) h:=by go_simp):XAS P ops Q S n i L a w:=by
 refine ⟨o,p,fun y x=>?_⟩;rw [if_pos hw];unfold Oper.wp;rw [he];exact x.out _ _ u fun _=>k
theorem XAS.o {L:List Nat} {a:Qi} {w:Qd} {o:Oper} {i:Nat} (h:∀p:Qi->Qd->Prop,Shut (∀a w,S w->(S w->XA P ops Q S n (i::L) a w)->p a w)->if Region.wanted o (yielded ops a.tmps)=true then Oper.wp P o a w p Q else p (a.put o.dst undef) w) (u:ops[i]?=some o:=by (simp only [N8,N9,Oa];rfl)):XAS P ops Q S n i L a w:=⟨o,u,h⟩
theorem XA.two {L:List Nat} {a:Qi} {w:Qd} (i j:Nat) (y:XAS P ops Q S n i L a w) (p:XAS P ops Q S n j L a w) (hr:db ops L=[i,j]:=by decide +kernel):XA P ops Q S n L a w:=by
 obtain ⟨H,x,y⟩:=y;obtain ⟨I,o,p⟩:=p;have B:unl (bH ops.size L)=unl (bH ops.size (i::L))+1:=cN (by rw [hr];simp);have D:unl (bH ops.size L)=unl (bH ops.size (j::L))+1:=cN (by rw [hr];simp);have C:unl (bH ops.size (j::L))=unl (bH ops.size (i::L)):=ap;refine ⟨?_⟩;rw [B];refine cD (by rw [dW];exact hr) (by simp) (aU.cons x (fun A v=>y A fun a w u hw=>v.out a w u fun h=>(hw h).out) (aU.cons o (fun A v=>p A fun a w u hw=>v.out a w u fun h=>?_) aU.nil));have:=(hw h).out;rw [C] at this;exact this
end
theorem Mr {w:Qd} {A:N_} {l:Qg} (h:de rEx 2 w A l):∃rows:List (Qc),Rd w A (List.flatten rows)/\rows.length=l.length/\(∀r∈rows,r.length=2)/\(∀j x,l[j]?=some x->rEx w (bZ rows j) x)/\(List.flatten rows).length=l.length*2/\∀u∈List.flatten rows,u.oneCell'=true:=by
 obtain ⟨rows,h1,o,v,p⟩:=h;refine ⟨rows,h1,o,v,p,by rw [rx v,o],fun u i=>?_⟩;obtain ⟨r,hr,i⟩:=List.mem_flatten.1 i;obtain ⟨j,B,e⟩:=List.getElem_of_mem hr;have C:=Of (show j<l.length by omega);obtain ⟨J,H,D,I,y,_⟩:=p j _ C;rw [qB B,e] at y;subst y;simp only [List.mem_cons,List.not_mem_nil,or_false] at i;rcases i with rfl | rfl<;>rfl
theorem ik {S:Nat->Prop} {w:Qd} {base:Nat} {e:Qf} {size n c:Nat} {A:N_} {xs:Qc} (h:w.ownsRow base e size (.slice A n c) n xs) (p:∀k,S k->k<base):Rd (aF S w) A xs:=by
 refine mr (Rd.own h) fun y i hs=>?_;rcases h.2 with ⟨o,_⟩ | ⟨g,_,_,o,hb,_⟩
 ·injection o with e1;rw [e1] at i;cases i
 ·injection o with e1;rw [e1] at i;cases i;have u:g<base:=p _ hs;omega
theorem AU {w:Qd} {vs:Qb} {i:Inp} {x:Nat} {m:Mst} {s t:LSt} {u v:Qb} {S:Nat->Prop} (hS:∀k,S k->k<w.heap.size) (h:fG (aF S w) vs i x m) (hu:RL (aF S w) u s) (hv:RL (aF S w) v t) (hs:cq i) {y:Itm} (hy:(dq i x)[bq i x m]?=some y) (k1 k2:Int) (b0 b1:Bool) (i0 i1 i2 i3 i4 i5 i6:Int) (bv:bj y=[OH 6,OH k1,OH k2,.bool b0,.bool b1,OH i0,OH i1,OH i2,OH i3,OH i4,OH i5,OH i6]) (aG:m.rc.length<=1000) (m1:Mst) (h1:m1.P=m.P/\m1.M=m.M/\m1.G=List.replicate i.start.length 0/\m1.rc=m.rc++[(m.P,m.M)]) (aM:bq i x m1=bq i x m+1):Calls prog 89 #[.agg vs,.agg u,.agg v] w (fun e w'=>oC S i x m1 (s) (t) 0 w e w'):=by
 obtain ⟨A,c,D,cd,T,ct,R,cr,C,J,B,I,GA,gc,SA,sc,bI,oI,ic,B1,c1,B2,c2,dn,il,W0,rfl,rfl,rfl,H⟩:=kO hS h hu hv hs hy;have ao:=H.rw';rw [bv] at ao;rw [H.dn'] at aM;obtain ⟨cl,H1,c6⟩:=af ao h1 aM;obtain ⟨d1,d0,tl,cx,cb,cP,cf⟩:=H.loc;have q0:=br W0;clear h hu hv hs hy bv hS h1 aM ao;go_enter func89,ntmps89;go_upto_region 1 with (fail);rw [H.eW];go_upto_region 4 with (first | (refine eD cl.o iU rfl rfl rfl ?_) | (refine aH (NG _ _) iU rfl rfl rfl rfl rfl rfl rfl ?_;intro W3 e3 k3;obtain ⟨E3,K3⟩:=ae e3 (aL k3);clear e3 k3));clear d1 d0 tl q0 cx cb cP cf;go_upto_region 5 with (first | (refine aK #[OH i5,OH i6] (b:=W0.heap.size) E3.o gj rfl rfl rfl rfl ?_) | (refine aH (NG _ _) gj rfl rfl rfl rfl rfl rfl rfl ?_;intro p e4 k4;obtain ⟨E4,K4⟩:=ae e4 (aL k4);clear e4 k4));have y0:p.cell? (ar W0.heap.size 0)=some (OH 6):=NH p _ 0 _ _ _ (sb E3.o _ K4.o);have a1:=aa (bt K3.o K4.o);go_upto_region 26 with (fail);have N:=aa (H.bx _ a1.o).1;have a8:=H.K.trans (a1.o.mono H.K.size);obtain ⟨rows,z1,z2,z3,z4,z5,z6⟩:=Mr H.R0;have zr:=fun w' (q:aq p w')=>aQ z1 (iu (Keep.below (a8.trans (q.mono a8.size))));obtain ⟨rl,hrl⟩:∃rl,m.rc.length=rl:=⟨_,rfl⟩;obtain ⟨bh,Z2,Z3,Z4,Zr,d5⟩:=ai a8 z2 z3 z4 zr hrl;rw [hrl] at z5 aG;obtain ⟨Z5,Z6,L⟩:=af z5 z6 aG;rw [hrl] at N ⊢;clear y0 a8 z1 z2 z3 z4 z5 z6 zr hrl aG
 go_cut [3] (fun v wx=>v=(au w.heap.size)/\∃Q c7,wx.heap[w.heap.size]?=some (.cells #[.slice A i.cfg.sizes.length c,OH i.cfg.shift,OH i.cfg.rate,OH i.cfg.mom,OH i.cfg.workers,OH i.cfg.batch,OH i.cfg.micros,OH i.cfg.steps,OH i.cfg.bucket,OH i.cfg.chunk,OH i.cfg.window,OH i.cfg.cap,.slice D i.data.length cd,.slice T i.start.length ct,.slice R i.draws.length cr,OH (x:Nat),.slice C i.start.length J,.slice B i.start.length I,.slice GA i.start.length gc,.slice Q (rl+1) c7,.slice (some (ar bI oI)) il ic,OH (dn:Nat)] 106 (0,0))/\wx.ownsRow p.heap.size 103 2 (.slice Q (rl+1) c7) (rl+1) (List.flatten rows++[.slice C i.start.length J,.slice B i.start.length I])/\Keep (fun k=>k=w.heap.size) p wx)
 case first=>
  have q4:=(br p).drew;have d7:∀w',aq p w'->w'.cell? (ar w.heap.size 19)=some (.slice SA rl sc):=fun w' q=>NH w' _ 19 _ _ _ (sb N.o w' q);have tl:=fun w' (q:aq p w')=>NQ (NE N.o) q.size;refine XA.g 9 (fun w':Qd=>aq p w') ?_;refine XA.t ?_ [1,2,4] q4 ?_;refine XA.ld 5 #[.slice C i.start.length J,.slice B i.start.length I] (fun w' q=>sb N.o w' q) ln q4 ?_;refine XA.two 0 6 ?_ ?_
  ·refine XAS.v (p.drew.alloc (.cells #[] 103)) (.slice (some (ar p.drew.heap.size 0)) 0 0) (q4.alloc (NF _) _) ?_;have O:(p.drew.alloc (.cells #[] 103)).ownsRow p.heap.size 103 2 (.slice (some (ar p.drew.heap.size 0)) 0 0) 0 []:=eK p.drew 103 2;have q1:=q4.alloc (NF p.heap.size) (.cells #[] 103);have s1:(p.drew.alloc (.cells #[] 103)).heap.size=p.drew.heap.size+1:=NZ _ _;obtain ⟨u1,a4⟩:∃u1,p.drew.alloc (.cells #[] 103)=u1:=⟨_,rfl⟩;rw [a4] at O q1 s1 ⊢;clear a4;refine XA.two 3 6 ?_ ?_
   ·refine XAS.o (fun K' hK=>?_);refine bT mM (.tmp 161) (.tmp 163) rfl rfl p.heap.size _ 0 [] rfl O SA rl sc (List.flatten rows) rfl (Zr.o _ q1) Z5.o Z6.o (by have:=L.o;omega) (by unfold maxLen;have:=L.o;omega) q1.size ?_;intro A3 c3 u3 o3 a6 ab be;rw [Oz,List.nil_append] at o3;have q3:=q1.trans a6;rw [Oz];refine hK.out _ _ q3 fun _=>?_;clear hK K';refine XA.v 6 (u3.alloc (.cells #[.slice C i.start.length J,.slice B i.start.length I] 103)) (.slice (some (ar u3.heap.size 0)) 1 1) (q3.alloc q3.size _) ?_;have g6:=NG u3 (.cells #[.slice C i.start.length J,.slice B i.start.length I] 103);have b6:=(br u3).alloc (NF _) (.cells #[.slice C i.start.length J,.slice B i.start.length I] 103);have q6:=q3.alloc q3.size (.cells #[.slice C i.start.length J,.slice B i.start.length I] 103);have s6:(u3.alloc (.cells #[.slice C i.start.length J,.slice B i.start.length I] 103)).heap.size=u3.heap.size+1:=NZ _ _;obtain ⟨u6,a0⟩:∃v,u3.alloc (.cells #[.slice C i.start.length J,.slice B i.start.length I] 103)=v:=⟨_,rfl⟩;rw [a0] at g6 b6 q6 s6 ⊢;clear a0;have o6:=ay o3 b6;refine XA.o 7 (fun K' hK=>?_);refine bT mM (.tmp 164) (.tmp 167) rfl rfl p.heap.size _ rl (List.flatten rows) rfl o6 (some (ar _ 0)) 1 1 [.slice C i.start.length J,.slice B i.start.length I] rfl (sI g6) rfl (by simp [Value.oneCell']) (by have:=L.o;omega) (by unfold maxLen;have:=L.o;omega) q6.size ?_;intro Q c7 u7 o7 b7 a7 a5;have Z:=q6.trans b7;refine hK.out _ _ Z fun _=>?_;clear hK K';refine XA.t ?_ [8] Z ?_;refine XA.e ?_;simp only [Ob,Oc];have U:=sb N.o _ Z;have bo:=NH u7 w.heap.size 19 _ _ _ U;have bw:=NS u7 w.heap.size 19 _ _ U;have l7:=NE U;have e8:=ss (i:=19) (v:=.slice Q (rl+1) c7) U rfl;have k8:Keep (fun k=>k=w.heap.size) u7 (u7.setCell (ar w.heap.size 19) (.slice Q (rl+1) c7)):=Keep.setCell (S:=fun k=>k=w.heap.size) (Keep.refl _ _) _ (.inr rfl) _;have o8:=k8.own o7 (fun j Y e=>by have h1:=(o7.lt j Y).1;have h2:=NE N.o;omega);have HF:=aa (⟨e8,o8,(Keep.below Z).trans k8⟩:_/\_/\Keep (fun k=>k=w.heap.size) p _);clear e8 k8 o8 o7 b7 a7 a5 Z U;go_wp2_with fail;go_meet;exact ⟨rfl,Q,c7,HF.o⟩
   ·refine XAS.v (u1.alloc (.cells #[.slice C i.start.length J,.slice B i.start.length I] 103)) (.slice (some (ar u1.heap.size 0)) 1 1) (q1.alloc q1.size _) ?_;have g6:=NG u1 (.cells #[.slice C i.start.length J,.slice B i.start.length I] 103);have b6:=(br u1).alloc (NF _) (.cells #[.slice C i.start.length J,.slice B i.start.length I] 103);have q6:=q1.alloc q1.size (.cells #[.slice C i.start.length J,.slice B i.start.length I] 103);have s6:(u1.alloc (.cells #[.slice C i.start.length J,.slice B i.start.length I] 103)).heap.size=u1.heap.size+1:=NZ _ _;obtain ⟨u6,a0⟩:∃v,u1.alloc (.cells #[.slice C i.start.length J,.slice B i.start.length I] 103)=v:=⟨_,rfl⟩;rw [a0] at g6 b6 q6 s6 ⊢;clear a0;have bV:=ay O b6;refine XA.o 3 (fun K' hK=>?_);refine bT mM (.tmp 161) (.tmp 163) rfl rfl p.heap.size _ 0 [] rfl bV SA rl sc (List.flatten rows) rfl (Zr.o _ q6) Z5.o Z6.o (by have:=L.o;omega) (by unfold maxLen;have:=L.o;omega) q6.size ?_;intro A3 c3 u3 o3 a6 ab be;rw [Oz,List.nil_append] at o3;have q3:=q6.trans a6;rw [Oz];refine hK.out _ _ q3 fun _=>?_;clear hK K';have av:=(ab.block _ (NE g6) (fun e=>by have e':u1.heap.size=p.drew.heap.size:=Option.some.inj e;omega)).trans g6;refine XA.o 7 (fun K' hK=>?_);refine bT mM (.tmp 164) (.tmp 167) rfl rfl p.heap.size _ rl (List.flatten rows) rfl o3 (some (ar _ 0)) 1 1 [.slice C i.start.length J,.slice B i.start.length I] rfl (sI av) rfl (by simp [Value.oneCell']) (by have:=L.o;omega) (by unfold maxLen;have:=L.o;omega) q3.size ?_;intro Q c7 u7 o7 b7 a7 a5;have Z:=q3.trans b7;refine hK.out _ _ Z fun _=>?_;clear hK K';refine XA.t ?_ [8] Z ?_;refine XA.e ?_;simp only [Ob,Oc];have U:=sb N.o _ Z;have bo:=NH u7 w.heap.size 19 _ _ _ U;have bw:=NS u7 w.heap.size 19 _ _ U;have l7:=NE U;have e8:=ss (i:=19) (v:=.slice Q (rl+1) c7) U rfl;have k8:Keep (fun k=>k=w.heap.size) u7 (u7.setCell (ar w.heap.size 19) (.slice Q (rl+1) c7)):=Keep.setCell (S:=fun k=>k=w.heap.size) (Keep.refl _ _) _ (.inr rfl) _;have o8:=k8.own o7 (fun j Y e=>by have h1:=(o7.lt j Y).1;have h2:=NE N.o;omega);have HF:=aa (⟨e8,o8,(Keep.below Z).trans k8⟩:_/\_/\Keep (fun k=>k=w.heap.size) p _);clear e8 k8 o8 o7 b7 a7 a5 Z U;go_wp2_with fail;go_meet;exact ⟨rfl,Q,c7,HF.o⟩
  ·refine XAS.v (p.drew.alloc (.cells #[.slice C i.start.length J,.slice B i.start.length I] 103)) (.slice (some (ar p.drew.heap.size 0)) 1 1) (q4.alloc q4.size _) ?_;have g6:=NG p.drew (.cells #[.slice C i.start.length J,.slice B i.start.length I] 103);have b6:=(br p.drew).alloc (NF _) (.cells #[.slice C i.start.length J,.slice B i.start.length I] 103);have q6:=q4.alloc q4.size (.cells #[.slice C i.start.length J,.slice B i.start.length I] 103);have s6:(p.drew.alloc (.cells #[.slice C i.start.length J,.slice B i.start.length I] 103)).heap.size=p.drew.heap.size+1:=NZ _ _;obtain ⟨u6,a0⟩:∃v,p.drew.alloc (.cells #[.slice C i.start.length J,.slice B i.start.length I] 103)=v:=⟨_,rfl⟩;rw [a0] at g6 b6 q6 s6 ⊢;clear a0;refine XA.v 0 (u6.alloc (.cells #[] 103)) (.slice (some (ar u6.heap.size 0)) 0 0) (q6.alloc q6.size _) ?_;have O:(u6.alloc (.cells #[] 103)).ownsRow p.heap.size 103 2 (.slice (some (ar u6.heap.size 0)) 0 0) 0 []:=aE (eK u6 103 2) q6.size;have q1:=q6.alloc q6.size (.cells #[] 103);have g6:=sb g6 _ ((br u6).alloc (NF _) (.cells #[] 103));have l6:p.drew.heap.size<u6.heap.size:=by rw [s6];omega
   obtain ⟨u1,a4⟩:∃u1,u6.alloc (.cells #[] 103)=u1:=⟨_,rfl⟩;rw [a4] at O q1 g6 ⊢;clear a4;refine XA.o 3 (fun K' hK=>?_);refine bT mM (.tmp 161) (.tmp 163) rfl rfl p.heap.size _ 0 [] rfl O SA rl sc (List.flatten rows) rfl (Zr.o _ q1) Z5.o Z6.o (by have:=L.o;omega) (by unfold maxLen;have:=L.o;omega) q1.size ?_;intro A3 c3 u3 o3 a6 ab be;rw [Oz,List.nil_append] at o3;have q3:=q1.trans a6;rw [Oz];refine hK.out _ _ q3 fun _=>?_;clear hK K';have av:=(ab.block _ (NE g6) (fun e=>by have e':p.drew.heap.size=u6.heap.size:=Option.some.inj e;omega)).trans g6;refine XA.o 7 (fun K' hK=>?_);refine bT mM (.tmp 164) (.tmp 167) rfl rfl p.heap.size _ rl (List.flatten rows) rfl o3 (some (ar _ 0)) 1 1 [.slice C i.start.length J,.slice B i.start.length I] rfl (sI av) rfl (by simp [Value.oneCell']) (by have:=L.o;omega) (by unfold maxLen;have:=L.o;omega) q3.size ?_;intro Q c7 u7 o7 b7 a7 a5;have Z:=q3.trans b7;refine hK.out _ _ Z fun _=>?_;clear hK K';refine XA.t ?_ [8] Z ?_;refine XA.e ?_;simp only [Ob,Oc];have U:=sb N.o _ Z;have bo:=NH u7 w.heap.size 19 _ _ _ U;have bw:=NS u7 w.heap.size 19 _ _ U;have l7:=NE U;have e8:=ss (i:=19) (v:=.slice Q (rl+1) c7) U rfl;have k8:Keep (fun k=>k=w.heap.size) u7 (u7.setCell (ar w.heap.size 19) (.slice Q (rl+1) c7)):=Keep.setCell (S:=fun k=>k=w.heap.size) (Keep.refl _ _) _ (.inr rfl) _;have o8:=k8.own o7 (fun j Y e=>by have h1:=(o7.lt j Y).1;have h2:=NE N.o;omega);have HF:=aa (⟨e8,o8,(Keep.below Z).trans k8⟩:_/\_/\Keep (fun k=>k=w.heap.size) p _);clear e8 k8 o8 o7 b7 a7 a5 Z U;go_wp2_with fail;go_meet;exact ⟨rfl,Q,c7,HF.o⟩
 case rest=>
  obtain ⟨rfl,Q,c7,a9,o7,kc⟩:=hcut;obtain ⟨Wm,bn,oM,bM⟩:=m6 ke wc rfl i.start.length (by have:=H.s'.n;omega) (by unfold maxLen;have:=H.s'.n;omega);rw [fp] at oM;have ci:=NH wc w.heap.size 18 _ _ _ a9;have a3:=sb a9 _ bM;have c8:=NH Wm w.heap.size 18 _ _ _ a3;have cM:=NS Wm w.heap.size 18 _ _ a3;have lc:=NE a9;have lm:=NE a3;have cv:¬(i.start.length:Int)<0:=ap;obtain ⟨cO,O7,KC,OM,BM⟩:=ah a3 o7 kc oM bM;clear a3 o7 kc oM bM a9;go_upto_region 28 with (fail);have a2:=ss (i:=18) (v:=.slice (some (ar wc.heap.size 0)) i.start.length i.start.length) cO.o rfl;have kk:Keep (fun k=>k=w.heap.size) Wm (Wm.setCell (ar w.heap.size 18) (.slice (some (ar wc.heap.size 0)) i.start.length i.start.length)):=Keep.setCell (S:=fun k=>k=w.heap.size) (Keep.refl _ _) _ (.inr rfl) _;obtain ⟨V,hV⟩:∃V,Wm.setCell (ar w.heap.size 18) (.slice (some (ar wc.heap.size 0)) i.start.length i.start.length)=V:=⟨_,rfl⟩;rw [hV] at a2 kk ⊢;have kV:Keep (fun k=>k=w.heap.size) p V:=(KC.o.trans (Keep.below BM.o)).trans kk;have hb:=fun {b:Nat} {o:Obj} (h:W0.heap[b]?=some o) (h1:b≠w.heap.size)=>(kV.block b (NE (sb h _ a1.o)) h1).trans (sb h _ a1.o);have bd:=hb (H.bx _ (br W0)).2.1 ap;have bN:=hb (H.bx _ (br W0)).2.2.1 ap;have b9:=hb (H.bx _ (br W0)).2.2.2.1 ap;have bA:=hb (H.bx _ (br W0)).2.2.2.2.1 ap;have bO:=hb (H.bx _ (br W0)).2.2.2.2.2 ap;have bG:=bh.o.trans (kV.toBelow bh.o.size (fun j Y=>Nat.le_of_eq (Eq.symm Y)));have d6:=NE (H.bx _ (br W0)).2.2.2.2.2;obtain ⟨bl,bs⟩:=ae (kk.own (aE OM.o (show w.heap.size+6<=wc.heap.size by have:=KC.o.size;have:=a1.o.size;omega)) (fun j Y e=>by have h1:=(OM.o.lt j Y).1;have h2:j=w.heap.size:=e;have:=lc;omega)) (kk.own (ay (aE O7.o (show w.heap.size+6<=p.heap.size by have:=a1.o.size;omega)) BM.o) (fun j Y e=>by have h1:=(O7.o.lt j Y).1;have h2:j=w.heap.size:=e;have:=a1.o.size;omega));clear hV ci c8 cM lc lm cv kk kV hb bn;have co:=NH V w.heap.size 21 _ _ _ a2;have bX:=NS V w.heap.size 21 _ _ a2;have lM:=NE a2;have cs:=H.wd;have e9:=ss (i:=21) (v:=OH ((dn:Int)+1)) a2 rfl;have k9:Keep (fun k=>k=w.heap.size) V (V.setCell (ar w.heap.size 21) (OH ((dn:Int)+1))):=Keep.setCell (S:=fun k=>k=w.heap.size) (Keep.refl _ _) _ (.inr rfl) _;obtain ⟨E9,K9,cj,cn,cy,cw,cc,d2⟩:=ak e9 k9 bd bN b9 bA bO bG;clear e9 k9 bd bN b9 bA bO bG a2;go_upto_region 29 with (fail);obtain ⟨V9,b8⟩:∃V9,V.setCell (ar w.heap.size 21) (OH ((dn:Int)+1))=V9:=⟨_,rfl⟩;rw [b8] at E9 K9 ⊢;clear b8 co bX lM cs;obtain ⟨b1,b2,b3,b4,b5⟩:=vq K9.o cj.o cn.o cy.o cw.o cc.o;have hq:aq V9 V9.drew:=(br V9).drew;refine HA.g (KB3 w.heap.size V9) ?_;refine HA.ld3 (vs:=#[.slice A i.cfg.sizes.length c,OH i.cfg.shift,OH i.cfg.rate,OH i.cfg.mom,OH i.cfg.workers,OH i.cfg.batch,OH i.cfg.micros,OH i.cfg.steps,OH i.cfg.bucket,OH i.cfg.chunk,OH i.cfg.window,OH i.cfg.cap,.slice D i.data.length cd,.slice T i.start.length ct,.slice R i.draws.length cr,OH (x:Nat),.slice C i.start.length J,.slice B i.start.length I,.slice (some (ar wc.heap.size 0)) i.start.length i.start.length,.slice Q (rl+1) c7,.slice (some (ar bI oI)) il ic,OH (dn+1)]) E9.o b1 b2 dX bQ bQ (Keep.below hq) ?_;refine HA.st3 3 4 5 b3 b4 b5 dX bQ bQ hq (fun w8 r3 r4 e8 q8=>?_);refine HA.t ?_ [6] q8 ?_;refine HA.d ?_;obtain ⟨R3,R4,R5⟩:=af r3 r4 e8;have F:=kK K9.o q8 d2.o;obtain ⟨aP,QW⟩:=ae F.1 F.2;clear b1 b2 b3 b4 b5 e8 q8 r3 r4 hq F;go_wp2_with fail;refine NX (fz rfl rfl rfl rfl R3.o R4.o R5.o dX bQ bQ) rfl ?_;have ad:∀j,w.heap.size+6<=j->¬(w.heap.size<=j/\j<w.heap.size+6):=fun j h1 h2=>ap;have d4:=aP.o.own bl.o (fun j Y=>ad j (bl.o.lt j Y).1);have c9:=aP.o.own bs.o (fun j Y=>ad j (bs.o.lt j Y).1);have bb:∀k,S k->k<w.heap.size+6:=fun k hk=>by have:=H.S' k hk;omega
  have d3:cB (aF S w8) (some (ar wc.heap.size 0)) (List.replicate i.start.length 0) i.start.length:=⟨by simp,by simp;have:=H.s'.n;omega,iW d4 bb,rF _⟩;have hX:Ext (aF S w) (aF S w8):=aX (Keep.below QW.o) (fun _ _ h=>h)
  have cL:de rEx 2 (aF S w8) Q (m.rc++[(m.P,m.M)]):=by
   refine ⟨rows++[[.slice C i.start.length J,.slice B i.start.length I]],?_,by simp [Z2.o],?_,?_⟩
   ·rw [Oo,List.flatten_cons,List.flatten_nil,List.append_nil];exact ik c9 bb
   ·intro r hr;rcases Ov.1 hr with hr | hr
    ·exact Z3.o r hr
    ·rw [List.mem_singleton.1 hr];rfl
   ·intro j y hy;have cA:=Z2.o;rcases NY j m.rc.length with h | h
    ·rw [Og h] at hy;have e:bZ (rows++[[Value.slice C i.start.length J,.slice B i.start.length I]]) j=bZ rows j:=by simp [bZ,Og (show j<rows.length by omega)]
     rw [e];exact cQ (Z4.o j y hy) hX
    ·have Y:j=m.rc.length:=by have:=(Oe.1 hy).1;simp at this;omega
     subst Y;simp at hy;subst hy;have e:bZ (rows++[[Value.slice C i.start.length J,.slice B i.start.length I]]) m.rc.length=[.slice C i.start.length J,.slice B i.start.length I]:=by rw [<-cA];simp [bZ]
     rw [e];exact ⟨C,J,B,I,by rw [H.Pl,H.Ml],bJ H.P0 hX,bJ H.M0 hX⟩
  have hX:Ext (aF S w) (aF S w8):=aX (Keep.below QW.o) (fun _ _ h=>h);obtain ⟨aR,bi,bz,bf⟩:=H1.o;exact ⟨_,_,_,rfl,rfl,rfl,⟨A,c,D,cd,T,ct,R,cr,C,J,B,I,some (ar wc.heap.size 0),i.start.length,Q,c7,some (ar bI oI),ic,by rw [H.il',c6.o,bf,Od,On,d5.o];push_cast;rfl,eg H.I0 hX,by rw [aR];exact bJ H.P0 hX,by rw [bi];exact bJ H.M0 hX,by rw [bz];exact d3,by rw [bf];exact cL,aQ H.It0 hX,by rw [aR];exact H.Pl,by rw [bi];exact H.Ml,by rw [bz];exact (by simp)⟩,⟨B1,c1,rfl,cZ H.s0 hX,H.s2⟩,⟨B2,c2,rfl,cZ H.t0 hX,H.t2⟩,QW.o⟩
theorem jo {i:Func} {t u v x:Tmp} (h:i.results=#[.tmp t,.tmp u,.tmp v,.tmp x]) (tmps:Qb) (P:Program) (w:Qd): (results i tmps).run P w=.ok (.tuple #[tmps.getD t undef,tmps.getD u undef,tmps.getD v undef,tmps.getD x undef]) w:=by
 simp [results,h]
theorem Cu {X:Nat} {v o:N_} {x u n:Nat} {p:Value} {z:Int} {w:Qd} (hb:w.heap[X]?=some (.cells #[.slice v n x,.slice o n u,p] 96 (0,0))) (B:z<0\/(n:Int)<=z):Calls prog 47 #[(au X),OH z] w fun e i=>e=.returned (.tuple #[.nilIface,.pointer none,.pointer none,.bool false])/\aq w i:=by
 have t:=fun i q=>bx3 (sb hb i q);have y:=br w;clear hb;by_cases h:z<0
 ·go_enter func47,ntmps47;go_wp2_with fail
  (try simp only [Exit.inBlock,Exit.then]);refine NX (jo rfl _ _ _) rfl ?_
  exact ⟨rfl,br w⟩
 ·have A:(n:Int)<=z:=ap;go_enter func47,ntmps47;go_wp2_with fail
  (try simp only [Exit.inBlock,Exit.then]);refine NX (jo rfl _ _ _) rfl ?_
  exact ⟨rfl,br w⟩
theorem LV {X:Nat} {L C:N_} {R U n z p:Nat} {Q v l O:Value} {J x:Qc} {w:Qd} (hb:w.heap[X]?=some (.cells #[.slice L n R,.slice C n U,Q] 96 (0,0))) (I:Rd w L J) (y:Rd w C x) (hz:z<n) (hn:n<=1000) (A:(z+n-1)%n=p) (N:J[z]?=some v) (hl:x[p]?=some l) (u:x[z]?=some O):Calls prog 47 #[(au X),OH (z:Nat)] w fun e h=>e=.returned (.tuple #[v,l,O,.bool true])/\aq w h:=by
 have T:p<n:=by rw [<-A];exact Nat.mod_lt _ ap
 obtain ⟨b1,o1,rfl,c1⟩:=I _ _ N;obtain ⟨b2,o2,rfl,c2⟩:=y _ _ hl;obtain ⟨b3,o3,V,c3⟩:=y _ _ u
 cases V
 have t:=fun h q=>bx3 (sb hb h q);have t1:=fun h (q:aq w h)=>(World.cell?_of_block (q.block _ (aB c1))).trans c1;have t2:=fun h (q:aq w h)=>(World.cell?_of_block (q.block _ (aB c2))).trans c2;have t3:=fun h (q:aq w h)=>(World.cell?_of_block (q.block _ (aB c3))).trans c3
 have i:((z:Int)+(n:Int)-1).tmod (n:Int)=(p:Int):=by
  rw [<-A,Int.tmod_eq_emod_of_nonneg ap,Int.natCast_emod,show ((z+n-1:Nat):Int)=(z:Int)+n-1 by omega]
 have B:((z:Int)+(n:Int)-1)%(n:Int)=(p:Int):=by rw [<-Int.tmod_eq_emod_of_nonneg ap];exact i
 have Y:¬(n=0):=ap;have h1:0<=(z:Int):=ap;have h2:(z:Int)<(n:Int):=ap;have h3:0<=(p:Int):=ap;have h4:(p:Int)<(n:Int):=ap;have Z:IntKind.i64.wrap ((z:Int)+n)=(z:Int)+n:=NK _ ap;have w2:IntKind.i64.wrap ((z:Int)+n-1)=(z:Int)+n-1:=NK _ ap;have H:IntKind.i64.wrap (p:Int)=(p:Int):=NK _ ap;have w5:IntKind.i64.wrap (((z:Int)+n-1).tmod n)=(p:Int):=by rw [i];exact H
 have w6:IntKind.i64.wrap (((z:Int)+n-1)%n)=(p:Int):=by rw [B];exact H
 have D:=br w;clear hb I y A N hl u c1 c2 c3;go_enter func47,ntmps47;go_wp2_with fail;refine HA.g (fun h:Qd=>aq w h) ?_;refine HA.t ?_ [0,1,2,3,4,5,6,7,8,9,10,11,12,13,14,15,16,17,18,19,20,21,22,23,24,25,26,27,28,29] D.drew ?_;refine HA.d ?_;have K:=aa D.drew;go_wp2_with fail
 (try simp only [Exit.inBlock,Exit.then]);refine NX (jo rfl _ _ _) rfl ?_
 exact ⟨rfl,K.o⟩
theorem Ms:dB prog 93 110 .nilIface 1 16:=⟨underlying93,info_parts (by kernel_rfl),rfl,by decide⟩
theorem Mt:dB prog 94 100 (.pointer none) 1 8:=⟨underlying94,info_parts (by kernel_rfl),rfl,by decide⟩
theorem wn:cY prog 29 15:=⟨⟨_,underlying29,rfl⟩,by kernel_rfl⟩
theorem fN {w:Qd} {u B s1 s2 A C:Nat} {o p:Qf} {v1 v2:Value} {xs ys:Qc} (h1:w.ownsRow u o s1 v1 A xs) (y:w.ownsRow B p s2 v2 C ys) (h:o≠p) (j:Nat) (e:v1.ownBlock=some j) (f:v2.ownBlock=some j):False:=by
 rcases h1.2 with ⟨i,_⟩ | ⟨x,_,_,i,_,hg,_⟩
 ·rw [i] at e;cases e
 ·rw [i] at e;have v:x=j:=by simpa [Value.ownBlock] using e
  subst v;exact ax hg h y f.symm
structure JW (X cap:Nat) (rb rb':Nat->Prop) (l1:Nat) (w1 w':Qd):Prop where
 hk:Keep (fun j=>j=X\/rb j) w1 w'
 hty:∀j c,(j=X\/rb j)->w1.heap[j]?≠some (.cells c 2 (0,0))
 hrb:∀j,rb' j->rb j\/(w1.heap.size<=j/\j≠l1)
 hrl:∀j,rb' j->j<w'.heap.size
 hl:w1.heap.size<=l1/\l1<w'.heap.size
 hb:w'.heap[l1]?=some (.cells #[OJ,OH (cap:Nat),OH 0,OH 0,OH 0] 182 (0,0))
def mX (a b:Value) (j:Nat):Prop:=a.ownBlock=some j\/b.ownBlock=some j
structure De (J:Nat->List Nat->List Nat->(Nat->Prop)->Qd->Prop) (W1:Qd) (X k:Nat) (w:Qd) (bs ls:List Nat) (AW AL:N_) (cw cl:Nat):Prop where
 j:J X bs ls (mX (.slice AW k cw) (.slice AL k cl)) w
 hb:bs.length=k
 hl:ls.length=k
 box:w.heap[X]?=some (.cells #[.slice AW k cw,.slice AL k cl,OH 0] 96 (0,0))
 oW:w.ownsRow (X+1) 110 1 (.slice AW k cw) k (bs.map fun b=>.iface 97 ((au b)))
 oL:w.ownsRow (X+1) 100 1 (.slice AL k cl) k (ls.map fun b=>(au b))
 lo:W1.heap.size<=X
 q:aq W1 w
theorem FY {J:Nat->List Nat->List Nat->(Nat->Prop)->Qd->Prop} {i0 i1 i2 i3 i5 i6 i7 i8 i9 C H B A:Value} {N cap:Nat} {w W1:Qd} (a8:w.alloc (.cells #[i0,i1,i2,i3,OH (N:Nat),i5,i6,i7,i8,i9,C,OH (cap:Nat),H,B,A] 29)=W1) (hN:N<=1000) (bf:1<=cap/\cap<=1048576) (b2:∀h,aq W1 h->Calls prog 43 #[.agg #[i0,i1,i2,i3,OH (N:Nat),i5,i6,i7,i8,i9,C,OH (cap:Nat),H,B,A]] h fun e a9=>e=.returned (OH 0)/\aq h a9) (hl:∀h:Qd,Calls prog 45 #[OH (cap:Nat)] h fun e a9=>e=.returned ((au h.heap.size))/\a9=h.alloc (.cells #[OJ,OH (cap:Nat),OH 0,OH 0,OH 0] 182)) (h0:∀X h,W1.heap.size<=X->X<h.heap.size->aq W1 h->J X [] [] (fun _=>False) h) (hm:∀X k bs I rb h,k<N->W1.heap.size<=X->X<h.heap.size->aq W1 h->bs.length=k->I.length=k->J X bs I rb h->Calls prog 44 #[.agg #[i0,i1,i2,i3,OH (N:Nat),i5,i6,i7,i8,i9,C,OH (cap:Nat),H,B,A],OH (k:Nat)] h fun e D=>
   ∃b,e=.returned (.tuple #[(au b),OH 0])/\aq h D/\∀l1 b0 w2,JW X cap rb b0 l1 D w2->J X (bs++[b]) (I++[l1]) b0 w2):
  Calls prog 13 #[.agg #[i0,i1,i2,i3,OH (N:Nat),i5,i6,i7,i8,i9,C,OH (cap:Nat),H,B,A]] w fun e h=>
   ∃X bs I AW x cw y,e=.returned (.tuple #[(au X),OH 0])/\De J W1 X N h bs I AW x cw y:=by
 have g0:W1.heap[w.heap.size]?=some (.cells #[i0,i1,i2,i3,OH (N:Nat),i5,i6,i7,i8,i9,C,OH (cap:Nat),H,B,A] 29 (0,0)):=by rw [<-a8];exact NG w _
 have t4:∀h,aq W1 h->h.cell? (ar w.heap.size 4)=some (OH (N:Nat)):=fun h q=>NH h w.heap.size 4 _ _ _ (sb g0 h q);have a5:∀h,aq W1 h->h.cell? (ar w.heap.size 11)=some (OH (cap:Nat)):=fun h q=>NH h w.heap.size 11 _ _ _ (sb g0 h q);have tl:=sl g0;have bh:w.heap.size<W1.heap.size:=NE g0;obtain ⟨be,Hl,Hm,H0,aR,G0⟩:=ai b2 hl hm h0 a8 g0;have q1:=br W1;clear b2 hl hm h0 a8 g0;go_enter func13,ntmps13;go_wp2_with (refine aK #[i0,i1,i2,i3,OH (N:Nat),i5,i6,i7,i8,i9,C,OH (cap:Nat),H,B,A] (b:=w.heap.size) (by rw [aR.o];exact G0.o) wn rfl rfl rfl rfl ?_);rw [aR.o];refine (be.o _ q1).mono ?_;rintro e w2 ⟨rfl,k2⟩;have q2:=bt q1 k2;clear k2;go_wp2_with fail;obtain ⟨X,hX⟩:∃X,w2.heap.size=X:=⟨_,rfl⟩;obtain ⟨W3,a1⟩:∃W3,w2.alloc (.cells #[OJ,OJ,OH 0] 96)=W3:=⟨_,rfl⟩;have g3:W3.heap[X]?=some (.cells #[OJ,OJ,OH 0] 96 (0,0)):=by rw [<-a1,<-hX];exact NG w2 _
 have q3:aq W1 W3:=by rw [<-a1];exact q2.alloc q2.size _
 have gX:W1.heap.size<=X:=by rw [<-hX];exact q2.size
 have m3:De J W1 X 0 W3 [] [] none none 0 0:=⟨(by
  have hrb:mX (OJ) (OJ)=fun _=>False:=by funext j;simp [mX,Value.ownBlock]
  rw [hrb];exact H0.o X W3 gX (NE g3) q3),rfl,rfl,g3,NV ..,NV ..,gX,q3⟩
 rw [hX,a1];have M3:=aa m3;clear m3 g3 a1 hX q2 q1
 go_loopw [19] (fun v wr=>∃k:Nat,k<=N/\v=OH k/\∃bs I AW x cw y,De J W1 X k wr bs I AW x cw y) (fun v _=>N-(intOf v).toNat)
 ·exact ⟨0,NJ _,rfl,[],[],none,none,0,0,M3.o⟩
 case round=>
  obtain ⟨k,hk,rfl,bs,I,AW,x,cw,y,m⟩:=hrel;have ad:=NE m.box;have bn:=m.q.size;have tb:=bx3 m.box;have p:=aa m;clear m;by_cases b7:k<N
  ·have bN:(k:Int)<N:=ap;have c1:=Hm.o X k bs I _ wr b7 p.o.lo ad p.o.q p.o.hb p.o.hl p.o.j;have C1:=aa c1;have q0:=p.o.q;clear c1;go_wp2_with (refine aK #[i0,i1,i2,i3,OH (N:Nat),i5,i6,i7,i8,i9,C,OH (cap:Nat),H,B,A] (b:=w.heap.size) (sb G0.o _ q0) wn rfl rfl rfl rfl ?_);refine C1.o.mono ?_;rintro e D ⟨b,rfl,k1,hJ⟩;have HJ:=aa hJ;have q1:=bt q0 k1;have b1:=sb p.o.box D k1;have oW:=ay p.o.oW k1;have oL:=ay p.o.oL k1;have bI:=k1.size;have bd:=bx3 b1;obtain ⟨B1,OW,OL,Q1,K1⟩:=ah b1 oW oL q1 k1;clear hJ b1 oW oL q1 k1 tb q0;go_wp2_with (at_builtin;refine dJ Ms _ rfl (.tmp 32) (.tmp 35) rfl (X+1) (.slice AW k cw) k _ rfl (OW.o.alloc _) (some (ar D.heap.size 0)) 1 1 [.iface 97 ((au b))] rfl (dN D _ _ D.heap.size rfl) (by simp) (by simp [Value.oneCell']) ap (by unfold maxLen;omega) (by simp;omega) ?_);intro A2 c2 w3 o3 b3 g3 n3;have kA:aq D (D.alloc (.cells #[.iface 97 ((au b))] 110)):=(br D).alloc (NF _) _;have a0:w3.heap[X]?=_:=(b3.block X ap).trans (sb B1.o _ kA);have kW:Keep (fun j=>(Value.slice AW k cw).ownBlock=some j) D w3:=((Keep.refl _ D).alloc _).grown g3 (fun k hk=>.inr hk);have ao:=kW.own OL.o (fun j h1 h2=>fN OL.o OW.o (by decide) j h1 h2);have b9:=bx3 a0;have bi:=kW.size;have bO:=NE a0;obtain ⟨b5,aG,aM,O3,N3,HK⟩:=ai a0 kW ao o3 n3 hk;clear kA a0 kW ao o3 n3 b3 g3 bd ad;go_wp2_with fail;obtain ⟨i,Y⟩:∃i,w3.setCell (ar X 0) (.slice A2 (k+1) c2)=i:=⟨_,rfl⟩;have kX:Keep (fun j=>j=X) w3 i:=by rw [<-Y];exact Keep.setCell (S:=fun j=>j=X) (Keep.refl _ _) _ (.inr rfl) _
   have T:i.heap[X]?=some (.cells #[.slice A2 (k+1) c2,.slice x k y,OH 0] 96 (0,0)):=by rw [<-Y];exact ss b5.o
   have bb:=fun (v:Value) (e:Qf) (xs:Qc) (o:i.ownsRow (X+1) e 1 v xs.length xs)=>o;have o4:=kX.own O3.o (fun j h1 h2=>by have:=(O3.o.lt j h1).1;omega);have a2:=kX.own aM.o (fun j h1 h2=>by have:=(aM.o.lt j h1).1;omega);rw [Y];have bG:=kX.size;have aP:=NE T;have tX:=fun h (q:Keep (fun j=>(Value.slice x k y).ownBlock=some j) i h)=>bx3 ((q.block X aP (fun e=>by have:=(a2.lt X e).1;omega)).trans T)
   have av:∀h,Keep (fun j=>(Value.slice x k y).ownBlock=some j) i h->h.cell? (ar w.heap.size 11)=some (OH (cap:Nat)):=fun h q=>by
    have hW:i.cell? (ar w.heap.size 11)=some (OH (cap:Nat)):=a5 i (Q1.o.trans ((aG.o.toBelow Q1.o.size (fun j e=>by have:=(OW.o.lt j e).1;have:=p.o.lo;omega)).trans (kX.toBelow (by have:=Q1.o.size;omega) (fun j e=>by have:=p.o.lo;omega))));exact (World.cell?_of_block (q.block w.heap.size ap (fun e=>by have:=(a2.lt _ e).1;have:=p.o.lo;omega))).trans hW
   have q4:Keep (fun j=>(Value.slice x k y).ownBlock=some j) i i.drew:=(Keep.refl _ _).drew;obtain ⟨ab,O4,b8,KX⟩:=ag a2 o4 T kX;clear b9 Y T kX o4 a2 bb t4 a5;refine XA.g 11 (fun h:Qd=>Keep (fun j=>(Value.slice x k y).ownBlock=some j) i h) ?_;refine XA.t ?_ [0,1,2,3,4,5,6,7] q4 ?_;refine XA.c 8 (Hl.o _) ?_;rintro _ R ⟨rfl,h5⟩;obtain ⟨u,V⟩:∃u,i.drew.heap.size=u:=⟨_,rfl⟩;rw [V];have g5:R.heap[u]?=some (.cells #[OJ,OH (cap:Nat),OH 0,OH 0,OH 0] 182 (0,0)):=by rw [h5,<-V];exact NG i.drew _
   have k5:aq i R:=by rw [h5];exact (br i).drew.alloc (NF _) _
   have q5:Keep (fun j=>(Value.slice x k y).ownBlock=some j) i R:=by rw [h5];exact q4.alloc _
   have bz:R.heap.size=u+1:=by rw [h5,<-V];simp
   have bl:u=i.heap.size:=by rw [<-V];rfl
   clear h5 q4;refine ⟨_,rfl,q5,fun _=>?_⟩;refine XA.v 9 (R.alloc (.cells #[(au u)] 100)) (.slice (some (ar R.heap.size 0)) 1 1) (q5.alloc _) ?_;refine XA.o 10 (fun K' hK=>?_);have hO:=(ay ab.o k5).alloc (.cells #[(au u)] 100);refine bT Mt (.tmp 43) (.tmp 48) rfl rfl (X+1) (.slice x k y) k _ rfl hO (some (ar R.heap.size 0)) 1 1 [(au u)] rfl (dN R _ _ R.heap.size rfl) (by simp) (by simp [Value.oneCell']) ap (by unfold maxLen;omega) (by simp;omega) ?_;intro A6 c6 U o6 b6 g6 n6;have a4:Keep (fun j=>(Value.slice x k y).ownBlock=some j) R U:=((Keep.refl _ R).alloc (.cells #[(au u)] 100)).grown g6 (fun k hk=>.inr hk);have q6:=(q5.alloc (.cells #[(au u)] 100)).grown g6 (fun k hk=>.inr hk);refine hK.out _ _ q6 fun _=>?_;refine XA.e ?_;simp only [Ob,Oc];have Z:U.heap[X]?=_:=(q6.block X aP (fun e=>by have:=(ab.o.lt X e).1;omega)).trans b8.o;have bA:=bx3 Z;have bv:=NE Z;have a3:∀j,(Value.slice x k y).ownBlock=some j->j<D.heap.size:=fun j e=>(OL.o.lt j e).2;have a6:U.heap[u]?=_:=(a4.block u ap (fun e=>by have:=a3 u e;omega)).trans g5;have k7:Keep (fun j=>j=X) U (U.setCell (ar X 1) (.slice A6 (k+1) c6)):=Keep.setCell (S:=fun j=>j=X) (Keep.refl _ _) _ (.inr rfl) _;have h7:(U.setCell (ar X 1) (.slice A6 (k+1) c6)).heap[X]?=some (.cells #[.slice A2 (k+1) c2,.slice A6 (k+1) c6,OH 0] 96 (0,0)):=ss Z;have bM:=k7.size;have bo:=a4.size;have b4:=NE a6;have L:Keep (fun j=>j=X\/mX (.slice AW k cw) (.slice x k y) j) D (U.setCell (ar X 1) (.slice A6 (k+1) c6)):=(((aG.o.mono fun k _ e=>.inr (.inl e)).trans (KX.o.mono fun k _ e=>.inl e)).trans (q6.mono fun k _ e=>.inr (.inr e))).trans (k7.mono fun k _ e=>.inl e)
   have O:JW X cap (mX (.slice AW k cw) (.slice x k y)) (mX (.slice A2 (k+1) c2) (.slice A6 (k+1) c6)) u D (U.setCell (ar X 1) (.slice A6 (k+1) c6)):=by
    refine ⟨L,?_,?_,?_,⟨by omega,by omega⟩,(k7.block u b4 (fun e=>ap)).trans a6⟩
    ·rintro j c (rfl | e | e) hj
     ·rw [B1.o] at hj;simp at hj
     ·exact ax hj (by decide) OW.o e.symm
     ·exact ax hj (by decide) OL.o e.symm
    ·rintro j (e | e)
     ·have:=(O3.o.lt j e).2;rcases N3.o with h1 | h1
      ·rw [h1] at e;exact .inl (.inl e)
      ·rw [h1] at e;simp at e;exact .inr ⟨by omega,by omega⟩
     ·rcases n6 with h1 | h1
      ·rw [h1] at e;exact .inl (.inr e)
      ·rw [h1] at e;simp at e;exact .inr ⟨by omega,by omega⟩
    ·rintro j (e | e)
     ·have:=(O4.o.lt j e).2;have:=q6.size;omega
     ·have:=(o6.lt j e).2;omega
   have Q:De J W1 X (k+1) (U.setCell (ar X 1) (.slice A6 (k+1) c6)) (bs++[b]) (I++[u]) A2 A6 c2 c6:=by
    refine ⟨HJ.o _ _ _ O,by simp [p.o.hb],by simp [p.o.hl],h7,?_,?_,p.o.lo,Q1.o.trans (L.toBelow Q1.o.size (fun j e=>?_))⟩
    ·have:=k7.own (q6.own O4.o (fun j h1 h2=>fN ab.o O4.o (by decide) j h2 h1)) (fun j h1 h2=>by have:=(O4.o.lt j h1).1;omega);rw [List.map_append];exact this
    ·have:=k7.own o6 (fun j h1 h2=>by have:=(o6.lt j h1).1;omega);rw [List.map_append];exact this
    ·have bw:=p.o.lo;rcases e with e | e | e
     ·omega
     ·have:=(OW.o.lt j e).1;omega
     ·have:=(OL.o.lt j e).1;omega
   have a7:=aa Q;clear Q O L k7 h7 a6 Z q6 a4 n6 g6 b6 o6 hO q5 k5 g5 tX av hK K' a3;go_wp2_with fail;go_roundw
   ·exact ⟨k+1,by omega,by go_num,_,_,_,_,_,_,a7.o⟩
   ·simp [intOf];omega
  ·obtain rfl:k=N:=ap;clear tb t4 a5;go_wp2_with fail;go_ret2;exact ⟨X,bs,I,AW,x,cw,y,rfl,p.o⟩
structure Cor where
 st:Nat
 bk:Nat
 ph:Nat
 rd:Nat
 ch:Nat
 at':Rg
def Acn.cor (a:Acn):Cor:=⟨a.st,a.bk,a.ph,a.rd,a.ch,a.at'⟩
def gY (l:List Itm):List Acn:=l.filterMap (·.a)
def iy (l:List Itm):List Cor:=((gY l).filter fun a=>a.send).map Acn.cor
def iV (l:List Itm):List Cor:=((gY l).filter fun a=> !a.send).map Acn.cor
theorem kh (l r:List Itm):gY (l++r)=gY l++gY r:=List.filterMap_append ..
theorem uE (l r:List Itm):iy (l++r)=iy l++iy r:=by simp [iy,kh]
theorem uT (l r:List Itm):iV (l++r)=iV l++iV r:=by simp [iV,kh]
theorem lX {α:Type} (l:List α) (f:α->List Itm):gY (l.flatMap f)=l.flatMap fun x=>gY (f x):=by
 induction l with
 | nil=>rfl
 | cons x l ih=>rw [List.flatMap_cons,kh,ih,List.flatMap_cons]
theorem eA {α β:Type} {l:List α} {f g:α->List β} (h:∀x∈l,f x=g x):l.flatMap f=l.flatMap g:=by
 induction l with
 | nil=>rfl
 | cons x l ih=>rw [List.flatMap_cons,List.flatMap_cons,h x (by simp),ih fun y i=>h y (by simp [i])]
theorem qR {α:Type} (l:List α) (f:α->Itm) (h:∀x,(f x).a=none):gY (l.map f)=[]:=by
 induction l with
 | nil=>rfl
 | cons x l ih=>rw [List.map_cons,gY,List.filterMap_cons,h x];exact ih
theorem Ce (p:Pln) (w st ph r j:Nat):gY (cz p w st ph r j)=dt st j (aS p.buks j) p.W p.ck w ph r:=by
 unfold cz gY;rw [List.filterMap_map];generalize dt st j (aS p.buks j) p.W p.ck w ph r=l
 induction l with
 | nil=>rfl
 | cons x l ih=>rw [List.filterMap_cons];show x::_=_;rw [ih]
def zH (p:Pln) (w st a n:Nat):List Acn:=(List.range 2).flatMap fun ph=>(List.range (p.W-1)).flatMap fun r=>(List.range n).flatMap fun j=>dt st (a+j) (aS p.buks (a+j)) p.W p.ck w ph r
theorem Cf (p:Pln) (w st:Nat) (g:Rg):gY (du p w st g)=zH p w st g.1 (g.2-g.1):=by
 unfold du zH;rw [kh,kh,qR _ _ (fun _=>rfl),qR _ _ (fun _=>rfl),List.append_nil,List.nil_append,lX];refine eA fun ph _=>?_;rw [lX];refine eA fun r _=>?_;rw [lX,List.range'_eq_map_range,List.flatMap_map];exact eA fun j _=>Ce p w st ph r _
def zG (p:Pln) (w st:Nat):List Acn:=(List.range (dD p.buks.length p.wi)).flatMap fun k=>zH p w st (k*p.wi) (min (k*p.wi+p.wi) p.buks.length-k*p.wi)
theorem vK (p:Pln) (w st:Nat):gY (aJ p w st)=zG p w st:=by
 unfold aJ zG;rw [kh,kh,qR _ _ (fun _=>rfl),List.nil_append,lX]
 show _++[]=_
 rw [List.append_nil,Pln.grps,fC,List.flatMap_map];exact eA fun k _=>Cf p w st _
theorem zF (i:Inp) (x k:Nat):gY (iL i x k)=(List.range k).flatMap fun st=>zG (az i) x st:=by
 unfold iL;rw [lX];exact eA fun st _=>vK _ _ _
theorem oY {β:Type} (f:Nat->β) (a:Nat):∀m,((List.range m).flatMap fun i=>if i<a then [f i] else [])=(List.range (min m a)).map f
 | 0=>by simp
 | m+1=>by
  rw [Ow,List.flatMap_append,oY f a m];by_cases h:m<a
  ·rw [show min (m+1) a=min m a+1 by omega,Ow,List.map_append];simp [h,show min m a=m by omega]
  ·rw [show min (m+1) a=min m a by omega];simp [h]
theorem Ef (x y:List Rg) (f g:Nat->Rg->Acn) (o:∀i r,(f i r).send=true) (hg:∀i r,(g i r).send=false):(jT x y f g).filter (fun a=>a.send)=(List.range x.length).map fun i=>f i (aS x i):=by
 unfold jT;rw [List.filter_flatMap]
 have:∀i:Nat,List.filter (fun a:Acn=>a.send) ((if i<x.length then [f i (aS x i)] else [])++(if i<y.length then [g i (aS y i)] else []))=if i<x.length then [f i (aS x i)] else []:=fun i=>by
  by_cases h1:i<x.length<;>by_cases h:i<y.length<;>simp [h1,h,o,hg]
 simp only [this];rw [oY (fun i=>f i (aS x i)),show min (max x.length y.length) x.length=x.length by omega]
theorem Eg (x y:List Rg) (f g:Nat->Rg->Acn) (o:∀i r,(f i r).send=true) (hg:∀i r,(g i r).send=false):(jT x y f g).filter (fun a=> !a.send)=(List.range y.length).map fun i=>g i (aS y i):=by
 unfold jT;rw [List.filter_flatMap]
 have:∀i:Nat,List.filter (fun a:Acn=> !a.send) ((if i<x.length then [f i (aS x i)] else [])++(if i<y.length then [g i (aS y i)] else []))=if i<y.length then [g i (aS y i)] else []:=fun i=>by
  by_cases h1:i<x.length<;>by_cases h:i<y.length<;>simp [h1,h,o,hg]
 simp only [this];rw [oY (fun i=>g i (aS y i)),show min (max x.length y.length) y.length=y.length by omega]
theorem Gk {W x ph r:Nat} (hr:r<W-1):eI W x ph r=fV W ((x+1)%W) ph r:=by
 unfold eI fV;rw [Nat.mod_add_mod]
 congr 1
 omega
theorem AD (st bk:Nat) (b:Rg) (W c x ph r:Nat) (hr:r<W-1):((dt st bk b W c x ph r).filter fun a=>a.send).map Acn.cor=((dt st bk b W c ((x+1)%W) ph r).filter fun a=> !a.send).map Acn.cor:=by
 unfold dt;rw [Ef _ _ _ _ (fun _ _=>rfl) (fun _ _=>rfl),Eg _ _ _ _ (fun _ _=>rfl) (fun _ _=>rfl),<-Gk hr,List.map_map,List.map_map];rfl
theorem yD (i:Inp) (x k:Nat):iy (iL i x k)=iV (iL i ((x+1)%(az i).W) k):=by
 unfold iy iV;rw [zF,zF];simp only [zG,zH,List.filter_flatMap,List.map_flatMap];refine eA fun st _=>eA fun g _=>eA fun ph _=>eA fun r hr=>eA fun j _=>?_;exact AD _ _ _ _ _ _ _ _ (List.mem_range.1 hr)
theorem DP {st bk:Nat} {b:Rg} {W c x ph r:Nat} {a:Acn} (h:a∈dt st bk b W c x ph r):a.st=st/\a.bk=bk/\a.ph=ph/\a.rd=r/\a.ch<(dt st bk b W c x ph r).length:=by
 rw [jQ];unfold dt jT at h;obtain ⟨i,o,h⟩:=List.mem_flatMap.1 h;rw [List.mem_range] at o;rw [Ov] at h;rcases h with h | h<;>split at h
 ·simp only [List.mem_singleton] at h;subst h;exact ⟨rfl,rfl,rfl,rfl,by show i<_;omega⟩
 ·simp at h
 ·simp only [List.mem_singleton] at h;subst h;exact ⟨rfl,rfl,rfl,rfl,by show i<_;omega⟩
 ·simp at h
theorem aV.setG {H:Nat->Prop} {w y:Qd} {b x:Nat} {i:Inp} {a:MAd} {m:Mst} (h:aV H w b i x a m) (hn:∀k,Mut b a k->¬H k) (hk:Keep (fun k=>k=a.bg) w y) (G:Qa) (oG:y.ownsRow 0 2 1 (.slice (some (ar a.bg 0)) i.start.length a.cg) i.start.length (aA .i64 G)) (wG:G.length=i.start.length/\W64 G):aV H y b i x a {m with G:=G}:=by
 have he:Ext (aF (gE H b a) w) (aF (gE H b a) y):=aX (hk.mono fun k _ e=>.inl (.inr (.inr (.inr (.inl e))))) (fun k _ Y=>Y);have hb:=(hk.block b (NE h.blk) (fun e=>ax h.blk (by decide) h.oG (by rw [e];rfl))).trans h.blk;have o:∀{v:Value} {e size n xs},(∀j,v.ownBlock=some j->j≠a.bg)->w.ownsRow 0 e size v n xs->y.ownsRow 0 e size v n xs:=fun p o=>hk.own o (fun j u e=>p j u e)
 have D:∀{v:Value} {e:Qf} {size n:Nat} {xs:Qc},e≠2->w.ownsRow 0 e size v n xs->∀j,v.ownBlock=some j->j≠a.bg:=fun p o j u e=>by
  rcases h.oG.2 with ⟨A,_⟩ | ⟨Z,_,_,A,_,hg,_⟩
  ·cases A
  ·simp only [Ou,Option.some.injEq,Addr.mk.injEq] at A;obtain ⟨⟨U,_⟩,_⟩:=A;exact ax hg (Ne.symm p) o (by rw [u,e,U])
 obtain ⟨T,a1,V,L,N,B,O⟩:=h.pl;obtain ⟨rows,C,R,I,J⟩:=h.re
 exact ⟨hb,fA h.sh he,eO cQ h.ex he,iq h.sa he,⟨T,a1,V,L,N,B,ir O he⟩,aQ h.bu he,aQ h.it he,⟨rows,o (D (by decide) C) C,R,I,fun j x Q=>cQ (J j x Q) he⟩,
  o (fun j u=>by cases u;exact h.dj.2.1) h.oP,o (fun j u=>by cases u;exact h.dj.2.2) h.oM,oG,o (D (by decide) h.oO) h.oO,h.dj,fun k _ hm=>hn k hm,h.wP,h.wM,wG,h.ox,h.xw⟩
theorem ti {p:Pln} {x st:Nat} {y:Itm} (h:y∈aJ p x st) (hk:y.kind=1):y.n<p.mi:=by
 unfold aJ at h;simp only [Ov,List.mem_map,List.mem_flatMap,List.mem_singleton,List.mem_range] at h;rcases h with (⟨k,i,rfl⟩ | ⟨g,_,h⟩) | rfl
 ·exact i
 ·unfold du at h;simp only [Ov,List.mem_map,List.mem_flatMap] at h;rcases h with (⟨_,_,rfl⟩ | ⟨_,_,_,_,_,_,h⟩) | ⟨_,_,rfl⟩
  ·cases hk
  ·unfold cz at h;obtain ⟨c,_,rfl⟩:=List.mem_map.1 h;unfold ip at hk
   split at hk<;>cases hk
  ·cases hk
 ·cases hk
theorem dC {i:Inp} {x st nx:Nat} {y:Itm} (h:(cK i x st)[nx]?=some y):st<i.cfg.steps.toNat/\y∈aJ (az i) x st:=by
 unfold cK at h;by_cases hc:st<i.cfg.steps.toNat
 ·rw [if_pos hc] at h;exact ⟨hc,List.mem_of_getElem? h⟩
 ·rw [if_neg hc] at h;simp at h
theorem tr (i:Inp) (P G:Qa) (h:W64 G):∀l:Qg,W64 (eN i P G l):=by
 intro l
 induction l generalizing G with
 | nil=>exact h
 | cons e l ih=>exact ih _ (tV _ _)
theorem mJ {i:Inp} {P:Qa} {n:Nat} (l:Qg):∀G:Qa,G.length=n->(eN i P G l).length=n:=by
 induction l with
 | nil=>intro G h;exact h
 | cons e l ih=>intro G h;exact ih _ (by rw [iZ];exact h)
theorem Keep.sub {S S':Nat->Prop} {w i:Qd} (h:Keep S w i) (hs:∀k,S k->S' k):Keep S' w i:=h.mono fun k _ hk=>hs k hk
theorem IK {H:Nat->Prop} {w:Qd} {b x:Nat} {i:Inp} {a:MAd} {m:Mst} (h:aV H w b i x a m) (hn:∀k,Mut b a k->¬H k) (p:∀k,w.heap.size<=k->¬H k) (hs:cq i) {y:Itm} (D:(cK i x m.st)[m.nx]?=some y) (hk:y.kind=1) (u v:N_):Calls prog 216 #[(au b),.pointer u,.pointer v] w fun e B=>e=.returned (OH 0)/\zK H (fun _=>False) b i x a m (fun _ m1=>m1={m with G:=eN i m.P m.G (dR i.data (pZ i x m.st y.n))}) w B:=by
 obtain ⟨h1,N⟩:=dC D;have O:=ti N hk;have o:=xo D;refine (my h hn p (G:=fun _=>False) (fun _ h=>h.elim) hs D u v 224 (fun B=>by rw [hk];kernel_rfl) (fun args w=>by kernel_rfl) (fun _=>False) (fun _ m1=>m1={m with G:=eN i m.P m.G (dR i.data (pZ i x m.st y.n))}) (fun _ _ _ h _=>h) (fun B q=>?_)).mono ?_
 ·have I:=h.below q hn;refine (EH I hs y (.pointer u) (.pointer v) rfl rfl (by rw [o];exact h1) O).mono ?_;rintro e Q ⟨rfl,A,J⟩;rw [o] at J;exact .inl ⟨rfl,a,_,I.setG hn A _ J ⟨mJ _ _ h.wG.1,tr _ _ _ h.wG.2 _⟩,rfl,rfl,A.sub (fun k e=>.inl (.inr (.inr (.inr (.inl e))))),fun k hm=>.inl hm,⟨rfl,rfl,rfl⟩,rfl⟩
 ·rintro e B (⟨rfl,L⟩ | ⟨C,_,R,_⟩)
  ·exact ⟨rfl,L⟩
  ·exact R.elim
theorem aV.setO {H:Nat->Prop} {w u:Qd} {b x:Nat} {i:Inp} {a:MAd} {m:Mst} (h:aV H w b i x a m) (hn:∀k,Mut b a k->¬H k) (A:∀k,w.heap.size<=k->¬H k) (ov:Value) (op:List Nat) (hk:Keep (fun k=>k=b\/a.ov.ownBlock=some k) w u) (hb:u.heap[b]?=some (.cells #[OH (x:Nat),OH i.cfg.workers,OH i.cfg.micros,.pointer (some ⟨({a with ov:=ov}:MAd).F,0,none⟩),.slice ({a with ov:=ov}:MAd).E i.data.length ({a with ov:=ov}:MAd).ce,.pointer (some ⟨({a with ov:=ov}:MAd).S,0,none⟩),.pointer (some ⟨({a with ov:=ov}:MAd).PP,0,none⟩),.slice ({a with ov:=ov}:MAd).BA (az i).buks.length ({a with ov:=ov}:MAd).bc,OH i.cfg.rate,OH i.cfg.mom,OH i.cfg.shift,.slice (some ⟨({a with ov:=ov}:MAd).bp,0,none⟩) i.start.length ({a with ov:=ov}:MAd).cp,.slice (some ⟨({a with ov:=ov}:MAd).bm,0,none⟩) i.start.length ({a with ov:=ov}:MAd).cm,.slice (some ⟨({a with ov:=ov}:MAd).bg,0,none⟩) i.start.length ({a with ov:=ov}:MAd).cg,.slice (some ⟨({a with ov:=ov}:MAd).rb,0,none⟩) m.rc.length ({a with ov:=ov}:MAd).rc,.slice ({a with ov:=ov}:MAd).IA (cK i x m.st).length ({a with ov:=ov}:MAd).ic,OH (m.nx:Nat),OH (bq i x m:Nat),({a with ov:=ov}:MAd).ov] 179 (0,0))) (oO:u.ownsRow 0 3 1 ov op.length (aA .i64 (dU op))) (hv:∀k,ov.ownBlock=some k->a.ov.ownBlock=some k\/w.heap.size<=k):aV H u b i x {a with ov:=ov} {m with op:=op}/\∀k,Mut b {a with ov:=ov} k->Mut b a k\/w.heap.size<=k:=by
 have p:∀k,Mut b {a with ov:=ov} k->Mut b a k\/w.heap.size<=k:=by
  rintro k (h1 | h1 | h1 | h1 | h1 | h1)
  ·exact .inl (.inl h1)
  ·exact .inl (.inr (.inl h1))
  ·exact .inl (.inr (.inr (.inl h1)))
  ·exact .inl (.inr (.inr (.inr (.inl h1))))
  ·exact .inl (.inr (.inr (.inr (.inr (.inl h1)))))
  ·exact (hv k h1).imp (fun y=>.inr (.inr (.inr (.inr (.inr y))))) id
 have he:Ext (aF (gE H b a) w) (aF (gE H b {a with ov:=ov}) u):=aX (hk.mono fun k _ e=>.inl (e.imp id fun y=>.inr (.inr (.inr (.inr y))))) (fun k hl hS=>hS.imp (fun h1=>(p k h1).elim id (fun y=>ap)) id)
 have o:∀{v:Value} {e:Qf} {size n:Nat} {xs:Qc},e≠179->e≠3->w.ownsRow 0 e size v n xs->u.ownsRow 0 e size v n xs:=fun h1 y o=>hk.own o (fun j D e=>by
  rcases e with e | e
  ·exact ax h.blk (Ne.symm h1) o (by rw [D,e])
  ·rcases h.oO.2 with ⟨B,_⟩ | ⟨J,_,_,B,_,hg,_⟩
   ·rw [B] at e;cases e
   ·rw [B] at e;have Y:J=j:=by simpa [Value.ownBlock] using e
    exact ax hg (Ne.symm y) o (by rw [D,Y]))
 obtain ⟨V,a1,Z,O,Q,C,R⟩:=h.pl;obtain ⟨rows,L,U,I,N⟩:=h.re
 exact ⟨⟨hb,fA h.sh he,eO cQ h.ex he,iq h.sa he,⟨V,a1,Z,O,Q,C,ir R he⟩,aQ h.bu he,aQ h.it he,⟨rows,o (by decide) (by decide) L,U,I,fun j x T=>cQ (N j x T) he⟩,
  o (by decide) (by decide) h.oP,o (by decide) (by decide) h.oM,o (by decide) (by decide) h.oG,oO,h.dj,fun k _ hm=>(p k hm).elim (hn k) (A k),h.wP,h.wM,h.wG,h.ox,h.xw⟩,p⟩
theorem yN {H:Nat->Prop} {w:Qd} {b x:Nat} {i:Inp} {a:MAd} {m:Mst} (h:aV H w b i x a m) (hn:∀k,Mut b a k->¬H k) (L:∀k,w.heap.size<=k->¬H k) (hl:m.op.length<=1000) (y:Itm) (u v:Value) (hu:u.oneCell'=true) (hv:v.oneCell'=true):Calls prog 225 #[(au b),.agg (bj y).toArray,.agg #[u,v]] w fun e p=>e=.returned (OH 0)/\Did H (fun _=>False) b i x a m w.heap.size (fun _ m1=>m1={m with op:=m.op++[y.n]}) w p:=by
 have N:=h.blk;obtain ⟨W0,W1,U,R,g0,g1,C, -⟩:=gn w (bj y).toArray #[u,v] 152 333;have I:=sb N _ C;have Q:=ay h.oO C;have nt:=fun c cs t' sg (a3:W1.heap[c]?=some (.cells cs t' sg)) (a0:t'≠3) (e:a.ov.ownBlock=some c)=>ax a3 a0 Q e.symm;have kb:=fun p (q:Keep (fun j=>a.ov.ownBlock=some j) W1 p)=>(q.block b (NE I) (nt _ _ _ _ I (by decide))).trans I;have k0:=fun p (q:Keep (fun j=>a.ov.ownBlock=some j) W1 p)=>(q.block w.heap.size (NE g0) (nt _ _ _ _ g0 (by decide))).trans g0;have a4:∀p,Keep (fun j=>a.ov.ownBlock=some j) W1 p->p.cell? (ar b 18)=some a.ov:=fun p q=>NH p b 18 _ _ _ (kb p q);have s2:∀p,Keep (fun j=>a.ov.ownBlock=some j) W1 p->p.cell? (ar w.heap.size 2)=some (OH (y.n:Nat)):=fun p q=>NH p w.heap.size 2 _ _ _ (k0 p q);obtain ⟨a1,a2,KB,O1,K1,HM,Hn,Y⟩:=ak U R kb Q C h hn L;have NT:=aa (nt b _ _ _ I (by decide));have q0:Keep (fun j=>a.ov.ownBlock=some j) W1 W1.drew:=(Keep.refl _ _).drew;have a5:w.heap.size<=W1.heap.size:=C.size;clear U R g0 g1 C I Q nt kb k0 N h hn L;go_enter func225,ntmps225;go_wp2_with fail;rw [a1.o,a2.o];refine XA.g 9 (fun p:Qd=>Keep (fun j=>a.ov.ownBlock=some j) W1 p) ?_;refine XA.t ?_ [0,1,2,3,4,5,6] q0 ?_;refine XA.v 7 (W1.drew.alloc (.cells #[OH (y.n:Nat)] 3)) (.slice (some (ar W1.heap.size 0)) 1 1) (q0.alloc _) ?_;refine XA.o 8 (fun K' hK=>?_);have hO:=(O1.o.drew).alloc (.cells #[OH (y.n:Nat)] 3);refine bT fQ (.tmp 11) (.tmp 14) rfl rfl 0 a.ov m.op.length _ rfl hO (some (ar W1.heap.size 0)) 1 1 [OH (y.n:Nat)] rfl (fun k u hu=>⟨_,_,rfl,by rw [Oz,NH _ W1.heap.size k _ 3 (0,0) (NG W1.drew _)];simpa using hu⟩) rfl (by simp [Value.oneCell']) ap (by unfold maxLen;omega) (NJ _) ?_;intro V c5 O o5 b5 g5 Z;have q5:=(q0.alloc (.cells #[OH (y.n:Nat)] 3)).grown g5 (fun k hk=>.inr hk);refine hK.out _ _ q5 fun _=>?_;refine XA.e ?_;simp only [Ob,Oc];have B:=KB.o O q5;have e8:=ss (i:=18) (v:=.slice V (m.op.length+1) c5) B rfl;have k8:Keep (fun k=>k=b) O (O.setCell (ar b 18) (.slice V (m.op.length+1) c5)):=Keep.setCell (S:=fun k=>k=b) (Keep.refl _ _) _ (.inr rfl) _;have o8:=k8.own o5 (fun j hj e=>ax B (by decide) o5 (by rw [hj,e]));have a7:O.cell? (ar b 18)=some a.ov:=NH O b 18 _ _ _ B;have a6:=NS O b 18 _ _ B;have l5:=NE B;have J:Keep (fun k=>k=b\/a.ov.ownBlock=some k) w (O.setCell (ar b 18) (.slice V (m.op.length+1) c5)):=((Keep.below K1.o).trans (q5.mono fun k _ e=>.inr e)).trans (k8.mono fun k _ e=>.inl e);have T:aA .i64 (dU m.op)++[OH (y.n:Nat)]=aA .i64 (dU (m.op++[y.n])):=by simp [dU,aA]
 rw [T] at o8;have A:(m.op++[y.n]).length=m.op.length+1:=by simp
 rw [<-A] at e8 o8 J
 have D:=HM.o.setO Hn.o Y.o (.slice V (m.op++[y.n]).length c5) (m.op++[y.n]) J e8 o8 (fun k hk=>by
  rcases Z with h1 | h1
  ·rw [A] at hk;exact .inl (by rw [<-h1];exact hk)
  ·rw [A] at hk;rw [h1] at hk;exact .inr (by simp at hk;omega))
 have HF:=aa (⟨{a with ov:=.slice V (m.op++[y.n]).length c5},{m with op:=m.op++[y.n]},D.1,rfl,rfl,J.sub (fun k e=>.inl (e.elim .inl (fun e=>.inr (.inr (.inr (.inr (.inr e))))))),D.2,⟨rfl,rfl,rfl⟩,rfl⟩:Did H (fun _=>False) b i x a m w.heap.size (fun _ m1=>m1={m with op:=m.op++[y.n]}) w _);rw [A] at HF;clear D J T o8 e8 k8 B Z g5 b5 o5 q5 hO q0 a4 s2 hK K' A;go_wp2_with fail;go_ret;exact ⟨rfl,HF.o⟩
theorem mw {e:Qf} {base g n c:Nat}:∀(vs:Qc) (o:Nat) (w:Qd) (xs:Qc),w.ownsRow base e 1 (.slice (some (ar g 0)) n c) n xs->o+vs.length<=n->(w.setCells g o vs).ownsRow base e 1 (.slice (some (ar g 0)) n c) n (xs.take o++vs++xs.drop (o+vs.length))
 | [],o,w,xs,h,_=>by simpa [World.setCells] using h
 | v::vs,o,w,xs,h,hl=>by
  have u:xs.length=n:=by have:=h.1;omega
  simp only [List.length_cons] at hl;have:=mw vs (o+1) _ _ (h.stored o v).1 ap
  have p:(xs.set o v).take (o+1)=xs.take o++[v]:=by
   rw [List.take_add_one,List.take_set_of_le (NF o)];simp [show o<xs.length by omega]
  have i:(xs.set o v).drop (o+1+vs.length)=xs.drop (o+(vs.length+1)):=by
   rw [List.drop_set_of_lt ap];congr 1;omega
  rw [p,i] at this;simpa [World.setCells] using this
theorem lq {g:Nat}:∀(vs:Qc) (o:Nat) (w:Qd),Keep (fun j=>j=g) w (w.setCells g o vs)
 | [],_,w=>Keep.refl _ w
 | v::vs,o,w=>(Keep.setCell (S:=fun j=>j=g) (Keep.refl _ w) (ar g o) (.inr rfl) v).trans (lq vs (o+1) _)
theorem aV.setR {H:Nat->Prop} {w B:Qd} {b x:Nat} {i:Inp} {a:MAd} {m:Mst} (h:aV H w b i x a m) (hn:∀k,Mut b a k->¬H k) (C:∀k,w.heap.size<=k->¬H k) (rb rc:Nat) (e:Ex) (u1 u2:Value) (hk:Keep (fun k=>k=b\/k=a.rb) w B) (hb:B.heap[b]?=some (.cells #[OH (x:Nat),OH i.cfg.workers,OH i.cfg.micros,.pointer (some ⟨({a with rb:=rb,rc:=rc}:MAd).F,0,none⟩),.slice ({a with rb:=rb,rc:=rc}:MAd).E i.data.length ({a with rb:=rb,rc:=rc}:MAd).ce,.pointer (some ⟨({a with rb:=rb,rc:=rc}:MAd).S,0,none⟩),.pointer (some ⟨({a with rb:=rb,rc:=rc}:MAd).PP,0,none⟩),.slice ({a with rb:=rb,rc:=rc}:MAd).BA (az i).buks.length ({a with rb:=rb,rc:=rc}:MAd).bc,OH i.cfg.rate,OH i.cfg.mom,OH i.cfg.shift,.slice (some ⟨({a with rb:=rb,rc:=rc}:MAd).bp,0,none⟩) i.start.length ({a with rb:=rb,rc:=rc}:MAd).cp,.slice (some ⟨({a with rb:=rb,rc:=rc}:MAd).bm,0,none⟩) i.start.length ({a with rb:=rb,rc:=rc}:MAd).cm,.slice (some ⟨({a with rb:=rb,rc:=rc}:MAd).bg,0,none⟩) i.start.length ({a with rb:=rb,rc:=rc}:MAd).cg,.slice (some ⟨({a with rb:=rb,rc:=rc}:MAd).rb,0,none⟩) ({m with rc:=m.rc++[e]}:Mst).rc.length ({a with rb:=rb,rc:=rc}:MAd).rc,.slice ({a with rb:=rb,rc:=rc}:MAd).IA (cK i x ({m with rc:=m.rc++[e]}:Mst).st).length ({a with rb:=rb,rc:=rc}:MAd).ic,OH (({m with rc:=m.rc++[e]}:Mst).nx:Nat),OH (bq i x m:Nat),({a with rb:=rb,rc:=rc}:MAd).ov] 179 (0,0))) (rows:List (Qc)) (r2:rows.length=m.rc.length) (r3:∀r∈rows,r.length=2) (r4:∀j x,m.rc[j]?=some x->rEx (aF (gE H b a) w) (bZ rows j) x) (o':B.ownsRow 0 141 2 (.slice (some (ar rb 0)) (m.rc++[e]).length rc) (m.rc++[e]).length (List.flatten rows++[u1,u2])) (hu:dZ B w.heap.size [u1,u2] e) (hv:rb=a.rb\/w.heap.size<=rb):aV H B b i x {a with rb:=rb,rc:=rc} {m with rc:=m.rc++[e]}/\∀k,Mut b {a with rb:=rb,rc:=rc} k->Mut b a k\/w.heap.size<=k:=by
 have I:∀k,Mut b {a with rb:=rb,rc:=rc} k->Mut b a k\/w.heap.size<=k:=by
  rintro k (h1 | h1 | h1 | h1 | h1 | h1)
  ·exact .inl (.inl h1)
  ·exact .inl (.inr (.inl h1))
  ·exact .inl (.inr (.inr (.inl h1)))
  ·exact .inl (.inr (.inr (.inr (.inl h1))))
  ·have a6:k=rb:=h1;exact hv.imp (fun D=>.inr (.inr (.inr (.inr (.inl (a6.trans D)))))) (fun D=>ap)
  ·exact .inl (.inr (.inr (.inr (.inr (.inr h1)))))
 have he:Ext (aF (gE H b a) w) (aF (gE H b {a with rb:=rb,rc:=rc}) B):=aX (hk.mono fun k _ e=>.inl (e.elim .inl fun D=>.inr (.inr (.inr (.inr (.inl D)))))) (fun k hl hS=>hS.imp (fun h1=>(I k h1).elim id (fun D=>ap)) id);obtain ⟨a0,a1,a2,a3,a5,V,hp⟩:=h.pl;obtain ⟨_,r1,_⟩:=h.re
 have u:∀{v:Value} {e:Qf} {size n:Nat} {xs:Qc},e≠179->e≠141->w.ownsRow 0 e size v n xs->B.ownsRow 0 e size v n xs:=fun h1 D Y=>hk.own Y (fun j O e=>by
  rcases e with e | e
  ·exact ax h.blk (Ne.symm h1) Y (by rw [O,e])
  ·rcases r1.2 with ⟨p,_⟩ | ⟨r',_,_,p,_,hg,_⟩
   ·cases p
   ·simp only [Ou,Option.some.injEq,Addr.mk.injEq] at p;obtain ⟨⟨J,_⟩,_⟩:=p
    exact ax hg (Ne.symm D) Y (by rw [O,e,J]))
 obtain ⟨v1,v2,hcs,U,T,z3,z4,z5,z6⟩:=hu;simp only [List.cons.injEq,and_true] at hcs;obtain ⟨rfl,rfl⟩:=hcs;obtain ⟨A1,c1,rfl,a7⟩:=aC U;obtain ⟨Q,c2,rfl,a4⟩:=aC T
 have L:∀{A:N_} {n c:Nat} {xs:Qc},B.ownsRow w.heap.size 2 1 (.slice A n c) n xs->∀y,A=some y->¬gE H b {a with rb:=rb,rc:=rc} y.block:=fun N y hy hm=>by
  have h1:=(gq N y hy).1;rcases hm with hm | hm
  ·rcases hm with hm | hm | hm | hm | hm | hm
   ·have:=h.mlt _ (.inl hm);omega
   ·have:=h.mlt _ (.inr (.inl hm));omega
   ·have:=h.mlt _ (.inr (.inr (.inl hm)));omega
   ·have:=h.mlt _ (.inr (.inr (.inr (.inl hm))));omega
   ·have R:y.block=rb:=hm;rcases o'.2 with ⟨p,_⟩ | ⟨r',_,_,p,_,hg,_⟩
    ·cases p
    ·simp only [Ou,Option.some.injEq,Addr.mk.injEq] at p;obtain ⟨⟨J,_⟩,_⟩:=p;exact ax hg (by decide) N (by rw [hy];show some r'=some y.block;rw [R,J])
   ·have:=h.mlt _ (.inr (.inr (.inr (.inr (.inr hm)))));omega
  ·exact C _ h1 hm
 refine ⟨⟨hb,fA h.sh he,eO cQ h.ex he,iq h.sa he,⟨a0,a1,a2,a3,a5,V,ir hp he⟩,aQ h.bu he,aQ h.it he,⟨rows++[[.slice A1 e.1.length c1,.slice Q e.2.length c2]],?_,by simp [r2],?_,fun j z N=>?_⟩,
  u (by decide) (by decide) h.oP,u (by decide) (by decide) h.oM,u (by decide) (by decide) h.oG,u (by decide) (by decide) h.oO,h.dj,fun k _ hm=>(I k hm).elim (hn k) (C k),h.wP,h.wM,h.wG,h.ox,h.xw⟩,I⟩
 ·rw [Oo,List.flatten_cons,List.flatten_nil,List.append_nil];exact o'
 ·intro r hr;rcases Ov.1 hr with hr | hr
  ·exact r3 r hr
  ·rw [List.mem_singleton.1 hr];rfl
 ·rcases NY j m.rc.length with O | O
  ·have o:(m.rc++[e])[j]?=some z:=N;rw [Og O] at o;have J:bZ (rows++[[.slice A1 e.1.length c1,.slice Q e.2.length c2]]) j=bZ rows j:=by simp [bZ,Og (show j<rows.length by omega)]
   rw [J];exact cQ (r4 j z o) he
  ·have o:(m.rc++[e])[j]?=some z:=N;have Z:j=m.rc.length:=by have:=(Oe.1 o).1;simp at this;omega
   subst Z;simp at o;subst o;have J:bZ (rows++[[.slice A1 e.1.length c1,.slice Q e.2.length c2]]) m.rc.length=[.slice A1 e.1.length c1,.slice Q e.2.length c2]:=by rw [<-r2];simp [bZ]
   rw [J];exact ⟨A1,c1,Q,c2,rfl,⟨a7,z3,mr (Rd.own U) (L U),z5⟩,⟨a4,z4,mr (Rd.own T) (L T),z6⟩⟩
theorem Fi {w:Qd} {g n c:Nat} {xs:Qc} (p:Qf) (h:w.ownsRow 0 2 1 (.slice (some (ar g 0)) n c) n xs) (hn:0<n): (Builtin.clear_ #[139] p #[.slice (some (ar g 0)) n c]).run prog w=.ok (.tuple #[]) (w.setCells g 0 (List.replicate n (OH 0))):=by
 obtain ⟨i,v,o,_⟩:=mL.info;have hl:=h.1;refine Lib.run_clear_slice w 139 2 p (OH 0) mL.und (fun x=>?_) rfl rfl g 0 n c hn (fun j u=>?_) (fun j u=>?_)
 ·simp [zeroValue,typeInfo,v,o]
 ·rw [Oz,h.cellAt j ap,Of ap];rfl
 ·rw [Oz];exact h.frozenAt j
theorem yL {H:Nat->Prop} {w:Qd} {b x:Nat} {i:Inp} {a:MAd} {m:Mst} (h:aV H w b i x a m) (hn:∀k,Mut b a k->¬H k) (U:∀k,w.heap.size<=k->¬H k) (hs:cq i) (hl:m.rc.length<=1000) (y:Itm) (u v:Value) (hu:u.oneCell'=true) (hv:v.oneCell'=true):Calls prog 229 #[(au b),.agg (bj y).toArray,.agg #[u,v]] w fun e p=>e=.returned (OH 0)/\Did H (fun _=>False) b i x a m w.heap.size (fun _ m1=>m1={m with rc:=m.rc++[(m.P,m.M)],G:=List.replicate i.start.length 0}) w p:=by
 have D:=h.blk;have aM:=hs.n;have a6:0<i.start.length:=hs.n1;obtain ⟨W0,W1,a3,a2,g0,g1,J, -⟩:=gn w (bj y).toArray #[u,v] 152 333;obtain ⟨rows,r1,r2,r3,r4⟩:=h.re;have O:=sb D _ J;have a1:=ay r1 J
 have nt:b≠a.rb:=fun e=>by
  rcases r1.2 with ⟨e',_⟩ | ⟨r',_,_,e',_,hg,_⟩
  ·cases e'
  ·simp only [Ou,Option.some.injEq,Addr.mk.injEq] at e';obtain ⟨⟨e1,_⟩,_⟩:=e';rw [e,e1,hg] at D;simp at D
 have kb:=fun p (q:Keep (fun j=>j=a.rb) W1 p)=>(q.block b (NE O) nt).trans O;have aG:∀p,Keep (fun j=>j=a.rb) W1 p->p.cell? (ar b 14)=some (.slice (some (ar a.rb 0)) m.rc.length a.rc):=fun p q=>NH p b 14 _ _ _ (kb p q);have a7:∀p,Keep (fun j=>j=a.rb) W1 p->p.cell? (ar b 11)=some (.slice (some (ar a.bp 0)) i.start.length a.cp):=fun p q=>NH p b 11 _ _ _ (kb p q);have a9:∀p,Keep (fun j=>j=a.rb) W1 p->p.cell? (ar b 12)=some (.slice (some (ar a.bm 0)) i.start.length a.cm):=fun p q=>NH p b 12 _ _ _ (kb p q);have a5:=fun p (q:aq W1 p)=>kv (some (ar a.bp 0)) (some (ar a.bm 0)) i.start.length a.cp a.cm m.P m.M p (Rd.own (ay (ay h.oP J) q)) (Rd.own (ay (ay h.oM J) q)) h.wP.1 h.wM.1 ap;obtain ⟨av,ab,KB,R1,K1,Q,Hn,T⟩:=ak a3 a2 kb a1 J h hn U;obtain ⟨NT,ad,R2,R3,R4⟩:=ah nt a5 r2 r3 r4;have q0:Keep (fun j=>j=a.rb) W1 W1.drew:=(Keep.refl _ _).drew;have tl:=fun p (q:Keep (fun j=>j=a.rb) W1 p)=>NQ (NE O) q.size;clear a3 a2 g0 g1 J O a1 nt kb D h hn U a5 r1 r2 r3 r4;go_enter func229,ntmps229;go_wp2_with fail;rw [av.o,ab.o];refine XA.g 12 (fun p:Qd=>Keep (fun j=>j=a.rb) W1 p) ?_;refine XA.t ?_ [0,1,2,3,4,5,6,7,8] q0 ?_;refine XA.c 9 (ad.o _ ((br W1).drew)) ?_;rintro e R ⟨A1,c1,V,c2,rfl,b4,b0,o1,o2, -,k3⟩;have b3:aq W1 R:=(br W1).drew.trans k3;have q3:Keep (fun j=>j=a.rb) W1 R:=Keep.below b3;refine ⟨_,rfl,q3,fun _=>?_⟩;refine XA.v 10 (R.alloc (.cells #[.slice A1 i.start.length c1,.slice V i.start.length c2] 141)) (.slice (some (ar R.heap.size 0)) 1 1) (q3.alloc _) ?_;refine XA.o 11 (fun K' hK=>?_);have hO:=(ay R1.o b3).alloc (.cells #[.slice A1 i.start.length c1,.slice V i.start.length c2] 141);refine bT Jb (.tmp 11) (.tmp 17) rfl rfl 0 (.slice (some (ar a.rb 0)) m.rc.length a.rc) m.rc.length _ rfl hO (some (ar R.heap.size 0)) 1 1 [.slice A1 i.start.length c1,.slice V i.start.length c2] rfl (fun k u hu=>⟨_,_,rfl,by rw [Oz,NH _ R.heap.size k _ 141 (0,0) (NG R _)];simpa using hu⟩) rfl (by simp [Value.oneCell']) ap (by unfold maxLen;omega) (NJ _) ?_;intro A5 c5 L o5 b5 g5 a0
 have ao:∃g,A5=some (ar g 0):=by
  obtain ⟨g,_,e,_⟩:=o5.form ap;simp only [Ou] at e;exact ⟨g,e.1⟩
 obtain ⟨g,rfl⟩:=ao;have q5:=(q3.alloc (.cells #[.slice A1 i.start.length c1,.slice V i.start.length c2] 141)).grown g5 (fun k hk=>.inr (by cases hk;rfl));refine hK.out _ _ q5 fun _=>?_;refine XA.e ?_;simp only [Ob,Oc];have B:=KB.o L q5;have C:(m.rc++[(m.P,m.M)]).length=m.rc.length+1:=by simp
 have e8:=ss (i:=14) (v:=.slice (some (ar g 0)) (m.rc.length+1) c5) B rfl;have k8:Keep (fun k=>k=b) L (L.setCell (ar b 14) (.slice (some (ar g 0)) (m.rc.length+1) c5)):=Keep.setCell (S:=fun k=>k=b) (Keep.refl _ _) _ (.inr rfl) _;have o8:=k8.own o5 (fun j hj e=>ax B (by decide) o5 (by rw [hj,e]));have z1:=iG (o1.alloc (.cells #[.slice A1 i.start.length c1,.slice V i.start.length c2] 141)) hO g5 (by decide);have z2:=iG (o2.alloc (.cells #[.slice A1 i.start.length c1,.slice V i.start.length c2] 141)) hO g5 (by decide);have Y:=aE (base':=w.heap.size) (k8.own z1 (fun j hj e=>ax B (by decide) z1 (by rw [hj,e]))) (NN K1.o.size (br W1).drew.size);have Z:=aE (base':=w.heap.size) (k8.own z2 (fun j hj e=>ax B (by decide) z2 (by rw [hj,e]))) (NN K1.o.size (br W1).drew.size);have aR:L.cell? (ar b 14)=some (.slice (some (ar a.rb 0)) m.rc.length a.rc):=NH L b 14 _ _ _ B;have b1:=NS L b 14 _ _ B;have l5:=NE B;have I:Keep (fun k=>k=b\/k=a.rb) w (L.setCell (ar b 14) (.slice (some (ar g 0)) (m.rc.length+1) c5)):=((Keep.below K1.o).trans (q5.mono fun k _ e=>.inr e)).trans (k8.mono fun k _ e=>.inl e);have N:(L.setCell (ar b 14) (.slice (some (ar g 0)) (m.rc.length+1) c5)).cell? (ar b 13)=some (.slice (some (ar a.bg 0)) i.start.length a.cg):=NH _ b 13 _ _ _ e8;rw [<-C] at e8 o8 I N
 have a4:dZ (L.setCell (ar b 14) (.slice (some (ar g 0)) (m.rc++[(m.P,m.M)]).length c5)) w.heap.size [.slice A1 i.start.length c1,.slice V i.start.length c2] (m.P,m.M):=by
  rw [C];refine ⟨_,_,rfl,?_,?_,?_,?_,Q.o.wP.2,Q.o.wM.2⟩
  ·show World.ownsRow _ _ _ _ _ m.P.length _;rw [Q.o.wP.1];exact Y
  ·show World.ownsRow _ _ _ _ _ m.M.length _;rw [Q.o.wM.1];exact Z
  ·show m.P.length<=_;rw [Q.o.wP.1];omega
  ·show m.M.length<=_;rw [Q.o.wM.1];omega
 have A:=Q.o.setR Hn.o T.o g c5 (m.P,m.M) _ _ I e8 rows R2.o R3.o R4.o o8 a4 (by
  rcases a0 with h1 | h1
  ·left;simpa [Value.ownBlock] using h1
  ·right
   have h2:g=R.heap.size+1:=by simpa [Value.ownBlock] using h1
   have:=K1.o.size;have:=b3.size
   omega)
 rw [C] at A N I;obtain ⟨w8,a8⟩:∃w8,L.setCell (ar b 14) (.slice (some (ar g 0)) (m.rc.length+1) c5)=w8:=⟨_,rfl⟩;rw [a8] at A N I;have b2:b<w8.heap.size:=aB N;have aP:=fun ty=>Fi ty A.1.oG a6;have k9:=lq (g:=a.bg) (List.replicate i.start.length (OH 0)) 0 w8;have o9:=mw (List.replicate i.start.length (OH 0)) 0 w8 _ A.1.oG (by simp)
 have e9:(aA .i64 m.G).take 0++List.replicate i.start.length (Value.int .i64 0)++(aA .i64 m.G).drop (0+(List.replicate i.start.length (Value.int .i64 0)).length)=aA .i64 (List.replicate i.start.length 0):=by
  rw [List.take_zero,List.nil_append,Ol,Oz,List.drop_eq_nil_of_le (by rw [bS,Q.o.wG.1];exact NF _),List.append_nil,fp]
 rw [e9] at o9;have hG:=A.1.setG (fun k hk=>(A.2 k hk).elim (Hn.o k) (T.o k)) k9 (List.replicate i.start.length 0) o9 ⟨by simp,rF _⟩;have HF:=aa (⟨_,_,hG,rfl,rfl,(I.sub (fun k e=>.inl (e.elim .inl (fun e=>.inr (.inr (.inr (.inr (.inl e)))))))).trans (k9.sub (fun k e=>.inl (.inr (.inr (.inr (.inl e)))))),A.2,⟨rfl,rfl,rfl⟩,rfl⟩:Did H (fun _=>False) b i x a m w.heap.size (fun _ m1=>m1={m with rc:=m.rc++[(m.P,m.M)],G:=List.replicate i.start.length 0}) w _);clear hG A I o9 e9 k9 a4 z1 z2 Y Z o8 e8 k8 B a0 g5 b5 o5 q5 hO q0 aG a7 a9 hK K' C o1 o2 k3 b3 q3 tl;go_wp2_with fail;go_ret;exact ⟨rfl,HF.o⟩
theorem Lr (j n:Nat):((j:Int)==(n:Int))=decide (j=n):=by rw [Bool.eq_iff_iff];simp;omega
theorem zp (X n j:Nat) (w:Qd) (i:w.cell? (ar X 2)=some (OH (n:Nat))):Calls prog 239 #[OH (j:Nat),(au X)] w fun e h=>e=.returned (.bool (decide (j=n)))/\h=w:=by
 go_enter func239,ntmps239;go_wp2_with fail;go_ret;exact ⟨by simp [Lr],rfl⟩
theorem tp {l:List Nat} {k j:Nat} (h:l[k]?=some j):(aA .i64 (dU l))[k]?=some (OH (j:Nat)):=by simp [aA,dU,h]
def MJ (l:List Nat) (n:Nat) (w:Qd) (e:Ending) (h:Qd):Prop:=((∃k,k<l.length/\l[k]?=some n/\(∀j,j<k->l[j]?≠some n)/\e=.returned (OH (k:Nat)))\/((∀j,j<l.length->l[j]?≠some n)/\e=.returned (OH (-1))))/\h=w
theorem Lg (A:N_) (l:List Nat) (c X n:Nat) (w:Qd) (hA:Rd w A (aA .i64 (dU l))) (hl:l.length<=1000) (Q:w.cell? (ar X 2)=some (OH (n:Nat))):Calls prog 154 #[.slice A l.length c,.func (.func 239) #[] #[(au X)]] w (MJ l n w):=by
 have i:=fun j=>zp X n j w Q;obtain ⟨N,H⟩:∃N,l.length=N:=⟨_,rfl⟩;have B:∀e J,((∃k,k<N/\l[k]?=some n/\(∀j,j<k->l[j]?≠some n)/\e=.returned (OH (k:Nat)))\/((∀j,j<N->l[j]?≠some n)/\e=.returned (OH (-1))))/\J=w->MJ l n w e J:=fun e J h=>by rw [<-H] at h;exact h
 rw [H] at hl ⊢;obtain ⟨V,HA,Z,R⟩:=ag i hA H B;clear i hA H Q B;go_enter func154,ntmps154;go_wp2_with fail
 go_loopw [8] (fun y wr=>∃k:Nat,k<=N/\y=OH k/\(∀j,j<k->l[j]?≠some n)/\wr=w) (fun y _=>N-(intOf y).toNat)
 ·exact ⟨0,NJ _,rfl,fun j hj=>ap,rfl⟩
 case round=>
  obtain ⟨k,hk,rfl,C,rfl⟩:=hrel;have u:=aa C;clear C;by_cases D:k<N
  ·have L:(k:Int)<N:=ap;have U:¬(k:Int)<0:=ap;have Y:IntKind.i64.wrap ((k:Int)+1)=((k+1:Nat):Int):=by rw [NK _ ap];push_cast;rfl
   obtain ⟨v,O⟩:∃v,l[k]?=some v:=⟨_,Of (by rw [Z.o];exact D)⟩;obtain ⟨b,o,rfl,x⟩:=HA.o k _ (tp O);have lb:=aB x;have T:=aa O;clear O;go_wp2_with fail;refine (V.o v).mono ?_;rintro e w2 ⟨rfl,rfl⟩;by_cases p:v=n
   ·subst p;rw [OA rfl];go_wp2_with fail;go_ret;exact R.o _ _ ⟨.inl ⟨k,D,T.o,u.o,rfl⟩,rfl⟩
   ·rw [OB p];have I:=aa p;clear p;go_wp2_with fail;go_roundw
    case rel=>
     refine ⟨k+1,by omega,by go_num,fun j hj=>?_,trivial⟩;rcases NY j k with h | h
     ·exact u.o j h
     ·obtain rfl:j=k:=ap;rw [T.o];intro h;exact I.o (by simpa using h)
    case measure=>simp [intOf];omega
  ·have L:¬(k:Int)<N:=ap;obtain rfl:k=N:=ap;go_wp2_with fail;go_ret;exact R.o _ _ ⟨.inr ⟨u.o,rfl⟩,rfl⟩
theorem Eh {w:Qd} {base g n c k:Nat} {e:Qf} {xs:Qc} (h:w.ownsRow base e 1 (.slice (some (ar g 0)) n c) n xs) (hk:k<=n):w.ownsRow base e 1 (.slice (some (ar g 0)) k c) k (xs.take k):=by
 have hl:=h.1;rcases h.2 with ⟨i,_⟩ | ⟨A,cap,o,i,h1,u,y,v,x,p⟩
 ·cases i
 ·simp only [Ou,Option.some.injEq,Addr.mk.injEq] at i;obtain ⟨⟨rfl,_⟩,_,rfl⟩:=i;refine ⟨by rw [Oi];omega,.inr ⟨g,c,o,rfl,h1,u,by omega,v,x,?_⟩⟩;rw [<-p,List.take_take];congr 1;omega
def iw (l:List Nat) (n:Nat):List Nat:=l.filter fun j=>decide (j≠n)
def LO (l:List Nat) (n base g c:Nat) (w:Qd) (e:Ending) (h:Qd):Prop:=e=.returned (.slice (some (ar g 0)) (iw l n).length c)/\h.ownsRow base 3 1 (.slice (some (ar g 0)) (iw l n).length c) (iw l n).length (aA .i64 (dU (iw l n)))/\Keep (fun j=>j=g) w h
theorem Bz (l:List Nat) (k:Nat):(aA .i64 (dU l)).take k=aA .i64 (dU (l.take k)):=by simp [aA,dU,List.map_take]
theorem ET (l:List Nat) (k v:Nat):(aA .i64 (dU l)).set k (OH (v:Nat))=aA .i64 (dU (l.set k v)):=by simp [aA,dU,List.map_set]
theorem Jo {l R:List Nat} {n i j v:Nat} (o:l[j]?=some v) (h1:R.take i=iw (l.take j) n) (p:R.drop j=l.drop j) (u:i<j) (hl:R.length=l.length) (h:v≠n):(R.set i v).take (i+1)=iw (l.take (j+1)) n/\(R.set i v).drop (j+1)=l.drop (j+1):=by
 have x:=(Oe.1 o).1;constructor
 ·rw [List.take_add_one,List.take_set_of_le (NF i),h1,List.take_add_one,o];simp [iw,List.filter_append,h,show i<R.length by omega]
 ·rw [List.drop_set_of_lt ap];have:=congrArg (List.drop 1) p;simpa [List.drop_drop] using this
theorem Jp {l R:List Nat} {n i j:Nat} (h:l[j]?=some n) (h1:R.take i=iw (l.take j) n) (o:R.drop j=l.drop j):R.take i=iw (l.take (j+1)) n/\R.drop (j+1)=l.drop (j+1):=by
 constructor
 ·rw [h1,List.take_add_one,h];simp [iw,List.filter_append]
 ·have:=congrArg (List.drop 1) o;simpa [List.drop_drop] using this
theorem Jq {l:List Nat} {n:Nat} (h:∀j,j<l.length->l[j]?≠some n):iw l n=l:=by
 refine List.filter_eq_self.2 fun x o=>?_;obtain ⟨j,i,rfl⟩:=List.getElem_of_mem o;have:=h j i;rw [Of i] at this;simpa using this
theorem Jn (g c X n base:Nat) (l:List Nat) (w:Qd) (V:w.ownsRow base 3 1 (.slice (some (ar g 0)) l.length c) l.length (aA .i64 (dU l))) (hl:l.length<=1000) (hX:w.cell? (ar X 2)=some (OH (n:Nat))) (a8:X≠g):Calls prog 238 #[.slice (some (ar g 0)) l.length c,.func (.func 239) #[] #[(au X)]] w (LO l n base g c w):=by
 have I:=Lg (some (ar g 0)) l c X n w (Rd.own V) hl hX;have B:=fun j Y (q:Keep (fun j=>j=g) w Y)=>zp X n j Y (q.cell hX a8)
 have a0:l.length<=c:=by
  obtain ⟨_,_,e,h⟩:=aC V;simp only [Ou] at e;omega
 obtain ⟨N,hN⟩:∃N,l.length=N:=⟨_,rfl⟩;unfold MJ at I;rw [hN] at I V hl a0 ⊢;have b4:=(V.lt g rfl).2;obtain ⟨av,Hc,HO,U⟩:=ag I B V hN;clear I B V hN hX;go_enter func238,ntmps238;go_wp2_with fail;refine av.o.mono ?_;rintro e Y ⟨h,rfl⟩;rcases h with ⟨k,ao,hk,C,rfl⟩ | ⟨C,rfl⟩
 rotate_left
 ·have hd:=Jq (n:=n) (l:=l) (by rw [U.o];exact C);have HD:=aa hd;clear C hd;go_wp2_with fail;go_ret;refine ⟨by rw [HD.o,U.o];rfl,by rw [HD.o,U.o];exact HO.o,Keep.refl _ _⟩
 ·have bb:¬(k:Int)= -1:=ap;have b1:IntKind.i64.wrap ((k:Int)+1)=((k+1:Nat):Int):=by rw [NK _ ap];push_cast;rfl
  have h0:l.take k=iw (l.take (k+1)) n:=by
   rw [List.take_add_one,hk];simp only [iw,List.filter_append,Option.toList,List.filter_cons,List.filter_nil];simp only [ne_eq,not_true_eq_false,decide_false,Bool.false_eq_true,if_false,List.append_nil]
   exact (List.filter_eq_self.2 fun x hx=>by
    obtain ⟨j,hj,rfl⟩:=List.getElem_of_mem hx;rw [Oi] at hj;have:=C j ap;rw [Of ap] at this
    simpa using this).symm
  have H0:=aa h0;clear hk C h0;go_wp2_with fail
  go_loopw [5,6] (fun y5 y6 wr=>∃i j:Nat,∃R:List Nat,y5=OH i/\y6=OH j/\i<j/\j<=N/\R.length=N/\R.take i=iw (l.take j) n/\R.drop j=l.drop j/\wr.ownsRow base 3 1 (.slice (some (ar g 0)) N c) N (aA .i64 (dU R))/\Keep (fun j=>j=g) Y wr) (fun _ y _=>N-(intOf y).toNat)
  ·exact ⟨k,k+1,l,rfl,by push_cast;rfl,by omega,ao,U.o,H0.o,rfl,HO.o,Keep.refl _ _⟩
  case round=>
   obtain ⟨i,j,R,rfl,rfl,a9,be,hR,h1,h2,J,Z⟩:=hrel;have bd:(i:Int)<N:=ap;have b9:¬(i:Int)<0:=ap;have fr:=J.frozenAt i;obtain ⟨ri,L⟩:∃ri,R[i]?=some ri:=⟨_,Of ap⟩;have ci:=J.cellAt i ap;rw [tp L] at ci;have b7:g<wr.heap.size:=(J.lt g rfl).2;by_cases O:j<N
   ·have ad:(j:Int)<N:=ap;have b3:¬(j:Int)<0:=ap;have b6:IntKind.i64.wrap ((i:Int)+1)=((i+1:Nat):Int):=by rw [NK _ ap];push_cast;rfl
    have b2:IntKind.i64.wrap ((j:Int)+1)=((j+1:Nat):Int):=by rw [NK _ ap];push_cast;rfl
    obtain ⟨v,hv⟩:∃v,l[j]?=some v:=⟨_,Of (by rw [U.o];exact O)⟩
    have a6:R[j]?=some v:=by
     have:=congrArg (fun z=>z[0]?) h2;simpa [List.getElem?_drop,hv] using this
    have cj:=J.cellAt j ap;rw [tp a6] at cj;obtain ⟨aG,Q,QK⟩:=af (Hc.o v wr Z) J Z;have D:=fun h=>Jo hv h1 h2 a9 (hR.trans U.o.symm) h;have H:=fun h:v=n=>Jp (by rw [<-h];exact hv) h1 h2;obtain ⟨a7,a4,HR⟩:=af D H hR;clear hv a6 h1 h2 J Z D H L hR;go_wp2_with fail;refine aG.o.mono ?_;rintro e w2 ⟨rfl,rfl⟩;by_cases p:v=n
    ·rw [OA p];have u:=aa p;clear p;go_wp2_with fail;go_roundw
     ·(repeat apply Exists.intro);exact ⟨⟨i,j+1,R,rfl,by go_num,by omega,O,HR.o,(a4.o u.o).1,(a4.o u.o).2,Q.o,QK.o⟩,rfl⟩
     ·simp [intOf];omega
    ·rw [OB p];have u:=aa p;clear p;go_wp2_with fail;go_roundw
     ·(repeat apply Exists.intro);exact ⟨⟨i+1,j+1,R.set i v,by go_num,by go_num,by omega,O,by rw [List.length_set];exact HR.o,(a7.o u.o).1,(a7.o u.o).2,by have:=(Q.o.stored i (OH (v:Nat))).1;rwa [ET] at this,Keep.setCell (S:=fun j=>j=g) QK.o (ar g i) (.inr rfl) _⟩,rfl⟩
     ·simp [intOf];omega
   ·obtain rfl:j=N:=ap;have ad:¬(j:Int)<j:=ap;have aM:l.take j=l:=List.take_of_length_le (by rw [U.o];exact NF _);rw [aM] at h1;obtain ⟨HD,Q,QK,HR⟩:=ag h1 J Z hR;clear h1 h2 J Z L hR;have ab:i<=j:=ap;have b8:(i:Int)<=j:=ap;have b5:(i:Int)<=c:=ap;have b0:i<=c:=ap;have aP:¬c=i:=ap;have A:(iw l n).length=i:=by rw [<-HD.o,Oi];have:=HR.o;omega
    obtain ⟨zi,a3,a5,_⟩:=fQ.info;have aR:=Lib.run_clear_slice wr 22 3 0 (OH 0) fQ.und (fun Y=>by simp [zeroValue,typeInfo,a3,a5]) rfl rfl g i (j-i) (c-i) ap (fun t ht=>by rw [Q.o.cellAt (i+t) ap,Of (by have:=Q.o.1;omega)];rfl) (fun t ht=>Q.o.frozenAt (i+t));have o9:=mw (List.replicate (j-i) (OH 0)) i wr _ Q.o (by rw [Ol];omega);have T:=Eh o9 ab
    have a2:(((aA .i64 (dU R)).take i++List.replicate (j-i) (Value.int .i64 0)++(aA .i64 (dU R)).drop (i+(List.replicate (j-i) (Value.int .i64 0)).length)).take i)=aA .i64 (dU (iw l n)):=by
     rw [Oj,List.take_append_of_le_length (by rw [Oi,bS,lL,HR.o];omega),List.take_take,Nat.min_self,Bz,HD.o]
    rw [a2] at T;have a1:=QK.o.trans (lq (g:=g) (List.replicate (j-i) (OH 0)) i wr);have HF:=aa (⟨by rw [A],by rw [A];exact T,a1⟩:LO l n base g c Y (.returned (.slice (some (ar g 0)) i c)) _);clear o9 T a2 a1 a3 a5 A;go_wp2_with fail;go_ret;exact HF.o
theorem aV.setPM {H:Nat->Prop} {w y:Qd} {b x:Nat} {i:Inp} {a:MAd} {m:Mst} (h:aV H w b i x a m) (hn:∀k,Mut b a k->¬H k) (hk:Keep (fun k=>k=a.bp\/k=a.bm) w y) (P M:Qa) (oP:y.ownsRow 0 2 1 (.slice (some (ar a.bp 0)) i.start.length a.cp) i.start.length (aA .i64 P)) (oM:y.ownsRow 0 2 1 (.slice (some (ar a.bm 0)) i.start.length a.cm) i.start.length (aA .i64 M)) (wP:P.length=i.start.length/\W64 P) (wM:M.length=i.start.length/\W64 M):aV H y b i x a {m with P:=P,M:=M}:=by
 have he:Ext (aF (gE H b a) w) (aF (gE H b a) y):=aX (hk.mono fun k _ e=>.inl (.inr (e.elim .inl fun e=>.inr (.inl e)))) (fun k _ Z=>Z);have nb:∀{r n c:Nat} {xs:Qc},w.ownsRow 0 2 1 (.slice (some (ar r 0)) n c) n xs->b≠r:=fun o e=>ax h.blk (by decide) o (by rw [e];rfl);have hb:=(hk.block b (NE h.blk) (fun e=>e.elim (nb h.oP) (nb h.oM))).trans h.blk
 have D:∀{r n c:Nat} {ys:Qc} {v:Value} {e:Qf} {size k:Nat} {xs:Qc},w.ownsRow 0 2 1 (.slice (some (ar r 0)) n c) n ys->e≠2->w.ownsRow 0 e size v k xs->∀j,v.ownBlock=some j->j≠r:=fun hr p u j A e=>by
  rcases hr.2 with ⟨B,_⟩ | ⟨r',_,_,B,_,hg,_⟩
  ·cases B
  ·simp only [Ou,Option.some.injEq,Addr.mk.injEq] at B;obtain ⟨⟨V,_⟩,_⟩:=B;exact ax hg (Ne.symm p) u (by rw [A,e,V])
 have u:∀{v:Value} {e:Qf} {size n:Nat} {xs:Qc},e≠2->w.ownsRow 0 e size v n xs->y.ownsRow 0 e size v n xs:=fun p u=>hk.own u (fun j A e=>e.elim (D h.oP p u j A) (D h.oM p u j A));obtain ⟨U,a1,Y,N,O,C,Q⟩:=h.pl;obtain ⟨rows,J,T,I,L⟩:=h.re
 exact ⟨hb,fA h.sh he,eO cQ h.ex he,iq h.sa he,⟨U,a1,Y,N,O,C,ir Q he⟩,aQ h.bu he,aQ h.it he,⟨rows,u (by decide) J,T,I,fun j x R=>cQ (L j x R) he⟩,
  oP,oM,hk.own h.oG (fun j A e=>by cases A;exact e.elim (fun e=>h.dj.2.1 e.symm) (fun e=>h.dj.2.2 e.symm)),u (by decide) h.oO,h.dj,fun k _ hm=>hn k hm,wP,wM,h.wG,h.ox,h.xw⟩
theorem C8 {ra o q:Int} {ps ms g:Qa} {lo k:Nat} (h:W64 ps):W64 (apP ra o q ps ms g lo k):=fJ fun j i=>by
 split
 ·exact gF _
 ·have:=h j i;rw [dd _ _ i];simpa [dd _ _ i] using this
theorem Ks:cY prog 148 2:=⟨⟨_,underlying148,rfl⟩,by kernel_rfl⟩
theorem Iu {H:Nat->Prop} {w:Qd} {b x:Nat} {i:Inp} {a:MAd} {m:Mst} (h:aV H w b i x a m) (hn:∀k,Mut b a k->¬H k) (a0:∀k,w.heap.size<=k->¬H k) (hs:cq i) (y:Itm) (u v:Value) (hu:u.oneCell'=true) (hv:v.oneCell'=true) (bs:y.n<(az i).buks.length) (bi:0<m.op.length) (b5:m.op.length<=1000) (b2: -9223372036854775808<=i.cfg.rate/\i.cfg.rate<=9223372036854775807) (b3: -9223372036854775808<=i.cfg.mom/\i.cfg.mom<=9223372036854775807) (lo B:Nat) (hr:aS (az i).buks y.n=(lo,B)) (c7:lo<B) (cb:B<=i.start.length):Calls prog 228 #[(au b),.agg (bj y).toArray,.agg #[u,v]] w fun e A=>e=.returned (OH 0)/\Did H (fun _=>False) b i x a m w.heap.size (fun _ m1=>m1={m with P:=apP i.cfg.rate i.cfg.mom i.cfg.shift m.P m.M ((m.G.drop lo).take (B-lo)) lo (B-lo),M:=apM i.cfg.mom i.cfg.shift m.M ((m.G.drop lo).take (B-lo)) lo (B-lo),op:=iw m.op y.n}) w A:=by
 have Z:=h.blk;have bz:=hs.n;obtain ⟨W0,W1,ao,ad,g0,g1,T, -⟩:=gn w (bj y).toArray #[u,v] 152 333;have U:=sb Z _ T;have a5:=aQ h.bu (iu (S:=gE H b a) (Keep.below (S:=gE H b a) T));have O:=ez bs;rw [hr] at O;obtain ⟨bb,bo,a4,aR⟩:=a5 _ _ O.1;obtain ⟨b1,bn,e',a2⟩:=a5 _ _ O.2;rw [a4] at e';obtain ⟨rfl,rfl⟩:b1=bb/\bn=bo:=by simpa using e'.symm
 rw [<-Oy] at a2;have t7:∀A,aq W1 A->A.cell? (ar b 7)=some (.slice a.BA (az i).buks.length a.bc):=fun A q=>NH A b 7 _ _ _ (sb U A q);rw [a4] at t7;have s2:∀A,aq W1 A->A.cell? (ar w.heap.size 2)=some (OH (y.n:Nat)):=fun A q=>NH A w.heap.size 2 _ _ _ (sb g0 A q);have d0:=fun A (q:aq W1 A)=>aw q aR;have d1:=fun A (q:aq W1 A)=>aw q a2;have bO:(y.n:Int)<(az i).buks.length:=ap;have cd:¬(y.n:Int)<0:=ap;have tl:=sl U;obtain ⟨bl,bh,bf,G0,K1,V,Hn,ab⟩:=ak ao ad U g0 T h hn a0;have q0:=(br W1).drew;clear ao ad g0 g1 T U a5 O Z h hn a0 aR a2 a4 hr;go_enter func228,ntmps228;go_wp2_with fail;rw [bl.o,bh.o];refine HA.g (fun A:Qd=>aq W1 A) ?_;refine HA.t ?_ [0,1,2,3,4,5,6,7,8] q0 ?_;refine HA.v 9 (W1.drew.alloc (.cells #[OH 0,OH 0] 148)) ((au W1.heap.size)) (q0.alloc (NF _) _) ?_;refine HA.st 10 (NG W1.drew _) Ks (fun C e2 k2=>?_);have q2:aq W1 C:=q0.trans (aL k2);refine ⟨q2,HA.d ?_⟩;rw [Ot] at e2;have D:=V.o.mlt;have cf:=K1.o.size;have Q:=sb bf.o C q2;have a7:=sb G0.o C q2;have B2:=bt K1.o q2;have bA:w.heap.size<W1.heap.size:=NE G0.o;have bw:b≠a.bp:=fun e=>ax V.o.blk (by decide) V.o.oP (by rw [e];rfl);have b4:b≠a.bm:=fun e=>ax V.o.blk (by decide) V.o.oM (by rw [e];rfl);have bV:=D a.bp (.inr (.inl rfl));have cl:=D a.bm (.inr (.inr (.inl rfl)));have kb:=fun A (q:Keep (fun k=>k=a.bp\/k=a.bm) C A)=>(q.block b (NE Q) (fun e=>e.elim bw b4)).trans Q;have kx:=fun A (q:Keep (fun k=>k=a.bp\/k=a.bm) C A)=>(q.block W1.heap.size (NE e2) (fun e=>e.elim (fun e=>ap) (fun e=>ap))).trans e2;have r8:∀A,Keep (fun k=>k=a.bp\/k=a.bm) C A->A.cell? (ar b 8)=some (OH i.cfg.rate):=fun A q=>NH A b 8 _ _ _ (kb A q);have r9:∀A,Keep (fun k=>k=a.bp\/k=a.bm) C A->A.cell? (ar b 9)=some (OH i.cfg.mom):=fun A q=>NH A b 9 _ _ _ (kb A q);have bd:∀A,Keep (fun k=>k=a.bp\/k=a.bm) C A->A.cell? (ar b 10)=some (OH i.cfg.shift):=fun A q=>NH A b 10 _ _ _ (kb A q);have b6:∀A,Keep (fun k=>k=a.bp\/k=a.bm) C A->A.cell? (ar b 11)=some (.slice (some (ar a.bp 0)) i.start.length a.cp):=fun A q=>NH A b 11 _ _ _ (kb A q);have bv:∀A,Keep (fun k=>k=a.bp\/k=a.bm) C A->A.cell? (ar b 12)=some (.slice (some (ar a.bm 0)) i.start.length a.cm):=fun A q=>NH A b 12 _ _ _ (kb A q);have be:∀A,Keep (fun k=>k=a.bp\/k=a.bm) C A->A.cell? (ar b 13)=some (.slice (some (ar a.bg 0)) i.start.length a.cg):=fun A q=>NH A b 13 _ _ _ (kb A q);have x0:∀A,Keep (fun k=>k=a.bp\/k=a.bm) C A->A.cell? (ar W1.heap.size 0)=some (OH (lo:Nat)):=fun A q=>NH A _ 0 _ _ _ (kx A q);have x1:∀A,Keep (fun k=>k=a.bp\/k=a.bm) C A->A.cell? (ar W1.heap.size 1)=some (OH (B:Nat)):=fun A q=>NH A _ 1 _ _ _ (kx A q)
 have bX:i.start.length<=a.cg:=by
  obtain ⟨_,_,e,h⟩:=aC V.o.oG;simp only [Ou] at e;omega
 have N:=V.o.below B2 Hn.o
 have hG:Rd C (some (ar a.bg lo)) (aA .i64 ((m.G.drop lo).take (B-lo))):=by
  have:=((Rd.own N.oG).drop lo).take (B-lo)
  rwa [dz,di,Oz] at this
 have a3:=vI i.cfg.rate i.cfg.mom i.cfg.shift 0 i.start.length lo (B-lo) a.cp a.cm (a.cg-lo) (some (ar a.bp 0)) (some (ar a.bm 0)) (some (ar a.bg lo)) m.P m.M ((m.G.drop lo).take (B-lo)) C.drew N.oP.drew N.oM.drew (fun j hj e=>by cases hj;exact N.dj.1 (by simpa [Value.ownBlock] using e.symm))
  hG (by rw [Oi,Om,N.wG.1];omega) ap ap (fun z hz e=>by cases hz;exact N.dj.2.1 (by simpa [Value.ownBlock] using e)) (fun z hz e=>by cases hz;exact N.dj.2.2 (by simpa [Value.ownBlock] using e)) b2 b3 N.wM.2
 rw [show lo+(B-lo)=B by omega] at a3;have cj:(lo:Int)<=B:=ap;have cn:(B:Int)<=a.cg:=ap;have bI:lo<=B:=ap;have bM:B<=a.cg:=ap;have bN:¬a.cg=lo:=ap;have q3:Keep (fun k=>k=a.bp\/k=a.bm) C C.drew:=(Keep.refl _ _).drew;have b7:=fun A (q:Keep (fun k=>k=a.bp\/k=a.bm) C A)=>NQ (NE Q) q.size;have b9:=fun A (q:Keep (fun k=>k=a.bp\/k=a.bm) C A)=>NQ (NE e2) q.size;obtain ⟨b8,M2,b0,KB,GI⟩:=ah a3 N B2 kb a7;clear t7 s2 d0 d1 tl q0 k2 q2 a3 N B2 kb kx Q a7 e2 hG D;go_wp2_with fail;refine HA.g (fun A:Qd=>Keep (fun k=>k=a.bp\/k=a.bm) C A) ?_;refine HA.t ?_ [0,1,2,3,4,5,6,7,8,9,10,11,12,13,14,15,16,17,18] q3 ?_;refine HA.c 19 b8.o ?_;rintro e w4 ⟨rfl,aP,a9,k4⟩;have q4:Keep (fun k=>k=a.bp\/k=a.bm) C w4:=q3.trans (k4.mono fun j _ e=>e.imp (fun e=>by simpa [Value.ownBlock] using e.symm) (fun e=>by simpa [Value.ownBlock] using e.symm));refine ⟨_,rfl,q4,fun _=>?_⟩;refine HA.d ?_;have m4:=M2.o.setPM Hn.o q4 _ _ aP a9 ⟨by rw [nS];exact M2.o.wP.1,C8 M2.o.wP.2⟩ ⟨by rw [nT];exact M2.o.wM.1,xt M2.o.wM.2⟩;have hX:=q4.cell (NH C w.heap.size 2 _ _ _ GI.o) (p:=(ar w.heap.size 2)) (fun e=>e.elim (fun e=>by have:w.heap.size=a.bp:=e;omega) (fun e=>by have:w.heap.size=a.bm:=e;omega));obtain ⟨g,c,I,c6⟩:=m4.oO.form bi;have c8:=V.o.mlt g (.inr (.inr (.inr (.inr (.inr (by rw [I];rfl))))));have R:=m4.oO;rw [I] at R;have Y:=Jn g c w.heap.size y.n 0 m.op w4 R b5 hX ap;have L:=m4.blk;have aG:b≠g:=fun e=>ax L (by decide) R (by rw [e];rfl);have c9:w4.cell? (ar b 18)=some (.slice (some (ar g 0)) m.op.length c):=by rw [<-I];exact NH w4 b 18 _ _ _ L
 have ci:=NE L;obtain ⟨H4,av,aM,Q4,a6⟩:=ah m4 Y L q4 I;clear m4 hX Y L q4 I R aP a9 k4 r8 r9 bd b6 bv be x0 x1 b7 b9 q3;go_wp2_with fail;refine av.o.mono ?_;rintro e w5 ⟨rfl,o5,k5⟩;have g5:=(k5.block b (NE aM.o) aG).trans aM.o;have bG:w5.cell? (ar b 18)=some a.ov:=NH w5 b 18 _ _ _ g5;have cc:=NS w5 b 18 _ _ g5;have l5:=NE g5;have e6:=ss (i:=18) (v:=.slice (some (ar g 0)) (iw m.op y.n).length c) g5 rfl;have k6:Keep (fun k=>k=b) w5 (w5.setCell (ar b 18) (.slice (some (ar g 0)) (iw m.op y.n).length c)):=Keep.setCell (S:=fun k=>k=b) (Keep.refl _ _) _ (.inr rfl) _;have o6:=k6.own o5 (fun j hj e=>by cases hj;exact aG e.symm);have a1:Keep (fun k=>k=b\/a.ov.ownBlock=some k) w4 (w5.setCell (ar b 18) (.slice (some (ar g 0)) (iw m.op y.n).length c)):=(k5.mono fun k _ e=>.inr (by rw [a6.o,e];rfl)).trans (k6.mono fun k _ e=>.inl e);have a8:w.heap.size<=w4.heap.size:=NN b0.o.size Q4.o.size;have J:=H4.o.setO Hn.o (fun k hk=>ab.o k (NN a8 hk)) (.slice (some (ar g 0)) (iw m.op y.n).length c) (iw m.op y.n) a1 e6 o6 (fun k hk=>.inl (by rw [a6.o];exact hk));have HF:=aa (⟨_,_,J.1,rfl,rfl,((Keep.below b0.o).trans (Q4.o.sub fun k e=>.inl (.inr (e.elim .inl fun e=>.inr (.inl e))))).trans (a1.sub fun k e=>.inl (e.elim .inl fun e=>.inr (.inr (.inr (.inr (.inr e)))))),fun k hk=>(J.2 k hk).imp id (fun h=>NN a8 h),⟨rfl,rfl,rfl⟩,rfl⟩:Did H (fun _=>False) b i x a m w.heap.size (fun _ m1=>m1={m with P:=apP i.cfg.rate i.cfg.mom i.cfg.shift m.P m.M ((m.G.drop lo).take (B-lo)) lo (B-lo),M:=apM i.cfg.mom i.cfg.shift m.M ((m.G.drop lo).take (B-lo)) lo (B-lo),op:=iw m.op y.n}) w _);clear J a1 e6 k6 o6 o5 k5 g5;go_wp2_with fail;go_ret;exact ⟨rfl,HF.o⟩
theorem Did.older {H G:Nat->Prop} {b:Nat} {i:Inp} {x:Nat} {a:MAd} {m:Mst} {n o:Nat} {T:Qd->Mst->Prop} {w p:Qd} (h:Did H G b i x a m n T w p) (hn:o<=n):Did H G b i x a m o T w p:=by
 obtain ⟨a1,m1,h1,v,B,y,A,u⟩:=h;exact ⟨a1,m1,h1,v,B,y,fun k hk=>(A k hk).imp id fun e=>NN hn e,u⟩
theorem Br {H:Nat->Prop} {w:Qd} {b x:Nat} {i:Inp} {a:MAd} {m:Mst} (h:aV H w b i x a m) (hn:∀k,Mut b a k->¬H k) (o:∀k,w.heap.size<=k->¬H k) (hs:cq i) {y:Itm} (B:(cK i x m.st)[m.nx]?=some y) (hk:y.kind=2) (hl:m.op.length<=1000) (u v:N_):Calls prog 216 #[(au b),.pointer u,.pointer v] w fun e p=>e=.returned (OH 0)/\zK H (fun _=>False) b i x a m (fun _ m1=>m1={m with op:=m.op++[y.n]}) w p:=by
 refine (my h hn o (G:=fun _=>False) (fun _ h=>h.elim) hs B u v 225 (fun p=>by rw [hk];kernel_rfl) (fun args w=>by kernel_rfl) (fun _=>False) (fun _ m1=>m1={m with op:=m.op++[y.n]}) (fun _ _ _ h _=>h) (fun p q=>?_)).mono ?_
 ·refine (yN (h.below q hn) hn (fun k hk=>o k (NN q.size hk)) hl y (.pointer u) (.pointer v) rfl rfl).mono ?_;rintro e D ⟨rfl,A⟩;exact .inl ⟨rfl,A.older q.size⟩
 ·rintro e p (⟨rfl,A⟩ | ⟨C,_,I,_⟩)
  ·exact ⟨rfl,A⟩
  ·exact I.elim
theorem Bq {H:Nat->Prop} {w:Qd} {b x:Nat} {i:Inp} {a:MAd} {m:Mst} (h:aV H w b i x a m) (hn:∀k,Mut b a k->¬H k) (o:∀k,w.heap.size<=k->¬H k) (hs:cq i) {y:Itm} (B:(cK i x m.st)[m.nx]?=some y) (hk:y.kind=6) (hl:m.rc.length<=1000) (u v:N_):Calls prog 216 #[(au b),.pointer u,.pointer v] w fun e p=>e=.returned (OH 0)/\zK H (fun _=>False) b i x a m (fun _ m1=>m1={m with rc:=m.rc++[(m.P,m.M)],G:=List.replicate i.start.length 0}) w p:=by
 refine (my h hn o (G:=fun _=>False) (fun _ h=>h.elim) hs B u v 229 (fun p=>by rw [hk];kernel_rfl) (fun args w=>by kernel_rfl) (fun _=>False) (fun _ m1=>m1={m with rc:=m.rc++[(m.P,m.M)],G:=List.replicate i.start.length 0}) (fun _ _ _ h _=>h) (fun p q=>?_)).mono ?_
 ·refine (yL (h.below q hn) hn (fun k hk=>o k (NN q.size hk)) hs hl y (.pointer u) (.pointer v) rfl rfl).mono ?_;rintro e D ⟨rfl,A⟩;exact .inl ⟨rfl,A.older q.size⟩
 ·rintro e p (⟨rfl,A⟩ | ⟨C,_,I,_⟩)
  ·exact ⟨rfl,A⟩
  ·exact I.elim
theorem KZ {H:Nat->Prop} {w:Qd} {b x:Nat} {i:Inp} {a:MAd} {m:Mst} (h:aV H w b i x a m) (hn:∀k,Mut b a k->¬H k) (p:∀k,w.heap.size<=k->¬H k) (hs:cq i) {y:Itm} (R:(cK i x m.st)[m.nx]?=some y) (hk:y.kind=5) (u v:N_) (D:y.n<(az i).buks.length) (Q:0<m.op.length) (J:m.op.length<=1000) (N: -9223372036854775808<=i.cfg.rate/\i.cfg.rate<=9223372036854775807) (L: -9223372036854775808<=i.cfg.mom/\i.cfg.mom<=9223372036854775807) (lo o:Nat) (hr:aS (az i).buks y.n=(lo,o)) (I:lo<o) (O:o<=i.start.length):Calls prog 216 #[(au b),.pointer u,.pointer v] w fun e A=>e=.returned (OH 0)/\zK H (fun _=>False) b i x a m (fun _ m1=>m1={m with P:=apP i.cfg.rate i.cfg.mom i.cfg.shift m.P m.M ((m.G.drop lo).take (o-lo)) lo (o-lo),M:=apM i.cfg.mom i.cfg.shift m.M ((m.G.drop lo).take (o-lo)) lo (o-lo),op:=iw m.op y.n}) w A:=by
 refine (my h hn p (G:=fun _=>False) (fun _ h=>h.elim) hs R u v 228 (fun A=>by rw [hk];kernel_rfl) (fun args w=>by kernel_rfl) (fun _=>False) (fun _ m1=>m1={m with P:=apP i.cfg.rate i.cfg.mom i.cfg.shift m.P m.M ((m.G.drop lo).take (o-lo)) lo (o-lo),M:=apM i.cfg.mom i.cfg.shift m.M ((m.G.drop lo).take (o-lo)) lo (o-lo),op:=iw m.op y.n}) (fun _ _ _ h _=>h) (fun A q=>?_)).mono ?_
 ·refine (Iu (h.below q hn) hn (fun k hk=>p k (NN q.size hk)) hs y (.pointer u) (.pointer v) rfl rfl D Q J N L lo o hr I O).mono ?_;rintro e T ⟨rfl,B⟩;exact .inl ⟨rfl,B.older q.size⟩
 ·rintro e A (⟨rfl,B⟩ | ⟨C,_,U,_⟩)
  ·exact ⟨rfl,B⟩
  ·exact U.elim
theorem vt {p:Pln} {x st:Nat} {y:Itm} (h:y∈aJ p x st) (hk:y.kind=2\/y.kind=5):∃g∈p.grps,g.1<=y.n/\y.n<g.2:=by
 unfold aJ at h;simp only [Ov,List.mem_map,List.mem_flatMap,List.mem_singleton,List.mem_range] at h;rcases h with (⟨k,i,rfl⟩ | ⟨g,hg,h⟩) | rfl
 ·rcases hk with hk | hk<;>cases hk
 ·refine ⟨g,hg,?_⟩;unfold du at h;simp only [Ov,List.mem_map,List.mem_flatMap,List.mem_range'_1] at h;rcases h with (⟨j,o,rfl⟩ | ⟨_,_,_,_,_,_,h⟩) | ⟨j,o,rfl⟩
  ·show g.1<=j/\j<g.2
   omega
  ·unfold cz at h;obtain ⟨c,_,rfl⟩:=List.mem_map.1 h;unfold ip at hk;rcases hk with hk | hk<;>(split at hk<;>cases hk)
  ·show g.1<=j/\j<g.2
   omega
 ·rcases hk with hk | hk<;>cases hk
end Go.Proofs.YtgmajkppbhiopaaGreat
