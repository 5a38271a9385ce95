/- No condition. -/
import Derived.Test.YtindmkcnjlgomaaGreatR06
import Derived.Lib.SliceRun
set_option linter.unusedSimpArgs false
set_option linter.unusedVariables false
set_option maxRecDepth 100000
set_option maxHeartbeats 4000000
namespace Go.Proofs.YtindmkcnjlgomaaGreat
open Go.RowKit
open Tryz
theorem di {w h:N5} {o:Obj} (k:Keep (λj=>j=w.heap.size) (w.alloc o) h):ap w h:= ((br w).alloc (F3 _) o).trans (k.toBelow (by rw [Gp];omega) (λj i=>ao))
theorem AD:eC prog 322 13:=⟨⟨_,underlying322,rfl⟩,by kernel_rfl⟩
theorem AE:eC prog 319 7:=⟨⟨_,underlying319,rfl⟩,by kernel_rfl⟩
theorem oa (w:N5):Calls prog 209 #[] w λe p=>e=.returned (.agg Ia)/\ap w p:=by
 go_enter func209,ntmps209;go_wp2_with (refine dx (F4 _ _) AE rfl rfl rfl rfl rfl rfl rfl ?_;intro x i h;obtain ⟨u,v⟩:=ab i (di h);clear i h);exact Gm (sy rfl rfl u.o AE) rfl ⟨rfl,v.o⟩
def adv (i:Inp) (x:Nat) (m:Mst):Mst:=if m.nx+1<(bq i x m.st).length then {m with nx:=m.nx+1} else {m with st:=m.st+1,nx:=0}
theorem aH.upd {H:Nat->Prop} {w p:N5} {b x:Nat} {i:Inp} {a:MAd} {m:Mst} (h:aH H w b i x a m) (hn:∀k,Mut b a k->¬H k) (hk:Keep (λk=>k=b) w p) (st nx:Nat) (IA:N0) (ic:Nat) (hb:p.heap[b]?=some (.cells #[H8 (x:Nat),H8 i.cfg.workers,H8 i.cfg.micros,.pointer (some ⟨({a with IA:=IA,ic:=ic}:MAd).F,0,none⟩),.slice ({a with IA:=IA,ic:=ic}:MAd).E i.data.length ({a with IA:=IA,ic:=ic}:MAd).ce,.pointer (some ⟨({a with IA:=IA,ic:=ic}:MAd).S,0,none⟩),.pointer (some ⟨({a with IA:=IA,ic:=ic}:MAd).PP,0,none⟩),.slice ({a with IA:=IA,ic:=ic}:MAd).BA (au i).buks.length ({a with IA:=IA,ic:=ic}:MAd).bc,H8 i.cfg.rate,H8 i.cfg.mom,H8 i.cfg.shift,.slice (some ⟨({a with IA:=IA,ic:=ic}:MAd).bp,0,none⟩) i.start.length ({a with IA:=IA,ic:=ic}:MAd).cp,.slice (some ⟨({a with IA:=IA,ic:=ic}:MAd).bm,0,none⟩) i.start.length ({a with IA:=IA,ic:=ic}:MAd).cm,.slice (some ⟨({a with IA:=IA,ic:=ic}:MAd).bg,0,none⟩) i.start.length ({a with IA:=IA,ic:=ic}:MAd).cg,.slice (some ⟨({a with IA:=IA,ic:=ic}:MAd).rb,0,none⟩) ({m with st:=st,nx:=nx}:Mst).rc.length ({a with IA:=IA,ic:=ic}:MAd).rc,.slice ({a with IA:=IA,ic:=ic}:MAd).IA (bq i x ({m with st:=st,nx:=nx}:Mst).st).length ({a with IA:=IA,ic:=ic}:MAd).ic,H8 (({m with st:=st,nx:=nx}:Mst).nx:Nat),H8 (bR i x {m with st:=st,nx:=nx}:Nat),({a with IA:=IA,ic:=ic}:MAd).ov] 169 (0,0))) (hit:Rd (aW (eJ H b a) p) IA (dF (bq i x st))) (ox:nx<(bq i x st).length\/(nx=0/\i.cfg.steps.toNat<=st)):aH H p b i x {a with IA:=IA,ic:=ic} {m with st:=st,nx:=nx}:=by
 have he:Ext (aW (eJ H b a) w) (aW (eJ H b a) p):=dN (hk.mono λk _ e=>.inl (.inl e)) (λk _ L=>L);have o:∀{v:Value} {e size n xs},e≠169->w.ownsRow 0 e size v n xs->p.ownsRow 0 e size v n xs:=λy o=>hk.own o (λj N e=>aw h.blk (Ne.symm y) o (by rw [N,e]));obtain ⟨D,a1,J,Q,R,u,C⟩:=h.pl;obtain ⟨rows,O,A,I,B⟩:=h.re
 exact ⟨hb,dB h.sh he,iW cQ h.ex he,fa h.sa he,⟨D,a1,J,Q,R,u,fd C he⟩,a9 h.bu he,hit,⟨rows,o (by decide) O,A,I,λj x T=>cQ (B j x T) he⟩,
  o (by decide) h.oP,o (by decide) h.oM,o (by decide) h.oG,o (by decide) h.oO,h.dj,λk _ hm=>hn k hm,h.wP,h.wM,h.wG,ox,h.xw⟩
theorem m7 {i:Inp} (o:bj i) {x st nx:Nat} (h:nx<(bq i x st).length):st<i.cfg.steps.toNat/\(bq i x st).length=(aB (au i) x 0).length:=by
 unfold bq at h ⊢;by_cases hc:st<i.cfg.steps.toNat
 ·rw [if_pos hc];exact ⟨hc,gw o.ok x st⟩
 ·rw [if_neg hc] at h;simp at h
theorem oU (i:Inp) (x:Nat) (m:Mst):bR i x {m with st:=m.st,nx:=m.nx+1}=bR i x m+1:=rfl
theorem oT {i:Inp} (o:bj i) {x:Nat} {m:Mst} (h:m.nx+1=(bq i x m.st).length):bR i x {m with st:=m.st+1,nx:=0}=bR i x m+1:=by
 have:=(m7 o (x:=x) (st:=m.st) (nx:=m.nx) ao).2;simp only [bR,GW];omega
theorem yW {p:Pln} {x st:Nat} {y:Itm} (h:y∈aB p x st):y.st=st:=by
 unfold aB at h;simp only [GU,List.mem_map,List.mem_flatMap,List.mem_singleton] at h;rcases h with (⟨_,_,rfl⟩ | ⟨g,_,h⟩) | rfl
 ·rfl
 ·unfold b9 at h;simp only [GU,List.mem_map,List.mem_flatMap] at h;rcases h with (⟨_,_,rfl⟩ | ⟨_,_,_,_,_,_,h⟩) | ⟨_,_,rfl⟩
  ·rfl
  ·unfold aU at h;obtain ⟨_,_,rfl⟩:=List.mem_map.1 h;rfl
  ·rfl
 ·rfl
theorem vz {i:Inp} {x st nx:Nat} {y:Itm} (h:(bq i x st)[nx]?=some y):y.st=st:=by
 unfold bq at h;by_cases hc:st<i.cfg.steps.toNat
 ·rw [if_pos hc] at h;exact yW (List.mem_of_getElem? h)
 ·rw [if_neg hc] at h;simp at h
theorem Cx {i:Inp} (o:bj i) {x:Nat} {m:Mst} (h:m.nx<(bq i x m.st).length):bR i x m+1<=48000000:=by
 obtain ⟨B,y⟩:=m7 o h;have p:=qt o.ok x 0;have u:m.st<=5:=by have:=o.s;omega
 have C:=Nat.mul_le_mul u p;have v:m.st*(aB (au i) x 0).length+(aB (au i) x 0).length=(m.st+1)*(aB (au i) x 0).length:=(GW _ _).symm;have A:=Nat.mul_le_mul (show m.st+1<=6 by omega) p;simp only [bR];omega
theorem aH.mlt {H:Nat->Prop} {w:N5} {b x:Nat} {i:Inp} {a:MAd} {m:Mst} (h:aH H w b i x a m):∀k,Mut b a k->k<w.heap.size:=by
 rintro k (rfl | rfl | rfl | rfl | rfl | hk)
 ·exact F1 h.blk
 ·exact (h.oP.lt _ rfl).2
 ·exact (h.oM.lt _ rfl).2
 ·exact (h.oG.lt _ rfl).2
 ·obtain ⟨rows,o,_⟩:=h.re;exact (o.lt _ rfl).2
 ·exact (h.oO.lt _ hk).2
theorem yi {w:N5} {P x:Nat} {i:Inp} {u a1 B D H h:Value} (I:dq w P (au i) u a1 B D H (H8 (i.cfg.steps.toNat:Nat)) h) (J:bj i) (L:x<(au i).W) (st:Nat):Calls prog 74 #[(ar P),H8 x,H8 (st:Nat)] w λe p=>∃A c,e=.returned (.slice A (bq i x st).length c)/\Rd p A (dF (bq i x st))/\(∀y,A=some y->w.heap.size<=y.block)/\ap w p:=by
 unfold bq;by_cases hc:st<i.cfg.steps.toNat
 ·rw [if_pos hc];refine (qc (au i) P x st i.cfg.steps.toNat u a1 B D H h w J.ok J.n1 L hc I).mono ?_;rintro e p ⟨v,rfl,o,k⟩;obtain ⟨A,c,rfl,_⟩:=aE o;exact ⟨A,c,rfl,Rd.own o,λy C=>(et o y C).1,k⟩
 ·rw [if_neg hc];refine (qb (au i) P x st i.cfg.steps.toNat u a1 B D H h w L ao I).mono ?_;rintro e p ⟨rfl,rfl⟩;exact ⟨none,0,rfl,Rd.nil _ _,(λy C=>by cases C),br w⟩
def Fxd (a a1:MAd):Prop:=a1.bp=a.bp/\a1.bm=a.bm/\a1.bg=a.bg
def Did (H G:Nat->Prop) (b:Nat) (i:Inp) (x:Nat) (a:MAd) (m:Mst) (n:Nat) (T:N5->Mst->Prop) (w h:N5):Prop:=∃a1 m1,aH H h b i x a1 m1/\m1.st=m.st/\m1.nx=m.nx/\Keep (λk=>Mut b a k\/G k) w h/\(∀k,Mut b a1 k->Mut b a k\/n<=k)/\Fxd a a1/\T h m1
def FX (G:Nat->Prop) (b:Nat) (i:Inp) (x:Nat) (a:MAd) (m:Mst) (n:Nat) (T:(Nat->Prop)->N5->Mst->Prop) (w h:N5):Prop:=∃H a1 m1,aH H h b i x a1 m1/\(∀k,Mut b a1 k->¬H k)/\(∀k,h.heap.size<=k->¬H k)/\m1.st=m.st/\m1.nx=m.nx/\Keep (λk=>Mut b a k\/G k) w h/\(∀k,Mut b a1 k->Mut b a k\/n<=k)/\Fxd a a1/\T H h m1
def tV (H G:Nat->Prop) (b:Nat) (i:Inp) (x:Nat) (a:MAd) (m:Mst) (T:N5->Mst->Prop) (w h:N5):Prop:=∃o m1,aH H h b i x o (adv i x m1)/\m1.st=m.st/\m1.nx=m.nx/\Keep (λk=>Mut b a k\/G k) w h/\(∀k,Mut b o k->Mut b a k\/w.heap.size<=k)/\Fxd a o/\T h m1
def Dd (G:Nat->Prop) (b:Nat) (i:Inp) (x:Nat) (a:MAd) (m:Mst) (T:(Nat->Prop)->N5->Mst->Prop) (w h:N5):Prop:=∃H o m1,aH H h b i x o (adv i x m1)/\(∀k,Mut b o k->¬H k)/\(∀k,h.heap.size<=k->¬H k)/\m1.st=m.st/\m1.nx=m.nx/\Keep (λk=>Mut b a k\/G k) w h/\(∀k,Mut b o k->Mut b a k\/w.heap.size<=k)/\Fxd a o/\T H h m1
theorem sV {H G:Nat->Prop} {w:N5} {b x:Nat} {i:Inp} {a:MAd} {m:Mst} (h:aH H w b i x a m) (hn:∀k,Mut b a k->¬H k) (b2:∀k,w.heap.size<=k->¬H k) (bG:∀k,G k->k<w.heap.size) (hs:bj i) {y:Itm} (hy:(bq i x m.st)[m.nx]?=some y) (u v:N0) (f:Nat) (hf:∀p,Sem.run prog (Instr.index 319 (.agg Ia) (H8 (y.kind:Nat))) p=.ok (.func (.func f) #[] #[]) p) (cs:∀args w,(callFunc f args).run prog w=.ok (.enter f args) w) (FP:Int->Prop) (T:(Nat->Prop)->N5->Mst->Prop) (hT:∀H1 B w2 m1,T H1 B m1->Keep (λk=>k=b) B w2->T H1 w2 m1) (hd:∀p,ap w p->Calls prog f #[(ar b),.agg (aX y).toArray,.agg #[.pointer u,.pointer v]] p λe cd=>(e=.returned (H8 0)/\FX G b i x a m w.heap.size T p cd)\/(∃C:Int,C≠0/\FP C/\e=.returned (H8 C)/\ap p cd)):Calls prog 204 #[(ar b),.pointer u,.pointer v] w λe p=>(e=.returned (H8 0)/\Dd G b i x a m T w p)\/(∃C:Int,C≠0/\FP C/\e=.returned (H8 C)/\ap w p):=by
 have N:=qm h hy;have bz:=wU y;obtain ⟨k0,k1,k2,b0,b1,i0,i1,i2,i3,i4,i5,i6,a8⟩:=DV y;have e0:(y.kind:Int)=k0:=by have:=a8;simp only [aX,List.cons.injEq,Value.int.injEq,true_and] at this;exact this.1
 have e1:(y.st:Int)=k1:=by have:=a8;simp only [aX,List.cons.injEq,Value.int.injEq,true_and] at this;exact this.2.1
 rw [a8] at N hd;rw [e0] at hf;have co:=(GF.1 hy).1;have aP:=h.mlt;obtain ⟨ds,Hd,Hf,cS,HM,HT,d7,Hn⟩:=aj N hd hf cs h hT co hn;obtain ⟨dA,Hs,E1,Hy,d2,dk⟩:=ah b2 hs e1 hy aP bG;clear aP bG N hd hf cs h hT co hn b2 bz a8 e0 e1 hs hy;go_enter func204,ntmps204;go_wp2_with fail;refine ds.o.mono ?_;rintro e B ⟨rfl,q1⟩;have g2:=F4 B (.cells #[H8 k0,H8 k1,H8 k2,.bool b0,.bool b1,H8 i0,H8 i1,H8 i2,H8 i3,H8 i4,H8 i5,H8 i6] 135);have q2:ap w (B.alloc (.cells #[H8 k0,H8 k1,H8 k2,.bool b0,.bool b1,H8 i0,H8 i1,H8 i2,H8 i3,H8 i4,H8 i5,H8 i6] 135)):=q1.alloc q1.size _;obtain ⟨W2,bV⟩:∃W2,B.alloc (.cells #[H8 k0,H8 k1,H8 k2,.bool b0,.bool b1,H8 i0,H8 i1,H8 i2,H8 i3,H8 i4,H8 i5,H8 i6] 135)=W2:=⟨_,rfl⟩;rw [bV] at g2 q2;have hX:w.heap.size<=B.heap.size:=q1.size;go_wp2_with fail;clear bV q1;obtain ⟨G2,Q2⟩:=ab g2 q2;have t0:∀p,ap W2 p->p.cell? (aq B.heap.size 0)=some (H8 k0):=λp q=>Ga p B.heap.size 0 _ _ _ (sb g2 p q);have tl:=sl g2;clear g2 q2;have b8:=λp=>Hf.o p
 go_cut [9] (λv wx=>∃J,v=(ar J)/\wx.heap[J]?=some (.cells #[H8 k0,H8 k1,H8 k2,.bool b0,.bool b1,H8 i0,H8 i1,H8 i2,H8 i3,H8 i4,H8 i5,H8 i6,.func (.func f) #[] #[]] 322 (0,0))/\ap W2 wx)
 case first=>
  refine HA.g (λp:N5=>ap W2 p) ?_;have q3:=(br W2).drew;refine HA.ld 0 #[H8 k0,H8 k1,H8 k2,.bool b0,.bool b1,H8 i0,H8 i1,H8 i2,H8 i3,H8 i4,H8 i5,H8 i6] (λp q=>sb G2.o p q) wl q3 ?_;refine HA.t ?_ [2,3] q3 ?_;refine HA.two 1 6 ?_ ?_
  ·refine HAS.c (oa _) ?_;rintro e D ⟨rfl,k3⟩;have q4:=q3.trans (k3.mono q3.size);refine ⟨_,rfl,q4,λ_=>?_⟩;refine HA.t ?_ [4,5] q4 ?_;refine HA.v 6 (D.alloc (.cells Ib 322)) ((ar D.heap.size)) (q4.alloc q4.size _) ?_;refine HA.st 7 (F4 D _) AD (λR e9 k9=>?_);have q9:=q4.trans ((di k9).mono q4.size);refine ⟨q9,HA.d ?_⟩;obtain ⟨E9,Q9⟩:=ab e9 q9;clear e9 k9 q9 q4 q3 k3 b8 t0 tl;go_wp2_with fail;go_meet;exact ⟨_,rfl,E9.o,Q9.o⟩
  ·refine HAS.v (W2.drew.alloc (.cells Ib 322)) ((ar W2.heap.size)) (q3.alloc (F3 _) _) ?_;have gJ:=F4 W2.drew (.cells Ib 322);rw [GS] at gJ;have q4:=q3.alloc (F3 _) (.cells Ib 322);obtain ⟨W3,cf⟩:∃W3,W2.drew.alloc (.cells Ib 322)=W3:=⟨_,rfl⟩;rw [cf] at gJ q4 ⊢;clear cf;refine HA.c 1 (oa _) ?_;rintro e D ⟨rfl,k3⟩;have q5:=q4.trans (k3.mono q4.size);refine ⟨_,rfl,q5,λ_=>?_⟩;refine HA.t ?_ [4,5] q5 ?_;refine HA.st 7 (sb gJ _ k3) AD (λR e9 k9=>?_);have q9:=q5.trans (k9.toBelow q5.size (λj hj=>by rw [hj];exact F3 _));refine ⟨q9,HA.d ?_⟩;obtain ⟨E9,Q9⟩:=ab e9 q9;clear e9 k9 q9 q4 q5 q3 k3 b8 t0 tl gJ;go_wp2_with fail;go_meet;exact ⟨_,rfl,E9.o,Q9.o⟩
 case rest=>
  obtain ⟨J,rfl,gJ,qJ⟩:=hcut;clear t0 tl b8;have bN:=Ga wc J 12 _ _ _ gJ;have lJ:=F1 gJ;have bw:wc.cell? (aq J 12)=some (.func (.func f) #[] #[]):=bN;clear bN;have GJ:=aa gJ;have cc:=Q2.o.trans (qJ.mono Q2.o.size);obtain ⟨QJ,B0⟩:=ab qJ cc;clear gJ qJ cc;have cv:=cS.o;go_wp2_with (refine eg #[H8 k0,H8 k1,H8 k2,.bool b0,.bool b1,H8 i0,H8 i1,H8 i2,H8 i3,H8 i4,H8 i5,H8 i6] GJ.o wl rfl rfl rfl rfl ?_);refine (Hd.o wc B0.o).mono ?_;rintro e D (⟨rfl,H1,a1,m1,bi,bs,aM,b7,N,hk,cr,bO,ht⟩ | ⟨C,hC,d6,rfl,k3⟩);rotate_left
  ·have eb:(C != 0)=true:=by rw [bne_iff_ne];exact hC
   have K3:=aa (B0.o.trans (k3.mono B0.o.size));clear k3;go_wp2_with fail;go_ret;exact .inr ⟨C,hC,d6,rfl,K3.o⟩
  ·have Q:m1.nx<(bq i x m1.st).length:=by rw [b7,N];exact d7.o
   have d3:=Cx Hs.o Q;obtain ⟨dn,b6⟩:∃dn,bR i x m1=dn:=⟨_,rfl⟩;obtain ⟨il,ak⟩:∃il,(bq i x m1.st).length=il:=⟨_,rfl⟩;have A:=bi.blk;rw [b6] at A d3;rw [ak] at A Q;have lb:=F1 A;have d0:D.cell? (aq b 16)=some (H8 (m1.nx:Nat)):=Ga D b 16 _ _ _ A;have d4:D.cell? (aq b 17)=some (H8 (dn:Nat)):=Ga D b 17 _ _ _ A;have b5:=Gh D b 16 _ _ A;have cA:=Gh D b 17 _ _ A;have e4:IntKind.i64.wrap ((dn:Int)+1)=((dn+1:Nat):Int):=by rw [Gd _ ao];push_cast;rfl
   have dG:il<=8000000:=by rw [<-ak,(m7 Hs.o (x:=x) (st:=m1.st) (nx:=m1.nx) ao).2];exact qt Hs.o.ok x 0
   have e3:IntKind.i64.wrap ((m1.nx:Int)+1)=((m1.nx+1:Nat):Int):=by rw [Gd _ ao];push_cast;rfl
   have g5:=ss2 (i:=17) (j:=16) (v:=H8 ((dn:Int)+1)) (u:=H8 ((m1.nx:Int)+1)) A rfl;have k5:Keep (λk=>k=b) D ((D.setCell (aq b 17) (H8 ((dn:Int)+1))).setCell (aq b 16) (H8 ((m1.nx:Int)+1))):=Keep.setCell (S:=λk=>k=b) (Keep.setCell (S:=λk=>k=b) (Keep.refl _ _) _ (.inr rfl) _) _ (.inr rfl) _;obtain ⟨G5,K5,Z,Hk,bA,Ht,bX,b3⟩:=aj g5 k5 bi hk cr ht bO b7;obtain ⟨ax,a6,a3,bv,I,bh⟩:=ah N bs aM b6 ak Q;clear bi hk cr ht bO b7 N bs aM b6 ak g5 k5 A Q bw lJ cv;go_wp2_with fail;obtain ⟨W5,c8⟩:∃W5,(D.setCell (aq b 17) (H8 ((dn:Int)+1))).setCell (aq b 16) (H8 ((m1.nx:Int)+1))=W5:=⟨_,rfl⟩;have g5:=G5.o;have k5:=K5.o;rw [c8] at g5 k5 ⊢;clear G5 K5 c8 d0 d4 b5 cA;have cw:b<W5.heap.size:=F1 g5;have c7:∀p,ap W5 p->p.cell? (aq b 15)=some (.slice a1.IA (bq i x m1.st).length a1.ic):=λp q=>by rw [I.o];exact Ga p b 15 _ _ _ (sb g5 p q)
   rw [I.o] at c7;have dp:∀p,ap W5 p->p.cell? (aq b 16)=some (H8 ((m1.nx:Int)+1)):=λp q=>Ga p b 16 _ _ _ (sb g5 p q);obtain ⟨G5,K5⟩:=ab g5 k5;clear g5 k5;have q5:=(br W5).drew;refine HA.g (λp:N5=>ap W5 p) ?_;refine HA.t ?_ [0,1,2,3,4,5,6,7,8,9] q5 ?_;refine HA.d ?_;have k6:Keep (λk=>k=b) D W5.drew:=K5.o.drew;have g6:=sb G5.o _ q5;obtain ⟨V,bl⟩:∃V,W5.drew=V:=⟨_,rfl⟩;rw [bl] at k6 g6 ⊢;obtain ⟨G6,K6⟩:=ab g6 k6;have l6:b<V.heap.size:=F1 g6;clear bl q5 c7 dp G5 K5 cw k6 g6;by_cases a4:m1.nx+1=il;rotate_left
   ·have dc:¬(m1.nx:Int)+1=il:=ao;clear a4;go_wp2_with fail;go_ret;have O:adv i x m1={m1 with st:=m1.st,nx:=m1.nx+1}:=if_pos (by rw [I.o];have:=bh.o;omega);have e:((bR i x {m1 with st:=m1.st,nx:=m1.nx+1}:Nat):Int)=(dn:Int)+1:=by rw [oU,bv.o];push_cast;rfl
    have e2:((m1.nx+1:Nat):Int)=(m1.nx:Int)+1:=by push_cast;rfl
    have hb:=G6.o;rw [<-I.o,<-e,<-e2] at hb;have hm:=Z.o.upd a6.o K6.o m1.st (m1.nx+1) a1.IA a1.ic hb (a9 Z.o.it (dN (K6.o.mono λk _ e=>.inl (.inl e)) (λ_ _ h=>h))) (.inl (by rw [I.o];have:=bh.o;omega));refine .inl ⟨rfl,H1,a1,m1,by rw [O];exact hm,a6.o,(λk hk=>a3.o k (Ge K6.o.size hk)),b3.o,ax.o,((Keep.below B0.o).trans Hk.o).trans (K6.o.mono λk _ e=>.inl (.inl e)),bA.o,bX.o,HT.o H1 D V m1 Ht.o K6.o⟩
   ·have dc:(m1.nx:Int)+1=il:=ao;have dv:k1=(m1.st:Int):=by rw [<-E1.o,vz Hy.o,b3.o]
    have ea:m1.st<6:=by have:=(m7 Hs.o (x:=x) (st:=m1.st) (nx:=m1.nx) (by rw [I.o];exact bh.o)).1;have:=Hs.o.s;omega
    have d5:IntKind.i64.wrap ((m1.st:Int)+1)=((m1.st+1:Nat):Int):=by rw [Gd _ ao];push_cast;rfl
    subst dv;have g6:=G6.o;have nw:¬(Mut b a B.heap.size\/G B.heap.size):=λh=>h.elim (λh=>by have:=d2.o _ h;omega) (λh=>by have:=dk.o _ h;omega)
    have d8:B.heap.size<wc.heap.size:=F1 (sb G2.o wc QJ.o);have g3:=(Hk.o.block _ d8 nw).trans (sb G2.o wc QJ.o);have gB:=(K6.o.block B.heap.size (F1 g3) (λe=>nw (.inl (.inl e)))).trans g3;have hS:V.drew.cell? (aq b 6)=some ((ar a1.PP))/\V.drew.cell? (aq b 0)=some (H8 (x:Nat))/\V.drew.cell? (aq B.heap.size 1)=some (H8 (m1.st:Nat))/\Keep (λk=>k=b) D V.drew:=⟨Ga V.drew b 6 _ _ _ g6,Ga V.drew b 0 _ _ _ g6,Ga V.drew B.heap.size 1 _ _ _ gB,K6.o.drew⟩;obtain ⟨e6,e5,e8,ec,e7,dO,c6⟩:=Z.o.pl;have bb:=yi (fd c6 (oK (S:=eJ H1 b a1) (K6.o.drew.mono λk _ e=>.inl (.inl e)))) Hs.o Z.o.xw (m1.st+1);rw [<-d5] at bb;obtain ⟨d9,dw,GB⟩:=ae bb (show V.drew.heap[b]?=_ from g6) (show V.drew.heap[B.heap.size]?=_ from gB);clear a4 g6 gB g3 c6 bb;go_wp2_with fail;refine HA.g (λp:N5=>p.cell? (aq b 6)=some ((ar a1.PP))/\p.cell? (aq b 0)=some (H8 (x:Nat))/\p.cell? (aq B.heap.size 1)=some (H8 (m1.st:Nat))/\Keep (λk=>k=b) D p) ?_;refine HA.t ?_ [0,1,2,3,4,5,6,7,8,9,10,11,12,13,14] hS ?_;refine HA.c 15 d9.o ?_;rintro e w7 ⟨IA,ic,rfl,ci,cj,k7⟩;have g7:=sb dw.o w7 k7;have a7:=sb GB.o w7 k7;have q7:=K6.o.drew.trans (Keep.below (S:=λk=>k=b) k7);refine ⟨_,rfl,⟨Ga w7 b 6 _ _ _ g7,Ga w7 b 0 _ _ _ g7,Ga w7 B.heap.size 1 _ _ _ a7,q7⟩,λcl=>?_⟩;refine HA.t ?_ [16,17] cl ?_;obtain ⟨CL,bn⟩:∃CL,(bq i x (m1.st+1)).length=CL:=⟨_,rfl⟩;rw [bn];have cn:=Ga w7 b 15 _ _ _ g7;have d1:=Gh w7 b 15 _ _ g7;have g8:=ss (i:=15) (v:=.slice IA CL ic) g7 rfl;have a0:Keep (λk=>k=b) w7 (w7.setCell (aq b 15) (.slice IA CL ic)):=Keep.setCell (S:=λk=>k=b) (Keep.refl _ _) _ (.inr rfl) _;have a2:=(a0.block _ (F1 a7) (λe=>nw (.inl (.inl e)))).trans a7;obtain ⟨Y,U⟩:∃Y,w7.setCell (aq b 15) (.slice IA CL ic)=Y:=⟨_,rfl⟩;have a5:Y.cell? (aq b 6)=some ((ar a1.PP))/\Y.cell? (aq b 0)=some (H8 (x:Nat))/\Y.cell? (aq B.heap.size 1)=some (H8 (m1.st:Nat))/\Keep (λk=>k=b) D Y:=⟨by rw [<-U];exact Ga _ b 6 _ _ _ g8,by rw [<-U];exact Ga _ b 0 _ _ _ g8,by rw [<-U];exact Ga _ B.heap.size 1 _ _ _ a2,by rw [<-U];exact q7.trans a0⟩;have c9:w7.cell? (aq b 15)=some (.slice a1.IA il a1.ic):=cn;clear cn;refine HA.s 18 Y a5 ?_;rw [U] at g8 a2 a0;clear U c9 d1;refine HA.t ?_ [19,20] a5 ?_;have bM:Y.cell? (aq b 16)=some (H8 ((m1.nx:Int)+1)):=Ga Y b 16 _ _ _ g8;have b5:=Gh Y b 16 _ _ g8;have g9:=ss (i:=16) (v:=H8 0) g8 rfl;have ad:Keep (λk=>k=b) Y (Y.setCell (aq b 16) (H8 0)):=Keep.setCell (S:=λk=>k=b) (Keep.refl _ _) _ (.inr rfl) _;have cb:=(ad.block _ (F1 a2) (λe=>nw (.inl (.inl e)))).trans a2;obtain ⟨R,L⟩:∃R,Y.setCell (aq b 16) (H8 0)=R:=⟨_,rfl⟩;have b4:R.cell? (aq b 6)=some ((ar a1.PP))/\R.cell? (aq b 0)=some (H8 (x:Nat))/\R.cell? (aq B.heap.size 1)=some (H8 (m1.st:Nat))/\Keep (λk=>k=b) D R:=⟨by rw [<-L];exact Ga _ b 6 _ _ _ g9,by rw [<-L];exact Ga _ b 0 _ _ _ g9,by rw [<-L];exact Ga _ B.heap.size 1 _ _ _ cb,by rw [<-L];exact a5.2.2.2.trans ad⟩;refine HA.s 21 R b4 ?_;refine HA.d ?_;rw [L] at g9;have K9:=b4.2.2.2
    have bI:Rd (aW (eJ H1 b a1) R) IA (dF (bq i x (m1.st+1))):=by
     have cx:Keep (λk=>k=b) w7 R:=by rw [<-L];exact a0.trans ad
     have bo:∀z,IA=some z->¬eJ H1 b a1 z.block:=λz hz hm=>by
      have bd:=cj z hz;have dT:=K6.o.size;have h3:=Hk.o.size;have h0:=B0.o.size;have hw:w.heap.size<=z.block:=by rw [GS] at bd;omega
      rcases hm with hm | hm
      ·have:=Z.o.mlt _ hm;rw [GS] at bd;omega
      ·exact a3.o _ (by rw [GS] at bd;omega) hm
     exact mY (cx.rd ci (λz hz e=>bo z hz (.inl (.inl e)))) bo
    have O:adv i x m1={m1 with st:=m1.st+1,nx:=0}:=if_neg (by rw [I.o];omega);have e:((bR i x {m1 with st:=m1.st+1,nx:=0}:Nat):Int)=(dn:Int)+1:=by rw [oT Hs.o (by rw [I.o];omega),bv.o];push_cast;rfl
    rw [<-bn,<-e] at g9
    have ox:(0:Nat)<(bq i x (m1.st+1)).length\/((0:Nat)=0/\i.cfg.steps.toNat<=m1.st+1):=by
     unfold bq;by_cases hc:m1.st+1<i.cfg.steps.toNat
     ·rw [if_pos hc];exact .inl (fZ _ _ _)
     ·exact .inr ⟨rfl,by omega⟩
    have hm:=Z.o.upd a6.o K9 (m1.st+1) 0 IA ic g9 bI ox;have HF:=aa (⟨H1,{a1 with IA:=IA,ic:=ic},m1,by rw [O];exact hm,a6.o,(λk hk=>a3.o k (Ge K9.size hk)),b3.o,ax.o,((Keep.below B0.o).trans Hk.o).trans (K9.mono λk _ e=>.inl (.inl e)),bA.o,bX.o,HT.o H1 D R m1 Ht.o K9⟩:Dd G b i x a m T w R);clear hm O bI ox e g9 cb ad L b4 K9 a5 cl hS g8 a2 a0 g7 a7 q7 k7 ci cj bM b5;go_wp2_with fail;go_ret;exact .inl ⟨rfl,HF.o⟩
theorem iS {H G:Nat->Prop} {w:N5} {b x:Nat} {i:Inp} {a:MAd} {m:Mst} (h:aH H w b i x a m) (hn:∀k,Mut b a k->¬H k) (p:∀k,w.heap.size<=k->¬H k) (O:∀k,G k->k<w.heap.size) (hs:bj i) {y:Itm} (hy:(bq i x m.st)[m.nx]?=some y) (u v:N0) (f:Nat) (B:∀o,Sem.run prog (Instr.index 319 (.agg Ia) (H8 (y.kind:Nat))) o=.ok (.func (.func f) #[] #[]) o) (Y:∀args w,(callFunc f args).run prog w=.ok (.enter f args) w) (U:Int->Prop) (T:N5->Mst->Prop) (hT:∀D L m1,T D m1->Keep (λk=>k=b) D L->T L m1) (hd:∀o,ap w o->Calls prog f #[(ar b),.agg (aX y).toArray,.agg #[.pointer u,.pointer v]] o λe A=>(e=.returned (H8 0)/\Did H G b i x a m w.heap.size T o A)\/(∃C:Int,C≠0/\U C/\e=.returned (H8 C)/\ap o A)):Calls prog 204 #[(ar b),.pointer u,.pointer v] w λe o=>(e=.returned (H8 0)/\tV H G b i x a m T w o)\/(∃C:Int,C≠0/\U C/\e=.returned (H8 C)/\ap w o):=by
 refine (sV h hn p O hs hy u v f B Y U (λR w m=>R=H/\T w m) (λR D L m1 ht k=>⟨ht.1,hT D L m1 ht.2 k⟩) (λo q=>(hd o q).mono ?_)).mono ?_
 ·rintro e A (⟨he,a1,m1,Q,N,V,I,J,B,Z⟩ | h)
  ·exact .inl ⟨he,H,a1,m1,Q,λk hk=>(J k hk).elim (hn k) (p k),λk hk=>p k (Ge (Ge q.size I.size) hk),N,V,I,J,B,rfl,Z⟩
  ·exact .inr h
 ·rintro e o (⟨he,R,a1,m1,Q, -, -,N,V,I,J,B,rfl,Z⟩ | h)
  ·exact .inl ⟨he,a1,m1,Q,N,V,I,J,B,Z⟩
  ·exact .inr h
theorem aH.setG {H:Nat->Prop} {w y:N5} {b x:Nat} {i:Inp} {a:MAd} {m:Mst} (h:aH H w b i x a m) (hn:∀k,Mut b a k->¬H k) (hk:Keep (λk=>k=a.bg) w y) (G:N1) (oG:y.ownsRow 0 2 1 (.slice (some (aq a.bg 0)) i.start.length a.cg) i.start.length (az .i64 G)) (wG:G.length=i.start.length/\W64 G):aH H y b i x a {m with G:=G}:=by
 have he:Ext (aW (eJ H b a) w) (aW (eJ H b a) y):=dN (hk.mono λk _ e=>.inl (.inr (.inr (.inr (.inl e))))) (λk _ Z=>Z);have hb:=(hk.block b (F1 h.blk) (λe=>aw h.blk (by decide) h.oG (by rw [e];rfl))).trans h.blk;have o:∀{v:Value} {e size n xs},(∀j,v.ownBlock=some j->j≠a.bg)->w.ownsRow 0 e size v n xs->y.ownsRow 0 e size v n xs:=λp o=>hk.own o (λj u e=>p j u e)
 have D:∀{v:Value} {e:N6} {size n:Nat} {xs:N4},e≠2->w.ownsRow 0 e size v n xs->∀j,v.ownBlock=some j->j≠a.bg:=λp o j u e=>by
  rcases h.oG.2 with ⟨A,_⟩ | ⟨r',_,_,A,_,J,_⟩
  ·cases A
  ·simp only [GT,Option.some.injEq,Addr.mk.injEq] at A;obtain ⟨⟨V,_⟩,_⟩:=A;exact aw J (Ne.symm p) o (by rw [u,e,V])
 obtain ⟨U,a1,Y,N,O,B,Q⟩:=h.pl;obtain ⟨rows,C,T,I,L⟩:=h.re
 exact ⟨hb,dB h.sh he,iW cQ h.ex he,fa h.sa he,⟨U,a1,Y,N,O,B,fd Q he⟩,a9 h.bu he,a9 h.it he,⟨rows,o (D (by decide) C) C,T,I,λj x R=>cQ (L j x R) he⟩,
  o (λj u=>by cases u;exact h.dj.2.1) h.oP,o (λj u=>by cases u;exact h.dj.2.2) h.oM,oG,o (D (by decide) h.oO) h.oO,h.dj,λk _ hm=>hn k hm,h.wP,h.wM,wG,h.ox,h.xw⟩
theorem ve {p:Pln} {x st:Nat} {y:Itm} (h:y∈aB p x st) (hk:y.kind=1):y.n<p.mi:=by
 unfold aB at h;simp only [GU,List.mem_map,List.mem_flatMap,List.mem_singleton,List.mem_range] at h;rcases h with (⟨k,i,rfl⟩ | ⟨g,_,h⟩) | rfl
 ·exact i
 ·unfold b9 at h;simp only [GU,List.mem_map,List.mem_flatMap] at h;rcases h with (⟨_,_,rfl⟩ | ⟨_,_,_,_,_,_,h⟩) | ⟨_,_,rfl⟩
  ·cases hk
  ·unfold aU at h;obtain ⟨c,_,rfl⟩:=List.mem_map.1 h;unfold eZ at hk
   split at hk<;>cases hk
  ·cases hk
 ·cases hk
theorem cF {i:Inp} {x st nx:Nat} {y:Itm} (h:(bq i x st)[nx]?=some y):st<i.cfg.steps.toNat/\y∈aB (au i) x st:=by
 unfold bq at h;by_cases hc:st<i.cfg.steps.toNat
 ·rw [if_pos hc] at h;exact ⟨hc,List.mem_of_getElem? h⟩
 ·rw [if_neg hc] at h;simp at h
theorem vm (i:Inp) (P G:N1) (h:W64 G):∀l:N8,W64 (cy i P G l):=by
 intro l
 induction l generalizing G with
 | nil=>exact h
 | cons e l ih=>exact ih _ (pp _ _)
theorem oE {i:Inp} {P:N1} {n:Nat} (l:N8):∀G:N1,G.length=n->(cy i P G l).length=n:=by
 induction l with
 | nil=>intro G h;exact h
 | cons e l ih=>intro G h;exact ih _ (by rw [iE];exact h)
theorem Keep.sub {S S':Nat->Prop} {w i:N5} (h:Keep S w i) (o:∀k,S k->S' k):Keep S' w i:=h.mono λk _ hk=>o k hk
theorem BN {H:Nat->Prop} {w:N5} {b x:Nat} {i:Inp} {a:MAd} {m:Mst} (h:aH H w b i x a m) (hn:∀k,Mut b a k->¬H k) (p:∀k,w.heap.size<=k->¬H k) (L:bj i) {y:Itm} (D:(bq i x m.st)[m.nx]?=some y) (hk:y.kind=1) (u v:N0):Calls prog 204 #[(ar b),.pointer u,.pointer v] w λe B=>e=.returned (H8 0)/\tV H (λ_=>False) b i x a m (λ_ m1=>m1={m with G:=cy i m.P m.G (cz i.data (n9 i x m.st y.n))}) w B:=by
 obtain ⟨Q,O⟩:=cF D;have R:=ve O hk;have o:=vz D;refine (iS h hn p (G:=λ_=>False) (λ_ h=>h.elim) L D u v 212 (λB=>by rw [hk];kernel_rfl) (λargs w=>by kernel_rfl) (λ_=>False) (λ_ m1=>m1={m with G:=cy i m.P m.G (cz i.data (n9 i x m.st y.n))}) (λ_ _ _ h _=>h) (λB q=>?_)).mono ?_
 ·have I:=h.below q hn;refine (yO I L y (.pointer u) (.pointer v) rfl rfl (by rw [o];exact Q) R).mono ?_;rintro e T ⟨rfl,A,J⟩;rw [o] at J;exact .inl ⟨rfl,a,_,I.setG hn A _ J ⟨oE _ _ h.wG.1,vm _ _ _ h.wG.2 _⟩,rfl,rfl,A.sub (λk e=>.inl (.inr (.inr (.inr (.inl e))))),λk hm=>.inl hm,⟨rfl,rfl,rfl⟩,rfl⟩
 ·rintro e B (⟨rfl,N⟩ | ⟨C,_,U,_⟩)
  ·exact ⟨rfl,N⟩
  ·exact U.elim
theorem aH.setO {H:Nat->Prop} {w y:N5} {b x:Nat} {i:Inp} {a:MAd} {m:Mst} (h:aH H w b i x a m) (hn:∀k,Mut b a k->¬H k) (B:∀k,w.heap.size<=k->¬H k) (ov:Value) (op:List Nat) (hk:Keep (λk=>k=b\/a.ov.ownBlock=some k) w y) (hb:y.heap[b]?=some (.cells #[H8 (x:Nat),H8 i.cfg.workers,H8 i.cfg.micros,.pointer (some ⟨({a with ov:=ov}:MAd).F,0,none⟩),.slice ({a with ov:=ov}:MAd).E i.data.length ({a with ov:=ov}:MAd).ce,.pointer (some ⟨({a with ov:=ov}:MAd).S,0,none⟩),.pointer (some ⟨({a with ov:=ov}:MAd).PP,0,none⟩),.slice ({a with ov:=ov}:MAd).BA (au i).buks.length ({a with ov:=ov}:MAd).bc,H8 i.cfg.rate,H8 i.cfg.mom,H8 i.cfg.shift,.slice (some ⟨({a with ov:=ov}:MAd).bp,0,none⟩) i.start.length ({a with ov:=ov}:MAd).cp,.slice (some ⟨({a with ov:=ov}:MAd).bm,0,none⟩) i.start.length ({a with ov:=ov}:MAd).cm,.slice (some ⟨({a with ov:=ov}:MAd).bg,0,none⟩) i.start.length ({a with ov:=ov}:MAd).cg,.slice (some ⟨({a with ov:=ov}:MAd).rb,0,none⟩) m.rc.length ({a with ov:=ov}:MAd).rc,.slice ({a with ov:=ov}:MAd).IA (bq i x m.st).length ({a with ov:=ov}:MAd).ic,H8 (m.nx:Nat),H8 (bR i x m:Nat),({a with ov:=ov}:MAd).ov] 169 (0,0))) (oO:y.ownsRow 0 3 1 ov op.length (az .i64 (dX op))) (hv:∀k,ov.ownBlock=some k->a.ov.ownBlock=some k\/w.heap.size<=k):aH H y b i x {a with ov:=ov} {m with op:=op}/\∀k,Mut b {a with ov:=ov} k->Mut b a k\/w.heap.size<=k:=by
 have u:∀k,Mut b {a with ov:=ov} k->Mut b a k\/w.heap.size<=k:=by
  rintro k (o | o | o | o | o | o)
  ·exact .inl (.inl o)
  ·exact .inl (.inr (.inl o))
  ·exact .inl (.inr (.inr (.inl o)))
  ·exact .inl (.inr (.inr (.inr (.inl o))))
  ·exact .inl (.inr (.inr (.inr (.inr (.inl o)))))
  ·exact (hv k o).imp (λA=>.inr (.inr (.inr (.inr (.inr A))))) id
 have he:Ext (aW (eJ H b a) w) (aW (eJ H b {a with ov:=ov}) y):=dN (hk.mono λk _ e=>.inl (e.imp id λA=>.inr (.inr (.inr (.inr A))))) (λk hl hS=>hS.imp (λo=>(u k o).elim id (λA=>ao)) id)
 have p:∀{v:Value} {e:N6} {size n:Nat} {xs:N4},e≠169->e≠3->w.ownsRow 0 e size v n xs->y.ownsRow 0 e size v n xs:=λo A p=>hk.own p (λj I e=>by
  rcases e with e | e
  ·exact aw h.blk (Ne.symm o) p (by rw [I,e])
  ·rcases h.oO.2 with ⟨C,_⟩ | ⟨L,_,_,C,_,O,_⟩
   ·rw [C] at e;cases e
   ·rw [C] at e;have e3:L=j:=by simpa [Value.ownBlock] using e
    exact aw O (Ne.symm A) p (by rw [I,e3]))
 obtain ⟨Z,a1,a2,R,T,D,U⟩:=h.pl;obtain ⟨rows,N,Y,J,Q⟩:=h.re
 exact ⟨⟨hb,dB h.sh he,iW cQ h.ex he,fa h.sa he,⟨Z,a1,a2,R,T,D,fd U he⟩,a9 h.bu he,a9 h.it he,⟨rows,p (by decide) (by decide) N,Y,J,λj x V=>cQ (Q j x V) he⟩,
  p (by decide) (by decide) h.oP,p (by decide) (by decide) h.oM,p (by decide) (by decide) h.oG,oO,h.dj,λk _ hm=>(u k hm).elim (hn k) (B k),h.wP,h.wM,h.wG,h.ox,h.xw⟩,u⟩
theorem sR {H:Nat->Prop} {w:N5} {b x:Nat} {i:Inp} {a:MAd} {m:Mst} (h:aH H w b i x a m) (hn:∀k,Mut b a k->¬H k) (L:∀k,w.heap.size<=k->¬H k) (hl:m.op.length<=1000) (y:Itm) (u v:Value) (hu:u.oneCell'=true) (hv:v.oneCell'=true):Calls prog 213 #[(ar b),.agg (aX y).toArray,.agg #[u,v]] w λe p=>e=.returned (H8 0)/\Did H (λ_=>False) b i x a m w.heap.size (λ_ m1=>m1={m with op:=m.op++[y.n]}) w p:=by
 have N:=h.blk;obtain ⟨W0,W1,U,R,g0,g1,C, -⟩:=gq w (aX y).toArray #[u,v] 135 324;have I:=sb N _ C;have Q:=aA h.oO C;have nt:=λc cs t' sg (a3:W1.heap[c]?=some (.cells cs t' sg)) (a0:t'≠3) (e:a.ov.ownBlock=some c)=>aw a3 a0 Q e.symm;have kb:=λp (q:Keep (λj=>a.ov.ownBlock=some j) W1 p)=>(q.block b (F1 I) (nt _ _ _ _ I (by decide))).trans I;have k0:=λp (q:Keep (λj=>a.ov.ownBlock=some j) W1 p)=>(q.block w.heap.size (F1 g0) (nt _ _ _ _ g0 (by decide))).trans g0;have a4:∀p,Keep (λj=>a.ov.ownBlock=some j) W1 p->p.cell? (aq b 18)=some a.ov:=λp q=>Ga p b 18 _ _ _ (kb p q);have s2:∀p,Keep (λj=>a.ov.ownBlock=some j) W1 p->p.cell? (aq w.heap.size 2)=some (H8 (y.n:Nat)):=λp q=>Ga p w.heap.size 2 _ _ _ (k0 p q);obtain ⟨a1,a2,KB,O1,K1,HM,Hn,Y⟩:=aj U R kb Q C h hn L;have NT:=aa (nt b _ _ _ I (by decide));have q0:Keep (λj=>a.ov.ownBlock=some j) W1 W1.drew:=(Keep.refl _ _).drew;have a5:w.heap.size<=W1.heap.size:=C.size;clear U R g0 g1 C I Q nt kb k0 N h hn L;go_enter func213,ntmps213;go_wp2_with fail;rw [a1.o,a2.o];refine XA.g 9 (λp:N5=>Keep (λj=>a.ov.ownBlock=some j) W1 p) ?_;refine XA.t ?_ [0,1,2,3,4,5,6] q0 ?_;refine XA.v 7 (W1.drew.alloc (.cells #[H8 (y.n:Nat)] 3)) (.slice (some (aq W1.heap.size 0)) 1 1) (q0.alloc _) ?_;refine XA.o 8 (λK' hK=>?_);have hO:=(O1.o.drew).alloc (.cells #[H8 (y.n:Nat)] 3);refine cZ gT (.tmp 11) (.tmp 14) rfl rfl 0 a.ov m.op.length _ rfl hO (some (aq W1.heap.size 0)) 1 1 [H8 (y.n:Nat)] rfl (λk u hu=>⟨_,_,rfl,by rw [GY,Ga _ W1.heap.size k _ 3 (0,0) (F4 W1.drew _)];simpa using hu⟩) rfl (by simp [Value.oneCell']) ao (by unfold maxLen;omega) (Gc _) ?_;intro V c5 O o5 b5 g5 Z;have q5:=(q0.alloc (.cells #[H8 (y.n:Nat)] 3)).grown g5 (λk hk=>.inr hk);refine hK.out _ _ q5 λ_=>?_;refine XA.e ?_;simp only [GC,GD];have B:=KB.o O q5;have e8:=ss (i:=18) (v:=.slice V (m.op.length+1) c5) B rfl;have k8:Keep (λk=>k=b) O (O.setCell (aq b 18) (.slice V (m.op.length+1) c5)):=Keep.setCell (S:=λk=>k=b) (Keep.refl _ _) _ (.inr rfl) _;have o8:=k8.own o5 (λj hj e=>aw B (by decide) o5 (by rw [hj,e]));have a7:O.cell? (aq b 18)=some a.ov:=Ga O b 18 _ _ _ B;have a6:=Gh O b 18 _ _ B;have l5:=F1 B;have J:Keep (λk=>k=b\/a.ov.ownBlock=some k) w (O.setCell (aq b 18) (.slice V (m.op.length+1) c5)):=((Keep.below K1.o).trans (q5.mono λk _ e=>.inr e)).trans (k8.mono λk _ e=>.inl e);have T:az .i64 (dX m.op)++[H8 (y.n:Nat)]=az .i64 (dX (m.op++[y.n])):=by simp [dX,az]
 rw [T] at o8;have A:(m.op++[y.n]).length=m.op.length+1:=by simp
 rw [<-A] at e8 o8 J
 have D:=HM.o.setO Hn.o Y.o (.slice V (m.op++[y.n]).length c5) (m.op++[y.n]) J e8 o8 (λk hk=>by
  rcases Z with h1 | h1
  ·rw [A] at hk;exact .inl (by rw [<-h1];exact hk)
  ·rw [A] at hk;rw [h1] at hk;exact .inr (by simp at hk;omega))
 have HF:=aa (⟨{a with ov:=.slice V (m.op++[y.n]).length c5},{m with op:=m.op++[y.n]},D.1,rfl,rfl,J.sub (λk e=>.inl (e.elim .inl (λe=>.inr (.inr (.inr (.inr (.inr e))))))),D.2,⟨rfl,rfl,rfl⟩,rfl⟩:Did H (λ_=>False) b i x a m w.heap.size (λ_ m1=>m1={m with op:=m.op++[y.n]}) w _);rw [A] at HF;clear D J T o8 e8 k8 B Z g5 b5 o5 q5 hO q0 a4 s2 hK K' A;go_wp2_with fail;go_ret;exact ⟨rfl,HF.o⟩
theorem iQ {e:N6} {base g n c:Nat}:∀(vs:N4) (o:Nat) (w:N5) (xs:N4),w.ownsRow base e 1 (.slice (some (aq g 0)) n c) n xs->o+vs.length<=n->(w.setCells g o vs).ownsRow base e 1 (.slice (some (aq g 0)) n c) n (xs.take o++vs++xs.drop (o+vs.length))
 | [],o,w,xs,h,_=>by simpa [World.setCells] using h
 | v::vs,o,w,xs,h,hl=>by
  have u:xs.length=n:=by have:=h.1;omega
  simp only [List.length_cons] at hl;have:=iQ vs (o+1) _ _ (h.stored o v).1 ao
  have p:(xs.set o v).take (o+1)=xs.take o++[v]:=by
   rw [List.take_add_one,List.take_set_of_le (F3 o)];simp [show o<xs.length by omega]
  have i:(xs.set o v).drop (o+1+vs.length)=xs.drop (o+(vs.length+1)):=by
   rw [List.drop_set_of_lt ao];congr 1;omega
  rw [p,i] at this;simpa [World.setCells] using this
theorem ii {g:Nat}:∀(vs:N4) (o:Nat) (w:N5),Keep (λj=>j=g) w (w.setCells g o vs)
 | [],_,w=>Keep.refl _ w
 | v::vs,o,w=>(Keep.setCell (S:=λj=>j=g) (Keep.refl _ w) (aq g o) (.inr rfl) v).trans (ii vs (o+1) _)
theorem aH.setR {H:Nat->Prop} {w C:N5} {b x:Nat} {i:Inp} {a:MAd} {m:Mst} (h:aH H w b i x a m) (hn:∀k,Mut b a k->¬H k) (D:∀k,w.heap.size<=k->¬H k) (rb rc:Nat) (e:Ex) (u1 u2:Value) (hk:Keep (λk=>k=b\/k=a.rb) w C) (hb:C.heap[b]?=some (.cells #[H8 (x:Nat),H8 i.cfg.workers,H8 i.cfg.micros,.pointer (some ⟨({a with rb:=rb,rc:=rc}:MAd).F,0,none⟩),.slice ({a with rb:=rb,rc:=rc}:MAd).E i.data.length ({a with rb:=rb,rc:=rc}:MAd).ce,.pointer (some ⟨({a with rb:=rb,rc:=rc}:MAd).S,0,none⟩),.pointer (some ⟨({a with rb:=rb,rc:=rc}:MAd).PP,0,none⟩),.slice ({a with rb:=rb,rc:=rc}:MAd).BA (au i).buks.length ({a with rb:=rb,rc:=rc}:MAd).bc,H8 i.cfg.rate,H8 i.cfg.mom,H8 i.cfg.shift,.slice (some ⟨({a with rb:=rb,rc:=rc}:MAd).bp,0,none⟩) i.start.length ({a with rb:=rb,rc:=rc}:MAd).cp,.slice (some ⟨({a with rb:=rb,rc:=rc}:MAd).bm,0,none⟩) i.start.length ({a with rb:=rb,rc:=rc}:MAd).cm,.slice (some ⟨({a with rb:=rb,rc:=rc}:MAd).bg,0,none⟩) i.start.length ({a with rb:=rb,rc:=rc}:MAd).cg,.slice (some ⟨({a with rb:=rb,rc:=rc}:MAd).rb,0,none⟩) ({m with rc:=m.rc++[e]}:Mst).rc.length ({a with rb:=rb,rc:=rc}:MAd).rc,.slice ({a with rb:=rb,rc:=rc}:MAd).IA (bq i x ({m with rc:=m.rc++[e]}:Mst).st).length ({a with rb:=rb,rc:=rc}:MAd).ic,H8 (({m with rc:=m.rc++[e]}:Mst).nx:Nat),H8 (bR i x m:Nat),({a with rb:=rb,rc:=rc}:MAd).ov] 169 (0,0))) (rows:List (N4)) (r2:rows.length=m.rc.length) (r3:∀r∈rows,r.length=2) (r4:∀j x,m.rc[j]?=some x->rEx (aW (eJ H b a) w) (bH rows j) x) (o':C.ownsRow 0 91 2 (.slice (some (aq rb 0)) (m.rc++[e]).length rc) (m.rc++[e]).length (List.flatten rows++[u1,u2])) (hu:cK C w.heap.size [u1,u2] e) (hv:rb=a.rb\/w.heap.size<=rb):aH H C b i x {a with rb:=rb,rc:=rc} {m with rc:=m.rc++[e]}/\∀k,Mut b {a with rb:=rb,rc:=rc} k->Mut b a k\/w.heap.size<=k:=by
 have J:∀k,Mut b {a with rb:=rb,rc:=rc} k->Mut b a k\/w.heap.size<=k:=by
  rintro k (o | o | o | o | o | o)
  ·exact .inl (.inl o)
  ·exact .inl (.inr (.inl o))
  ·exact .inl (.inr (.inr (.inl o)))
  ·exact .inl (.inr (.inr (.inr (.inl o))))
  ·have a8:k=rb:=o;exact hv.imp (λI=>.inr (.inr (.inr (.inr (.inl (a8.trans I)))))) (λI=>ao)
  ·exact .inl (.inr (.inr (.inr (.inr (.inr o)))))
 have he:Ext (aW (eJ H b a) w) (aW (eJ H b {a with rb:=rb,rc:=rc}) C):=dN (hk.mono λk _ e=>.inl (e.elim .inl λI=>.inr (.inr (.inr (.inr (.inl I)))))) (λk hl hS=>hS.imp (λo=>(J k o).elim id (λI=>ao)) id);obtain ⟨a0,a1,a2,a3,a5,a4,hp⟩:=h.pl;obtain ⟨_,r1,_⟩:=h.re
 have B:∀{v:Value} {e:N6} {size n:Nat} {xs:N4},e≠169->e≠91->w.ownsRow 0 e size v n xs->C.ownsRow 0 e size v n xs:=λo I ho=>hk.own ho (λj R e=>by
  rcases e with e | e
  ·exact aw h.blk (Ne.symm o) ho (by rw [R,e])
  ·rcases r1.2 with ⟨u,_⟩ | ⟨r',_,_,u,_,V,_⟩
   ·cases u
   ·simp only [GT,Option.some.injEq,Addr.mk.injEq] at u;obtain ⟨⟨L,_⟩,_⟩:=u
    exact aw V (Ne.symm I) ho (by rw [R,e,L]))
 obtain ⟨v1,v2,Q,Z,Y,z3,z4,z5,z6⟩:=hu;simp only [List.cons.injEq,and_true] at Q;obtain ⟨rfl,rfl⟩:=Q;obtain ⟨A1,c1,rfl,ad⟩:=aE Z;obtain ⟨T,c2,rfl,a7⟩:=aE Y
 have N:∀{A:N0} {n c:Nat} {xs:N4},C.ownsRow w.heap.size 2 1 (.slice A n c) n xs->∀y,A=some y->¬eJ H b {a with rb:=rb,rc:=rc} y.block:=λO y hy hm=>by
  have o:=(et O y hy).1;rcases hm with hm | hm
  ·rcases hm with hm | hm | hm | hm | hm | hm
   ·have:=h.mlt _ (.inl hm);omega
   ·have:=h.mlt _ (.inr (.inl hm));omega
   ·have:=h.mlt _ (.inr (.inr (.inl hm)));omega
   ·have:=h.mlt _ (.inr (.inr (.inr (.inl hm))));omega
   ·have U:y.block=rb:=hm;rcases o'.2 with ⟨u,_⟩ | ⟨r',_,_,u,_,V,_⟩
    ·cases u
    ·simp only [GT,Option.some.injEq,Addr.mk.injEq] at u;obtain ⟨⟨L,_⟩,_⟩:=u;exact aw V (by decide) O (by rw [hy];show some r'=some y.block;rw [U,L])
   ·have:=h.mlt _ (.inr (.inr (.inr (.inr (.inr hm)))));omega
  ·exact D _ o hm
 refine ⟨⟨hb,dB h.sh he,iW cQ h.ex he,fa h.sa he,⟨a0,a1,a2,a3,a5,a4,fd hp he⟩,a9 h.bu he,a9 h.it he,⟨rows++[[.slice A1 e.1.length c1,.slice T e.2.length c2]],?_,by simp [r2],?_,λj z O=>?_⟩,
  B (by decide) (by decide) h.oP,B (by decide) (by decide) h.oM,B (by decide) (by decide) h.oG,B (by decide) (by decide) h.oO,h.dj,λk _ hm=>(J k hm).elim (hn k) (D k),h.wP,h.wM,h.wG,h.ox,h.xw⟩,J⟩
 ·rw [GQ,List.flatten_cons,List.flatten_nil,List.append_nil];exact o'
 ·intro r hr;rcases GU.1 hr with hr | hr
  ·exact r3 r hr
  ·rw [List.mem_singleton.1 hr];rfl
 ·rcases Gn j m.rc.length with R | R
  ·have p:(m.rc++[e])[j]?=some z:=O;rw [GH R] at p;have L:bH (rows++[[.slice A1 e.1.length c1,.slice T e.2.length c2]]) j=bH rows j:=by simp [bH,GH (show j<rows.length by omega)]
   rw [L];exact cQ (r4 j z p) he
  ·have p:(m.rc++[e])[j]?=some z:=O;have a6:j=m.rc.length:=by have:=(GF.1 p).1;simp at this;omega
   subst a6;simp at p;subst p;have L:bH (rows++[[.slice A1 e.1.length c1,.slice T e.2.length c2]]) m.rc.length=[.slice A1 e.1.length c1,.slice T e.2.length c2]:=by rw [<-r2];simp [bH]
   rw [L];exact ⟨A1,c1,T,c2,rfl,⟨ad,z3,mY (Rd.own Z) (N Z),z5⟩,⟨a7,z4,mY (Rd.own Y) (N Y),z6⟩⟩
theorem zp {w:N5} {g n c:Nat} {xs:N4} (p:N6) (h:w.ownsRow 0 2 1 (.slice (some (aq g 0)) n c) n xs) (hn:0<n): (Builtin.clear_ #[73] p #[.slice (some (aq g 0)) n c]).run prog w=.ok (.tuple #[]) (w.setCells g 0 (List.replicate n (H8 0))):=by
 obtain ⟨i,v,o,_⟩:=iX.info;have hl:=h.1;refine Lib.run_clear_slice w 73 2 p (H8 0) iX.und (λx=>?_) rfl rfl g 0 n c hn (λj u=>?_) (λj u=>?_)
 ·simp [zeroValue,typeInfo,v,o]
 ·rw [GY,h.cellAt j ao,GG ao];rfl
 ·rw [GY];exact h.frozenAt j
theorem sQ {H:Nat->Prop} {w:N5} {b x:Nat} {i:Inp} {a:MAd} {m:Mst} (h:aH H w b i x a m) (hn:∀k,Mut b a k->¬H k) (U:∀k,w.heap.size<=k->¬H k) (hs:bj i) (hl:m.rc.length<=1000) (y:Itm) (u v:Value) (hu:u.oneCell'=true) (hv:v.oneCell'=true):Calls prog 217 #[(ar b),.agg (aX y).toArray,.agg #[u,v]] w λe p=>e=.returned (H8 0)/\Did H (λ_=>False) b i x a m w.heap.size (λ_ m1=>m1={m with rc:=m.rc++[(m.P,m.M)],G:=List.replicate i.start.length 0}) w p:=by
 have D:=h.blk;have b1:=hs.n;have a6:0<i.start.length:=hs.n1;obtain ⟨W0,W1,a3,a2,g0,g1,J, -⟩:=gq w (aX y).toArray #[u,v] 135 324;obtain ⟨rows,r1,r2,r3,r4⟩:=h.re;have O:=sb D _ J;have a1:=aA r1 J
 have nt:b≠a.rb:=λe=>by
  rcases r1.2 with ⟨e',_⟩ | ⟨r',_,_,e',_,hg,_⟩
  ·cases e'
  ·simp only [GT,Option.some.injEq,Addr.mk.injEq] at e';obtain ⟨⟨e1,_⟩,_⟩:=e';rw [e,e1,hg] at D;simp at D
 have kb:=λp (q:Keep (λj=>j=a.rb) W1 p)=>(q.block b (F1 O) nt).trans O;have b0:∀p,Keep (λj=>j=a.rb) W1 p->p.cell? (aq b 14)=some (.slice (some (aq a.rb 0)) m.rc.length a.rc):=λp q=>Ga p b 14 _ _ _ (kb p q);have a7:∀p,Keep (λj=>j=a.rb) W1 p->p.cell? (aq b 11)=some (.slice (some (aq a.bp 0)) i.start.length a.cp):=λp q=>Ga p b 11 _ _ _ (kb p q);have ad:∀p,Keep (λj=>j=a.rb) W1 p->p.cell? (aq b 12)=some (.slice (some (aq a.bm 0)) i.start.length a.cm):=λp q=>Ga p b 12 _ _ _ (kb p q);have a5:=λp (q:ap W1 p)=>gK (some (aq a.bp 0)) (some (aq a.bm 0)) i.start.length a.cp a.cm m.P m.M p (Rd.own (aA (aA h.oP J) q)) (Rd.own (aA (aA h.oM J) q)) h.wP.1 h.wM.1 ao;obtain ⟨aP,ak,KB,R1,K1,Q,Hn,T⟩:=aj a3 a2 kb a1 J h hn U;obtain ⟨NT,ax,R2,R3,R4⟩:=ag nt a5 r2 r3 r4;have q0:Keep (λj=>j=a.rb) W1 W1.drew:=(Keep.refl _ _).drew;have tl:=λp (q:Keep (λj=>j=a.rb) W1 p)=>Gf (F1 O) q.size;clear a3 a2 g0 g1 J O a1 nt kb D h hn U a5 r1 r2 r3 r4;go_enter func217,ntmps217;go_wp2_with fail;rw [aP.o,ak.o];refine XA.g 12 (λp:N5=>Keep (λj=>j=a.rb) W1 p) ?_;refine XA.t ?_ [0,1,2,3,4,5,6,7,8] q0 ?_;refine XA.c 9 (ax.o _ ((br W1).drew)) ?_;rintro e R ⟨A1,c1,V,c2,rfl,bb,b6,o1,o2, -,k3⟩;have b3:ap W1 R:=(br W1).drew.trans k3;have q3:Keep (λj=>j=a.rb) W1 R:=Keep.below b3;refine ⟨_,rfl,q3,λ_=>?_⟩;refine XA.v 10 (R.alloc (.cells #[.slice A1 i.start.length c1,.slice V i.start.length c2] 91)) (.slice (some (aq R.heap.size 0)) 1 1) (q3.alloc _) ?_;refine XA.o 11 (λK' hK=>?_);have hO:=(aA R1.o b3).alloc (.cells #[.slice A1 i.start.length c1,.slice V i.start.length c2] 91);refine cZ Cn (.tmp 11) (.tmp 17) rfl rfl 0 (.slice (some (aq a.rb 0)) m.rc.length a.rc) m.rc.length _ rfl hO (some (aq R.heap.size 0)) 1 1 [.slice A1 i.start.length c1,.slice V i.start.length c2] rfl (λk u hu=>⟨_,_,rfl,by rw [GY,Ga _ R.heap.size k _ 91 (0,0) (F4 R _)];simpa using hu⟩) rfl (by simp [Value.oneCell']) ao (by unfold maxLen;omega) (Gc _) ?_;intro A5 c5 L o5 b5 g5 a0
 have aM:∃g,A5=some (aq g 0):=by
  obtain ⟨g,_,e,_⟩:=o5.form ao;simp only [GT] at e;exact ⟨g,e.1⟩
 obtain ⟨g,rfl⟩:=aM;have q5:=(q3.alloc (.cells #[.slice A1 i.start.length c1,.slice V i.start.length c2] 91)).grown g5 (λk hk=>.inr (by cases hk;rfl));refine hK.out _ _ q5 λ_=>?_;refine XA.e ?_;simp only [GC,GD];have B:=KB.o L q5;have C:(m.rc++[(m.P,m.M)]).length=m.rc.length+1:=by simp
 have e8:=ss (i:=14) (v:=.slice (some (aq g 0)) (m.rc.length+1) c5) B rfl;have k8:Keep (λk=>k=b) L (L.setCell (aq b 14) (.slice (some (aq g 0)) (m.rc.length+1) c5)):=Keep.setCell (S:=λk=>k=b) (Keep.refl _ _) _ (.inr rfl) _;have o8:=k8.own o5 (λj hj e=>aw B (by decide) o5 (by rw [hj,e]));have z1:=ft (o1.alloc (.cells #[.slice A1 i.start.length c1,.slice V i.start.length c2] 91)) hO g5 (by decide);have z2:=ft (o2.alloc (.cells #[.slice A1 i.start.length c1,.slice V i.start.length c2] 91)) hO g5 (by decide);have Y:=aG (base':=w.heap.size) (k8.own z1 (λj hj e=>aw B (by decide) z1 (by rw [hj,e]))) (Ge K1.o.size (br W1).drew.size);have Z:=aG (base':=w.heap.size) (k8.own z2 (λj hj e=>aw B (by decide) z2 (by rw [hj,e]))) (Ge K1.o.size (br W1).drew.size);have b4:L.cell? (aq b 14)=some (.slice (some (aq a.rb 0)) m.rc.length a.rc):=Ga L b 14 _ _ _ B;have b7:=Gh L b 14 _ _ B;have l5:=F1 B;have I:Keep (λk=>k=b\/k=a.rb) w (L.setCell (aq b 14) (.slice (some (aq g 0)) (m.rc.length+1) c5)):=((Keep.below K1.o).trans (q5.mono λk _ e=>.inr e)).trans (k8.mono λk _ e=>.inl e);have N:(L.setCell (aq b 14) (.slice (some (aq g 0)) (m.rc.length+1) c5)).cell? (aq b 13)=some (.slice (some (aq a.bg 0)) i.start.length a.cg):=Ga _ b 13 _ _ _ e8;rw [<-C] at e8 o8 I N
 have a4:cK (L.setCell (aq b 14) (.slice (some (aq g 0)) (m.rc++[(m.P,m.M)]).length c5)) w.heap.size [.slice A1 i.start.length c1,.slice V i.start.length c2] (m.P,m.M):=by
  rw [C];refine ⟨_,_,rfl,?_,?_,?_,?_,Q.o.wP.2,Q.o.wM.2⟩
  ·show World.ownsRow _ _ _ _ _ m.P.length _;rw [Q.o.wP.1];exact Y
  ·show World.ownsRow _ _ _ _ _ m.M.length _;rw [Q.o.wM.1];exact Z
  ·show m.P.length<=_;rw [Q.o.wP.1];omega
  ·show m.M.length<=_;rw [Q.o.wM.1];omega
 have A:=Q.o.setR Hn.o T.o g c5 (m.P,m.M) _ _ I e8 rows R2.o R3.o R4.o o8 a4 (by
  rcases a0 with h1 | h1
  ·left;simpa [Value.ownBlock] using h1
  ·right
   have h2:g=R.heap.size+1:=by simpa [Value.ownBlock] using h1
   have:=K1.o.size;have:=b3.size
   omega)
 rw [C] at A N I;obtain ⟨w8,a8⟩:∃w8,L.setCell (aq b 14) (.slice (some (aq g 0)) (m.rc.length+1) c5)=w8:=⟨_,rfl⟩;rw [a8] at A N I;have b8:b<w8.heap.size:=aC N;have b2:=λty=>zp ty A.1.oG a6;have k9:=ii (g:=a.bg) (List.replicate i.start.length (H8 0)) 0 w8;have o9:=iQ (List.replicate i.start.length (H8 0)) 0 w8 _ A.1.oG (by simp)
 have e9:(az .i64 m.G).take 0++List.replicate i.start.length (Value.int .i64 0)++(az .i64 m.G).drop (0+(List.replicate i.start.length (Value.int .i64 0)).length)=az .i64 (List.replicate i.start.length 0):=by
  rw [List.take_zero,List.nil_append,GN,GY,List.drop_eq_nil_of_le (by rw [aS,Q.o.wG.1];exact F3 _),List.append_nil,gr]
 rw [e9] at o9;have hG:=A.1.setG (λk hk=>(A.2 k hk).elim (Hn.o k) (T.o k)) k9 (List.replicate i.start.length 0) o9 ⟨by simp,Dz _⟩;have HF:=aa (⟨_,_,hG,rfl,rfl,(I.sub (λk e=>.inl (e.elim .inl (λe=>.inr (.inr (.inr (.inr (.inl e)))))))).trans (k9.sub (λk e=>.inl (.inr (.inr (.inr (.inl e)))))),A.2,⟨rfl,rfl,rfl⟩,rfl⟩:Did H (λ_=>False) b i x a m w.heap.size (λ_ m1=>m1={m with rc:=m.rc++[(m.P,m.M)],G:=List.replicate i.start.length 0}) w _);clear hG A I o9 e9 k9 a4 z1 z2 Y Z o8 e8 k8 B a0 g5 b5 o5 q5 hO q0 b0 a7 ad hK K' C o1 o2 k3 b3 q3 tl;go_wp2_with fail;go_ret;exact ⟨rfl,HF.o⟩
theorem Ea (j n:Nat):((j:Int)==(n:Int))=decide (j=n):=by rw [Bool.eq_iff_iff];simp;omega
theorem tD (X n j:Nat) (w:N5) (i:w.cell? (aq X 2)=some (H8 (n:Nat))):Calls prog 226 #[H8 (j:Nat),(ar X)] w λe h=>e=.returned (.bool (decide (j=n)))/\h=w:=by
 go_enter func226,ntmps226;go_wp2_with fail;go_ret;exact ⟨by simp [Ea],rfl⟩
theorem oC {l:List Nat} {k j:Nat} (h:l[k]?=some j):(az .i64 (dX l))[k]?=some (H8 (j:Nat)):=by simp [az,dX,h]
def Fm (l:List Nat) (n:Nat) (w:N5) (e:Ending) (h:N5):Prop:=((∃k,k<l.length/\l[k]?=some n/\(∀j,j<k->l[j]?≠some n)/\e=.returned (H8 (k:Nat)))\/((∀j,j<l.length->l[j]?≠some n)/\e=.returned (H8 (-1))))/\h=w
theorem DU (A:N0) (l:List Nat) (c X n:Nat) (w:N5) (T:Rd w A (az .i64 (dX l))) (hl:l.length<=1000) (Q:w.cell? (aq X 2)=some (H8 (n:Nat))):Calls prog 133 #[.slice A l.length c,.func (.func 226) #[] #[(ar X)]] w (Fm l n w):=by
 have i:=λj=>tD X n j w Q;obtain ⟨N,H⟩:∃N,l.length=N:=⟨_,rfl⟩;have B:∀e J,((∃k,k<N/\l[k]?=some n/\(∀j,j<k->l[j]?≠some n)/\e=.returned (H8 (k:Nat)))\/((∀j,j<N->l[j]?≠some n)/\e=.returned (H8 (-1))))/\J=w->Fm l n w e J:=λe J h=>by rw [<-H] at h;exact h
 rw [H] at hl ⊢;obtain ⟨Y,HA,HN,R⟩:=af i T H B;clear i T H Q B;go_enter func133,ntmps133;go_wp2_with fail
 go_loopw [8] (λy wr=>∃k:Nat,k<=N/\y=H8 k/\(∀j,j<k->l[j]?≠some n)/\wr=w) (λy _=>N-(intOf y).toNat)
 ·exact ⟨0,Gc _,rfl,λj hj=>ao,rfl⟩
 case round=>
  obtain ⟨k,hk,rfl,C,rfl⟩:=hrel;have u:=aa C;clear C;by_cases D:k<N
  ·have L:(k:Int)<N:=ao;have V:¬(k:Int)<0:=ao;have Z:IntKind.i64.wrap ((k:Int)+1)=((k+1:Nat):Int):=by rw [Gd _ ao];push_cast;rfl
   obtain ⟨v,O⟩:∃v,l[k]?=some v:=⟨_,GG (by rw [HN.o];exact D)⟩;obtain ⟨b,o,rfl,x⟩:=HA.o k _ (oC O);have lb:=aC x;have U:=aa O;clear O;go_wp2_with fail;refine (Y.o v).mono ?_;rintro e w2 ⟨rfl,rfl⟩;by_cases p:v=n
   ·subst p;rw [GZ rfl];go_wp2_with fail;go_ret;exact R.o _ _ ⟨.inl ⟨k,D,U.o,u.o,rfl⟩,rfl⟩
   ·rw [G3 p];have I:=aa p;clear p;go_wp2_with fail;go_roundw
    case rel=>
     refine ⟨k+1,by omega,by go_num,λj hj=>?_,trivial⟩;rcases Gn j k with h | h
     ·exact u.o j h
     ·obtain rfl:j=k:=ao;rw [U.o];intro h;exact I.o (by simpa using h)
    case measure=>simp [intOf];omega
  ·have L:¬(k:Int)<N:=ao;obtain rfl:k=N:=ao;go_wp2_with fail;go_ret;exact R.o _ _ ⟨.inr ⟨u.o,rfl⟩,rfl⟩
theorem yr {w:N5} {base g n c k:Nat} {e:N6} {xs:N4} (h:w.ownsRow base e 1 (.slice (some (aq g 0)) n c) n xs) (hk:k<=n):w.ownsRow base e 1 (.slice (some (aq g 0)) k c) k (xs.take k):=by
 have hl:=h.1;rcases h.2 with ⟨i,_⟩ | ⟨B,cap,o,i,x,u,A,v,y,p⟩
 ·cases i
 ·simp only [GT,Option.some.injEq,Addr.mk.injEq] at i;obtain ⟨⟨rfl,_⟩,_,rfl⟩:=i;refine ⟨by rw [GL];omega,.inr ⟨g,c,o,rfl,x,u,by omega,v,y,?_⟩⟩;rw [<-p,List.take_take];congr 1;omega
def eT (l:List Nat) (n:Nat):List Nat:=l.filter λj=>decide (j≠n)
def EC (l:List Nat) (n base g c:Nat) (w:N5) (e:Ending) (h:N5):Prop:=e=.returned (.slice (some (aq g 0)) (eT l n).length c)/\h.ownsRow base 3 1 (.slice (some (aq g 0)) (eT l n).length c) (eT l n).length (az .i64 (dX (eT l n)))/\Keep (λj=>j=g) w h
theorem vg (l:List Nat) (k:Nat):(az .i64 (dX l)).take k=az .i64 (dX (l.take k)):=by simp [az,dX,List.map_take]
theorem yY (l:List Nat) (k v:Nat):(az .i64 (dX l)).set k (H8 (v:Nat))=az .i64 (dX (l.set k v)):=by simp [az,dX,List.map_set]
theorem CA {l R:List Nat} {n i j v:Nat} (o:l[j]?=some v) (u:R.take i=eT (l.take j) n) (p:R.drop j=l.drop j) (x:i<j) (hl:R.length=l.length) (h:v≠n):(R.set i v).take (i+1)=eT (l.take (j+1)) n/\(R.set i v).drop (j+1)=l.drop (j+1):=by
 have y:=(GF.1 o).1;constructor
 ·rw [List.take_add_one,List.take_set_of_le (F3 i),u,List.take_add_one,o];simp [eT,List.filter_append,h,show i<R.length by omega]
 ·rw [List.drop_set_of_lt ao];have:=congrArg (List.drop 1) p;simpa [List.drop_drop] using this
theorem CB {l R:List Nat} {n i j:Nat} (o:l[j]?=some n) (h:R.take i=eT (l.take j) n) (p:R.drop j=l.drop j):R.take i=eT (l.take (j+1)) n/\R.drop (j+1)=l.drop (j+1):=by
 constructor
 ·rw [h,List.take_add_one,o];simp [eT,List.filter_append]
 ·have:=congrArg (List.drop 1) p;simpa [List.drop_drop] using this
theorem CC {l:List Nat} {n:Nat} (h:∀j,j<l.length->l[j]?≠some n):eT l n=l:=by
 refine List.filter_eq_self.2 λx o=>?_;obtain ⟨j,i,rfl⟩:=List.getElem_of_mem o;have:=h j i;rw [GG i] at this;simpa using this
theorem Cz (g c X n base:Nat) (l:List Nat) (w:N5) (V:w.ownsRow base 3 1 (.slice (some (aq g 0)) l.length c) l.length (az .i64 (dX l))) (hl:l.length<=1000) (hX:w.cell? (aq X 2)=some (H8 (n:Nat))) (a8:X≠g):Calls prog 225 #[.slice (some (aq g 0)) l.length c,.func (.func 226) #[] #[(ar X)]] w (EC l n base g c w):=by
 have I:=DU (some (aq g 0)) l c X n w (Rd.own V) hl hX;have B:=λj Y (q:Keep (λj=>j=g) w Y)=>tD X n j Y (q.cell hX a8)
 have a0:l.length<=c:=by
  obtain ⟨_,_,e,h⟩:=aE V;simp only [GT] at e;omega
 obtain ⟨N,hN⟩:∃N,l.length=N:=⟨_,rfl⟩;unfold Fm at I;rw [hN] at I V hl a0 ⊢;have b8:=(V.lt g rfl).2;obtain ⟨aP,Hc,HO,U⟩:=af I B V hN;clear I B V hN hX;go_enter func225,ntmps225;go_wp2_with fail;refine aP.o.mono ?_;rintro e Y ⟨h,rfl⟩;rcases h with ⟨k,aM,hk,C,rfl⟩ | ⟨C,rfl⟩
 rotate_left
 ·have hd:=CC (n:=n) (l:=l) (by rw [U.o];exact C);have HD:=aa hd;clear C hd;go_wp2_with fail;go_ret;refine ⟨by rw [HD.o,U.o];rfl,by rw [HD.o,U.o];exact HO.o,Keep.refl _ _⟩
 ·have bn:¬(k:Int)= -1:=ao;have b5:IntKind.i64.wrap ((k:Int)+1)=((k+1:Nat):Int):=by rw [Gd _ ao];push_cast;rfl
  have h0:l.take k=eT (l.take (k+1)) n:=by
   rw [List.take_add_one,hk];simp only [eT,List.filter_append,Option.toList,List.filter_cons,List.filter_nil];simp only [ne_eq,not_true_eq_false,decide_false,Bool.false_eq_true,if_false,List.append_nil]
   exact (List.filter_eq_self.2 λx hx=>by
    obtain ⟨j,hj,rfl⟩:=List.getElem_of_mem hx;rw [GL] at hj;have:=C j ao;rw [GG ao] at this
    simpa using this).symm
  have H0:=aa h0;clear hk C h0;go_wp2_with fail
  go_loopw [5,6] (λy5 y6 wr=>∃i j:Nat,∃R:List Nat,y5=H8 i/\y6=H8 j/\i<j/\j<=N/\R.length=N/\R.take i=eT (l.take j) n/\R.drop j=l.drop j/\wr.ownsRow base 3 1 (.slice (some (aq g 0)) N c) N (az .i64 (dX R))/\Keep (λj=>j=g) Y wr) (λ_ y _=>N-(intOf y).toNat)
  ·exact ⟨k,k+1,l,rfl,by push_cast;rfl,by omega,aM,U.o,H0.o,rfl,HO.o,Keep.refl _ _⟩
  case round=>
   obtain ⟨i,j,R,rfl,rfl,ad,bs,hR,Z,h2,J,qk⟩:=hrel;have bo:(i:Int)<N:=ao;have bl:¬(i:Int)<0:=ao;have fr:=J.frozenAt i;obtain ⟨ri,L⟩:∃ri,R[i]?=some ri:=⟨_,GG ao⟩;have ci:=J.cellAt i ao;rw [oC L] at ci;have bh:g<wr.heap.size:=(J.lt g rfl).2;by_cases O:j<N
   ·have ax:(j:Int)<N:=ao;have b7:¬(j:Int)<0:=ao;have bd:IntKind.i64.wrap ((i:Int)+1)=((i+1:Nat):Int):=by rw [Gd _ ao];push_cast;rfl
    have b6:IntKind.i64.wrap ((j:Int)+1)=((j+1:Nat):Int):=by rw [Gd _ ao];push_cast;rfl
    obtain ⟨v,hv⟩:∃v,l[j]?=some v:=⟨_,GG (by rw [U.o];exact O)⟩
    have a6:R[j]?=some v:=by
     have:=congrArg (λz=>z[0]?) h2;simpa [List.getElem?_drop,hv] using this
    have cj:=J.cellAt j ao;rw [oC a6] at cj;obtain ⟨b0,Q,QK⟩:=ae (Hc.o v wr qk) J qk;have D:=λh=>CA hv Z h2 ad (hR.trans U.o.symm) h;have H:=λh:v=n=>CB (by rw [<-h];exact hv) Z h2;obtain ⟨a7,a4,HR⟩:=ae D H hR;clear hv a6 Z h2 J qk D H L hR;go_wp2_with fail;refine b0.o.mono ?_;rintro e w2 ⟨rfl,rfl⟩;by_cases p:v=n
    ·rw [GZ p];have u:=aa p;clear p;go_wp2_with fail;go_roundw
     ·(repeat apply Exists.intro);exact ⟨⟨i,j+1,R,rfl,by go_num,by omega,O,HR.o,(a4.o u.o).1,(a4.o u.o).2,Q.o,QK.o⟩,rfl⟩
     ·simp [intOf];omega
    ·rw [G3 p];have u:=aa p;clear p;go_wp2_with fail;go_roundw
     ·(repeat apply Exists.intro);exact ⟨⟨i+1,j+1,R.set i v,by go_num,by go_num,by omega,O,by rw [List.length_set];exact HR.o,(a7.o u.o).1,(a7.o u.o).2,by have:=(Q.o.stored i (H8 (v:Nat))).1;rwa [yY] at this,Keep.setCell (S:=λj=>j=g) QK.o (aq g i) (.inr rfl) _⟩,rfl⟩
     ·simp [intOf];omega
   ·obtain rfl:j=N:=ao;have ax:¬(j:Int)<j:=ao;have b1:l.take j=l:=List.take_of_length_le (by rw [U.o];exact F3 _);rw [b1] at Z;obtain ⟨HD,Q,QK,HR⟩:=af Z J qk hR;clear Z h2 J qk L hR;have ak:i<=j:=ao;have bi:(i:Int)<=j:=ao;have bb:(i:Int)<=c:=ao;have b4:i<=c:=ao;have b2:¬c=i:=ao;have A:(eT l n).length=i:=by rw [<-HD.o,GL];have:=HR.o;omega
    obtain ⟨zi,a3,a5,_⟩:=gT.info;have b3:=Lib.run_clear_slice wr 22 3 0 (H8 0) gT.und (λY=>by simp [zeroValue,typeInfo,a3,a5]) rfl rfl g i (j-i) (c-i) ao (λt ht=>by rw [Q.o.cellAt (i+t) ao,GG (by have:=Q.o.1;omega)];rfl) (λt ht=>Q.o.frozenAt (i+t));have o9:=iQ (List.replicate (j-i) (H8 0)) i wr _ Q.o (by rw [GN];omega);have T:=yr o9 ak
    have a2:(((az .i64 (dX R)).take i++List.replicate (j-i) (Value.int .i64 0)++(az .i64 (dX R)).drop (i+(List.replicate (j-i) (Value.int .i64 0)).length)).take i)=az .i64 (dX (eT l n)):=by
     rw [GM,List.take_append_of_le_length (by rw [GL,aS,yZ,HR.o];omega),List.take_take,Nat.min_self,vg,HD.o]
    rw [a2] at T;have a1:=QK.o.trans (ii (g:=g) (List.replicate (j-i) (H8 0)) i wr);have HF:=aa (⟨by rw [A],by rw [A];exact T,a1⟩:EC l n base g c Y (.returned (.slice (some (aq g 0)) i c)) _);clear o9 T a2 a1 a3 a5 A;go_wp2_with fail;go_ret;exact HF.o
theorem aH.setPM {H:Nat->Prop} {w y:N5} {b x:Nat} {i:Inp} {a:MAd} {m:Mst} (h:aH H w b i x a m) (hn:∀k,Mut b a k->¬H k) (hk:Keep (λk=>k=a.bp\/k=a.bm) w y) (P M:N1) (oP:y.ownsRow 0 2 1 (.slice (some (aq a.bp 0)) i.start.length a.cp) i.start.length (az .i64 P)) (oM:y.ownsRow 0 2 1 (.slice (some (aq a.bm 0)) i.start.length a.cm) i.start.length (az .i64 M)) (wP:P.length=i.start.length/\W64 P) (wM:M.length=i.start.length/\W64 M):aH H y b i x a {m with P:=P,M:=M}:=by
 have he:Ext (aW (eJ H b a) w) (aW (eJ H b a) y):=dN (hk.mono λk _ e=>.inl (.inr (e.elim .inl λe=>.inr (.inl e)))) (λk _ hS=>hS);have nb:∀{r n c:Nat} {xs:N4},w.ownsRow 0 2 1 (.slice (some (aq r 0)) n c) n xs->b≠r:=λo e=>aw h.blk (by decide) o (by rw [e];rfl);have hb:=(hk.block b (F1 h.blk) (λe=>e.elim (nb h.oP) (nb h.oM))).trans h.blk
 have D:∀{r n c:Nat} {ys:N4} {v:Value} {e:N6} {size k:Nat} {xs:N4},w.ownsRow 0 2 1 (.slice (some (aq r 0)) n c) n ys->e≠2->w.ownsRow 0 e size v k xs->∀j,v.ownBlock=some j->j≠r:=λhr p u j A e=>by
  rcases hr.2 with ⟨B,_⟩ | ⟨r',_,_,B,_,L,_⟩
  ·cases B
  ·simp only [GT,Option.some.injEq,Addr.mk.injEq] at B;obtain ⟨⟨Y,_⟩,_⟩:=B;exact aw L (Ne.symm p) u (by rw [A,e,Y])
 have u:∀{v:Value} {e:N6} {size n:Nat} {xs:N4},e≠2->w.ownsRow 0 e size v n xs->y.ownsRow 0 e size v n xs:=λp u=>hk.own u (λj A e=>e.elim (D h.oP p u j A) (D h.oM p u j A));obtain ⟨V,a1,Z,O,Q,C,R⟩:=h.pl;obtain ⟨rows,J,U,I,N⟩:=h.re
 exact ⟨hb,dB h.sh he,iW cQ h.ex he,fa h.sa he,⟨V,a1,Z,O,Q,C,fd R he⟩,a9 h.bu he,a9 h.it he,⟨rows,u (by decide) J,U,I,λj x T=>cQ (N j x T) he⟩,
  oP,oM,hk.own h.oG (λj A e=>by cases A;exact e.elim (λe=>h.dj.2.1 e.symm) (λe=>h.dj.2.2 e.symm)),u (by decide) h.oO,h.dj,λk _ hm=>hn k hm,wP,wM,h.wG,h.ox,h.xw⟩
theorem Ed {ra p q:Int} {ps o g:N1} {lo k:Nat} (h:W64 ps):W64 (apP ra p q ps o g lo k):=eh λj i=>by
 split
 ·exact fj _
 ·have:=h j i;rw [dh _ _ i];simpa [dh _ _ i] using this
theorem Dx:eC prog 69 2:=⟨⟨_,underlying69,rfl⟩,by kernel_rfl⟩
theorem Bu {H:Nat->Prop} {w:N5} {b x:Nat} {i:Inp} {a:MAd} {m:Mst} (h:aH H w b i x a m) (hn:∀k,Mut b a k->¬H k) (a0:∀k,w.heap.size<=k->¬H k) (hs:bj i) (y:Itm) (u v:Value) (hu:u.oneCell'=true) (hv:v.oneCell'=true) (bM:y.n<(au i).buks.length) (bA:0<m.op.length) (bd:m.op.length<=1000) (b6: -9223372036854775808<=i.cfg.rate/\i.cfg.rate<=9223372036854775807) (b7: -9223372036854775808<=i.cfg.mom/\i.cfg.mom<=9223372036854775807) (lo B:Nat) (hr:aD (au i).buks y.n=(lo,B)) (ci:lo<B) (cn:B<=i.start.length):Calls prog 216 #[(ar b),.agg (aX y).toArray,.agg #[u,v]] w λe A=>e=.returned (H8 0)/\Did H (λ_=>False) b i x a m w.heap.size (λ_ m1=>m1={m with P:=apP i.cfg.rate i.cfg.mom i.cfg.shift m.P m.M ((m.G.drop lo).take (B-lo)) lo (B-lo),M:=apM i.cfg.mom i.cfg.shift m.M ((m.G.drop lo).take (B-lo)) lo (B-lo),op:=eT m.op y.n}) w A:=by
 have Z:=h.blk;have bV:=hs.n;obtain ⟨W0,W1,aM,ax,g0,g1,T, -⟩:=gq w (aX y).toArray #[u,v] 135 324;have U:=sb Z _ T;have a5:=a9 h.bu (oK (S:=eJ H b a) (Keep.below (S:=eJ H b a) T));have O:=fm bM;rw [hr] at O;obtain ⟨bb,bo,a4,b3⟩:=a5 _ _ O.1;obtain ⟨b5,bI,e',a2⟩:=a5 _ _ O.2;rw [a4] at e';obtain ⟨rfl,rfl⟩:b5=bb/\bI=bo:=by simpa using e'.symm
 rw [<-GX] at a2;have t7:∀A,ap W1 A->A.cell? (aq b 7)=some (.slice a.BA (au i).buks.length a.bc):=λA q=>Ga A b 7 _ _ _ (sb U A q);rw [a4] at t7;have s2:∀A,ap W1 A->A.cell? (aq w.heap.size 2)=some (H8 (y.n:Nat)):=λA q=>Ga A w.heap.size 2 _ _ _ (sb g0 A q);have d0:=λA (q:ap W1 A)=>av q b3;have d1:=λA (q:ap W1 A)=>av q a2;have cb:(y.n:Int)<(au i).buks.length:=ao;have cr:¬(y.n:Int)<0:=ao;have tl:=sl U;obtain ⟨bG,bz,bw,G0,K1,V,Hn,ak⟩:=aj aM ax U g0 T h hn a0;have q0:=(br W1).drew;clear aM ax g0 g1 T U a5 O Z h hn a0 b3 a2 a4 hr;go_enter func216,ntmps216;go_wp2_with fail;rw [bG.o,bz.o];refine HA.g (λA:N5=>ap W1 A) ?_;refine HA.t ?_ [0,1,2,3,4,5,6,7,8] q0 ?_;refine HA.v 9 (W1.drew.alloc (.cells #[H8 0,H8 0] 69)) ((ar W1.heap.size)) (q0.alloc (F3 _) _) ?_;refine HA.st 10 (F4 W1.drew _) Dx (λC e2 k2=>?_);have q2:ap W1 C:=q0.trans (di k2);refine ⟨q2,HA.d ?_⟩;rw [GS] at e2;have D:=V.o.mlt;have cs:=K1.o.size;have Q:=sb bw.o C q2;have a7:=sb G0.o C q2;have B2:=bt K1.o q2;have bX:w.heap.size<W1.heap.size:=F1 G0.o;have bO:b≠a.bp:=λe=>aw V.o.blk (by decide) V.o.oP (by rw [e];rfl);have b8:b≠a.bm:=λe=>aw V.o.blk (by decide) V.o.oM (by rw [e];rfl);have cc:=D a.bp (.inr (.inl rfl));have cx:=D a.bm (.inr (.inr (.inl rfl)));have kb:=λA (q:Keep (λk=>k=a.bp\/k=a.bm) C A)=>(q.block b (F1 Q) (λe=>e.elim bO b8)).trans Q;have kx:=λA (q:Keep (λk=>k=a.bp\/k=a.bm) C A)=>(q.block W1.heap.size (F1 e2) (λe=>e.elim (λe=>ao) (λe=>ao))).trans e2;have r8:∀A,Keep (λk=>k=a.bp\/k=a.bm) C A->A.cell? (aq b 8)=some (H8 i.cfg.rate):=λA q=>Ga A b 8 _ _ _ (kb A q);have r9:∀A,Keep (λk=>k=a.bp\/k=a.bm) C A->A.cell? (aq b 9)=some (H8 i.cfg.mom):=λA q=>Ga A b 9 _ _ _ (kb A q);have bs:∀A,Keep (λk=>k=a.bp\/k=a.bm) C A->A.cell? (aq b 10)=some (H8 i.cfg.shift):=λA q=>Ga A b 10 _ _ _ (kb A q);have bh:∀A,Keep (λk=>k=a.bp\/k=a.bm) C A->A.cell? (aq b 11)=some (.slice (some (aq a.bp 0)) i.start.length a.cp):=λA q=>Ga A b 11 _ _ _ (kb A q);have bN:∀A,Keep (λk=>k=a.bp\/k=a.bm) C A->A.cell? (aq b 12)=some (.slice (some (aq a.bm 0)) i.start.length a.cm):=λA q=>Ga A b 12 _ _ _ (kb A q);have bv:∀A,Keep (λk=>k=a.bp\/k=a.bm) C A->A.cell? (aq b 13)=some (.slice (some (aq a.bg 0)) i.start.length a.cg):=λA q=>Ga A b 13 _ _ _ (kb A q);have x0:∀A,Keep (λk=>k=a.bp\/k=a.bm) C A->A.cell? (aq W1.heap.size 0)=some (H8 (lo:Nat)):=λA q=>Ga A _ 0 _ _ _ (kx A q);have x1:∀A,Keep (λk=>k=a.bp\/k=a.bm) C A->A.cell? (aq W1.heap.size 1)=some (H8 (B:Nat)):=λA q=>Ga A _ 1 _ _ _ (kx A q)
 have cd:i.start.length<=a.cg:=by
  obtain ⟨_,_,e,h⟩:=aE V.o.oG;simp only [GT] at e;omega
 have N:=V.o.below B2 Hn.o
 have hG:Rd C (some (aq a.bg lo)) (az .i64 ((m.G.drop lo).take (B-lo))):=by
  have:=((Rd.own N.oG).drop lo).take (B-lo)
  rwa [dQ,dz,GY] at this
 have a3:=qE i.cfg.rate i.cfg.mom i.cfg.shift 0 i.start.length lo (B-lo) a.cp a.cm (a.cg-lo) (some (aq a.bp 0)) (some (aq a.bm 0)) (some (aq a.bg lo)) m.P m.M ((m.G.drop lo).take (B-lo)) C.drew N.oP.drew N.oM.drew (λj hj e=>by cases hj;exact N.dj.1 (by simpa [Value.ownBlock] using e.symm))
  hG (by rw [GL,GO,N.wG.1];omega) ao ao (λz hz e=>by cases hz;exact N.dj.2.1 (by simpa [Value.ownBlock] using e)) (λz hz e=>by cases hz;exact N.dj.2.2 (by simpa [Value.ownBlock] using e)) b6 b7 N.wM.2
 rw [show lo+(B-lo)=B by omega] at a3;have cw:(lo:Int)<=B:=ao;have cA:(B:Int)<=a.cg:=ao;have c7:lo<=B:=ao;have c8:B<=a.cg:=ao;have c9:¬a.cg=lo:=ao;have q3:Keep (λk=>k=a.bp\/k=a.bm) C C.drew:=(Keep.refl _ _).drew;have bi:=λA (q:Keep (λk=>k=a.bp\/k=a.bm) C A)=>Gf (F1 Q) q.size;have bn:=λA (q:Keep (λk=>k=a.bp\/k=a.bm) C A)=>Gf (F1 e2) q.size;obtain ⟨bl,M2,b4,KB,GI⟩:=ag a3 N B2 kb a7;clear t7 s2 d0 d1 tl q0 k2 q2 a3 N B2 kb kx Q a7 e2 hG D;go_wp2_with fail;refine HA.g (λA:N5=>Keep (λk=>k=a.bp\/k=a.bm) C A) ?_;refine HA.t ?_ [0,1,2,3,4,5,6,7,8,9,10,11,12,13,14,15,16,17,18] q3 ?_;refine HA.c 19 bl.o ?_;rintro e w4 ⟨rfl,b2,ad,k4⟩;have q4:Keep (λk=>k=a.bp\/k=a.bm) C w4:=q3.trans (k4.mono λj _ e=>e.imp (λe=>by simpa [Value.ownBlock] using e.symm) (λe=>by simpa [Value.ownBlock] using e.symm));refine ⟨_,rfl,q4,λ_=>?_⟩;refine HA.d ?_;have m4:=M2.o.setPM Hn.o q4 _ _ b2 ad ⟨by rw [lh];exact M2.o.wP.1,Ed M2.o.wP.2⟩ ⟨by rw [lk];exact M2.o.wM.1,xg M2.o.wM.2⟩;have hX:=q4.cell (Ga C w.heap.size 2 _ _ _ GI.o) (p:=(aq w.heap.size 2)) (λe=>e.elim (λe=>by have:w.heap.size=a.bp:=e;omega) (λe=>by have:w.heap.size=a.bm:=e;omega));obtain ⟨g,c,I,cf⟩:=m4.oO.form bA;have cj:=V.o.mlt g (.inr (.inr (.inr (.inr (.inr (by rw [I];rfl))))));have R:=m4.oO;rw [I] at R;have Y:=Cz g c w.heap.size y.n 0 m.op w4 R bd hX ao;have L:=m4.blk;have b0:b≠g:=λe=>aw L (by decide) R (by rw [e];rfl);have cl:w4.cell? (aq b 18)=some (.slice (some (aq g 0)) m.op.length c):=by rw [<-I];exact Ga w4 b 18 _ _ _ L
 have cv:=F1 L;obtain ⟨H4,aP,b1,Q4,a6⟩:=ag m4 Y L q4 I;clear m4 hX Y L q4 I R b2 ad k4 r8 r9 bs bh bN bv x0 x1 bi bn q3;go_wp2_with fail;refine aP.o.mono ?_;rintro e w5 ⟨rfl,o5,k5⟩;have g5:=(k5.block b (F1 b1.o) b0).trans b1.o;have c6:w5.cell? (aq b 18)=some a.ov:=Ga w5 b 18 _ _ _ g5;have co:=Gh w5 b 18 _ _ g5;have l5:=F1 g5;have e6:=ss (i:=18) (v:=.slice (some (aq g 0)) (eT m.op y.n).length c) g5 rfl;have k6:Keep (λk=>k=b) w5 (w5.setCell (aq b 18) (.slice (some (aq g 0)) (eT m.op y.n).length c)):=Keep.setCell (S:=λk=>k=b) (Keep.refl _ _) _ (.inr rfl) _;have o6:=k6.own o5 (λj hj e=>by cases hj;exact b0 e.symm);have a1:Keep (λk=>k=b\/a.ov.ownBlock=some k) w4 (w5.setCell (aq b 18) (.slice (some (aq g 0)) (eT m.op y.n).length c)):=(k5.mono λk _ e=>.inr (by rw [a6.o,e];rfl)).trans (k6.mono λk _ e=>.inl e);have a8:w.heap.size<=w4.heap.size:=Ge b4.o.size Q4.o.size;have J:=H4.o.setO Hn.o (λk hk=>ak.o k (Ge a8 hk)) (.slice (some (aq g 0)) (eT m.op y.n).length c) (eT m.op y.n) a1 e6 o6 (λk hk=>.inl (by rw [a6.o];exact hk));have HF:=aa (⟨_,_,J.1,rfl,rfl,((Keep.below b4.o).trans (Q4.o.sub λk e=>.inl (.inr (e.elim .inl λe=>.inr (.inl e))))).trans (a1.sub λk e=>.inl (e.elim .inl λe=>.inr (.inr (.inr (.inr (.inr e)))))),λk hk=>(J.2 k hk).imp id (λh=>Ge a8 h),⟨rfl,rfl,rfl⟩,rfl⟩:Did H (λ_=>False) b i x a m w.heap.size (λ_ m1=>m1={m with P:=apP i.cfg.rate i.cfg.mom i.cfg.shift m.P m.M ((m.G.drop lo).take (B-lo)) lo (B-lo),M:=apM i.cfg.mom i.cfg.shift m.M ((m.G.drop lo).take (B-lo)) lo (B-lo),op:=eT m.op y.n}) w _);clear J a1 e6 k6 o6 o5 k5 g5;go_wp2_with fail;go_ret;exact ⟨rfl,HF.o⟩
theorem Did.older {H G:Nat->Prop} {b:Nat} {i:Inp} {x:Nat} {a:MAd} {m:Mst} {n o:Nat} {T:N5->Mst->Prop} {w p:N5} (h:Did H G b i x a m n T w p) (hn:o<=n):Did H G b i x a m o T w p:=by
 obtain ⟨a1,m1,A,v,C,y,B,u⟩:=h;exact ⟨a1,m1,A,v,C,y,λk hk=>(B k hk).imp id λe=>Ge hn e,u⟩
theorem uX {H:Nat->Prop} {w:N5} {b x:Nat} {i:Inp} {a:MAd} {m:Mst} (h:aH H w b i x a m) (hn:∀k,Mut b a k->¬H k) (o:∀k,w.heap.size<=k->¬H k) (D:bj i) {y:Itm} (B:(bq i x m.st)[m.nx]?=some y) (hk:y.kind=2) (hl:m.op.length<=1000) (u v:N0):Calls prog 204 #[(ar b),.pointer u,.pointer v] w λe p=>e=.returned (H8 0)/\tV H (λ_=>False) b i x a m (λ_ m1=>m1={m with op:=m.op++[y.n]}) w p:=by
 refine (iS h hn o (G:=λ_=>False) (λ_ h=>h.elim) D B u v 213 (λp=>by rw [hk];kernel_rfl) (λargs w=>by kernel_rfl) (λ_=>False) (λ_ m1=>m1={m with op:=m.op++[y.n]}) (λ_ _ _ h _=>h) (λp q=>?_)).mono ?_
 ·refine (sR (h.below q hn) hn (λk hk=>o k (Ge q.size hk)) hl y (.pointer u) (.pointer v) rfl rfl).mono ?_;rintro e I ⟨rfl,A⟩;exact .inl ⟨rfl,A.older q.size⟩
 ·rintro e p (⟨rfl,A⟩ | ⟨C,_,J,_⟩)
  ·exact ⟨rfl,A⟩
  ·exact J.elim
theorem uW {H:Nat->Prop} {w:N5} {b x:Nat} {i:Inp} {a:MAd} {m:Mst} (h:aH H w b i x a m) (hn:∀k,Mut b a k->¬H k) (o:∀k,w.heap.size<=k->¬H k) (B:bj i) {y:Itm} (D:(bq i x m.st)[m.nx]?=some y) (hk:y.kind=6) (hl:m.rc.length<=1000) (u v:N0):Calls prog 204 #[(ar b),.pointer u,.pointer v] w λe p=>e=.returned (H8 0)/\tV H (λ_=>False) b i x a m (λ_ m1=>m1={m with rc:=m.rc++[(m.P,m.M)],G:=List.replicate i.start.length 0}) w p:=by
 refine (iS h hn o (G:=λ_=>False) (λ_ h=>h.elim) B D u v 217 (λp=>by rw [hk];kernel_rfl) (λargs w=>by kernel_rfl) (λ_=>False) (λ_ m1=>m1={m with rc:=m.rc++[(m.P,m.M)],G:=List.replicate i.start.length 0}) (λ_ _ _ h _=>h) (λp q=>?_)).mono ?_
 ·refine (sQ (h.below q hn) hn (λk hk=>o k (Ge q.size hk)) B hl y (.pointer u) (.pointer v) rfl rfl).mono ?_;rintro e I ⟨rfl,A⟩;exact .inl ⟨rfl,A.older q.size⟩
 ·rintro e p (⟨rfl,A⟩ | ⟨C,_,J,_⟩)
  ·exact ⟨rfl,A⟩
  ·exact J.elim
theorem DO {H:Nat->Prop} {w:N5} {b x:Nat} {i:Inp} {a:MAd} {m:Mst} (h:aH H w b i x a m) (hn:∀k,Mut b a k->¬H k) (p:∀k,w.heap.size<=k->¬H k) (R:bj i) {y:Itm} (T:(bq i x m.st)[m.nx]?=some y) (hk:y.kind=5) (u v:N0) (D:y.n<(au i).buks.length) (Q:0<m.op.length) (J:m.op.length<=1000) (N: -9223372036854775808<=i.cfg.rate/\i.cfg.rate<=9223372036854775807) (L: -9223372036854775808<=i.cfg.mom/\i.cfg.mom<=9223372036854775807) (lo o:Nat) (hr:aD (au i).buks y.n=(lo,o)) (I:lo<o) (O:o<=i.start.length):Calls prog 204 #[(ar b),.pointer u,.pointer v] w λe A=>e=.returned (H8 0)/\tV H (λ_=>False) b i x a m (λ_ m1=>m1={m with P:=apP i.cfg.rate i.cfg.mom i.cfg.shift m.P m.M ((m.G.drop lo).take (o-lo)) lo (o-lo),M:=apM i.cfg.mom i.cfg.shift m.M ((m.G.drop lo).take (o-lo)) lo (o-lo),op:=eT m.op y.n}) w A:=by
 refine (iS h hn p (G:=λ_=>False) (λ_ h=>h.elim) R T u v 216 (λA=>by rw [hk];kernel_rfl) (λargs w=>by kernel_rfl) (λ_=>False) (λ_ m1=>m1={m with P:=apP i.cfg.rate i.cfg.mom i.cfg.shift m.P m.M ((m.G.drop lo).take (o-lo)) lo (o-lo),M:=apM i.cfg.mom i.cfg.shift m.M ((m.G.drop lo).take (o-lo)) lo (o-lo),op:=eT m.op y.n}) (λ_ _ _ h _=>h) (λA q=>?_)).mono ?_
 ·refine (Bu (h.below q hn) hn (λk hk=>p k (Ge q.size hk)) R y (.pointer u) (.pointer v) rfl rfl D Q J N L lo o hr I O).mono ?_;rintro e U ⟨rfl,B⟩;exact .inl ⟨rfl,B.older q.size⟩
 ·rintro e A (⟨rfl,B⟩ | ⟨C,_,V,_⟩)
  ·exact ⟨rfl,B⟩
  ·exact V.elim
theorem yX {p:Pln} {x st:Nat} {y:Itm} (h:y∈aB p x st) (hk:y.kind=2\/y.kind=5):∃g∈p.grps,g.1<=y.n/\y.n<g.2:=by
 unfold aB at h;simp only [GU,List.mem_map,List.mem_flatMap,List.mem_singleton,List.mem_range] at h;rcases h with (⟨k,i,rfl⟩ | ⟨g,u,h⟩) | rfl
 ·rcases hk with hk | hk<;>cases hk
 ·refine ⟨g,u,?_⟩;unfold b9 at h;simp only [GU,List.mem_map,List.mem_flatMap,List.mem_range'_1] at h;rcases h with (⟨j,o,rfl⟩ | ⟨_,_,_,_,_,_,h⟩) | ⟨j,o,rfl⟩
  ·show g.1<=j/\j<g.2
   omega
  ·unfold aU at h;obtain ⟨c,_,rfl⟩:=List.mem_map.1 h;unfold eZ at hk;rcases hk with hk | hk<;>(split at hk<;>cases hk)
  ·show g.1<=j/\j<g.2
   omega
 ·rcases hk with hk | hk<;>cases hk
theorem nO (l:N1) (k a:Nat):l.take (bdN l.length k a)++cD l k a=l.take (bdN l.length k (a+1)):=by
 have h:=du l.length k (show a<=a+1 by omega);have e:bdN l.length k (a+1)=bdN l.length k a+(bdN l.length k (a+1)-bdN l.length k a):=ao
 conv=>rhs;rw [e,List.take_add]
 rfl
theorem vl (i:Inp) (P G:N1) (l r:N8):cy i P G (l++r)=cy i P (cy i P G l) r:=by simp [cy]
theorem pE (i:Inp) (P G:N1) (d:N8) (l:N1) (k:Nat) (hk:0<k):((List.range k).foldl (λg a=>cy i P g (cz d (cD l k a))) G)=cy i P G (cz d l):=by
 have h:∀m,((List.range m).foldl (λg a=>cy i P g (cz d (cD l k a))) G)=cy i P G (cz d (l.take (bdN l.length k m))):=by
  intro m
  induction m with
  | zero=>simp [bdN,cz,cy]
  | succ m ih=>
   rw [GV,List.foldl_append,ih,<-nO];simp only [List.foldl_cons,List.foldl_nil,cz,List.map_append];exact (vl _ _ _ _ _).symm
 rw [h k,gY _ _ hk,GR]
def lO (i:Inp) (z st k:Nat):N1:=(List.range k).foldl (λg a=>cy i (cM i st).1 g (cz i.data (n9 i z st a))) (List.replicate i.start.length 0)
def uZ (i:Inp) (z st:Nat):N1:=lO i z st (au i).mi
theorem qp (i:Inp) (z st k:Nat):lO i z st (k+1)=cy i (cM i st).1 (lO i z st k) (cz i.data (n9 i z st k)):=by
 unfold lO;rw [GV,List.foldl_append];rfl
theorem pF (i:Inp) (P:N1):∀(l:N8) (G:N1),(cy i P G l).length=G.length:=by
 intro l
 induction l with
 | nil=>intro G;rfl
 | cons x l ih=>intro G;show (cy i P (ij G _) l).length=_;rw [ih,iE]
theorem BU (i:Inp) (z st:Nat):∀k,(lO i z st k).length=i.start.length:=by
 intro k
 induction k with
 | zero=>simp [lO]
 | succ k ih=>rw [qp,pF,ih]
def jp (i:Inp) (z st:Nat):N1:=cD (cG i.draws i.data.length i.cfg.batch.toNat st) i.cfg.workers.toNat z
theorem BV {i:Inp} (h:bj i) (z st:Nat):uZ i z st=kY i (cM i st).1 (cz i.data (jp i z st)):=by
 have o:0<(au i).mi:=by have:=h.g.c.mi;simp only [au];omega
 unfold uZ lO;have:=pE i (cM i st).1 (List.replicate i.start.length 0) i.data (jp i z st) (au i).mi o;rw [h.g.s] at this;rw [h.g.s];exact this
theorem sX {i:Inp} (h:bj i) (z st:Nat) {q:Nat} (o:q<i.start.length):nth (uZ i z st) q=wrap64 (fH i (cM i st).1 q (cz i.data (jp i z st))):=by
 rw [BV h,mK i _ (by rw [<-h.g.s];exact o)]
def j2 (i:Inp) (st q:Nat):Int:=nth (pR i (cM i st).1 st) q
theorem uq (i:Inp) (P:N1) (st q:Nat):∀k,fH i P q (cz i.data ((cG i.draws i.data.length i.cfg.batch.toNat st).take (bdN (cG i.draws i.data.length i.cfg.batch.toNat st).length i.cfg.workers.toNat k)))=((List.range k).map λz=>fH i P q (cz i.data (jp i z st))).sum:=by
 intro k
 induction k with
 | zero=>simp [bdN,cz,fH]
 | succ k ih=>
  rw [<-nO,GV,List.map_append,List.sum_append,<-ih];simp only [List.map_cons,List.map_nil,List.sum_cons,List.sum_nil,Int.add_zero];rw [show cz i.data (List.take (bdN (cG i.draws i.data.length i.cfg.batch.toNat st).length i.cfg.workers.toNat k) (cG i.draws i.data.length i.cfg.batch.toNat st)++cD (cG i.draws i.data.length i.cfg.batch.toNat st) i.cfg.workers.toNat k)=cz i.data (List.take (bdN (cG i.draws i.data.length i.cfg.batch.toNat st).length i.cfg.workers.toNat k) (cG i.draws i.data.length i.cfg.batch.toNat st))++cz i.data (jp i k st) by simp [cz,jp],pQ]
theorem Ce {i:Inp} (h:bj i) (st:Nat) {q:Nat} (p:q<i.start.length):j2 i st q=wrap64 ((List.range (au i).W).map λz=>fH i (cM i st).1 q (cz i.data (jp i z st))).sum:=by
 have o:0<i.cfg.workers.toNat:=h.ok.W1;unfold j2 pR;rw [mK i _ (by rw [<-h.g.s];exact p),<-uq i (cM i st).1 st q (au i).W,show (au i).W=i.cfg.workers.toNat from rfl,gY _ _ o,GR]
def lF (i:Inp) (st s k q:Nat):Int:=wrap64 ((List.range (k+1)).map λd=>nth (uZ i ((s+d)%(au i).W) st) q).sum
theorem p8 {i:Inp} (o:bj i) (st:Nat) {s q:Nat} (h:s<(au i).W) (p:q<i.start.length):lF i st s 0 q=nth (uZ i s st) q:=by
 unfold lF;simp only [GY,List.range_one,List.map_cons,List.map_nil,List.sum_cons,List.sum_nil,Nat.add_zero,Int.add_zero];rw [Nat.mod_eq_of_lt h,sX o s st p,zE]
theorem yh (i:Inp) (st s k q:Nat):wrap64 (nth (uZ i ((s+(k+1))%(au i).W) st) q+lF i st s k q)=lF i st s (k+1) q:=by
 unfold lF;rw [GV (n:=k+1),List.map_append,List.sum_append];simp only [List.map_cons,List.map_nil,List.sum_cons,List.sum_nil,Int.add_zero];rw [Int.add_comm,qL]
theorem zF (f:Nat->Int):∀n,wrap64 ((List.range n).map λd=>wrap64 (f d)).sum=wrap64 ((List.range n).map f).sum:=by
 intro n
 induction n with
 | zero=>rfl
 | succ n ih=>
  rw [GV,List.map_append,List.map_append,List.sum_append,List.sum_append];simp only [List.map_cons,List.map_nil,List.sum_cons,List.sum_nil,Int.add_zero];rw [<-vU,ih,zE,vU]
theorem pP (f:Nat->Int) (a:Nat):∀b,((List.range (a+b)).map f).sum=((List.range a).map f).sum+((List.range b).map λd=>f (a+d)).sum:=by
 intro b
 induction b with
 | zero=>simp
 | succ b ih=>
  rw [<-GX,GV,List.map_append,List.sum_append,ih,GV,List.map_append,List.sum_append];simp only [List.map_cons,List.map_nil,List.sum_cons,List.sum_nil,Int.add_zero];omega
theorem eF {f g:Nat->Int} {n:Nat} (h:∀k,k<n->f k=g k):(List.range n).map f=(List.range n).map g:=List.map_congr_left λk hk=>h k (List.mem_range.1 hk)
theorem vX (f:Nat->Int) {W s:Nat} (h:s<W):((List.range W).map λd=>f ((s+d)%W)).sum=((List.range W).map f).sum:=by
 have o:=pP (λd=>f ((s+d)%W)) (W-s) s;have i:=pP f s (W-s);rw [show W-s+s=W by omega] at o;rw [show s+(W-s)=W by omega] at i;rw [o,i,Int.add_comm]
 congr 2
 ·exact eF λk hk=>by rw [show s+(W-s+k)=k+W by omega,Nat.add_mod_right,Nat.mod_eq_of_lt ao]
 ·exact eF λk hk=>by rw [Nat.mod_eq_of_lt ao]
theorem lE {i:Inp} (o:bj i) (st:Nat) {s q:Nat} (h:s<(au i).W) (p:q<i.start.length):lF i st s ((au i).W-1) q=j2 i st q:=by
 unfold lF;rw [show (au i).W-1+1=(au i).W by omega,vX (λz=>nth (uZ i z st) q) h,Ce o st p,<-zF (λz=>fH i (cM i st).1 q (cz i.data (jp i z st)))]
 congr 2
 exact eF λz _=>sX o z st p
structure Cor where
 st:Nat
 bk:Nat
 ph:Nat
 rd:Nat
 ch:Nat
 at':Rg
def Acn.cor (a:Acn):Cor:=⟨a.st,a.bk,a.ph,a.rd,a.ch,a.at'⟩
def aY (l:List Itm):List Acn:=l.filterMap (·.a)
def dH (l:List Itm):List Cor:=((aY l).filter λa=>a.send).map Acn.cor
def dW (l:List Itm):List Cor:=((aY l).filter λa=> !a.send).map Acn.cor
theorem dd (l r:List Itm):aY (l++r)=aY l++aY r:=List.filterMap_append ..
theorem jL (l r:List Itm):dH (l++r)=dH l++dH r:=by simp [dH,dd]
theorem lD (l r:List Itm):dW (l++r)=dW l++dW r:=by simp [dW,dd]
theorem iF {α:Type} (l:List α) (f:α->List Itm):aY (l.flatMap f)=l.flatMap λx=>aY (f x):=by
 induction l with
 | nil=>rfl
 | cons x l ih=>rw [List.flatMap_cons,dd,ih,List.flatMap_cons]
theorem cU {α β:Type} {l:List α} {f g:α->List β} (h:∀x∈l,f x=g x):l.flatMap f=l.flatMap g:=by
 induction l with
 | nil=>rfl
 | cons x l ih=>rw [List.flatMap_cons,List.flatMap_cons,h x (by simp),ih λy i=>h y (by simp [i])]
theorem lZ {α:Type} (l:List α) (f:α->Itm) (h:∀x,(f x).a=none):aY (l.map f)=[]:=by
 induction l with
 | nil=>rfl
 | cons x l ih=>rw [List.map_cons,aY,List.filterMap_cons,h x];exact ih
theorem vL (p:Pln) (w st ph r j:Nat):aY (aU p w st ph r j)=bf st j (aD p.buks j) p.W p.ck w ph r:=by
 unfold aU aY;rw [List.filterMap_map];generalize bf st j (aD p.buks j) p.W p.ck w ph r=l
 induction l with
 | nil=>rfl
 | cons x l ih=>rw [List.filterMap_cons];show x::_=_;rw [ih]
def jH (p:Pln) (w st a n:Nat):List Acn:=(List.range 2).flatMap λph=>(List.range (p.W-1)).flatMap λr=>(List.range n).flatMap λj=>bf st (a+j) (aD p.buks (a+j)) p.W p.ck w ph r
theorem vM (p:Pln) (w st:Nat) (g:Rg):aY (b9 p w st g)=jH p w st g.1 (g.2-g.1):=by
 unfold b9 jH;rw [dd,dd,lZ _ _ (λ_=>rfl),lZ _ _ (λ_=>rfl),List.append_nil,List.nil_append,iF];refine cU λph _=>?_;rw [iF];refine cU λr _=>?_;rw [iF,List.range'_eq_map_range,List.flatMap_map];exact cU λj _=>vL p w st ph r _
def jG (p:Pln) (w st:Nat):List Acn:=(List.range (be p.buks.length p.wi)).flatMap λk=>jH p w st (k*p.wi) (min (k*p.wi+p.wi) p.buks.length-k*p.wi)
theorem gh (p:Pln) (w st:Nat):aY (aB p w st)=jG p w st:=by
 unfold aB jG;rw [dd,dd,lZ _ _ (λ_=>rfl),List.nil_append,iF]
 show _++[]=_
 rw [List.append_nil,Pln.grps,dU,List.flatMap_map];exact cU λk _=>vM p w st _
theorem pq (i:Inp) (x k:Nat):aY (jd i x k)=(List.range k).flatMap λst=>jG (au i) x st:=by
 unfold jd;rw [iF];exact cU λst _=>gh _ _ _
theorem kf {β:Type} (f:Nat->β) (a:Nat):∀m,((List.range m).flatMap λi=>if i<a then [f i] else [])=(List.range (min m a)).map f
 | 0=>by simp
 | m+1=>by
  rw [GV,List.flatMap_append,kf f a m];by_cases h:m<a
  ·rw [show min (m+1) a=min m a+1 by omega,GV,List.map_append];simp [h,show min m a=m by omega]
  ·rw [show min (m+1) a=min m a by omega];simp [h]
theorem yo (x y:List Rg) (f g:Nat->Rg->Acn) (p:∀i r,(f i r).send=true) (o:∀i r,(g i r).send=false):(fq x y f g).filter (λa=>a.send)=(List.range x.length).map λi=>f i (aD x i):=by
 unfold fq;rw [List.filter_flatMap]
 have:∀i:Nat,List.filter (λa:Acn=>a.send) ((if i<x.length then [f i (aD x i)] else [])++(if i<y.length then [g i (aD y i)] else []))=if i<x.length then [f i (aD x i)] else []:=λi=>by
  by_cases u:i<x.length<;>by_cases h:i<y.length<;>simp [u,h,p,o]
 simp only [this];rw [kf (λi=>f i (aD x i)),show min (max x.length y.length) x.length=x.length by omega]
theorem yp (x y:List Rg) (f g:Nat->Rg->Acn) (p:∀i r,(f i r).send=true) (o:∀i r,(g i r).send=false):(fq x y f g).filter (λa=> !a.send)=(List.range y.length).map λi=>g i (aD y i):=by
 unfold fq;rw [List.filter_flatMap]
 have:∀i:Nat,List.filter (λa:Acn=> !a.send) ((if i<x.length then [f i (aD x i)] else [])++(if i<y.length then [g i (aD y i)] else []))=if i<y.length then [g i (aD y i)] else []:=λi=>by
  by_cases u:i<x.length<;>by_cases h:i<y.length<;>simp [u,h,p,o]
 simp only [this];rw [kf (λi=>g i (aD y i)),show min (max x.length y.length) y.length=y.length by omega]
theorem rZ {W x ph r:Nat} (hr:r<W-1):bU W x ph r=aO W ((x+1)%W) ph r:=by
 unfold bU aO;rw [Nat.mod_add_mod]
 congr 1
 omega
theorem uB (st bk:Nat) (b:Rg) (W c x ph r:Nat) (hr:r<W-1):((bf st bk b W c x ph r).filter λa=>a.send).map Acn.cor=((bf st bk b W c ((x+1)%W) ph r).filter λa=> !a.send).map Acn.cor:=by
 unfold bf;rw [yo _ _ _ _ (λ_ _=>rfl) (λ_ _=>rfl),yp _ _ _ _ (λ_ _=>rfl) (λ_ _=>rfl),<-rZ hr,List.map_map,List.map_map];rfl
theorem jx (i:Inp) (x k:Nat):dH (jd i x k)=dW (jd i ((x+1)%(au i).W) k):=by
 unfold dH dW;rw [pq,pq];simp only [jG,jH,List.filter_flatMap,List.map_flatMap];refine cU λst _=>cU λg _=>cU λph _=>cU λr hr=>cU λj _=>?_;exact uB _ _ _ _ _ _ _ _ (List.mem_range.1 hr)
def Cor.q (wi:Nat) (c:Cor):Nat:=((((c.st*64+c.bk/wi)*2+c.ph)*64+c.rd)*64+c.bk)*128+c.ch
def Acn.key (wi:Nat) (a:Acn):Nat:=2*a.cor.q wi+(if a.send then 0 else 1)
theorem ir {st bk:Nat} {b:Rg} {W c x ph r:Nat} {a:Acn} (h:a∈bf st bk b W c x ph r):a.st=st/\a.bk=bk/\a.ph=ph/\a.rd=r/\a.ch<(bf st bk b W c x ph r).length:=by
 rw [gn];unfold bf fq at h;obtain ⟨i,o,h⟩:=List.mem_flatMap.1 h;rw [List.mem_range] at o;rw [GU] at h;rcases h with h | h<;>split at h
 ·simp only [List.mem_singleton] at h;subst h;exact ⟨rfl,rfl,rfl,rfl,by show i<_;omega⟩
 ·simp at h
 ·simp only [List.mem_singleton] at h;subst h;exact ⟨rfl,rfl,rfl,rfl,by show i<_;omega⟩
 ·simp at h
theorem iv {β:Type} {R:β->β->Prop} {n:Nat} {f:Nat->List β} (v:∀k,k<n->(f k).Pairwise R) (u:∀k h,k<h->h<n->∀a∈f k,∀b∈f h,R a b):((List.range n).flatMap f).Pairwise R:=by
 rw [List.pairwise_flatMap];refine ⟨λk hk=>v k (List.mem_range.1 hk),?_⟩;refine List.Pairwise.imp_of_mem ?_ (List.pairwise_lt_range (n:=n));intro k h _ i o;exact λa p b hb=>u k h o (List.mem_range.1 i) a p b hb
theorem AG (wi st bk:Nat) (b:Rg) (W c x ph r:Nat):(bf st bk b W c x ph r).Pairwise λa b=>a.key wi<b.key wi:=by
 unfold bf fq;refine iv (λk _=>?_) (λk p o _ a i d h=>?_)
 ·split<;>split<;>simp [Acn.key,Acn.cor,Cor.q]
 ·rw [GU] at i h
  have u:a.key wi<=2*(((((st*64+bk/wi)*2+ph)*64+r)*64+bk)*128+k)+1:=by
   rcases i with i | i<;>split at i
   ·simp only [List.mem_singleton] at i;subst i;simp only [Acn.key,Acn.cor,Cor.q];split<;>omega
   ·simp at i
   ·simp only [List.mem_singleton] at i;subst i;simp only [Acn.key,Acn.cor,Cor.q];split<;>omega
   ·simp at i
  have v:2*(((((st*64+bk/wi)*2+ph)*64+r)*64+bk)*128+p)<=d.key wi:=by
   rcases h with h | h<;>split at h
   ·simp only [List.mem_singleton] at h;subst h;simp only [Acn.key,Acn.cor,Cor.q];split<;>omega
   ·simp at h
   ·simp only [List.mem_singleton] at h;subst h;simp only [Acn.key,Acn.cor,Cor.q];split<;>omega
   ·simp at h
  omega
structure InS (p:Pln) (st:Nat) (a:Acn):Prop where
 st:a.st=st
 g:a.bk/p.wi<64
 ph:a.ph<2
 rd:a.rd<64
 bk:a.bk<64
 ch:a.ch<128
theorem ma {p:Pln} (h:aT p) {w st s n:Nat} (hn:s+n<=p.buks.length) {a:Acn} (i:a∈jH p w st s n):InS p st a/\s<=a.bk/\a.bk<s+n:=by
 simp only [jH,List.mem_flatMap,List.mem_range] at i;obtain ⟨ph,u,r,hr,j,A,i⟩:=i;obtain ⟨v,B,H,C,D⟩:=ir i;have hb:=h.buks;have o:=h.round w st ph r (s+j);rw [aU,List.length_map] at o;have y:=h.W8;have x:=Nat.div_le_self a.bk p.wi;exact ⟨⟨v,by omega,by omega,by omega,by omega,by omega⟩,by omega,by omega⟩
theorem ki {wi:Nat} {a b:Acn} (h:a.cor.q wi<b.cor.q wi):a.key wi<b.key wi:=by
 unfold Acn.key;split<;>split<;>omega
theorem CZ {p:Pln} (h:aT p) (w st k n:Nat) (hn:k*p.wi+n<=p.buks.length) (hw:n<=p.wi):(jH p w st (k*p.wi) n).Pairwise λa b=>a.key p.wi<b.key p.wi:=by
 have hb:=h.buks
 have L:∀j,j<n->(k*p.wi+j)/p.wi=k:=λj v=>by
  rw [Nat.mul_comm,Nat.mul_add_div (by have:=h.wi;omega),Nat.div_eq_of_lt ao,Nat.add_zero]
 have hm:∀{ph r j:Nat} {a:Acn},a∈bf st (k*p.wi+j) (aD p.buks (k*p.wi+j)) p.W p.ck w ph r->j<n->a.cor.q p.wi=((((st*64+k)*2+ph)*64+r)*64+(k*p.wi+j))*128+a.ch/\a.ch<128:=λ{ph r j a} o v=>by
  obtain ⟨U,Q,V,T,Z⟩:=ir o;have A:=h.round w st ph r (k*p.wi+j);rw [aU,List.length_map] at A;refine ⟨?_,by omega⟩;simp only [Cor.q,Acn.cor,U,Q,V,T,L j v]
 have Y:=h.W8;unfold jH;refine iv (λph R=>iv (λr hr=>iv (λj v=>AG _ _ _ _ _ _ _ _ _) ?_) ?_) ?_
 ·intro j B x u a o b i;obtain ⟨H,D⟩:=hm o ao;obtain ⟨I,J⟩:=hm i u;exact ki ao
 ·intro r O x y a o b i;simp only [List.mem_flatMap,List.mem_range] at o i;obtain ⟨j,v,o⟩:=o;obtain ⟨B,u,i⟩:=i;obtain ⟨H,D⟩:=hm o v;obtain ⟨I,J⟩:=hm i u;exact ki ao
 ·intro ph N x C a o b i;simp only [List.mem_flatMap,List.mem_range] at o i;obtain ⟨r,hr,j,v,o⟩:=o;obtain ⟨O,y,B,u,i⟩:=i;obtain ⟨H,D⟩:=hm o v;obtain ⟨I,J⟩:=hm i u;exact ki ao
theorem iG {p:Pln} (h:aT p) {k:Nat} (hk:k<be p.buks.length p.wi):k*p.wi+(min (k*p.wi+p.wi) p.buks.length-k*p.wi)<=p.buks.length/\min (k*p.wi+p.wi) p.buks.length-k*p.wi<=p.wi:=by
 have:=fe hk;omega
theorem l7 {p:Pln} (h:aT p) {w st:Nat} {a:Acn} (i:a∈jG p w st):InS p st a:=by
 simp only [jG,List.mem_flatMap,List.mem_range] at i;obtain ⟨k,hk,i⟩:=i;exact (ma h (iG h hk).1 i).1
theorem tT {p:Pln} (h:aT p) (w st:Nat):(jG p w st).Pairwise λa b=>a.key p.wi<b.key p.wi:=by
 unfold jG;refine iv (λk hk=>CZ h w st k _ (iG h hk).1 (iG h hk).2) ?_;intro k B u i a y b hb;have g1:=iG h (show k<be p.buks.length p.wi by omega);have o:=iG h i;obtain ⟨m1,C,H⟩:=ma h g1.1 y;obtain ⟨x,A,I⟩:=ma h o.1 hb;have v:=h.wi
 have D:a.bk/p.wi<=k:=by
  have:=Nat.div_lt_of_lt_mul (show a.bk<p.wi*(k+1) by rw [Nat.mul_add,Nat.mul_comm];omega);omega
 have J:B<=b.bk/p.wi:=(Nat.le_div_iff_mul_le ao).2 A;refine ki ?_;have:=m1.ph;have:=m1.rd;have:=m1.bk;have:=m1.ch;have:=m1.st;have:=x.st;simp only [Cor.q,Acn.cor];omega
theorem rH {i:Inp} (h:aT (au i)) (x k:Nat):(aY (jd i x k)).Pairwise λa b=>a.key (au i).wi<b.key (au i).wi:=by
 rw [pq];refine iv (λst _=>tT h x st) ?_;intro st v o _ a u b hb;have m1:=l7 h u;have p:=l7 h hb;refine ki ?_;have:=m1.ph;have:=m1.rd;have:=m1.bk;have:=m1.ch;have:=m1.st;have g1:=m1.g;have:=p.st;simp only [Cor.q,Acn.cor];generalize a.bk/(au i).wi=ga at g1 ⊢;generalize b.bk/(au i).wi=gb;omega
theorem ot {p:Pln} {x st:Nat} {y:Itm} (h:y∈aB p x st):(y.a=none/\y.kind≠3/\y.kind≠4)\/∃a,y.a=some a/\y.kind=(if a.send then 3 else 4):=by
 unfold aB at h;simp only [GU,List.mem_map,List.mem_flatMap,List.mem_singleton] at h;rcases h with (⟨_,_,rfl⟩ | ⟨g,_,h⟩) | rfl
 ·exact .inl ⟨rfl,(λe=>by cases e),(λe=>by cases e)⟩
 ·unfold b9 at h;simp only [GU,List.mem_map,List.mem_flatMap] at h;rcases h with (⟨_,_,rfl⟩ | ⟨_,_,_,_,_,_,h⟩) | ⟨_,_,rfl⟩
  ·exact .inl ⟨rfl,(λe=>by cases e),(λe=>by cases e)⟩
  ·unfold aU at h;obtain ⟨c,_,rfl⟩:=List.mem_map.1 h;exact .inr ⟨c,rfl,rfl⟩
  ·exact .inl ⟨rfl,(λe=>by cases e),(λe=>by cases e)⟩
 ·exact .inl ⟨rfl,(λe=>by cases e),(λe=>by cases e)⟩
theorem jF {i:Inp} {x k:Nat} {y:Itm} (h:y∈jd i x k):(y.a=none/\y.kind≠3/\y.kind≠4)\/∃a,y.a=some a/\y.kind=(if a.send then 3 else 4):=by
 unfold jd at h;obtain ⟨st,_,h⟩:=List.mem_flatMap.1 h;exact ot h
def sN (i:Inp) (x p:Nat):Nat:=(dH ((cN i x).take p)).length
def rN (i:Inp) (x p:Nat):Nat:=(dW ((cN i x).take p)).length
def nxW (W x:Nat):Nat:=(x+1)%W
def pvW (W x:Nat):Nat:=(x+W-1)%W
theorem mA {W x:Nat} (h:x<W):nxW W (pvW W x)=x:=by
 unfold nxW pvW;rw [Nat.mod_add_mod,show x+W-1+1=x+W by omega,Nat.add_mod_right,Nat.mod_eq_of_lt h]
theorem Bq {W x:Nat} (h:0<W):nxW W x<W:=Nat.mod_lt _ h
theorem iO {W x:Nat} (h:0<W):pvW W x<W:=Nat.mod_lt _ h
def can (i:Inp) (C:Nat) (pos:Nat->Nat) (x:Nat):Prop:=∃y,(cN i x)[pos x]?=some y/\(y.kind=3->sN i x (pos x)<rN i (nxW (au i).W x) (pos (nxW (au i).W x))+C)/\(y.kind=4->rN i x (pos x)<sN i (pvW (au i).W x) (pos (pvW (au i).W x)))
theorem pU {l:List Itm} {n:Nat} {c:Cor} (h:(dH l)[n]?=some c):∃a∈aY l,a.send=true/\a.cor=c:=by
 have:=List.mem_of_getElem? h;simp only [dH,List.mem_map,List.mem_filter] at this;obtain ⟨a,⟨i,o⟩,p⟩:=this;exact ⟨a,i,o,p⟩
theorem p6 {l:List Itm} {n:Nat} {c:Cor} (h:(dW l)[n]?=some c):∃a∈aY l,a.send=false/\a.cor=c:=by
 have:=List.mem_of_getElem? h;simp only [dW,List.mem_map,List.mem_filter] at this;obtain ⟨a,⟨i,o⟩,p⟩:=this;exact ⟨a,i,by simpa using o,p⟩
theorem ep (l:List Itm) (k:Nat):l=l.take k++l.drop k:=(List.take_append_drop k l).symm
theorem ry {wi:Nat} {l:List Itm} {k:Nat} (o:(aY l).Pairwise λa b=>a.key wi<b.key wi) {r:Acn} (hr:r∈aY (l.drop k)):∃y,l[k]?=some y/\∀a,y.a=some a->a.key wi<=r.key wi:=by
 cases hd:l.drop k with
 | nil=>rw [hd] at hr;simp [aY] at hr
 | cons y t=>
  refine ⟨y,?_,λa p=>?_⟩
  ·have:=List.getElem?_drop (xs:=l) (i:=k) (j:=0);rw [hd,Nat.add_zero] at this;exact this.symm
  ·rw [ep l k,dd,List.pairwise_append] at o;have h:=o.2.1;rw [hd] at h hr;have e:aY (y::t)=a::aY t:=by unfold aY;rw [List.filterMap_cons,p]
   rw [e] at h hr;rcases List.mem_cons.1 hr with rfl | u
   ·exact F3 _
   ·exact Nat.le_of_lt ((List.pairwise_cons.1 h).1 r u)
theorem ko {wi:Nat} {l:List Itm} {k:Nat} (h:(aY l).Pairwise λa b=>a.key wi<b.key wi) {y:Itm} {a s:Acn} (u:l[k]?=some y) (p:y.a=some a) (o:s∈aY (l.take k)):s.key wi<a.key wi:=by
 rw [ep l k,dd,List.pairwise_append] at h;refine h.2.2 s o a ?_;unfold aY;rw [List.mem_filterMap];refine ⟨y,?_,p⟩;have:=List.getElem?_drop (xs:=l) (i:=k) (j:=0);rw [Nat.add_zero,u] at this;exact List.mem_of_getElem? this
theorem nM {l:List Itm} {k:Nat} {y:Itm} {a:Acn} (o:l[k]?=some y) (h:y.a=some a) (v:a.send=false):(dW l)[(dW (l.take k)).length]?=some a.cor:=by
 have u:l.drop k=y::l.drop (k+1):=by
  obtain ⟨p,i⟩:=GF.1 o;rw [List.drop_eq_getElem_cons p,i]
 conv=>lhs;rw [ep l k,lD]
 rw [GK (by simp),List.take_append_drop,Nat.sub_self,u];unfold dW aY;rw [List.filterMap_cons,h];simp [v]
theorem rY {l:List Itm} {k:Nat} {y:Itm} {a:Acn} (o:l[k]?=some y) (h:y.a=some a) (v:a.send=true):(dH l)[(dH (l.take k)).length]?=some a.cor:=by
 have u:l.drop k=y::l.drop (k+1):=by
  obtain ⟨p,i⟩:=GF.1 o;rw [List.drop_eq_getElem_cons p,i]
 conv=>lhs;rw [ep l k,jL]
 rw [GK (by simp),List.take_append_drop,Nat.sub_self,u];unfold dH aY;rw [List.filterMap_cons,h];simp [v]
theorem DR {i:Inp} (U:aT (au i)) {C:Nat} (hC:1<=C) (pos:Nat->Nat):∀n x,x<(au i).W->∀y a,(cN i x)[pos x]?=some y->y.a=some a->a.key (au i).wi=n->∃z,z<(au i).W/\can i C pos z:=by
 intro n
 induction n using Nat.strongRecOn with
 | _ n ih=>
  intro x hx y a R V hn;by_cases u:can i C pos x
  ·exact ⟨x,hx,u⟩
  have hW:0<(au i).W:=U.W1
  have D:∀z,z<(au i).W->∀B,(cN i z)[pos z]?=some B->(∀A,B.a=some A->A.key (au i).wi<n)->∃z,z<(au i).W/\can i C pos z:=λz H B o hk=>by
   rcases jF (List.mem_of_getElem? o) with ⟨_,h3,h4⟩ | ⟨A,p,_⟩
   ·exact ⟨z,H,B,o,λe=>absurd e h3,λe=>absurd e h4⟩
   ·exact ih _ (hk A p) z H B A o p rfl
  rcases jF (List.mem_of_getElem? R) with ⟨h0,_⟩ | ⟨a2,T,hk⟩
  ·rw [V] at h0;cases h0
  rw [V] at T;obtain rfl:a=a2:=Option.some.inj T
  cases hs:a.send with
  | true=>
   rw [hs,if_pos rfl] at hk
   have hb:rN i (nxW (au i).W x) (pos (nxW (au i).W x))+C<=sN i x (pos x):=by
    rcases Gn (sN i x (pos x)) (rN i (nxW (au i).W x) (pos (nxW (au i).W x))+C) with h | h
    ·exact absurd ⟨y,R,λ_=>h,λe=>ao⟩ u
    ·exact h
   have H:=Bq (W:=(au i).W) (x:=x) hW;generalize hzz:nxW (au i).W x=z at hb H;have O:rN i z (pos z)<(dH ((cN i x).take (pos x))).length:=by unfold sN at hb;omega
   obtain ⟨c,hc⟩:∃c,(dH ((cN i x).take (pos x)))[rN i z (pos z)]?=some c:=⟨_,GG O⟩;obtain ⟨s,J,L,I⟩:=pU hc;have a1:=ko (rH U x _) R V J
   have hr:(dW (cN i z))[rN i z (pos z)]?=some c:=by
    rw [<-hzz]
    show (dW (jd i ((x+1)%(au i).W) i.cfg.steps.toNat))[_]?=_
    rw [<-jx,ep (jd i x i.cfg.steps.toNat) (pos x),jL,hzz,GH O];exact hc
   have v:(dW ((cN i z).drop (pos z)))[0]?=some c:=by
    rw [ep (cN i z) (pos z),lD,GK (by unfold rN;simp)] at hr;simpa [rN] using hr
   obtain ⟨r,a0,Y,Z⟩:=p6 v;obtain ⟨B,o,N⟩:=ry (rH U z _) a0;refine D z H B o λA p=>?_;have h1:=N A p;have h2:r.key (au i).wi=2*c.q (au i).wi+1:=by unfold Acn.key;rw [Z,Y];rfl
   have h3:s.key (au i).wi=2*c.q (au i).wi:=by unfold Acn.key;rw [I,L];rfl
   have h4:a.key (au i).wi=2*a.cor.q (au i).wi:=by unfold Acn.key;rw [hs];rfl
   omega
  | false=>
   rw [hs] at hk;have a3:y.kind=4:=hk
   have hb:sN i (pvW (au i).W x) (pos (pvW (au i).W x))<=rN i x (pos x):=by
    rcases Gn (rN i x (pos x)) (sN i (pvW (au i).W x) (pos (pvW (au i).W x))) with h | h
    ·exact absurd ⟨y,R,λe=>ao,λ_=>h⟩ u
    ·exact h
   have H:=iO (W:=(au i).W) (x:=x) hW;have Q:=mA hx;generalize pvW (au i).W x=z at hb H Q;have hr:=nM R V hs
   have v:(dH (cN i z))[rN i x (pos x)]?=some a.cor:=by
    show (dH (jd i z i.cfg.steps.toNat))[_]?=_
    rw [jx,show (z+1)%(au i).W=x from Q];exact hr
   rw [ep (cN i z) (pos z),jL,GK hb] at v;obtain ⟨s,J,L,I⟩:=pU v;obtain ⟨B,o,N⟩:=ry (rH U z _) J;refine D z H B o λA p=>?_;have h1:=N A p;have h2:s.key (au i).wi=2*a.cor.q (au i).wi:=by unfold Acn.key;rw [I,L];rfl
   have h3:a.key (au i).wi=2*a.cor.q (au i).wi+1:=by unfold Acn.key;rw [hs];rfl
   omega
theorem FZ {i:Inp} (p:aT (au i)) {C:Nat} (u:1<=C) (pos:Nat->Nat) {x:Nat} (o:x<(au i).W) (hl:pos x<(cN i x).length):∃z,z<(au i).W/\can i C pos z:=by
 have h:=GG hl;rcases jF (List.mem_of_getElem? h) with ⟨_,A,y⟩ | ⟨a,v,_⟩
 ·exact ⟨x,o,_,h,λe=>absurd e A,λe=>absurd e y⟩
 ·exact DR p u pos _ x o _ a h v rfl
def ay (w:N5) (b:Nat) (ring:Value) (cap sent recv peak:Nat):Prop:=
 w.heap[b]?=some (.cells #[ring,H8 cap,H8 sent,H8 recv,H8 peak] 172 (0,0))
section
variable {w:N5} {b:Nat} {ring:Value} {cap sent recv peak:Nat}
theorem ay.c0 (h:ay w b ring cap sent recv peak):w.cell? (aq b 0)=some ring:=Ga w b 0 _ _ _ h
theorem ay.c1 (h:ay w b ring cap sent recv peak):w.cell? (aq b 1)=some (H8 cap):=Ga w b 1 _ _ _ h
theorem ay.c2 (h:ay w b ring cap sent recv peak):w.cell? (aq b 2)=some (H8 sent):=Ga w b 2 _ _ _ h
theorem ay.c3 (h:ay w b ring cap sent recv peak):w.cell? (aq b 3)=some (H8 recv):=Ga w b 3 _ _ _ h
theorem ay.c4 (h:ay w b ring cap sent recv peak):w.cell? (aq b 4)=some (H8 peak):=Ga w b 4 _ _ _ h
theorem ay.free (h:ay w b ring cap sent recv peak) (i:Nat):w.frozen? (aq b i)=false:=Gh w b i _ _ h
end
theorem kO (b:Nat) (ring:Value) (cap sent recv peak:Nat) (w:N5) (h:ay w b ring cap sent recv peak) (o:recv<=sent) (p:sent<=17592186043904):Calls prog 75 #[(ar b)] w λe i=>e=.returned (H8 ((sent:Int)-recv))/\∃n,i=w.drewN n:=by
 have c2:=h.c2;have c3:=h.c3;go_enter func75,ntmps75;go_wp2
 go_quiet (fail)
 go_wp2;go_ret;exact ⟨rfl,_,rfl⟩
theorem s6 (b:Nat) (x y:Int) (w:N5) (c2:w.cell? (aq b 2)=some (H8 x)) (c3:w.cell? (aq b 3)=some (H8 y)) (hb:0<=y/\y<=x/\x<=17592186043904):Calls prog 75 #[(ar b)] w λe h=>e=.returned (H8 (x-y))/\∃n,h=w.drewN n:=by
 go_enter func75,ntmps75;go_wp2
 go_quiet (fail)
 go_wp2;go_ret;exact ⟨rfl,_,rfl⟩
theorem yR (b:Nat) (ring:Value) (cap sent recv peak:Nat) (n:Int) (w:N5) (h:ay w b ring cap sent recv peak) (hc:1<=cap) (hn:0<=n) (i:cap<=1048576):Calls prog 76 #[(ar b),H8 n] w λe o=>e=.returned (H8 (n%cap))/\w=o:=by
 have c1:=h.c1;go_enter func76,ntmps76;go_wp2;go_ret;exact ⟨rfl,rfl⟩
theorem DS (c:Int) (w:N5) (h:1<=c/\c<=1048576):Calls prog 42 #[H8 c] w λe i=>e=.returned ((ar w.heap.size))/\i=w.alloc (.cells #[H9,H8 c,H8 0,H8 0,H8 0] 172):=by
 obtain ⟨o,p⟩:=h;go_enter func42,ntmps42;go_wp2;go_ret;exact ⟨rfl,rfl⟩
theorem EZ:cW prog 26 2 (H8 0) 1 8:=⟨underlying26,info_parts (by kernel_rfl),rfl,by decide⟩
theorem zo (A:N0) (zs:N1) (c:Nat) (w:N5) (B:Rd w A (az .i64 zs)) (hl:zs.length<=17592186043904):Calls prog 117 #[.slice A zs.length c] w λe y=>∃v,e=.returned v/\y.ownsRow w.heap.size 2 1 v zs.length (az .i64 zs)/\ap w y:=by
 have q:=λ(w:N5)=>Lib.run_eql_slice_nil (P:=prog) w 26 2 A zs.length c 0 0 underlying26
 cases A with
 | none=>
  have C:zs=[]:=by
   cases zs with
   | nil=>rfl
   | cons z l=>obtain ⟨b,o,h,_⟩:=B 0 _ rfl;cases h
  subst C;clear q;have q:=λ(w:N5)=>Lib.run_eql_slice_nil (P:=prog) w 26 2 none 0 c 0 0 underlying26;simp only [Option.isNone_none] at q;rw [List.length_nil];go_enter func117,ntmps117;go_wp2;go_ret;exact ⟨_,rfl,Gj _ _ _ _,Gb _ _⟩
 | some a=>
  go_enter func117,ntmps117;go_wp2_with (at_builtin;refine eH EZ _ rfl (.tmp 5) (.tmp 6) rfl w.heap.size _ 0 [] rfl (fW w 2 1) _ zs.length c (az .i64 zs) rfl (B.alloc _) (by rw [aS];omega) (bS _ _) ao (by unfold maxLen;omega) (by simp) ?_);intro I H D i hb _ _;have u:=((Gb _ w).alloc (F3 _) (.cells #[] 2)).trans hb;obtain ⟨p,x⟩:=ab i u;clear i hb u;go_wp2;go_ret;exact ⟨_,rfl,p.o,x.o⟩
structure Tg where
 a:Int
 b:Int
 c:Int
 d:Int
 e:Int
structure Msg where
 tag:Tg
 vals:N1
def Tg.cells (t:Tg):N4:=[H8 t.a,H8 t.b,H8 t.c,H8 t.d,H8 t.e]
def Tg.zero:Tg:=⟨0,0,0,0,0⟩
def Msg.zero:Msg:=⟨Tg.zero,[]⟩
theorem D2:cW prog 47 174 (.agg Id) 6 64:=⟨underlying47,info_parts (by kernel_rfl),rfl,by decide⟩
theorem mJ (A:N0) (zs:N1) (c:Nat) (w:N5) (x:Rd w A (az .i64 zs)) (hl:zs.length<=17592186043904):Calls prog 77 #[.slice A zs.length c] w λe u=>∃v,e=.returned v/\u.ownsRow w.heap.size 2 1 v zs.length (az .i64 zs)/\ap w u:=by
 have h:=zo A zs c w x hl;go_enter func77,ntmps77;go_wp2_with fail;refine h.mono ?_;rintro e B ⟨v,rfl,i,hb⟩;obtain ⟨D,C,rfl,_⟩:=aE i;clear h;obtain ⟨p,y⟩:=ab i hb;clear i hb;go_wp2;go_ret;exact ⟨_,rfl,p.o,y.o⟩
def Db (w:N5) (base:Nat) (h:N4) (m:Msg):Prop:=
 ∃A c,h=m.tag.cells++[.slice A m.vals.length c]/\w.ownsRow base 2 1 (.slice A m.vals.length c) m.vals.length (az .i64 m.vals)
def FK (w:N5) (h:N4) (m:Msg):Prop:=
 ∃A c,h=m.tag.cells++[.slice A m.vals.length c]/\Rd w A (az .i64 m.vals)
structure LSt where
 cap:Nat
 msgs:List Msg
 recv:Nat
 peak:Nat
structure LSt.Ok (s:LSt):Prop where
 cap1:1<=s.cap
 cap2:s.cap<=1048576
 rs:s.recv<=s.msgs.length
 sr:s.msgs.length<=s.recv+s.cap
 pk:s.peak<=s.cap
 many:s.msgs.length<=100000000000
 vals:∀m∈s.msgs,m.vals.length<=17592186043904
def aN (l:List Msg) (j:Nat):Msg:=l.getD j Msg.zero
def eO (l:List (N4)) (j:Nat):N4:=l.getD j []
structure aJ (w:N5) (base b:Nat) (g:Option Nat) (s:LSt):Prop where
 ok:s.Ok
 ex:∃ring rows,ay w b ring s.cap s.msgs.length s.recv s.peak/\w.ownsRow base 174 6 ring (min s.msgs.length s.cap) (List.flatten rows)/\ring.ownBlock=g/\
  rows.length=min s.msgs.length s.cap/\(∀r∈rows,r.length=6)/\∀j,s.recv<=j->j<s.msgs.length->Db w base (eO rows (j%s.cap)) (aN s.msgs j)
theorem iT (b:Nat) (ring:Value) (cap sent recv peak n i:Nat) (w:N5) (h:ay w b ring cap sent recv peak) (hc:1<=cap) (o:cap<=1048576) (u:n%cap=i):Calls prog 76 #[(ar b),H8 (n:Int)] w λe p=>e=.returned (H8 (i:Int))/\w=p:=by
 subst u;refine (yR b ring cap sent recv peak n w h hc ao o).mono ?_;rintro e p ⟨rfl,rfl⟩;exact ⟨by rw [Int.natCast_emod],rfl⟩
theorem tt {rows:List (N4)} {k:Nat} (h:∀r∈rows,r.length=k) (i t:Nat) (o:i<rows.length) (p:t<k):(List.flatten rows)[i*k+t]?=(eO rows i)[t]?:=by
 induction rows generalizing i with
 | nil=>simp at o
 | cons r l ih=>
  have hr:r.length=k:=h r (by simp)
  cases i with
  | zero=>
   rw [List.flatten_cons,Nat.zero_mul,GY,GH ao];simp [eO]
  | succ i=>
   rw [List.flatten_cons,GK (by rw [hr,Nat.add_mul];omega),hr,show (i+1)*k+t-k=i*k+t by rw [Nat.add_mul];omega,ih (λr hr=>h r (by simp [hr])) i (by simpa using o)];simp [eO]
structure rL (w:N5) (g o:Nat) (t:Tg) (v:Value):Prop where
 c0:w.cell? (aq g o)=some (H8 t.a)
 c1:w.cell? (aq g (o+1))=some (H8 t.b)
 c2:w.cell? (aq g (o+2))=some (H8 t.c)
 c3:w.cell? (aq g (o+3))=some (H8 t.d)
 c4:w.cell? (aq g (o+4))=some (H8 t.e)
 c5:w.cell? (aq g (o+5))=some v
theorem nZ {j n r cap:Nat} (_h1:r<=j) (o:j<n) (_h3:n<=r+cap) (hc:1<=cap):j%cap<min n cap:=by
 have h:=Nat.mod_lt j (show 0<cap by omega);have i:=Nat.mod_le j cap;omega
theorem aJ.at_ {w:N5} {base b:Nat} {g:Option Nat} {s:LSt} (h:aJ w base b g s) (j:Nat) (C:s.recv<=j) (B:j<s.msgs.length):
  ∃p c y u,g=some p/\ay w b (.slice (some (aq p 0)) (min s.msgs.length s.cap) c) s.cap s.msgs.length s.recv s.peak/\j%s.cap<min s.msgs.length s.cap/\
   rL w p (j%s.cap*6) (aN s.msgs j).tag (.slice y (aN s.msgs j).vals.length u)/\
   w.ownsRow base 2 1 (.slice y (aN s.msgs j).vals.length u) (aN s.msgs j).vals.length (az .i64 (aN s.msgs j).vals):=by
 obtain ⟨ok,ring,rows,hc,o,I,hrl,A,hm⟩:=h;have D:=nZ C B ok.sr ok.cap1;obtain ⟨y,u,v,x⟩:=hm j C B;obtain ⟨p,c,rfl,_,_⟩:=o.form ao;refine ⟨p,c,y,u,I.symm,hc,D,?_,x⟩
 have i:∀t,t<6->w.cell? ⟨p,j%s.cap*6+t,none⟩=((aN s.msgs j).tag.cells++[Value.slice y (aN s.msgs j).vals.length u])[t]?:=λt H=>by
  rw [o.cellAt _ (by have:=HU 6 (Nat.succ_le_of_lt D);rw [GW] at this;omega),tt A _ t ao H,v]
 exact ⟨i 0 ao,i 1 ao,i 2 ao,i 3 ao,i 4 ao,i 5 ao⟩
theorem ay.alloc {w:N5} {b:Nat} {ring:Value} {cap sent recv peak:Nat} (h:ay w b ring cap sent recv peak) (o:Obj):ay (w.alloc o) b ring cap sent recv peak:=(Gk _ _ _ (F1 h)).trans h
theorem sZ (base b:Nat) (g:Option Nat) (s:LSt) (w:N5) (h:aJ w base b g s) (A:s.recv<s.msgs.length):Calls prog 211 #[.pointer (some ⟨b,0,none⟩)] w λe p=>e=.returned (.tuple #[.agg #[H8 (aN s.msgs s.recv).tag.a,H8 (aN s.msgs s.recv).tag.b,H8 (aN s.msgs s.recv).tag.c,H8 (aN s.msgs s.recv).tag.d,H8 (aN s.msgs s.recv).tag.e],.bool true])/\ap w p:=by
 obtain ⟨x,c,A',c',rfl,hc,O,I,y⟩:=h.at_ s.recv (F3 _) A;obtain ⟨D,C,B,V,Q,T,H⟩:=h.ok;clear H y;obtain ⟨i,u⟩:∃i,s.recv%s.cap=i:=⟨_,rfl⟩;rw [u] at O I;obtain ⟨L,J⟩:∃L,min s.msgs.length s.cap=L:=⟨_,rfl⟩;rw [J] at O hc;have hl:=λo=>kO b _ _ _ _ _ _ (hc.alloc o) B ao;have N:=λo n=>iT b _ _ _ _ _ s.recv i _ (show ay ((w.alloc o).drewN n) _ _ _ _ _ _ from hc.alloc o) D C u;have c0:=hc.c0;have c3:=hc.c3;have hb:=F1 hc;have hg:=aC I.c0;obtain ⟨d0,d1,Y,d3,d4,d5⟩:=I;obtain ⟨R,U⟩:=ab hl N;clear hl N u J h;generalize (aN s.msgs s.recv).tag=tg at *;go_enter func211,ntmps211;go_wp2_with fail;refine (R.o _).mono ?_;rintro e Z ⟨rfl,n,rfl⟩;go_wp2_with fail
 go_region_held3 (λp=>p.cell? ⟨b,0,none⟩=some (.slice (some ⟨x,0,none⟩) L c)/\p.cell? ⟨b,3,none⟩=some (H8 (s.recv:Int))/\p.cell? ⟨x,i*6,none⟩=some (H8 tg.a)/\p.cell? ⟨x,i*6+1,none⟩=some (H8 tg.b)/\
   p.cell? ⟨x,i*6+2,none⟩=some (H8 tg.c)/\p.cell? ⟨x,i*6+3,none⟩=some (H8 tg.d)/\p.cell? ⟨x,i*6+4,none⟩=some (H8 tg.e)) (simp [go_sem, *])
  ((go_at_call 76;refine (U.o _ _).mono ?_;rintro e p ⟨rfl,rfl⟩))
 go_wp2;refine Gm (v:=.tuple #[.agg #[H8 tg.a,H8 tg.b,H8 tg.c,H8 tg.d,H8 tg.e],.bool true]) (by simp [results,results211,go_sem]) rfl ⟨rfl,?_⟩;exact am
theorem pD (base b:Nat) (g:Option Nat) (s:LSt) (w:N5) (h:aJ w base b g s) (i:s.recv=s.msgs.length):Calls prog 211 #[(ar b)] w λe A=>e=.returned (.tuple #[.agg #[H8 0,H8 0,H8 0,H8 0,H8 0],.bool false])/\ap w A:=by
 obtain ⟨ok,ring,rows,hc,_⟩:=h;obtain ⟨C,H,p,x,y,D,u⟩:=ok;clear u;have hl:=λo=>kO b _ _ _ _ _ _ (hc.alloc o) p ao;rw [i,Int.sub_self] at hl;have B:=aa hl;clear hl hc i;go_enter func211,ntmps211;go_wp2_with fail;refine (B.o _).mono ?_;rintro e I ⟨rfl,n,rfl⟩;go_wp2;refine Gm (v:=.tuple #[.agg #[H8 0,H8 0,H8 0,H8 0,H8 0],.bool false]) (by simp [results,results211,go_sem]) rfl ⟨rfl,?_⟩;exact am
end Go.Proofs.YtindmkcnjlgomaaGreat
