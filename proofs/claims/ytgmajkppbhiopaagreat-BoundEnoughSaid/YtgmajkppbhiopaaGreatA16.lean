/- No condition. -/
import Derived.Test.YtgmajkppbhiopaaGreatA00
import Derived.Test.YtgmajkppbhiopaaGreatA15
import Derived.Lib.SliceRun
set_option linter.unusedSimpArgs false
set_option linter.unusedVariables false
set_option maxRecDepth 100000
set_option maxHeartbeats 4000000
namespace Go.Proofs.YtgmajkppbhiopaaGreat
open Go.RowKit
theorem dI {w h:World} {o:Obj} (k:Keep (fun j=>j=w.heap.size) (w.alloc o) h):Below w.heap.size w h:=
 ((br w).alloc (EM _) o).trans (k.toBelow (by rw [Fb];omega) (fun j i=>by omega))
theorem zM:dt Tryz.prog 331 13:=⟨⟨_,Tryz.underlying331,rfl⟩,by kernel_rfl⟩
theorem zO:dt Tryz.prog 328 7:=⟨⟨_,Tryz.underlying328,rfl⟩,by kernel_rfl⟩
theorem nk (w:World):Calls Tryz.prog 221 #[] w fun e o=>e=.returned (.agg FS)∧Below w.heap.size w o:=by
 go_enter Tryz.func221,Tryz.ntmps221
 go_wp2_with (refine cS (EN _ _) zO rfl rfl rfl rfl rfl rfl rfl ?_;intro x i h;obtain ⟨u,v⟩:=ab i (dI h);clear i h)
 exact E7 (zZ rfl rfl u.out zO) rfl ⟨rfl,v.out⟩
def adv (i:Inp) (x:Nat) (m:Mst):Mst:=if m.nx+1<(bf i x m.st).length then {m with nx:=m.nx+1} else {m with st:=m.st+1,nx:=0}
theorem aC.upd {H:Nat→Prop} {w u:World} {b x:Nat} {i:Inp} {a:MAd} {m:Mst} (h:aC H w b i x a m) (hn:∀k,Mut b a k→¬H k) (hk:Keep (fun k=>k=b) w u) (st nx:Nat) (IA:Option Addr) (ic:Nat)
  (hb:u.heap[b]?=some (.cells #[FQ (x:Nat),FQ i.cfg.workers,FQ i.cfg.micros,.pointer (some ⟨({a with IA:=IA,ic:=ic}:MAd).F,0,none⟩),.slice ({a with IA:=IA,ic:=ic}:MAd).E i.data.length ({a with IA:=IA,ic:=ic}:MAd).ce,.pointer (some ⟨({a with IA:=IA,ic:=ic}:MAd).S,0,none⟩),.pointer (some ⟨({a with IA:=IA,ic:=ic}:MAd).PP,0,none⟩),.slice ({a with IA:=IA,ic:=ic}:MAd).BA (ao i).buks.length ({a with IA:=IA,ic:=ic}:MAd).bc,FQ i.cfg.rate,FQ i.cfg.mom,FQ i.cfg.shift,.slice (some ⟨({a with IA:=IA,ic:=ic}:MAd).bp,0,none⟩) i.start.length ({a with IA:=IA,ic:=ic}:MAd).cp,.slice (some ⟨({a with IA:=IA,ic:=ic}:MAd).bm,0,none⟩) i.start.length ({a with IA:=IA,ic:=ic}:MAd).cm,.slice (some ⟨({a with IA:=IA,ic:=ic}:MAd).bg,0,none⟩) i.start.length ({a with IA:=IA,ic:=ic}:MAd).cg,.slice (some ⟨({a with IA:=IA,ic:=ic}:MAd).rb,0,none⟩) ({m with st:=st,nx:=nx}:Mst).rc.length ({a with IA:=IA,ic:=ic}:MAd).rc,.slice ({a with IA:=IA,ic:=ic}:MAd).IA (bf i x ({m with st:=st,nx:=nx}:Mst).st).length ({a with IA:=IA,ic:=ic}:MAd).ic,FQ (({m with st:=st,nx:=nx}:Mst).nx:Nat),FQ (bF i x {m with st:=st,nx:=nx}:Nat),({a with IA:=IA,ic:=ic}:MAd).ov] 179 (0,0)))
  (hit:Rd (aQ (er H b a) u) IA (bJ (bf i x st))) (ox:nx<(bf i x st).length∨(nx=0∧i.cfg.steps.toNat≤st)):aC H u b i x {a with IA:=IA,ic:=ic} {m with st:=st,nx:=nx}:=by
 have he:Ext (aQ (er H b a) w) (aQ (er H b a) u):=dL (hk.mono fun k _ e=>.inl (.inl e)) (fun k _ N=>N)
 have o:∀{v:Value} {e size n xs},e≠179→w.ownsRow 0 e size v n xs→u.ownsRow 0 e size v n xs:=fun A o=>hk.own o (fun j O e=>an h.blk (Ne.symm A) o (by rw [O,e]))
 obtain ⟨I,a1,L,R,T,y,D⟩:=h.pl
 obtain ⟨rows,Q,B,J,C⟩:=h.re
 exact ⟨hb,dx h.sh he,gu cz h.ex he,eQ h.sa he,⟨I,a1,L,R,T,y,eR D he⟩,aJ h.bu he,hit,⟨rows,o (by decide) Q,B,J,fun j x U=>cz (C j x U) he⟩,
  o (by decide) h.oP,o (by decide) h.oM,o (by decide) h.oG,o (by decide) h.oO,h.dj,fun k _ hm=>hn k hm,h.wP,h.wM,h.wG,ox,h.xw⟩
theorem mw {i:Inp} (o:bP i) {x st nx:Nat} (h:nx<(bf i x st).length):st<i.cfg.steps.toNat∧(bf i x st).length=(aw (ao i) x 0).length:=by
 unfold bf at h ⊢
 by_cases hc:st<i.cfg.steps.toNat
 ·rw [if_pos hc];exact ⟨hc,gr o.ok x st⟩
 ·rw [if_neg hc] at h;simp at h
theorem nO (i:Inp) (x:Nat) (m:Mst):bF i x {m with st:=m.st,nx:=m.nx+1}=bF i x m+1:=rfl
theorem nN {i:Inp} (o:bP i) {x:Nat} {m:Mst} (h:m.nx+1=(bf i x m.st).length):bF i x {m with st:=m.st+1,nx:=0}=bF i x m+1:=by
 have:=(mw o (x:=x) (st:=m.st) (nx:=m.nx) (by omega)).2
 simp only [bF,FG]
 omega
theorem ym {p:Pln} {x st:Nat} {y:Itm} (h:y∈aw p x st):y.st=st:=by
 unfold aw at h
 simp only [FE,List.mem_map,List.mem_flatMap,List.mem_singleton] at h
 rcases h with (⟨_,_,rfl⟩ | ⟨g,_,h⟩) | rfl
 ·rfl
 ·unfold bU at h
  simp only [FE,List.mem_map,List.mem_flatMap] at h
  rcases h with (⟨_,_,rfl⟩ | ⟨_,_,_,_,_,_,h⟩) | ⟨_,_,rfl⟩
  ·rfl
  ·unfold aN at h
   obtain ⟨_,_,rfl⟩:=List.mem_map.1 h
   rfl
  ·rfl
 ·rfl
theorem uX {i:Inp} {x st nx:Nat} {y:Itm} (h:(bf i x st)[nx]?=some y):y.st=st:=by
 unfold bf at h
 by_cases hc:st<i.cfg.steps.toNat
 ·rw [if_pos hc] at h;exact ym (List.mem_of_getElem? h)
 ·rw [if_neg hc] at h;simp at h
theorem BI {i:Inp} (o:bP i) {x:Nat} {m:Mst} (h:m.nx<(bf i x m.st).length):bF i x m+1≤48000000:=by
 obtain ⟨C,A⟩:=mw o h
 have u:=lq o.ok x 0
 have v:m.st≤5:=by have:=o.s;omega
 have D:=Nat.mul_le_mul v u
 have y:m.st*(aw (ao i) x 0).length+(aw (ao i) x 0).length=(m.st+1)*(aw (ao i) x 0).length:=(FG _ _).symm
 have B:=Nat.mul_le_mul (show m.st+1≤6 by omega) u
 simp only [bF]
 omega
theorem aC.mlt {H:Nat→Prop} {w:World} {b x:Nat} {i:Inp} {a:MAd} {m:Mst} (h:aC H w b i x a m):∀k,Mut b a k→k<w.heap.size:=by
 rintro k (rfl | rfl | rfl | rfl | rfl | hk)
 ·exact EL h.blk
 ·exact (h.oP.lt _ rfl).2
 ·exact (h.oM.lt _ rfl).2
 ·exact (h.oG.lt _ rfl).2
 ·obtain ⟨rows,o,_⟩:=h.re
  exact (o.lt _ rfl).2
 ·exact (h.oO.lt _ hk).2
theorem xz {w:World} {P x:Nat} {i:Inp} {B a1 C H I h:Value} (J:db w P (ao i) B a1 C H I (FQ (i.cfg.steps.toNat:Nat)) h) (L:bP i) (N:x<(ao i).W) (st:Nat):
  Calls Tryz.prog 87 #[.pointer (some ⟨P,0,none⟩),FQ x,FQ (st:Nat)] w fun e u=>∃A c,e=.returned (.slice A (bf i x st).length c)∧Rd u A (bJ (bf i x st))∧(∀y,A=some y→w.heap.size≤y.block)∧Below w.heap.size w u:=by
 unfold bf
 by_cases hc:st<i.cfg.steps.toNat
 ·rw [if_pos hc]
  refine (pA (ao i) P x st i.cfg.steps.toNat B a1 C H I h w L.ok L.n1 N hc J).mono ?_
  rintro e u ⟨v,rfl,o,k⟩
  obtain ⟨A,c,rfl,_⟩:=av o
  exact ⟨A,c,rfl,Rd.own o,fun y D=>(eg o y D).1,k⟩
 ·rw [if_neg hc]
  refine (pz (ao i) P x st i.cfg.steps.toNat B a1 C H I h w N (by omega) J).mono ?_
  rintro e u ⟨rfl,rfl⟩
  exact ⟨none,0,rfl,Rd.nil _ _,(fun y D=>by cases D),br w⟩
def Fxd (a a1:MAd):Prop:=a1.bp=a.bp∧a1.bm=a.bm∧a1.bg=a.bg
def Did (H G:Nat→Prop) (b:Nat) (i:Inp) (x:Nat) (a:MAd) (m:Mst) (n:Nat) (T:World→Mst→Prop) (w h:World):Prop:=∃a1 m1,aC H h b i x a1 m1∧m1.st=m.st∧m1.nx=m.nx∧Keep (fun k=>Mut b a k∨G k) w h∧(∀k,Mut b a1 k→Mut b a k∨n≤k)∧Fxd a a1∧T h m1
def EH (G:Nat→Prop) (b:Nat) (i:Inp) (x:Nat) (a:MAd) (m:Mst) (n:Nat) (T:(Nat→Prop)→World→Mst→Prop) (w h:World):Prop:=∃H a1 m1,aC H h b i x a1 m1∧(∀k,Mut b a1 k→¬H k)∧(∀k,h.heap.size≤k→¬H k)∧m1.st=m.st∧m1.nx=m.nx∧Keep (fun k=>Mut b a k∨G k) w h∧(∀k,Mut b a1 k→Mut b a k∨n≤k)∧Fxd a a1∧T H h m1
def s8 (H G:Nat→Prop) (b:Nat) (i:Inp) (x:Nat) (a:MAd) (m:Mst) (T:World→Mst→Prop) (w h:World):Prop:=∃o m1,aC H h b i x o (adv i x m1)∧m1.st=m.st∧m1.nx=m.nx∧Keep (fun k=>Mut b a k∨G k) w h∧(∀k,Mut b o k→Mut b a k∨w.heap.size≤k)∧Fxd a o∧T h m1
def Cv (G:Nat→Prop) (b:Nat) (i:Inp) (x:Nat) (a:MAd) (m:Mst) (T:(Nat→Prop)→World→Mst→Prop) (w h:World):Prop:=∃H o m1,aC H h b i x o (adv i x m1)∧(∀k,Mut b o k→¬H k)∧(∀k,h.heap.size≤k→¬H k)∧m1.st=m.st∧m1.nx=m.nx∧Keep (fun k=>Mut b a k∨G k) w h∧(∀k,Mut b o k→Mut b a k∨w.heap.size≤k)∧Fxd a o∧T H h m1
theorem rX {H G:Nat→Prop} {w:World} {b x:Nat} {i:Inp} {a:MAd} {m:Mst} (h:aC H w b i x a m) (hn:∀k,Mut b a k→¬H k) (b7:∀k,w.heap.size≤k→¬H k) (bO:∀k,G k→k<w.heap.size) (hs:bP i) {y:Itm} (hy:(bf i x m.st)[m.nx]?=some y) (u v:Option Addr)
  (f:Nat) (hf:∀o,Sem.run Tryz.prog (Instr.index 328 (.agg FS) (FQ (y.kind:Nat))) o=.ok (.func (.func f) #[] #[]) o) (cw:∀args w,(callFunc f args).run Tryz.prog w=.ok (.enter f args) w)
  (FP:Int→Prop) (T:(Nat→Prop)→World→Mst→Prop) (hT:∀H1 B w2 m1,T H1 B m1→Keep (fun k=>k=b) B w2→T H1 w2 m1)
  (hd:∀o,Below w.heap.size w o→Calls Tryz.prog f #[.pointer (some ⟨b,0,none⟩),.agg (aS y).toArray,.agg #[.pointer u,.pointer v]] o fun e cl=>(e=.returned (FQ 0)∧EH G b i x a m w.heap.size T o cl)∨(∃C:Int,C≠0∧FP C∧e=.returned (FQ C)∧Below o.heap.size o cl)):
  Calls Tryz.prog 216 #[.pointer (some ⟨b,0,none⟩),.pointer u,.pointer v] w fun e o=>(e=.returned (FQ 0)∧Cv G b i x a m T w o)∨(∃C:Int,C≠0∧FP C∧e=.returned (FQ C)∧Below w.heap.size w o):=by
 have N:=pL h hy
 have bM:=vX y
 obtain ⟨k0,k1,k2,b0,b1,i0,i1,i2,i3,i4,i5,i6,ad⟩:=C9 y
 have e0:(y.kind:Int)=k0:=by have:=ad;simp only [aS,List.cons.injEq,Value.int.injEq,true_and] at this;exact this.1
 have e1:(y.st:Int)=k1:=by have:=ad;simp only [aS,List.cons.injEq,Value.int.injEq,true_and] at this;exact this.2.1
 rw [ad] at N hd
 rw [e0] at hf
 have ct:=(Fq.1 hy).1
 have b6:=h.mlt
 obtain ⟨dw,Hd,Hf,d3,HM,HT,dc,Hn⟩:=aj N hd hf cw h hT ct hn;obtain ⟨e3,Hs,E1,Hy,d6,ds⟩:=ah b7 hs e1 hy b6 bO;clear b6 bO N hd hf cw h hT ct hn b7 bM ad e0 e1 hs hy
 go_enter Tryz.func216,Tryz.ntmps216
 go_wp2_with fail
 refine dw.out.mono ?_
 rintro e B ⟨rfl,q1⟩
 have g2:=EN B (.cells #[FQ k0,FQ k1,FQ k2,.bool b0,.bool b1,FQ i0,FQ i1,FQ i2,FQ i3,FQ i4,FQ i5,FQ i6] 152)
 have q2:Below w.heap.size w (B.alloc (.cells #[FQ k0,FQ k1,FQ k2,.bool b0,.bool b1,FQ i0,FQ i1,FQ i2,FQ i3,FQ i4,FQ i5,FQ i6] 152)):=q1.alloc q1.size _
 obtain ⟨Y,c8⟩:∃Y,B.alloc (.cells #[FQ k0,FQ k1,FQ k2,.bool b0,.bool b1,FQ i0,FQ i1,FQ i2,FQ i3,FQ i4,FQ i5,FQ i6] 152)=Y:=⟨_,rfl⟩
 rw [c8] at g2 q2
 have hX:w.heap.size≤B.heap.size:=q1.size
 go_wp2_with fail
 clear c8 q1
 obtain ⟨G2,Q2⟩:=ab g2 q2
 have t0:∀o,Below Y.heap.size Y o→o.cell? ⟨B.heap.size,0,none⟩=some (FQ k0):=fun o q=>EO o B.heap.size 0 _ _ _ (sb g2 o q)
 have tl:=sl g2
 clear g2 q2
 have bi:=fun o=>Hf.out o
 go_cut [9] (fun v wx=>∃J,v=.pointer (some ⟨J,0,none⟩)∧wx.heap[J]?=some (.cells #[FQ k0,FQ k1,FQ k2,.bool b0,.bool b1,FQ i0,FQ i1,FQ i2,FQ i3,FQ i4,FQ i5,FQ i6,.func (.func f) #[] #[]] 331 (0,0))∧Below Y.heap.size Y wx)
 case first=>
  refine HA.g (fun o:World=>Below Y.heap.size Y o) ?_
  have q3:=(br Y).drew
  refine HA.ld 0 #[FQ k0,FQ k1,FQ k2,.bool b0,.bool b1,FQ i0,FQ i1,FQ i2,FQ i3,FQ i4,FQ i5,FQ i6] (fun o q=>sb G2.out o q) vF q3 ?_
  refine HA.t ?_ [2,3] q3 ?_
  refine HA.two 1 6 ?_ ?_
  ·refine HAS.c (nk _) ?_
   rintro e D ⟨rfl,k3⟩
   have q4:=q3.trans (k3.mono q3.size)
   refine ⟨_,rfl,q4,fun _=>?_⟩
   refine HA.t ?_ [4,5] q4 ?_
   refine HA.v 6 (D.alloc (.cells FT 331)) (.pointer (some ⟨D.heap.size,0,none⟩)) (q4.alloc q4.size _) ?_
   refine HA.st 7 (EN D _) zM (fun R e9 k9=>?_)
   have q9:=q4.trans ((dI k9).mono q4.size)
   refine ⟨q9,HA.d ?_⟩
   obtain ⟨E9,Q9⟩:=ab e9 q9;clear e9 k9 q9 q4 q3 k3 bi t0 tl
   go_wp2_with fail
   go_meet
   exact ⟨_,rfl,E9.out,Q9.out⟩
  ·refine HAS.v (Y.drew.alloc (.cells FT 331)) (.pointer (some ⟨Y.heap.size,0,none⟩)) (q3.alloc (EM _) _) ?_
   have gJ:=EN Y.drew (.cells FT 331)
   rw [FC] at gJ
   have q4:=q3.alloc (EM _) (.cells FT 331)
   obtain ⟨W3,cn⟩:∃W3,Y.drew.alloc (.cells FT 331)=W3:=⟨_,rfl⟩
   rw [cn] at gJ q4 ⊢
   clear cn
   refine HA.c 1 (nk _) ?_
   rintro e D ⟨rfl,k3⟩
   have q5:=q4.trans (k3.mono q4.size)
   refine ⟨_,rfl,q5,fun _=>?_⟩
   refine HA.t ?_ [4,5] q5 ?_
   refine HA.st 7 (sb gJ _ k3) zM (fun R e9 k9=>?_)
   have q9:=q5.trans (k9.toBelow q5.size (fun j hj=>by rw [hj];exact EM _))
   refine ⟨q9,HA.d ?_⟩
   obtain ⟨E9,Q9⟩:=ab e9 q9;clear e9 k9 q9 q4 q5 q3 k3 bi t0 tl gJ
   go_wp2_with fail
   go_meet
   exact ⟨_,rfl,E9.out,Q9.out⟩
 case rest=>
  obtain ⟨J,rfl,gJ,qJ⟩:=hcut
  clear t0 tl bi
  have c6:=EO wc J 12 _ _ _ gJ
  have lJ:=EL gJ
  have bI:wc.cell? ⟨J,12,none⟩=some (.func (.func f) #[] #[]):=c6
  clear c6
  have GJ:=aa gJ
  have cj:=Q2.out.trans (qJ.mono Q2.out.size)
  obtain ⟨QJ,B0⟩:=ab qJ cj;clear gJ qJ cj
  have cx:=d3.out
  go_wp2_with (refine cE #[FQ k0,FQ k1,FQ k2,.bool b0,.bool b1,FQ i0,FQ i1,FQ i2,FQ i3,FQ i4,FQ i5,FQ i6] GJ.out vF rfl rfl rfl rfl ?_)
  refine (Hd.out wc B0.out).mono ?_
  rintro e D (⟨rfl,H1,a1,m1,bs,bA,b5,bh,N,hk,cv,c7,ht⟩ | ⟨C,hC,da,rfl,k3⟩)
  rotate_left
  ·have ei:(C != 0)=true:=by rw [bne_iff_ne];exact hC
   have K3:=aa (B0.out.trans (k3.mono B0.out.size));clear k3
   go_wp2_with fail
   go_ret
   exact .inr ⟨C,hC,da,rfl,K3.out⟩
  ·have Q:m1.nx<(bf i x m1.st).length:=by rw [bh,N];exact dc.out
   have d7:=BI Hs.out Q
   obtain ⟨dn,bd⟩:∃dn,bF i x m1=dn:=⟨_,rfl⟩
   obtain ⟨il,b3⟩:∃il,(bf i x m1.st).length=il:=⟨_,rfl⟩
   have A:=bs.blk
   rw [bd] at A d7
   rw [b3] at A Q
   have lb:=EL A
   have d4:D.cell? ⟨b,16,none⟩=some (FQ (m1.nx:Nat)):=EO D b 16 _ _ _ A
   have d8:D.cell? ⟨b,17,none⟩=some (FQ (dn:Nat)):=EO D b 17 _ _ _ A
   have bb:=EV D b 16 _ _ A
   have d2:=EV D b 17 _ _ A
   have e8:IntKind.i64.wrap ((dn:Int)+1)=((dn+1:Nat):Int):=by rw [ER _ (by omega)];push_cast;rfl
   have e4:il≤8000000:=by rw [←b3,(mw Hs.out (x:=x) (st:=m1.st) (nx:=m1.nx) (by omega)).2];exact lq Hs.out.ok x 0
   have e7:IntKind.i64.wrap ((m1.nx:Int)+1)=((m1.nx+1:Nat):Int):=by rw [ER _ (by omega)];push_cast;rfl
   have g5:=ss2 (i:=17) (j:=16) (v:=FQ ((dn:Int)+1)) (u:=FQ ((m1.nx:Int)+1)) A rfl
   have k5:Keep (fun k=>k=b) D ((D.setCell ⟨b,17,none⟩ (FQ ((dn:Int)+1))).setCell ⟨b,16,none⟩ (FQ ((m1.nx:Int)+1))):=Keep.setCell (S:=fun k=>k=b) (Keep.setCell (S:=fun k=>k=b) (Keep.refl _ _) _ (.inr rfl) _) _ (.inr rfl) _
   obtain ⟨G5,K5,a0,Hk,bN,Ht,c9,b8⟩:=aj g5 k5 bs hk cv ht c7 bh;obtain ⟨b4,a7,a4,bG,I,bo⟩:=ah N bA b5 bd b3 Q;clear bs hk cv ht c7 bh N bA b5 bd b3 g5 k5 A Q bI lJ cx
   go_wp2_with fail
   obtain ⟨W5,cd⟩:∃W5,(D.setCell ⟨b,17,none⟩ (FQ ((dn:Int)+1))).setCell ⟨b,16,none⟩ (FQ ((m1.nx:Int)+1))=W5:=⟨_,rfl⟩
   have g5:=G5.out
   have k5:=K5.out
   rw [cd] at g5 k5 ⊢
   clear G5 K5 cd d4 d8 bb d2
   have d0:b<W5.heap.size:=EL g5
   have cc:∀o,Below W5.heap.size W5 o→o.cell? ⟨b,15,none⟩=some (.slice a1.IA (bf i x m1.st).length a1.ic):=fun o q=>by rw [I.out];exact EO o b 15 _ _ _ (sb g5 o q)
   rw [I.out] at cc
   have dv:∀o,Below W5.heap.size W5 o→o.cell? ⟨b,16,none⟩=some (FQ ((m1.nx:Int)+1)):=fun o q=>EO o b 16 _ _ _ (sb g5 o q)
   obtain ⟨G5,K5⟩:=ab g5 k5;clear g5 k5
   have q5:=(br W5).drew
   refine HA.g (fun o:World=>Below W5.heap.size W5 o) ?_
   refine HA.t ?_ [0,1,2,3,4,5,6,7,8,9] q5 ?_
   refine HA.d ?_
   have k6:Keep (fun k=>k=b) D W5.drew:=K5.out.drew
   have g6:=sb G5.out _ q5
   obtain ⟨V,bv⟩:∃V,W5.drew=V:=⟨_,rfl⟩
   rw [bv] at k6 g6 ⊢
   obtain ⟨G6,K6⟩:=ab g6 k6
   have l6:b<V.heap.size:=EL g6
   clear bv q5 cc dv G5 K5 d0 k6 g6
   by_cases a5:m1.nx+1=il
   rotate_left
   ·have dr:¬(m1.nx:Int)+1=il:=by omega
    clear a5
    go_wp2_with fail
    go_ret
    have O:adv i x m1={m1 with st:=m1.st,nx:=m1.nx+1}:=if_pos (by rw [I.out];have:=bo.out;omega)
    have e:((bF i x {m1 with st:=m1.st,nx:=m1.nx+1}:Nat):Int)=(dn:Int)+1:=by rw [nO,bG.out];push_cast;rfl
    have e2:((m1.nx+1:Nat):Int)=(m1.nx:Int)+1:=by push_cast;rfl
    have hb:=G6.out
    rw [←I.out,←e,←e2] at hb
    have hm:=a0.out.upd a7.out K6.out m1.st (m1.nx+1) a1.IA a1.ic hb (aJ a0.out.it (dL (K6.out.mono fun k _ e=>.inl (.inl e)) (fun _ _ h=>h))) (.inl (by rw [I.out];have:=bo.out;omega))
    refine .inl ⟨rfl,H1,a1,m1,by rw [O];exact hm,a7.out,(fun k hk=>a4.out k (ES K6.out.size hk)),b8.out,b4.out,((Keep.below B0.out).trans Hk.out).trans (K6.out.mono fun k _ e=>.inl (.inl e)),bN.out,c9.out,HT.out H1 D V m1 Ht.out K6.out⟩
   ·have dr:(m1.nx:Int)+1=il:=by omega
    have dG:k1=(m1.st:Int):=by rw [←E1.out,uX Hy.out,b8.out]
    have ef:m1.st<6:=by have:=(mw Hs.out (x:=x) (st:=m1.st) (nx:=m1.nx) (by rw [I.out];exact bo.out)).1;have:=Hs.out.s;omega
    have d9:IntKind.i64.wrap ((m1.st:Int)+1)=((m1.st+1:Nat):Int):=by rw [ER _ (by omega)];push_cast;rfl
    subst dG
    have g6:=G6.out
    have nw:¬(Mut b a B.heap.size∨G B.heap.size):=fun h=>h.elim (fun h=>by have:=d6.out _ h;omega) (fun h=>by have:=ds.out _ h;omega)
    have dk:B.heap.size<wc.heap.size:=EL (sb G2.out wc QJ.out)
    have g3:=(Hk.out.block _ dk nw).trans (sb G2.out wc QJ.out)
    have gB:=(K6.out.block B.heap.size (EL g3) (fun e=>nw (.inl (.inl e)))).trans g3
    have hS:V.drew.cell? ⟨b,6,none⟩=some (.pointer (some ⟨a1.PP,0,none⟩))∧V.drew.cell? ⟨b,0,none⟩=some (FQ (x:Nat))∧V.drew.cell? ⟨B.heap.size,1,none⟩=some (FQ (m1.st:Nat))∧Keep (fun k=>k=b) D V.drew:=⟨EO V.drew b 6 _ _ _ g6,EO V.drew b 0 _ _ _ g6,EO V.drew B.heap.size 1 _ _ _ gB,K6.out.drew⟩
    obtain ⟨eb,ea,ee,ej,ec,e5,cb⟩:=a0.out.pl
    have bl:=xz (eR cb (nH (S:=er H1 b a1) (K6.out.drew.mono fun k _ e=>.inl (.inl e)))) Hs.out a0.out.xw (m1.st+1)
    rw [←d9] at bl
    obtain ⟨dp,dT,GB⟩:=ae bl (show V.drew.heap[b]?=_ from g6) (show V.drew.heap[B.heap.size]?=_ from gB);clear a5 g6 gB g3 cb bl
    go_wp2_with fail
    refine HA.g (fun o:World=>o.cell? ⟨b,6,none⟩=some (.pointer (some ⟨a1.PP,0,none⟩))∧o.cell? ⟨b,0,none⟩=some (FQ (x:Nat))∧o.cell? ⟨B.heap.size,1,none⟩=some (FQ (m1.st:Nat))∧Keep (fun k=>k=b) D o) ?_
    refine HA.t ?_ [0,1,2,3,4,5,6,7,8,9,10,11,12,13,14] hS ?_
    refine HA.c 15 dp.out ?_
    rintro e w7 ⟨IA,ic,rfl,co,cq,k7⟩
    have g7:=sb dT.out w7 k7
    have a8:=sb GB.out w7 k7
    have q7:=K6.out.drew.trans (Keep.below (S:=fun k=>k=b) k7)
    refine ⟨_,rfl,⟨EO w7 b 6 _ _ _ g7,EO w7 b 0 _ _ _ g7,EO w7 B.heap.size 1 _ _ _ a8,q7⟩,fun cr=>?_⟩
    refine HA.t ?_ [16,17] cr ?_
    obtain ⟨CL,bw⟩:∃CL,(bf i x (m1.st+1)).length=CL:=⟨_,rfl⟩
    rw [bw]
    have cs:=EO w7 b 15 _ _ _ g7
    have d5:=EV w7 b 15 _ _ g7
    have g8:=ss (i:=15) (v:=.slice IA CL ic) g7 rfl
    have a2:Keep (fun k=>k=b) w7 (w7.setCell ⟨b,15,none⟩ (.slice IA CL ic)):=Keep.setCell (S:=fun k=>k=b) (Keep.refl _ _) _ (.inr rfl) _
    have a3:=(a2.block _ (EL a8) (fun e=>nw (.inl (.inl e)))).trans a8
    obtain ⟨Z,U⟩:∃Z,w7.setCell ⟨b,15,none⟩ (.slice IA CL ic)=Z:=⟨_,rfl⟩
    have a6:Z.cell? ⟨b,6,none⟩=some (.pointer (some ⟨a1.PP,0,none⟩))∧Z.cell? ⟨b,0,none⟩=some (FQ (x:Nat))∧Z.cell? ⟨B.heap.size,1,none⟩=some (FQ (m1.st:Nat))∧Keep (fun k=>k=b) D Z:=⟨by rw [←U];exact EO _ b 6 _ _ _ g8,by rw [←U];exact EO _ b 0 _ _ _ g8,by rw [←U];exact EO _ B.heap.size 1 _ _ _ a3,by rw [←U];exact q7.trans a2⟩
    have cf:w7.cell? ⟨b,15,none⟩=some (.slice a1.IA il a1.ic):=cs
    clear cs
    refine HA.s 18 Z a6 ?_
    rw [U] at g8 a3 a2
    clear U cf d5
    refine HA.t ?_ [19,20] a6 ?_
    have bX:Z.cell? ⟨b,16,none⟩=some (FQ ((m1.nx:Int)+1)):=EO Z b 16 _ _ _ g8
    have bb:=EV Z b 16 _ _ g8
    have g9:=ss (i:=16) (v:=FQ 0) g8 rfl
    have b2:Keep (fun k=>k=b) Z (Z.setCell ⟨b,16,none⟩ (FQ 0)):=Keep.setCell (S:=fun k=>k=b) (Keep.refl _ _) _ (.inr rfl) _
    have ci:=(b2.block _ (EL a3) (fun e=>nw (.inl (.inl e)))).trans a3
    obtain ⟨R,L⟩:∃R,Z.setCell ⟨b,16,none⟩ (FQ 0)=R:=⟨_,rfl⟩
    have b9:R.cell? ⟨b,6,none⟩=some (.pointer (some ⟨a1.PP,0,none⟩))∧R.cell? ⟨b,0,none⟩=some (FQ (x:Nat))∧R.cell? ⟨B.heap.size,1,none⟩=some (FQ (m1.st:Nat))∧Keep (fun k=>k=b) D R:=⟨by rw [←L];exact EO _ b 6 _ _ _ g9,by rw [←L];exact EO _ b 0 _ _ _ g9,by rw [←L];exact EO _ B.heap.size 1 _ _ _ ci,by rw [←L];exact a6.2.2.2.trans b2⟩
    refine HA.s 21 R b9 ?_
    refine HA.d ?_
    rw [L] at g9
    have K9:=b9.2.2.2
    have bV:Rd (aQ (er H1 b a1) R) IA (bJ (bf i x (m1.st+1))):=by
     have d1:Keep (fun k=>k=b) w7 R:=by rw [←L];exact a2.trans b2
     have bz:∀z,IA=some z→¬er H1 b a1 z.block:=fun z hz hm=>by
      have bn:=cq z hz
      have e6:=K6.out.size
      have h3:=Hk.out.size
      have h0:=B0.out.size
      have hw:w.heap.size≤z.block:=by rw [FC] at bn;omega
      rcases hm with hm | hm
      ·have:=a0.out.mlt _ hm
       rw [FC] at bn
       omega
      ·exact a4.out _ (by rw [FC] at bn;omega) hm
     exact mq (d1.rd co (fun z hz e=>bz z hz (.inl (.inl e)))) bz
    have O:adv i x m1={m1 with st:=m1.st+1,nx:=0}:=if_neg (by rw [I.out];omega)
    have e:((bF i x {m1 with st:=m1.st+1,nx:=0}:Nat):Int)=(dn:Int)+1:=by rw [nN Hs.out (by rw [I.out];omega),bG.out];push_cast;rfl
    rw [←bw,←e] at g9
    have ox:(0:Nat)<(bf i x (m1.st+1)).length∨((0:Nat)=0∧i.cfg.steps.toNat≤m1.st+1):=by
     unfold bf
     by_cases hc:m1.st+1<i.cfg.steps.toNat
     ·rw [if_pos hc];exact .inl (fR _ _ _)
     ·exact .inr ⟨rfl,by omega⟩
    have hm:=a0.out.upd a7.out K9 (m1.st+1) 0 IA ic g9 bV ox
    have HF:=aa (⟨H1,{a1 with IA:=IA,ic:=ic},m1,by rw [O];exact hm,a7.out,(fun k hk=>a4.out k (ES K9.size hk)),b8.out,b4.out,((Keep.below B0.out).trans Hk.out).trans (K9.mono fun k _ e=>.inl (.inl e)),bN.out,c9.out,HT.out H1 D R m1 Ht.out K9⟩:Cv G b i x a m T w R);clear hm O bV ox e g9 ci b2 L b9 K9 a6 cr hS g8 a3 a2 g7 a8 q7 k7 co cq bX bb
    go_wp2_with fail
    go_ret
    exact .inl ⟨rfl,HF.out⟩
theorem iQ {H G:Nat→Prop} {w:World} {b x:Nat} {i:Inp} {a:MAd} {m:Mst} (h:aC H w b i x a m) (hn:∀k,Mut b a k→¬H k) (A:∀k,w.heap.size≤k→¬H k) (Q:∀k,G k→k<w.heap.size) (hs:bP i) {y:Itm} (hy:(bf i x m.st)[m.nx]?=some y) (u v:Option Addr)
  (f:Nat) (D:∀o,Sem.run Tryz.prog (Instr.index 328 (.agg FS) (FQ (y.kind:Nat))) o=.ok (.func (.func f) #[] #[]) o) (Z:∀args w,(callFunc f args).run Tryz.prog w=.ok (.enter f args) w)
  (V:Int→Prop) (T:World→Mst→Prop) (hT:∀I N m1,T I m1→Keep (fun k=>k=b) I N→T N m1)
  (hd:∀o,Below w.heap.size w o→Calls Tryz.prog f #[.pointer (some ⟨b,0,none⟩),.agg (aS y).toArray,.agg #[.pointer u,.pointer v]] o fun e B=>(e=.returned (FQ 0)∧Did H G b i x a m w.heap.size T o B)∨(∃C:Int,C≠0∧V C∧e=.returned (FQ C)∧Below o.heap.size o B)):
  Calls Tryz.prog 216 #[.pointer (some ⟨b,0,none⟩),.pointer u,.pointer v] w fun e o=>(e=.returned (FQ 0)∧s8 H G b i x a m T w o)∨(∃C:Int,C≠0∧V C∧e=.returned (FQ C)∧Below w.heap.size w o):=by
 refine (rX h hn A Q hs hy u v f D Z V (fun U w m=>U=H∧T w m) (fun U I N m1 ht k=>⟨ht.1,hT I N m1 ht.2 k⟩) (fun o q=>(hd o q).mono ?_)).mono ?_
 ·rintro e B (⟨he,a1,m1,R,O,Y,J,L,D,h6⟩ | h)
  ·exact .inl ⟨he,H,a1,m1,R,fun k hk=>(L k hk).elim (hn k) (A k),fun k hk=>A k (ES (ES q.size J.size) hk),O,Y,J,L,D,rfl,h6⟩
  ·exact .inr h
 ·rintro e o (⟨he,U,a1,m1,R, -, -,O,Y,J,L,D,rfl,h6⟩ | h)
  ·exact .inl ⟨he,a1,m1,R,O,Y,J,L,D,h6⟩
  ·exact .inr h
theorem aC.setG {H:Nat→Prop} {w A:World} {b x:Nat} {i:Inp} {a:MAd} {m:Mst} (h:aC H w b i x a m) (hn:∀k,Mut b a k→¬H k) (hk:Keep (fun k=>k=a.bg) w A) (G:List Int)
  (oG:A.ownsRow 0 2 1 (.slice (some ⟨a.bg,0,none⟩) i.start.length a.cg) i.start.length (ar .i64 G)) (wG:G.length=i.start.length∧W64 G):aC H A b i x a {m with G:=G}:=by
 have he:Ext (aQ (er H b a) w) (aQ (er H b a) A):=dL (hk.mono fun k _ e=>.inl (.inr (.inr (.inr (.inl e))))) (fun k _ hS=>hS)
 have hb:=(hk.block b (EL h.blk) (fun e=>an h.blk (by decide) h.oG (by rw [e];rfl))).trans h.blk
 have o:∀{v:Value} {e size n xs},(∀j,v.ownBlock=some j→j≠a.bg)→w.ownsRow 0 e size v n xs→A.ownsRow 0 e size v n xs:=fun u o=>hk.own o (fun j y e=>u j y e)
 have I:∀{v:Value} {e:TypeId} {size n:Nat} {xs:List Value},e≠2→w.ownsRow 0 e size v n xs→∀j,v.ownBlock=some j→j≠a.bg:=fun u o j y e=>by
  rcases h.oG.2 with ⟨B,_⟩ | ⟨r',_,_,B,_,L,_⟩
  ·cases B
  ·simp only [FD,Option.some.injEq,Addr.mk.injEq] at B
   obtain ⟨⟨Y,_⟩,_⟩:=B
   exact an L (Ne.symm u) o (by rw [y,e,Y])
 obtain ⟨V,a1,Z,O,Q,C,R⟩:=h.pl
 obtain ⟨rows,D,U,J,N⟩:=h.re
 exact ⟨hb,dx h.sh he,gu cz h.ex he,eQ h.sa he,⟨V,a1,Z,O,Q,C,eR R he⟩,aJ h.bu he,aJ h.it he,⟨rows,o (I (by decide) D) D,U,J,fun j x T=>cz (N j x T) he⟩,
  o (fun j y=>by cases y;exact h.dj.2.1) h.oP,o (fun j y=>by cases y;exact h.dj.2.2) h.oM,oG,o (I (by decide) h.oO) h.oO,h.dj,fun k _ hm=>hn k hm,h.wP,h.wM,wG,h.ox,h.xw⟩
theorem uD {p:Pln} {x st:Nat} {y:Itm} (h:y∈aw p x st) (hk:y.kind=1):y.n<p.mi:=by
 unfold aw at h
 simp only [FE,List.mem_map,List.mem_flatMap,List.mem_singleton,List.mem_range] at h
 rcases h with (⟨k,i,rfl⟩ | ⟨g,_,h⟩) | rfl
 ·exact i
 ·unfold bU at h
  simp only [FE,List.mem_map,List.mem_flatMap] at h
  rcases h with (⟨_,_,rfl⟩ | ⟨_,_,_,_,_,_,h⟩) | ⟨_,_,rfl⟩
  ·cases hk
  ·unfold aN at h
   obtain ⟨c,_,rfl⟩:=List.mem_map.1 h
   unfold eO at hk
   split at hk<;>cases hk
  ·cases hk
 ·cases hk
theorem dD {i:Inp} {x st nx:Nat} {y:Itm} (h:(bf i x st)[nx]?=some y):st<i.cfg.steps.toNat∧y∈aw (ao i) x st:=by
 unfold bf at h
 by_cases hc:st<i.cfg.steps.toNat
 ·rw [if_pos hc] at h;exact ⟨hc,List.mem_of_getElem? h⟩
 ·rw [if_neg hc] at h;simp at h
theorem uN (i:Inp) (P G:List Int) (h:W64 G):∀l:List Ex,W64 (eP i P G l):=by
 intro l
 induction l generalizing G with
 | nil=>exact h
 | cons e l ih=>exact ih _ (oa _ _)
theorem nz {i:Inp} {P:List Int} {n:Nat} (l:List Ex):∀G:List Int,G.length=n→(eP i P G l).length=n:=by
 induction l with
 | nil=>intro G h;exact h
 | cons e l ih=>intro G h;exact ih _ (by rw [sY];exact h)
theorem Keep.sub {S S':Nat→Prop} {w i:World} (h:Keep S w i) (o:∀k,S k→S' k):Keep S' w i:=h.mono fun k _ hk=>o k hk
theorem Ba {H:Nat→Prop} {w:World} {b x:Nat} {i:Inp} {a:MAd} {m:Mst} (h:aC H w b i x a m) (hn:∀k,Mut b a k→¬H k) (A:∀k,w.heap.size≤k→¬H k) (N:bP i) {y:Itm} (I:(bf i x m.st)[m.nx]?=some y) (hk:y.kind=1) (u v:Option Addr):
  Calls Tryz.prog 216 #[.pointer (some ⟨b,0,none⟩),.pointer u,.pointer v] w fun e D=>e=.returned (FQ 0)∧s8 H (fun _=>False) b i x a m (fun _ m1=>m1={m with G:=eP i m.P m.G (fF i.data (qx i x m.st y.n))}) w D:=by
 obtain ⟨R,Q⟩:=dD I
 have T:=uD Q hk
 have o:=uX I
 refine (iQ h hn A (G:=fun _=>False) (fun _ h=>h.elim) N I u v 224 (fun D=>by rw [hk];kernel_rfl) (fun args w=>by kernel_rfl) (fun _=>False) (fun _ m1=>m1={m with G:=eP i m.P m.G (fF i.data (qx i x m.st y.n))}) (fun _ _ _ h _=>h) (fun D q=>?_)).mono ?_
 ·have J:=h.below q hn
  refine (yc J N y (.pointer u) (.pointer v) rfl rfl (by rw [o];exact R) T).mono ?_
  rintro e U ⟨rfl,B,L⟩
  rw [o] at L
  exact .inl ⟨rfl,a,_,J.setG hn B _ L ⟨nz _ _ h.wG.1,uN _ _ _ h.wG.2 _⟩,rfl,rfl,B.sub (fun k e=>.inl (.inr (.inr (.inr (.inl e))))),fun k hm=>.inl hm,⟨rfl,rfl,rfl⟩,rfl⟩
 ·rintro e D (⟨rfl,O⟩ | ⟨C,_,V,_⟩)
  ·exact ⟨rfl,O⟩
  ·exact V.elim
theorem aC.setO {H:Nat→Prop} {w A:World} {b x:Nat} {i:Inp} {a:MAd} {m:Mst} (h:aC H w b i x a m) (hn:∀k,Mut b a k→¬H k) (C:∀k,w.heap.size≤k→¬H k) (ov:Value) (op:List Nat)
  (hk:Keep (fun k=>k=b∨a.ov.ownBlock=some k) w A) (hb:A.heap[b]?=some (.cells #[FQ (x:Nat),FQ i.cfg.workers,FQ i.cfg.micros,.pointer (some ⟨({a with ov:=ov}:MAd).F,0,none⟩),.slice ({a with ov:=ov}:MAd).E i.data.length ({a with ov:=ov}:MAd).ce,.pointer (some ⟨({a with ov:=ov}:MAd).S,0,none⟩),.pointer (some ⟨({a with ov:=ov}:MAd).PP,0,none⟩),.slice ({a with ov:=ov}:MAd).BA (ao i).buks.length ({a with ov:=ov}:MAd).bc,FQ i.cfg.rate,FQ i.cfg.mom,FQ i.cfg.shift,.slice (some ⟨({a with ov:=ov}:MAd).bp,0,none⟩) i.start.length ({a with ov:=ov}:MAd).cp,.slice (some ⟨({a with ov:=ov}:MAd).bm,0,none⟩) i.start.length ({a with ov:=ov}:MAd).cm,.slice (some ⟨({a with ov:=ov}:MAd).bg,0,none⟩) i.start.length ({a with ov:=ov}:MAd).cg,.slice (some ⟨({a with ov:=ov}:MAd).rb,0,none⟩) m.rc.length ({a with ov:=ov}:MAd).rc,.slice ({a with ov:=ov}:MAd).IA (bf i x m.st).length ({a with ov:=ov}:MAd).ic,FQ (m.nx:Nat),FQ (bF i x m:Nat),({a with ov:=ov}:MAd).ov] 179 (0,0)))
  (oO:A.ownsRow 0 3 1 ov op.length (ar .i64 (dW op))) (hv:∀k,ov.ownBlock=some k→a.ov.ownBlock=some k∨w.heap.size≤k):aC H A b i x {a with ov:=ov} {m with op:=op}∧∀k,Mut b {a with ov:=ov} k→Mut b a k∨w.heap.size≤k:=by
 have y:∀k,Mut b {a with ov:=ov} k→Mut b a k∨w.heap.size≤k:=by
  rintro k (o | o | o | o | o | o)
  ·exact .inl (.inl o)
  ·exact .inl (.inr (.inl o))
  ·exact .inl (.inr (.inr (.inl o)))
  ·exact .inl (.inr (.inr (.inr (.inl o))))
  ·exact .inl (.inr (.inr (.inr (.inr (.inl o)))))
  ·exact (hv k o).imp (fun B=>.inr (.inr (.inr (.inr (.inr B))))) id
 have he:Ext (aQ (er H b a) w) (aQ (er H b {a with ov:=ov}) A):=dL (hk.mono fun k _ e=>.inl (e.imp id fun B=>.inr (.inr (.inr (.inr B))))) (fun k hl hS=>hS.imp (fun o=>(y k o).elim id (fun B=>by omega)) id)
 have u:∀{v:Value} {e:TypeId} {size n:Nat} {xs:List Value},e≠179→e≠3→w.ownsRow 0 e size v n xs→A.ownsRow 0 e size v n xs:=fun o B u=>hk.own u (fun j J e=>by
  rcases e with e | e
  ·exact an h.blk (Ne.symm o) u (by rw [J,e])
  ·rcases h.oO.2 with ⟨D,_⟩ | ⟨N,_,_,D,_,Q,_⟩
   ·rw [D] at e;cases e
   ·rw [D] at e
    have e3:N=j:=by simpa [Value.ownBlock] using e
    exact an Q (Ne.symm B) u (by rw [J,e3]))
 obtain ⟨a0,a1,a2,T,U,I,V⟩:=h.pl
 obtain ⟨rows,O,Z,L,R⟩:=h.re
 exact ⟨⟨hb,dx h.sh he,gu cz h.ex he,eQ h.sa he,⟨a0,a1,a2,T,U,I,eR V he⟩,aJ h.bu he,aJ h.it he,⟨rows,u (by decide) (by decide) O,Z,L,fun j x Y=>cz (R j x Y) he⟩,
  u (by decide) (by decide) h.oP,u (by decide) (by decide) h.oM,u (by decide) (by decide) h.oG,oO,h.dj,fun k _ hm=>(y k hm).elim (hn k) (C k),h.wP,h.wM,h.wG,h.ox,h.xw⟩,y⟩
theorem rV {H:Nat→Prop} {w:World} {b x:Nat} {i:Inp} {a:MAd} {m:Mst} (h:aC H w b i x a m) (hn:∀k,Mut b a k→¬H k) (N:∀k,w.heap.size≤k→¬H k) (hl:m.op.length≤1000) (y:Itm) (u v:Value) (hu:u.oneCell'=true) (hv:v.oneCell'=true):
  Calls Tryz.prog 225 #[.pointer (some ⟨b,0,none⟩),.agg (aS y).toArray,.agg #[u,v]] w fun e A=>e=.returned (FQ 0)∧Did H (fun _=>False) b i x a m w.heap.size (fun _ m1=>m1={m with op:=m.op++[y.n]}) w A:=by
 have O:=h.blk
 obtain ⟨W0,W1,V,T,g0,g1,D, -⟩:=ge w (aS y).toArray #[u,v] 152 333
 have J:=sb O _ D
 have R:=aq h.oO D
 have nt:=fun c cs t' sg (a4:W1.heap[c]?=some (.cells cs t' sg)) (a1:t'≠3) (e:a.ov.ownBlock=some c)=>an a4 a1 R e.symm
 have kb:=fun A (q:Keep (fun j=>a.ov.ownBlock=some j) W1 A)=>(q.block b (EL J) (nt _ _ _ _ J (by decide))).trans J
 have k0:=fun A (q:Keep (fun j=>a.ov.ownBlock=some j) W1 A)=>(q.block w.heap.size (EL g0) (nt _ _ _ _ g0 (by decide))).trans g0
 have a5:∀A,Keep (fun j=>a.ov.ownBlock=some j) W1 A→A.cell? ⟨b,18,none⟩=some a.ov:=fun A q=>EO A b 18 _ _ _ (kb A q)
 have s2:∀A,Keep (fun j=>a.ov.ownBlock=some j) W1 A→A.cell? ⟨w.heap.size,2,none⟩=some (FQ (y.n:Nat)):=fun A q=>EO A w.heap.size 2 _ _ _ (k0 A q)
 obtain ⟨a2,a3,KB,O1,K1,HM,Hn,Z⟩:=aj V T kb R D h hn N;have NT:=aa (nt b _ _ _ J (by decide))
 have q0:Keep (fun j=>a.ov.ownBlock=some j) W1 W1.drew:=(Keep.refl _ _).drew
 have a6:w.heap.size≤W1.heap.size:=D.size
 clear V T g0 g1 D J R nt kb k0 O h hn N
 go_enter Tryz.func225,Tryz.ntmps225
 go_wp2_with fail
 rw [a2.out,a3.out]
 refine XA.g 9 (fun A:World=>Keep (fun j=>a.ov.ownBlock=some j) W1 A) ?_
 refine XA.t ?_ [0,1,2,3,4,5,6] q0 ?_
 refine XA.v 7 (W1.drew.alloc (.cells #[FQ (y.n:Nat)] 3)) (.slice (some ⟨W1.heap.size,0,none⟩) 1 1) (q0.alloc _) ?_
 refine XA.o 8 (fun K' hK=>?_)
 have hO:=(O1.out.drew).alloc (.cells #[FQ (y.n:Nat)] 3)
 refine bS fq (.tmp 11) (.tmp 14) rfl rfl 0 a.ov m.op.length _ rfl hO (some ⟨W1.heap.size,0,none⟩) 1 1 [FQ (y.n:Nat)] rfl (fun k u hu=>⟨_,_,rfl,by rw [FI,EO _ W1.heap.size k _ 3 (0,0) (EN W1.drew _)];simpa using hu⟩) rfl (by simp [Value.oneCell']) (by omega) (by unfold maxLen;omega) (EQ _) ?_
 intro Y c5 Q o5 b5 g5 a0
 have q5:=(q0.alloc (.cells #[FQ (y.n:Nat)] 3)).grown g5 (fun k hk=>.inr hk)
 refine hK.out _ _ q5 fun _=>?_
 refine XA.e ?_
 simp only [Fm,Fo]
 have C:=KB.out Q q5
 have e8:=ss (i:=18) (v:=.slice Y (m.op.length+1) c5) C rfl
 have k8:Keep (fun k=>k=b) Q (Q.setCell ⟨b,18,none⟩ (.slice Y (m.op.length+1) c5)):=Keep.setCell (S:=fun k=>k=b) (Keep.refl _ _) _ (.inr rfl) _
 have o8:=k8.own o5 (fun j hj e=>an C (by decide) o5 (by rw [hj,e]))
 have a8:Q.cell? ⟨b,18,none⟩=some a.ov:=EO Q b 18 _ _ _ C
 have a7:=EV Q b 18 _ _ C
 have l5:=EL C
 have L:Keep (fun k=>k=b∨a.ov.ownBlock=some k) w (Q.setCell ⟨b,18,none⟩ (.slice Y (m.op.length+1) c5)):=((Keep.below K1.out).trans (q5.mono fun k _ e=>.inr e)).trans (k8.mono fun k _ e=>.inl e)
 have U:ar .i64 (dW m.op)++[FQ (y.n:Nat)]=ar .i64 (dW (m.op++[y.n])):=by simp [dW,ar]
 rw [U] at o8
 have B:(m.op++[y.n]).length=m.op.length+1:=by simp
 rw [←B] at e8 o8 L
 have I:=HM.out.setO Hn.out Z.out (.slice Y (m.op++[y.n]).length c5) (m.op++[y.n]) L e8 o8 (fun k hk=>by
  rcases a0 with h1 | h1
  ·rw [B] at hk;exact .inl (by rw [←h1];exact hk)
  ·rw [B] at hk;rw [h1] at hk;exact .inr (by simp at hk;omega))
 have HF:=aa (⟨{a with ov:=.slice Y (m.op++[y.n]).length c5},{m with op:=m.op++[y.n]},I.1,rfl,rfl,L.sub (fun k e=>.inl (e.elim .inl (fun e=>.inr (.inr (.inr (.inr (.inr e))))))),I.2,⟨rfl,rfl,rfl⟩,rfl⟩:Did H (fun _=>False) b i x a m w.heap.size (fun _ m1=>m1={m with op:=m.op++[y.n]}) w _)
 rw [B] at HF
 clear I L U o8 e8 k8 C a0 g5 b5 o5 q5 hO q0 a5 s2 hK K' B
 go_wp2_with fail
 go_ret
 exact ⟨rfl,HF.out⟩
theorem iM {e:TypeId} {base g n c:Nat}:∀(vs:List Value) (o:Nat) (w:World) (xs:List Value),w.ownsRow base e 1 (.slice (some ⟨g,0,none⟩) n c) n xs→o+vs.length≤n→(w.setCells g o vs).ownsRow base e 1 (.slice (some ⟨g,0,none⟩) n c) n (xs.take o++vs++xs.drop (o+vs.length))
 | [],o,w,xs,h,_=>by simpa [World.setCells] using h
 | v::vs,o,w,xs,h,hl=>by
  have x:xs.length=n:=by have:=h.1;omega
  simp only [List.length_cons] at hl
  have:=iM vs (o+1) _ _ (h.stored o v).1 (by omega)
  have u:(xs.set o v).take (o+1)=xs.take o++[v]:=by
   rw [List.take_add_one,List.take_set_of_le (EM o)]
   simp [show o<xs.length by omega]
  have i:(xs.set o v).drop (o+1+vs.length)=xs.drop (o+(vs.length+1)):=by
   rw [List.drop_set_of_lt (by omega)];congr 1;omega
  rw [u,i] at this
  simpa [World.setCells] using this
theorem gZ {g:Nat}:∀(vs:List Value) (o:Nat) (w:World),Keep (fun j=>j=g) w (w.setCells g o vs)
 | [],_,w=>Keep.refl _ w
 | v::vs,o,w=>(Keep.setCell (S:=fun j=>j=g) (Keep.refl _ w) ⟨g,o,none⟩ (.inr rfl) v).trans (gZ vs (o+1) _)
theorem aC.setR {H:Nat→Prop} {w D:World} {b x:Nat} {i:Inp} {a:MAd} {m:Mst} (h:aC H w b i x a m) (hn:∀k,Mut b a k→¬H k) (I:∀k,w.heap.size≤k→¬H k) (rb rc:Nat) (e:Ex) (u1 u2:Value)
  (hk:Keep (fun k=>k=b∨k=a.rb) w D) (hb:D.heap[b]?=some (.cells #[FQ (x:Nat),FQ i.cfg.workers,FQ i.cfg.micros,.pointer (some ⟨({a with rb:=rb,rc:=rc}:MAd).F,0,none⟩),.slice ({a with rb:=rb,rc:=rc}:MAd).E i.data.length ({a with rb:=rb,rc:=rc}:MAd).ce,.pointer (some ⟨({a with rb:=rb,rc:=rc}:MAd).S,0,none⟩),.pointer (some ⟨({a with rb:=rb,rc:=rc}:MAd).PP,0,none⟩),.slice ({a with rb:=rb,rc:=rc}:MAd).BA (ao i).buks.length ({a with rb:=rb,rc:=rc}:MAd).bc,FQ i.cfg.rate,FQ i.cfg.mom,FQ i.cfg.shift,.slice (some ⟨({a with rb:=rb,rc:=rc}:MAd).bp,0,none⟩) i.start.length ({a with rb:=rb,rc:=rc}:MAd).cp,.slice (some ⟨({a with rb:=rb,rc:=rc}:MAd).bm,0,none⟩) i.start.length ({a with rb:=rb,rc:=rc}:MAd).cm,.slice (some ⟨({a with rb:=rb,rc:=rc}:MAd).bg,0,none⟩) i.start.length ({a with rb:=rb,rc:=rc}:MAd).cg,.slice (some ⟨({a with rb:=rb,rc:=rc}:MAd).rb,0,none⟩) ({m with rc:=m.rc++[e]}:Mst).rc.length ({a with rb:=rb,rc:=rc}:MAd).rc,.slice ({a with rb:=rb,rc:=rc}:MAd).IA (bf i x ({m with rc:=m.rc++[e]}:Mst).st).length ({a with rb:=rb,rc:=rc}:MAd).ic,FQ (({m with rc:=m.rc++[e]}:Mst).nx:Nat),FQ (bF i x m:Nat),({a with rb:=rb,rc:=rc}:MAd).ov] 179 (0,0)))
  (rows:List (List Value)) (r2:rows.length=m.rc.length) (r3:∀r∈rows,r.length=2) (r4:∀j x,m.rc[j]?=some x→rEx (aQ (er H b a) w) (bK rows j) x) (o':D.ownsRow 0 141 2 (.slice (some ⟨rb,0,none⟩) (m.rc++[e]).length rc) (m.rc++[e]).length (List.flatten rows++[u1,u2]))
  (hu:dd D w.heap.size [u1,u2] e) (hv:rb=a.rb∨w.heap.size≤rb):aC H D b i x {a with rb:=rb,rc:=rc} {m with rc:=m.rc++[e]}∧∀k,Mut b {a with rb:=rb,rc:=rc} k→Mut b a k∨w.heap.size≤k:=by
 have L:∀k,Mut b {a with rb:=rb,rc:=rc} k→Mut b a k∨w.heap.size≤k:=by
  rintro k (o | o | o | o | o | o)
  ·exact .inl (.inl o)
  ·exact .inl (.inr (.inl o))
  ·exact .inl (.inr (.inr (.inl o)))
  ·exact .inl (.inr (.inr (.inr (.inl o))))
  ·have a8:k=rb:=o
   exact hv.imp (fun J=>.inr (.inr (.inr (.inr (.inl (a8.trans J)))))) (fun J=>by omega)
  ·exact .inl (.inr (.inr (.inr (.inr (.inr o)))))
 have he:Ext (aQ (er H b a) w) (aQ (er H b {a with rb:=rb,rc:=rc}) D):=dL (hk.mono fun k _ e=>.inl (e.elim .inl fun J=>.inr (.inr (.inr (.inr (.inl J)))))) (fun k hl hS=>hS.imp (fun o=>(L k o).elim id (fun J=>by omega)) id)
 obtain ⟨a0,a1,a2,a3,a5,a4,hp⟩:=h.pl
 obtain ⟨_,r1,_⟩:=h.re
 have C:∀{v:Value} {e:TypeId} {size n:Nat} {xs:List Value},e≠179→e≠141→w.ownsRow 0 e size v n xs→D.ownsRow 0 e size v n xs:=fun o J ho=>hk.own ho (fun j T e=>by
  rcases e with e | e
  ·exact an h.blk (Ne.symm o) ho (by rw [T,e])
  ·rcases r1.2 with ⟨B,_⟩ | ⟨r',_,_,B,_,Y,_⟩
   ·cases B
   ·simp only [FD,Option.some.injEq,Addr.mk.injEq] at B
    obtain ⟨⟨N,_⟩,_⟩:=B
    exact an Y (Ne.symm J) ho (by rw [T,e,N]))
 obtain ⟨v1,v2,R,z1,Z,z3,z4,z5,z6⟩:=hu
 simp only [List.cons.injEq,and_true] at R
 obtain ⟨rfl,rfl⟩:=R
 obtain ⟨A1,c1,rfl,ad⟩:=av z1
 obtain ⟨U,c2,rfl,a7⟩:=av Z
 have O:∀{A:Option Addr} {n c:Nat} {xs:List Value},D.ownsRow w.heap.size 2 1 (.slice A n c) n xs→∀y,A=some y→¬er H b {a with rb:=rb,rc:=rc} y.block:=fun Q y hy hm=>by
  have o:=(eg Q y hy).1
  rcases hm with hm | hm
  ·rcases hm with hm | hm | hm | hm | hm | hm
   ·have:=h.mlt _ (.inl hm);omega
   ·have:=h.mlt _ (.inr (.inl hm));omega
   ·have:=h.mlt _ (.inr (.inr (.inl hm)));omega
   ·have:=h.mlt _ (.inr (.inr (.inr (.inl hm))));omega
   ·have V:y.block=rb:=hm
    rcases o'.2 with ⟨B,_⟩ | ⟨r',_,_,B,_,Y,_⟩
    ·cases B
    ·simp only [FD,Option.some.injEq,Addr.mk.injEq] at B
     obtain ⟨⟨N,_⟩,_⟩:=B
     exact an Y (by decide) Q (by rw [hy];show some r'=some y.block;rw [V,N])
   ·have:=h.mlt _ (.inr (.inr (.inr (.inr (.inr hm)))));omega
  ·exact I _ o hm
 refine ⟨⟨hb,dx h.sh he,gu cz h.ex he,eQ h.sa he,⟨a0,a1,a2,a3,a5,a4,eR hp he⟩,aJ h.bu he,aJ h.it he,⟨rows++[[.slice A1 e.1.length c1,.slice U e.2.length c2]],?_,by simp [r2],?_,fun j z Q=>?_⟩,
  C (by decide) (by decide) h.oP,C (by decide) (by decide) h.oM,C (by decide) (by decide) h.oG,C (by decide) (by decide) h.oO,h.dj,fun k _ hm=>(L k hm).elim (hn k) (I k),h.wP,h.wM,h.wG,h.ox,h.xw⟩,L⟩
 ·rw [FA,List.flatten_cons,List.flatten_nil,List.append_nil];exact o'
 ·intro r hr
  rcases FE.1 hr with hr | hr
  ·exact r3 r hr
  ·rw [List.mem_singleton.1 hr];rfl
 ·rcases Fa j m.rc.length with T | T
  ·have u:(m.rc++[e])[j]?=some z:=Q
   rw [Ft T] at u
   have N:bK (rows++[[.slice A1 e.1.length c1,.slice U e.2.length c2]]) j=bK rows j:=by simp [bK,Ft (show j<rows.length by omega)]
   rw [N];exact cz (r4 j z u) he
  ·have u:(m.rc++[e])[j]?=some z:=Q
   have a6:j=m.rc.length:=by have:=(Fq.1 u).1;simp at this;omega
   subst a6
   simp at u
   subst u
   have N:bK (rows++[[.slice A1 e.1.length c1,.slice U e.2.length c2]]) m.rc.length=[.slice A1 e.1.length c1,.slice U e.2.length c2]:=by rw [←r2];simp [bK]
   rw [N]
   exact ⟨A1,c1,U,c2,rfl,⟨ad,z3,mq (Rd.own z1) (O z1),z5⟩,⟨a7,z4,mq (Rd.own Z) (O Z),z6⟩⟩
theorem yE {w:World} {g n c:Nat} {xs:List Value} (u:TypeId) (h:w.ownsRow 0 2 1 (.slice (some ⟨g,0,none⟩) n c) n xs) (hn:0<n):
  (Builtin.clear_ #[139] u #[.slice (some ⟨g,0,none⟩) n c]).run Tryz.prog w=.ok (.tuple #[]) (w.setCells g 0 (List.replicate n (FQ 0))):=by
 obtain ⟨i,x,o,_⟩:=iV.info
 have hl:=h.1
 refine Lib.run_clear_slice w 139 2 u (FQ 0) iV.und (fun y=>?_) rfl rfl g 0 n c hn (fun j v=>?_) (fun j v=>?_)
 ·simp [zeroValue,typeInfo,x,o]
 ·rw [FI,h.cellAt j (by omega),Fr (by omega)];rfl
 ·rw [FI];exact h.frozenAt j
theorem rU {H:Nat→Prop} {w:World} {b x:Nat} {i:Inp} {a:MAd} {m:Mst} (h:aC H w b i x a m) (hn:∀k,Mut b a k→¬H k) (V:∀k,w.heap.size≤k→¬H k) (hs:bP i) (hl:m.rc.length≤1000) (y:Itm) (u v:Value) (hu:u.oneCell'=true) (hv:v.oneCell'=true):
  Calls Tryz.prog 229 #[.pointer (some ⟨b,0,none⟩),.agg (aS y).toArray,.agg #[u,v]] w fun e A=>e=.returned (FQ 0)∧Did H (fun _=>False) b i x a m w.heap.size (fun _ m1=>m1={m with rc:=m.rc++[(m.P,m.M)],G:=List.replicate i.start.length 0}) w A:=by
 have I:=h.blk
 have b8:=hs.n
 have a7:0<i.start.length:=hs.n1
 obtain ⟨W0,W1,a4,a3,g0,g1,L, -⟩:=ge w (aS y).toArray #[u,v] 152 333
 obtain ⟨rows,r1,r2,r3,r4⟩:=h.re
 have Q:=sb I _ L
 have a2:=aq r1 L
 have nt:b≠a.rb:=fun e=>by
  rcases r1.2 with ⟨e',_⟩ | ⟨r',_,_,e',_,hg,_⟩
  ·cases e'
  ·simp only [FD,Option.some.injEq,Addr.mk.injEq] at e'
   obtain ⟨⟨e1,_⟩,_⟩:=e'
   rw [e,e1,hg] at I
   simp at I
 have kb:=fun A (q:Keep (fun j=>j=a.rb) W1 A)=>(q.block b (EL Q) nt).trans Q
 have b7:∀A,Keep (fun j=>j=a.rb) W1 A→A.cell? ⟨b,14,none⟩=some (.slice (some ⟨a.rb,0,none⟩) m.rc.length a.rc):=fun A q=>EO A b 14 _ _ _ (kb A q)
 have a8:∀A,Keep (fun j=>j=a.rb) W1 A→A.cell? ⟨b,11,none⟩=some (.slice (some ⟨a.bp,0,none⟩) i.start.length a.cp):=fun A q=>EO A b 11 _ _ _ (kb A q)
 have b0:∀A,Keep (fun j=>j=a.rb) W1 A→A.cell? ⟨b,12,none⟩=some (.slice (some ⟨a.bm,0,none⟩) i.start.length a.cm):=fun A q=>EO A b 12 _ _ _ (kb A q)
 have a6:=fun A (q:Below W1.heap.size W1 A)=>lO (some ⟨a.bp,0,none⟩) (some ⟨a.bm,0,none⟩) i.start.length a.cp a.cm m.P m.M A (Rd.own (aq (aq h.oP L) q)) (Rd.own (aq (aq h.oM L) q)) h.wP.1 h.wM.1 (by omega)
 obtain ⟨b6,b1,KB,R1,K1,R,Hn,U⟩:=aj a4 a3 kb a2 L h hn V;obtain ⟨NT,b2,R2,R3,R4⟩:=ag nt a6 r2 r3 r4
 have q0:Keep (fun j=>j=a.rb) W1 W1.drew:=(Keep.refl _ _).drew
 have tl:=fun A (q:Keep (fun j=>j=a.rb) W1 A)=>ET (EL Q) q.size
 clear a4 a3 g0 g1 L Q a2 nt kb I h hn V a6 r1 r2 r3 r4
 go_enter Tryz.func229,Tryz.ntmps229
 go_wp2_with fail
 rw [b6.out,b1.out]
 refine XA.g 12 (fun A:World=>Keep (fun j=>j=a.rb) W1 A) ?_
 refine XA.t ?_ [0,1,2,3,4,5,6,7,8] q0 ?_
 refine XA.c 9 (b2.out _ ((br W1).drew)) ?_
 rintro e T ⟨A1,c1,Y,c2,rfl,bl,bd,o1,o2, -,k3⟩
 have b3:Below W1.heap.size W1 T:=(br W1).drew.trans k3
 have q3:Keep (fun j=>j=a.rb) W1 T:=Keep.below b3
 refine ⟨_,rfl,q3,fun _=>?_⟩
 refine XA.v 10 (T.alloc (.cells #[.slice A1 i.start.length c1,.slice Y i.start.length c2] 141)) (.slice (some ⟨T.heap.size,0,none⟩) 1 1) (q3.alloc _) ?_
 refine XA.o 11 (fun K' hK=>?_)
 have hO:=(aq R1.out b3).alloc (.cells #[.slice A1 i.start.length c1,.slice Y i.start.length c2] 141)
 refine bS DZ (.tmp 11) (.tmp 17) rfl rfl 0 (.slice (some ⟨a.rb,0,none⟩) m.rc.length a.rc) m.rc.length _ rfl hO (some ⟨T.heap.size,0,none⟩) 1 1 [.slice A1 i.start.length c1,.slice Y i.start.length c2] rfl (fun k u hu=>⟨_,_,rfl,by rw [FI,EO _ T.heap.size k _ 141 (0,0) (EN T _)];simpa using hu⟩) rfl (by simp [Value.oneCell']) (by omega) (by unfold maxLen;omega) (EQ _) ?_
 intro A5 c5 N o5 b5 g5 a1
 have b4:∃g,A5=some ⟨g,0,none⟩:=by
  obtain ⟨g,_,e,_⟩:=o5.form (by omega)
  simp only [FD] at e
  exact ⟨g,e.1⟩
 obtain ⟨g,rfl⟩:=b4
 have q5:=(q3.alloc (.cells #[.slice A1 i.start.length c1,.slice Y i.start.length c2] 141)).grown g5 (fun k hk=>.inr (by cases hk;rfl))
 refine hK.out _ _ q5 fun _=>?_
 refine XA.e ?_
 simp only [Fm,Fo]
 have C:=KB.out N q5
 have D:(m.rc++[(m.P,m.M)]).length=m.rc.length+1:=by simp
 have e8:=ss (i:=14) (v:=.slice (some ⟨g,0,none⟩) (m.rc.length+1) c5) C rfl
 have k8:Keep (fun k=>k=b) N (N.setCell ⟨b,14,none⟩ (.slice (some ⟨g,0,none⟩) (m.rc.length+1) c5)):=Keep.setCell (S:=fun k=>k=b) (Keep.refl _ _) _ (.inr rfl) _
 have o8:=k8.own o5 (fun j hj e=>an C (by decide) o5 (by rw [hj,e]))
 have z1:=iN (o1.alloc (.cells #[.slice A1 i.start.length c1,.slice Y i.start.length c2] 141)) hO g5 (by decide)
 have z2:=iN (o2.alloc (.cells #[.slice A1 i.start.length c1,.slice Y i.start.length c2] 141)) hO g5 (by decide)
 have Z:=aA (base':=w.heap.size) (k8.own z1 (fun j hj e=>an C (by decide) z1 (by rw [hj,e]))) (ES K1.out.size (br W1).drew.size)
 have a0:=aA (base':=w.heap.size) (k8.own z2 (fun j hj e=>an C (by decide) z2 (by rw [hj,e]))) (ES K1.out.size (br W1).drew.size)
 have bb:N.cell? ⟨b,14,none⟩=some (.slice (some ⟨a.rb,0,none⟩) m.rc.length a.rc):=EO N b 14 _ _ _ C
 have bh:=EV N b 14 _ _ C
 have l5:=EL C
 have J:Keep (fun k=>k=b∨k=a.rb) w (N.setCell ⟨b,14,none⟩ (.slice (some ⟨g,0,none⟩) (m.rc.length+1) c5)):=((Keep.below K1.out).trans (q5.mono fun k _ e=>.inr e)).trans (k8.mono fun k _ e=>.inl e)
 have O:(N.setCell ⟨b,14,none⟩ (.slice (some ⟨g,0,none⟩) (m.rc.length+1) c5)).cell? ⟨b,13,none⟩=some (.slice (some ⟨a.bg,0,none⟩) i.start.length a.cg):=EO _ b 13 _ _ _ e8
 rw [←D] at e8 o8 J O
 have a5:dd (N.setCell ⟨b,14,none⟩ (.slice (some ⟨g,0,none⟩) (m.rc++[(m.P,m.M)]).length c5)) w.heap.size [.slice A1 i.start.length c1,.slice Y i.start.length c2] (m.P,m.M):=by
  rw [D]
  refine ⟨_,_,rfl,?_,?_,?_,?_,R.out.wP.2,R.out.wM.2⟩
  ·show World.ownsRow _ _ _ _ _ m.P.length _;rw [R.out.wP.1];exact Z
  ·show World.ownsRow _ _ _ _ _ m.M.length _;rw [R.out.wM.1];exact a0
  ·show m.P.length≤_;rw [R.out.wP.1];omega
  ·show m.M.length≤_;rw [R.out.wM.1];omega
 have B:=R.out.setR Hn.out U.out g c5 (m.P,m.M) _ _ J e8 rows R2.out R3.out R4.out o8 a5 (by
  rcases a1 with h1 | h1
  ·left;simpa [Value.ownBlock] using h1
  ·right
   have h2:g=T.heap.size+1:=by simpa [Value.ownBlock] using h1
   have:=K1.out.size;have:=b3.size
   omega)
 rw [D] at B O J
 obtain ⟨w8,ad⟩:∃w8,N.setCell ⟨b,14,none⟩ (.slice (some ⟨g,0,none⟩) (m.rc.length+1) c5)=w8:=⟨_,rfl⟩
 rw [ad] at B O J
 have bi:b<w8.heap.size:=au O
 have b9:=fun ty=>yE ty B.1.oG a7
 have k9:=gZ (g:=a.bg) (List.replicate i.start.length (FQ 0)) 0 w8
 have o9:=iM (List.replicate i.start.length (FQ 0)) 0 w8 _ B.1.oG (by simp)
 have e9:(ar .i64 m.G).take 0++List.replicate i.start.length (Value.int .i64 0)++(ar .i64 m.G).drop (0+(List.replicate i.start.length (Value.int .i64 0)).length)=ar .i64 (List.replicate i.start.length 0):=by
  rw [List.take_zero,List.nil_append,Fx,FI,List.drop_eq_nil_of_le (by rw [aK,R.out.wG.1];exact EM _),List.append_nil,gj]
 rw [e9] at o9
 have hG:=B.1.setG (fun k hk=>(B.2 k hk).elim (Hn.out k) (U.out k)) k9 (List.replicate i.start.length 0) o9 ⟨by simp,CJ _⟩
 have HF:=aa (⟨_,_,hG,rfl,rfl,(J.sub (fun k e=>.inl (e.elim .inl (fun e=>.inr (.inr (.inr (.inr (.inl e)))))))).trans (k9.sub (fun k e=>.inl (.inr (.inr (.inr (.inl e)))))),B.2,⟨rfl,rfl,rfl⟩,rfl⟩:Did H (fun _=>False) b i x a m w.heap.size (fun _ m1=>m1={m with rc:=m.rc++[(m.P,m.M)],G:=List.replicate i.start.length 0}) w _);clear hG B J o9 e9 k9 a5 z1 z2 Z a0 o8 e8 k8 C a1 g5 b5 o5 q5 hO q0 b7 a8 b0 hK K' D o1 o2 k3 b3 q3 tl
 go_wp2_with fail
 go_ret
 exact ⟨rfl,HF.out⟩
theorem Dn (j n:Nat):((j:Int)==(n:Int))=decide (j=n):=by rw [Bool.eq_iff_iff];simp;omega
theorem sK (X n j:Nat) (w:World) (i:w.cell? ⟨X,2,none⟩=some (FQ (n:Nat))):Calls Tryz.prog 239 #[FQ (j:Nat),.pointer (some ⟨X,0,none⟩)] w fun e h=>e=.returned (.bool (decide (j=n)))∧h=w:=by
 go_enter Tryz.func239,Tryz.ntmps239
 go_wp2_with fail
 go_ret
 exact ⟨by simp [Dn],rfl⟩
theorem ny {l:List Nat} {k j:Nat} (h:l[k]?=some j):(ar .i64 (dW l))[k]?=some (FQ (j:Nat)):=by simp [ar,dW,h]
def Ef (l:List Nat) (n:Nat) (w:World) (e:Ending) (h:World):Prop:=((∃k,k<l.length∧l[k]?=some n∧(∀j,j<k→l[j]?≠some n)∧e=.returned (FQ (k:Nat)))∨((∀j,j<l.length→l[j]?≠some n)∧e=.returned (FQ (-1))))∧h=w
theorem C8 (A:Option Addr) (l:List Nat) (c X n:Nat) (w:World) (U:Rd w A (ar .i64 (dW l))) (hl:l.length≤1000) (R:w.cell? ⟨X,2,none⟩=some (FQ (n:Nat))):
  Calls Tryz.prog 154 #[.slice A l.length c,.func (.func 239) #[] #[.pointer (some ⟨X,0,none⟩)]] w (Ef l n w):=by
 have i:=fun j=>sK X n j w R
 obtain ⟨N,I⟩:∃N,l.length=N:=⟨_,rfl⟩
 have C:∀e L,((∃k,k<N∧l[k]?=some n∧(∀j,j<k→l[j]?≠some n)∧e=.returned (FQ (k:Nat)))∨((∀j,j<N→l[j]?≠some n)∧e=.returned (FQ (-1))))∧L=w→Ef l n w e L:=fun e L h=>by rw [←I] at h;exact h
 rw [I] at hl ⊢
 obtain ⟨Z,HA,HN,T⟩:=af i U I C;clear i U I R C
 go_enter Tryz.func154,Tryz.ntmps154
 go_wp2_with fail
 go_loopw [8] (fun y wr=>∃k:Nat,k≤N∧y=FQ k∧(∀j,j<k→l[j]?≠some n)∧wr=w) (fun y _=>N-(intOf y).toNat)
 case atStart=>exact ⟨0,EQ _,rfl,fun j hj=>by omega,rfl⟩
 case round=>
  obtain ⟨k,hk,rfl,D,rfl⟩:=hrel
  have x:=aa D;clear D
  by_cases H:k<N
  ·have O:(k:Int)<N:=by omega
   have Y:¬(k:Int)<0:=by omega
   have a0:IntKind.i64.wrap ((k:Int)+1)=((k+1:Nat):Int):=by rw [ER _ (by omega)];push_cast;rfl
   obtain ⟨v,Q⟩:∃v,l[k]?=some v:=⟨_,Fr (by rw [HN.out];exact H)⟩
   obtain ⟨b,o,rfl,B⟩:=HA.out k _ (ny Q)
   have lb:=au B
   have V:=aa Q;clear Q
   go_wp2_with fail
   refine (Z.out v).mono ?_
   rintro e w2 ⟨rfl,rfl⟩
   by_cases u:v=n
   ·subst u
    rw [FJ rfl]
    go_wp2_with fail
    go_ret
    exact T.out _ _ ⟨.inl ⟨k,H,V.out,x.out,rfl⟩,rfl⟩
   ·rw [FK u]
    have J:=aa u;clear u
    go_wp2_with fail
    go_roundw
    case rel=>
     refine ⟨k+1,by omega,by go_num,fun j hj=>?_,trivial⟩
     rcases Fa j k with h | h
     ·exact x.out j h
     ·obtain rfl:j=k:=by omega
      rw [V.out];intro h;exact J.out (by simpa using h)
    case measure=>simp [intOf];omega
  ·have O:¬(k:Int)<N:=by omega
   obtain rfl:k=N:=by omega
   go_wp2_with fail
   go_ret
   exact T.out _ _ ⟨.inr ⟨x.out,rfl⟩,rfl⟩
theorem xG {w:World} {base g n c k:Nat} {e:TypeId} {xs:List Value} (h:w.ownsRow base e 1 (.slice (some ⟨g,0,none⟩) n c) n xs) (hk:k≤n):w.ownsRow base e 1 (.slice (some ⟨g,0,none⟩) k c) k (xs.take k):=by
 have hl:=h.1
 rcases h.2 with ⟨i,_⟩ | ⟨C,cap,o,i,y,v,B,x,A,u⟩
 ·cases i
 ·simp only [FD,Option.some.injEq,Addr.mk.injEq] at i
  obtain ⟨⟨rfl,_⟩,_,rfl⟩:=i
  refine ⟨by rw [Fv];omega,.inr ⟨g,c,o,rfl,y,v,by omega,x,A,?_⟩⟩
  rw [←u,List.take_take];congr 1;omega
def eS (l:List Nat) (n:Nat):List Nat:=l.filter fun j=>decide (j≠n)
def DG (l:List Nat) (n base g c:Nat) (w:World) (e:Ending) (h:World):Prop:=e=.returned (.slice (some ⟨g,0,none⟩) (eS l n).length c)∧h.ownsRow base 3 1 (.slice (some ⟨g,0,none⟩) (eS l n).length c) (eS l n).length (ar .i64 (dW (eS l n)))∧Keep (fun j=>j=g) w h
theorem uH (l:List Nat) (k:Nat):(ar .i64 (dW l)).take k=ar .i64 (dW (l.take k)):=by simp [ar,dW,List.map_take]
theorem yo (l:List Nat) (k v:Nat):(ar .i64 (dW l)).set k (FQ (v:Nat))=ar .i64 (dW (l.set k v)):=by simp [ar,dW,List.map_set]
theorem BN {l R:List Nat} {n i j v:Nat} (o:l[j]?=some v) (x:R.take i=eS (l.take j) n) (u:R.drop j=l.drop j) (y:i<j) (hl:R.length=l.length) (h:v≠n):(R.set i v).take (i+1)=eS (l.take (j+1)) n∧(R.set i v).drop (j+1)=l.drop (j+1):=by
 have A:=(Fq.1 o).1
 constructor
 ·rw [List.take_add_one,List.take_set_of_le (EM i),x,List.take_add_one,o]
  simp [eS,List.filter_append,h,show i<R.length by omega]
 ·rw [List.drop_set_of_lt (by omega)]
  have:=congrArg (List.drop 1) u
  simpa [List.drop_drop] using this
theorem BO {l R:List Nat} {n i j:Nat} (o:l[j]?=some n) (h:R.take i=eS (l.take j) n) (u:R.drop j=l.drop j):R.take i=eS (l.take (j+1)) n∧R.drop (j+1)=l.drop (j+1):=by
 constructor
 ·rw [h,List.take_add_one,o];simp [eS,List.filter_append]
 ·have:=congrArg (List.drop 1) u
  simpa [List.drop_drop] using this
theorem BP {l:List Nat} {n:Nat} (h:∀j,j<l.length→l[j]?≠some n):eS l n=l:=by
 refine List.filter_eq_self.2 fun x o=>?_
 obtain ⟨j,i,rfl⟩:=List.getElem_of_mem o
 have:=h j i
 rw [Fr i] at this
 simpa using this
theorem BK (g c X n base:Nat) (l:List Nat) (w:World) (V:w.ownsRow base 3 1 (.slice (some ⟨g,0,none⟩) l.length c) l.length (ar .i64 (dW l))) (hl:l.length≤1000) (hX:w.cell? ⟨X,2,none⟩=some (FQ (n:Nat))) (a8:X≠g):
  Calls Tryz.prog 238 #[.slice (some ⟨g,0,none⟩) l.length c,.func (.func 239) #[] #[.pointer (some ⟨X,0,none⟩)]] w (DG l n base g c w):=by
 have I:=C8 (some ⟨g,0,none⟩) l c X n w (Rd.own V) hl hX
 have B:=fun j Y (q:Keep (fun j=>j=g) w Y)=>sK X n j Y (q.cell hX a8)
 have a0:l.length≤c:=by
  obtain ⟨_,_,e,h⟩:=av V
  simp only [FD] at e
  omega
 obtain ⟨N,hN⟩:∃N,l.length=N:=⟨_,rfl⟩
 unfold Ef at I
 rw [hN] at I V hl a0 ⊢
 have bh:=(V.lt g rfl).2
 obtain ⟨b3,Hc,HO,U⟩:=af I B V hN;clear I B V hN hX
 go_enter Tryz.func238,Tryz.ntmps238
 go_wp2_with fail
 refine b3.out.mono ?_
 rintro e Y ⟨h,rfl⟩
 rcases h with ⟨k,b2,hk,C,rfl⟩ | ⟨C,rfl⟩
 rotate_left
 ·have hd:=BP (n:=n) (l:=l) (by rw [U.out];exact C)
  have HD:=aa hd;clear C hd
  go_wp2_with fail
  go_ret
  refine ⟨by rw [HD.out,U.out];rfl,by rw [HD.out,U.out];exact HO.out,Keep.refl _ _⟩
 ·have bv:¬(k:Int)= -1:=by omega
  have b9:IntKind.i64.wrap ((k:Int)+1)=((k+1:Nat):Int):=by rw [ER _ (by omega)];push_cast;rfl
  have h0:l.take k=eS (l.take (k+1)) n:=by
   rw [List.take_add_one,hk]
   simp only [eS,List.filter_append,Option.toList,List.filter_cons,List.filter_nil]
   simp only [ne_eq,not_true_eq_false,decide_false,Bool.false_eq_true,if_false,List.append_nil]
   exact (List.filter_eq_self.2 fun x hx=>by
    obtain ⟨j,hj,rfl⟩:=List.getElem_of_mem hx
    rw [Fv] at hj
    have:=C j (by omega)
    rw [Fr (by omega)] at this
    simpa using this).symm
  have H0:=aa h0;clear hk C h0
  go_wp2_with fail
  go_loopw [5,6] (fun y5 y6 wr=>∃i j:Nat,∃R:List Nat,y5=FQ i∧y6=FQ j∧i<j∧j≤N∧R.length=N∧R.take i=eS (l.take j) n∧R.drop j=l.drop j∧wr.ownsRow base 3 1 (.slice (some ⟨g,0,none⟩) N c) N (ar .i64 (dW R))∧Keep (fun j=>j=g) Y wr) (fun _ y _=>N-(intOf y).toNat)
  case atStart=>exact ⟨k,k+1,l,rfl,by push_cast;rfl,by omega,b2,U.out,H0.out,rfl,HO.out,Keep.refl _ _⟩
  case round=>
   obtain ⟨i,j,R,rfl,rfl,ad,bz,hR,Z,h2,J,qk⟩:=hrel
   have bw:(i:Int)<N:=by omega
   have bs:¬(i:Int)<0:=by omega
   have fr:=J.frozenAt i
   obtain ⟨ri,L⟩:∃ri,R[i]?=some ri:=⟨_,Fr (by omega)⟩
   have ci:=J.cellAt i (by omega)
   rw [ny L] at ci
   have bn:g<wr.heap.size:=(J.lt g rfl).2
   by_cases O:j<N
   ·have b1:(j:Int)<N:=by omega
    have bd:¬(j:Int)<0:=by omega
    have bl:IntKind.i64.wrap ((i:Int)+1)=((i+1:Nat):Int):=by rw [ER _ (by omega)];push_cast;rfl
    have bb:IntKind.i64.wrap ((j:Int)+1)=((j+1:Nat):Int):=by rw [ER _ (by omega)];push_cast;rfl
    obtain ⟨v,hv⟩:∃v,l[j]?=some v:=⟨_,Fr (by rw [U.out];exact O)⟩
    have a6:R[j]?=some v:=by
     have:=congrArg (fun z=>z[0]?) h2
     simpa [List.getElem?_drop,hv] using this
    have cj:=J.cellAt j (by omega)
    rw [ny a6] at cj
    obtain ⟨b4,Q,QK⟩:=ae (Hc.out v wr qk) J qk
    have D:=fun h=>BN hv Z h2 ad (hR.trans U.out.symm) h
    have H:=fun h:v=n=>BO (by rw [←h];exact hv) Z h2
    obtain ⟨a7,a4,HR⟩:=ae D H hR;clear hv a6 Z h2 J qk D H L hR
    go_wp2_with fail
    refine b4.out.mono ?_
    rintro e w2 ⟨rfl,rfl⟩
    by_cases o:v=n
    ·rw [FJ o]
     have u:=aa o;clear o
     go_wp2_with fail
     go_roundw
     case rel=>(repeat apply Exists.intro);exact ⟨⟨i,j+1,R,rfl,by go_num,by omega,O,HR.out,(a4.out u.out).1,(a4.out u.out).2,Q.out,QK.out⟩,rfl⟩
     case measure=>simp [intOf];omega
    ·rw [FK o]
     have u:=aa o;clear o
     go_wp2_with fail
     go_roundw
     case rel=>(repeat apply Exists.intro);exact ⟨⟨i+1,j+1,R.set i v,by go_num,by go_num,by omega,O,by rw [List.length_set];exact HR.out,(a7.out u.out).1,(a7.out u.out).2,by have:=(Q.out.stored i (FQ (v:Nat))).1;rwa [yo] at this,Keep.setCell (S:=fun j=>j=g) QK.out ⟨g,i,none⟩ (.inr rfl) _⟩,rfl⟩
     case measure=>simp [intOf];omega
   ·obtain rfl:j=N:=by omega
    have b1:¬(j:Int)<j:=by omega
    have b5:l.take j=l:=List.take_of_length_le (by rw [U.out];exact EM _)
    rw [b5] at Z
    obtain ⟨HD,Q,QK,HR⟩:=af Z J qk hR;clear Z h2 J qk L hR
    have b0:i≤j:=by omega
    have bo:(i:Int)≤j:=by omega
    have bi:(i:Int)≤c:=by omega
    have b8:i≤c:=by omega
    have b6:¬c=i:=by omega
    have A:(eS l n).length=i:=by rw [←HD.out,Fv];have:=HR.out;omega
    obtain ⟨zi,a3,a5,_⟩:=fq.info
    have b7:=Lib.run_clear_slice wr 22 3 0 (FQ 0) fq.und (fun Y=>by simp [zeroValue,typeInfo,a3,a5]) rfl rfl g i (j-i) (c-i) (by omega) (fun t ht=>by rw [Q.out.cellAt (i+t) (by omega),Fr (by have:=Q.out.1;omega)];rfl) (fun t ht=>Q.out.frozenAt (i+t))
    have o9:=iM (List.replicate (j-i) (FQ 0)) i wr _ Q.out (by rw [Fx];omega)
    have T:=xG o9 b0
    have a2:(((ar .i64 (dW R)).take i++List.replicate (j-i) (Value.int .i64 0)++(ar .i64 (dW R)).drop (i+(List.replicate (j-i) (Value.int .i64 0)).length)).take i)=ar .i64 (dW (eS l n)):=by
     rw [Fw,List.take_append_of_le_length (by rw [Fv,aK,yp,HR.out];omega),List.take_take,Nat.min_self,uH,HD.out]
    rw [a2] at T
    have a1:=QK.out.trans (gZ (g:=g) (List.replicate (j-i) (FQ 0)) i wr)
    have HF:=aa (⟨by rw [A],by rw [A];exact T,a1⟩:DG l n base g c Y (.returned (.slice (some ⟨g,0,none⟩) i c)) _);clear o9 T a2 a1 a3 a5 A
    go_wp2_with fail
    go_ret
    exact HF.out
theorem aC.setPM {H:Nat→Prop} {w A:World} {b x:Nat} {i:Inp} {a:MAd} {m:Mst} (h:aC H w b i x a m) (hn:∀k,Mut b a k→¬H k) (hk:Keep (fun k=>k=a.bp∨k=a.bm) w A) (P M:List Int)
  (oP:A.ownsRow 0 2 1 (.slice (some ⟨a.bp,0,none⟩) i.start.length a.cp) i.start.length (ar .i64 P)) (oM:A.ownsRow 0 2 1 (.slice (some ⟨a.bm,0,none⟩) i.start.length a.cm) i.start.length (ar .i64 M))
  (wP:P.length=i.start.length∧W64 P) (wM:M.length=i.start.length∧W64 M):aC H A b i x a {m with P:=P,M:=M}:=by
 have he:Ext (aQ (er H b a) w) (aQ (er H b a) A):=dL (hk.mono fun k _ e=>.inl (.inr (e.elim .inl fun e=>.inr (.inl e)))) (fun k _ hS=>hS)
 have nb:∀{r n c:Nat} {xs:List Value},w.ownsRow 0 2 1 (.slice (some ⟨r,0,none⟩) n c) n xs→b≠r:=fun o e=>an h.blk (by decide) o (by rw [e];rfl)
 have hb:=(hk.block b (EL h.blk) (fun e=>e.elim (nb h.oP) (nb h.oM))).trans h.blk
 have I:∀{r n c:Nat} {ys:List Value} {v:Value} {e:TypeId} {size k:Nat} {xs:List Value},w.ownsRow 0 2 1 (.slice (some ⟨r,0,none⟩) n c) n ys→e≠2→w.ownsRow 0 e size v k xs→∀j,v.ownBlock=some j→j≠r:=fun hr u y j B e=>by
  rcases hr.2 with ⟨C,_⟩ | ⟨r',_,_,C,_,N,_⟩
  ·cases C
  ·simp only [FD,Option.some.injEq,Addr.mk.injEq] at C
   obtain ⟨⟨Z,_⟩,_⟩:=C
   exact an N (Ne.symm u) y (by rw [B,e,Z])
 have y:∀{v:Value} {e:TypeId} {size n:Nat} {xs:List Value},e≠2→w.ownsRow 0 e size v n xs→A.ownsRow 0 e size v n xs:=fun u y=>hk.own y (fun j B e=>e.elim (I h.oP u y j B) (I h.oM u y j B))
 obtain ⟨Y,a1,a2,Q,R,D,T⟩:=h.pl
 obtain ⟨rows,L,V,J,O⟩:=h.re
 exact ⟨hb,dx h.sh he,gu cz h.ex he,eQ h.sa he,⟨Y,a1,a2,Q,R,D,eR T he⟩,aJ h.bu he,aJ h.it he,⟨rows,y (by decide) L,V,J,fun j x U=>cz (O j x U) he⟩,
  oP,oM,hk.own h.oG (fun j B e=>by cases B;exact e.elim (fun e=>h.dj.2.1 e.symm) (fun e=>h.dj.2.2 e.symm)),y (by decide) h.oO,h.dj,fun k _ hm=>hn k hm,wP,wM,h.wG,h.ox,h.xw⟩
end Go.Proofs.YtgmajkppbhiopaaGreat
