/- No condition. -/
import Derived.Test.YtaccfnffmbndhaaGreatC00
import Derived.Test.YtaccfnffmbndhaaGreatC21
import Derived.Test.YtaccfnffmbndhaaGreatC20
import Derived.Test.YtaccfnffmbndhaaGreatC11
import Derived.Test.YtaccfnffmbndhaaGreatC13
import Derived.Test.YtaccfnffmbndhaaGreatC08
import Derived.Test.YtaccfnffmbndhaaGreatC15
import Derived.Test.YtaccfnffmbndhaaGreatC02
import Derived.Deep.RegionHeld3
import Derived.Test.YtaccfnffmbndhaaGreatC01
import Derived.WalkSpells
import Derived.Test.YtaccfnffmbndhaaGreatC14
import Derived.Test.YtaccfnffmbndhaaGreatC18
set_option linter.unusedSimpArgs false
set_option linter.unusedVariables false
set_option maxRecDepth 100000
set_option maxHeartbeats 4000000
namespace Go.Proofs.YtaccfnffmbndhaaGreat
open Go.RowKit
theorem gL:cL Tryz.prog 91 6:=⟨⟨_,Tryz.underlying91,rfl⟩,by kernel_rfl⟩
theorem pE {α:Type} {i o:List α} {lo n:Nat} (h:lo+o.length≤n) (hn:n≤i.length):(splice i lo o).take n=splice (i.take n) lo o:=by
 unfold splice
 have j:lo≤n:=by omega
 rw [List.take_append,List.take_append,List.take_take,Kk,List.take_take,List.drop_take,Nat.min_eq_right j,Nat.min_eq_left j,Nat.min_eq_left (show lo≤i.length by omega),List.take_of_length_le (show o.length≤n-lo by omega),Nat.sub_sub]
theorem qx {α:Type} {i j:List α} {lo:Nat} (h:lo+j.length≤i.length):(splice i lo j).length=i.length:=by
 unfold splice;simp only [Kf,Kk,Kn];omega
theorem zQ {w:World} {base:Nat} {e:TypeId} {g n cap:Nat} {xs:List Value} (h:w.ownsRow base e 1 (.slice (some ⟨g,0,none⟩) n cap) n xs):
  ∃j:List Value,w.heap[g]?=some (.cells j.toArray e (0,0))∧j.take n=xs∧n≤j.length∧∀(o:World) (i:List Value),o.heap[g]?=some (.cells (List.toArray i) e (0,0))→i.length=j.length→o.ownsRow base e 1 (.slice (some ⟨g,0,none⟩) n cap) n (i.take n):=by
 rcases h.2 with ⟨x,_⟩ | ⟨A,p,j,hv,y,hg,h1,u,hs,q⟩
 ·cases x
 ·simp only [Ku,Option.some.injEq,Addr.mk.injEq,and_true,true_and] at hv
  obtain ⟨rfl,rfl⟩:=hv
  rw [Nat.mul_one] at hs q
  have hl:j.toList.length=cap:=by simpa using hs
  refine ⟨j.toList,by simpa using hg,by simpa using q,by omega,fun o i hw v=>⟨by rw [Kk];omega,.inr ⟨g,cap,i.toArray,rfl,y,hw,h1,u,?_,?_⟩⟩⟩
  ·simp;omega
  ·simp
theorem Eo {w:World} {b:Nat} (y:Itm) (i:Acn) (D:y.a=some i) (u v:Option Addr) (C:Int) (hC:C≠0)
  (o:∀j,Below w.heap.size w j→Calls Tryz.prog 37 #[.pointer u,.agg #[KL (i.st:Nat),KL (i.bk:Nat),KL (i.ph:Nat),KL (i.rd:Nat),KL (i.ch:Nat)]] j fun e Q=>e=.returned (.tuple #[.agg La,KL C])∧Below j.heap.size j Q):
  Calls Tryz.prog 113 #[.pointer (some ⟨b,0,none⟩),.agg (aN y).toArray,.agg #[.pointer u,.pointer v]] w fun e j=>e=.returned (KL C)∧Below w.heap.size w j:=by
 obtain ⟨lo,h1⟩:∃lo,i.at'.1=lo:=⟨_,rfl⟩
 obtain ⟨H,R⟩:∃H,i.at'.2=H:=⟨_,rfl⟩
 rw [uq D h1 R]
 obtain ⟨W0,W1,hW0,A,g0,V,B,L⟩:=eE w #[KL (y.kind:Nat),KL (y.st:Nat),KL (y.n:Nat),.bool i.send,.bool i.add,KL (i.st:Nat),KL (i.bk:Nat),KL (i.ph:Nat),KL (i.rd:Nat),KL (i.ch:Nat),KL (lo:Nat),KL (H:Nat)] #[.pointer u,.pointer v] 56 154
 obtain ⟨J,O,G0,Y,K1,p⟩:=ai hW0 A g0 V B o;clear hW0 A g0 V B o D h1 R L
 go_enter Tryz.func113,Tryz.ntmps113
 go_upto_region 1 with (fail)
 rw [J.out,O.out]
 go_upto_region 2 with (first | (refine aJ #[.bool i.send,.bool i.add,KL (i.st:Nat),KL (i.bk:Nat),KL (i.ph:Nat),KL (i.rd:Nat),KL (i.ch:Nat),KL (lo:Nat),KL (H:Nat)] (b:=w.heap.size) G0.out oD rfl rfl rfl rfl ?_) | (refine az (JE _ _) oD rfl rfl rfl rfl rfl rfl rfl ?_;intro x U X;obtain ⟨E2,I⟩:=ae U (aB X);clear U X))
 have q2:=br x
 have B2:=aa (bt K1.out I.out)
 have s0:∀j,Below x.heap.size x j→j.cell? ⟨w.heap.size+1,0,none⟩=some (.pointer u):=fun j q=>JF j (w.heap.size+1) 0 _ _ _ (sb (sb Y.out _ I.out) j q)
 have N:=fun j (q:Below x.heap.size x j)=>JK (JC (sb Y.out _ I.out)) q.size
 go_wp2_with (refine aJ #[KL (i.st:Nat),KL (i.bk:Nat),KL (i.ph:Nat),KL (i.rd:Nat),KL (i.ch:Nat)] (b:=W1.heap.size) E2.out ff rfl rfl rfl rfl ?_)
 refine (p.out x B2.out).mono ?_
 rintro e w3 ⟨rfl,T⟩
 have a0:(C != 0)=true:=by rw [bne_iff_ne];exact hC
 have B3:=aa (bt B2.out T);clear q2 s0 N T
 go_wp2_with (refine az (JE _ _) gL rfl rfl rfl rfl rfl rfl rfl ?_;intro W4 e4 Z;have K4:=aa (bt B3.out (aB Z));clear e4 Z)
 go_ret
 exact ⟨rfl,K4.out⟩
theorem En {H:Nat→Prop} {w:World} {b x:Nat} {i:Inp} {a:MAd} {m:Mst} (h:aI H w b i x a m) (bs:i.start.length≤60) (y:Itm) (p:Acn) (a2:y.a=some p) (lo C:Nat) (h1:p.at'.1=lo) (h2:p.at'.2=C) (bG:lo<C) (bI:C≤i.start.length) (v:Option Addr)
  {base l:Nat} {g:Option Nat} {s:LSt} (hL:aK w base l g s) (bN:a.bg<base) (b6:s.recv<s.msgs.length) (heq:(aC s.msgs s.recv).tag=p.tg) (Q:(aC s.msgs s.recv).vals.length=C-lo):
  Calls Tryz.prog 113 #[.pointer (some ⟨b,0,none⟩),.agg (aN y).toArray,.agg #[.pointer (some ⟨l,0,none⟩),.pointer v]] w fun e o=>e=.returned (KL 0)∧Keep (fun k=>k=l∨k=a.bg) w o∧
   aK o base l g {s with recv:=s.recv+1}∧o.ownsRow 0 2 1 (.slice (some ⟨a.bg,0,none⟩) i.start.length a.cg) i.start.length (aq .i64 (jp m.G lo (aC s.msgs s.recv).vals p.add)):=by
 rw [uq a2 h1 h2]
 have R:=h.blk
 obtain ⟨cl,O⟩:=hL.blk
 have bA:i.start.length≤a.cg:=by
  obtain ⟨_,_,e,h⟩:=aw h.oG
  simp only [Ku] at e
  omega
 have b1:b≠l:=ix h.blk O (by decide)
 have a5:l≠a.bg:=fun e=>an O (by decide) h.oG (by rw [e];rfl)
 have a0:=h.wG.1
 have b2:=h.blk
 obtain ⟨u,hu⟩:∃u,(some ⟨l,0,none⟩:Option Addr)=u:=⟨_,rfl⟩
 rw [hu]
 obtain ⟨W0,W1,hW0,X,g0,g1,Y,b4⟩:=eE w #[KL (y.kind:Nat),KL (y.st:Nat),KL (y.n:Nat),.bool p.send,.bool p.add,KL (p.st:Nat),KL (p.bk:Nat),KL (p.ph:Nat),KL (p.rd:Nat),KL (p.ch:Nat),KL (lo:Nat),KL (C:Nat)] #[.pointer u,.pointer v] 56 154
 rw [←hu] at g1 X
 rw [←hu]
 have b0:=sb R _ Y
 obtain ⟨bl,bf,ad,G0,G1,K1,HM,HL⟩:=ak hW0 X b0 g0 g1 Y h hL;obtain ⟨bo,D,bM,bn⟩:=ag heq Q O a0;clear hW0 X b0 g0 g1 Y R b2 h hL a2 h1 h2 b4 hu heq Q O a0
 go_enter Tryz.func113,Tryz.ntmps113
 go_upto_region 1 with (fail)
 rw [bl.out,bf.out]
 go_upto_region 2 with (first | (refine aJ #[.bool p.send,.bool p.add,KL (p.st:Nat),KL (p.bk:Nat),KL (p.ph:Nat),KL (p.rd:Nat),KL (p.ch:Nat),KL (lo:Nat),KL (C:Nat)] (b:=w.heap.size) G0.out oD rfl rfl rfl rfl ?_) | (refine az (JE _ _) oD rfl rfl rfl rfl rfl rfl rfl ?_;intro W2 e2 k2;obtain ⟨E2,K2⟩:=ae e2 (aB k2);clear e2 k2))
 have B2:=aa (bt K1.out K2.out)
 have hrc:=pR base l g s p.tg W2 (HL.out.below B2.out) b6 bo.out
 rw [D.out] at hrc
 have a1:=aa hrc
 have s0:W2.cell? ⟨w.heap.size+1,0,none⟩=some (.pointer (some ⟨l,0,none⟩)):=JF W2 (w.heap.size+1) 0 _ _ _ (sb G1.out _ K2.out)
 clear hrc
 go_wp2_with (refine aJ #[KL (p.st:Nat),KL (p.bk:Nat),KL (p.ph:Nat),KL (p.rd:Nat),KL (p.ch:Nat)] (b:=W1.heap.size) E2.out ff rfl rfl rfl rfl ?_)
 refine a1.out.mono ?_
 rintro e w3 ⟨A,c,rfl,o3,L3,k3⟩
 have b9:l≠W1.heap.size:=by have:=HL.out.blocks.1;have:=K1.out.size;omega
 have e3:=(k3.block W1.heap.size (JC E2.out) (fun e=>b9 e.symm)).trans E2.out
 have b3:=(k3.block b (JC (sb ad.out _ K2.out)) b1).trans (sb ad.out _ K2.out)
 have a4:=k3.own (ap HM.out.oG B2.out) (fun j hj e=>a5 (by cases hj;exact e.symm))
 obtain ⟨O3,bh,K3,E3,bd,bb⟩:=ai o3 L3 ((Keep.below (S:=fun k=>k=l) B2.out).trans k3) e3 b3 a4;clear o3 L3 k3 e3 b3 a4 s0 a1
 go_upto_region 5 with (refine az (JE _ _) gL rfl rfl rfl rfl rfl rfl rfl ?_;intro B e4 k4;obtain ⟨E4,K4⟩:=ae e4 (aB k4);clear e4 k4)
 have q4:=(br B).drew
 have kx:=fun o (q:Below B.heap.size B o)=>sb (sb E3.out _ K4.out) o q
 have be:∀o,Below B.heap.size B o→o.cell? ⟨b,13,none⟩=some (.slice (some ⟨a.bg,0,none⟩) i.start.length a.cg):=fun o q=>JF o b 13 _ _ _ (sb (sb bd.out _ K4.out) o q)
 have x1:∀o,Below B.heap.size B o→o.cell? ⟨W1.heap.size,1,none⟩=some (.bool p.add):=fun o q=>JF o _ 1 _ _ _ (kx o q)
 have x7:∀o,Below B.heap.size B o→o.cell? ⟨W1.heap.size,7,none⟩=some (KL (lo:Nat)):=fun o q=>JF o _ 7 _ _ _ (kx o q)
 have x8:∀o,Below B.heap.size B o→o.cell? ⟨W1.heap.size,8,none⟩=some (KL (C:Nat)):=fun o q=>JF o _ 8 _ _ _ (kx o q)
 have y5:∀o,Below B.heap.size B o→o.cell? ⟨w3.heap.size,5,none⟩=some (.slice A (C-lo:Nat) c):=fun o q=>JF o _ 5 _ _ _ (sb E4.out o q)
 have xl:=sl (sb E3.out _ K4.out)
 have yl:=sl E4.out
 have bO:(lo:Int)≤C:=by omega
 have bU:(C:Int)≤a.cg:=by omega
 have bv:lo≤C:=by omega
 have bw:C≤a.cg:=by omega
 have bz:¬a.cg=lo:=by omega
 clear kx
 refine HA.g (fun o:World=>Below B.heap.size B o) ?_
 refine HA.t ?_ [0,1,2,3,4,5,6,7,8,9,10,11] q4 ?_
 refine HA.d ?_
 have L:=aa (K4.out.trans (q4.mono K4.out.size))
 have o5:=ap O3.out L.out
 have L5:=bh.out.below L.out
 have V:=ap bb.out L.out
 have K5:=(K3.out.mono (S':=fun k=>k=l∨k=a.bg) fun k _ e=>.inl e).trans (Keep.below L.out)
 have aM:∀z,A=some z→z.block≠a.bg:=fun z hz e=>by
  rcases o5.2 with ⟨e',_⟩ | ⟨r,_,_,e',hb,_⟩
  ·injection e' with e1;rw [e1] at hz;cases hz
  ·injection e' with e1;rw [e1] at hz;cases hz;exact absurd hb (by simp only at e;omega)
 have aR:∀o,Keep (fun k=>k=a.bg) B.drew o→aK o base l g {s with recv:=s.recv+1}:=fun o k=>by
  refine L5.keep k a5 (fun j hj e=>?_) (fun j _ _ hb e=>by omega)
  subst hj
  obtain ⟨cg,hg⟩:=L5.ringBlk
  exact an hg (by decide) V (by rw [e];rfl)
 obtain ⟨O5,a3,ao,bi,av⟩:=ah o5 V K5 aM aR;clear o5 L5 V K5 aM aR be
 cases hadd:p.add with
 | true=>
  rw [hadd] at x1
  obtain ⟨I,b8⟩:=ae hadd (zl a.bg a.cg lo i.start.length A m.G (aC s.msgs s.recv).vals (C-lo) (a.cg-lo) c B.drew a3.out (Rd.own O5.out) D.out (by omega) (by omega) bi.out)
  clear hadd
  go_wp2_with fail
  refine b8.out.mono ?_
  rintro e w6 ⟨rfl,o6,Z⟩
  obtain ⟨O6,L6,K6⟩:=af o6 (av.out w6 Z) (ao.out.trans (Z.mono fun k _ e=>.inr e));clear o6 Z x1 x7 x8 y5 xl yl q4
  go_wp2_with fail
  go_ret
  exact ⟨rfl,K6.out,L6.out,by first | exact O6.out | (rw [I.out];exact O6.out)⟩
 | false=>
  rw [hadd] at x1
  have I:=aa hadd
  obtain ⟨U,hcur,aG,aP,a7⟩:=zQ a3.out
  have N:(aq .i64 (aC s.msgs s.recv).vals).length=C-lo:=by rw [a9,D.out]
  have J:lo+(aq .i64 (aC s.msgs s.recv).vals).length≤U.length:=by rw [N];omega
  have T:∀o:World,o.heap[a.bg]?=some (.cells (splice U lo (aq .i64 (aC s.msgs s.recv).vals)).toArray 2 (0,0))→o.ownsRow 0 2 1 (.slice (some ⟨a.bg,0,none⟩) i.start.length a.cg) i.start.length (aq .i64 (jp m.G lo (aC s.msgs s.recv).vals false)):=fun o hw=>by
   have:=a7 o _ hw (qx J)
   rwa [pE (by rw [N];omega) aP,aG,jB,tz (by rw [D.out,bn.out];omega)] at this
  obtain ⟨a8,b7,a6,ab,b5⟩:=ah hcur N J T (Rd.own O5.out);clear hadd hcur aG aP a7 N J T
  go_wp2_with (refine nd rfl (.tmp 41) (.tmp 43) 64 26 rfl 2 Tryz.underlying64 (by kernel_rfl) (some ⟨a.bg,lo,none⟩) A (C-lo) (a.cg-lo) c rfl rfl a.bg lo U 2 a8.out (aq .i64 (aC s.msgs s.recv).vals) b7.out (fun _=>rfl) b5.out a6.out (bP _ _) ?_;intro w6 g6 Z;obtain ⟨O6,L6,K6⟩:=af (ab.out w6 g6) (av.out w6 Z) (ao.out.trans (Z.mono fun k _ e=>.inr e));clear g6 Z x1 x7 x8 y5 xl yl q4)
  go_ret
  exact ⟨rfl,K6.out,L6.out,by first | exact O6.out | (rw [I.out];exact O6.out)⟩
theorem aK.box {w j:World} {base l b:Nat} {g:Option Nat} {s:LSt} (h:aK w base l g s) (k:Keep (fun k=>k=b) w j) (h1:l≠b) (p:b<base):aK j base l g s:=
 h.keep k h1 (fun i o e=>by have:=(h.blocks.2 i o).1;omega) (fun i c _ q e=>by omega)
theorem aI.setGH {H:Nat→Prop} {w u:World} {b x:Nat} {i:Inp} {a:MAd} {m:Mst} (h:aI H w b i x a m) (hn:∀k,Mut b a k→¬H k) (B:Keep (fun k=>k=a.bg∨H k) w u) (G:List Int)
  (oG:u.ownsRow 0 2 1 (.slice (some ⟨a.bg,0,none⟩) i.start.length a.cg) i.start.length (aq .i64 G)) (wG:G.length=i.start.length∧W64 G):aI H u b i x a {m with G:=G}:=by
 have he:Ext (ay (fL H b a) w) (ay (fL H b a) u):=cu (B.mono fun k _ e=>e.imp (fun e=>.inr (.inr (.inr (.inl e)))) id) (fun k _ Z=>Z)
 have nb:b≠a.bg:=fun e=>an h.blk (by decide) h.oG (by rw [e];rfl)
 have L:=(B.block b (JC h.blk) (fun e=>e.elim nb (hn b (.inl rfl)))).trans h.blk
 have q:∀{v:Value} {e size n xs},(∀j,v.ownBlock=some j→j≠a.bg∧Mut b a j)→w.ownsRow 0 e size v n xs→u.ownsRow 0 e size v n xs:=fun p q=>B.own q (fun j o e=>e.elim (p j o).1 (hn j (p j o).2))
 have I:∀{v:Value} {e:TypeId} {size n:Nat} {xs:List Value},e≠2→w.ownsRow 0 e size v n xs→∀j,v.ownBlock=some j→j≠a.bg:=fun p q j o e=>by
  rcases h.oG.2 with ⟨A,_⟩ | ⟨r',_,_,A,_,hg,_⟩
  ·cases A
  ·simp only [Ku,Option.some.injEq,Addr.mk.injEq] at A
   obtain ⟨⟨V,_⟩,_⟩:=A
   exact an hg (Ne.symm p) q (by rw [o,e,V])
 obtain ⟨U,X,Y,O,Q,C,R⟩:=h.pl
 obtain ⟨y,D,T,J,N⟩:=h.re
 exact ⟨L,eK h.sh he,dJ bW h.ex he,gi h.sa he,⟨U,X,Y,O,Q,C,gj R he⟩,aU h.bu he,aU h.it he,⟨y,q (fun j o=>⟨I (by decide) D j o,by cases o;exact .inr (.inr (.inr (.inr (.inl rfl))))⟩) D,T,J,fun j x hx=>bW (N j x hx) he⟩,
  q (fun j o=>by cases o;exact ⟨h.dj.2.1,.inr (.inl rfl)⟩) h.oP,q (fun j o=>by cases o;exact ⟨h.dj.2.2,.inr (.inr (.inl rfl))⟩) h.oM,oG,q (fun j o=>⟨I (by decide) h.oO j o,.inr (.inr (.inr (.inr (.inr o))))⟩) h.oO,h.dj,fun k _ hm=>hn k hm,h.wP,h.wM,wG,h.ox,h.xw⟩
theorem Eu {H:Nat→Prop} {w:World} {b x:Nat} {i:Inp} {a:MAd} {m:Mst} (h:aI H w b i x a m) (hn:∀k,Mut b a k→¬H k) (B:∀k,w.heap.size≤k→¬H k) (hs:cU i) {y:Itm} (hy:(bZ i x m.st)[m.nx]?=some y) (hk:y.kind=3) {p:Acn} (a1:y.a=some p) (a2:p.at'.1<p.at'.2) (X:p.at'.2≤i.start.length) (u:Option Addr)
  {base l:Nat} {g:Option Nat} {s:LSt} (hL:aK w base l g s) (I:s.msgs.length<s.recv+s.cap) (L:s.msgs.length<100000000000) (J:base≤w.heap.size) (D:∀k,dC l g k→H k) (Z:b<base):
  Calls Tryz.prog 17 #[.pointer (some ⟨b,0,none⟩),.pointer u,.pointer (some ⟨l,0,none⟩)] w fun e v=>e=.returned (KL 0)∧
   FQ (dC l g) b i x a m (fun T v U=>U=m∧∃o,(∀k,T k↔H k∨o=some k)∧aK v base l o (s.send ⟨p.tg,(m.G.drop p.at'.1).take (p.at'.2-p.at'.1)⟩)∧(o=g∨∃k,o=some k∧w.heap.size≤k)) w v:=by
 have a0:l≠b:=fun e=>hn b (.inl rfl) (D b (.inl e.symm))
 refine (vY h hn B (G:=dC l g) (fun k e=>?_) hs hy u (some ⟨l,0,none⟩) 112 (fun v=>by rw [hk];kernel_rfl) (fun args w=>by kernel_rfl) (fun _=>False)
  (fun T v U=>U=m∧∃o,(∀k,T k↔H k∨o=some k)∧aK v base l o (s.send ⟨p.tg,(m.G.drop p.at'.1).take (p.at'.2-p.at'.1)⟩)∧(o=g∨∃k,o=some k∧w.heap.size≤k)) ?_ (fun v q=>?_)).mono ?_
 ·rcases e with e | e
  ·rw [e];exact hL.blocks.1
  ·exact (hL.blocks.2 k e).2
 ·rintro T w1 w2 U ⟨e,o,h1,h2,h3⟩ kk
  exact ⟨e,o,h1,h2.box kk a0 Z,h3⟩
 ·have V:=h.below q hn
  refine (Em V hs.n y p a1 a2 X u (hL.below q) I L (JJ J q.size)).mono ?_
  rintro e a3 ⟨he,N,o,R,Q⟩
  have A:∀k,o=some k→H k∨v.heap.size≤k:=fun k e=>by
   rcases Q with rfl | ⟨j,e1,Y⟩
   ·exact .inl (D k (.inr e))
   ·rw [e1] at e;cases e;exact .inr Y
  have O:∀k,Mut b a k→¬(H k∨o=some k):=fun k hm e=>by
   rcases e with e | e
   ·exact hn k hm e
   ·rcases A k e with e | e
    ·exact hn k hm e
    ·have:=V.mlt k hm;omega
  refine .inl ⟨he,fun k=>H k∨o=some k,a,m,V.step (N.mono fun k _ e=>D k e) (fun k hl e=>?_) O,O,fun k hl e=>?_,rfl,rfl,N.mono fun k _ e=>.inr e,fun k hm=>.inl hm,⟨rfl,rfl,rfl⟩,rfl,o,fun k=>Iff.rfl,R,?_⟩
  ·rcases e with e | e
   ·exact e
   ·rcases A k e with e | e
    ·exact e
    ·omega
  ·rcases e with e | e
   ·exact B k (JJ (JJ q.size N.size) hl) e
   ·have:=(R.blocks.2 k e).2;omega
  ·exact Q.imp id fun ⟨k,e1,Y⟩=>⟨k,e1,JJ q.size Y⟩
 ·rintro e v (⟨he,hd⟩ | ⟨C,_,hF,_⟩)
  ·exact ⟨he,hd⟩
  ·exact hF.elim
theorem Ey {H:Nat→Prop} {w:World} {b x:Nat} {i:Inp} {a:MAd} {m:Mst} (h:aI H w b i x a m) (hn:∀k,Mut b a k→¬H k) (o:∀k,w.heap.size≤k→¬H k) (hs:cU i) {y:Itm} (L:(bZ i x m.st)[m.nx]?=some y) (J:y.kind=3) {p:Acn} (A:y.a=some p) (B:p.at'.1<p.at'.2) (D:p.at'.2≤i.start.length) (u:Option Addr)
  {base l:Nat} {g:Option Nat} {s:LSt} (hL:aK w base l g s) (j:s.msgs.length=s.recv+s.cap):
  Calls Tryz.prog 17 #[.pointer (some ⟨b,0,none⟩),.pointer u,.pointer (some ⟨l,0,none⟩)] w fun e v=>e=.returned (KL 11)∧Below w.heap.size w v:=by
 refine (kp h hn o (G:=fun _=>False) (fun _ h=>h.elim) hs L u (some ⟨l,0,none⟩) 112 (fun v=>by rw [J];kernel_rfl) (fun args w=>by kernel_rfl) (fun C=>C=11) (fun _ _=>False) (fun _ _ _ h _=>h) (fun v q=>?_)).mono ?_
 ·refine (yC (h.below q hn) hs.n y p A B D u (hL.below q) j).mono ?_
  rintro e N ⟨he,k⟩
  exact .inr ⟨11,by decide,rfl,he,k⟩
 ·rintro e v (⟨_,_,_,_,_,_,_,_,_,I⟩ | ⟨C,_,O,he,k⟩)
  ·exact I.elim
  ·rw [O] at he;exact ⟨he,k⟩
theorem Ev {H:Nat→Prop} {w:World} {b x:Nat} {i:Inp} {a:MAd} {m:Mst} (h:aI H w b i x a m) (hn:∀k,Mut b a k→¬H k) (u:∀k,w.heap.size≤k→¬H k) (hs:cU i) {y:Itm} (hy:(bZ i x m.st)[m.nx]?=some y) (Y:y.kind=4) {j:Acn} (R:y.a=some j) (T:j.at'.1<j.at'.2) (J:j.at'.2≤i.start.length) (v:Option Addr)
  {base l:Nat} {g:Option Nat} {s:LSt} (hL:aK w base l g s) (p:∀k,dC l g k→H k) (L:b<base) (O:a.bg<base) (I:s.recv<s.msgs.length) (heq:(aC s.msgs s.recv).tag=j.tg) (A:(aC s.msgs s.recv).vals.length=j.at'.2-j.at'.1) (hw:W64 (aC s.msgs s.recv).vals):
  Calls Tryz.prog 17 #[.pointer (some ⟨b,0,none⟩),.pointer (some ⟨l,0,none⟩),.pointer v] w fun e o=>e=.returned (KL 0)∧
   xj H (fun k=>k=l) b i x a m (fun o D=>D={m with G:=jp m.G j.at'.1 (aC s.msgs s.recv).vals j.add}∧aK o base l g {s with recv:=s.recv+1}) w o:=by
 have N:l≠b:=fun e=>hn b (.inl rfl) (p b (.inl e.symm))
 refine (kp h hn u (G:=fun k=>k=l) (fun k e=>by rw [e];exact hL.blocks.1) hs hy (some ⟨l,0,none⟩) v 113 (fun o=>by rw [Y];kernel_rfl) (fun args w=>by kernel_rfl) (fun _=>False)
  (fun o D=>D={m with G:=jp m.G j.at'.1 (aC s.msgs s.recv).vals j.add}∧aK o base l g {s with recv:=s.recv+1}) (fun w1 w2 D U Z=>⟨U.1,U.2.box Z N L⟩) (fun o q=>?_)).mono ?_
 ·have V:=h.below q hn
  refine (En V hs.n y j R _ _ rfl rfl T J v (hL.below q) O I heq A).mono ?_
  rintro e a0 ⟨he,B,Q,hG⟩
  exact .inl ⟨he,a,_,V.setGH hn (B.mono fun k _ e=>e.elim (fun e=>.inr (p k (.inl e))) .inl) _ hG ⟨by rw [lF];exact h.wG.1,rJ h.wG.2 hw⟩,rfl,rfl,B.mono fun k _ e=>e.elim .inr (fun e=>.inl (.inr (.inr (.inr (.inl e))))),fun k hm=>.inl hm,⟨rfl,rfl,rfl⟩,rfl,Q⟩
 ·rintro e o (⟨he,X⟩ | ⟨C,_,hF,_⟩)
  ·exact ⟨he,X⟩
  ·exact hF.elim
theorem qT {H:Nat→Prop} {w:World} {b x:Nat} {i:Inp} {a:MAd} {m:Mst} (h:aI H w b i x a m) (hn:∀k,Mut b a k→¬H k) (o:∀k,w.heap.size≤k→¬H k) (hs:cU i) {y:Itm} (L:(bZ i x m.st)[m.nx]?=some y) (J:y.kind=4) {u:Acn} (D:y.a=some u) (v:Option Addr)
  {base l:Nat} {g:Option Nat} {s:LSt} (hL:aK w base l g s) (B:s.recv=s.msgs.length∨(s.recv<s.msgs.length∧(aC s.msgs s.recv).tag≠u.tg)):
  Calls Tryz.prog 17 #[.pointer (some ⟨b,0,none⟩),.pointer (some ⟨l,0,none⟩),.pointer v] w fun e A=>e=.returned (KL (if s.recv=s.msgs.length then 12 else 10))∧Below w.heap.size w A:=by
 refine (kp h hn o (G:=fun _=>False) (fun _ h=>h.elim) hs L (some ⟨l,0,none⟩) v 113 (fun A=>by rw [J];kernel_rfl) (fun args w=>by kernel_rfl) (fun C=>C=if s.recv=s.msgs.length then 12 else 10) (fun _ _=>False) (fun _ _ _ h _=>h) (fun A q=>?_)).mono ?_
 ·refine (Eo y u D (some ⟨l,0,none⟩) v (if s.recv=s.msgs.length then 12 else 10) (by split<;>decide) (fun j N=>?_)).mono ?_
  ·have p:=(hL.below q).below N
   rcases B with e | ⟨e,ne⟩
   ·rw [if_pos e];exact mA base l g s u.tg j p e
   ·rw [if_neg (by omega)];exact uo base l g s u.tg j p e ne
  ·rintro e j ⟨he,k⟩
   exact .inr ⟨_,by split<;>decide,rfl,he,k⟩
 ·rintro e A (⟨_,_,_,_,_,_,_,_,_,I⟩ | ⟨C,_,O,he,k⟩)
  ·exact I.elim
  ·rw [O] at he;exact ⟨he,k⟩
def kr (i:Inp) (x:Nat) (m:Mst) (y:Itm):Mst:=
 if y.kind=1 then {m with G:=eg i m.P m.G (di i.data (nK i x y.st y.n))}
 else if y.kind=2 then {m with op:=m.op++[y.n]}
 else if y.kind=5 then
  {m with P:=apP i.cfg.rate i.cfg.mom i.cfg.shift m.P m.M ((m.G.drop (aO (aE i).buks y.n).1).take ((aO (aE i).buks y.n).2-(aO (aE i).buks y.n).1)) (aO (aE i).buks y.n).1 ((aO (aE i).buks y.n).2-(aO (aE i).buks y.n).1),M:=apM i.cfg.mom i.cfg.shift m.M ((m.G.drop (aO (aE i).buks y.n).1).take ((aO (aE i).buks y.n).2-(aO (aE i).buks y.n).1)) (aO (aE i).buks y.n).1 ((aO (aE i).buks y.n).2-(aO (aE i).buks y.n).1),op:=gt m.op y.n}
 else {m with rc:=m.rc++[(m.P,m.M)],G:=List.replicate i.start.length 0}
def I9 (m:Mst) (y:Itm):Prop:=(y.kind=1∨y.kind=2∨y.kind=5∨y.kind=6)∧m.op.length≤1000∧(y.kind=5→0<m.op.length)∧(y.kind=6→m.rc.length≤1000)
def bB (n s k:Nat):Nat:=min ((cZ n s-k)*s) n
theorem Fv {n s k:Nat} (hs:1≤s) (o:k<cZ n s):aO (m6 n s) k=(bB n s (k+1),bB n s k)∧bB n s (k+1)<bB n s k∧bB n s k≤n:=by
 have h1:=iI (n:=n) (size:=s) (k:=cZ n s-1-k) (by omega)
 have i:cZ n s-(k+1)=cZ n s-1-k:=by omega
 have j:(cZ n s-k)*s=(cZ n s-1-k)*s+s:=by
  rw [show cZ n s-k=(cZ n s-1-k)+1 by omega,Kx]
 have hl:k<(m6 n s).length:=by rw [jY];exact o
 refine ⟨?_,?_,?_⟩
 ·rw [cF _ _ hl]
  simp only [m6,List.getElem_reverse,dU,eR,List.getElem_map,List.getElem_range,List.length_map,List.length_range]
  unfold bB
  rw [i,j]
  simp only [Prod.mk.injEq,and_true]
  omega
 ·unfold bB
  rw [i,j]
  omega
 ·unfold bB
  omega
theorem Ia (n s:Nat) (hs:1≤s):bB n s 0=n:=by
 unfold bB cZ
 by_cases h:n=0
 ·simp [h]
 ·rw [if_neg h,Nat.sub_zero,Kx]
  have h1:=Nat.div_add_mod (n-1) s
  have i:=Nat.mod_lt (n-1) (show 0<s from hs)
  rw [Nat.mul_comm] at h1
  omega
theorem CF (a c:Nat):gt (List.range' a (c+1)) a=List.range' (a+1) c:=by
 unfold gt
 rw [List.range'_succ,List.filter_cons,if_neg (by simp)]
 exact List.filter_eq_self.2 fun j i=>by
  rw [List.mem_range'_1] at i
  simp only [KF]
  omega
theorem Ew {H:Nat→Prop} {w:World} {b x:Nat} {i:Inp} {a:MAd} {m:Mst} (h:aI H w b i x a m) (hn:∀k,Mut b a k→¬H k) (o:∀k,w.heap.size≤k→¬H k) (hs:cU i) {y:Itm} (B:(bZ i x m.st)[m.nx]?=some y) (V:I9 m y)
  (J: -9223372036854775808≤i.cfg.rate∧i.cfg.rate≤9223372036854775807) (O: -9223372036854775808≤i.cfg.mom∧i.cfg.mom≤9223372036854775807) (u v:Option Addr):
  Calls Tryz.prog 17 #[.pointer (some ⟨b,0,none⟩),.pointer u,.pointer v] w fun e C=>e=.returned (KL 0)∧xj H (fun _=>False) b i x a m (fun _ m1=>m1=kr i x m y) w C:=by
 obtain ⟨X,Q,Y,Z⟩:=V
 obtain ⟨h1,U⟩:=ep B
 have L:=uy B
 have I:=hs.ok
 rcases X with k | k | k | k
 ·refine (Ez h hn o hs B k u v).mono fun e C q=>?_
  have p:kr i x m y={m with G:=eg i m.P m.G (di i.data (nK i x m.st y.n))}:=by
   unfold kr;rw [if_pos k,L]
  rw [p];exact q
 ·refine (yH h hn o hs B k Q u v).mono fun e C q=>?_
  have p:kr i x m y={m with op:=m.op++[y.n]}:=by
   unfold kr;rw [if_neg (by omega),if_pos k]
  rw [p];exact q
 ·obtain ⟨g,hg,g1,g2⟩:=td U (.inr k)
  obtain ⟨j,R,rfl⟩:=List.getElem_of_mem hg
  have N:=I.grp R
  rw [cF _ _ R] at N
  have D:y.n<(aE i).buks.length:=by omega
  have A:=D
  rw [Pln.buks,jY] at A
  obtain ⟨T,b2,b3⟩:=Fv I.bu A
  have hr:aO (aE i).buks y.n=(bB (aE i).n (aE i).bu (y.n+1),bB (aE i).n (aE i).bu y.n):=T
  refine (GG h hn o hs B k u v D (Y k) Q J O _ _ hr b2 b3).mono fun e C q=>?_
  have p:=kr.eq_1 i x m y
  rw [if_neg (by omega),if_neg (by omega),if_pos k,hr] at p
  rw [p];exact q
 ·refine (yG h hn o hs B k (Z k) u v).mono fun e C q=>?_
  have p:kr i x m y={m with rc:=m.rc++[(m.P,m.M)],G:=List.replicate i.start.length 0}:=by
   unfold kr;rw [if_neg (by omega),if_neg (by omega),if_neg (by omega)]
  rw [p];exact q
def opF (s:Nat×Nat) (y:Itm):Nat×Nat:=if y.kind=2 then (s.1,s.2+1) else if y.kind=5 then (s.1+1,s.2) else s
def mW (wi nb:Nat):Nat×Nat→List Itm→Prop
 | _,[]=>True
 | s,y::r=>(y.kind=2→y.n=s.2∧s.2<nb∧s.2+1≤s.1+wi)∧(y.kind=5→y.n=s.1∧s.1<s.2)∧mW wi nb (opF s y) r
theorem je (wi nb:Nat):∀(l r:List Itm) (s:Nat×Nat),mW wi nb s (l++r)↔mW wi nb s l∧mW wi nb (l.foldl opF s) r
 | [],r,s=>by simp [mW]
 | y::l,r,s=>by
  have:=je wi nb l r (opF s y)
  simp only [List.cons_append,mW,List.foldl_cons,this,and_assoc]
theorem uk {wi nb:Nat}:∀{l:List Itm} {s:Nat×Nat} {k:Nat} {y:Itm},mW wi nb s l→l[k]?=some y→(y.kind=2→y.n=((l.take k).foldl opF s).2∧((l.take k).foldl opF s).2<nb∧((l.take k).foldl opF s).2+1≤((l.take k).foldl opF s).1+wi)∧(y.kind=5→y.n=((l.take k).foldl opF s).1∧((l.take k).foldl opF s).1<((l.take k).foldl opF s).2)
 | [],_,_,_,_,h=>by simp at h
 | z::l,s,0,y,hr,h=>by
  simp only [Kb,Option.some.injEq] at h
  subst h
  exact ⟨hr.1,hr.2.1⟩
 | z::l,s,k+1,y,hr,h=>by
  rw [Ka] at h
  exact uk (l:=l) hr.2.2 h
theorem vF {wi nb:Nat}:∀{l:List Itm} {s:Nat×Nat},mW wi nb s l→s.1≤s.2→s.2≤nb→s.2≤s.1+wi→∀k,((l.take k).foldl opF s).1≤((l.take k).foldl opF s).2∧((l.take k).foldl opF s).2≤nb∧((l.take k).foldl opF s).2≤((l.take k).foldl opF s).1+wi
 | [],s,_,h1,h2,h3,k=>by simpa using ⟨h1,h2,h3⟩
 | y::l,s,h,h1,h2,h3,0=>⟨h1,h2,h3⟩
 | y::l,s,h,h1,h2,h3,k+1=>by
  have i:(opF s y).1≤(opF s y).2∧(opF s y).2≤nb∧(opF s y).2≤(opF s y).1+wi:=by
   unfold opF
   by_cases j:y.kind=2
   ·rw [if_pos j];have:=h.1 j;exact ⟨by omega,by omega,by omega⟩
   ·rw [if_neg j]
    by_cases o:y.kind=5
    ·rw [if_pos o];have:=h.2.1 o;exact ⟨by omega,h2,by omega⟩
    ·rw [if_neg o];exact ⟨h1,h2,h3⟩
  exact vF h.2.2 i.1 i.2.1 i.2.2 k
theorem pZ {wi nb:Nat}:∀{l:List Itm} (s:Nat×Nat),(∀y∈l,y.kind≠2∧y.kind≠5)→mW wi nb s l∧l.foldl opF s=s
 | [],s,_=>⟨trivial,rfl⟩
 | y::l,s,h=>by
  have i:=h y (by simp)
  have e:opF s y=s:=by unfold opF;rw [if_neg i.1,if_neg i.2]
  have j:=pZ (wi:=wi) (nb:=nb) (l:=l) s fun z o=>h z (by simp [o])
  refine ⟨⟨fun k=>absurd k i.1,fun k=>absurd k i.2,?_⟩,?_⟩
  ·rw [e];exact j.1
  ·rw [List.foldl_cons,e];exact j.2
theorem sQ {wi nb:Nat} (st u:Nat):∀(k l:Nat),l+k≤nb→l+k≤u+wi→mW wi nb (u,l) ((List.range' l k).map fun j=>(⟨2,st,j,none⟩:Itm))∧((List.range' l k).map fun j=>(⟨2,st,j,none⟩:Itm)).foldl opF (u,l)=(u,l+k)
 | 0,l,_,_=>⟨trivial,rfl⟩
 | k+1,l,h1,h2=>by
  rw [List.range'_succ,List.map_cons]
  have i:=sQ (wi:=wi) (nb:=nb) st u k (l+1) (by omega) (by omega)
  refine ⟨⟨fun _=>⟨rfl,by show l<nb;omega,by show l+1≤u+wi;omega⟩,fun o=>(by cases o),i.1⟩,?_⟩
  rw [List.foldl_cons]
  show List.foldl opF (u,l+1) _=_
  rw [i.2]
  congr 1;omega
theorem sP {wi nb:Nat} (st l:Nat):∀(k u:Nat),u+k≤l→mW wi nb (u,l) ((List.range' u k).map fun j=>(⟨5,st,j,none⟩:Itm))∧((List.range' u k).map fun j=>(⟨5,st,j,none⟩:Itm)).foldl opF (u,l)=(u+k,l)
 | 0,u,_=>⟨trivial,rfl⟩
 | k+1,u,h1=>by
  rw [List.range'_succ,List.map_cons]
  have i:=sP (wi:=wi) (nb:=nb) st l k (u+1) (by omega)
  refine ⟨⟨fun o=>(by cases o),fun _=>⟨rfl,by show u<l;omega⟩,i.1⟩,?_⟩
  rw [List.foldl_cons]
  show List.foldl opF (u+1,l) _=_
  rw [i.2]
  congr 1;omega
theorem Ee {p:Pln} (x st:Nat) (g:Rg) (h1:g.1≤g.2) (A:g.2≤p.buks.length) (B:g.2≤g.1+p.wi):mW p.wi p.buks.length (g.1,g.1) (de p x st g)∧(de p x st g).foldl opF (g.1,g.1)=(g.2,g.2):=by
 have o:=sQ (wi:=p.wi) (nb:=p.buks.length) st g.1 (g.2-g.1) g.1 (by omega) (by omega)
 have v:g.1+(g.2-g.1)=g.2:=by omega
 rw [v] at o
 have q:=pZ (wi:=p.wi) (nb:=p.buks.length) (l:=(List.range 2).flatMap fun ph=>(List.range (p.W-1)).flatMap fun r=>(List.range' g.1 (g.2-g.1)).flatMap fun j=>cC p x st ph r j) (g.1,g.2) (fun y i=>by
  simp only [List.mem_flatMap] at i
  obtain ⟨_,_,_,_,_,_,i⟩:=i
  unfold cC at i
  obtain ⟨c,_,rfl⟩:=List.mem_map.1 i
  unfold gh
  split<;>exact ⟨fun e=>(by cases e),fun e=>(by cases e)⟩)
 have u:=sP (wi:=p.wi) (nb:=p.buks.length) st g.2 (g.2-g.1) g.1 (by omega)
 rw [v] at u
 unfold de
 refine ⟨?_,?_⟩
 ·rw [je,je,List.foldl_append,o.2,q.2]
  exact ⟨⟨o.1,q.1⟩,u.1⟩
 ·rw [List.foldl_append,List.foldl_append,o.2,q.2,u.2]
theorem sR {p:Pln} (o:cN p) (x st:Nat):∀k,k≤cZ p.buks.length p.wi→mW p.wi p.buks.length (0,0) (((List.range k).map fun j=>((j*p.wi,min (j*p.wi+p.wi) p.buks.length):Rg)).flatMap (de p x st))∧(((List.range k).map fun j=>((j*p.wi,min (j*p.wi+p.wi) p.buks.length):Rg)).flatMap (de p x st)).foldl opF (0,0)=(min (k*p.wi) p.buks.length,min (k*p.wi) p.buks.length)
 | 0,_=>⟨trivial,by simp⟩
 | k+1,hk=>by
  have i:=sR o x st k (by omega)
  have u:=iI (n:=p.buks.length) (size:=p.wi) (k:=k) (by omega)
  have q:min (k*p.wi) p.buks.length=k*p.wi:=by omega
  have hg:=Ee (p:=p) x st (k*p.wi,min (k*p.wi+p.wi) p.buks.length) (by show k*p.wi≤_;omega) (by show min _ _≤_;omega) (by show min _ _≤_;omega)
  rw [Kw,List.map_append,List.flatMap_append,je,List.foldl_append,i.2,q]
  simp only [List.map_cons,List.map_nil,List.flatMap_cons,List.flatMap_nil,List.append_nil]
  rw [Kx]
  exact ⟨⟨i.1,hg.1⟩,hg.2⟩
theorem jd {p:Pln} (u:cN p) (x st:Nat):mW p.wi p.buks.length (0,0) (aD p x st)∧(aD p x st).foldl opF (0,0)=(p.buks.length,p.buks.length):=by
 have o:=pZ (wi:=p.wi) (nb:=p.buks.length) (l:=(List.range p.mi).map fun a=>(⟨1,st,a,none⟩:Itm)) (0,0) (fun y q=>by obtain ⟨_,_,rfl⟩:=List.mem_map.1 q;exact ⟨fun e=>(by cases e),fun e=>(by cases e)⟩)
 have i:=sR u x st _ (JD _)
 have B:min (cZ p.buks.length p.wi*p.wi) p.buks.length=p.buks.length:=by
  have:=Ia p.buks.length p.wi u.wi
  unfold bB at this
  rwa [Nat.sub_zero] at this
 rw [B] at i
 have v:=pZ (wi:=p.wi) (nb:=p.buks.length) (l:=[(⟨6,st,0,none⟩:Itm)]) (p.buks.length,p.buks.length) (fun y q=>by rw [List.mem_singleton.1 q];exact ⟨fun e=>(by cases e),fun e=>(by cases e)⟩)
 have A:p.grps=(List.range (cZ p.buks.length p.wi)).map fun j=>((j*p.wi,min (j*p.wi+p.wi) p.buks.length):Rg):=rfl
 unfold aD
 rw [A]
 refine ⟨?_,?_⟩
 ·rw [je,je,List.foldl_append,o.2,i.2]
  exact ⟨⟨o.1,i.1⟩,v.1⟩
 ·rw [List.foldl_append,List.foldl_append,o.2,i.2]
  exact v.2
def opP (p:Pln) (x st nx:Nat):Nat×Nat:=((aD p x st).take nx).foldl opF (0,0)
theorem uj {p:Pln} (i:cN p) (x st nx:Nat):(opP p x st nx).1≤(opP p x st nx).2∧(opP p x st nx).2≤p.buks.length∧(opP p x st nx).2≤(opP p x st nx).1+p.wi:=
 vF (jd i x st).1 (JD _) (JH _) (JH _) nx
theorem Ef {p:Pln} {x st nx:Nat} {y:Itm} (i:(aD p x st)[nx]?=some y):opP p x st (nx+1)=opF (opP p x st nx) y:=by
 unfold opP
 rw [List.take_add_one,i,List.foldl_append]
 rfl
theorem Gt {p:Pln} (i:cN p) {x st nx:Nat} (h:(aD p x st).length≤nx):opP p x st nx=(p.buks.length,p.buks.length):=by
 unfold opP
 rw [List.take_of_length_le h]
 exact (jd i x st).2
def opL (p:Pln) (x st nx:Nat):List Nat:=List.range' (opP p x st nx).1 ((opP p x st nx).2-(opP p x st nx).1)
theorem Gu {p:Pln} (i:cN p) (x st nx:Nat):(opL p x st nx).length≤p.wi∧(opL p x st nx).length≤p.buks.length:=by
 have:=uj i x st nx
 unfold opL
 rw [List.length_range']
 omega
theorem ui (j:Nat):∀(l:List Itm) (s:Nat×Nat) (wi nb:Nat),mW wi nb s l→s.1≤s.2→l.foldl (iw j) (decide (s.1≤j∧j<s.2))=decide ((l.foldl opF s).1≤j∧j<(l.foldl opF s).2)
 | [],s,_,_,_,_=>rfl
 | y::l,s,wi,nb,h,hs=>by
  rw [List.foldl_cons,List.foldl_cons]
  have e:iw j (decide (s.1≤j∧j<s.2)) y=decide ((opF s y).1≤j∧j<(opF s y).2)∧(opF s y).1≤(opF s y).2:=by
   unfold iw opF
   by_cases o:y.kind=2
   ·have hn:=h.1 o
    rw [if_pos o]
    refine ⟨?_,by show s.1≤s.2+1;omega⟩
    by_cases i:y.n=j
    ·rw [if_neg (show ¬(y.kind=5∧y.n=j) by omega),if_pos ⟨o,i⟩];exact (KA (show s.1≤j∧j<s.2+1 by omega)).symm
    ·rw [if_neg (fun h=>i h.2),if_neg (fun h=>i h.2)];exact decide_eq_decide.2 (show (s.1≤j∧j<s.2)↔(s.1≤j∧j<s.2+1) by omega)
   ·rw [if_neg o]
    by_cases p:y.kind=5
    ·have hn:=h.2.1 p
     rw [if_pos p]
     refine ⟨?_,by show s.1+1≤s.2;omega⟩
     by_cases i:y.n=j
     ·rw [if_pos ⟨p,i⟩];exact (KD (show ¬(s.1+1≤j∧j<s.2) by omega)).symm
     ·rw [if_neg (fun h=>i h.2),if_neg (fun h=>i h.2)];exact decide_eq_decide.2 (show (s.1≤j∧j<s.2)↔(s.1+1≤j∧j<s.2) by omega)
    ·rw [if_neg p]
     exact ⟨by simp [o,p],hs⟩
  rw [e.1]
  exact ui j l (opF s y) wi nb h.2.2 e.2
theorem tC {i:Inp} (o:cN (aE i)) {x st nx:Nat} (hnx:nx≤(aD (aE i) x 0).length):∀{k:Nat},st<k→(kK i x k).take (st*(aD (aE i) x 0).length+nx)=kK i x st++(aD (aE i) x st).take nx
 | 0,h=>absurd h (Nat.not_lt_zero _)
 | k+1,h=>by
  have hl:=j0 o x k
  rw [fP]
  rcases JR st k with j | j
  ·have h1:=KH (aD (aE i) x 0).length (Nat.succ_le_of_lt j)
   rw [Kx] at h1
   rw [List.take_append_of_le_length (by omega)]
   exact tC o hnx j
  ·obtain rfl:st=k:=by omega
   rw [List.take_append,hl,List.take_of_length_le (by omega),Nat.add_sub_cancel_left]
theorem mY {i:Inp} (o:cN (aE i)) (x j:Nat):∀k,(kK i x k).foldl (iw j) false=decide ((aE i).buks.length≤j∧j<(aE i).buks.length)
 | 0=>(KD (by omega)).symm
 | k+1=>by
  rw [fP,List.foldl_append,mY o x j k]
  have h:=ui j _ (0,0) _ _ (jd o x k).1 (JD _)
  rw [(jd o x k).2] at h
  have e:decide ((aE i).buks.length≤j∧j<(aE i).buks.length)=decide ((0:Nat)≤j∧j<0):=decide_eq_decide.2 (by omega)
  exact (congrArg (fun b=>(aD (aE i) x k).foldl (iw j) b) e).trans h
theorem GP {i:Inp} (p:cN (aE i)) {x st nx:Nat} (j:Nat) (hnx:nx≤(aD (aE i) x 0).length) (o:st<i.cfg.steps.toNat):rW (dx i x) (st*(aD (aE i) x 0).length+nx) j=decide ((opP (aE i) x st nx).1≤j∧j<(opP (aE i) x st nx).2):=by
 unfold rW
 rw [tC p hnx o,List.foldl_append,mY p]
 have q:=(jd p x st).1
 rw [←List.take_append_drop nx (aD (aE i) x st),je] at q
 have h:=ui j _ (0,0) _ _ q.1 (JD _)
 have e:decide ((aE i).buks.length≤j∧j<(aE i).buks.length)=decide ((0:Nat)≤j∧j<0):=decide_eq_decide.2 (by omega)
 rw [e]
 exact h
theorem nQ (u l:Nat) (h:u≤l):∀n,((List.range n).filter fun j=>decide (u≤j∧j<l))=List.range' u (min l n-u)
 | 0=>by simp
 | n+1=>by
  rw [Kw,List.filter_append,nQ u l h n]
  by_cases hc:u≤n∧n<l
  ·rw [show min l (n+1)-u=(min l n-u)+1 by omega,List.range'_concat]
   simp [hc]
   omega
  ·have e:min l (n+1)-u=min l n-u:=by omega
   rw [e,List.filter_cons_of_neg (by simpa using hc)]
   simp
theorem ID {i:Inp} (o:cN (aE i)) {x st nx:Nat} (hnx:nx≤(aD (aE i) x 0).length) (j:st<i.cfg.steps.toNat):kU (dx i x) (st*(aD (aE i) x 0).length+nx) (aE i).buks.length=opL (aE i) x st nx:=by
 have hv:=uj o x st nx
 unfold kU opL
 simp only [GP o _ hnx j]
 rw [nQ _ _ hv.1,show min (opP (aE i) x st nx).2 (aE i).buks.length=(opP (aE i) x st nx).2 by omega]
theorem Gr {i:Inp} (o:cN (aE i)) (x:Nat):kU (dx i x) (i.cfg.steps.toNat*(aD (aE i) x 0).length) (aE i).buks.length=[]:=by
 unfold kU
 rw [List.filter_eq_nil_iff]
 intro j _
 unfold rW
 rw [List.take_of_length_le (by rw [j0 o];exact JD _),mY o]
 simp
theorem Cp {p:Pln} (o:cN p) {x st nx:Nat} {y:Itm} (i:(aD p x st)[nx]?=some y):(y.kind=6↔nx+1=(aD p x st).length):=by
 have hn:=(Kg.1 i).1
 have e:aD p x st=((List.range p.mi).map (fun a=>(⟨1,st,a,none⟩:Itm))++p.grps.flatMap (de p x st))++[⟨6,st,0,none⟩]:=rfl
 generalize hf:(List.range p.mi).map (fun a=>(⟨1,st,a,none⟩:Itm))++p.grps.flatMap (de p x st)=front at e
 have hl:(aD p x st).length=front.length+1:=by rw [e];simp
 rcases JR nx front.length with h | h
 ·have hm:y∈front:=by
   rw [e,Ki h] at i
   exact List.mem_of_getElem? i
  have j:y.kind≠6:=by
   rw [←hf] at hm
   rcases Kv.1 hm with hm | hm
   ·obtain ⟨_,_,rfl⟩:=List.mem_map.1 hm
    exact fun e=>by cases e
   ·obtain ⟨g,_,hm⟩:=List.mem_flatMap.1 hm
    unfold de at hm
    simp only [Kv,List.mem_map,List.mem_flatMap] at hm
    rcases hm with (⟨_,_,rfl⟩ | ⟨_,_,_,_,_,_,hm⟩) | ⟨_,_,rfl⟩
    ·exact fun e=>by cases e
    ·unfold cC at hm
     obtain ⟨c,_,rfl⟩:=List.mem_map.1 hm
     unfold gh
     split<;>exact fun e=>by cases e
    ·exact fun e=>by cases e
  exact ⟨fun e=>absurd e j,fun e=>by omega⟩
 ·have hx:nx=front.length:=by omega
  subst hx
  rw [e] at i
  simp at i
  subst i
  exact ⟨fun _=>hl.symm,fun _=>rfl⟩
theorem lq {p:Pln} {x st:Nat} {y:Itm} (h:y∈aD p x st) (hn:y.a=none):y.kind=1∨y.kind=2∨y.kind=5∨y.kind=6:=by
 unfold aD at h
 simp only [Kv,List.mem_map,List.mem_flatMap,List.mem_singleton] at h
 rcases h with (⟨_,_,rfl⟩ | ⟨g,_,h⟩) | rfl
 ·exact .inl rfl
 ·unfold de at h
  simp only [Kv,List.mem_map,List.mem_flatMap] at h
  rcases h with (⟨_,_,rfl⟩ | ⟨_,_,_,_,_,_,h⟩) | ⟨_,_,rfl⟩
  ·exact .inr (.inl rfl)
  ·unfold cC at h
   obtain ⟨c,_,rfl⟩:=List.mem_map.1 h
   cases hn
  ·exact .inr (.inr (.inl rfl))
 ·exact .inr (.inr (.inr rfl))
structure MOk (i:Inp) (x:Nat) (m:Mst):Prop where
 op:m.op=opL (aE i) x m.st m.nx
 rc:m.rc.length=m.st+1
 rl:∀y∈m.rc,y.1.length=i.start.length∧y.2.length=i.start.length
 lP:m.P.length=i.start.length
 lM:m.M.length=i.start.length
 lG:m.G.length=i.start.length
 ps:(m.st<i.cfg.steps.toNat∧m.nx<(aD (aE i) x 0).length)∨(m.st=i.cfg.steps.toNat∧m.nx=0)
theorem MOk.zero {i:Inp} (x:Nat):MOk i x (gw i):=by
 refine ⟨rfl,rfl,fun y j=>?_,rfl,by simp [gw],by simp [gw],?_⟩
 ·simp only [gw,List.mem_singleton] at j
  subst j
  exact ⟨rfl,by simp⟩
 ·by_cases h:0<i.cfg.steps.toNat
  ·exact .inl ⟨h,iT _ _ _⟩
  ·exact .inr ⟨by show 0=_;omega,rfl⟩
theorem MOk.opn {i:Inp} (hs:cU i) {x:Nat} {m:Mst} (h:MOk i x m):m.op=kU (dx i x) (aW i x m) (aE i).buks.length:=by
 rw [h.op]
 unfold aW
 rcases h.ps with ⟨h1,j⟩ | ⟨h1,j⟩
 ·exact (ID hs.ok (Nat.le_of_lt j) h1).symm
 ·rw [h1,j,Nat.add_zero,Gr hs.ok]
  rfl
theorem MOk.done {i:Inp} (hs:cU i) {x:Nat} {m:Mst} (h:MOk i x m):aW i x m≤(dx i x).length:=by
 rw [j0 hs.ok]
 unfold aW
 rcases h.ps with ⟨h1,j⟩ | ⟨h1,j⟩
 ·have:=KH (aD (aE i) x 0).length (Nat.succ_le_of_lt h1)
  rw [Kx] at this
  omega
 ·rw [h1,j];omega
theorem MOk.cur {i:Inp} (hs:cU i) {x:Nat} {m:Mst} (h:MOk i x m):(bZ i x m.st)[m.nx]?=(dx i x)[aW i x m]?:=by
 rcases h.ps with ⟨h1,j⟩ | ⟨h1,j⟩
 ·have o:=Kh (l:=aD (aE i) x m.st) (i:=m.nx) (by rw [jk hs.ok];exact j)
  have:=Ay hs.ok o h1
  unfold bZ aW
  rw [if_pos h1,this,o]
 ·unfold bZ aW
  rw [if_neg (by omega),List.getElem?_nil,List.getElem?_eq_none (by rw [j0 hs.ok,h1];omega)]
theorem MOk.okAt {i:Inp} (hs:cU i) {x:Nat} {m:Mst} (h:MOk i x m) {y:Itm} (j:(bZ i x m.st)[m.nx]?=some y) (hn:y.a=none):I9 m y:=by
 obtain ⟨h1,q⟩:=ep j
 have hc:bZ i x m.st=aD (aE i) x m.st:=if_pos h1
 rw [hc] at j
 have p:=uk (jd hs.ok x m.st).1 j
 have v:=(Gu hs.ok x m.st m.nx).2
 have u:=hs.ok.buks
 have o:=hs.s
 refine ⟨lq q hn,by rw [h.op];omega,fun A=>?_,fun _=>by rw [h.rc];omega⟩
 rw [h.op]
 have:=(p.2 A).2
 unfold opL
 rw [List.length_range']
 show 0<(opP (aE i) x m.st m.nx).2-(opP (aE i) x m.st m.nx).1
 unfold opP
 omega
theorem MOk.next {i:Inp} (hs:cU i) {x:Nat} {m j:Mst} (h:MOk i x m) {y:Itm} (u:(bZ i x m.st)[m.nx]?=some y) (h1:j.st=m.st) (L:j.nx=m.nx) (hP:j.P.length=i.start.length) (hM:j.M.length=i.start.length) (hG:j.G.length=i.start.length)
  (hop:j.op=if y.kind=2 then m.op++[y.n] else if y.kind=5 then gt m.op y.n else m.op) (hrc:j.rc=if y.kind=6 then m.rc++[(m.P,m.M)] else m.rc):MOk i x (adv i x j):=by
 obtain ⟨J,Q⟩:=ep u
 have hc:bZ i x m.st=aD (aE i) x m.st:=if_pos J
 rw [hc] at u
 have I:=uk (jd hs.ok x m.st).1 u
 have hv:=uj hs.ok x m.st m.nx
 have H:=Ef u
 have O:=jk hs.ok x m.st
 have p:=Cp hs.ok u
 have hnx:=(Kg.1 u).1
 have A:j.op=opL (aE i) x m.st (m.nx+1):=by
  rw [hop,h.op]
  unfold opL
  rw [H]
  unfold opF
  change (y.kind=2→y.n=(opP (aE i) x m.st m.nx).2∧(opP (aE i) x m.st m.nx).2<_∧_)∧(y.kind=5→y.n=(opP (aE i) x m.st m.nx).1∧(opP (aE i) x m.st m.nx).1<(opP (aE i) x m.st m.nx).2) at I
  by_cases v:y.kind=2
  ·rw [if_pos v,if_pos v]
   have:=(I.1 v).1
   show _=List.range' (opP (aE i) x m.st m.nx).1 ((opP (aE i) x m.st m.nx).2+1-(opP (aE i) x m.st m.nx).1)
   rw [show (opP (aE i) x m.st m.nx).2+1-(opP (aE i) x m.st m.nx).1=((opP (aE i) x m.st m.nx).2-(opP (aE i) x m.st m.nx).1)+1 by omega,List.range'_concat,this]
   congr 2
   omega
  ·rw [if_neg v,if_neg v]
   by_cases B:y.kind=5
   ·rw [if_pos B,if_pos B]
    have N:=I.2 B
    rw [N.1]
    show _=List.range' ((opP (aE i) x m.st m.nx).1+1) ((opP (aE i) x m.st m.nx).2-((opP (aE i) x m.st m.nx).1+1))
    rw [show (opP (aE i) x m.st m.nx).2-(opP (aE i) x m.st m.nx).1=((opP (aE i) x m.st m.nx).2-((opP (aE i) x m.st m.nx).1+1))+1 by omega,CF]
   ·rw [if_neg B,if_neg B]
 have q:∀z∈j.rc,z.1.length=i.start.length∧z.2.length=i.start.length:=by
  rw [hrc]
  split
  ·intro z C
   rcases Kv.1 C with C | C
   ·exact h.rl z C
   ·rw [List.mem_singleton.1 C];exact ⟨h.lP,h.lM⟩
  ·exact h.rl
 unfold adv
 rw [L,h1,hc]
 by_cases o:m.nx+1<(aD (aE i) x m.st).length
 ·rw [if_pos o]
  refine ⟨by show j.op=opL _ _ m.st (m.nx+1);exact A,?_,q,hP,hM,hG,.inl ⟨by show m.st<_;omega,by show m.nx+1<_;omega⟩⟩
  show j.rc.length=m.st+1
  rw [hrc,if_neg (fun e=>by have:=p.1 e;omega)]
  exact h.rc
 ·rw [if_neg o]
  have hl:m.nx+1=(aD (aE i) x m.st).length:=by omega
  refine ⟨?_,?_,q,hP,hM,hG,?_⟩
  ·show j.op=opL _ _ (m.st+1) 0
   rw [A]
   unfold opL
   rw [Gt hs.ok (Nat.le_of_eq hl.symm),Nat.sub_self]
   rfl
  ·show j.rc.length=m.st+1+1
   rw [hrc,if_pos (p.2 hl),Kf,h.rc]
   rfl
  ·by_cases D:m.st+1<i.cfg.steps.toNat
   ·exact .inl ⟨D,iT _ _ _⟩
   ·exact .inr ⟨by show m.st+1=_;omega,rfl⟩
theorem vg {l:List Rg} {j:Nat} (h:l.length≤j):aO l j=(0,0):=by simp [aO,List.getD,h]
theorem IR {s:Rg} {c:Nat} (hc:1≤c):∀r∈chR s c,s.1≤r.1∧r.1<r.2∧(s.1≤s.2→r.2≤s.2):=by
 intro r hr
 simp only [chR,shR,eR,List.map_map,List.mem_map,List.mem_range,Function.comp] at hr
 obtain ⟨j,i,rfl⟩:=hr
 have:=iI i
 refine ⟨by simp only;omega,by simp only;omega,fun h=>by simp only;omega⟩
def tZ (p:Pln) (x:Nat) (t:Tg):Rg:=aO (chR (aO (dR (aO p.buks t.b.toNat) p.W) (fV p.W x t.c.toNat t.d.toNat)) p.ck) t.e.toNat
theorem sB {st bk:Nat} {b:Rg} {W c x ph r:Nat} {a:Acn} (h:a∈dF st bk b W c x ph r):
  ∃i,a.at'=aO (chR (aO (dR b W) i) c) a.ch∧a.ch<(chR (aO (dR b W) i) c).length∧(a.send=false→i=fV W x ph r):=by
 unfold dF mT at h
 obtain ⟨k,j,h⟩:=List.mem_flatMap.1 h
 rw [Kv] at h
 rcases h with h | h<;>split at h
 ·rename_i hl
  simp only [List.mem_singleton] at h;subst h
  exact ⟨eZ W x ph r,rfl,hl,fun e=>by cases e⟩
 ·simp at h
 ·rename_i hl
  simp only [List.mem_singleton] at h;subst h
  exact ⟨fV W x ph r,rfl,hl,fun _=>rfl⟩
 ·simp at h
theorem jU {p:Pln} {x st:Nat} {y:Itm} (h:y∈aD p x st) {a:Acn} (i:y.a=some a):y.kind=(if a.send then 3 else 4)∧a.st=st∧a∈dF st a.bk (aO p.buks a.bk) p.W p.ck x a.ph a.rd:=by
 unfold aD at h
 simp only [Kv,List.mem_map,List.mem_flatMap,List.mem_singleton] at h
 rcases h with (⟨_,_,rfl⟩ | ⟨g,_,h⟩) | rfl
 ·cases i
 ·unfold de at h
  simp only [Kv,List.mem_map,List.mem_flatMap] at h
  rcases h with (⟨_,_,rfl⟩ | ⟨ph,_,r,_,j,_,h⟩) | ⟨_,_,rfl⟩
  ·cases i
  ·unfold cC at h
   obtain ⟨c,hc,rfl⟩:=List.mem_map.1 h
   simp only [gh,Option.some.injEq] at i
   subst i
   obtain ⟨o,v,q,u,_⟩:=AW hc
   refine ⟨rfl,o,?_⟩
   rw [v,q,u]
   exact hc
  ·cases i
 ·cases i
theorem zo {p:Pln} (o:cN p) {x st:Nat} {y:Itm} (h:y∈aD p x st) {a:Acn} (v:y.a=some a):a.at'.1<a.at'.2∧a.at'.2≤p.n:=by
 obtain ⟨_,_,A⟩:=jU h v
 obtain ⟨j,u,q,_⟩:=sB A
 have hm:=List.getElem_mem q
 rw [←cF _ _ q,←u] at hm
 have hc:=IR o.ck _ hm
 have B:(aO p.buks a.bk).1≤(aO p.buks a.bk).2∧(aO p.buks a.bk).2≤p.n:=by
  rcases JR a.bk p.buks.length with i | i
  ·have:=Aq _ (List.getElem_mem i)
   rw [←cF _ _ i] at this
   exact this
  ·have:aO p.buks a.bk=(0,0):=vg i
   rw [this];simp
 have hs:(aO (dR (aO p.buks a.bk) p.W) j).1≤(aO (dR (aO p.buks a.bk) p.W) j).2∧(aO (dR (aO p.buks a.bk) p.W) j).2≤(aO p.buks a.bk).2:=by
  rcases JR j (dR (aO p.buks a.bk) p.W).length with i | i
  ·have:=zy o.W1 B.1 _ (List.getElem_mem i)
   rw [←cF _ _ i] at this
   exact this
  ·have:aO (dR (aO p.buks a.bk) p.W) j=(0,0):=vg i
   rw [this];simp
 have:=hc.2.2 hs.1
 exact ⟨hc.2.1,by omega⟩
theorem FK {p:Pln} {x st:Nat} {y:Itm} (h:y∈aD p x st) {a:Acn} (o:y.a=some a) (hr:a.send=false):a.at'=tZ p x a.tg:=by
 obtain ⟨_,_,q⟩:=jU h o
 obtain ⟨u,i,_,j⟩:=sB q
 rw [i,j hr]
 rfl
def pW (i:Inp) (x:Nat) (s:LSt):Prop:=∀j,j<s.msgs.length→W64 (aC s.msgs j).vals∧((aC s.msgs j).tag.a=999∨(aC s.msgs j).vals.length=(tZ (aE i) x (aC s.msgs j).tag).2-(tZ (aE i) x (aC s.msgs j).tag).1)
theorem pW.len {i:Inp} (hs:cU i) {x:Nat} {s:LSt} (h:pW i x s) {st:Nat} {y:Itm} (u:st<i.cfg.steps.toNat) (q:y∈aD (aE i) x st) {a:Acn} (p:y.a=some a) (hr:a.send=false) (o:s.recv<s.msgs.length) (heq:(aC s.msgs s.recv).tag=a.tg):
  (aC s.msgs s.recv).vals.length=a.at'.2-a.at'.1∧W64 (aC s.msgs s.recv).vals:=by
 obtain ⟨h1,j⟩:=h _ o
 refine ⟨?_,h1⟩
 rw [FK q p hr,←heq]
 rcases j with j | j
 ·exfalso
  rw [heq] at j
  have e:a.tg.a=(a.st:Int):=rfl
  rw [e,(jU q p).2.1] at j
  have:=hs.s
  omega
 ·exact j
inductive gE (i:Inp) (x:Nat) (m:Mst) (s t:LSt):Mst→LSt→LSt→Nat→Prop
 | fin:(bZ i x m.st).length≤m.nx→gE i x m s t m s t 13
 | own (y:Itm):(bZ i x m.st)[m.nx]?=some y→y.a=none→gE i x m s t (adv i x (kr i x m y)) s t 0
 | send (y:Itm) (a:Acn):(bZ i x m.st)[m.nx]?=some y→y.a=some a→y.kind=3→t.msgs.length<t.recv+t.cap→gE i x m s t (adv i x m) s (t.send ⟨a.tg,(m.G.drop a.at'.1).take (a.at'.2-a.at'.1)⟩) 0
 | full (y:Itm) (a:Acn):(bZ i x m.st)[m.nx]?=some y→y.a=some a→y.kind=3→t.msgs.length=t.recv+t.cap→gE i x m s t m s t 11
 | recv (y:Itm) (a:Acn):(bZ i x m.st)[m.nx]?=some y→y.a=some a→y.kind=4→s.recv<s.msgs.length→(aC s.msgs s.recv).tag=a.tg→gE i x m s t (adv i x {m with G:=jp m.G a.at'.1 (aC s.msgs s.recv).vals a.add}) {s with recv:=s.recv+1} t 0
 | none (y:Itm) (a:Acn):(bZ i x m.st)[m.nx]?=some y→y.a=some a→y.kind=4→s.recv=s.msgs.length→gE i x m s t m s t 12
 | other (y:Itm) (a:Acn):(bZ i x m.st)[m.nx]?=some y→y.a=some a→y.kind=4→s.recv<s.msgs.length→(aC s.msgs s.recv).tag≠a.tg→gE i x m s t m s t 10
theorem AE (i:Inp) (x:Nat) (m:Mst) (s t:LSt) (hs:s.recv≤s.msgs.length) (B:t.msgs.length≤t.recv+t.cap):∃A v q C,gE i x m s t A v q C:=by
 cases hy:(bZ i x m.st)[m.nx]? with
 | none=>exact ⟨_,_,_,_,.fin (by rw [List.getElem?_eq_none_iff] at hy;exact hy)⟩
 | some y=>
  cases ha:y.a with
  | none=>exact ⟨_,_,_,_,.own y hy ha⟩
  | some a=>
   have j:=(jU (ep hy).2 ha).1
   by_cases o:a.send=true
   ·rw [if_pos o] at j
    by_cases p:t.msgs.length<t.recv+t.cap
    ·exact ⟨_,_,_,_,.send y a hy ha j p⟩
    ·exact ⟨_,_,_,_,.full y a hy ha j (by omega)⟩
   ·rw [if_neg o] at j
    by_cases u:s.recv=s.msgs.length
    ·exact ⟨_,_,_,_,.none y a hy ha j u⟩
    ·by_cases he:(aC s.msgs s.recv).tag=a.tg
     ·exact ⟨_,_,_,_,.recv y a hy ha j (by omega) he⟩
     ·exact ⟨_,_,_,_,.other y a hy ha j (by omega) he⟩
theorem oT {p:Pln} {x st:Nat} {y:Itm} (h:y∈aD p x st) {a:Acn} (i:y.a=some a) (j:y.kind=4):a.send=false:=by
 have:=(jU h i).1
 cases hse:a.send with
 | true=>rw [hse,j] at this;cases this
 | false=>rfl
theorem yB (l:List Msg) (y:Msg) (j:Nat):aC (l++[y]) j=if j<l.length then aC l j else if j=l.length then y else Msg.zero:=by
 unfold aC
 simp only [List.getD_eq_getElem?_getD]
 by_cases h:j<l.length
 ·rw [if_pos h,Ki h]
 ·rw [if_neg h,Kj (by omega)]
  by_cases i:j=l.length
  ·rw [if_pos i];subst i;simp
  ·rw [if_neg i,List.getElem?_eq_none (by simp;omega)];rfl
theorem gE.ok {i:Inp} (hs:cU i) {x:Nat} {m o:Mst} {s t q p:LSt} {C:Nat} (h:gE i x m s t o q p C) (hm:MOk i x m):MOk i x o:=by
 cases h with
 | fin=>exact hm
 | own y hy ha=>
  have j:=hm.okAt hs hy ha
  have lG:(eg i m.P m.G (di i.data (nK i x y.st y.n))).length=i.start.length:=kC _ _ hm.lG
  refine hm.next hs hy ?_ ?_ ?_ ?_ ?_ ?_ ?_<;>unfold kr<;>rcases j.1 with k | k | k | k<;>simp only [k]<;>first | rfl | simp [hm.lP,hm.lM,hm.lG,lG,mh,mj]
 | send y a hy ha hk=>exact hm.next hs hy rfl rfl hm.lP hm.lM hm.lG (by rw [if_neg (by omega),if_neg (by omega)]) (by rw [if_neg (by omega)])
 | full=>exact hm
 | recv y a hy ha hk=>exact hm.next hs hy rfl rfl hm.lP hm.lM (by show (jp _ _ _ _).length=_;rw [lF];exact hm.lG) (by rw [if_neg (by omega),if_neg (by omega)]) (by rw [if_neg (by omega)])
 | none=>exact hm
 | other=>exact hm
theorem gE.msgs {i:Inp} {x:Nat} {m p:Mst} {s t j o:LSt} {C:Nat} (h:gE i x m s t p j o C) (hm:pW i x s):pW i x j∧j.msgs=s.msgs∧o.msgs.length≤t.msgs.length+1∧t.msgs.length≤o.msgs.length:=by
 cases h<;>first | exact ⟨hm,rfl,Nat.le_succ _,JD _⟩ | exact ⟨hm,rfl,by simp [LSt.send],by simp [LSt.send]⟩
theorem mQ (A:Option Addr) (zs:List Int) (c:Nat) (w:World) (hA:Rd w A (aq .i64 zs)) (hl:zs.length≤17592186043904):
  Calls Tryz.prog 11 #[.slice A zs.length c] w fun e v=>∃u p,e=.returned (.slice u zs.length p)∧v.ownsRow w.heap.size 2 1 (.slice u zs.length p) zs.length (aq .i64 zs)∧Below w.heap.size w v:=by
 go_enter Tryz.func11,Tryz.ntmps11
 go_wp2_with (at_builtin;refine dX jE _ rfl (.tmp 3) (.tmp 4) rfl w.heap.size _ 0 [] rfl (fq w 2 1) A zs.length c (aq .i64 zs) rfl (hA.alloc _) (by rw [a9];omega) (bP _ _) (by omega) (by unfold maxLen;omega) (by simp) ?_)
 intro u p y i x _ _
 have o:=((JG _ w).alloc (JD _) (.cells #[] 2)).trans x
 obtain ⟨j,q⟩:=ae i o;clear i x o
 go_wp2
 go_ret
 exact ⟨_,_,rfl,j.out,q.out⟩
end Go.Proofs.YtaccfnffmbndhaaGreat
namespace Go.Proofs.YtaccfnffmbndhaaGreat
open Go.RowKit Go.ChangeShapes Go.WideShapes Go.ChangeAt
theorem zS:fR Tryz.prog 2 1 (Gi .i64):=oL Tryz.underlying2 (by kernel_rfl)
theorem yw:fR Tryz.prog 27 1 (zJ .u64):=mV Tryz.underlying27 Tryz.underlying231 (by kernel_rfl) (by kernel_rfl) (by kernel_rfl)
theorem Iq {l:List Int} (h:∀z∈l,(Lit.int .u64 z).wf=true):U64 l:=fun k i=>by
 have:=h _ (ul i)
 simpa [Lit.wf,IntKind.min,IntKind.max,IntKind.signed,IntKind.bits] using this
theorem C6 {z:Int} (h:(Lit.int .i64 z).wf=true): -9223372036854775808≤z∧z≤9223372036854775807:=by
 simpa [Lit.wf,IntKind.min,IntKind.max,IntKind.signed,IntKind.bits] using h
theorem tA:Tryz.prog.cellsOf 107=2:=by kernel_rfl
theorem rL:Tryz.prog.cellsOf 24=12:=by kernel_rfl
theorem rK:Tryz.prog.cellsOf 29=15:=by kernel_rfl
theorem nF {w:World} {A:Option Addr} {zs:List Int} {c:Nat} (j:zs.length≤c) (i:zs.length≤17592186043904) (o:Rd w A (aq .i64 zs)) (p:∀z∈zs,(Lit.int .i64 z).wf=true):bD w A zs c:=⟨j,i,o,xk p⟩
theorem Ec:fR Tryz.prog 107 2 rEx:=⟨tA,fun {H I W u C x} h j=>by
 obtain ⟨xs,n,_,hx,hl,i,p⟩:=DataW.trod_struct Tryz.underlying107 h
 rw [tA] at hl
 have o:xs.length=2:=i
 obtain ⟨Q,A,c,v,O,R,J,D,N⟩:=aY km Tryz.underlying107 hx j (p 0 _ rfl) (by omega) rfl
 obtain ⟨y,B,d,q,L,b3,b4,b5,b6⟩:=aY km Tryz.underlying107 hx j (p 1 _ rfl) (by omega) rfl
 clear h p i o hx j
 match C,hl with
 | [c0,c1],_=>
  simp at v q
  exact ⟨rfl,⟨Q,y⟩,A,c,B,d,by simp [v,q],nF O J D N,nF L b4 b5 b6⟩⟩
theorem BG:fR Tryz.prog 25 1 (rSl rEx 2):=pN Tryz.underlying25 Ec (by kernel_rfl) (of_decide_eq_true (by kernel_rfl))
def Jn:dD Cfg:=fun w i k=>∃A c,i=(cS A c k).toList∧jG w A c k∧(-9223372036854775808≤k.rate∧k.rate≤9223372036854775807)∧(-9223372036854775808≤k.mom∧k.mom≤9223372036854775807)∧W64 k.sizes∧W64 [k.shift,k.workers,k.batch,k.micros,k.steps,k.bucket,k.chunk,k.window,k.cap]
theorem BH:fR Tryz.prog 24 12 Jn:=⟨rL,fun {H a0 W O cs x} h i=>by
 obtain ⟨xs,n,_,hx,hl,o,j⟩:=DataW.trod_struct Tryz.underlying24 h
 rw [rL] at hl
 have p:xs.length=12:=o
 obtain ⟨sz,A,c,T,a2,a3,a4,a5,a6⟩:=aY yx Tryz.underlying24 hx i (j 0 _ rfl) (by omega) rfl
 obtain ⟨z1,h1,g1⟩:=aY iG Tryz.underlying24 hx i (j 1 _ rfl) (by omega) rfl
 obtain ⟨Z,B,Y⟩:=aY zS Tryz.underlying24 hx i (j 2 _ rfl) (by omega) rfl
 obtain ⟨z3,N,g3⟩:=aY zS Tryz.underlying24 hx i (j 3 _ rfl) (by omega) rfl
 obtain ⟨z4,C,g4⟩:=aY iG Tryz.underlying24 hx i (j 4 _ rfl) (by omega) rfl
 obtain ⟨V,I,g5⟩:=aY iG Tryz.underlying24 hx i (j 5 _ rfl) (by omega) rfl
 obtain ⟨z6,Q,g6⟩:=aY iG Tryz.underlying24 hx i (j 6 _ rfl) (by omega) rfl
 obtain ⟨U,D,g7⟩:=aY iG Tryz.underlying24 hx i (j 7 _ rfl) (by omega) rfl
 obtain ⟨z8,L,g8⟩:=aY iG Tryz.underlying24 hx i (j 8 _ rfl) (by omega) rfl
 obtain ⟨z9,R,g9⟩:=aY iG Tryz.underlying24 hx i (j 9 _ rfl) (by omega) rfl
 obtain ⟨v,q,a7⟩:=aY iG Tryz.underlying24 hx i (j 10 _ rfl) (by omega) rfl
 obtain ⟨y,u,X⟩:=aY iG Tryz.underlying24 hx i (j 11 _ rfl) (by omega) rfl
 clear h j o p hx i
 match cs,hl with
 | [c0,c1,c2,c3,c4,c5,c6,c7,c8,c9,c10,c11],_=>
  simp at T h1 B N C I Q D L R q u
  refine ⟨rfl,⟨sz,z1,Z,z3,z4,V,z6,U,z8,z9,v,y⟩,A,c,by simp [cS,T,h1,B,N,C,I,Q,D,L,R,q,u],⟨a2,a3,a4,a5⟩,C6 Y,C6 g3,xk a6,?_⟩
  refine xk fun z J=>?_
  simp only [List.mem_cons,List.not_mem_nil,or_false] at J
  rcases J with rfl | rfl | rfl | rfl | rfl | rfl | rfl | rfl | rfl<;>assumption⟩
def I7:dD Inp:=fun w q i=>∃A c D j T o R p,q=(aH A c D j T o R p i).toList∧jP w A c D T o R i∧i.data.length≤j∧j≤9223372036854775807∧i.draws.length≤p∧p≤9223372036854775807∧o≤9223372036854775807∧W64 i.cfg.sizes∧W64 [i.cfg.shift,i.cfg.workers,i.cfg.batch,i.cfg.micros,i.cfg.steps,i.cfg.bucket,i.cfg.chunk,i.cfg.window,i.cfg.cap]
theorem BF:fR Tryz.prog 29 15 I7:=⟨rK,fun {H a0 W B Y x} h i=>by
 obtain ⟨xs,n,_,hx,hl,j,p⟩:=DataW.trod_struct Tryz.underlying29 h
 rw [rK] at hl
 have o:xs.length=4:=j
 obtain ⟨k,A,c,q,k2,X,k4,Z,k6⟩:=aY BH Tryz.underlying29 hx i (p 0 _ rfl) (by omega) rfl
 obtain ⟨V,D,cd,v,C,J,d4,d5⟩:=aY BG Tryz.underlying29 hx i (p 1 _ rfl) (by omega) rfl
 obtain ⟨st,T,ct,y,t2,I,N,t5,O⟩:=aY km Tryz.underlying29 hx i (p 2 _ rfl) (by omega) rfl
 obtain ⟨dr,R,cr,u,r2,L,U,r5,Q⟩:=aY yw Tryz.underlying29 hx i (p 3 _ rfl) (by omega) rfl
 clear h p j o hx i
 match Y,hl with
 | [c0,c1,c2,c3,c4,c5,c6,c7,c8,c9,c10,c11,c12,c13,c14],_=>
  simp [cS] at q v y u
  exact ⟨rfl,⟨k,V,st,dr⟩,A,c,D,cd,T,ct,R,cr,by simp [aH,q,v,y,u],⟨k2,d5,d4,nF t2 N t5 O,r5,U,Iq Q,X,k4⟩,C,J,r2,L,I,Z,k6⟩⟩
theorem Ed {H:Type} {x:TypeId×Value→H} {W:World} {base:Nat} {v:Value} {d:DataW H} {p:List MemPlace} (o:Value.okWide Tryz.prog W .any base 29 v) (h:DataW.Trod x Tryz.prog W 0 (fun _=>true) true 29 v d p) (z:iC Tryz.prog 29 d):
  ∃(A:Option Addr) (c:Nat) (D:Option Addr) (j:Nat) (T:Option Addr) (q:Nat) (R:Option Addr) (u:Nat) (i:Inp),v=.agg (aH A c D j T q R u i)∧jP W A c D T q R i∧i.data.length≤j∧j≤9223372036854775807∧i.draws.length≤u∧u≤9223372036854775807∧q≤9223372036854775807∧W64 i.cfg.sizes∧W64 [i.cfg.shift,i.cfg.workers,i.cfg.batch,i.cfg.micros,i.cfg.steps,i.cfg.bucket,i.cfg.chunk,i.cfg.window,i.cfg.cap]:=by
 obtain ⟨y,rfl,_⟩:=okWide_struct Tryz.underlying29 o
 obtain ⟨i,⟨A,c,D,j,T,q,R,u,e,h1⟩,_⟩:=pO BF h z
 refine ⟨A,c,D,j,T,q,R,u,i,?_,h1⟩
 obtain ⟨l⟩:=y
 have B:l=_:=e
 rw [B]
theorem nc {P:Program} {ops:Array Oper} {rest:List Oper} {op:Oper} {a:Act} {w:World} {Q:Exit→Act→World→Prop} {j:TypeId} {x:Operand} {b o:Nat} {xs:Array Value} {t:TypeId} {A:Nat×Nat} (i:Array Value)
  (y:w.heap[b]?=some (.cells xs t A)) (hr:cL P j i.size) (hw:Region.wanted op (yielded ops a.tmps)=true) (p:op.op=.load j x) (hx:a.eval x=.pointer (some ⟨b,o,none⟩)) (hcs:(xs.toList.drop o).take i.toList.length=i.toList)
  (h:wpList P ops Q rest (a.put op.dst (.agg i)) w):wpList P ops Q (op::rest) a w:=by
 obtain ⟨⟨d,h1,q⟩,v⟩:=hr
 refine wpList_step fun K u=>?_
 rw [if_pos hw]
 exact wp_load_mid j x p b o hx i.toList d (dW y o hcs) h1 q (by simpa using v) (u _ _ (by simpa using h))
end Go.Proofs.YtaccfnffmbndhaaGreat
