/- No condition. -/
import Derived.Test.YtgmajkppbhiopaaGreatA00
import Derived.Test.YtgmajkppbhiopaaGreatA16
import Derived.Test.YtgmajkppbhiopaaGreatProg
import Derived.Test.YtgmajkppbhiopaaGreatA01
import Derived.KernelRfl
import Derived.BigQuiet
import Derived.Deep.QuietTactic
import Derived.Deep.RegionHeld3
import Derived.StillTailTactics
import Derived.WalkSpells
import Derived.Deep.RegionLaw
set_option linter.unusedSimpArgs false
set_option linter.unusedVariables false
set_option maxRecDepth 100000
set_option maxHeartbeats 4000000
namespace Go.Proofs.YtgmajkppbhiopaaGreat
open Go.RowKit
theorem Ds {ra u q:Int} {ps o g:List Int} {lo k:Nat} (h:W64 ps):W64 (apP ra u q ps o g lo k):=dZ fun j i=>by
 split
 ·exact fM _
 ·have:=h j i
  rw [cW _ _ i]
  simpa [cW _ _ i] using this
theorem CE:dt Tryz.prog 148 2:=⟨⟨_,Tryz.underlying148,rfl⟩,by kernel_rfl⟩
theorem AI {H:Nat→Prop} {w:World} {b x:Nat} {i:Inp} {a:MAd} {m:Mst} (h:aC H w b i x a m) (hn:∀k,Mut b a k→¬H k) (a0:∀k,w.heap.size≤k→¬H k) (hs:bP i) (y:Itm) (u v:Value) (hu:u.oneCell'=true) (hv:v.oneCell'=true) (bV:y.n<(ao i).buks.length) (bM:0<m.op.length) (bl:m.op.length≤1000)
  (bd: -9223372036854775808≤i.cfg.rate∧i.cfg.rate≤9223372036854775807) (bh: -9223372036854775808≤i.cfg.mom∧i.cfg.mom≤9223372036854775807) (lo A:Nat) (hr:ay (ao i).buks y.n=(lo,A)) (cn:lo<A) (cr:A≤i.start.length):
  Calls Tryz.prog 228 #[.pointer (some ⟨b,0,none⟩),.agg (aS y).toArray,.agg #[u,v]] w fun e o=>e=.returned (FQ 0)∧Did H (fun _=>False) b i x a m w.heap.size (fun _ m1=>m1={m with P:=apP i.cfg.rate i.cfg.mom i.cfg.shift m.P m.M ((m.G.drop lo).take (A-lo)) lo (A-lo),M:=apM i.cfg.mom i.cfg.shift m.M ((m.G.drop lo).take (A-lo)) lo (A-lo),op:=eS m.op y.n}) w o:=by
 have Y:=h.blk
 have c7:=hs.n
 obtain ⟨W0,W1,b2,b1,g0,g1,R, -⟩:=ge w (aS y).toArray #[u,v] 152 333
 have T:=sb Y _ R
 have a5:=aJ h.bu (nH (S:=er H b a) (Keep.below (S:=er H b a) R))
 have N:=dm bV
 rw [hr] at N
 obtain ⟨bb,bo,a4,b7⟩:=a5 _ _ N.1
 obtain ⟨b9,bO,e',a2⟩:=a5 _ _ N.2
 rw [a4] at e'
 obtain ⟨rfl,rfl⟩:b9=bb∧bO=bo:=by simpa using e'.symm
 rw [←FH] at a2
 have t7:∀o,Below W1.heap.size W1 o→o.cell? ⟨b,7,none⟩=some (.slice a.BA (ao i).buks.length a.bc):=fun o q=>EO o b 7 _ _ _ (sb T o q)
 rw [a4] at t7
 have s2:∀o,Below W1.heap.size W1 o→o.cell? ⟨w.heap.size,2,none⟩=some (FQ (y.n:Nat)):=fun o q=>EO o w.heap.size 2 _ _ _ (sb g0 o q)
 have d0:=fun o (q:Below W1.heap.size W1 o)=>am q b7
 have d1:=fun o (q:Below W1.heap.size W1 o)=>am q a2
 have cf:(y.n:Int)<(ao i).buks.length:=by omega
 have ct:¬(y.n:Int)<0:=by omega
 have tl:=sl T
 obtain ⟨bN,bI,bG,G0,K1,U,Hn,b0⟩:=aj b2 b1 T g0 R h hn a0
 have q0:=(br W1).drew
 clear b2 b1 g0 g1 R T a5 N Y h hn a0 b7 a2 a4 hr
 go_enter Tryz.func228,Tryz.ntmps228
 go_wp2_with fail
 rw [bN.out,bI.out]
 refine HA.g (fun o:World=>Below W1.heap.size W1 o) ?_
 refine HA.t ?_ [0,1,2,3,4,5,6,7,8] q0 ?_
 refine HA.v 9 (W1.drew.alloc (.cells #[FQ 0,FQ 0] 148)) (.pointer (some ⟨W1.heap.size,0,none⟩)) (q0.alloc (EM _) _) ?_
 refine HA.st 10 (EN W1.drew _) CE (fun B e2 k2=>?_)
 have q2:Below W1.heap.size W1 B:=q0.trans (dI k2)
 refine ⟨q2,HA.d ?_⟩
 rw [FC] at e2
 have C:=U.out.mlt
 have cv:=K1.out.size
 have O:=sb bG.out B q2
 have a7:=sb G0.out B q2
 have B2:=bt K1.out q2
 have c8:w.heap.size<W1.heap.size:=EL G0.out
 have c6:b≠a.bp:=fun e=>an U.out.blk (by decide) U.out.oP (by rw [e];rfl)
 have bi:b≠a.bm:=fun e=>an U.out.blk (by decide) U.out.oM (by rw [e];rfl)
 have ci:=C a.bp (.inr (.inl rfl))
 have d2:=C a.bm (.inr (.inr (.inl rfl)))
 have Z:=fun o (q:Keep (fun k=>k=a.bp∨k=a.bm) B o)=>(q.block b (EL O) (fun e=>e.elim c6 bi)).trans O
 have kx:=fun o (q:Keep (fun k=>k=a.bp∨k=a.bm) B o)=>(q.block W1.heap.size (EL e2) (fun e=>e.elim (fun e=>by omega) (fun e=>by omega))).trans e2
 have r8:∀o,Keep (fun k=>k=a.bp∨k=a.bm) B o→o.cell? ⟨b,8,none⟩=some (FQ i.cfg.rate):=fun o q=>EO o b 8 _ _ _ (Z o q)
 have r9:∀o,Keep (fun k=>k=a.bp∨k=a.bm) B o→o.cell? ⟨b,9,none⟩=some (FQ i.cfg.mom):=fun o q=>EO o b 9 _ _ _ (Z o q)
 have bz:∀o,Keep (fun k=>k=a.bp∨k=a.bm) B o→o.cell? ⟨b,10,none⟩=some (FQ i.cfg.shift):=fun o q=>EO o b 10 _ _ _ (Z o q)
 have bn:∀o,Keep (fun k=>k=a.bp∨k=a.bm) B o→o.cell? ⟨b,11,none⟩=some (.slice (some ⟨a.bp,0,none⟩) i.start.length a.cp):=fun o q=>EO o b 11 _ _ _ (Z o q)
 have bX:∀o,Keep (fun k=>k=a.bp∨k=a.bm) B o→o.cell? ⟨b,12,none⟩=some (.slice (some ⟨a.bm,0,none⟩) i.start.length a.cm):=fun o q=>EO o b 12 _ _ _ (Z o q)
 have bA:∀o,Keep (fun k=>k=a.bp∨k=a.bm) B o→o.cell? ⟨b,13,none⟩=some (.slice (some ⟨a.bg,0,none⟩) i.start.length a.cg):=fun o q=>EO o b 13 _ _ _ (Z o q)
 have x0:∀o,Keep (fun k=>k=a.bp∨k=a.bm) B o→o.cell? ⟨W1.heap.size,0,none⟩=some (FQ (lo:Nat)):=fun o q=>EO o _ 0 _ _ _ (kx o q)
 have x1:∀o,Keep (fun k=>k=a.bp∨k=a.bm) B o→o.cell? ⟨W1.heap.size,1,none⟩=some (FQ (A:Nat)):=fun o q=>EO o _ 1 _ _ _ (kx o q)
 have cj:i.start.length≤a.cg:=by
  obtain ⟨_,_,e,h⟩:=av U.out.oG
  simp only [FD] at e
  omega
 have L:=U.out.below B2 Hn.out
 have hG:Rd B (some ⟨a.bg,lo,none⟩) (ar .i64 ((m.G.drop lo).take (A-lo))):=by
  have:=((Rd.own L.oG).drop lo).take (A-lo)
  rwa [dP,du,FI] at this
 have a3:=yN i.cfg.rate i.cfg.mom i.cfg.shift 0 i.start.length lo (A-lo) a.cp a.cm (a.cg-lo) (some ⟨a.bp,0,none⟩) (some ⟨a.bm,0,none⟩) (some ⟨a.bg,lo,none⟩) m.P m.M ((m.G.drop lo).take (A-lo)) B.drew L.oP.drew L.oM.drew (fun j hj e=>by cases hj;exact L.dj.1 (by simpa [Value.ownBlock] using e.symm))
  hG (by rw [Fv,Fy,L.wG.1];omega) (by omega) (by omega) (fun z hz e=>by cases hz;exact L.dj.2.1 (by simpa [Value.ownBlock] using e)) (fun z hz e=>by cases hz;exact L.dj.2.2 (by simpa [Value.ownBlock] using e)) bd bh L.wM.2
 rw [show lo+(A-lo)=A by omega] at a3
 have cx:(lo:Int)≤A:=by omega
 have d3:(A:Int)≤a.cg:=by omega
 have cb:lo≤A:=by omega
 have cc:A≤a.cg:=by omega
 have cd:¬a.cg=lo:=by omega
 have q3:Keep (fun k=>k=a.bp∨k=a.bm) B B.drew:=(Keep.refl _ _).drew
 have bs:=fun o (q:Keep (fun k=>k=a.bp∨k=a.bm) B o)=>ET (EL O) q.size
 have bw:=fun o (q:Keep (fun k=>k=a.bp∨k=a.bm) B o)=>ET (EL e2) q.size
 obtain ⟨bv,M2,b8,KB,GI⟩:=ag a3 L B2 Z a7;clear t7 s2 d0 d1 tl q0 k2 q2 a3 L B2 Z kx O a7 e2 hG C
 go_wp2_with fail
 refine HA.g (fun o:World=>Keep (fun k=>k=a.bp∨k=a.bm) B o) ?_
 refine HA.t ?_ [0,1,2,3,4,5,6,7,8,9,10,11,12,13,14,15,16,17,18] q3 ?_
 refine HA.c 19 bv.out ?_
 rintro e w4 ⟨rfl,b6,ad,k4⟩
 have q4:Keep (fun k=>k=a.bp∨k=a.bm) B w4:=q3.trans (k4.mono fun j _ e=>e.imp (fun e=>by simpa [Value.ownBlock] using e.symm) (fun e=>by simpa [Value.ownBlock] using e.symm))
 refine ⟨_,rfl,q4,fun _=>?_⟩
 refine HA.d ?_
 have m4:=M2.out.setPM Hn.out q4 _ _ b6 ad ⟨by rw [kH];exact M2.out.wP.1,Ds M2.out.wP.2⟩ ⟨by rw [kI];exact M2.out.wM.1,wt M2.out.wM.2⟩
 have hX:=q4.cell (EO B w.heap.size 2 _ _ _ GI.out) (p:=⟨w.heap.size,2,none⟩) (fun e=>e.elim (fun e=>by have:w.heap.size=a.bp:=e;omega) (fun e=>by have:w.heap.size=a.bm:=e;omega))
 obtain ⟨g,c,D,cl⟩:=m4.oO.form bM
 have co:=U.out.mlt g (.inr (.inr (.inr (.inr (.inr (by rw [D];rfl))))))
 have Q:=m4.oO
 rw [D] at Q
 have V:=BK g c w.heap.size y.n 0 m.op w4 Q bl hX (by omega)
 have J:=m4.blk
 have b4:b≠g:=fun e=>an J (by decide) Q (by rw [e];rfl)
 have cq:w4.cell? ⟨b,18,none⟩=some (.slice (some ⟨g,0,none⟩) m.op.length c):=by rw [←D];exact EO w4 b 18 _ _ _ J
 have cw:=EL J
 obtain ⟨H4,b3,b5,Q4,a6⟩:=ag m4 V J q4 D;clear m4 hX V J q4 D Q b6 ad k4 r8 r9 bz bn bX bA x0 x1 bs bw q3
 go_wp2_with fail
 refine b3.out.mono ?_
 rintro e w5 ⟨rfl,o5,k5⟩
 have g5:=(k5.block b (EL b5.out) b4).trans b5.out
 have c9:w5.cell? ⟨b,18,none⟩=some a.ov:=EO w5 b 18 _ _ _ g5
 have cs:=EV w5 b 18 _ _ g5
 have l5:=EL g5
 have e6:=ss (i:=18) (v:=.slice (some ⟨g,0,none⟩) (eS m.op y.n).length c) g5 rfl
 have k6:Keep (fun k=>k=b) w5 (w5.setCell ⟨b,18,none⟩ (.slice (some ⟨g,0,none⟩) (eS m.op y.n).length c)):=Keep.setCell (S:=fun k=>k=b) (Keep.refl _ _) _ (.inr rfl) _
 have o6:=k6.own o5 (fun j hj e=>by cases hj;exact b4 e.symm)
 have a1:Keep (fun k=>k=b∨a.ov.ownBlock=some k) w4 (w5.setCell ⟨b,18,none⟩ (.slice (some ⟨g,0,none⟩) (eS m.op y.n).length c)):=(k5.mono fun k _ e=>.inr (by rw [a6.out,e];rfl)).trans (k6.mono fun k _ e=>.inl e)
 have a8:w.heap.size≤w4.heap.size:=ES b8.out.size Q4.out.size
 have I:=H4.out.setO Hn.out (fun k hk=>b0.out k (ES a8 hk)) (.slice (some ⟨g,0,none⟩) (eS m.op y.n).length c) (eS m.op y.n) a1 e6 o6 (fun k hk=>.inl (by rw [a6.out];exact hk))
 have HF:=aa (⟨_,_,I.1,rfl,rfl,((Keep.below b8.out).trans (Q4.out.sub fun k e=>.inl (.inr (e.elim .inl fun e=>.inr (.inl e))))).trans (a1.sub fun k e=>.inl (e.elim .inl fun e=>.inr (.inr (.inr (.inr (.inr e)))))),fun k hk=>(I.2 k hk).imp id (fun h=>ES a8 h),⟨rfl,rfl,rfl⟩,rfl⟩:Did H (fun _=>False) b i x a m w.heap.size (fun _ m1=>m1={m with P:=apP i.cfg.rate i.cfg.mom i.cfg.shift m.P m.M ((m.G.drop lo).take (A-lo)) lo (A-lo),M:=apM i.cfg.mom i.cfg.shift m.M ((m.G.drop lo).take (A-lo)) lo (A-lo),op:=eS m.op y.n}) w _);clear I a1 e6 k6 o6 o5 k5 g5
 go_wp2_with fail
 go_ret
 exact ⟨rfl,HF.out⟩
theorem Did.older {H G:Nat→Prop} {b:Nat} {i:Inp} {x:Nat} {a:MAd} {m:Mst} {n o:Nat} {T:World→Mst→Prop} {w u:World} (h:Did H G b i x a m n T w u) (hn:o≤n):Did H G b i x a m o T w u:=by
 obtain ⟨a1,m1,B,y,D,A,C,v⟩:=h
 exact ⟨a1,m1,B,y,D,A,fun k hk=>(C k hk).imp id fun e=>ES hn e,v⟩
theorem ux {H:Nat→Prop} {w:World} {b x:Nat} {i:Inp} {a:MAd} {m:Mst} (h:aC H w b i x a m) (hn:∀k,Mut b a k→¬H k) (o:∀k,w.heap.size≤k→¬H k) (I:bP i) {y:Itm} (D:(bf i x m.st)[m.nx]?=some y) (hk:y.kind=2) (hl:m.op.length≤1000) (u v:Option Addr):
  Calls Tryz.prog 216 #[.pointer (some ⟨b,0,none⟩),.pointer u,.pointer v] w fun e A=>e=.returned (FQ 0)∧s8 H (fun _=>False) b i x a m (fun _ m1=>m1={m with op:=m.op++[y.n]}) w A:=by
 refine (iQ h hn o (G:=fun _=>False) (fun _ h=>h.elim) I D u v 225 (fun A=>by rw [hk];kernel_rfl) (fun args w=>by kernel_rfl) (fun _=>False) (fun _ m1=>m1={m with op:=m.op++[y.n]}) (fun _ _ _ h _=>h) (fun A q=>?_)).mono ?_
 ·refine (rV (h.below q hn) hn (fun k hk=>o k (ES q.size hk)) hl y (.pointer u) (.pointer v) rfl rfl).mono ?_
  rintro e J ⟨rfl,B⟩
  exact .inl ⟨rfl,B.older q.size⟩
 ·rintro e A (⟨rfl,B⟩ | ⟨C,_,L,_⟩)
  ·exact ⟨rfl,B⟩
  ·exact L.elim
theorem uv {H:Nat→Prop} {w:World} {b x:Nat} {i:Inp} {a:MAd} {m:Mst} (h:aC H w b i x a m) (hn:∀k,Mut b a k→¬H k) (o:∀k,w.heap.size≤k→¬H k) (D:bP i) {y:Itm} (I:(bf i x m.st)[m.nx]?=some y) (hk:y.kind=6) (hl:m.rc.length≤1000) (u v:Option Addr):
  Calls Tryz.prog 216 #[.pointer (some ⟨b,0,none⟩),.pointer u,.pointer v] w fun e A=>e=.returned (FQ 0)∧s8 H (fun _=>False) b i x a m (fun _ m1=>m1={m with rc:=m.rc++[(m.P,m.M)],G:=List.replicate i.start.length 0}) w A:=by
 refine (iQ h hn o (G:=fun _=>False) (fun _ h=>h.elim) D I u v 229 (fun A=>by rw [hk];kernel_rfl) (fun args w=>by kernel_rfl) (fun _=>False) (fun _ m1=>m1={m with rc:=m.rc++[(m.P,m.M)],G:=List.replicate i.start.length 0}) (fun _ _ _ h _=>h) (fun A q=>?_)).mono ?_
 ·refine (rU (h.below q hn) hn (fun k hk=>o k (ES q.size hk)) D hl y (.pointer u) (.pointer v) rfl rfl).mono ?_
  rintro e J ⟨rfl,B⟩
  exact .inl ⟨rfl,B.older q.size⟩
 ·rintro e A (⟨rfl,B⟩ | ⟨C,_,L,_⟩)
  ·exact ⟨rfl,B⟩
  ·exact L.elim
theorem C0 {H:Nat→Prop} {w:World} {b x:Nat} {i:Inp} {a:MAd} {m:Mst} (h:aC H w b i x a m) (hn:∀k,Mut b a k→¬H k) (A:∀k,w.heap.size≤k→¬H k) (T:bP i) {y:Itm} (U:(bf i x m.st)[m.nx]?=some y) (hk:y.kind=5) (u v:Option Addr) (I:y.n<(ao i).buks.length) (R:0<m.op.length) (L:m.op.length≤1000)
  (O: -9223372036854775808≤i.cfg.rate∧i.cfg.rate≤9223372036854775807) (N: -9223372036854775808≤i.cfg.mom∧i.cfg.mom≤9223372036854775807) (lo o:Nat) (hr:ay (ao i).buks y.n=(lo,o)) (J:lo<o) (Q:o≤i.start.length):
  Calls Tryz.prog 216 #[.pointer (some ⟨b,0,none⟩),.pointer u,.pointer v] w fun e B=>e=.returned (FQ 0)∧s8 H (fun _=>False) b i x a m (fun _ m1=>m1={m with P:=apP i.cfg.rate i.cfg.mom i.cfg.shift m.P m.M ((m.G.drop lo).take (o-lo)) lo (o-lo),M:=apM i.cfg.mom i.cfg.shift m.M ((m.G.drop lo).take (o-lo)) lo (o-lo),op:=eS m.op y.n}) w B:=by
 refine (iQ h hn A (G:=fun _=>False) (fun _ h=>h.elim) T U u v 228 (fun B=>by rw [hk];kernel_rfl) (fun args w=>by kernel_rfl) (fun _=>False) (fun _ m1=>m1={m with P:=apP i.cfg.rate i.cfg.mom i.cfg.shift m.P m.M ((m.G.drop lo).take (o-lo)) lo (o-lo),M:=apM i.cfg.mom i.cfg.shift m.M ((m.G.drop lo).take (o-lo)) lo (o-lo),op:=eS m.op y.n}) (fun _ _ _ h _=>h) (fun B q=>?_)).mono ?_
 ·refine (AI (h.below q hn) hn (fun k hk=>A k (ES q.size hk)) T y (.pointer u) (.pointer v) rfl rfl I R L O N lo o hr J Q).mono ?_
  rintro e V ⟨rfl,D⟩
  exact .inl ⟨rfl,D.older q.size⟩
 ·rintro e B (⟨rfl,D⟩ | ⟨C,_,Y,_⟩)
  ·exact ⟨rfl,D⟩
  ·exact Y.elim
theorem yn {p:Pln} {x st:Nat} {y:Itm} (h:y∈aw p x st) (hk:y.kind=2∨y.kind=5):∃g∈p.grps,g.1≤y.n∧y.n<g.2:=by
 unfold aw at h
 simp only [FE,List.mem_map,List.mem_flatMap,List.mem_singleton,List.mem_range] at h
 rcases h with (⟨k,i,rfl⟩ | ⟨g,u,h⟩) | rfl
 ·rcases hk with hk | hk<;>cases hk
 ·refine ⟨g,u,?_⟩
  unfold bU at h
  simp only [FE,List.mem_map,List.mem_flatMap,List.mem_range'_1] at h
  rcases h with (⟨j,o,rfl⟩ | ⟨_,_,_,_,_,_,h⟩) | ⟨j,o,rfl⟩
  ·show g.1≤j∧j<g.2
   omega
  ·unfold aN at h
   obtain ⟨c,_,rfl⟩:=List.mem_map.1 h
   unfold eO at hk
   rcases hk with hk | hk<;>(split at hk<;>cases hk)
  ·show g.1≤j∧j<g.2
   omega
 ·rcases hk with hk | hk<;>cases hk
def ap (w:World) (b:Nat) (ring:Value) (cap sent recv peak:Nat):Prop:=
 w.heap[b]?=some (.cells #[ring,FQ cap,FQ sent,FQ recv,FQ peak] 182 (0,0))
section
variable {w:World} {b:Nat} {ring:Value} {cap sent recv peak:Nat}
theorem ap.c0 (h:ap w b ring cap sent recv peak):w.cell? ⟨b,0,none⟩=some ring:=EO w b 0 _ _ _ h
theorem ap.c1 (h:ap w b ring cap sent recv peak):w.cell? ⟨b,1,none⟩=some (FQ cap):=EO w b 1 _ _ _ h
theorem ap.c2 (h:ap w b ring cap sent recv peak):w.cell? ⟨b,2,none⟩=some (FQ sent):=EO w b 2 _ _ _ h
theorem ap.c3 (h:ap w b ring cap sent recv peak):w.cell? ⟨b,3,none⟩=some (FQ recv):=EO w b 3 _ _ _ h
theorem ap.c4 (h:ap w b ring cap sent recv peak):w.cell? ⟨b,4,none⟩=some (FQ peak):=EO w b 4 _ _ _ h
theorem ap.free (h:ap w b ring cap sent recv peak) (i:Nat):w.frozen? ⟨b,i,none⟩=false:=EV w b i _ _ h
end
theorem kv (b:Nat) (ring:Value) (cap sent recv peak:Nat) (w:World) (h:ap w b ring cap sent recv peak) (o:recv≤sent) (u:sent≤17592186043904):
  Calls Tryz.prog 104 #[.pointer (some ⟨b,0,none⟩)] w fun e i=>e=.returned (FQ ((sent:Int)-recv))∧∃n,i=w.drewN n:=by
 have c2:=h.c2
 have c3:=h.c3
 go_enter Tryz.func104,Tryz.ntmps104
 go_wp2
 go_quiet (fail)
 go_wp2
 go_ret
 exact ⟨rfl,_,rfl⟩
theorem sk (b:Nat) (x y:Int) (w:World) (c2:w.cell? ⟨b,2,none⟩=some (FQ x)) (c3:w.cell? ⟨b,3,none⟩=some (FQ y)) (hb:0≤y∧y≤x∧x≤17592186043904):
  Calls Tryz.prog 104 #[.pointer (some ⟨b,0,none⟩)] w fun e h=>e=.returned (FQ (x-y))∧∃n,h=w.drewN n:=by
 go_enter Tryz.func104,Tryz.ntmps104
 go_wp2
 go_quiet (fail)
 go_wp2
 go_ret
 exact ⟨rfl,_,rfl⟩
theorem yg (b:Nat) (ring:Value) (cap sent recv peak:Nat) (n:Int) (w:World) (h:ap w b ring cap sent recv peak) (hc:1≤cap) (hn:0≤n) (i:cap≤1048576):
  Calls Tryz.prog 105 #[.pointer (some ⟨b,0,none⟩),FQ n] w fun e o=>e=.returned (FQ (n%cap))∧w=o:=by
 have c1:=h.c1
 go_enter Tryz.func105,Tryz.ntmps105
 go_wp2
 go_ret
 exact ⟨rfl,rfl⟩
theorem C6 (c:Int) (w:World) (h:1≤c∧c≤1048576):
  Calls Tryz.prog 45 #[FQ c] w fun e i=>e=.returned (.pointer (some ⟨w.heap.size,0,none⟩))∧i=w.alloc (.cells #[FR,FQ c,FQ 0,FQ 0,FQ 0] 182):=by
 obtain ⟨o,u⟩:=h
 go_enter Tryz.func45,Tryz.ntmps45
 go_wp2
 go_ret
 exact ⟨rfl,rfl⟩
theorem D2:cH Tryz.prog 26 2 (FQ 0) 1 8:=⟨Tryz.underlying26,info_parts (by kernel_rfl),rfl,by decide⟩
theorem yD (A:Option Addr) (zs:List Int) (c:Nat) (w:World) (C:Rd w A (ar .i64 zs)) (hl:zs.length≤17592186043904):
  Calls Tryz.prog 151 #[.slice A zs.length c] w fun e B=>∃v,e=.returned v∧B.ownsRow w.heap.size 2 1 v zs.length (ar .i64 zs)∧Below w.heap.size w B:=by
 have q:=fun (w:World)=>Lib.run_eql_slice_nil (P:=Tryz.prog) w 26 2 A zs.length c 0 0 Tryz.underlying26
 cases A with
 | none=>
  have D:zs=[]:=by
   cases zs with
   | nil=>rfl
   | cons z l=>obtain ⟨b,o,h,_⟩:=C 0 _ rfl;cases h
  subst D
  clear q
  have q:=fun (w:World)=>Lib.run_eql_slice_nil (P:=Tryz.prog) w 26 2 none 0 c 0 0 Tryz.underlying26
  simp only [Option.isNone_none] at q
  rw [List.length_nil]
  go_enter Tryz.func151,Tryz.ntmps151
  go_wp2
  go_ret
  exact ⟨_,rfl,EZ _ _ _ _,EP _ _⟩
 | some a=>
  go_enter Tryz.func151,Tryz.ntmps151
  go_wp2_with (at_builtin;refine dE D2 _ rfl (.tmp 5) (.tmp 6) rfl w.heap.size _ 0 [] rfl (fP w 2 1) _ zs.length c (ar .i64 zs) rfl (C.alloc _) (by rw [aK];omega) (bj _ _) (by omega) (by unfold maxLen;omega) (by simp) ?_)
  intro J I H i hb _ _
  have x:=((EP _ w).alloc (EM _) (.cells #[] 2)).trans hb
  obtain ⟨u,y⟩:=ab i x;clear i hb x
  go_wp2
  go_ret
  exact ⟨_,rfl,u.out,y.out⟩
structure Tg where
 a:Int
 b:Int
 c:Int
 d:Int
 e:Int
structure Msg where
 tag:Tg
 vals:List Int
def Tg.cells (t:Tg):List Value:=[FQ t.a,FQ t.b,FQ t.c,FQ t.d,FQ t.e]
def Tg.zero:Tg:=⟨0,0,0,0,0⟩
def Msg.zero:Msg:=⟨Tg.zero,[]⟩
theorem Dg:cH Tryz.prog 71 79 (.agg FX) 6 64:=⟨Tryz.underlying71,info_parts (by kernel_rfl),rfl,by decide⟩
theorem ma (A:Option Addr) (zs:List Int) (c:Nat) (w:World) (x:Rd w A (ar .i64 zs)) (hl:zs.length≤17592186043904):
  Calls Tryz.prog 106 #[.slice A zs.length c] w fun e u=>∃v,e=.returned v∧u.ownsRow w.heap.size 2 1 v zs.length (ar .i64 zs)∧Below w.heap.size w u:=by
 have h:=yD A zs c w x hl
 go_enter Tryz.func106,Tryz.ntmps106
 go_wp2_with fail
 refine h.mono ?_
 rintro e B ⟨v,rfl,i,hb⟩
 obtain ⟨D,C,rfl,_⟩:=av i
 clear h
 obtain ⟨o,y⟩:=ab i hb;clear i hb
 go_wp2
 go_ret
 exact ⟨_,rfl,o.out,y.out⟩
def Cu (w:World) (base:Nat) (h:List Value) (m:Msg):Prop:=
 ∃A c,h=m.tag.cells++[.slice A m.vals.length c]∧w.ownsRow base 2 1 (.slice A m.vals.length c) m.vals.length (ar .i64 m.vals)
def wD (w:World) (h:List Value) (m:Msg):Prop:=
 ∃A c,h=m.tag.cells++[.slice A m.vals.length c]∧Rd w A (ar .i64 m.vals)
structure LSt where
 cap:Nat
 msgs:List Msg
 recv:Nat
 peak:Nat
def LSt.len (s:LSt):Nat:=s.msgs.length-s.recv
structure LSt.Ok (s:LSt):Prop where
 cap1:1≤s.cap
 cap2:s.cap≤1048576
 rs:s.recv≤s.msgs.length
 sr:s.msgs.length≤s.recv+s.cap
 pk:s.peak≤s.cap
 many:s.msgs.length≤100000000000
 vals:∀m∈s.msgs,m.vals.length≤17592186043904
def aG (l:List Msg) (j:Nat):Msg:=l.getD j Msg.zero
def ed (l:List (List Value)) (j:Nat):List Value:=l.getD j []
structure aD (w:World) (base b:Nat) (g:Option Nat) (s:LSt):Prop where
 ok:s.Ok
 ex:∃ring rows,ap w b ring s.cap s.msgs.length s.recv s.peak∧w.ownsRow base 79 6 ring (min s.msgs.length s.cap) (List.flatten rows)∧ring.ownBlock=g∧
  rows.length=min s.msgs.length s.cap∧(∀r∈rows,r.length=6)∧∀j,s.recv≤j→j<s.msgs.length→Cu w base (ed rows (j%s.cap)) (aG s.msgs j)
theorem iR (b:Nat) (ring:Value) (cap sent recv peak n i:Nat) (w:World) (h:ap w b ring cap sent recv peak) (hc:1≤cap) (o:cap≤1048576) (v:n%cap=i):
  Calls Tryz.prog 105 #[.pointer (some ⟨b,0,none⟩),FQ (n:Int)] w fun e u=>e=.returned (FQ (i:Int))∧w=u:=by
 subst v
 refine (yg b ring cap sent recv peak n w h hc (by omega) o).mono ?_
 rintro e u ⟨rfl,rfl⟩
 exact ⟨by rw [Int.natCast_emod],rfl⟩
theorem me {rows:List (List Value)} {k:Nat} (h:∀r∈rows,r.length=k) (i t:Nat) (o:i<rows.length) (u:t<k):(List.flatten rows)[i*k+t]?=(ed rows i)[t]?:=by
 induction rows generalizing i with
 | nil=>simp at o
 | cons r l ih=>
  have hr:r.length=k:=h r (by simp)
  cases i with
  | zero=>
   rw [List.flatten_cons,Nat.zero_mul,FI,Ft (by omega)]
   simp [ed]
  | succ i=>
   rw [List.flatten_cons,Fu (by rw [hr,Nat.add_mul];omega),hr,show (i+1)*k+t-k=i*k+t by rw [Nat.add_mul];omega,ih (fun r hr=>h r (by simp [hr])) i (by simpa using o)]
   simp [ed]
structure ot (w:World) (g o:Nat) (t:Tg) (v:Value):Prop where
 c0:w.cell? ⟨g,o,none⟩=some (FQ t.a)
 c1:w.cell? ⟨g,o+1,none⟩=some (FQ t.b)
 c2:w.cell? ⟨g,o+2,none⟩=some (FQ t.c)
 c3:w.cell? ⟨g,o+3,none⟩=some (FQ t.d)
 c4:w.cell? ⟨g,o+4,none⟩=some (FQ t.e)
 c5:w.cell? ⟨g,o+5,none⟩=some v
theorem nj {j n r cap:Nat} (_h1:r≤j) (o:j<n) (_h3:n≤r+cap) (hc:1≤cap):j%cap<min n cap:=by
 have h:=Nat.mod_lt j (show 0<cap by omega)
 have i:=Nat.mod_le j cap
 omega
theorem aD.at_ {w:World} {base b:Nat} {g:Option Nat} {s:LSt} (h:aD w base b g s) (j:Nat) (D:s.recv≤j) (C:j<s.msgs.length):
  ∃u c A v,g=some u∧ap w b (.slice (some ⟨u,0,none⟩) (min s.msgs.length s.cap) c) s.cap s.msgs.length s.recv s.peak∧j%s.cap<min s.msgs.length s.cap∧
   ot w u (j%s.cap*6) (aG s.msgs j).tag (.slice A (aG s.msgs j).vals.length v)∧
   w.ownsRow base 2 1 (.slice A (aG s.msgs j).vals.length v) (aG s.msgs j).vals.length (ar .i64 (aG s.msgs j).vals):=by
 obtain ⟨ok,ring,rows,hc,o,J,hrl,B,hm⟩:=h
 have H:=nj D C ok.sr ok.cap1
 obtain ⟨A,v,x,y⟩:=hm j D C
 obtain ⟨u,c,rfl,_,_⟩:=o.form (by omega)
 refine ⟨u,c,A,v,J.symm,hc,H,?_,y⟩
 have i:∀t,t<6→w.cell? ⟨u,j%s.cap*6+t,none⟩=((aG s.msgs j).tag.cells++[Value.slice A (aG s.msgs j).vals.length v])[t]?:=fun t I=>by
  rw [o.cellAt _ (by have:=FO 6 (Nat.succ_le_of_lt H);rw [FG] at this;omega),me B _ t (by omega) I,x]
 exact ⟨i 0 (by omega),i 1 (by omega),i 2 (by omega),i 3 (by omega),i 4 (by omega),i 5 (by omega)⟩
theorem ap.alloc {w:World} {b:Nat} {ring:Value} {cap sent recv peak:Nat} (h:ap w b ring cap sent recv peak) (o:Obj):ap (w.alloc o) b ring cap sent recv peak:=(E0 _ _ _ (EL h)).trans h
theorem sj (base b:Nat) (g:Option Nat) (s:LSt) (w:World) (h:aD w base b g s) (B:s.recv<s.msgs.length):
  Calls Tryz.prog 223 #[.pointer (some ⟨b,0,none⟩)] w fun e u=>e=.returned (.tuple #[.agg #[FQ (aG s.msgs s.recv).tag.a,FQ (aG s.msgs s.recv).tag.b,FQ (aG s.msgs s.recv).tag.c,FQ (aG s.msgs s.recv).tag.d,FQ (aG s.msgs s.recv).tag.e],.bool true])∧Below w.heap.size w u:=by
 obtain ⟨y,c,A',c',rfl,hc,Q,J,A⟩:=h.at_ s.recv (EM _) B
 obtain ⟨H,D,C,Y,R,U,I⟩:=h.ok
 clear I A
 obtain ⟨i,x⟩:∃i,s.recv%s.cap=i:=⟨_,rfl⟩
 rw [x] at Q J
 obtain ⟨L,N⟩:∃L,min s.msgs.length s.cap=L:=⟨_,rfl⟩
 rw [N] at Q hc
 have hl:=fun o=>kv b _ _ _ _ _ _ (hc.alloc o) C (by omega)
 have O:=fun o n=>iR b _ _ _ _ _ s.recv i _ (show ap ((w.alloc o).drewN n) _ _ _ _ _ _ from hc.alloc o) H D x
 have c0:=hc.c0
 have c3:=hc.c3
 have hb:=EL hc
 have hg:=au J.c0
 obtain ⟨d0,d1,Z,d3,d4,d5⟩:=J
 obtain ⟨T,V⟩:=ab hl O;clear hl O x N h
 generalize (aG s.msgs s.recv).tag=tg at *
 go_enter Tryz.func223,Tryz.ntmps223
 go_wp2_with fail
 refine (T.out _).mono ?_
 rintro e w1 ⟨rfl,n,rfl⟩
 go_wp2_with fail
 go_region_held3 (fun u=>u.cell? ⟨b,0,none⟩=some (.slice (some ⟨y,0,none⟩) L c)∧u.cell? ⟨b,3,none⟩=some (FQ (s.recv:Int))∧u.cell? ⟨y,i*6,none⟩=some (FQ tg.a)∧u.cell? ⟨y,i*6+1,none⟩=some (FQ tg.b)∧
   u.cell? ⟨y,i*6+2,none⟩=some (FQ tg.c)∧u.cell? ⟨y,i*6+3,none⟩=some (FQ tg.d)∧u.cell? ⟨y,i*6+4,none⟩=some (FQ tg.e)) (simp [go_sem, *])
  ((go_at_call 105;refine (V.out _ _).mono ?_;rintro e u ⟨rfl,rfl⟩))
 go_wp2
 refine E7 (v:=.tuple #[.agg #[FQ tg.a,FQ tg.b,FQ tg.c,FQ tg.d,FQ tg.e],.bool true]) (by simp [results,Tryz.results223,go_sem]) rfl ⟨rfl,?_⟩
 exact ak
theorem oF (base b:Nat) (g:Option Nat) (s:LSt) (w:World) (h:aD w base b g s) (i:s.recv=s.msgs.length):
  Calls Tryz.prog 223 #[.pointer (some ⟨b,0,none⟩)] w fun e B=>e=.returned (.tuple #[.agg #[FQ 0,FQ 0,FQ 0,FQ 0,FQ 0],.bool false])∧Below w.heap.size w B:=by
 obtain ⟨ok,ring,rows,hc,_⟩:=h
 obtain ⟨D,I,u,y,A,H,x⟩:=ok
 clear x
 have hl:=fun o=>kv b _ _ _ _ _ _ (hc.alloc o) u (by omega)
 rw [i,Int.sub_self] at hl
 have C:=aa hl;clear hl hc i
 go_enter Tryz.func223,Tryz.ntmps223
 go_wp2_with fail
 refine (C.out _).mono ?_
 rintro e J ⟨rfl,n,rfl⟩
 go_wp2
 refine E7 (v:=.tuple #[.agg #[FQ 0,FQ 0,FQ 0,FQ 0,FQ 0],.bool false]) (by simp [results,Tryz.results223,go_sem]) rfl ⟨rfl,?_⟩
 exact ak
theorem ot.same {w i:World} {g o:Nat} {t:Tg} {v:Value} (h:ot w g o t v) (hb:i.heap[g]?=w.heap[g]?):ot i g o t v:=
 ⟨(World.cell?_of_block (w:=w) hb).trans h.c0,(World.cell?_of_block (w:=w) hb).trans h.c1,(World.cell?_of_block (w:=w) hb).trans h.c2,(World.cell?_of_block (w:=w) hb).trans h.c3,(World.cell?_of_block (w:=w) hb).trans h.c4,(World.cell?_of_block (w:=w) hb).trans h.c5⟩
theorem ap.same {w i:World} {b:Nat} {ring:Value} {cap sent recv peak:Nat} (h:ap w b ring cap sent recv peak) (hb:i.heap[b]?=w.heap[b]?):ap i b ring cap sent recv peak:=hb.trans h
theorem aD.keep {S:Nat→Prop} {w D:World} {base b:Nat} {g:Option Nat} {s:LSt} (h:aD w base b g s) (k:Keep S w D) (L:¬S b) (J:∀i,g=some i→¬S i) (Q:∀i c,w.heap[i]?=some (.cells c 2 (0,0))→base≤i→¬S i):aD D base b g s:=by
 obtain ⟨ok,ring,rows,hc,u,H,hrl,x,hm⟩:=h
 refine ⟨ok,ring,rows,hc.same (k.block _ (EL hc) L),k.own u (fun i o=>J i (H.symm.trans o)),H,hrl,x,fun j v C=>?_⟩
 obtain ⟨A,c,e,I⟩:=hm j v C
 refine ⟨A,c,e,k.own I fun i o=>?_⟩
 rcases I.2 with ⟨hn,_⟩ | ⟨O,cap,N,R,y,B,_⟩
 ·rw [hn] at o;cases o
 ·rw [R] at o
  obtain rfl:O=i:=by simpa [Value.ownBlock] using o
  exact Q _ _ B y
theorem aD.below {w i:World} {base b:Nat} {g:Option Nat} {s:LSt} (h:aD w base b g s) (hb:Below w.heap.size w i):aD i base b g s:=
 h.keep (S:=fun _=>False) (Keep.below hb) id (fun _ _=>id) (fun _ _ _ _=>id)
theorem oE (base b:Nat) (g:Option Nat) (s:LSt) (t:Tg) (w:World) (h:aD w base b g s) (x:s.recv=s.msgs.length):
  Calls Tryz.prog 236 #[.pointer (some ⟨b,0,none⟩),.agg #[FQ t.a,FQ t.b,FQ t.c,FQ t.d,FQ t.e]] w fun e D=>e=.returned (.tuple #[.agg FX,FQ 12])∧Below w.heap.size w D:=by
 obtain ⟨t0,t1,t2,B,J⟩:=t
 have A:=fun R O=>oF base b g s ((w.alloc R).alloc O) ((h.below ((EP _ _).alloc (EM _) _)).below ((EP _ _).alloc (EM _) _)) x
 have T:=aa A;clear A x h
 go_enter Tryz.func236,Tryz.ntmps236
 go_wp2_with fail
 refine (T.out _ _).mono ?_
 rintro e o ⟨rfl,u⟩
 have i:o.heap[w.heap.size+1]?=some (.cells FX 79 (0,0)):=by
  rw [u.block _ (by simp)]
  simpa using EN (w.alloc (.cells #[FQ t0,FQ t1,FQ t2,FQ B,FQ J] 77)) (.cells FX 79)
 have y:=EL i
 have N:o.cell? ⟨w.heap.size+1,0,none⟩=some (FQ 0):=EO o _ 0 _ _ _ i
 have H:o.cell? ⟨w.heap.size+1,1,none⟩=some (FQ 0):=EO o _ 1 _ _ _ i
 have U:o.cell? ⟨w.heap.size+1,2,none⟩=some (FQ 0):=EO o _ 2 _ _ _ i
 have C:o.cell? ⟨w.heap.size+1,3,none⟩=some (FQ 0):=EO o _ 3 _ _ _ i
 have L:o.cell? ⟨w.heap.size+1,4,none⟩=some (FQ 0):=EO o _ 4 _ _ _ i
 have Q:o.cell? ⟨w.heap.size+1,5,none⟩=some (FR):=EO o _ 5 _ _ _ i
 have V:=fun j=>EV o _ j _ _ i
 have I:Below w.heap.size w o:=(((EP _ w).alloc (EM _) _).alloc (by simp) _).trans (u.mono (by simp;omega))
 clear u i
 go_wp2
 refine E7 (v:=.tuple #[.agg FX,FQ 12]) (by simp [results,Tryz.results236,go_sem,N,H,U,C,L,Q,y]) rfl ⟨rfl,?_⟩
 exact ak
theorem qB (base b:Nat) (g:Option Nat) (s:LSt) (t:Tg) (w:World) (h:aD w base b g s) (y:s.recv<s.msgs.length) (A:(aG s.msgs s.recv).tag≠t):
  Calls Tryz.prog 236 #[.pointer (some ⟨b,0,none⟩),.agg #[FQ t.a,FQ t.b,FQ t.c,FQ t.d,FQ t.e]] w fun e L=>e=.returned (.tuple #[.agg FX,FQ 10])∧Below w.heap.size w L:=by
 obtain ⟨t0,t1,t2,B,C⟩:=t
 have H:=fun Y U=>sj base b g s ((w.alloc Y).alloc U) ((h.below ((EP _ _).alloc (EM _) _)).below ((EP _ _).alloc (EM _) _)) y
 generalize (aG s.msgs s.recv).tag=tg at *
 obtain ⟨u0,u1,u2,u3,u4⟩:=tg
 dsimp only at H
 have Z:=aa H;clear H y h;have D:=aa A;clear A
 go_enter Tryz.func236,Tryz.ntmps236
 go_wp2_with fail
 refine (Z.out _ _).mono ?_
 rintro e o ⟨rfl,x⟩
 have i:o.heap[w.heap.size+1]?=some (.cells FX 79 (0,0)):=by
  rw [x.block _ (by simp)]
  simpa using EN (w.alloc (.cells #[FQ t0,FQ t1,FQ t2,FQ B,FQ C] 77)) (.cells FX 79)
 have I:=EL i
 have T:o.cell? ⟨w.heap.size+1,0,none⟩=some (FQ 0):=EO o _ 0 _ _ _ i
 have N:o.cell? ⟨w.heap.size+1,1,none⟩=some (FQ 0):=EO o _ 1 _ _ _ i
 have r2:o.cell? ⟨w.heap.size+1,2,none⟩=some (FQ 0):=EO o _ 2 _ _ _ i
 have J:o.cell? ⟨w.heap.size+1,3,none⟩=some (FQ 0):=EO o _ 3 _ _ _ i
 have Q:o.cell? ⟨w.heap.size+1,4,none⟩=some (FQ 0):=EO o _ 4 _ _ _ i
 have V:o.cell? ⟨w.heap.size+1,5,none⟩=some (FR):=EO o _ 5 _ _ _ i
 have fr:=fun j=>EV o _ j _ _ i
 have u:o.heap[w.heap.size]?=some (.cells #[FQ t0,FQ t1,FQ t2,FQ B,FQ C] 77 (0,0)):=by
  rw [x.block _ (by simp;omega),E0 _ _ _ (by simp)]
  exact EN w _
 have p0:o.cell? ⟨w.heap.size,0,none⟩=some (FQ t0):=EO o _ 0 _ _ _ u
 have p1:o.cell? ⟨w.heap.size,1,none⟩=some (FQ t1):=EO o _ 1 _ _ _ u
 have p2:o.cell? ⟨w.heap.size,2,none⟩=some (FQ t2):=EO o _ 2 _ _ _ u
 have p3:o.cell? ⟨w.heap.size,3,none⟩=some (FQ B):=EO o _ 3 _ _ _ u
 have p4:o.cell? ⟨w.heap.size,4,none⟩=some (FQ C):=EO o _ 4 _ _ _ u
 have O:Below w.heap.size w o:=(((EP _ w).alloc (EM _) _).alloc (by simp) _).trans (x.mono (by simp;omega))
 have R:w.heap.size<o.heap.size:=by omega
 clear x i u
 go_wp2
 ·exact absurd (by simp only [*]) D.out
 all_goals
  refine E7 (v:=.tuple #[.agg FX,FQ 10]) (by simp [results,Tryz.results236,go_sem,T,N,r2,J,Q,V,I]) rfl ⟨rfl,?_⟩
  exact ak
theorem oC {w y:World} {base b:Nat} {g:Option Nat} {s:LSt} {U:Option Addr} {R:Nat} (h:aD w base b g s) (D:s.recv<s.msgs.length) (k:Keep (· =b) w y)
  (O:w.ownsRow base 2 1 (.slice U (aG s.msgs s.recv).vals.length R) (aG s.msgs s.recv).vals.length (ar .i64 (aG s.msgs s.recv).vals))
  {L c B:Nat} (_hgg:g=some B) (x:ap w b (.slice (some ⟨B,0,none⟩) L c) s.cap s.msgs.length s.recv s.peak) (hc:ap y b (.slice (some ⟨B,0,none⟩) L c) s.cap s.msgs.length (s.recv+1) s.peak):
  y.ownsRow base 2 1 (.slice U (aG s.msgs s.recv).vals.length R) (aG s.msgs s.recv).vals.length (ar .i64 (aG s.msgs s.recv).vals)∧aD y base b g {s with recv:=s.recv+1}∧Keep (· =b) w y:=by
 have H:∀i e T,w.heap[i]?=some (.cells T e (0,0))→e≠182→¬i=b:=by
  rintro i e T u he rfl
  unfold ap at x
  rw [x] at u
  injection u with u
  injection u with _ u
  exact he u.symm
 have o:∀{e:TypeId} {size:Nat} {v:Value} {n:Nat} {xs:List Value},w.ownsRow base e size v n xs→e≠182→y.ownsRow base e size v n xs:=fun {e size v n xs} C he=>
  k.own C fun i u=>by
   rcases C.2 with ⟨hn,_⟩ | ⟨B,cap,a0,O,a1,N,_⟩
   ·rw [hn] at u;cases u
   ·rw [O] at u
    obtain rfl:B=i:=by simpa [Value.ownBlock] using u
    exact H _ _ _ N he
 refine ⟨o O (by decide),?_,k⟩
 obtain ⟨ok,ring,rows,Q,C,Y,hrl,J,hm⟩:=h
 obtain rfl:ring=.slice (some ⟨B,0,none⟩) L c:=by
  have:=Q.c0.symm.trans x.c0
  injection this
 refine ⟨⟨ok.cap1,ok.cap2,D,by have:=ok.sr;simp only;omega,ok.pk,ok.many,ok.vals⟩,_,rows,hc,o C (by decide),Y,hrl,J,fun j Z V=>?_⟩
 obtain ⟨A,c2,e,I⟩:=hm j (by simp only at Z;omega) V
 exact ⟨A,c2,e,o I (by decide)⟩
theorem ap.set {w:World} {b:Nat} {ring:Value} {cap sent recv peak:Nat} (h:ap w b ring cap sent recv peak) (n:Nat) (v:Int) (i:v=(n:Int)):ap (w.setCell ⟨b,3,none⟩ (FQ v)) b ring cap sent n peak:=by
 subst i
 unfold ap at h ⊢
 simp [World.setCell,Array.getElem?_modify,h]
theorem se (base b:Nat) (g:Option Nat) (s:LSt) (t:Tg) (w:World) (h:aD w base b g s) (Q:s.recv<s.msgs.length) (a3:(aG s.msgs s.recv).tag=t):
  Calls Tryz.prog 236 #[.pointer (some ⟨b,0,none⟩),.agg #[FQ t.a,FQ t.b,FQ t.c,FQ t.d,FQ t.e]] w fun e y=>∃A c,
   e=.returned (.tuple #[.agg #[FQ t.a,FQ t.b,FQ t.c,FQ t.d,FQ t.e,.slice A (aG s.msgs s.recv).vals.length c],FQ 0])∧
   y.ownsRow base 2 1 (.slice A (aG s.msgs s.recv).vals.length c) (aG s.msgs s.recv).vals.length (ar .i64 (aG s.msgs s.recv).vals)∧
   aD y base b g {s with recv:=s.recv+1}∧Keep (· =b) w y:=by
 subst a3
 have hp:=fun o1 o2=>sj base b g s ((w.alloc o1).alloc o2) ((h.below ((EP _ _).alloc (EM _) _)).below ((EP _ _).alloc (EM _) _)) Q
 obtain ⟨N,c,A',c',a0,hc,hi,h6,O⟩:=h.at_ s.recv (EM _) Q
 have I:=h.ok
 have b3:s.recv≤100000000000:=by have:=I.many;omega
 have x:=I.cap1
 have b5:=I.cap2
 obtain ⟨i,R⟩:∃i,s.recv%s.cap=i:=⟨_,rfl⟩
 rw [R] at hi h6
 obtain ⟨L,hL⟩:∃L,min s.msgs.length s.cap=L:=⟨_,rfl⟩
 rw [hL] at hi hc
 have hb:=EL hc
 have b1:=au h6.c0
 generalize (aG s.msgs s.recv).tag=tg at *
 obtain ⟨t0,t1,t2,T,V⟩:=tg
 dsimp only at hp
 obtain ⟨Hp,a2,H,Z,ad,a6⟩:=ah hp I h O R a0;clear hp I h O R a0 hL
 go_enter Tryz.func236,Tryz.ntmps236
 go_wp2_with fail
 refine (Hp.out _ _).mono ?_
 rintro e o ⟨rfl,D⟩
 have u:o.heap[w.heap.size+1]?=some (.cells FX 79 (0,0)):=by
  rw [D.block _ (by simp)]
  simpa using EN (w.alloc (.cells #[FQ t0,FQ t1,FQ t2,FQ T,FQ V] 77)) (.cells FX 79)
 have a5:=EL u
 have r0:o.cell? ⟨w.heap.size+1,0,none⟩=some (FQ 0):=EO o _ 0 _ _ _ u
 have r1:o.cell? ⟨w.heap.size+1,1,none⟩=some (FQ 0):=EO o _ 1 _ _ _ u
 have r2:o.cell? ⟨w.heap.size+1,2,none⟩=some (FQ 0):=EO o _ 2 _ _ _ u
 have r3:o.cell? ⟨w.heap.size+1,3,none⟩=some (FQ 0):=EO o _ 3 _ _ _ u
 have r4:o.cell? ⟨w.heap.size+1,4,none⟩=some (FQ 0):=EO o _ 4 _ _ _ u
 have r5:o.cell? ⟨w.heap.size+1,5,none⟩=some (FR):=EO o _ 5 _ _ _ u
 have fr:=fun j=>EV o _ j _ _ u
 have C:o.heap[w.heap.size]?=some (.cells #[FQ t0,FQ t1,FQ t2,FQ T,FQ V] 77 (0,0)):=by
  rw [D.block _ (by simp;omega),E0 _ _ _ (by simp)]
  exact EN w _
 have p0:o.cell? ⟨w.heap.size,0,none⟩=some (FQ t0):=EO o _ 0 _ _ _ C
 have p1:o.cell? ⟨w.heap.size,1,none⟩=some (FQ t1):=EO o _ 1 _ _ _ C
 have p2:o.cell? ⟨w.heap.size,2,none⟩=some (FQ t2):=EO o _ 2 _ _ _ C
 have p3:o.cell? ⟨w.heap.size,3,none⟩=some (FQ T):=EO o _ 3 _ _ _ C
 have p4:o.cell? ⟨w.heap.size,4,none⟩=some (FQ V):=EO o _ 4 _ _ _ C
 have J:Below w.heap.size w o:=(((EP _ w).alloc (EM _) _).alloc (by simp) _).trans (D.mono (by simp;omega))
 have a4:w.heap.size<o.heap.size:=by omega
 have J:Below w.heap.size w o:=(((EP _ w).alloc (EM _) _).alloc (by simp) _).trans (D.mono (by simp;omega))
 have x:=hc.same (J.block b hb)
 have Y:=h6.same (J.block N b1)
 have a8:=EL x
 have b4:=au Y.c0
 have U:=fun W hW=>iR b (.slice (some ⟨N,0,none⟩) L c) s.cap s.msgs.length s.recv s.peak s.recv i W hW a2.out.cap1 a2.out.cap2 ad.out
 have k0:=x.c0
 have k3:=x.c3
 obtain ⟨m0,m1,m2,m3,m4,m5⟩:=Y
 have f3:=x.free 3
 have b6:¬(b=w.heap.size+1):=by omega
 have b2:¬(w.heap.size+1=b):=by omega
 obtain ⟨b8,a1,a7,Hc,H6⟩:=ag D x U hc h6;clear D u C x U hc h6
 go_wp2_with fail
 go_region_held3 (fun y=>y.cell? ⟨b,0,none⟩=some (.slice (some ⟨N,0,none⟩) L c)∧y.cell? ⟨b,3,none⟩=some (FQ (s.recv:Int))∧y.cell? ⟨N,i*6,none⟩=some (FQ t0)∧y.cell? ⟨N,i*6+1,none⟩=some (FQ t1)∧
   y.cell? ⟨N,i*6+2,none⟩=some (FQ t2)∧y.cell? ⟨N,i*6+3,none⟩=some (FQ T)∧y.cell? ⟨N,i*6+4,none⟩=some (FQ V)∧y.cell? ⟨N,i*6+5,none⟩=some (.slice A' (aG s.msgs s.recv).vals.length c')) (simp [go_sem, *])
  ((go_at_call 105;refine (a7.out _ (a1.out.same (Below.block (B:=o.heap.size) ?_ b a8))).mono ?_;exact ak;rintro e y ⟨rfl,rfl⟩))
 all_goals
  go_wp2_with fail
  have b0:IntKind.i64.wrap ((s.recv:Int)+1)=(s.recv:Int)+1:=ER _ (by omega)
  go_region
  clear b0
  go_wp2
  refine E7 (v:=.tuple #[.agg #[FQ t0,FQ t1,FQ t2,FQ T,FQ V,.slice A' (aG s.msgs s.recv).vals.length c'],FQ 0]) (by simp [results,Tryz.results236,go_sem,r0,r1,r2,r3,r4,r5,a4,a5]) rfl ⟨A',c',rfl,?_⟩
  refine oC H.out Q ?_ Z.out a6.out Hc.out ((a1.out.set (s.recv+1) ((s.recv:Int)+1) (by omega)).same (Below.block (B:=w.heap.size) ?_ b hb))
  ·have b7:Keep (· =b) w o:=Keep.below J
   (focus (repeat' (first | (with_reducible exact Keep.refl _ _) | (with_reducible assumption) | (with_reducible refine Keep.setCell ?_ _ ?_ _) | (with_reducible refine Keep.alloc ?_ _) | (with_reducible refine Keep.drewN ?_ _) | (with_reducible refine Keep.drew ?_) | (with_reducible exact Or.inr (fp _ _)) | (with_reducible exact Or.inr (fm _ _)) | (refine Or.inr ?_;first | rfl | (simp;done) | omega) | (refine Or.inl ?_;first | omega | (simp;done) | (simp;omega)))))
  ·exact ak
def cB (b:Nat) (g:Option Nat) (k:Nat):Prop:=k=b∨g=some k
theorem fp (b:Nat) (g:Option Nat):cB b g b:=.inl rfl
theorem fm (b g:Nat):cB b (some g) g:=.inr rfl
theorem ap.drew {w:World} {b:Nat} {ring:Value} {cap sent recv peak:Nat} (h:ap w b ring cap sent recv peak):ap w.drew b ring cap sent recv peak:=h
theorem ap.drewN {w:World} {b:Nat} {ring:Value} {cap sent recv peak:Nat} (h:ap w b ring cap sent recv peak) (n:Nat):ap (w.drewN n) b ring cap sent recv peak:=h
theorem ap.far {w:World} {b:Nat} {ring:Value} {cap sent recv peak:Nat} (h:ap w b ring cap sent recv peak) (p:Addr) (u:Value) (i:¬(b=p.block)):ap (w.setCell p u) b ring cap sent recv peak:=h.same (Below.heap_setCell w p u b i)
theorem ap.set0 {w:World} {b:Nat} {ring:Value} {cap sent recv peak:Nat} (h:ap w b ring cap sent recv peak) (v:Value):ap (w.setCell ⟨b,0,none⟩ v) b v cap sent recv peak:=by
 unfold ap at h ⊢
 simp [World.setCell,Array.getElem?_modify,h]
theorem ap.set2 {w:World} {b:Nat} {ring:Value} {cap sent recv peak:Nat} (h:ap w b ring cap sent recv peak) (n:Nat) (v:Int) (i:v=(n:Int)):ap (w.setCell ⟨b,2,none⟩ (FQ v)) b ring cap n recv peak:=by
 subst i
 unfold ap at h ⊢
 simp [World.setCell,Array.getElem?_modify,h]
theorem ap.set4 {w:World} {b:Nat} {ring:Value} {cap sent recv peak:Nat} (h:ap w b ring cap sent recv peak) (n:Nat) (v:Int) (i:v=(n:Int)):ap (w.setCell ⟨b,4,none⟩ (FQ v)) b ring cap sent recv n:=by
 subst i
 unfold ap at h ⊢
 simp [World.setCell,Array.getElem?_modify,h]
theorem vH {w:World} {base b:Nat} {ring v:Value} {cap sent recv peak n:Nat} {xs:List Value} (h:ap w b v cap sent recv peak) (y:w.ownsRow base 79 6 ring n xs):ring.ownBlock≠some b:=fun e=>by
 rcases y.2 with ⟨hn,_⟩ | ⟨x,cap2,u,o,_,i,_⟩
 ·rw [hn] at e;cases e
 ·rw [o] at e
  obtain rfl:x=b:=by simpa [Value.ownBlock] using e
  unfold ap at h
  rw [h] at i;injection i with i;injection i with _ i;exact absurd i (by decide)
theorem sC (J:List Value) (D L H N I O:Value) (B:J=[D,L,H,N,I,O]):∀(rows:List (List Value)) (i:Nat),(∀r∈rows,r.length=6)→i<rows.length→
  ((((((List.flatten rows).set (i*6) D).set (i*6+1) L).set (i*6+2) H).set (i*6+3) N).set (i*6+4) I).set (i*6+5) O=List.flatten (rows.set i J):=by
 intro rows
 induction rows with
 | nil=>intro i _ C;simp at C
 | cons r l ih=>
  intro i h C
  have hr:r.length=6:=h r (by simp)
  cases i with
  | zero=>
   obtain ⟨u,a1,v,y,o,A,rfl⟩:∃u a1 v y o A,r=[u,a1,v,y,o,A]:=by
    match r,hr with
    | [u,a1,v,y,o,A],_=>exact ⟨u,a1,v,y,o,A,rfl⟩
   subst B
   rfl
  | succ i=>
   have e:∀(xs:List Value) (k:Nat) (x:Value),(r++xs).set (6+k) x=r++xs.set k x:=fun xs k x=>by
    rw [List.set_append_right _ _ (by omega),hr,show 6+k-6=k by omega]
   rw [List.flatten_cons,show (i+1)*6=6+i*6 by omega]
   simp only [FH,e]
   rw [Fi,List.flatten_cons,←ih i (fun r hr=>h r (by simp [hr])) (by simpa using C)]
theorem mV (rows:List (List Value)) (i:Nat) (o:List Value) (h:i<rows.length):ed (rows.set i o) i=o:=by simp [ed,h]
theorem mj (rows:List (List Value)) (i j:Nat) (o:List Value) (h:i≠j):ed (rows.set i o) j=ed rows j:=by simp [ed,h]
theorem mW (rows:List (List Value)) (i:List Value) (j:Nat) (h:j<rows.length):ed (rows++[i]) j=ed rows j:=by simp [ed,Ft h]
theorem mX (rows:List (List Value)) (h:List Value):ed (rows++[h]) rows.length=h:=by simp [ed]
theorem ng (l:List Msg) (m:Msg) (j:Nat) (h:j<l.length):aG (l++[m]) j=aG l j:=by simp [aG,Ft h]
theorem nh (l:List Msg) (m:Msg):aG (l++[m]) l.length=m:=by simp [aG]
theorem DQ {a b r cap:Nat} (u:r≤a) (i:a<b) (o:b<r+cap):a%cap≠b%cap:=fun e=>by
 have h:cap ∣ b-a:=Nat.dvd_of_mod_eq_zero (Nat.sub_mod_eq_zero_of_mod_eq e.symm)
 have:=Nat.le_of_dvd (by omega) h
 omega
theorem jG {w C:World} {base b:Nat} {g:Option Nat} {s:LSt} {ring:Value} {rows:List (List Value)} (ok:s.Ok) (D:ap w b ring s.cap s.msgs.length s.recv s.peak)
  (ho:w.ownsRow base 79 6 ring (min s.msgs.length s.cap) (List.flatten rows)) (u:ring.ownBlock=g)
  (hm:∀j,s.recv≤j→j<s.msgs.length→Cu w base (ed rows (j%s.cap)) (aG s.msgs j))
  (L:s.msgs.length<s.recv+s.cap) (V:s.msgs.length<100000000000) (t:Tg) (zs:List Int) (R:zs.length≤17592186043904)
  (k:Keep (cB b g) w C) {ring':Value} {Z:Option Nat} {rows':List (List Value)} {A1:Option Addr} {c1:Nat} {P:Nat} (hP:P=max s.peak (s.msgs.length+1-s.recv))
  (hc:ap C b ring' s.cap (s.msgs.length+1) s.recv P) (y:C.ownsRow base 79 6 ring' (min (s.msgs.length+1) s.cap) (List.flatten rows')) (hg:ring'.ownBlock=Z)
  (hrl:rows'.length=min (s.msgs.length+1) s.cap) (O:∀r∈rows',r.length=6)
  (H:∀j,s.recv≤j→j<s.msgs.length→ed rows' (j%s.cap)=ed rows (j%s.cap))
  (I:ed rows' (s.msgs.length%s.cap)=[FQ t.a,FQ t.b,FQ t.c,FQ t.d,FQ t.e,.slice A1 zs.length c1])
  (hv:C.ownsRow base 2 1 (.slice A1 zs.length c1) zs.length (ar .i64 zs)):
  aD C base b Z {s with msgs:=s.msgs++[⟨t,zs⟩],peak:=max s.peak (s.msgs.length+1-s.recv)}:=by
 subst hP
 have hty:∀i Y,w.heap[i]?=some (.cells Y 2 (0,0))→¬(i=b∨g=some i):=by
  rintro i Y h (rfl | B)
  ·unfold ap at D
   rw [D] at h;injection h with h;injection h with _ h;exact absurd h (by decide)
  ·rcases ho.2 with ⟨hn,_⟩ | ⟨N,cap,T,v,_,x,_⟩
   ·rw [hn] at u;rw [B] at u;cases u
   ·rw [v,B] at u
    obtain rfl:N=i:=by simpa [Value.ownBlock] using u
    rw [x] at h;injection h with h;injection h with _ h;exact absurd h (by decide)
 refine ⟨⟨ok.cap1,ok.cap2,?_,?_,?_,?_,?_⟩,ring',rows',?_,?_,hg,?_,O,fun j Q h2=>?_⟩
 ·have:=ok.rs;simp;omega
 ·simp;omega
 ·have:=ok.pk;simp only;omega
 ·simp;omega
 ·intro m o
  rcases FE.1 o with o | o
  ·exact ok.vals m o
  ·rw [List.mem_singleton.1 o];exact R
 ·simpa using hc
 ·simpa using y
 ·simpa using hrl
 ·simp only [Fp,Fz] at Q h2
  rcases Fa j s.msgs.length with J | J
  ·rw [ng _ _ _ J]
   simp only
   rw [H j Q J]
   obtain ⟨A,c2,e,v⟩:=hm j Q J
   refine ⟨A,c2,e,k.own v fun i h=>?_⟩
   rcases v.2 with ⟨hn,_⟩ | ⟨N,cap,T,U,_,x,_⟩
   ·rw [hn] at h;cases h
   ·rw [U] at h
    obtain rfl:N=i:=by simpa [Value.ownBlock] using h
    exact hty _ _ x
  ·obtain rfl:j=s.msgs.length:=by omega
   rw [nh]
   exact ⟨A1,c1,I,hv⟩
theorem oD (base b:Nat) (g:Option Nat) (s:LSt) (A:Array Value) (w:World) (h:aD w base b g s) (i:s.msgs.length=s.recv+s.cap):
  Calls Tryz.prog 235 #[.pointer (some ⟨b,0,none⟩),.agg A] w fun e x=>e=.returned (FQ 11)∧Below w.heap.size w x:=by
 obtain ⟨ok,ring,rows,hc,_⟩:=h
 have C:=ok.cap2
 have u:=ok.rs
 have v:=ok.many
 have hl:=fun o n=>kv b _ _ _ _ _ _ (show ap ((w.alloc o).drewN n) _ _ _ _ _ _ from hc.alloc o) u (by omega)
 rw [show (s.msgs.length:Int)-(s.recv:Int)=(s.cap:Int) by omega] at hl
 have c1:=hc.c1
 have hb:=EL hc
 obtain ⟨y,B,D,H⟩:=af hl ok hc i;clear hl hc ok i u v
 go_enter Tryz.func235,Tryz.ntmps235
 go_wp2_with fail
 go_quiet ((go_at_call 104;exact Calls.quiet_of (y.out _ _)))
 go_wp2_with fail
 go_ret
 refine ⟨rfl,?_⟩
 exact ak
theorem nm (base b:Nat) (g:Option Nat) (s:LSt) (t:Tg) (A:Option Addr) (zs:List Int) (c:Nat) (w:World) (h:aD w base b g s) (T:s.msgs.length<s.recv+s.cap) (bl:s.cap≤s.msgs.length) (Z:s.msgs.length<100000000000)
  (b9:base≤w.heap.size) (hA:Rd w A (ar .i64 zs)) (b0:zs.length≤17592186043904):
  Calls Tryz.prog 235 #[.pointer (some ⟨b,0,none⟩),.agg #[FQ t.a,FQ t.b,FQ t.c,FQ t.d,FQ t.e,.slice A zs.length c]] w fun e U=>e=.returned (FQ 0)∧
   ∃g',aD U base b g' {s with msgs:=s.msgs++[⟨t,zs⟩],peak:=max s.peak (s.msgs.length+1-s.recv)}∧Keep (cB b g) w U∧(g'=g∨∃k,g'=some k∧w.heap.size≤k):=by
 obtain ⟨t0,t1,t2,t3,t4⟩:=t
 have H:=aa h
 obtain ⟨ok,ring,rows,hc,N,hg,hrl,b2,hm⟩:=h
 obtain ⟨RA,rc,rfl,bi⟩:=av N
 have bI:=ok.cap1
 have c8:=ok.cap2
 have b7:=ok.rs
 have cb:=ok.pk
 have hl:=fun o n=>kv b _ _ _ _ _ _ (show ap ((w.alloc o).drewN n) _ _ _ _ _ _ from hc.alloc o) b7 (by omega)
 obtain ⟨i,a0⟩:∃i,s.msgs.length%s.cap=i:=⟨_,rfl⟩
 obtain ⟨L,hL⟩:∃L,min s.msgs.length s.cap=L:=⟨_,rfl⟩
 rw [hL] at bi N hrl hc
 have c1:=hc.c1
 have hb:=EL hc
 have a8:(((s.msgs.length:Int)-(s.recv:Int))==(s.cap:Int))=false:=by simp;omega
 have a7:=fun W hW=>ma A zs c W hW b0
 obtain ⟨D,hD⟩:∃D:Int,D=(s.msgs.length:Int)-(s.recv:Int):=⟨_,rfl⟩
 rw [←hD] at a8 hl
 have c7:0≤D∧D<s.cap:=by omega
 have bh:i<L:=by rw [←hL,←a0];have:=Nat.mod_lt s.msgs.length (show 0<s.cap by omega);omega
 obtain ⟨Hl,a1,Hc,O,Hg,b5,b4,Hm⟩:=aj hl ok hc N hg hrl b2 hm;obtain ⟨a3,HL,bn,HD⟩:=af a0 hL a7 hD;clear hl hc ok N hg hrl b2 hm a0 hL a7 hD
 go_enter Tryz.func235,Tryz.ntmps235
 go_wp2_with fail
 go_quiet ((go_at_call 104;exact Calls.quiet_of (Hl.out _ _)))
 clear a8
 go_wp2_with fail
 refine (bn.out _ ((hA.alloc _).drewN _)).mono ?_
 rintro e C ⟨v1,rfl,I,Y⟩
 obtain ⟨A1,a4,rfl,c9⟩:=av I
 have u:C.heap[w.heap.size]?=some (.cells #[FQ t0,FQ t1,FQ t2,FQ t3,FQ t4,.slice A zs.length c] 79 (0,0)):=by
  rw [Y.block _ (by simp)]
  exact EN w _
 have c6:=EL u
 have p0:C.cell? ⟨w.heap.size,0,none⟩=some (FQ t0):=EO C _ 0 _ _ _ u
 have p1:C.cell? ⟨w.heap.size,1,none⟩=some (FQ t1):=EO C _ 1 _ _ _ u
 have p2:C.cell? ⟨w.heap.size,2,none⟩=some (FQ t2):=EO C _ 2 _ _ _ u
 have p3:C.cell? ⟨w.heap.size,3,none⟩=some (FQ t3):=EO C _ 3 _ _ _ u
 have p4:C.cell? ⟨w.heap.size,4,none⟩=some (FQ t4):=EO C _ 4 _ _ _ u
 have p5:C.cell? ⟨w.heap.size,5,none⟩=some (.slice A zs.length c):=EO C _ 5 _ _ _ u
 have pf:=fun j=>EV C _ j _ _ u
 have a2:Below w.heap.size w C:=(EW ((EP _ w).alloc (EM _) _) _).trans (Y.mono (by simp))
 have B:=Hc.out.same (a2.block b hb)
 have bN:=EL B
 have k0:=B.c0
 have k2:=B.c2
 have k3:=B.c3
 have k4:=B.c4
 have f2:=B.free 2
 have f4:=B.free 4
 have f0:=B.free 0
 have bv:¬(b=w.heap.size):=by omega
 have bz:¬(w.heap.size=b):=by omega
 have b3:=fun W hW=>iR b (.slice RA L rc) s.cap s.msgs.length s.recv s.peak s.msgs.length i W hW a1.out.cap1 a1.out.cap2 a3.out
 obtain ⟨a6,bX,J,b8⟩:=af B Y I b3;clear B Y I b3 u
 go_wp2_with fail
 refine (b8.out _ (a6.out.same (Below.heap_setCell C ⟨w.heap.size,5,none⟩ _ b bv))).mono ?_
 rintro e w2 ⟨rfl,rfl⟩
 obtain ⟨Q,bo,V,cc,bV⟩:=O.out.form (by omega)
 obtain ⟨rfl,rfl⟩:RA=some ⟨Q,0,none⟩∧rc=bo:=by simp only [FD] at V;exact ⟨V.1,V.2.2⟩
 clear V
 obtain rfl:g=some Q:=Hg.out.symm
 have v:=aq O.out ((Below.mono a2 (EM _)))
 have y:∀t,t<6→∃x,C.cell? ⟨Q,i*6+t,none⟩=some x:=fun t ht=>by
  have h6:i*6+t<L*6:=by omega
  rw [v.cellAt _ h6]
  exact ⟨_,Fr (by rw [v.1];exact h6)⟩
 obtain ⟨x0,q0⟩:=y 0 (by omega)
 obtain ⟨x1,q1⟩:=y 1 (by omega)
 obtain ⟨x2,q2⟩:=y 2 (by omega)
 obtain ⟨x3,q3⟩:=y 3 (by omega)
 obtain ⟨x4,q4⟩:=y 4 (by omega)
 obtain ⟨x5,q5⟩:=y 5 (by omega)
 rw [Nat.add_zero] at q0
 have qf:=fun j=>v.frozenAt j
 have bM:¬(Q=w.heap.size):=by omega
 have bA:¬(w.heap.size=Q):=by omega
 have b6:¬(Q=b):=fun e=>by
  subst e
  have h1:=a6.out.c1
  rcases O.out.2 with ⟨h0,_⟩ | ⟨g2,cap,bG,hv,_,R,_⟩
  ·cases h0
  ·have e2:g2=Q:=by simp only [FD,Option.some.injEq,Addr.mk.injEq] at hv;exact hv.1.1.symm
   subst e2
   have h2:=Hc.out
   unfold ap at h2
   rw [h2] at R
   injection R with R
   injection R with _ R
   exact absurd R (by decide)
 have bs:¬(b=Q):=fun e=>b6 e.symm
 clear y
 have a5:=aa v;clear v
 go_wp2_with fail
 go_region_held3 (fun U=>U.cell? ⟨b,0,none⟩=some (.slice (some ⟨Q,0,none⟩) L rc)∧U.cell? ⟨w.heap.size,0,none⟩=some (FQ t0)∧U.cell? ⟨w.heap.size,1,none⟩=some (FQ t1)∧U.cell? ⟨w.heap.size,2,none⟩=some (FQ t2)∧U.cell? ⟨w.heap.size,3,none⟩=some (FQ t3)∧
  U.cell? ⟨w.heap.size,4,none⟩=some (FQ t4)∧U.cell? ⟨w.heap.size,5,none⟩=some (.slice A1 zs.length a4)) (simp [go_sem, *]) ((fail))
 go_wp2_with fail
 have bd:IntKind.i64.wrap ((s.msgs.length:Int)+1)=(s.msgs.length:Int)+1:=ER _ (by omega)
 go_region
 clear bd
 go_wp2_with fail
 have bb:0≤(s.recv:Int)∧(s.recv:Int)≤(s.msgs.length:Int)+1∧(s.msgs.length:Int)+1≤17592186043904:=by omega
 go_region_with ((go_at_call 104;refine (sk b ((s.msgs.length:Int)+1) s.recv _ (by simp [go_sem, *]) (by simp [go_sem, *]) bb).mono ?_;rintro e U ⟨rfl,n',rfl⟩))
 have bw:=J.out
 all_goals go_wp2_with fail
 all_goals go_ret
 all_goals
  have bO:Keep (cB b (some Q)) w C:=Keep.below a2
  have ad:i<rows.length:=by rw [b5.out];exact bh
  have b1:L=min (s.msgs.length+1) s.cap:=by have:=HL.out;omega
  refine ⟨rfl,some Q,?_,by (focus (repeat' (first | (with_reducible exact Keep.refl _ _) | (with_reducible assumption) | (with_reducible refine Keep.setCell ?_ _ ?_ _) | (with_reducible refine Keep.alloc ?_ _) | (with_reducible refine Keep.drewN ?_ _) | (with_reducible refine Keep.drew ?_) | (with_reducible exact Or.inr (fp _ _)) | (with_reducible exact Or.inr (fm _ _)) | (refine Or.inr ?_;first | rfl | (simp;done) | omega) | (refine Or.inl ?_;first | omega | (simp;done) | (simp;omega))))),.inl rfl⟩
  refine jG (A1:=A1) (c1:=a4) (g:=some Q) (rows':=rows.set i [FQ t0,FQ t1,FQ t2,FQ t3,FQ t4,.slice A1 zs.length a4]) (ring':=.slice (some ⟨Q,0,none⟩) L rc) a1.out Hc.out (HL.out▸O.out) rfl Hm.out T Z ⟨t0,t1,t2,t3,t4⟩ zs b0 (by (focus (repeat' (first | (with_reducible exact Keep.refl _ _) | (with_reducible assumption) | (with_reducible refine Keep.setCell ?_ _ ?_ _) | (with_reducible refine Keep.alloc ?_ _) | (with_reducible refine Keep.drewN ?_ _) | (with_reducible refine Keep.drew ?_) | (with_reducible exact Or.inr (fp _ _)) | (with_reducible exact Or.inr (fm _ _)) | (refine Or.inr ?_;first | rfl | (simp;done) | omega) | (refine Or.inl ?_;first | omega | (simp;done) | (simp;omega)))))) (P:=max s.peak (s.msgs.length+1-s.recv)) rfl (by (focus (repeat' (first | (with_reducible exact a6.out) | (with_reducible refine ap.drew ?_) | (with_reducible refine ap.drewN ?_ _) | (with_reducible refine ap.alloc ?_ _) | (with_reducible refine ap.set0 (ring:=.slice RA L rc) ?_ _) | (with_reducible refine ap.set2 (sent:=s.msgs.length) ?_ _ _ ?_) | (with_reducible refine ap.set4 (peak:=s.peak) ?_ _ _ ?_) | (with_reducible refine ap.far ?_ _ _ ?_) | omega | (push_cast;omega))))) ?_ rfl ?_ ?_ ?_ ?_ ?_
  ·rw [←b1,←sC _ _ _ _ _ _ _ rfl rows i b4.out ad]
   (focus (repeat' (first | (with_reducible exact a5.out) | (with_reducible refine World.ownsRow.drew ?_) | (with_reducible refine bC ?_ _) | (with_reducible refine World.ownsRow.alloc ?_ _) | (with_reducible refine (World.ownsRow.stored ?_ _ _).1) | (with_reducible refine ownsRow_setCell_other ?_ ?_ _) | (with_reducible assumption) | (simp [Value.ownBlock];done) | (simp [Value.ownBlock];omega))))
  ·rw [List.length_set,b5.out,b1]
  ·intro r hr
   rcases List.mem_or_eq_of_mem_set hr with hr | rfl
   ·exact b4.out r hr
   ·rfl
  ·intro j h1 h2
   exact mj _ _ _ _ fun e=>DQ h1 h2 T (e.symm.trans a3.out.symm)
  ·rw [a3.out];exact mV _ _ _ ad
  ·refine Keep.own (S:=fun k=>k≤w.heap.size) (w:=C) ?_ (aA J.out (by simp;omega)) ?_
   ·(focus (repeat' (first | (with_reducible exact Keep.refl _ _) | (with_reducible assumption) | (with_reducible refine Keep.setCell ?_ _ ?_ _) | (with_reducible refine Keep.alloc ?_ _) | (with_reducible refine Keep.drewN ?_ _) | (with_reducible refine Keep.drew ?_) | (with_reducible exact Or.inr (fp _ _)) | (with_reducible exact Or.inr (fm _ _)) | (refine Or.inr ?_;first | rfl | (simp;done) | omega) | (refine Or.inl ?_;first | omega | (simp;done) | (simp;omega)))))
    all_goals (dsimp only;omega)
   ·intro k hk
    have:=(J.out.lt k hk).1
    simp at this ⊢;omega
end Go.Proofs.YtgmajkppbhiopaaGreat
