/- The reference's Do at a computing item. An input that came in. The walk of MachineMakes. No condition. -/
import Derived.Test.YtaccfnffmbndhaaGreatB36
import Derived.Test.YtaccfnffmbndhaaGreatB41
import Derived.Test.YtaccfnffmbndhaaGreatB42
import Derived.Test.YtaccfnffmbndhaaGreatB34
import Derived.Test.YtaccfnffmbndhaaGreatB04
import Derived.Test.YtaccfnffmbndhaaGreatB18
import Derived.Test.YtaccfnffmbndhaaGreatB03
import Derived.Deep.RegionHeld3
import Derived.Test.YtaccfnffmbndhaaGreatB01
import Derived.WalkSpells
import Derived.Test.YtaccfnffmbndhaaGreatB17
import Derived.Test.YtaccfnffmbndhaaGreatB26
import Derived.Test.YtaccfnffmbndhaaGreatB02
set_option linter.unusedSimpArgs false
set_option linter.unusedVariables false
namespace Go.Proofs.YtaccfnffmbndhaaGreat
open Go.RowKit
set_option maxRecDepth 100000 in
set_option maxHeartbeats 4000000 in
theorem rdo_comp {w:World} {vs:Array Value} {i:Inp} {x:Nat} {m:Mst} {s t:LSt} {u v:Array Value} {S:Nat → Prop} (hS:∀ k,S k → k < w.heap.size) (h:RMach (hideW S w) vs i x m) (hu:RL (hideW S w) u s) (hv:RL (hideW S w) v t) (hs:SmIn i) {y:Itm} (hy:(allL i x)[doneN i x m]? = some y) (k1 k2:Int) (b0 b1:Bool) (i0 i1 i2 i3 i4 i5 i6:Int) (hyf:itCells y = [.int .i64 1,.int .i64 k1,.int .i64 k2,.bool b0,.bool b1,.int .i64 i0,.int .i64 i1,.int .i64 i2,.int .i64 i3,.int .i64 i4,.int .i64 i5,.int .i64 i6]) (st a:Nat) (hk1:k1 = (st:Nat)) (hk2:k2 = (a:Nat)) (hst:st < i.cfg.steps.toNat) (ha:a < i.cfg.micros.toNat) (hxw:x < i.cfg.workers.toNat)
    (m1:Mst) (h1:m1.P = m.P ∧ m1.M = m.M ∧ m1.G = gradOn i m.P m.G (pickL i.data (micE i x st a)) ∧ m1.rc = m.rc) (hd1:doneN i x m1 = doneN i x m + 1) :
    Calls Tryz.prog 24 #[.agg vs,.agg u,.agg v] w (fun e w' => RDone S i x m1 (s) (t) 0 w e w'):=by
  have Hk1:=Lib.hid hk1;have Hk2:=Lib.hid hk2;clear hk1 hk2
  obtain ⟨A,c,D,cd,T,ct,R,cr,PA,pc,MA,mc,GA,gc,SA,sc,IA,ic,rfl,hI0,hP0,hM0,hG0,hR0,hIt0,hPl,hMl,hGl⟩:=h
  obtain ⟨B1,c1,rfl,hs0,hs2⟩:=hu
  obtain ⟨B2,c2,rfl,ht0,ht2⟩:=hv
  have hx:=ext_hide S w
  have hI:=ext_inp hI0 hx
  have hP:=ext_nums hP0 hx
  have hM:=ext_nums hM0 hx
  have hG:=ext_nums hG0 hx
  have hR:SlRd rEx 2 w SA m.rc:=ext_sl exts_ex hR0 hx
  have hIt:=ext_rd hIt0 hx
  have hs1:=ext_msgs hs0 hx
  have ht1:=ext_msgs ht0 hx
  have hal:(allL i x).length ≤ 48000000:=allN_le hs x (Nat.le_refl _)
  obtain ⟨bI,oI,rfl,hrow⟩:=it_range hIt hy
  have hdl:=(List.getElem?_eq_some_iff.1 hy).1
  obtain ⟨dn,hdn⟩:∃ dn,doneN i x m = dn:=⟨_,rfl⟩
  obtain ⟨il,hil⟩:∃ il,(allL i x).length = il:=⟨_,rfl⟩
  rw [hdn] at hrow hdl hd1 ⊢
  rw [hil] at hal hdl ⊢
  rw [hyf] at hrow
  obtain ⟨W0,hW0,g0,g1,g2,g3,g4,g5,k0⟩:=rd_boxes w #[.slice A i.cfg.sizes.length c,.int .i64 i.cfg.shift,.int .i64 i.cfg.rate,.int .i64 i.cfg.mom,.int .i64 i.cfg.workers,.int .i64 i.cfg.batch,.int .i64 i.cfg.micros,.int .i64 i.cfg.steps,.int .i64 i.cfg.bucket,.int .i64 i.cfg.chunk,.int .i64 i.cfg.window,.int .i64 i.cfg.cap,.slice D i.data.length cd,.slice T i.start.length ct,.slice R i.draws.length cr,.int .i64 (x:Nat),.slice PA i.start.length pc,.slice MA i.start.length mc,.slice GA i.start.length gc,.slice SA m.rc.length sc,.slice (some ⟨bI,oI,none⟩) il ic,.int .i64 (dn:Nat)] #[.int .i64 (s.cap:Nat),.slice B1 s.msgs.length c1,.int .i64 (s.recv:Nat),.int .i64 (s.peak:Nat)] #[.int .i64 (t.cap:Nat),.slice B2 t.msgs.length c2,.int .i64 (t.recv:Nat),.int .i64 (t.peak:Nat)] #[.slice none 0 0,.int .i64 0,.int .i64 0,.int .i64 0,.int .i64 0,.int .i64 0,.int .i64 0,.int .i64 0,.int .i64 0,.int .i64 0,.int .i64 0,.int .i64 0,.slice none 0 0,.slice none 0 0,.slice none 0 0,.int .i64 0,.slice none 0 0,.slice none 0 0,.slice none 0 0,.slice none 0 0,.slice none 0 0,.int .i64 0] #[.int .i64 0,.slice none 0 0,.int .i64 0,.int .i64 0] #[.int .i64 0,.slice none 0 0,.int .i64 0,.int .i64 0] 43 73
  have t20:∀ w',Below W0.heap.size W0 w' → w'.cell? ⟨w.heap.size,20,none⟩ = some (.slice (some ⟨bI,oI,none⟩) il ic):=fun w' q => cell_of_row w' w.heap.size 20 _ _ _ (sb g0 w' q)
  have t21:∀ w',Below W0.heap.size W0 w' → w'.cell? ⟨w.heap.size,21,none⟩ = some (.int .i64 (dn:Nat)):=fun w' q => cell_of_row w' w.heap.size 21 _ _ _ (sb g0 w' q)
  have tl:=sl g0
  have hrw:W0.rangeAt bI (oI + dn * 12) [.int .i64 1,.int .i64 k1,.int .i64 k2,.bool b0,.bool b1,.int .i64 i0,.int .i64 i1,.int .i64 i2,.int .i64 i3,.int .i64 i4,.int .i64 i5,.int .i64 i6]:=fun k u hu => cell_below k0 (hrow k u hu)
  have hd2:(dn:Int) < il:=by omega
  have hd3:¬ (il:Int) ≤ dn:=by omega
  have hd4:¬ (dn:Int) < 0:=by omega
  have hd5:¬ il ≤ dn:=by omega
  have hwd:IntKind.i64.wrap ((dn:Int) + 1) = ((dn:Int) + 1):=by rw [IntWalk.i64_in _ (by omega)]
  have q0:=br W0
  have HW0:=Lib.hid hW0;have G0:=Lib.hid g0;have G1:=Lib.hid g1;have G2:=Lib.hid g2;have G3:=Lib.hid g3;have G4:=Lib.hid g4;have G5:=Lib.hid g5;have K0:=Lib.hid k0;have HI:=Lib.hid hI;have HP:=Lib.hid hP;have HM:=Lib.hid hM;have HG:=Lib.hid hG;have HR:=Lib.hid hR;have HIt:=Lib.hid hIt;have HPl:=Lib.hid hPl;have HMl:=Lib.hid hMl;have HGl:=Lib.hid hGl;have Hs1:=Lib.hid hs1;have Hs2:=Lib.hid hs2;have Ht1:=Lib.hid ht1;have Ht2:=Lib.hid ht2;have Hil:=Lib.hid hil;have Hs:=Lib.hid hs;have Hrw:=Lib.hid hrw;have HI0:=Lib.hid hI0;have HP0:=Lib.hid hP0;have HM0:=Lib.hid hM0;have HG0:=Lib.hid hG0;have HR0:=Lib.hid hR0;have HIt0:=Lib.hid hIt0;have Hs0:=Lib.hid hs0;have Ht0:=Lib.hid ht0;have HS:=Lib.hid hS;have H1:=Lib.hid h1;have Hd1:=Lib.hid hd1;have Hwd:=Lib.hid hwd
  clear hI0 hP0 hM0 hG0 hR0 hIt0 hs0 ht0 hS hx hW0 g0 g1 g2 g3 g4 g5 k0 hI hP hM hG hR hIt hPl hMl hGl hs1 hs2 ht1 ht2 hdn hil hs hy hrow hyf hal hrw h1 hd1 hdl hwd
  go_enter Tryz.func24,Tryz.ntmps24
  go_upto_region 1 with (fail)
  rw [HW0.out]
  go_upto_region 4 with (first | (refine wpl_rng Hrw.out rt_it rfl rfl rfl ?_) | (refine wpl_store (heap_alloc_new _ _) rt_it rfl rfl rfl rfl rfl rfl rfl ?_;intro W3 e3 k3;have E3:=Lib.hid e3;have K3:=Lib.hid (new_below2 k3);clear e3 k3))
  clear t20 t21 tl q0 hd2 hd3 hd4 hd5
  go_upto_region 5 with (first | (refine wpl_load #[.int .i64 i5,.int .i64 i6] (b:=W0.heap.size) E3.out rt_r4 rfl rfl rfl rfl ?_) | (refine wpl_store (heap_alloc_new _ _) rt_r4 rfl rfl rfl rfl rfl rfl rfl ?_;intro W4 e4 k4;have E4:=Lib.hid e4;have K4:=Lib.hid (new_below2 k4);clear e4 k4))
  have y0:W4.cell? ⟨W0.heap.size,0,none⟩ = some (.int .i64 1):=cell_of_row W4 _ 0 _ _ _ (sb E3.out _ K4.out)
  have B04:=Lib.hid (bt K3.out K4.out)
  have gM4:=Lib.hid (sb G0.out _ B04.out);have E34:=Lib.hid (sb E3.out _ K4.out)
  go_upto_region 8 with (first | (refine wpl_load #[.slice A i.cfg.sizes.length c,.int .i64 i.cfg.shift,.int .i64 i.cfg.rate,.int .i64 i.cfg.mom,.int .i64 i.cfg.workers,.int .i64 i.cfg.batch,.int .i64 i.cfg.micros,.int .i64 i.cfg.steps,.int .i64 i.cfg.bucket,.int .i64 i.cfg.chunk,.int .i64 i.cfg.window,.int .i64 i.cfg.cap] (b:=w.heap.size) gM4.out rt_cfg rfl rfl rfl rfl ?_) | (refine wpl_store (heap_alloc_new _ _) rt_cfg rfl rfl rfl rfl rfl rfl rfl ?_;intro W5 e5 k5;have E5:=Lib.hid e5;have K5:=Lib.hid (new_below2 k5);clear e5 k5))
  have B05:=Lib.hid (bt B04.out K5.out)
  have hBw:=K0.out.trans (B05.out.mono K0.out.size)
  have q5:=(br W5).drew
  have kM:=fun w' (q:Below W5.heap.size W5 w') => sb (sb gM4.out _ K5.out) w' q
  have kX:=fun w' (q:Below W5.heap.size W5 w') => sb (sb E34.out _ K5.out) w' q
  have m15:∀ w',Below W5.heap.size W5 w' → w'.cell? ⟨w.heap.size,15,none⟩ = some (.int .i64 (x:Nat)):=fun w' q => cell_of_row w' _ 15 _ _ _ (kM w' q)
  have x1:∀ w',Below W5.heap.size W5 w' → w'.cell? ⟨W0.heap.size,1,none⟩ = some (.int .i64 (st:Nat)):=fun w' q => by rw [← Hk1.out];exact cell_of_row w' _ 1 _ _ _ (kX w' q)
  have x2:∀ w',Below W5.heap.size W5 w' → w'.cell? ⟨W0.heap.size,2,none⟩ = some (.int .i64 (a:Nat)):=fun w' q => by rw [← Hk2.out];exact cell_of_row w' _ 2 _ _ _ (kX w' q)
  have c4:∀ w',Below W5.heap.size W5 w' → w'.cell? ⟨W4.heap.size,4,none⟩ = some (.int .i64 i.cfg.workers):=fun w' q => cell_of_row w' _ 4 _ _ _ (sb E5.out w' q)
  have c6:∀ w',Below W5.heap.size W5 w' → w'.cell? ⟨W4.heap.size,6,none⟩ = some (.int .i64 i.cfg.micros):=fun w' q => cell_of_row w' _ 6 _ _ _ (sb E5.out w' q)
  have hg:=Hs.out.g
  have hb1:1 ≤ i.cfg.batch:=by have:=hg.c.w;have:=hg.c.ba;omega
  have eW:((i.cfg.workers.toNat:Nat):Int) = i.cfg.workers:=by have:=hg.c.w;omega
  have eM:((i.cfg.micros.toNat:Nat):Int) = i.cfg.micros:=by have:=hg.c.mi;omega
  have eB:((i.cfg.batch.toNat:Nat):Int) = i.cfg.batch:=by omega
  have eS:((i.cfg.steps.toNat:Nat):Int) = i.cfg.steps:=by have:=hg.c.st;omega
  have hI5:=fun w' (q:Below W5.heap.size W5 w') => HI.out.below (hBw.trans (q.mono hBw.size))
  have hsp:=fun w' (q:Below W5.heap.size W5 w') => rsamp14_any A c D cd T ct R cr i w' hg (hI5 w' q).r (hI5 w' q).rl (hI5 w' q).ru
  have hmc:=fun w' A' c' (hA:SlRd rVec 1 w' A' (ordersN i.draws i.data.length (epI i))) => rmicro_any i.data.length i.cfg.batch.toNat i.cfg.steps.toNat st i.cfg.workers.toNat x i.cfg.micros.toNat a (epI i) c' A' i.draws w' hA rfl (by omega) (by have:=hg.b;omega) hg.b.2 (by have:=hg.c.st;omega) hst (by have:=hg.c.w;omega) (by have:=hg.c.ba;omega) hxw (by have:=hg.c.mi;omega) (by have:=hg.c.mi;omega) ha
  rw [eW,eM,eB,eS] at hmc
  have hgood:=mic_good hg x st a
  have hidx:microN (batchN i.draws i.data.length i.cfg.batch.toNat st) i.cfg.workers.toNat x i.cfg.micros.toNat a = micE i x st a:=rfl
  rw [hidx] at hmc
  have hil2:=mic_len hg x st a
  obtain ⟨idx,hidx'⟩:∃ idx,micE i x st a = idx:=⟨_,rfl⟩
  rw [hidx'] at hmc hgood hil2
  have Hsp:=Lib.hid hsp;have Hmc:=Lib.hid hmc;have Hgood:=Lib.hid hgood;have Hidx:=Lib.hid hidx';have HI5:=Lib.hid hI5;have Hil2:=Lib.hid hil2;have KM:=Lib.hid kM;have HBw:=Lib.hid hBw
  clear hsp hmc hgood hidx' hidx hI5 hil2 kM kX eW eM eB eS hBw y0
  refine HA.g (fun w':World => Below W5.heap.size W5 w') ?_
  refine HA.t ?_ [0,3,4,5,6,7,8,9,10,11,12] q5 ?_
  refine HA.ld 1 (inpVals A c D cd T ct R cr i) (fun w' q => KM.out w' q) rt_inp q5 ?_
  refine HA.c 2 (Hsp.out _ q5) ?_
  rintro e w6 ⟨A6,c6',rfl,⟨vs6,o6⟩,k6⟩
  have q6:=q5.trans (k6.mono q5.size)
  refine ⟨_,rfl,q6,fun _ => ?_⟩
  refine HA.c 13 (Hmc.out w6 A6 c6' (o6.rd hg.b.2)) ?_
  rintro e w7 ⟨A7,c7,rfl,-,r7,k7⟩
  have q7:=q6.trans (k7.mono q6.size)
  refine ⟨_,rfl,q7,fun _ => ?_⟩
  refine HA.t ?_ [14] q7 ?_
  refine HA.d ?_
  have q8:Below W5.heap.size W5 w7.drew:=q7.drew
  have hI7:=HI5.out w7 q7
  have hbw7:=HBw.out.trans (q7.mono HBw.out.size)
  have hP7:=HP.out.below hbw7
  have hgr:=rgrad14_any A c D cd T ct R cr i PA A7 m.P idx i.start.length pc c7 w7 hI7.c.hr (by have:=hI7.c;exact this.hc) hI7.d hg hP7.hr HPl.out hg.s.symm hP7.hw r7 (by have:=Hil2.out;omega)
  have gM7:=KM.out w7 q7
  have cP7:=cell_of_row w7 w.heap.size 16 _ _ _ gM7
  have lM7:=lt_of_block gM7
  have HGr:=Lib.hid hgr;have GM7:=Lib.hid gM7;have Q7:=Lib.hid q7
  clear q5 q6 q7 q8 k6 k7 o6 r7 m15 x1 x2 c4 c6 hgr gM7 hI7 hP7 hbw7
  go_wp2_with (refine wpl_load (inpVals A c D cd T ct R cr i) (b:=w.heap.size) GM7.out rt_inp rfl rfl rfl rfl ?_)
  refine HGr.out.mono ?_
  rintro e w8 ⟨k8,⟨-,v8,rfl,o8⟩ | ⟨hno,-⟩⟩
  rotate_left
  · exact absurd Hgood.out hno
  obtain ⟨A8,c8,rfl,-⟩:=own_form o8
  have gM8:=sb GM7.out _ k8
  have c18:=cell_of_row w8 w.heap.size 18 _ _ _ gM8
  have f18:=frozen_of_row w8 w.heap.size 18 _ _ gM8
  have lM8:=lt_of_block gM8
  have q8:=Q7.out.trans (k8.mono Q7.out.size)
  have hbw8:=HBw.out.trans (q8.mono HBw.out.size)
  have hga:(gradAcc i m.P (pickL i.data idx)).length = i.start.length:=by rw [gradAcc_len,hg.s]
  rw [← hg.s] at o8 ⊢
  have hch:=rchg_any GA A8 m.G (gradAcc i m.P (pickL i.data idx)) i.start.length i.start.length gc c8 0 true w8 (HG.out.below hbw8).hr (Rd.own o8) HGl.out hga (by have:=Hs.out.n;omega) (by omega)
  rw [show ((0:Nat):Int) = 0 from rfl] at hch
  have HCh:=Lib.hid hch;have GM8:=Lib.hid gM8;have Q8:=Lib.hid q8;have Hga:=Lib.hid hga
  clear hch gM8 o8 k8 q8 hbw8 cP7 lM7 hga
  go_wp2_with fail
  refine HCh.out.mono ?_
  rintro e w9 ⟨A9,c9,rfl,o9,k9⟩
  have gM9:=sb GM8.out _ k9
  have d18:=cell_of_row w9 w.heap.size 18 _ _ _ gM9
  have f18:=frozen_of_row w9 w.heap.size 18 _ _ gM9
  have lM9:=lt_of_block gM9
  have q9':=Q8.out.trans (k9.mono Q8.out.size)
  have hbw9:=HBw.out.trans (q9'.mono HBw.out.size)
  have hB9:=hbw9
  have eG:chgG m.G 0 (gradAcc i m.P (pickL i.data idx)) true = gradOn i m.P m.G (pickL i.data idx):=by rw [chgG_all (by rw [Hga.out,HGl.out]),gradOn_acc HG.out.hw (by rw [HGl.out,hg.s])]
  rw [eG] at o9
  have O9:=Lib.hid o9;have GM9:=Lib.hid gM9;have HB9:=Lib.hid hB9;have Q9':=Lib.hid q9';have E9G:=Lib.hid eG
  clear o9 gM9 hB9 hbw9 c18 lM8 k9 q9' eG
  go_upto_region 28 with (fail)
  have hgM:=ss (i:=18) (v:=.slice A9 i.start.length c9) GM9.out rfl
  have kk:Keep (fun k => k = w.heap.size) w9 (w9.setCell ⟨w.heap.size,18,none⟩ (.slice A9 i.start.length c9)):=Keep.setCell (S:=fun k => k = w.heap.size) (Keep.refl _ _) _ (.inr rfl) _
  obtain ⟨V,hV⟩:∃ V,w9.setCell ⟨w.heap.size,18,none⟩ (.slice A9 i.start.length c9) = V:=⟨_,rfl⟩
  rw [hV] at hgM kk ⊢
  have B09:=bt B05.out Q9'.out
  have hb:=fun {b:Nat} {o:Obj} (h:W0.heap[b]? = some o) (hne:b ≠ w.heap.size) => (kk.block b (lt_of_block (sb h _ B09)) hne).trans (sb h _ B09)
  have hg1:=hb G1.out (by omega)
  have hg2:=hb G2.out (by omega)
  have hg3:=hb G3.out (by omega)
  have hg4:=hb G4.out (by omega)
  have hg5:=hb G5.out (by omega)
  have hBV:=HB9.out.trans (kk.toBelow HB9.out.size (fun j hj => by rw [hj];exact Nat.le_refl _))
  have HKK:=Lib.hid kk
  have hlo:w.heap.size + 6 ≤ W0.heap.size:=by have:=lt_of_block G5.out;omega
  have HO:=Lib.hid (own_base O9.out (show w.heap.size + 6 ≤ w8.heap.size by have:=B05.out.size;have:=Q8.out.size;omega))
  clear hV d18 f18 lM9 kk hb B09
  have c21:=cell_of_row V w.heap.size 21 _ _ _ hgM
  have f21:=frozen_of_row V w.heap.size 21 _ _ hgM
  have lM:=lt_of_block hgM
  have hwd:=Hwd.out
  have e9:=ss (i:=21) (v:=.int .i64 ((dn:Int) + 1)) hgM rfl
  have k9:Keep (fun k => k = w.heap.size) V (V.setCell ⟨w.heap.size,21,none⟩ (.int .i64 ((dn:Int) + 1))):=Keep.setCell (S:=fun k => k = w.heap.size) (Keep.refl _ _) _ (.inr rfl) _
  have E9:=Lib.hid e9;have K9:=Lib.hid k9;have Hg1:=Lib.hid hg1;have Hg2:=Lib.hid hg2;have Hg3:=Lib.hid hg3;have Hg4:=Lib.hid hg4;have Hg5:=Lib.hid hg5;have HBV:=Lib.hid hBV
  clear e9 k9 hg1 hg2 hg3 hg4 hg5 hBV hgM
  go_upto_region 29 with (fail)
  obtain ⟨V9,hV9⟩:∃ V9,V.setCell ⟨w.heap.size,21,none⟩ (.int .i64 ((dn:Int) + 1)) = V9:=⟨_,rfl⟩
  rw [hV9] at E9 K9 ⊢
  clear hV9 c21 f21 lM hwd
  have b1:=(K9.out.block _ (lt_of_block Hg1.out) (by omega)).trans Hg1.out
  have b2:=(K9.out.block _ (lt_of_block Hg2.out) (by omega)).trans Hg2.out
  have b3:=(K9.out.block _ (lt_of_block Hg3.out) (by omega)).trans Hg3.out
  have b4:=(K9.out.block _ (lt_of_block Hg4.out) (by omega)).trans Hg4.out
  have b5:=(K9.out.block _ (lt_of_block Hg5.out) (by omega)).trans Hg5.out
  have q9:Keep (fun k => k = w.heap.size + 1 + 1 + 1 ∨ k = w.heap.size + 1 + 1 + 1 + 1 ∨ k = w.heap.size + 1 + 1 + 1 + 1 + 1) V9 V9.drew:=(Keep.refl _ _).drew
  refine HA.g (fun w':World => Keep (fun k => k = w.heap.size + 1 + 1 + 1 ∨ k = w.heap.size + 1 + 1 + 1 + 1 ∨ k = w.heap.size + 1 + 1 + 1 + 1 + 1) V9 w') ?_
  refine HA.ld 0 #[.slice A i.cfg.sizes.length c,.int .i64 i.cfg.shift,.int .i64 i.cfg.rate,.int .i64 i.cfg.mom,.int .i64 i.cfg.workers,.int .i64 i.cfg.batch,.int .i64 i.cfg.micros,.int .i64 i.cfg.steps,.int .i64 i.cfg.bucket,.int .i64 i.cfg.chunk,.int .i64 i.cfg.window,.int .i64 i.cfg.cap,.slice D i.data.length cd,.slice T i.start.length ct,.slice R i.draws.length cr,.int .i64 (x:Nat),.slice PA i.start.length pc,.slice MA i.start.length mc,.slice A9 i.start.length c9,.slice SA m.rc.length sc,.slice (some ⟨bI,oI,none⟩) il ic,.int .i64 (dn + 1)] (fun w' q => (q.block _ (lt_of_block E9.out) (by omega)).trans E9.out) rt_rm q9 ?_
  refine HA.ld 1 #[.int .i64 (s.cap:Nat),.slice B1 s.msgs.length c1,.int .i64 (s.recv:Nat),.int .i64 (s.peak:Nat)] (fun w' q => (q.block _ (lt_of_block b1) (by omega)).trans b1) rt_rl q9 ?_
  refine HA.ld 2 #[.int .i64 (t.cap:Nat),.slice B2 t.msgs.length c2,.int .i64 (t.recv:Nat),.int .i64 (t.peak:Nat)] (fun w' q => (q.block _ (lt_of_block b2) (by omega)).trans b2) rt_rl q9 ?_
  refine HA.st 3 b3 rt_rm (fun w6 e6 k6 => ?_)
  have q6:Keep (fun k => k = w.heap.size + 1 + 1 + 1 ∨ k = w.heap.size + 1 + 1 + 1 + 1 ∨ k = w.heap.size + 1 + 1 + 1 + 1 + 1) V9 w6:=q9.trans (k6.mono fun k _ e => .inl e)
  refine ⟨q6,?_⟩
  have d4:=(k6.block _ (lt_of_block b4) (by omega)).trans b4
  have d5:=(k6.block _ (lt_of_block b5) (by omega)).trans b5
  refine HA.st 4 d4 rt_rl (fun w7 e7 k7 => ?_)
  have q7:Keep (fun k => k = w.heap.size + 1 + 1 + 1 ∨ k = w.heap.size + 1 + 1 + 1 + 1 ∨ k = w.heap.size + 1 + 1 + 1 + 1 + 1) V9 w7:=q6.trans (k7.mono fun k _ e => .inr (.inl e))
  refine ⟨q7,?_⟩
  have f5:=(k7.block _ (lt_of_block d5) (by omega)).trans d5
  have f3:=(k7.block _ (lt_of_block e6) (by omega)).trans e6
  refine HA.st 5 f5 rt_rl (fun w8 e8 k8 => ?_)
  have q8:Keep (fun k => k = w.heap.size + 1 + 1 + 1 ∨ k = w.heap.size + 1 + 1 + 1 + 1 ∨ k = w.heap.size + 1 + 1 + 1 + 1 + 1) V9 w8:=q7.trans (k8.mono fun k _ e => .inr (.inr e))
  refine ⟨q8,?_⟩
  have r3:=(k8.block _ (lt_of_block f3) (by omega)).trans f3
  have r4:=(k8.block _ (lt_of_block e7) (by omega)).trans e7
  refine HA.t ?_ [6] q8 ?_
  refine HA.d ?_
  have R3:=Lib.hid r3;have R4:=Lib.hid r4;have R5:=Lib.hid e8
  have kV8:Keep (fun k => w.heap.size ≤ k ∧ k < w.heap.size + 6) V w8:=(K9.out.mono fun k _ e => by omega).trans (q8.mono fun k _ e => by rcases e with e | e | e <;> omega)
  have KV8:=Lib.hid kV8
  have QW:=Lib.hid (HBV.out.trans (kV8.toBelow HBV.out.size (fun j hj => hj.1)))
  clear b1 b2 b3 b4 b5 e6 k6 q6 d4 d5 e7 k7 q7 f5 f3 e8 k8 q8 r3 r4 q9 kV8
  go_wp2_with fail
  refine bodyPost_ret (res_cell3 rfl rfl rfl rfl R3.out R4.out R5.out rt_rm rt_rl rt_rl) rfl ?_
  have oF:=KV8.out.own (HKK.out.own HO.out (fun j hj e => by have:=(HO.out.lt j hj).1;omega)) (fun j hj e => by have:=(HO.out.lt j hj).1;omega)
  have hcn:=own_form oF
  have hGF:NumsRd (hideW S w8) A9 (gradOn i m.P m.G (pickL i.data idx)) c9:=by
    obtain ⟨A',c',e',hc'⟩:=hcn
    simp only [Value.slice.injEq] at e'
    have hl:=gradOn_len (i:=i) (P:=m.P) (n:=i.start.length) (pickL i.data idx) m.G HGl.out
    have:=Hs.out.n
    exact ⟨by omega,by omega,rd_hide_own oF (fun k hk => by have:=HS.out k hk;omega),gradOn_W64 _ _ _ HG.out.hw _⟩
  have hX:Ext (hideW S w) (hideW S w8):=ext_step (Keep.below QW.out) (fun _ _ h => h)
  obtain ⟨h1P,h1M,h1G,h1R⟩:=H1.out
  exact ⟨_,_,_,rfl,rfl,rfl,⟨A,c,D,cd,T,ct,R,cr,PA,pc,MA,mc,A9,c9,SA,sc,some ⟨bI,oI,none⟩,ic,by rw [Hil.out,Hd1.out,h1R];push_cast;rfl,ext_inp HI0.out hX,by rw [h1P];exact ext_nums HP0.out hX,by rw [h1M];exact ext_nums HM0.out hX,by rw [h1G];exact Hidx.out ▸ hGF,by rw [h1R];exact ext_sl exts_ex HR0.out hX,ext_rd HIt0.out hX,by rw [h1P];exact HPl.out,by rw [h1M];exact HMl.out,by rw [h1G];exact (gradOn_len (i:=i) (P:=m.P) (n:=i.start.length) _ m.G HGl.out)⟩,⟨B1,c1,rfl,ext_msgs Hs0.out hX,Hs2.out⟩,⟨B2,c2,rfl,ext_msgs Ht0.out hX,Ht2.out⟩,QW.out⟩
end Go.Proofs.YtaccfnffmbndhaaGreat
namespace Go.Proofs.YtaccfnffmbndhaaGreat
open Go.RowKit Go.ChangeShapes Go.WideShapes Go.ChangeAt
theorem opens_l:Opens Tryz.prog 2 1 (rInt .i64):=opens_int Tryz.underlying2 (by kernel_rfl)
theorem opens_u64s:Opens Tryz.prog 27 1 (rNums .u64):=opens_nums Tryz.underlying27 Tryz.underlying231 (by kernel_rfl) (by kernel_rfl) (by kernel_rfl)
theorem wf_U64 {l:List Int} (h:∀ z ∈ l,(Lit.int .u64 z).wf = true):U64 l:=fun k hk => by
  have:=h _ (nth_mem hk)
  simpa [Lit.wf,IntKind.min,IntKind.max,IntKind.signed,IntKind.bits] using this
theorem wf_one {z:Int} (h:(Lit.int .i64 z).wf = true):-9223372036854775808 ≤ z ∧ z ≤ 9223372036854775807:=by
  simpa [Lit.wf,IntKind.min,IntKind.max,IntKind.signed,IntKind.bits] using h
theorem cells_exO:Tryz.prog.cellsOf 107 = 2:=by kernel_rfl
theorem cells_cfgO:Tryz.prog.cellsOf 24 = 12:=by kernel_rfl
theorem cells_inpO:Tryz.prog.cellsOf 29 = 15:=by kernel_rfl
theorem rNums_rd {w:World} {A:Option Addr} {zs:List Int} {c:Nat} (h2:zs.length ≤ c) (h6:zs.length ≤ 17592186043904) (h4:Rd w A (nums .i64 zs)) (h5:∀ z ∈ zs,(Lit.int .i64 z).wf = true):NumsRd w A zs c:=⟨h2,h6,h4,wf_W64 h5⟩
set_option maxRecDepth 100000 in
theorem opens_ex:Opens Tryz.prog 107 2 rEx:=⟨cells_exO,fun {H enc W fuel cs x} h hlt => by
  obtain ⟨xs,n,_,hx,hl,hlen,hf⟩:=DataW.trod_struct Tryz.underlying107 h
  rw [cells_exO] at hl
  have hlen':xs.length = 2:=hlen
  obtain ⟨x1,A,c,a1,a2,a3,a4,a5,a6⟩:=field_opens opens_i64s Tryz.underlying107 hx hlt (hf 0 _ rfl) (by omega) rfl
  obtain ⟨y1,B,d,b1,b2,b3,b4,b5,b6⟩:=field_opens opens_i64s Tryz.underlying107 hx hlt (hf 1 _ rfl) (by omega) rfl
  clear h hf hlen hlen' hx hlt
  match cs,hl with
  | [c0,c1],_ =>
    simp at a1 b1
    exact ⟨rfl,⟨x1,y1⟩,A,c,B,d,by simp [a1,b1],rNums_rd a2 a4 a5 a6,rNums_rd b2 b4 b5 b6⟩⟩
theorem opens_exs:Opens Tryz.prog 25 1 (rSl rEx 2):=opens_slice Tryz.underlying25 opens_ex (by kernel_rfl) (of_decide_eq_true (by kernel_rfl))
def rCfg:Reader Cfg:=fun w cs k => ∃ A c,cs = (cfgVals A c k).toList ∧ CfgRd w A c k ∧ (-9223372036854775808 ≤ k.rate ∧ k.rate ≤ 9223372036854775807) ∧ (-9223372036854775808 ≤ k.mom ∧ k.mom ≤ 9223372036854775807) ∧ W64 k.sizes ∧ W64 [k.shift,k.workers,k.batch,k.micros,k.steps,k.bucket,k.chunk,k.window,k.cap]
set_option maxRecDepth 100000 in
set_option maxHeartbeats 1000000 in
theorem opens_cfg:Opens Tryz.prog 24 12 rCfg:=⟨cells_cfgO,fun {H enc W fuel cs x} h hlt => by
  obtain ⟨xs,n,_,hx,hl,hlen,hf⟩:=DataW.trod_struct Tryz.underlying24 h
  rw [cells_cfgO] at hl
  have hlen':xs.length = 12:=hlen
  obtain ⟨sz,A,c,a1,a2,a3,a4,a5,a6⟩:=field_opens opens_ints Tryz.underlying24 hx hlt (hf 0 _ rfl) (by omega) rfl
  obtain ⟨z1,h1,g1⟩:=field_opens opens_i Tryz.underlying24 hx hlt (hf 1 _ rfl) (by omega) rfl
  obtain ⟨z2,h2,g2⟩:=field_opens opens_l Tryz.underlying24 hx hlt (hf 2 _ rfl) (by omega) rfl
  obtain ⟨z3,h3,g3⟩:=field_opens opens_l Tryz.underlying24 hx hlt (hf 3 _ rfl) (by omega) rfl
  obtain ⟨z4,h4,g4⟩:=field_opens opens_i Tryz.underlying24 hx hlt (hf 4 _ rfl) (by omega) rfl
  obtain ⟨z5,h5,g5⟩:=field_opens opens_i Tryz.underlying24 hx hlt (hf 5 _ rfl) (by omega) rfl
  obtain ⟨z6,h6,g6⟩:=field_opens opens_i Tryz.underlying24 hx hlt (hf 6 _ rfl) (by omega) rfl
  obtain ⟨z7,h7,g7⟩:=field_opens opens_i Tryz.underlying24 hx hlt (hf 7 _ rfl) (by omega) rfl
  obtain ⟨z8,h8,g8⟩:=field_opens opens_i Tryz.underlying24 hx hlt (hf 8 _ rfl) (by omega) rfl
  obtain ⟨z9,h9,g9⟩:=field_opens opens_i Tryz.underlying24 hx hlt (hf 9 _ rfl) (by omega) rfl
  obtain ⟨z10,h10,g10⟩:=field_opens opens_i Tryz.underlying24 hx hlt (hf 10 _ rfl) (by omega) rfl
  obtain ⟨z11,h11,g11⟩:=field_opens opens_i Tryz.underlying24 hx hlt (hf 11 _ rfl) (by omega) rfl
  clear h hf hlen hlen' hx hlt
  match cs,hl with
  | [c0,c1,c2,c3,c4,c5,c6,c7,c8,c9,c10,c11],_ =>
    simp at a1 h1 h2 h3 h4 h5 h6 h7 h8 h9 h10 h11
    refine ⟨rfl,⟨sz,z1,z2,z3,z4,z5,z6,z7,z8,z9,z10,z11⟩,A,c,by simp [cfgVals,a1,h1,h2,h3,h4,h5,h6,h7,h8,h9,h10,h11],⟨a2,a3,a4,a5⟩,wf_one g2,wf_one g3,wf_W64 a6,?_⟩
    refine wf_W64 fun z hz => ?_
    simp only [List.mem_cons,List.not_mem_nil,or_false] at hz
    rcases hz with rfl | rfl | rfl | rfl | rfl | rfl | rfl | rfl | rfl <;> assumption⟩
def rInpA:Reader Inp:=fun w cs i => ∃ A c D cd T ct R cr,cs = (inpVals A c D cd T ct R cr i).toList ∧ InpRaw w A c D T ct R i ∧ i.data.length ≤ cd ∧ cd ≤ 9223372036854775807 ∧ i.draws.length ≤ cr ∧ cr ≤ 9223372036854775807 ∧ ct ≤ 9223372036854775807 ∧ W64 i.cfg.sizes ∧ W64 [i.cfg.shift,i.cfg.workers,i.cfg.batch,i.cfg.micros,i.cfg.steps,i.cfg.bucket,i.cfg.chunk,i.cfg.window,i.cfg.cap]
set_option maxRecDepth 100000 in
set_option maxHeartbeats 1000000 in
theorem opens_inp:Opens Tryz.prog 29 15 rInpA:=⟨cells_inpO,fun {H enc W fuel cs x} h hlt => by
  obtain ⟨xs,n,_,hx,hl,hlen,hf⟩:=DataW.trod_struct Tryz.underlying29 h
  rw [cells_inpO] at hl
  have hlen':xs.length = 4:=hlen
  obtain ⟨k,A,c,k1,k2,k3,k4,k5,k6⟩:=field_opens opens_cfg Tryz.underlying29 hx hlt (hf 0 _ rfl) (by omega) rfl
  obtain ⟨da,D,cd,d1,d2,d3,d4,d5⟩:=field_opens opens_exs Tryz.underlying29 hx hlt (hf 1 _ rfl) (by omega) rfl
  obtain ⟨st,T,ct,t1,t2,t3,t4,t5,t6⟩:=field_opens opens_i64s Tryz.underlying29 hx hlt (hf 2 _ rfl) (by omega) rfl
  obtain ⟨dr,R,cr,r1,r2,r3,r4,r5,r6⟩:=field_opens opens_u64s Tryz.underlying29 hx hlt (hf 3 _ rfl) (by omega) rfl
  clear h hf hlen hlen' hx hlt
  match cs,hl with
  | [c0,c1,c2,c3,c4,c5,c6,c7,c8,c9,c10,c11,c12,c13,c14],_ =>
    simp [cfgVals] at k1 d1 t1 r1
    exact ⟨rfl,⟨k,da,st,dr⟩,A,c,D,cd,T,ct,R,cr,by simp [inpVals,k1,d1,t1,r1],⟨k2,d5,d4,rNums_rd t2 t4 t5 t6,r5,r4,wf_U64 r6,k3,k4⟩,d2,d3,r2,r3,t3,k5,k6⟩⟩
set_option maxRecDepth 100000 in
theorem open_inp {H:Type} {enc:TypeId × Value → H} {W:World} {base:Nat} {v:Value} {d:DataW H} {p:List MemPlace} (o:Value.okWide Tryz.prog W .any base 29 v) (h:DataW.Trod enc Tryz.prog W 0 (fun _ => true) true 29 v d p) (z:Light Tryz.prog 29 d) :
    ∃ (A:Option Addr) (c:Nat) (D:Option Addr) (cd:Nat) (T:Option Addr) (ct:Nat) (R:Option Addr) (cr:Nat) (i:Inp),v = .agg (inpVals A c D cd T ct R cr i) ∧ InpRaw W A c D T ct R i ∧ i.data.length ≤ cd ∧ cd ≤ 9223372036854775807 ∧ i.draws.length ≤ cr ∧ cr ≤ 9223372036854775807 ∧ ct ≤ 9223372036854775807 ∧ W64 i.cfg.sizes ∧ W64 [i.cfg.shift,i.cfg.workers,i.cfg.batch,i.cfg.micros,i.cfg.steps,i.cfg.bucket,i.cfg.chunk,i.cfg.window,i.cfg.cap]:=by
  obtain ⟨cs,rfl,_⟩:=okWide_struct Tryz.underlying29 o
  obtain ⟨i,⟨A,c,D,cd,T,ct,R,cr,e,h1⟩,_⟩:=opens_param opens_inp h z
  refine ⟨A,c,D,cd,T,ct,R,cr,i,?_,h1⟩
  obtain ⟨l⟩:=cs
  have e':l = _:=e
  rw [e']
end Go.Proofs.YtaccfnffmbndhaaGreat
namespace Go.Proofs.YtaccfnffmbndhaaGreat
open Go.RowKit Go.ChangeShapes Go.WideShapes Go.ChangeAt
theorem wpl_ldg {P:Program} {ops:Array Oper} {rest:List Oper} {op:Oper} {a:Act} {w:World} {Q:Exit → Act → World → Prop} {ty:TypeId} {x:Operand} {b o:Nat} {xs:Array Value} {t:TypeId} {fr:Nat × Nat} (cs:Array Value)
    (hb:w.heap[b]? = some (.cells xs t fr)) (hr:RowTy P ty cs.size) (hw:Region.wanted op (yielded ops a.tmps) = true) (ho:op.op = .load ty x) (hx:a.eval x = .pointer (some ⟨b,o,none⟩)) (hcs:(xs.toList.drop o).take cs.toList.length = cs.toList)
    (h:wpList P ops Q rest (a.put op.dst (.agg cs)) w):wpList P ops Q (op :: rest) a w:=by
  obtain ⟨⟨d,h1,h2⟩,h3⟩:=hr
  refine wpList_step fun K hK => ?_
  rw [if_pos hw]
  exact wp_load_mid ty x ho b o hx cs.toList d (range_block hb o hcs) h1 h2 (by simpa using h3) (hK _ _ (by simpa using h))
theorem new_below {w W10:World} {o:Obj} (k:Keep (fun j => j = w.heap.size) (w.alloc o) W10):Below w.heap.size w W10:=
  ((br w).alloc (Nat.le_refl _) o).trans (k.toBelow (by rw [World.size_alloc];omega) (fun j hj => by omega))
end Go.Proofs.YtaccfnffmbndhaaGreat
