/- The reference's check of an input. The reference's Few of an input. The reference's Few of a run. The reference's ranges: sakiaref04.Blocks and Even, sakiaref15. No condition. -/
import Derived.Test.YtaccfnffmbndhaaGreatB04
import Derived.Test.YtaccfnffmbndhaaGreatB21
import Derived.Test.YtaccfnffmbndhaaGreatB25
import Derived.Test.YtaccfnffmbndhaaGreatB07
set_option linter.unusedSimpArgs false
set_option linter.unusedVariables false
namespace Go.Proofs.YtaccfnffmbndhaaGreat
open Go.RowKit
set_option maxRecDepth 100000 in
set_option maxHeartbeats 4000000 in
theorem rinput_any (A:Option Addr) (c:Nat) (D:Option Addr) (cd:Nat) (T:Option Addr) (ct:Nat) (R:Option Addr) (cr:Nat) (i:Inp) (w:World) (h:InpRd w A c D T ct R i) :
    Calls Tryz.prog 15 #[.agg (inpVals A c D cd T ct R cr i)] w fun e w' => e = .returned (.int .i64 (inCode i)) ∧ Below w.heap.size w w':=by
  have hck:=fun w' (q:Below w.heap.size w w') => rcfg_any A c i.cfg w' (h.c.below q)
  have hct:=fun (hR:RightSz i.cfg.sizes) w' (q:Below w.heap.size w w') => rcount_any A i.cfg.sizes i.cfg.sizes.length c w' (h.c.hr.below q) hR (by have:=hR.1;omega) (Nat.le_refl _)
  have hdc:=fun a b w' (q:Below w.heap.size w w') => rdcheck_any a b cd D i.data w' (h.d.below stays_ex q) h.dl
  have hnd:=fun (hg:GoodCfg i.cfg) (hb:i.cfg.batch ≤ i.data.length ∧ (i.data.length:Int) ≤ 1048576) w' (q:Below w.heap.size w w') => rneed_any A c i.data.length i.cfg w' (h.c.below q) hg hb
  have fc:=@in_c i;have f7:=@in_7 i;have f5:=@in_5 i;have f8:=@in_8 i;have f0:=@in_0 i
  have hgd:=@cfg_good i.cfg
  have hsr:=h.c.hr
  have hdl:=h.dl;have htl:=h.tl;have hrl:=h.rl
  unfold DChkIs at hdc
  unfold batchB at f7 f5 f8 f0
  unfold shapeB fitB inN outN cnt at f5 f8 f0
  unfold drawsB at f8 f0
  obtain ⟨code,hcode⟩:∃ code,inCode i = code:=⟨_,rfl⟩
  rw [hcode] at fc f7 f5 f8 f0 ⊢
  clear hcode h
  obtain ⟨⟨sz,sh,ra,mo,wk,ba,mi,st,bu,ch,wi,ca⟩,data,start,draws⟩:=i
  dsimp only [inpVals,cfgVals] at *
  obtain ⟨L,hL⟩:∃ L,sz.length = L:=⟨_,rfl⟩
  obtain ⟨N,hN⟩:∃ N,data.length = N:=⟨_,rfl⟩
  obtain ⟨M,hM⟩:∃ M,start.length = M:=⟨_,rfl⟩
  obtain ⟨Q,hQ⟩:∃ Q,draws.length = Q:=⟨_,rfl⟩
  obtain ⟨cc,hcc⟩:∃ cc,cfgCode ⟨sz,sh,ra,mo,wk,ba,mi,st,bu,ch,wi,ca⟩ = cc:=⟨_,rfl⟩
  rw [hL] at hck hct hnd f5 f8 f0 ⊢
  rw [hN] at hdc hnd f7 f5 f8 f0 hdl ⊢
  rw [hM] at f5 f8 f0 htl ⊢
  rw [hQ] at f8 f0 hrl ⊢
  rw [hcc] at hck fc f7 f5 f8 f0 hgd
  obtain ⟨CN,hCN⟩:∃ CN,cntN sz (L - 1) = CN:=⟨_,rfl⟩
  rw [hCN] at hct f5 f8 f0
  obtain ⟨ND,hND⟩:∃ ND,needN N ba.toNat st.toNat = ND:=⟨_,rfl⟩
  rw [hND] at hnd f8 f0
  have Hck:=Lib.hid hck;have Hct:=Lib.hid hct;have Hdc:=Lib.hid hdc;have Hnd:=Lib.hid hnd;have Fc:=Lib.hid fc;have F7:=Lib.hid f7;have F5:=Lib.hid f5;have F8:=Lib.hid f8;have F0:=Lib.hid f0;have Hgd:=Lib.hid hgd;have Hsr:=Lib.hid hsr;have HL:=Lib.hid hL;have HCN:=Lib.hid hCN
  clear hck hct hdc hnd fc f7 f5 f8 f0 hgd hsr hL hN hM hQ hcc hCN hND
  go_enter Tryz.func15,Tryz.ntmps15
  go_wp2_with fail
  have hz:=(Below.heap_alloc (w.alloc (.cells #[.slice A L c,.int .i64 sh,.int .i64 ra,.int .i64 mo,.int .i64 wk,.int .i64 ba,.int .i64 mi,.int .i64 st,.int .i64 bu,.int .i64 ch,.int .i64 wi,.int .i64 ca,.slice D N cd,.slice T M ct,.slice R Q cr] 29)) (.cells #[.slice A L c,.int .i64 sh,.int .i64 ra,.int .i64 mo,.int .i64 wk,.int .i64 ba,.int .i64 mi,.int .i64 st,.int .i64 bu,.int .i64 ch,.int .i64 wi,.int .i64 ca] 24) w.heap.size (by simp)).trans (heap_alloc_new w _)
  have hy:=heap_alloc_new (w.alloc (.cells #[.slice A L c,.int .i64 sh,.int .i64 ra,.int .i64 mo,.int .i64 wk,.int .i64 ba,.int .i64 mi,.int .i64 st,.int .i64 bu,.int .i64 ch,.int .i64 wi,.int .i64 ca,.slice D N cd,.slice T M ct,.slice R Q cr] 29)) (.cells #[.slice A L c,.int .i64 sh,.int .i64 ra,.int .i64 mo,.int .i64 wk,.int .i64 ba,.int .i64 mi,.int .i64 st,.int .i64 bu,.int .i64 ch,.int .i64 wi,.int .i64 ca] 24)
  rw [show (w.alloc (.cells #[.slice A L c,.int .i64 sh,.int .i64 ra,.int .i64 mo,.int .i64 wk,.int .i64 ba,.int .i64 mi,.int .i64 st,.int .i64 bu,.int .i64 ch,.int .i64 wi,.int .i64 ca,.slice D N cd,.slice T M ct,.slice R Q cr] 29)).heap.size = w.heap.size + 1 by simp] at hy
  have hB:Below w.heap.size w ((w.alloc (.cells #[.slice A L c,.int .i64 sh,.int .i64 ra,.int .i64 mo,.int .i64 wk,.int .i64 ba,.int .i64 mi,.int .i64 st,.int .i64 bu,.int .i64 ch,.int .i64 wi,.int .i64 ca,.slice D N cd,.slice T M ct,.slice R Q cr] 29)).alloc (.cells #[.slice A L c,.int .i64 sh,.int .i64 ra,.int .i64 mo,.int .i64 wk,.int .i64 ba,.int .i64 mi,.int .i64 st,.int .i64 bu,.int .i64 ch,.int .i64 wi,.int .i64 ca] 24)):=((Below.refl _ w).alloc (Nat.le_refl _) _).alloc (by simp) _
  obtain ⟨W0,hW0⟩:∃ W0,W0 = (w.alloc (.cells #[.slice A L c,.int .i64 sh,.int .i64 ra,.int .i64 mo,.int .i64 wk,.int .i64 ba,.int .i64 mi,.int .i64 st,.int .i64 bu,.int .i64 ch,.int .i64 wi,.int .i64 ca,.slice D N cd,.slice T M ct,.slice R Q cr] 29)).alloc (.cells #[.slice A L c,.int .i64 sh,.int .i64 ra,.int .i64 mo,.int .i64 wk,.int .i64 ba,.int .i64 mi,.int .i64 st,.int .i64 bu,.int .i64 ch,.int .i64 wi,.int .i64 ca] 24):=⟨_,rfl⟩
  rw [← hW0] at hz hy hB ⊢
  clear hW0
  refine (Hck.out _ hB).mono ?_
  rintro e w1 ⟨rfl,hb1⟩
  have hz1:=(hb1.block _ (lt_of_block hz)).trans hz
  have hy1:=(hb1.block _ (lt_of_block hy)).trans hy
  have HB:=Lib.hid (hB.trans (hb1.mono hB.size))
  obtain ⟨⟨z0,z1,z2,z3,z4,z5,z6,z7,z8,z9,z10,z11,z12,z13,z14⟩,zf⟩:=bx15 hz1
  obtain ⟨⟨y0,y1,y2,y3,y4,y5,y6,y7,y8,y9,y10,y11⟩,yf⟩:=bx12 hy1
  have lz:=lt_of_block hz1;have ly:=lt_of_block hy1
  have HZ:=Lib.hid hz1;have HY:=Lib.hid hy1
  clear hz hy hB hb1 hz1 hy1
  by_cases h3:cc ≠ 0
  · have hq:(cc != 0) = true:=by rw [bne_iff_ne];exact h3
    have H3:=Lib.hid h3;clear h3
    go_wp2_with fail
    go_ret
    exact ⟨ret_int (Fc.out H3.out).symm,HB.out⟩
  obtain rfl:cc = 0:=by omega
  clear h3
  have hg:=Hgd.out.1 rfl
  have g1:=hg.w;have g2:=hg.ba;have g3:=hg.st;have gz:=hg.z
  have HG:=Lib.hid hg
  dsimp only at g1 g2 g3 gz
  clear hg
  have hl16:=gz.1.1
  rw [HL.out] at hl16
  have s0:=gz.1.at (k:=0) (by have:=HL.out;omega)
  have s1:=gz.1.at (k:=L - 1) (by have:=HL.out;omega)
  obtain ⟨bz,oz,rfl,p0⟩:=Hsr.out.num (show 0 < sz.length by have:=HL.out;omega)
  obtain ⟨_,_,e',p1⟩:=Hsr.out.num (show L - 1 < sz.length by have:=HL.out;omega)
  injection e' with e';injection e' with e1 e2 _;subst e1;subst e2
  rw [s0.2.2,Nat.add_zero] at p0
  rw [s1.2.2] at p1
  obtain ⟨n0,hn0⟩:∃ n0,szN sz 0 = n0:=⟨_,rfl⟩
  obtain ⟨n1,hn1⟩:∃ n1,szN sz (L - 1) = n1:=⟨_,rfl⟩
  have f5:=F5.out;have f8:=F8.out;have f0:=F0.out
  rw [hn0,hn1] at f5 f8 f0
  rw [hn0] at p0 s0
  rw [hn1] at p1 s1
  have F5:=Lib.hid f5;have F8:=Lib.hid f8;have F0:=Lib.hid f0;have HGZ:=Lib.hid gz
  have hb5:bz < w.heap.size:=lt_of_cell p0
  have P0:=Lib.hid p0;have P1:=Lib.hid p1
  clear f5 f8 f0 gz hn0 hn1 p0 p1 s0 s1
  obtain ⟨bt,rfl⟩:∃ bt:Nat,ba = bt:=⟨ba.toNat,by omega⟩
  go_wp2_with fail
  refine (btw_any N bt 1048576 _).mono ?_
  rintro e w' ⟨rfl,rfl⟩
  obtain ⟨b1,hb1⟩:∃ b1,btB (N:Int) bt 1048576 = b1:=⟨_,rfl⟩
  have G0:=Lib.hid (show decide ((bt:Int) ≤ N ∧ (N:Int) ≤ 1048576) = b1 from hb1)
  rw [hb1]
  clear hb1
  rcases bool_ft b1 with rfl | rfl
  · have hn7:=of_decide_eq_false G0.out
    go_wp2_with fail
    go_ret
    exact ⟨ret_int (F7.out trivial (by rw [decide_eq_false_iff_not];omega)).symm,HB.out⟩
  have hn7:=of_decide_eq_true G0.out
  have G1:=Lib.hid (show decide ((bt:Int) ≤ N ∧ N ≤ 1048576) = true by rw [decide_eq_true_eq];omega)
  have p0:=(HB.out.cell (p:=⟨bz,oz,none⟩) hb5).trans P0.out
  have p1:=(HB.out.cell (p:=⟨bz,oz + (L - 1),none⟩) hb5).trans P1.out
  have hw1:IntKind.i64.wrap ((L:Int) - 1) = ((L - 1:Nat):Int):=by rw [IntWalk.i64_in _ (by omega)];omega
  have hLi:((L - 1:Nat):Int) < L:=by omega
  have hLn:L - 1 < L:=by omega
  have hL0:0 < L:=by omega
  have hL0i:(0:Int) < L:=by omega
  go_wp2_with fail
  have hSw:(fun w':World => w'.cell? ⟨w.heap.size,12,none⟩ = some (.slice D N cd) ∧ w'.cell? ⟨w.heap.size + 1,0,none⟩ = some (.slice (some ⟨bz,oz,none⟩) L c) ∧ w'.cell? ⟨bz,oz,none⟩ = some (.int .i64 n0) ∧ w'.cell? ⟨bz,oz + (L - 1),none⟩ = some (.int .i64 n1)) w1.drew:=⟨z12,y0,p0,p1⟩
  refine HA.g (fun w':World => w'.cell? ⟨w.heap.size,12,none⟩ = some (.slice D N cd) ∧ w'.cell? ⟨w.heap.size + 1,0,none⟩ = some (.slice (some ⟨bz,oz,none⟩) L c) ∧ w'.cell? ⟨bz,oz,none⟩ = some (.int .i64 n0) ∧ w'.cell? ⟨bz,oz + (L - 1),none⟩ = some (.int .i64 n1)) ?_
  refine HA.t ?_ [0,1,2,3,4,5,6,7,8,9,10,11,12,13] hSw ?_
  refine HA.o 14 (fun K hK => ?_)
  go_simp
  refine (Hdc.out n0 n1 _ HB.out.drew).mono ?_
  rintro e w3 ⟨hb3,d,hd⟩
  have hS3:=And.intro (cell_below hb3 hSw.1) (And.intro (cell_below hb3 hSw.2.1) (And.intro (cell_below hb3 hSw.2.2.1) (cell_below hb3 hSw.2.2.2)))
  have hb3':Below w1.heap.size w1 w3:=(Below.refl w1.heap.size w1).drew.trans hb3
  have hz3:=(hb3'.block _ lz).trans HZ.out
  have hy3:=(hb3'.block _ ly).trans HY.out
  have HB3:=Lib.hid (HB.out.trans (hb3'.mono HB.out.size))
  have HZ3:=Lib.hid hz3;have HY3:=Lib.hid hy3
  obtain ⟨fit,rfl,hfit⟩:∃ fit,e = .returned (.tuple #[.int .i64 d,.bool fit]) ∧ decide (∀ x ∈ data,fitEx n0 n1 x) = fit:=by
    rcases hd with ⟨ha,rfl⟩ | ⟨ha,rfl⟩
    · exact ⟨true,rfl,decide_eq_true ha⟩
    · exact ⟨false,rfl,decide_eq_false ha⟩
  have Hfit:=Lib.hid hfit
  clear hb3 hb3' hz3 hy3 hd hfit hSw
  dsimp only
  refine hK.out _ _ hS3 (fun hSw => ?_)
  clear hK K hS3
  refine HA.t ?_ [15,16,17,18,19] hSw ?_
  refine HA.d ?_
  clear hSw z0 z1 z2 z3 z4 z5 z6 z7 z8 z9 z10 z11 z12 z13 z14 zf y0 y1 y2 y3 y4 y5 y6 y7 y8 y9 y10 y11 yf lz ly hw1 p0 p1
  have hz3:=HZ3.out;have hy3:=HY3.out
  obtain ⟨⟨z0,z1,z2,z3,z4,z5,z6,z7,z8,z9,z10,z11,z12,z13,z14⟩,zf⟩:=bx15 hz3
  obtain ⟨⟨y0,y1,y2,y3,y4,y5,y6,y7,y8,y9,y10,y11⟩,yf⟩:=bx12 hy3
  have lz:=lt_of_block hz3;have ly:=lt_of_block hy3
  clear hz3 hy3
  rcases bool_ft fit with rfl | rfl
  · go_wp2_with fail
    go_quiet (fail)
    go_wp2_with fail
    go_ret
    exact ⟨ret_int (F5.out trivial G1.out (by rw [Hfit.out];rfl)).symm,below_drewN HB3.out _⟩
  have hcnt:=fun w' (q:Below w3.heap.size w3 w') => Hct.out HGZ.out.1 w' (HB3.out.trans (q.mono HB3.out.size))
  have Hcnt:=Lib.hid hcnt;clear hcnt
  by_cases h5:M ≠ CN
  · have hq:((M:Int) != (CN:Int)) = true:=by rw [bne_iff_ne];omega
    have H5:=Lib.hid h5;clear h5
    go_wp2_with fail
    go_quiet ((go_at_call 62;refine Calls.quiet_of (Hcnt.out _ ?_);(focus (repeat' (first | (with_reducible exact Below.refl _ _) | (with_reducible assumption) | (with_reducible refine Below.setCell ?_ ?_ _) | (with_reducible refine Below.alloc ?_ ?_ _) | (with_reducible refine below_drewN ?_ _) | (with_reducible refine Below.drew ?_) | (with_reducible exact Nat.le_refl _) | omega | (simp;done) | (simp;omega))))))
    go_wp2_with fail
    go_ret
    exact ⟨ret_int (F5.out trivial G1.out (by rw [Hfit.out,decide_eq_false H5.out];rfl)).symm,below_drewN HB3.out _⟩
  have hq:((M:Int) != (CN:Int)) = false:=by rw [bne_eq_false_iff_eq];omega
  have G2:=Lib.hid (show (decide (∀ x ∈ data,fitEx n0 n1 x) && decide (M = CN)) = true by rw [Hfit.out,decide_eq_true (show M = CN by omega)];rfl)
  clear h5
  go_wp2_with fail
  go_quiet ((go_at_call 62;refine Calls.quiet_of (Hcnt.out _ ?_);(focus (repeat' (first | (with_reducible exact Below.refl _ _) | (with_reducible assumption) | (with_reducible refine Below.setCell ?_ ?_ _) | (with_reducible refine Below.alloc ?_ ?_ _) | (with_reducible refine below_drewN ?_ _) | (with_reducible refine Below.drew ?_) | (with_reducible exact Nat.le_refl _) | omega | (simp;done) | (simp;omega))))))
  go_wp2_with fail
  obtain ⟨V,hV⟩:∃ V,V = w3.drewN nq:=⟨_,rfl⟩
  have hBV:Below w.heap.size w V:=by rw [hV];exact below_drewN HB3.out _
  have hzV:V.heap[w.heap.size]? = some (.cells #[.slice (some ⟨bz,oz,none⟩) L c,.int .i64 sh,.int .i64 ra,.int .i64 mo,.int .i64 wk,.int .i64 bt,.int .i64 mi,.int .i64 st,.int .i64 bu,.int .i64 ch,.int .i64 wi,.int .i64 ca,.slice D N cd,.slice T M ct,.slice R Q cr] 29 (0,0)):=by rw [hV];exact HZ3.out
  have hyV:V.heap[w.heap.size + 1]? = some (.cells #[.slice (some ⟨bz,oz,none⟩) L c,.int .i64 sh,.int .i64 ra,.int .i64 mo,.int .i64 wk,.int .i64 bt,.int .i64 mi,.int .i64 st,.int .i64 bu,.int .i64 ch,.int .i64 wi,.int .i64 ca] 24 (0,0)):=by rw [hV];exact HY3.out
  clear z0 z1 z2 z3 z4 z5 z6 z7 z8 z9 z10 z11 z12 z13 z14 zf y0 y1 y2 y3 y4 y5 y6 y7 y8 y9 y10 y11 yf
  rw [← hV]
  clear hV
  obtain ⟨⟨z0,z1,z2,z3,z4,z5,z6,z7,z8,z9,z10,z11,z12,z13,z14⟩,zf⟩:=bx15 hzV
  obtain ⟨⟨y0,y1,y2,y3,y4,y5,y6,y7,y8,y9,y10,y11⟩,yf⟩:=bx12 hyV
  have HBV:=Lib.hid hBV;clear hBV hzV hyV
  have hnd:=Hnd.out HG.out (by omega) V.drew HBV.out.drew
  have Hnd2:=Lib.hid hnd;clear hnd
  have hSw:(fun w':World => w'.cell? ⟨w.heap.size,14,none⟩ = some (.slice R Q cr) ∧ w'.cell? ⟨w.heap.size,12,none⟩ = some (.slice D N cd) ∧ w'.cell? ⟨w.heap.size + 1,0,none⟩ = some (.slice (some ⟨bz,oz,none⟩) L c) ∧ w'.cell? ⟨w.heap.size + 1,1,none⟩ = some (.int .i64 sh) ∧ w'.cell? ⟨w.heap.size + 1,2,none⟩ = some (.int .i64 ra) ∧ w'.cell? ⟨w.heap.size + 1,3,none⟩ = some (.int .i64 mo) ∧ w'.cell? ⟨w.heap.size + 1,4,none⟩ = some (.int .i64 wk) ∧ w'.cell? ⟨w.heap.size + 1,5,none⟩ = some (.int .i64 bt) ∧ w'.cell? ⟨w.heap.size + 1,6,none⟩ = some (.int .i64 mi) ∧ w'.cell? ⟨w.heap.size + 1,7,none⟩ = some (.int .i64 st) ∧ w'.cell? ⟨w.heap.size + 1,8,none⟩ = some (.int .i64 bu) ∧ w'.cell? ⟨w.heap.size + 1,9,none⟩ = some (.int .i64 ch) ∧ w'.cell? ⟨w.heap.size + 1,10,none⟩ = some (.int .i64 wi) ∧ w'.cell? ⟨w.heap.size + 1,11,none⟩ = some (.int .i64 ca)) V.drew:=⟨z14,z12,y0,y1,y2,y3,y4,y5,y6,y7,y8,y9,y10,y11⟩
  refine HA.g (fun w':World => w'.cell? ⟨w.heap.size,14,none⟩ = some (.slice R Q cr) ∧ w'.cell? ⟨w.heap.size,12,none⟩ = some (.slice D N cd) ∧ w'.cell? ⟨w.heap.size + 1,0,none⟩ = some (.slice (some ⟨bz,oz,none⟩) L c) ∧ w'.cell? ⟨w.heap.size + 1,1,none⟩ = some (.int .i64 sh) ∧ w'.cell? ⟨w.heap.size + 1,2,none⟩ = some (.int .i64 ra) ∧ w'.cell? ⟨w.heap.size + 1,3,none⟩ = some (.int .i64 mo) ∧ w'.cell? ⟨w.heap.size + 1,4,none⟩ = some (.int .i64 wk) ∧ w'.cell? ⟨w.heap.size + 1,5,none⟩ = some (.int .i64 bt) ∧ w'.cell? ⟨w.heap.size + 1,6,none⟩ = some (.int .i64 mi) ∧ w'.cell? ⟨w.heap.size + 1,7,none⟩ = some (.int .i64 st) ∧ w'.cell? ⟨w.heap.size + 1,8,none⟩ = some (.int .i64 bu) ∧ w'.cell? ⟨w.heap.size + 1,9,none⟩ = some (.int .i64 ch) ∧ w'.cell? ⟨w.heap.size + 1,10,none⟩ = some (.int .i64 wi) ∧ w'.cell? ⟨w.heap.size + 1,11,none⟩ = some (.int .i64 ca)) ?_
  refine HA.t ?_ [0,1,2,3,4,5,6] hSw ?_
  refine HA.o 7 (fun K hK => ?_)
  go_simp
  refine Hnd2.out.mono ?_
  rintro e w4 ⟨rfl,hb4⟩
  have HB4:=Lib.hid (HBV.out.trans ((Below.refl V.heap.size V).drew.trans hb4 |>.mono HBV.out.size))
  have hS4:=And.intro (cell_below hb4 hSw.1) (And.intro (cell_below hb4 hSw.2.1) (And.intro (cell_below hb4 hSw.2.2.1) (And.intro (cell_below hb4 hSw.2.2.2.1) (And.intro (cell_below hb4 hSw.2.2.2.2.1) (And.intro (cell_below hb4 hSw.2.2.2.2.2.1) (And.intro (cell_below hb4 hSw.2.2.2.2.2.2.1) (And.intro (cell_below hb4 hSw.2.2.2.2.2.2.2.1) (And.intro (cell_below hb4 hSw.2.2.2.2.2.2.2.2.1) (And.intro (cell_below hb4 hSw.2.2.2.2.2.2.2.2.2.1) (And.intro (cell_below hb4 hSw.2.2.2.2.2.2.2.2.2.2.1) (And.intro (cell_below hb4 hSw.2.2.2.2.2.2.2.2.2.2.2.1) (And.intro (cell_below hb4 hSw.2.2.2.2.2.2.2.2.2.2.2.2.1) (cell_below hb4 hSw.2.2.2.2.2.2.2.2.2.2.2.2.2)))))))))))))
  clear hb4 hSw
  dsimp only
  refine hK.out _ _ hS4 (fun hSw => ?_)
  clear hK K hS4
  refine HA.t ?_ [8] hSw ?_
  refine HA.d ?_
  clear hSw z0 z1 z2 z3 z4 z5 z6 z7 z8 z9 z10 z11 z12 z13 z14 zf y0 y1 y2 y3 y4 y5 y6 y7 y8 y9 y10 y11 yf
  by_cases h8:ND ≤ Q
  · have hq9:¬ ((Q:Int) < ND):=by omega
    have hqd:decide ((Q:Int) < ND) = false:=by simp;omega
    have hqe:decide (Q < ND) = false:=by simp;omega
    have G8:=Lib.hid (decide_eq_true h8)
    go_wp2_with fail
    go_ret
    exact ⟨ret_int (F0.out trivial G1.out G2.out G8.out).symm,HB4.out⟩
  · have hq9:(Q:Int) < ND:=by omega
    have hqd:decide ((Q:Int) < ND) = true:=by simp;omega
    have hqe:decide (Q < ND) = true:=by simp;omega
    have G8:=Lib.hid (decide_eq_false h8)
    go_wp2_with fail
    go_ret
    exact ⟨ret_int (F8.out trivial G1.out G2.out G8.out).symm,HB4.out⟩
end Go.Proofs.YtaccfnffmbndhaaGreat
namespace Go.Proofs.YtaccfnffmbndhaaGreat
open Go.RowKit
structure InpRaw (w:World) (A:Option Addr) (c:Nat) (D:Option Addr) (T:Option Addr) (ct:Nat) (R:Option Addr) (i:Inp):Prop where
  c:CfgRd w A c i.cfg
  d:SlRd rEx 2 w D i.data
  dl:i.data.length ≤ 17592186043904
  t:NumsRd w T i.start ct
  r:Rd w R (nums .u64 i.draws)
  rl:i.draws.length ≤ 17592186043904
  ru:U64 i.draws
  ra:-9223372036854775808 ≤ i.cfg.rate ∧ i.cfg.rate ≤ 9223372036854775807
  rm:-9223372036854775808 ≤ i.cfg.mom ∧ i.cfg.mom ≤ 9223372036854775807
theorem InpRaw.below {w w':World} {A:Option Addr} {c:Nat} {D T R:Option Addr} {ct:Nat} {i:Inp} (h:InpRaw w A c D T ct R i) (hb:Below w.heap.size w w'):InpRaw w' A c D T ct R i:=
  ⟨h.c.below hb,h.d.below stays_ex hb,h.dl,h.t.below hb,h.r.below hb,h.rl,h.ru,h.ra,h.rm⟩
def SmallI (i:Inp):Prop:=i.data.length ≤ 60 ∧ i.start.length ≤ 600 ∧ i.draws.length ≤ 2000 ∧ i.cfg.sizes.length ≤ 40
theorem InpRaw.rd {w:World} {A:Option Addr} {c:Nat} {D T R:Option Addr} {ct:Nat} {i:Inp} (h:InpRaw w A c D T ct R i) (hs:SmallI i):InpRd w A c D T ct R i:=
  ⟨h.c,h.d,by have:=hs.1;omega,h.t,by have:=hs.2.1;omega,h.r,by have:=hs.2.2.1;omega,h.ru,h.ra,h.rm⟩
def FewI (q:Prop) (w:World) (e:Ending) (w':World):Prop:=(∃ b:Bool,e = .returned (.bool b) ∧ (b = true → q)) ∧ Below w.heap.size w w'
theorem fewI_any {q:Prop} {w w':World} (b:Bool) (hq:q) (hb:Below w.heap.size w w'):FewI q w (.returned (.bool b)) w':=⟨⟨b,rfl,fun _ => hq⟩,hb⟩
theorem fewI_no {q:Prop} {w w':World} (hb:Below w.heap.size w w'):FewI q w (.returned (.bool false)) w':=⟨⟨false,rfl,fun h => by cases h⟩,hb⟩
theorem fewI_dec {p:Prop} [Decidable p] {q:Prop} {w w':World} (hq:p → q) (hb:Below w.heap.size w w'):FewI q w (.returned (.bool (decide p))) w':=⟨⟨_,rfl,fun h => hq (of_decide_eq_true h)⟩,hb⟩
set_option maxRecDepth 100000 in
set_option maxHeartbeats 4000000 in
theorem ifew_any (A:Option Addr) (c:Nat) (D:Option Addr) (cd:Nat) (T:Option Addr) (ct:Nat) (R:Option Addr) (cr:Nat) (i:Inp) (w:World) (h:InpRaw w A c D T ct R i) :
    Calls Tryz.prog 86 #[.agg (inpVals A c D cd T ct R cr i)] w (FewI (SmallI i) w):=by
  have hf:=fun w' (q:Below w.heap.size w w') => rfew_any cd D i.data w' (h.d.below stays_ex q) h.dl
  have hq:i.data.length ≤ 60 → i.start.length ≤ 600 → i.draws.length ≤ 2000 → i.cfg.sizes.length ≤ 40 → SmallI i:=fun a b c d => ⟨a,b,c,d⟩
  generalize SmallI i = Q at hq ⊢
  clear h
  unfold FewB at hf
  obtain ⟨⟨sz,sh,ra,mo,wk,ba,mi,st,bu,ch,wi,ca⟩,data,start,draws⟩:=i
  dsimp only [inpVals,cfgVals] at *
  obtain ⟨L,hL⟩:∃ L,sz.length = L:=⟨_,rfl⟩
  obtain ⟨N,hN⟩:∃ N,data.length = N:=⟨_,rfl⟩
  obtain ⟨M,hM⟩:∃ M,start.length = M:=⟨_,rfl⟩
  obtain ⟨P,hP⟩:∃ P,draws.length = P:=⟨_,rfl⟩
  rw [hL,hN,hM,hP] at hq
  rw [hN] at hf
  rw [hL,hN,hM,hP]
  have Hf:=Lib.hid hf;have Hq:=Lib.hid hq
  clear hf hq hL hN hM hP
  have nol:¬ (L ≤ 40) → ¬ ((L:Int) ≤ 40):=by omega
  have yol:L ≤ 40 → (L:Int) ≤ 40:=by omega
  have nom:¬ (M ≤ 600) → ¬ ((M:Int) ≤ 600):=by omega
  have yom:M ≤ 600 → (M:Int) ≤ 600:=by omega
  have nop:¬ (P ≤ 2000) → ¬ ((P:Int) ≤ 2000):=by omega
  have yop:P ≤ 2000 → (P:Int) ≤ 2000:=by omega
  have NL:=Lib.hid nol;have YL:=Lib.hid yol;have NM:=Lib.hid nom;have YM:=Lib.hid yom;have NP:=Lib.hid nop;have YP:=Lib.hid yop
  clear nol yol nom yom nop yop
  by_cases h1:¬ (L ≤ 40)
  · have k1:=NL.out h1
    go_enter Tryz.func86,Tryz.ntmps86
    go_wp2_with fail
    all_goals
      go_ret
      exact fewI_no ((Below.refl _ w).alloc (Nat.le_refl _) _)
  have h1':L ≤ 40:=by omega
  have k1:=YL.out h1'
  have G1:=Lib.hid h1'
  clear h1 h1'
  go_enter Tryz.func86,Tryz.ntmps86
  go_wp2_with fail
  have hz:=heap_alloc_new w (.cells #[.slice A L c,.int .i64 sh,.int .i64 ra,.int .i64 mo,.int .i64 wk,.int .i64 ba,.int .i64 mi,.int .i64 st,.int .i64 bu,.int .i64 ch,.int .i64 wi,.int .i64 ca,.slice D N cd,.slice T M ct,.slice R P cr] 29)
  have hB:=(Below.refl _ w).alloc (Nat.le_refl _) (.cells #[.slice A L c,.int .i64 sh,.int .i64 ra,.int .i64 mo,.int .i64 wk,.int .i64 ba,.int .i64 mi,.int .i64 st,.int .i64 bu,.int .i64 ch,.int .i64 wi,.int .i64 ca,.slice D N cd,.slice T M ct,.slice R P cr] 29)
  refine (Hf.out _ hB).mono ?_
  rintro e w' ⟨⟨b,rfl,hb⟩,d,rfl⟩
  have hz1:((w.alloc (.cells #[.slice A L c,.int .i64 sh,.int .i64 ra,.int .i64 mo,.int .i64 wk,.int .i64 ba,.int .i64 mi,.int .i64 st,.int .i64 bu,.int .i64 ch,.int .i64 wi,.int .i64 ca,.slice D N cd,.slice T M ct,.slice R P cr] 29)).drewN d).heap[w.heap.size]? = some (.cells #[.slice A L c,.int .i64 sh,.int .i64 ra,.int .i64 mo,.int .i64 wk,.int .i64 ba,.int .i64 mi,.int .i64 st,.int .i64 bu,.int .i64 ch,.int .i64 wi,.int .i64 ca,.slice D N cd,.slice T M ct,.slice R P cr] 29 (0,0)):=hz
  have hB1:=below_drewN hB d
  have Hb:=Lib.hid hb
  clear hz hB hb
  generalize (w.alloc (.cells #[.slice A L c,.int .i64 sh,.int .i64 ra,.int .i64 mo,.int .i64 wk,.int .i64 ba,.int .i64 mi,.int .i64 st,.int .i64 bu,.int .i64 ch,.int .i64 wi,.int .i64 ca,.slice D N cd,.slice T M ct,.slice R P cr] 29)).drewN d = W1 at hz1 hB1 ⊢
  have HB:=Lib.hid hB1
  obtain ⟨⟨z0,z1,z2,z3,z4,z5,z6,z7,z8,z9,z10,z11,z12,z13,z14⟩,zf⟩:=bx15 hz1
  clear hz1 hB1
  rcases bool_ft b with rfl | rfl
  · go_wp2_with fail
    all_goals
      go_ret
      exact fewI_no HB.out
  by_cases h2:¬ (M ≤ 600)
  · have k2:=NM.out h2
    go_wp2_with fail
    all_goals
      go_ret
      exact fewI_no HB.out
  have h2':M ≤ 600:=by omega
  have k2:=YM.out h2'
  have G2:=Lib.hid h2'
  clear h2 h2'
  clear NL YL NM YM YP
  go_wp2_with fail
  all_goals
    go_ret
    exact fewI_dec (fun h => Hq.out (Hb.out trivial) G2.out (by omega) G1.out) HB.out
end Go.Proofs.YtaccfnffmbndhaaGreat
namespace Go.Proofs.YtaccfnffmbndhaaGreat
open Go.RowKit
set_option maxRecDepth 100000 in
set_option maxHeartbeats 4000000 in
theorem fewrun_any (A:Option Addr) (c:Nat) (D:Option Addr) (cd:Nat) (T:Option Addr) (ct:Nat) (R:Option Addr) (cr:Nat) (i:Inp) (w:World) (h:InpRaw w A c D T ct R i) :
    Calls Tryz.prog 40 #[.agg (inpVals A c D cd T ct R cr i)] w (FewI (SmallI i) w):=by
  have hif:=fun w' (q:Below w.heap.size w w') => ifew_any A c D cd T ct R cr i w' (h.below q)
  have hck:=fun w' (q:Below w.heap.size w w') => rcfg_any A c i.cfg w' (h.c.below q)
  have hct:=fun (hR:RightSz i.cfg.sizes) w' (q:Below w.heap.size w w') => rcount_any A i.cfg.sizes i.cfg.sizes.length c w' (h.c.hr.below q) hR (by have:=hR.1;omega) (Nat.le_refl _)
  have hgd:=@cfg_good i.cfg
  generalize SmallI i = QQ at hif ⊢
  clear h
  have hif:∀ w',Below w.heap.size w w' → Calls Tryz.prog 86 #[.agg (inpVals A c D cd T ct R cr i)] w' (fun e w'' => ∃ b:Bool,e = .returned (.bool b) ∧ (b = true → QQ) ∧ Below w'.heap.size w' w''):=fun w' q => (hif w' q).mono fun e w'' ⟨⟨b,h1,h2⟩,h3⟩ => ⟨b,h1,h2,h3⟩
  obtain ⟨⟨sz,sh,ra,mo,wk,ba,mi,st,bu,ch,wi,ca⟩,data,start,draws⟩:=i
  dsimp only [inpVals,cfgVals] at *
  obtain ⟨cc,hcc⟩:∃ cc,cfgCode ⟨sz,sh,ra,mo,wk,ba,mi,st,bu,ch,wi,ca⟩ = cc:=⟨_,rfl⟩
  rw [hcc] at hck hgd
  have hRz:cc = 0 → RightSz sz:=fun e => (hgd.1 e).z.1
  obtain ⟨L,hL⟩:∃ L,sz.length = L:=⟨_,rfl⟩
  obtain ⟨N,hN⟩:∃ N,data.length = N:=⟨_,rfl⟩
  obtain ⟨M,hM⟩:∃ M,start.length = M:=⟨_,rfl⟩
  obtain ⟨Q,hQ⟩:∃ Q,draws.length = Q:=⟨_,rfl⟩
  rw [hL] at hck hct hif ⊢
  rw [hN,hM,hQ] at hif ⊢
  obtain ⟨CN,hCN⟩:∃ CN,cntN sz (L - 1) = CN:=⟨_,rfl⟩
  rw [hCN] at hct
  have Hck:=Lib.hid hck;have Hct:=Lib.hid hct;have Hif:=Lib.hid hif;have HRz:=Lib.hid hRz
  clear hck hct hif hgd hL hN hM hQ hcc hCN hRz
  go_enter Tryz.func40,Tryz.ntmps40
  go_wp2_with fail
  have hz:=(Below.heap_alloc (w.alloc (.cells #[.slice A L c,.int .i64 sh,.int .i64 ra,.int .i64 mo,.int .i64 wk,.int .i64 ba,.int .i64 mi,.int .i64 st,.int .i64 bu,.int .i64 ch,.int .i64 wi,.int .i64 ca,.slice D N cd,.slice T M ct,.slice R Q cr] 29)) (.cells #[.slice A L c,.int .i64 sh,.int .i64 ra,.int .i64 mo,.int .i64 wk,.int .i64 ba,.int .i64 mi,.int .i64 st,.int .i64 bu,.int .i64 ch,.int .i64 wi,.int .i64 ca] 24) w.heap.size (by simp)).trans (heap_alloc_new w _)
  have hy:=heap_alloc_new (w.alloc (.cells #[.slice A L c,.int .i64 sh,.int .i64 ra,.int .i64 mo,.int .i64 wk,.int .i64 ba,.int .i64 mi,.int .i64 st,.int .i64 bu,.int .i64 ch,.int .i64 wi,.int .i64 ca,.slice D N cd,.slice T M ct,.slice R Q cr] 29)) (.cells #[.slice A L c,.int .i64 sh,.int .i64 ra,.int .i64 mo,.int .i64 wk,.int .i64 ba,.int .i64 mi,.int .i64 st,.int .i64 bu,.int .i64 ch,.int .i64 wi,.int .i64 ca] 24)
  rw [show (w.alloc (.cells #[.slice A L c,.int .i64 sh,.int .i64 ra,.int .i64 mo,.int .i64 wk,.int .i64 ba,.int .i64 mi,.int .i64 st,.int .i64 bu,.int .i64 ch,.int .i64 wi,.int .i64 ca,.slice D N cd,.slice T M ct,.slice R Q cr] 29)).heap.size = w.heap.size + 1 by simp] at hy
  have hB:Below w.heap.size w ((w.alloc (.cells #[.slice A L c,.int .i64 sh,.int .i64 ra,.int .i64 mo,.int .i64 wk,.int .i64 ba,.int .i64 mi,.int .i64 st,.int .i64 bu,.int .i64 ch,.int .i64 wi,.int .i64 ca,.slice D N cd,.slice T M ct,.slice R Q cr] 29)).alloc (.cells #[.slice A L c,.int .i64 sh,.int .i64 ra,.int .i64 mo,.int .i64 wk,.int .i64 ba,.int .i64 mi,.int .i64 st,.int .i64 bu,.int .i64 ch,.int .i64 wi,.int .i64 ca] 24)):=((Below.refl _ w).alloc (Nat.le_refl _) _).alloc (by simp) _
  obtain ⟨W0,hW0⟩:∃ W0,W0 = (w.alloc (.cells #[.slice A L c,.int .i64 sh,.int .i64 ra,.int .i64 mo,.int .i64 wk,.int .i64 ba,.int .i64 mi,.int .i64 st,.int .i64 bu,.int .i64 ch,.int .i64 wi,.int .i64 ca,.slice D N cd,.slice T M ct,.slice R Q cr] 29)).alloc (.cells #[.slice A L c,.int .i64 sh,.int .i64 ra,.int .i64 mo,.int .i64 wk,.int .i64 ba,.int .i64 mi,.int .i64 st,.int .i64 bu,.int .i64 ch,.int .i64 wi,.int .i64 ca] 24):=⟨_,rfl⟩
  rw [← hW0] at hz hy hB ⊢
  clear hW0
  refine (Hif.out _ hB).mono ?_
  rintro e w1 ⟨b,rfl,hb,hb1⟩
  have hz1:=(hb1.block _ (lt_of_block hz)).trans hz
  have hy1:=(hb1.block _ (lt_of_block hy)).trans hy
  have HB:=Lib.hid (hB.trans (hb1.mono hB.size));have Hb:=Lib.hid hb
  obtain ⟨⟨z0,z1,z2,z3,z4,z5,z6,z7,z8,z9,z10,z11,z12,z13,z14⟩,zf⟩:=bx15 hz1
  obtain ⟨⟨y0,y1,y2,y3,y4,y5,y6,y7,y8,y9,y10,y11⟩,yf⟩:=bx12 hy1
  have HZ:=Lib.hid hz1;have HY:=Lib.hid hy1
  clear hz hy hB hb1 hb
  rcases bool_ft b with rfl | rfl
  · clear hz1 hy1
    go_wp2_with fail
    refine (Hif.out _ HB.out).mono ?_
    rintro e w2 ⟨b',rfl,hb',hb2⟩
    have HB2:=Lib.hid (HB.out.trans (hb2.mono HB.out.size));have Hb':=Lib.hid hb'
    clear hb2 hb'
    go_wp2_with fail
    go_ret
    exact ⟨⟨b',rfl,Hb'.out⟩,HB2.out⟩
  have HQ:=Lib.hid (Hb.out rfl)
  go_wp2_with fail
  refine (Hck.out _ HB.out).mono ?_
  rintro e w3 ⟨rfl,hb3⟩
  have hz3:=(hb3.block _ (lt_of_block hz1)).trans hz1
  have hy3:=(hb3.block _ (lt_of_block hy1)).trans hy1
  have HB3:=Lib.hid (HB.out.trans (hb3.mono HB.out.size))
  clear z0 z1 z2 z3 z4 z5 z6 z7 z8 z9 z10 z11 z12 z13 z14 zf y0 y1 y2 y3 y4 y5 y6 y7 y8 y9 y10 y11 yf hz1 hy1 hb3 HZ HY
  obtain ⟨⟨z0,z1,z2,z3,z4,z5,z6,z7,z8,z9,z10,z11,z12,z13,z14⟩,zf⟩:=bx15 hz3
  obtain ⟨⟨y0,y1,y2,y3,y4,y5,y6,y7,y8,y9,y10,y11⟩,yf⟩:=bx12 hy3
  clear hz3 hy3
  by_cases h3:cc ≠ 0
  · have hq:(cc != 0) = true:=by rw [bne_iff_ne];exact h3
    go_wp2_with fail
    refine (Hif.out _ HB3.out).mono ?_
    rintro e w2 ⟨b',rfl,hb',hb2⟩
    have HB2:=Lib.hid (HB3.out.trans (hb2.mono HB3.out.size));have Hb':=Lib.hid hb'
    clear hb2 hb'
    go_wp2_with fail
    go_ret
    exact ⟨⟨b',rfl,Hb'.out⟩,HB2.out⟩
  obtain rfl:cc = 0:=by omega
  clear h3
  have HR:=Lib.hid (HRz.out rfl)
  by_cases h4:12 < st
  · have hq:¬ (st ≤ 12):=by omega
    go_wp2_with fail
    all_goals
      go_ret
      exact fewI_any _ HQ.out HB3.out
  have hq:st ≤ 12:=by omega
  go_wp2_with fail
  refine (Hct.out HR.out _ HB3.out).mono ?_
  rintro e w4 ⟨rfl,d,rfl⟩
  have HB4:=Lib.hid (below_drewN HB3.out d)
  obtain ⟨W4,hW4⟩:∃ W4,W4 = w3.drewN d:=⟨_,rfl⟩
  have y5':W4.cell? ⟨w.heap.size + 1,5,none⟩ = some (.int .i64 ba):=by rw [hW4];exact y5
  rw [← hW4] at HB4 ⊢
  clear hW4 z0 z1 z2 z3 z4 z5 z6 z7 z8 z9 z10 z11 z12 z13 z14 zf y0 y1 y2 y3 y4 y5 y6 y7 y8 y9 y10 y11 yf
  by_cases h5:CN ≤ 150
  · have k5:(CN:Int) ≤ 150:=by omega
    go_wp2_with fail
    all_goals
      go_ret
      exact fewI_any _ HQ.out HB4.out
  · have k5:¬ ((CN:Int) ≤ 150):=by omega
    go_wp2_with fail
    all_goals
      go_ret
      exact fewI_any _ HQ.out HB4.out
end Go.Proofs.YtaccfnffmbndhaaGreat
namespace Go.Proofs.YtaccfnffmbndhaaGreat
open Go.RowKit
theorem et_r4s:ElemT Tryz.prog 164 132 (.agg #[.int .i64 0,.int .i64 0]) 2 16:=⟨Tryz.underlying164,info_parts (by kernel_rfl),rfl,by decide⟩
def blkK (n s k:Nat):List Rg:=(List.range k).map fun j => (j * s,min (j * s + s) n)
theorem blkK_succ (n s k:Nat):blkK n s (k + 1) = blkK n s k ++ [(k * s,min (k * s + s) n)]:=by simp [blkK,List.range_succ]
theorem blkK_len (n s k:Nat):(blkK n s k).length = k:=by simp [blkK]
theorem blkR_K (n s:Nat):blkR n s = blkK n s (cntQ n s):=rfl
theorem cntQ_ge {n s k:Nat} (hs:1 ≤ s) (h:cntQ n s ≤ k):n ≤ k * s:=by
  rcases Nat.eq_zero_or_pos n with rfl | hn
  · omega
  · rw [cntQ_eq n s hs] at h
    have h1:=Nat.div_add_mod (n + s - 1) s
    have h2:=Nat.mod_lt (n + s - 1) (show 0 < s by omega)
    have h3:s * ((n + s - 1) / s) ≤ s * k:=Nat.mul_le_mul_left s h
    have h4:s * k = k * s:=Nat.mul_comm _ _
    omega
set_option maxRecDepth 100000 in
set_option maxHeartbeats 1000000 in
theorem rblk_any (n s:Nat) (w:World) (hn:n ≤ 1048576) (hs:1 ≤ s) (hs2:s ≤ 1048576) :
    Calls Tryz.prog 124 #[.int .i64 n,.int .i64 s] w fun e w' => ∃ v,e = .returned v ∧ w'.ownsRow w.heap.size 132 2 v (blkR n s).length (rgVals (blkR n s)) ∧ Below w.heap.size w w':=by
  have hs1:¬ ((s:Int) < 1):=by omega
  by_cases h0:n = 0
  · subst h0
    go_enter Tryz.func124,Tryz.ntmps124
    go_wp2
    go_ret
    exact ⟨_,rfl,World.ownsRow_nil _ _ _ _,Below.refl _ _⟩
  · have hn1:¬ ((n:Int) < 1):=by omega
    have hc:=cntQ_le n s
    have hl:=fun k (h:k < cntQ n s) => cntQ_lt h
    have hg:=fun k (h:cntQ n s ≤ k) => cntQ_ge hs h
    rw [blkR_K,blkK_len]
    obtain ⟨m,hm⟩:∃ m,cntQ n s = m:=⟨_,rfl⟩
    rw [hm] at hc hl hg ⊢
    have Hl:=Lib.hid hl;have Hg:=Lib.hid hg
    clear hm hl hg
    go_enter Tryz.func124,Tryz.ntmps124
    go_wp2_with fail
    go_loopw [5,6] (fun v x wr => ∃ k:Nat,k ≤ m ∧ x = .int .i64 (min (k * s) n:Nat) ∧ wr.ownsRow w.heap.size 132 2 v k (rgVals (blkK n s k)) ∧ Below w.heap.size w wr) (fun _ x _ => n - (intOf x).toNat)
    case atStart => exact ⟨0,Nat.zero_le _,by simp,World.ownsRow_nil _ _ _ _,Below.refl _ _⟩
    case round =>
      obtain ⟨k,hk,rfl,ho,hb⟩:=hrel
      by_cases hlt:k < m
      · have hlo:=Hl.out k hlt
        have hsu:=blkK_succ n s k
        have hnx:(k + 1) * s = k * s + s:=Nat.succ_mul k s
        obtain ⟨y,hy⟩:∃ y,k * s = y:=⟨_,rfl⟩
        rw [hy] at hlo hsu hnx ⊢
        rw [show min y n = y by omega]
        have hyn:(y:Int) < n:=by omega
        obtain ⟨A,c,rfl,_⟩:=own_form ho
        obtain ⟨z,hz⟩:∃ z,min (y + s) n = z:=⟨_,rfl⟩
        rw [hz] at hsu
        have Hsu:=Lib.hid hsu;have Hnx:=Lib.hid hnx;have Ho:=Lib.hid ho;have Hb:=Lib.hid hb;have Hz:=Lib.hid hz
        have hsz:=hb.size
        clear hsu hnx ho hb hy
        by_cases hsz2:(s:Int) < (n:Int) - y
        · obtain rfl:z = y + s:=by omega
          clear hz
          go_wp2_with (at_builtin;refine wpList_push et_r4s _ rfl (.tmp 26) (.tmp 30) rfl w.heap.size (.slice A k c) k _ rfl Ho.out [.int .i64 (y:Int),.int .i64 ((y:Int) + s)] rfl rfl (nums_cell .i64 [_,_]) (by omega) (by unfold maxLen;omega) hsz ?_)
          intro g6 c6 w6 ho6 hb6 hg6
          have HO6:=Lib.hid ho6;have HB6:=Lib.hid (Hb.out.trans hb6)
          clear ho6 hb6 hg6
          go_wp2_with fail
          go_roundw
          case rel => exact ⟨k + 1,by omega,by rw [Hnx.out,Hz.out];push_cast;rfl,by rw [Hsu.out,rgVals_app];exact HO6.out,HB6.out⟩
          case measure => simp [intOf];omega
        · obtain rfl:z = n:=by omega
          clear hz
          go_wp2_with (at_builtin;refine wpList_push et_r4s _ rfl (.tmp 26) (.tmp 30) rfl w.heap.size (.slice A k c) k _ rfl Ho.out [.int .i64 (y:Int),.int .i64 (z:Nat)] rfl rfl (nums_cell .i64 [_,_]) (by omega) (by unfold maxLen;omega) hsz ?_)
          intro g6 c6 w6 ho6 hb6 hg6
          have HO6:=Lib.hid ho6;have HB6:=Lib.hid (Hb.out.trans hb6)
          clear ho6 hb6 hg6
          go_wp2_with fail
          go_roundw
          case rel => exact ⟨k + 1,by omega,by rw [Hnx.out,Hz.out],by rw [Hsu.out,rgVals_app];exact HO6.out,HB6.out⟩
          case measure => simp [intOf];omega
      · have hge:=Hg.out k (by omega)
        obtain rfl:k = m:=by omega
        rw [show min (k * s) n = n by omega]
        have hnn:¬ ((n:Int) < n):=by omega
        have Ho:=Lib.hid ho;have Hb:=Lib.hid hb
        clear ho hb
        go_wp2_with fail
        go_ret
        exact ⟨_,rfl,Ho.out,Hb.out⟩
theorem rgroups_any (n s:Nat) (w:World) (hn:n ≤ 1048576) (hs:1 ≤ s) (hs2:s ≤ 1048576) :
    Calls Tryz.prog 77 #[.int .i64 n,.int .i64 s] w fun e w' => ∃ v,e = .returned v ∧ w'.ownsRow w.heap.size 132 2 v (blkR n s).length (rgVals (blkR n s)) ∧ Below w.heap.size w w':=by
  have hb:=rblk_any n s w hn hs hs2
  have Hb:=Lib.hid hb
  clear hb
  go_enter Tryz.func77,Tryz.ntmps77
  go_wp2_with fail
  refine Hb.out.mono ?_
  rintro e w1 ⟨v,rfl,o1,k1⟩
  have O1:=Lib.hid o1;have K1:=Lib.hid k1
  clear o1 k1
  go_wp2_with fail
  go_ret
  exact ⟨_,rfl,O1.out,K1.out⟩
end Go.Proofs.YtaccfnffmbndhaaGreat
