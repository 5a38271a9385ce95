/- The walk of conf.Check. The walks of conf.Epochs, Need. The walk of conf.Input. fixp.Sum: a range over an iterator over a slice. 'make' as an equation of the walk. No condition. -/
import Derived.Test.YtaccfnffmbndhaaGreatB11
import Derived.Test.YtaccfnffmbndhaaGreatB05
import Derived.Test.YtaccfnffmbndhaaGreatB17
import Derived.Test.YtaccfnffmbndhaaGreatB20
import Derived.Test.YtaccfnffmbndhaaGreatB04
import Derived.Deep.RegionHeld3
import Derived.BigQuiet
import Derived.Deep.QuietTactic
import Derived.Test.YtaccfnffmbndhaaGreatB14
import Derived.Test.YtaccfnffmbndhaaGreatB03
import Derived.Test.YtaccfnffmbndhaaGreatB01
set_option linter.unusedSimpArgs false
set_option linter.unusedVariables false
namespace Go.Proofs.YtaccfnffmbndhaaGreat
open Go.RowKit
theorem size_any (n:Int) (w:World):Calls Tryz.prog 132 #[.int .i64 n] w fun e w' => e = .returned (.bool (okB n)) ∧ w = w':=by
  by_cases h1:n < 1
  · go_enter Tryz.func132,Tryz.ntmps132
    go_wp2
    go_ret
    exact ⟨ret_bool (by unfold okB;simp;omega),rfl⟩
  · by_cases h2:1048576 < n
    · go_enter Tryz.func132,Tryz.ntmps132
      go_wp2
      go_ret
      exact ⟨ret_bool (by unfold okB;simp;omega),rfl⟩
    · go_enter Tryz.func132,Tryz.ntmps132
      go_wp2
      go_ret
      exact ⟨ret_bool (by unfold okB;simp;omega),rfl⟩
def SnewC (sz:List Int) (w:World) (e:Ending) (w':World):Prop:=Below w.heap.size w w' ∧ ((GoodSz sz ∧ ∃ b,e = .returned (.tuple #[.pointer (some ⟨b,0,none⟩),.int .i64 0]) ∧ ShapeAt 186 w' b sz ∧ w.heap.size ≤ b) ∨ (¬ GoodSz sz ∧ e = .returned (.tuple #[.pointer none,.int .i64 (szCode sz)])))
def SnewCT (sz:List Int) (w:World) (e:Ending) (w':World):Prop:=Below w.heap.size w w' ∧ ((GoodSz sz ∧ ∃ b,e = .returned (.tuple #[.pointer (some ⟨b,0,none⟩),.int .i64 0]) ∧ ShapeAt 186 (topW w.heap.size w') b sz ∧ w.heap.size ≤ b) ∨ (¬ GoodSz sz ∧ e = .returned (.tuple #[.pointer none,.int .i64 (szCode sz)])))
theorem snew_codeT (A:Option Addr) (sz:List Int) (c:Nat) (w:World) (hA:Rd w A (nums .i64 sz)) (hc:sz.length ≤ c) (hm:c ≤ 9223372036854775807) :
    Calls Tryz.prog 43 #[.slice A sz.length c] w (SnewCT sz w):=by
  by_cases h1:2 ≤ sz.length ∧ sz.length ≤ 16
  · by_cases h2:∀ k,k < sz.length → 1 ≤ nth sz k ∧ nth sz k ≤ 1048576
    · refine (snew_rightT A sz c w hA hc hm ⟨h1,h2⟩).mono fun e w' ⟨hb,h⟩ => ⟨hb,?_⟩
      rcases h with ⟨h,he⟩ | ⟨h,b,he,hs,hz⟩
      · have hg:¬ GoodSz sz:=fun hg => by have:=hg.2;omega
        exact .inr ⟨hg,by rw [szCode_long hg ⟨h1,h2⟩];exact he⟩
      · exact .inl ⟨⟨⟨h1,h2⟩,h⟩,b,he,hs,hz⟩
    · refine (snew_wrong A sz c w hA hc hm h1 h2).mono fun e w' ⟨he,hw⟩ => ?_
      subst hw
      exact ⟨Below.refl _ _,.inr ⟨fun hg => h2 hg.1.2,by rw [szCode_wrong (fun hr => h2 hr.2)];exact he⟩⟩
  · refine (snew_short A sz c w hc hm h1).mono fun e w' ⟨he,hw⟩ => ?_
    subst hw
    exact ⟨Below.refl _ _,.inr ⟨fun hg => h1 hg.1.1,by rw [szCode_wrong (fun hr => h1 hr.1)];exact he⟩⟩
theorem snew_code (A:Option Addr) (sz:List Int) (c:Nat) (w:World) (hA:Rd w A (nums .i64 sz)) (hc:sz.length ≤ c) (hm:c ≤ 9223372036854775807) :
    Calls Tryz.prog 43 #[.slice A sz.length c] w (SnewC sz w):=by
  refine (snew_codeT A sz c w hA hc hm).mono ?_
  rintro e w' ⟨hb,⟨hg,b,he,hs,hz⟩ | h⟩
  · exact ⟨hb,.inl ⟨hg,b,he,top_shape hs (Agr.refl _ _),hz⟩⟩
  · exact ⟨hb,.inr h⟩
abbrev cfgVals (A:Option Addr) (c:Nat) (k:Cfg):Array Value:=#[.slice A k.sizes.length c,.int .i64 k.shift,.int .i64 k.rate,.int .i64 k.mom,.int .i64 k.workers,.int .i64 k.batch,.int .i64 k.micros,.int .i64 k.steps,.int .i64 k.bucket,.int .i64 k.chunk,.int .i64 k.window,.int .i64 k.cap]
structure CfgRd (w:World) (A:Option Addr) (c:Nat) (k:Cfg):Prop where
  hc:k.sizes.length ≤ c
  hm:c ≤ 9223372036854775807
  hl:k.sizes.length ≤ 17592186043904
  hr:Rd w A (nums .i64 k.sizes)
theorem CfgRd.below {w w':World} {A:Option Addr} {c:Nat} {k:Cfg} (h:CfgRd w A c k) (hb:Below w.heap.size w w'):CfgRd w' A c k:=⟨h.hc,h.hm,h.hl,h.hr.below hb⟩
set_option maxRecDepth 100000 in
set_option maxHeartbeats 4000000 in
theorem check_any (A:Option Addr) (c:Nat) (k:Cfg) (w:World) (h:CfgRd w A c k) :
    Calls Tryz.prog 88 #[.agg (cfgVals A c k)] w fun e w' => e = .returned (.int .i64 (cfgCode k)) ∧ Below w.heap.size w w':=by
  have hsn:=fun w' (q:Below w.heap.size w w') => snew_code A k.sizes c w' (h.hr.below q) h.hc h.hm
  have f6:=@cfg_6 k;have f9:=@cfg_9 k;have fs:=@cfg_s k;have f2:=@cfg_2 k;have f7:=@cfg_7 k;have f0:=@cfg_0 k
  unfold wkB shB numsB baB stepsB at *
  obtain ⟨code,hcode⟩:∃ code,cfgCode k = code:=⟨_,rfl⟩
  rw [hcode] at f6 f9 fs f2 f7 f0 ⊢
  clear hcode h
  obtain ⟨sz,sh,ra,mo,wk,ba,mi,st,bu,ch,wi,ca⟩:=k
  dsimp only [cfgVals] at *
  obtain ⟨L,hL⟩:∃ L,sz.length = L:=⟨_,rfl⟩
  rw [hL] at hsn ⊢
  have Hsn:=Lib.hid hsn;have F6:=Lib.hid f6;have F9:=Lib.hid f9;have Fs:=Lib.hid fs;have F2:=Lib.hid f2;have F7:=Lib.hid f7;have F0:=Lib.hid f0
  clear hsn f6 f9 fs f2 f7 f0 hL
  go_enter Tryz.func88,Tryz.ntmps88
  go_wp2_with fail
  have hz:=heap_alloc_new w (.cells #[.slice A L c,.int .i64 sh,.int .i64 ra,.int .i64 mo,.int .i64 wk,.int .i64 ba,.int .i64 mi,.int .i64 st,.int .i64 bu,.int .i64 ch,.int .i64 wi,.int .i64 ca] 24)
  have hB:=(Below.refl _ w).alloc (Nat.le_refl _) (.cells #[.slice A L c,.int .i64 sh,.int .i64 ra,.int .i64 mo,.int .i64 wk,.int .i64 ba,.int .i64 mi,.int .i64 st,.int .i64 bu,.int .i64 ch,.int .i64 wi,.int .i64 ca] 24)
  refine (Hsn.out _ hB).mono ?_
  rintro e w1 ⟨hb1,hs⟩
  have hz1:=(hb1.block _ (lt_of_block hz)).trans hz
  have HB:=Lib.hid (hB.trans (hb1.mono hB.size))
  obtain ⟨⟨z0,z1,z2,z3,z4,z5,z6,z7,z8,z9,z10,z11⟩,zf⟩:=bx12 hz1
  clear hz hB hb1 hz1
  -- the sizes' code
  obtain ⟨p,sc,rfl,hsc⟩:∃ p sc,e = .returned (.tuple #[.pointer p,.int .i64 sc]) ∧ szCode sz = sc:=by
    rcases hs with ⟨hg,b,rfl,_⟩ | ⟨hg,rfl⟩
    · exact ⟨_,0,rfl,szCode_good hg⟩
    · exact ⟨_,_,rfl,rfl⟩
  have Hsc:=Lib.hid hsc
  clear hs hsc
  by_cases h1:wk < 1
  · go_wp2_with fail
    go_ret
    exact ⟨ret_int (F6.out (by rw [decide_eq_false_iff_not];omega)).symm,HB.out⟩
  by_cases h1':64 < wk
  · go_wp2_with fail
    go_ret
    exact ⟨ret_int (F6.out (by rw [decide_eq_false_iff_not];omega)).symm,HB.out⟩
  have G1:=Lib.hid (show decide (1 ≤ wk ∧ wk ≤ 64) = true by rw [decide_eq_true_eq];omega)
  by_cases h2:sh < 1
  · go_wp2_with fail
    go_ret
    exact ⟨ret_int (F9.out G1.out (by rw [decide_eq_false_iff_not];omega)).symm,HB.out⟩
  by_cases h2':62 < sh
  · go_wp2_with fail
    go_ret
    exact ⟨ret_int (F9.out G1.out (by rw [decide_eq_false_iff_not];omega)).symm,HB.out⟩
  have G2:=Lib.hid (show decide (1 ≤ sh ∧ sh ≤ 62) = true by rw [decide_eq_true_eq];omega)
  by_cases h3:sc ≠ 0
  · have hq:(sc != 0) = true:=by rw [bne_iff_ne];exact h3
    have H3:=Lib.hid h3;clear h3
    go_wp2_with fail
    go_ret
    exact ⟨ret_int (by rw [Fs.out G1.out G2.out (by rw [Hsc.out];exact H3.out)];exact Hsc.out.symm),HB.out⟩
  obtain rfl:sc = 0:=by omega
  clear h3
  go_wp2_with fail
  refine (size_any mi _).mono ?_
  rintro e w' ⟨rfl,rfl⟩
  obtain ⟨b0,hb0⟩:∃ b,okB mi = b:=⟨_,rfl⟩
  have O0:=Lib.hid hb0
  rw [hb0]
  clear hb0
  rcases bool_ft b0 with rfl | rfl
  · go_wp2_with fail
    go_ret
    exact ⟨ret_int (F2.out G1.out G2.out Hsc.out (by simp [O0.out])).symm,HB.out⟩
  go_wp2_with fail
  refine (size_any bu _).mono ?_
  rintro e w' ⟨rfl,rfl⟩
  obtain ⟨b1,hb1⟩:∃ b,okB bu = b:=⟨_,rfl⟩
  have O1:=Lib.hid hb1
  rw [hb1]
  clear hb1
  rcases bool_ft b1 with rfl | rfl
  · go_wp2_with fail
    go_ret
    exact ⟨ret_int (F2.out G1.out G2.out Hsc.out (by simp [O0.out,O1.out])).symm,HB.out⟩
  go_wp2_with fail
  refine (size_any ch _).mono ?_
  rintro e w' ⟨rfl,rfl⟩
  obtain ⟨b2,hb2⟩:∃ b,okB ch = b:=⟨_,rfl⟩
  have O2:=Lib.hid hb2
  rw [hb2]
  clear hb2
  rcases bool_ft b2 with rfl | rfl
  · go_wp2_with fail
    go_ret
    exact ⟨ret_int (F2.out G1.out G2.out Hsc.out (by simp [O0.out,O1.out,O2.out])).symm,HB.out⟩
  go_wp2_with fail
  refine (size_any wi _).mono ?_
  rintro e w' ⟨rfl,rfl⟩
  obtain ⟨b3,hb3⟩:∃ b,okB wi = b:=⟨_,rfl⟩
  have O3:=Lib.hid hb3
  rw [hb3]
  clear hb3
  rcases bool_ft b3 with rfl | rfl
  · go_wp2_with fail
    go_ret
    exact ⟨ret_int (F2.out G1.out G2.out Hsc.out (by simp [O0.out,O1.out,O2.out,O3.out])).symm,HB.out⟩
  go_wp2_with fail
  refine (size_any ca _).mono ?_
  rintro e w' ⟨rfl,rfl⟩
  obtain ⟨b4,hb4⟩:∃ b,okB ca = b:=⟨_,rfl⟩
  have O4:=Lib.hid hb4
  rw [hb4]
  clear hb4
  rcases bool_ft b4 with rfl | rfl
  · go_wp2_with fail
    go_ret
    exact ⟨ret_int (F2.out G1.out G2.out Hsc.out (by simp [O0.out,O1.out,O2.out,O3.out,O4.out])).symm,HB.out⟩
  by_cases h4:st = 0
  · have hq:(st != 0) = false:=by rw [h4];rfl
    have G4:=Lib.hid (show (okB mi && okB bu && okB ch && okB wi && okB ca && decide (0 ≤ st ∧ st ≤ 1048576)) = true by rw [O0.out,O1.out,O2.out,O3.out,O4.out];simp;omega)
    clear h4
    by_cases h5:ba < wk
    · go_wp2_with fail
      go_ret
      exact ⟨ret_int (F7.out G1.out G2.out Hsc.out G4.out (by rw [decide_eq_false_iff_not];omega)).symm,HB.out⟩
    by_cases h5':1048576 < ba
    · go_wp2_with fail
      go_ret
      exact ⟨ret_int (F7.out G1.out G2.out Hsc.out G4.out (by rw [decide_eq_false_iff_not];omega)).symm,HB.out⟩
    go_wp2_with fail
    go_ret
    exact ⟨ret_int (F0.out G1.out G2.out Hsc.out G4.out (by rw [decide_eq_true_eq];omega)).symm,HB.out⟩
  · have hq:(st != 0) = true:=by rw [bne_iff_ne];exact h4
    have H4:=Lib.hid h4;clear h4
    go_wp2_with fail
    refine (size_any st _).mono ?_
    rintro e w' ⟨rfl,rfl⟩
    obtain ⟨b5,hb5⟩:∃ b,okB st = b:=⟨_,rfl⟩
    have O5:=Lib.hid hb5
    rw [hb5]
    clear hb5
    rcases bool_ft b5 with rfl | rfl
    · go_wp2_with fail
      go_ret
      exact ⟨ret_int (F2.out G1.out G2.out Hsc.out (by rw [O0.out,O1.out,O2.out,O3.out,O4.out];have:=okB_false O5.out;have:=H4.out;simp;omega)).symm,HB.out⟩
    have G4:=Lib.hid (show (okB mi && okB bu && okB ch && okB wi && okB ca && decide (0 ≤ st ∧ st ≤ 1048576)) = true by rw [O0.out,O1.out,O2.out,O3.out,O4.out];have:=okB_true O5.out;simp;omega)
    by_cases h5:ba < wk
    · go_wp2_with fail
      go_ret
      exact ⟨ret_int (F7.out G1.out G2.out Hsc.out G4.out (by rw [decide_eq_false_iff_not];omega)).symm,HB.out⟩
    by_cases h5':1048576 < ba
    · go_wp2_with fail
      go_ret
      exact ⟨ret_int (F7.out G1.out G2.out Hsc.out G4.out (by rw [decide_eq_false_iff_not];omega)).symm,HB.out⟩
    go_wp2_with fail
    go_ret
    exact ⟨ret_int (F0.out G1.out G2.out Hsc.out G4.out (by rw [decide_eq_true_eq];omega)).symm,HB.out⟩
end Go.Proofs.YtaccfnffmbndhaaGreat
namespace Go.Proofs.YtaccfnffmbndhaaGreat
open Go.RowKit
theorem pneed_any (n:Nat) (w:World) (hn:1 ≤ n) (hn2:n ≤ 1048576):Calls Tryz.prog 136 #[.int .i64 n] w fun e w' => e = .returned (.int .i64 ((n - 1:Nat):Int)) ∧ w = w':=by
  have h1:(0:Int) ≤ (n:Int) - 1:=by omega
  go_enter Tryz.func136,Tryz.ntmps136
  go_wp2
  all_goals
    go_ret
    exact ⟨ret_int (by omega),rfl⟩
set_option maxRecDepth 100000 in
set_option maxHeartbeats 1000000 in
theorem epochs_any (A:Option Addr) (c n:Nat) (k:Cfg) (w:World) (h:CfgRd w A c k) (hg:GoodCfg k) (hn:k.batch ≤ n ∧ (n:Int) ≤ 1048576) :
    Calls Tryz.prog 135 #[.agg (cfgVals A c k),.int .i64 n] w fun e w' => e = .returned (.int .i64 (epN n k.batch.toNat k.steps.toNat:Int)) ∧ Below w.heap.size w w':=by
  have hck:=fun w' (q:Below w.heap.size w w') => check_any A c k w' (h.below q)
  rw [cfg_good.2 hg] at hck
  have g1:=hg.w;have g2:=hg.ba;have g3:=hg.st
  clear h hg
  obtain ⟨sz,sh,ra,mo,wk,ba,mi,st,bu,ch,wi,ca⟩:=k
  dsimp only [cfgVals] at *
  obtain ⟨bt,rfl⟩:∃ bt:Nat,ba = bt:=⟨ba.toNat,by omega⟩
  obtain ⟨sn,rfl⟩:∃ sn:Nat,st = sn:=⟨st.toNat,by omega⟩
  rw [Int.toNat_natCast,Int.toNat_natCast]
  obtain ⟨L,hL⟩:∃ L,sz.length = L:=⟨_,rfl⟩
  rw [hL] at hck ⊢
  obtain ⟨per,hper⟩:∃ per,n / bt = per:=⟨_,rfl⟩
  have hper1:1 ≤ per:=by rw [← hper];exact Nat.div_pos (by omega) (by omega)
  have hper2:per ≤ n:=by rw [← hper];exact Nat.div_le_self _ _
  have hE:epN n bt sn = (sn + per - 1) / per:=by unfold epN;rw [hper,cntQ_eq _ _ hper1]
  rw [hE]
  have hEl:(sn + per - 1) / per ≤ sn + per - 1:=Nat.div_le_self _ _
  obtain ⟨E,hE2⟩:∃ E,(sn + per - 1) / per = E:=⟨_,rfl⟩
  rw [hE2] at hEl ⊢
  have hq1:(n:Int).tdiv (bt:Int) = (per:Int):=by rw [← hper];rfl
  have hq1':(n:Int) / (bt:Int) = (per:Int):=by rw [← hper];rfl
  have hcast:(sn:Int) + per - 1 = ((sn + per - 1:Nat):Int):=by omega
  have hq2:((sn:Int) + per - 1).tdiv (per:Int) = (E:Int):=by rw [hcast,← hE2];rfl
  have hq2':((sn:Int) + per - 1) / (per:Int) = (E:Int):=by rw [hcast,← hE2];rfl
  have hq3:¬ (bt = 0):=by omega
  have hq4:¬ (per = 0):=by omega
  have hq5:¬ ((n:Int) < bt):=by omega
  have hq6:¬ ((1048576:Int) < n):=by omega
  have Hck:=Lib.hid hck
  clear hck hL hper hE hE2 hcast
  go_enter Tryz.func135,Tryz.ntmps135
  go_wp2_with fail
  have hz:=heap_alloc_new w (.cells #[.slice A L c,.int .i64 sh,.int .i64 ra,.int .i64 mo,.int .i64 wk,.int .i64 bt,.int .i64 mi,.int .i64 sn,.int .i64 bu,.int .i64 ch,.int .i64 wi,.int .i64 ca] 24)
  have hB:=(Below.refl _ w).alloc (Nat.le_refl _) (.cells #[.slice A L c,.int .i64 sh,.int .i64 ra,.int .i64 mo,.int .i64 wk,.int .i64 bt,.int .i64 mi,.int .i64 sn,.int .i64 bu,.int .i64 ch,.int .i64 wi,.int .i64 ca] 24)
  refine (Hck.out _ hB).mono ?_
  rintro e w1 ⟨rfl,hb1⟩
  have hz1:=(hb1.block _ (lt_of_block hz)).trans hz
  have HB:=Lib.hid (hB.trans (hb1.mono hB.size))
  obtain ⟨⟨z0,z1,z2,z3,z4,z5,z6,z7,z8,z9,z10,z11⟩,zf⟩:=bx12 hz1
  clear hz hB hb1 hz1
  go_wp2_with fail
  go_ret
  exact ⟨rfl,HB.out⟩
set_option maxRecDepth 100000 in
theorem need_any (A:Option Addr) (c n:Nat) (k:Cfg) (w:World) (h:CfgRd w A c k) (hg:GoodCfg k) (hn:k.batch ≤ n ∧ (n:Int) ≤ 1048576) :
    Calls Tryz.prog 90 #[.agg (cfgVals A c k),.int .i64 n] w fun e w' => e = .returned (.int .i64 (needN n k.batch.toNat k.steps.toNat:Int)) ∧ Below w.heap.size w w':=by
  have hep:=fun w' (q:Below w.heap.size w w') => epochs_any A c n k w' (h.below q) hg hn
  have g1:=hg.w;have g2:=hg.ba;have g3:=hg.st
  have hpn:=fun w' => pneed_any n w' (by omega) (by omega)
  have hle:=needN_le (n:=n) (b:=k.batch.toNat) (st:=k.steps.toNat) (by omega) (by omega)
  unfold needN at hle ⊢
  clear h hg
  obtain ⟨sz,sh,ra,mo,wk,ba,mi,st,bu,ch,wi,ca⟩:=k
  dsimp only [cfgVals] at *
  obtain ⟨L,hL⟩:∃ L,sz.length = L:=⟨_,rfl⟩
  rw [hL] at hep ⊢
  obtain ⟨E,hE⟩:∃ E,epN n ba.toNat st.toNat = E:=⟨_,rfl⟩
  obtain ⟨m,hm⟩:∃ m,n - 1 = m:=⟨_,rfl⟩
  rw [hE] at hep hle ⊢
  rw [hm] at hpn hle ⊢
  obtain ⟨y,hy⟩:∃ y,E * m = y:=⟨_,rfl⟩
  rw [hy] at hle ⊢
  have hmul:(E:Int) * (m:Int) = (y:Int):=by rw [← hy];push_cast;rfl
  have Hep:=Lib.hid hep;have Hpn:=Lib.hid hpn
  clear hep hpn hL hE hm hy
  go_enter Tryz.func90,Tryz.ntmps90
  go_wp2_with fail
  have hz:=heap_alloc_new w (.cells #[.slice A L c,.int .i64 sh,.int .i64 ra,.int .i64 mo,.int .i64 wk,.int .i64 ba,.int .i64 mi,.int .i64 st,.int .i64 bu,.int .i64 ch,.int .i64 wi,.int .i64 ca] 24)
  have hB:=(Below.refl _ w).alloc (Nat.le_refl _) (.cells #[.slice A L c,.int .i64 sh,.int .i64 ra,.int .i64 mo,.int .i64 wk,.int .i64 ba,.int .i64 mi,.int .i64 st,.int .i64 bu,.int .i64 ch,.int .i64 wi,.int .i64 ca] 24)
  refine (Hep.out _ hB).mono ?_
  rintro e w1 ⟨rfl,hb1⟩
  have HB:=Lib.hid (hB.trans (hb1.mono hB.size))
  clear hz hB hb1
  go_wp2_with fail
  refine (Hpn.out _).mono ?_
  rintro e w2 ⟨rfl,rfl⟩
  go_wp2_with fail
  go_ret
  exact ⟨rfl,HB.out⟩
end Go.Proofs.YtaccfnffmbndhaaGreat
namespace Go.Proofs.YtaccfnffmbndhaaGreat
open Go.RowKit
abbrev inpVals (A:Option Addr) (c:Nat) (D:Option Addr) (cd:Nat) (T:Option Addr) (ct:Nat) (R:Option Addr) (cr:Nat) (i:Inp):Array Value:=
  #[.slice A i.cfg.sizes.length c,.int .i64 i.cfg.shift,.int .i64 i.cfg.rate,.int .i64 i.cfg.mom,.int .i64 i.cfg.workers,.int .i64 i.cfg.batch,.int .i64 i.cfg.micros,.int .i64 i.cfg.steps,.int .i64 i.cfg.bucket,.int .i64 i.cfg.chunk,.int .i64 i.cfg.window,.int .i64 i.cfg.cap,
    .slice D i.data.length cd,.slice T i.start.length ct,.slice R i.draws.length cr]
structure InpRd (w:World) (A:Option Addr) (c:Nat) (D:Option Addr) (T:Option Addr) (ct:Nat) (R:Option Addr) (i:Inp):Prop where
  c:CfgRd w A c i.cfg
  d:SlRd rEx 2 w D i.data
  dl:i.data.length ≤ 1048576
  t:NumsRd w T i.start ct
  tl:i.start.length ≤ 1048576
  r:Rd w R (nums .u64 i.draws)
  rl:i.draws.length ≤ 1048576
  ru:U64 i.draws
  ra:-9223372036854775808 ≤ i.cfg.rate ∧ i.cfg.rate ≤ 9223372036854775807
  rm:-9223372036854775808 ≤ i.cfg.mom ∧ i.cfg.mom ≤ 9223372036854775807
theorem InpRd.below {w w':World} {A:Option Addr} {c:Nat} {D T R:Option Addr} {ct:Nat} {i:Inp} (h:InpRd w A c D T ct R i) (hb:Below w.heap.size w w'):InpRd w' A c D T ct R i:=
  ⟨h.c.below hb,h.d.below stays_ex hb,h.dl,h.t.below hb,h.tl,h.r.below hb,h.rl,h.ru,h.ra,h.rm⟩
set_option maxRecDepth 100000 in
set_option maxHeartbeats 4000000 in
theorem input_any (A:Option Addr) (c:Nat) (D:Option Addr) (cd:Nat) (T:Option Addr) (ct:Nat) (R:Option Addr) (cr:Nat) (i:Inp) (w:World) (h:InpRd w A c D T ct R i) :
    Calls Tryz.prog 42 #[.agg (inpVals A c D cd T ct R cr i)] w fun e w' => e = .returned (.int .i64 (inCode i)) ∧ Below w.heap.size w w':=by
  have hck:=fun w' (q:Below w.heap.size w w') => check_any A c i.cfg w' (h.c.below q)
  have hsn:=fun w' (q:Below w.heap.size w w') => snew_code A i.cfg.sizes c w' (h.c.hr.below q) h.c.hc h.c.hm
  have hct:=fun S w' (hS:ShapeAt 186 w' S i.cfg.sizes) => shape_count S i.cfg.sizes w' hS
  have hdc:=fun a b w' (q:Below w.heap.size w w') => dcheck_any a b cd D i.data w' (h.d.below stays_ex q) h.dl
  have hnd:=fun (hg:GoodCfg i.cfg) (hb:i.cfg.batch ≤ i.data.length ∧ (i.data.length:Int) ≤ 1048576) w' (q:Below w.heap.size w w') => need_any A c i.data.length i.cfg w' (h.c.below q) hg hb
  have fc:=@in_c i;have f7:=@in_7 i;have f5:=@in_5 i;have f8:=@in_8 i;have f0:=@in_0 i
  have hgd:=@cfg_good i.cfg
  have hsr:=h.c.hr
  have hdl:=h.dl;have htl:=h.tl;have hrl:=h.rl
  unfold DChkIs at hdc
  unfold batchB at f7 f5 f8 f0
  unfold shapeB fitB inN outN cnt at f5 f8 f0
  unfold drawsB at f8 f0
  obtain ⟨code,hcode⟩:∃ code,inCode i = code:=⟨_,rfl⟩
  rw [hcode] at fc f7 f5 f8 f0 ⊢
  clear hcode h
  obtain ⟨⟨sz,sh,ra,mo,wk,ba,mi,st,bu,ch,wi,ca⟩,data,start,draws⟩:=i
  dsimp only [inpVals,cfgVals] at *
  obtain ⟨L,hL⟩:∃ L,sz.length = L:=⟨_,rfl⟩
  obtain ⟨N,hN⟩:∃ N,data.length = N:=⟨_,rfl⟩
  obtain ⟨M,hM⟩:∃ M,start.length = M:=⟨_,rfl⟩
  obtain ⟨Q,hQ⟩:∃ Q,draws.length = Q:=⟨_,rfl⟩
  obtain ⟨cc,hcc⟩:∃ cc,cfgCode ⟨sz,sh,ra,mo,wk,ba,mi,st,bu,ch,wi,ca⟩ = cc:=⟨_,rfl⟩
  rw [hL] at hck hsn hct hnd f5 f8 f0 ⊢
  rw [hN] at hdc hnd f7 f5 f8 f0 hdl ⊢
  rw [hM] at f5 f8 f0 htl ⊢
  rw [hQ] at f8 f0 hrl ⊢
  rw [hcc] at hck fc f7 f5 f8 f0 hgd
  obtain ⟨CN,hCN⟩:∃ CN,cntN sz (L - 1) = CN:=⟨_,rfl⟩
  rw [hCN] at hct f5 f8 f0
  obtain ⟨ND,hND⟩:∃ ND,needN N ba.toNat st.toNat = ND:=⟨_,rfl⟩
  rw [hND] at hnd f8 f0
  have Hck:=Lib.hid hck;have Hsn:=Lib.hid hsn;have Hct:=Lib.hid hct;have Hdc:=Lib.hid hdc;have Hnd:=Lib.hid hnd;have Fc:=Lib.hid fc;have F7:=Lib.hid f7;have F5:=Lib.hid f5;have F8:=Lib.hid f8;have F0:=Lib.hid f0;have Hgd:=Lib.hid hgd;have Hsr:=Lib.hid hsr;have HL:=Lib.hid hL;have HCN:=Lib.hid hCN
  clear hck hsn hct hdc hnd fc f7 f5 f8 f0 hgd hsr hL hN hM hQ hcc hCN hND
  go_enter Tryz.func42,Tryz.ntmps42
  go_wp2_with fail
  have hz:=(Below.heap_alloc (w.alloc (.cells #[.slice A L c,.int .i64 sh,.int .i64 ra,.int .i64 mo,.int .i64 wk,.int .i64 ba,.int .i64 mi,.int .i64 st,.int .i64 bu,.int .i64 ch,.int .i64 wi,.int .i64 ca,.slice D N cd,.slice T M ct,.slice R Q cr] 29)) (.cells #[.slice A L c,.int .i64 sh,.int .i64 ra,.int .i64 mo,.int .i64 wk,.int .i64 ba,.int .i64 mi,.int .i64 st,.int .i64 bu,.int .i64 ch,.int .i64 wi,.int .i64 ca] 24) w.heap.size (by simp)).trans (heap_alloc_new w _)
  have hy:=heap_alloc_new (w.alloc (.cells #[.slice A L c,.int .i64 sh,.int .i64 ra,.int .i64 mo,.int .i64 wk,.int .i64 ba,.int .i64 mi,.int .i64 st,.int .i64 bu,.int .i64 ch,.int .i64 wi,.int .i64 ca,.slice D N cd,.slice T M ct,.slice R Q cr] 29)) (.cells #[.slice A L c,.int .i64 sh,.int .i64 ra,.int .i64 mo,.int .i64 wk,.int .i64 ba,.int .i64 mi,.int .i64 st,.int .i64 bu,.int .i64 ch,.int .i64 wi,.int .i64 ca] 24)
  rw [show (w.alloc (.cells #[.slice A L c,.int .i64 sh,.int .i64 ra,.int .i64 mo,.int .i64 wk,.int .i64 ba,.int .i64 mi,.int .i64 st,.int .i64 bu,.int .i64 ch,.int .i64 wi,.int .i64 ca,.slice D N cd,.slice T M ct,.slice R Q cr] 29)).heap.size = w.heap.size + 1 by simp] at hy
  have hB:Below w.heap.size w ((w.alloc (.cells #[.slice A L c,.int .i64 sh,.int .i64 ra,.int .i64 mo,.int .i64 wk,.int .i64 ba,.int .i64 mi,.int .i64 st,.int .i64 bu,.int .i64 ch,.int .i64 wi,.int .i64 ca,.slice D N cd,.slice T M ct,.slice R Q cr] 29)).alloc (.cells #[.slice A L c,.int .i64 sh,.int .i64 ra,.int .i64 mo,.int .i64 wk,.int .i64 ba,.int .i64 mi,.int .i64 st,.int .i64 bu,.int .i64 ch,.int .i64 wi,.int .i64 ca] 24)):=((Below.refl _ w).alloc (Nat.le_refl _) _).alloc (by simp) _
  obtain ⟨W0,hW0⟩:∃ W0,W0 = (w.alloc (.cells #[.slice A L c,.int .i64 sh,.int .i64 ra,.int .i64 mo,.int .i64 wk,.int .i64 ba,.int .i64 mi,.int .i64 st,.int .i64 bu,.int .i64 ch,.int .i64 wi,.int .i64 ca,.slice D N cd,.slice T M ct,.slice R Q cr] 29)).alloc (.cells #[.slice A L c,.int .i64 sh,.int .i64 ra,.int .i64 mo,.int .i64 wk,.int .i64 ba,.int .i64 mi,.int .i64 st,.int .i64 bu,.int .i64 ch,.int .i64 wi,.int .i64 ca] 24):=⟨_,rfl⟩
  rw [← hW0] at hz hy hB ⊢
  clear hW0
  refine (Hck.out _ hB).mono ?_
  rintro e w1 ⟨rfl,hb1⟩
  have hz1:=(hb1.block _ (lt_of_block hz)).trans hz
  have hy1:=(hb1.block _ (lt_of_block hy)).trans hy
  have HB:=Lib.hid (hB.trans (hb1.mono hB.size))
  obtain ⟨⟨z0,z1,z2,z3,z4,z5,z6,z7,z8,z9,z10,z11,z12,z13,z14⟩,zf⟩:=bx15 hz1
  obtain ⟨⟨y0,y1,y2,y3,y4,y5,y6,y7,y8,y9,y10,y11⟩,yf⟩:=bx12 hy1
  have lz:=lt_of_block hz1;have ly:=lt_of_block hy1
  have HZ:=Lib.hid hz1;have HY:=Lib.hid hy1
  clear hz hy hB hb1 hz1 hy1
  by_cases h3:cc ≠ 0
  · have hq:(cc != 0) = true:=by rw [bne_iff_ne];exact h3
    have H3:=Lib.hid h3;clear h3
    go_wp2_with fail
    go_ret
    exact ⟨ret_int (Fc.out H3.out).symm,HB.out⟩
  obtain rfl:cc = 0:=by omega
  clear h3
  have hg:=Hgd.out.1 rfl
  have g1:=hg.w;have g2:=hg.ba;have g3:=hg.st;have gz:=hg.z
  have HG:=Lib.hid hg
  dsimp only at g1 g2 g3 gz
  clear hg
  have hl16:=gz.1.1
  rw [HL.out] at hl16
  have s0:=gz.1.at (k:=0) (by have:=HL.out;omega)
  have s1:=gz.1.at (k:=L - 1) (by have:=HL.out;omega)
  obtain ⟨bz,oz,rfl,p0⟩:=Hsr.out.num (show 0 < sz.length by have:=HL.out;omega)
  obtain ⟨_,_,e',p1⟩:=Hsr.out.num (show L - 1 < sz.length by have:=HL.out;omega)
  injection e' with e';injection e' with e1 e2 _;subst e1;subst e2
  rw [s0.2.2,Nat.add_zero] at p0
  rw [s1.2.2] at p1
  obtain ⟨n0,hn0⟩:∃ n0,szN sz 0 = n0:=⟨_,rfl⟩
  obtain ⟨n1,hn1⟩:∃ n1,szN sz (L - 1) = n1:=⟨_,rfl⟩
  have f5:=F5.out;have f8:=F8.out;have f0:=F0.out
  rw [hn0,hn1] at f5 f8 f0
  rw [hn0] at p0 s0
  rw [hn1] at p1 s1
  have F5:=Lib.hid f5;have F8:=Lib.hid f8;have F0:=Lib.hid f0;have HGZ:=Lib.hid gz
  have hb5:bz < w.heap.size:=lt_of_cell p0
  have P0:=Lib.hid p0;have P1:=Lib.hid p1
  clear f5 f8 f0 gz hn0 hn1 p0 p1 s0 s1
  obtain ⟨bt,rfl⟩:∃ bt:Nat,ba = bt:=⟨ba.toNat,by omega⟩
  go_wp2_with fail
  refine (Hsn.out _ HB.out).mono ?_
  rintro e w2 ⟨hb2,hs⟩
  obtain ⟨S,rfl,hS⟩:∃ S,e = .returned (.tuple #[.pointer (some ⟨S,0,none⟩),.int .i64 0]) ∧ ShapeAt 186 w2 S sz:=by
    rcases hs with ⟨_,S,he,hS,_⟩ | ⟨hng,_⟩
    · exact ⟨S,he,hS⟩
    · exact absurd HGZ.out hng
  clear hs
  have hz2:=(hb2.block _ lz).trans HZ.out
  have hy2:=(hb2.block _ ly).trans HY.out
  have HB2:=Lib.hid (HB.out.trans (hb2.mono HB.out.size))
  clear z0 z1 z2 z3 z4 z5 z6 z7 z8 z9 z10 z11 z12 z13 z14 zf y0 y1 y2 y3 y4 y5 y6 y7 y8 y9 y10 y11 yf lz ly
  obtain ⟨⟨z0,z1,z2,z3,z4,z5,z6,z7,z8,z9,z10,z11,z12,z13,z14⟩,zf⟩:=bx15 hz2
  obtain ⟨⟨y0,y1,y2,y3,y4,y5,y6,y7,y8,y9,y10,y11⟩,yf⟩:=bx12 hy2
  have lz:=lt_of_block hz2;have ly:=lt_of_block hy2
  have HZ2:=Lib.hid hz2;have HY2:=Lib.hid hy2;have HS:=Lib.hid hS
  clear hb2 hz2 hy2 hS
  have p0:=(HB2.out.cell (p:=⟨bz,oz,none⟩) hb5).trans P0.out
  have p1:=(HB2.out.cell (p:=⟨bz,oz + (L - 1),none⟩) hb5).trans P1.out
  have hw1:IntKind.i64.wrap ((L:Int) - 1) = ((L - 1:Nat):Int):=by rw [IntWalk.i64_in _ (by omega)];omega
  have hLi:((L - 1:Nat):Int) < L:=by omega
  have hLn:L - 1 < L:=by omega
  have hL0:0 < L:=by omega
  have hL0i:(0:Int) < L:=by omega
  go_wp2_with fail
  have hSw:(fun w':World => w'.cell? ⟨w.heap.size,12,none⟩ = some (.slice D N cd) ∧ w'.cell? ⟨w.heap.size + 1,0,none⟩ = some (.slice (some ⟨bz,oz,none⟩) L c) ∧ w'.cell? ⟨bz,oz,none⟩ = some (.int .i64 n0) ∧ w'.cell? ⟨bz,oz + (L - 1),none⟩ = some (.int .i64 n1)) w2.drew:=⟨z12,y0,p0,p1⟩
  refine HA.g (fun w':World => w'.cell? ⟨w.heap.size,12,none⟩ = some (.slice D N cd) ∧ w'.cell? ⟨w.heap.size + 1,0,none⟩ = some (.slice (some ⟨bz,oz,none⟩) L c) ∧ w'.cell? ⟨bz,oz,none⟩ = some (.int .i64 n0) ∧ w'.cell? ⟨bz,oz + (L - 1),none⟩ = some (.int .i64 n1)) ?_
  refine HA.t ?_ [0,1,2,3,4,5,6,7,8,9,10,11,12,13] hSw ?_
  refine HA.o 14 (fun K hK => ?_)
  go_simp
  refine (Hdc.out n0 n1 _ HB2.out.drew).mono ?_
  rintro e w3 ⟨hb3,d,hd⟩
  have hS3:=And.intro (cell_below hb3 hSw.1) (And.intro (cell_below hb3 hSw.2.1) (And.intro (cell_below hb3 hSw.2.2.1) (cell_below hb3 hSw.2.2.2)))
  have hb3':Below w2.heap.size w2 w3:=(Below.refl w2.heap.size w2).drew.trans hb3
  have hz3:=(hb3'.block _ lz).trans HZ2.out
  have hy3:=(hb3'.block _ ly).trans HY2.out
  have hs3:=HS.out.below hb3'
  have HB3:=Lib.hid (HB2.out.trans (hb3'.mono HB2.out.size))
  have HZ3:=Lib.hid hz3;have HY3:=Lib.hid hy3;have HS3:=Lib.hid hs3
  obtain ⟨fit,rfl,hfit⟩:∃ fit,e = .returned (.tuple #[.int .i64 d,.bool fit]) ∧ decide (∀ x ∈ data,fitEx n0 n1 x) = fit:=by
    rcases hd with ⟨ha,rfl⟩ | ⟨ha,rfl⟩
    · exact ⟨true,rfl,decide_eq_true ha⟩
    · exact ⟨false,rfl,decide_eq_false ha⟩
  have Hfit:=Lib.hid hfit
  clear hb3 hb3' hz3 hy3 hs3 hd hfit hSw
  dsimp only
  refine hK.out _ _ hS3 (fun hSw => ?_)
  clear hK K hS3
  refine HA.t ?_ [15,16,17,18,19] hSw ?_
  refine HA.d ?_
  clear hSw z0 z1 z2 z3 z4 z5 z6 z7 z8 z9 z10 z11 z12 z13 z14 zf y0 y1 y2 y3 y4 y5 y6 y7 y8 y9 y10 y11 yf lz ly hw1
  have hz3:=HZ3.out;have hy3:=HY3.out
  obtain ⟨⟨z0,z1,z2,z3,z4,z5,z6,z7,z8,z9,z10,z11,z12,z13,z14⟩,zf⟩:=bx15 hz3
  obtain ⟨⟨y0,y1,y2,y3,y4,y5,y6,y7,y8,y9,y10,y11⟩,yf⟩:=bx12 hy3
  have lz:=lt_of_block hz3;have ly:=lt_of_block hy3
  clear hz3 hy3
  by_cases h7:N < bt
  · have hq:(N:Int) < bt:=by omega
    go_wp2_with fail
    go_ret
    exact ⟨ret_int (F7.out trivial (by rw [decide_eq_false_iff_not];omega)).symm,HB3.out⟩
  have hq7:¬ ((N:Int) < bt):=by omega
  have hq8:¬ ((1048576:Int) < N):=by omega
  have G1:=Lib.hid (show decide ((bt:Int) ≤ N ∧ N ≤ 1048576) = true by rw [decide_eq_true_eq];omega)
  rcases bool_ft fit with rfl | rfl
  · go_wp2_with fail
    go_quiet (fail)
    go_wp2_with fail
    go_ret
    exact ⟨ret_int (F5.out trivial G1.out (by rw [Hfit.out];rfl)).symm,below_drewN HB3.out _⟩
  have hcnt:=fun w' (q:Below w3.heap.size w3 w') => Hct.out S w' (HS3.out.below q)
  have Hcnt:=Lib.hid hcnt;clear hcnt
  by_cases h5:M ≠ CN
  · have hq:((M:Int) != (CN:Int)) = true:=by rw [bne_iff_ne];omega
    have H5:=Lib.hid h5;clear h5
    go_wp2_with fail
    go_quiet ((go_at_call 46;refine Calls.quiet_of ((Hcnt.out _ ?_).mono fun e w' ⟨he,hw⟩ => ⟨he,0,hw.symm⟩);(focus (repeat' (first | (with_reducible exact Below.refl _ _) | (with_reducible assumption) | (with_reducible refine Below.setCell ?_ ?_ _) | (with_reducible refine Below.alloc ?_ ?_ _) | (with_reducible refine below_drewN ?_ _) | (with_reducible refine Below.drew ?_) | (with_reducible exact Nat.le_refl _) | omega | (simp;done) | (simp;omega))))))
    go_wp2_with fail
    go_ret
    exact ⟨ret_int (F5.out trivial G1.out (by rw [Hfit.out,decide_eq_false H5.out];rfl)).symm,below_drewN HB3.out _⟩
  have hq:((M:Int) != (CN:Int)) = false:=by rw [bne_eq_false_iff_eq];omega
  have G2:=Lib.hid (show (decide (∀ x ∈ data,fitEx n0 n1 x) && decide (M = CN)) = true by rw [Hfit.out,decide_eq_true (show M = CN by omega)];rfl)
  clear h5
  go_wp2_with fail
  go_quiet ((go_at_call 46;refine Calls.quiet_of ((Hcnt.out _ ?_).mono fun e w' ⟨he,hw⟩ => ⟨he,0,hw.symm⟩);(focus (repeat' (first | (with_reducible exact Below.refl _ _) | (with_reducible assumption) | (with_reducible refine Below.setCell ?_ ?_ _) | (with_reducible refine Below.alloc ?_ ?_ _) | (with_reducible refine below_drewN ?_ _) | (with_reducible refine Below.drew ?_) | (with_reducible exact Nat.le_refl _) | omega | (simp;done) | (simp;omega))))))
  go_wp2_with fail
  obtain ⟨V,hV⟩:∃ V,V = w3.drewN nq:=⟨_,rfl⟩
  have hBV:Below w.heap.size w V:=by rw [hV];exact below_drewN HB3.out _
  have hzV:V.heap[w.heap.size]? = some (.cells #[.slice (some ⟨bz,oz,none⟩) L c,.int .i64 sh,.int .i64 ra,.int .i64 mo,.int .i64 wk,.int .i64 bt,.int .i64 mi,.int .i64 st,.int .i64 bu,.int .i64 ch,.int .i64 wi,.int .i64 ca,.slice D N cd,.slice T M ct,.slice R Q cr] 29 (0,0)):=by rw [hV];exact HZ3.out
  have hyV:V.heap[w.heap.size + 1]? = some (.cells #[.slice (some ⟨bz,oz,none⟩) L c,.int .i64 sh,.int .i64 ra,.int .i64 mo,.int .i64 wk,.int .i64 bt,.int .i64 mi,.int .i64 st,.int .i64 bu,.int .i64 ch,.int .i64 wi,.int .i64 ca] 24 (0,0)):=by rw [hV];exact HY3.out
  clear z0 z1 z2 z3 z4 z5 z6 z7 z8 z9 z10 z11 z12 z13 z14 zf y0 y1 y2 y3 y4 y5 y6 y7 y8 y9 y10 y11 yf
  rw [← hV]
  clear hV
  obtain ⟨⟨z0,z1,z2,z3,z4,z5,z6,z7,z8,z9,z10,z11,z12,z13,z14⟩,zf⟩:=bx15 hzV
  obtain ⟨⟨y0,y1,y2,y3,y4,y5,y6,y7,y8,y9,y10,y11⟩,yf⟩:=bx12 hyV
  have HBV:=Lib.hid hBV;clear hBV hzV hyV
  have hnd:=Hnd.out HG.out (by omega) V.drew HBV.out.drew
  have Hnd2:=Lib.hid hnd;clear hnd
  have hSw:(fun w':World => w'.cell? ⟨w.heap.size,14,none⟩ = some (.slice R Q cr) ∧ w'.cell? ⟨w.heap.size + 1,0,none⟩ = some (.slice (some ⟨bz,oz,none⟩) L c) ∧ w'.cell? ⟨w.heap.size + 1,1,none⟩ = some (.int .i64 sh) ∧ w'.cell? ⟨w.heap.size + 1,2,none⟩ = some (.int .i64 ra) ∧ w'.cell? ⟨w.heap.size + 1,3,none⟩ = some (.int .i64 mo) ∧ w'.cell? ⟨w.heap.size + 1,4,none⟩ = some (.int .i64 wk) ∧ w'.cell? ⟨w.heap.size + 1,5,none⟩ = some (.int .i64 bt) ∧ w'.cell? ⟨w.heap.size + 1,6,none⟩ = some (.int .i64 mi) ∧ w'.cell? ⟨w.heap.size + 1,7,none⟩ = some (.int .i64 st) ∧ w'.cell? ⟨w.heap.size + 1,8,none⟩ = some (.int .i64 bu) ∧ w'.cell? ⟨w.heap.size + 1,9,none⟩ = some (.int .i64 ch) ∧ w'.cell? ⟨w.heap.size + 1,10,none⟩ = some (.int .i64 wi) ∧ w'.cell? ⟨w.heap.size + 1,11,none⟩ = some (.int .i64 ca)) V.drew:=⟨z14,y0,y1,y2,y3,y4,y5,y6,y7,y8,y9,y10,y11⟩
  refine HA.g (fun w':World => w'.cell? ⟨w.heap.size,14,none⟩ = some (.slice R Q cr) ∧ w'.cell? ⟨w.heap.size + 1,0,none⟩ = some (.slice (some ⟨bz,oz,none⟩) L c) ∧ w'.cell? ⟨w.heap.size + 1,1,none⟩ = some (.int .i64 sh) ∧ w'.cell? ⟨w.heap.size + 1,2,none⟩ = some (.int .i64 ra) ∧ w'.cell? ⟨w.heap.size + 1,3,none⟩ = some (.int .i64 mo) ∧ w'.cell? ⟨w.heap.size + 1,4,none⟩ = some (.int .i64 wk) ∧ w'.cell? ⟨w.heap.size + 1,5,none⟩ = some (.int .i64 bt) ∧ w'.cell? ⟨w.heap.size + 1,6,none⟩ = some (.int .i64 mi) ∧ w'.cell? ⟨w.heap.size + 1,7,none⟩ = some (.int .i64 st) ∧ w'.cell? ⟨w.heap.size + 1,8,none⟩ = some (.int .i64 bu) ∧ w'.cell? ⟨w.heap.size + 1,9,none⟩ = some (.int .i64 ch) ∧ w'.cell? ⟨w.heap.size + 1,10,none⟩ = some (.int .i64 wi) ∧ w'.cell? ⟨w.heap.size + 1,11,none⟩ = some (.int .i64 ca)) ?_
  refine HA.t ?_ [0,1,2,3,4] hSw ?_
  refine HA.o 5 (fun K hK => ?_)
  go_simp
  refine Hnd2.out.mono ?_
  rintro e w4 ⟨rfl,hb4⟩
  have HB4:=Lib.hid (HBV.out.trans ((Below.refl V.heap.size V).drew.trans hb4 |>.mono HBV.out.size))
  have hS4:=And.intro (cell_below hb4 hSw.1) (And.intro (cell_below hb4 hSw.2.1) (And.intro (cell_below hb4 hSw.2.2.1) (And.intro (cell_below hb4 hSw.2.2.2.1) (And.intro (cell_below hb4 hSw.2.2.2.2.1) (And.intro (cell_below hb4 hSw.2.2.2.2.2.1) (And.intro (cell_below hb4 hSw.2.2.2.2.2.2.1) (And.intro (cell_below hb4 hSw.2.2.2.2.2.2.2.1) (And.intro (cell_below hb4 hSw.2.2.2.2.2.2.2.2.1) (And.intro (cell_below hb4 hSw.2.2.2.2.2.2.2.2.2.1) (And.intro (cell_below hb4 hSw.2.2.2.2.2.2.2.2.2.2.1) (And.intro (cell_below hb4 hSw.2.2.2.2.2.2.2.2.2.2.2.1) (cell_below hb4 hSw.2.2.2.2.2.2.2.2.2.2.2.2))))))))))))
  clear hb4 hSw
  dsimp only
  refine hK.out _ _ hS4 (fun hSw => ?_)
  clear hK K hS4
  refine HA.t ?_ [6,7] hSw ?_
  refine HA.d ?_
  clear hSw z0 z1 z2 z3 z4 z5 z6 z7 z8 z9 z10 z11 z12 z13 z14 zf y0 y1 y2 y3 y4 y5 y6 y7 y8 y9 y10 y11 yf
  by_cases h8:ND ≤ Q
  · have hq9:¬ ((Q:Int) < ND):=by omega
    have hqd:decide ((Q:Int) < ND) = false:=by simp;omega
    have hqe:decide (Q < ND) = false:=by simp;omega
    have G8:=Lib.hid (decide_eq_true h8)
    go_wp2_with fail
    go_ret
    exact ⟨ret_int (F0.out trivial G1.out G2.out G8.out).symm,HB4.out⟩
  · have hq9:(Q:Int) < ND:=by omega
    have hqd:decide ((Q:Int) < ND) = true:=by simp;omega
    have hqe:decide (Q < ND) = true:=by simp;omega
    have G8:=Lib.hid (decide_eq_false h8)
    go_wp2_with fail
    go_ret
    exact ⟨ret_int (F8.out trivial G1.out G2.out G8.out).symm,HB4.out⟩
end Go.Proofs.YtaccfnffmbndhaaGreat
namespace Go.Proofs.YtaccfnffmbndhaaGreat
open Go.RowKit Go.Shelf
attribute [local go_sem] Oper.semAt_some
end Go.Proofs.YtaccfnffmbndhaaGreat
namespace Go.Proofs.YtaccfnffmbndhaaGreat
open Go.RowKit
theorem run_mk {P:Program} {t e:TypeId} {z:Value} {bytes:Nat} (T:ElemT P t e z 1 bytes) (w:World) (hzc:z.cells = #[z]) (n:Nat) (b2:bytes * n ≤ 281474976710656) (b3:n ≤ maxLen) :
    ∃ w',Sem.run P (Instr.makeSlice t (.int .i64 (n:Int)) (.int .i64 (n:Int))) w = .ok (.slice (some ⟨w.heap.size,0,none⟩) n n) w' ∧ w'.ownsRow w.heap.size e 1 (.slice (some ⟨w.heap.size,0,none⟩) n n) n (List.replicate n z) ∧ Below w.heap.size w w':=by
  obtain ⟨i,hi,hz0,hz1,hz2⟩:=T.info
  obtain ⟨w',hrun,r1,r2⟩:=run_make_full (P:=P) w w.heap.size t e i z 1 T.und hi hz0 hz1 .i64 .i64 n (by rw [hz2];exact b2) b3 (Nat.le_refl _)
  rw [hzc,Nat.mul_one,toList_madeCells_one] at r1
  exact ⟨w',hrun,r1,⟨r2.os,r2.tape,r2.output,r2.size,fun k hk => r2.block k hk (by simp)⟩⟩
end Go.Proofs.YtaccfnffmbndhaaGreat
