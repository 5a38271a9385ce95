/- The walk of conf.Check. The walks of conf.Epochs, Need. The walk of conf.Input. The reference's states: Same, Start. The walk of the reference's Sum. The places of a network's parameters, and the gradient place by place, in plain lists. The walk of sakiaref08.Places. The walk of sakiaref09.errors. The walk of sakiaref09.Gradient. The reference's rule and net; a state turned back. fixp.Sum: a range over an iterator over a slice. No condition. -/
import Derived.Test.YthamijnggdjaoaaGreatDoorT04
import Derived.Test.YthamijnggdjaoaaGreatDoorT03
import Derived.Test.YthamijnggdjaoaaGreatDoorT01
import Derived.Deep.RegionHeld3
import Derived.BigQuiet
import Derived.Deep.QuietTactic
import Derived.Test.YthamijnggdjaoaaGreatDoorProg
import Derived.IntWalk
import Derived.Test.YthamijnggdjaoaaGreatDoorT02
set_option linter.unusedSimpArgs false
set_option linter.unusedVariables false
namespace Go.Proofs.YthamijnggdjaoaaGreatDoor
open Go.RowKit
theorem size_any (n:Int) (w:World):Calls Tryz.prog 99 #[.int .i64 n] w fun e w' => e = .returned (.bool (okB n)) ∧ w = w':=by
  by_cases h1:n < 1
  · go_enter Tryz.func99,Tryz.ntmps99
    go_wp2
    go_ret
    exact ⟨ret_bool (by unfold okB;simp;omega),rfl⟩
  · by_cases h2:1048576 < n
    · go_enter Tryz.func99,Tryz.ntmps99
      go_wp2
      go_ret
      exact ⟨ret_bool (by unfold okB;simp;omega),rfl⟩
    · go_enter Tryz.func99,Tryz.ntmps99
      go_wp2
      go_ret
      exact ⟨ret_bool (by unfold okB;simp;omega),rfl⟩
def SnewC (sz:List Int) (w:World) (e:Ending) (w':World):Prop:=Below w.heap.size w w' ∧ ((GoodSz sz ∧ ∃ b,e = .returned (.tuple #[.pointer (some ⟨b,0,none⟩),.int .i64 0]) ∧ ShapeAt 123 w' b sz ∧ w.heap.size ≤ b) ∨ (¬ GoodSz sz ∧ e = .returned (.tuple #[.pointer none,.int .i64 (szCode sz)])))
def SnewCT (sz:List Int) (w:World) (e:Ending) (w':World):Prop:=Below w.heap.size w w' ∧ ((GoodSz sz ∧ ∃ b,e = .returned (.tuple #[.pointer (some ⟨b,0,none⟩),.int .i64 0]) ∧ ShapeAt 123 (topW w.heap.size w') b sz ∧ w.heap.size ≤ b) ∨ (¬ GoodSz sz ∧ e = .returned (.tuple #[.pointer none,.int .i64 (szCode sz)])))
theorem snew_codeT (A:Option Addr) (sz:List Int) (c:Nat) (w:World) (hA:Rd w A (nums .i64 sz)) (hc:sz.length ≤ c) (hm:c ≤ 9223372036854775807) :
    Calls Tryz.prog 19 #[.slice A sz.length c] w (SnewCT sz w):=by
  by_cases h1:2 ≤ sz.length ∧ sz.length ≤ 16
  · by_cases h2:∀ k,k < sz.length → 1 ≤ nth sz k ∧ nth sz k ≤ 1048576
    · refine (snew_rightT A sz c w hA hc hm ⟨h1,h2⟩).mono fun e w' ⟨hb,h⟩ => ⟨hb,?_⟩
      rcases h with ⟨h,he⟩ | ⟨h,b,he,hs,hz⟩
      · have hg:¬ GoodSz sz:=fun hg => by have:=hg.2;omega
        exact .inr ⟨hg,by rw [szCode_long hg ⟨h1,h2⟩];exact he⟩
      · exact .inl ⟨⟨⟨h1,h2⟩,h⟩,b,he,hs,hz⟩
    · refine (snew_wrong A sz c w hA hc hm h1 h2).mono fun e w' ⟨he,hw⟩ => ?_
      subst hw
      exact ⟨Below.refl _ _,.inr ⟨fun hg => h2 hg.1.2,by rw [szCode_wrong (fun hr => h2 hr.2)];exact he⟩⟩
  · refine (snew_short A sz c w hc hm h1).mono fun e w' ⟨he,hw⟩ => ?_
    subst hw
    exact ⟨Below.refl _ _,.inr ⟨fun hg => h1 hg.1.1,by rw [szCode_wrong (fun hr => h1 hr.1)];exact he⟩⟩
theorem snew_code (A:Option Addr) (sz:List Int) (c:Nat) (w:World) (hA:Rd w A (nums .i64 sz)) (hc:sz.length ≤ c) (hm:c ≤ 9223372036854775807) :
    Calls Tryz.prog 19 #[.slice A sz.length c] w (SnewC sz w):=by
  refine (snew_codeT A sz c w hA hc hm).mono ?_
  rintro e w' ⟨hb,⟨hg,b,he,hs,hz⟩ | h⟩
  · exact ⟨hb,.inl ⟨hg,b,he,top_shape hs (Agr.refl _ _),hz⟩⟩
  · exact ⟨hb,.inr h⟩
abbrev cfgVals (A:Option Addr) (c:Nat) (k:Cfg):Array Value:=#[.slice A k.sizes.length c,.int .i64 k.shift,.int .i64 k.rate,.int .i64 k.mom,.int .i64 k.workers,.int .i64 k.batch,.int .i64 k.micros,.int .i64 k.steps,.int .i64 k.bucket,.int .i64 k.chunk,.int .i64 k.window,.int .i64 k.cap]
structure CfgRd (w:World) (A:Option Addr) (c:Nat) (k:Cfg):Prop where
  hc:k.sizes.length ≤ c
  hm:c ≤ 9223372036854775807
  hl:k.sizes.length ≤ 17592186043904
  hr:Rd w A (nums .i64 k.sizes)
theorem CfgRd.below {w w':World} {A:Option Addr} {c:Nat} {k:Cfg} (h:CfgRd w A c k) (hb:Below w.heap.size w w'):CfgRd w' A c k:=⟨h.hc,h.hm,h.hl,h.hr.below hb⟩
set_option maxRecDepth 100000 in
set_option maxHeartbeats 4000000 in
theorem check_any (A:Option Addr) (c:Nat) (k:Cfg) (w:World) (h:CfgRd w A c k) :
    Calls Tryz.prog 50 #[.agg (cfgVals A c k)] w fun e w' => e = .returned (.int .i64 (cfgCode k)) ∧ Below w.heap.size w w':=by
  have hsn:=fun w' (q:Below w.heap.size w w') => snew_code A k.sizes c w' (h.hr.below q) h.hc h.hm
  have f6:=@cfg_6 k;have f9:=@cfg_9 k;have fs:=@cfg_s k;have f2:=@cfg_2 k;have f7:=@cfg_7 k;have f0:=@cfg_0 k
  unfold wkB shB numsB baB stepsB at *
  obtain ⟨code,hcode⟩:∃ code,cfgCode k = code:=⟨_,rfl⟩
  rw [hcode] at f6 f9 fs f2 f7 f0 ⊢
  clear hcode h
  obtain ⟨sz,sh,ra,mo,wk,ba,mi,st,bu,ch,wi,ca⟩:=k
  dsimp only [cfgVals] at *
  obtain ⟨L,hL⟩:∃ L,sz.length = L:=⟨_,rfl⟩
  rw [hL] at hsn ⊢
  have Hsn:=Lib.hid hsn;have F6:=Lib.hid f6;have F9:=Lib.hid f9;have Fs:=Lib.hid fs;have F2:=Lib.hid f2;have F7:=Lib.hid f7;have F0:=Lib.hid f0
  clear hsn f6 f9 fs f2 f7 f0 hL
  go_enter Tryz.func50,Tryz.ntmps50
  go_wp2_with fail
  have hz:=heap_alloc_new w (.cells #[.slice A L c,.int .i64 sh,.int .i64 ra,.int .i64 mo,.int .i64 wk,.int .i64 ba,.int .i64 mi,.int .i64 st,.int .i64 bu,.int .i64 ch,.int .i64 wi,.int .i64 ca] 24)
  have hB:=(Below.refl _ w).alloc (Nat.le_refl _) (.cells #[.slice A L c,.int .i64 sh,.int .i64 ra,.int .i64 mo,.int .i64 wk,.int .i64 ba,.int .i64 mi,.int .i64 st,.int .i64 bu,.int .i64 ch,.int .i64 wi,.int .i64 ca] 24)
  refine (Hsn.out _ hB).mono ?_
  rintro e w1 ⟨hb1,hs⟩
  have hz1:=(hb1.block _ (lt_of_block hz)).trans hz
  have HB:=Lib.hid (hB.trans (hb1.mono hB.size))
  obtain ⟨⟨z0,z1,z2,z3,z4,z5,z6,z7,z8,z9,z10,z11⟩,zf⟩:=bx12 hz1
  clear hz hB hb1 hz1
  -- the sizes' code
  obtain ⟨p,sc,rfl,hsc⟩:∃ p sc,e = .returned (.tuple #[.pointer p,.int .i64 sc]) ∧ szCode sz = sc:=by
    rcases hs with ⟨hg,b,rfl,_⟩ | ⟨hg,rfl⟩
    · exact ⟨_,0,rfl,szCode_good hg⟩
    · exact ⟨_,_,rfl,rfl⟩
  have Hsc:=Lib.hid hsc
  clear hs hsc
  by_cases h1:wk < 1
  · go_wp2_with fail
    go_ret
    exact ⟨ret_int (F6.out (by rw [decide_eq_false_iff_not];omega)).symm,HB.out⟩
  by_cases h1':64 < wk
  · go_wp2_with fail
    go_ret
    exact ⟨ret_int (F6.out (by rw [decide_eq_false_iff_not];omega)).symm,HB.out⟩
  have G1:=Lib.hid (show decide (1 ≤ wk ∧ wk ≤ 64) = true by rw [decide_eq_true_eq];omega)
  by_cases h2:sh < 1
  · go_wp2_with fail
    go_ret
    exact ⟨ret_int (F9.out G1.out (by rw [decide_eq_false_iff_not];omega)).symm,HB.out⟩
  by_cases h2':62 < sh
  · go_wp2_with fail
    go_ret
    exact ⟨ret_int (F9.out G1.out (by rw [decide_eq_false_iff_not];omega)).symm,HB.out⟩
  have G2:=Lib.hid (show decide (1 ≤ sh ∧ sh ≤ 62) = true by rw [decide_eq_true_eq];omega)
  by_cases h3:sc ≠ 0
  · have hq:(sc != 0) = true:=by rw [bne_iff_ne];exact h3
    have H3:=Lib.hid h3;clear h3
    go_wp2_with fail
    go_ret
    exact ⟨ret_int (by rw [Fs.out G1.out G2.out (by rw [Hsc.out];exact H3.out)];exact Hsc.out.symm),HB.out⟩
  obtain rfl:sc = 0:=by omega
  clear h3
  go_wp2_with fail
  refine (size_any mi _).mono ?_
  rintro e w' ⟨rfl,rfl⟩
  obtain ⟨b0,hb0⟩:∃ b,okB mi = b:=⟨_,rfl⟩
  have O0:=Lib.hid hb0
  rw [hb0]
  clear hb0
  rcases bool_ft b0 with rfl | rfl
  · go_wp2_with fail
    go_ret
    exact ⟨ret_int (F2.out G1.out G2.out Hsc.out (by simp [O0.out])).symm,HB.out⟩
  go_wp2_with fail
  refine (size_any bu _).mono ?_
  rintro e w' ⟨rfl,rfl⟩
  obtain ⟨b1,hb1⟩:∃ b,okB bu = b:=⟨_,rfl⟩
  have O1:=Lib.hid hb1
  rw [hb1]
  clear hb1
  rcases bool_ft b1 with rfl | rfl
  · go_wp2_with fail
    go_ret
    exact ⟨ret_int (F2.out G1.out G2.out Hsc.out (by simp [O0.out,O1.out])).symm,HB.out⟩
  go_wp2_with fail
  refine (size_any ch _).mono ?_
  rintro e w' ⟨rfl,rfl⟩
  obtain ⟨b2,hb2⟩:∃ b,okB ch = b:=⟨_,rfl⟩
  have O2:=Lib.hid hb2
  rw [hb2]
  clear hb2
  rcases bool_ft b2 with rfl | rfl
  · go_wp2_with fail
    go_ret
    exact ⟨ret_int (F2.out G1.out G2.out Hsc.out (by simp [O0.out,O1.out,O2.out])).symm,HB.out⟩
  go_wp2_with fail
  refine (size_any wi _).mono ?_
  rintro e w' ⟨rfl,rfl⟩
  obtain ⟨b3,hb3⟩:∃ b,okB wi = b:=⟨_,rfl⟩
  have O3:=Lib.hid hb3
  rw [hb3]
  clear hb3
  rcases bool_ft b3 with rfl | rfl
  · go_wp2_with fail
    go_ret
    exact ⟨ret_int (F2.out G1.out G2.out Hsc.out (by simp [O0.out,O1.out,O2.out,O3.out])).symm,HB.out⟩
  go_wp2_with fail
  refine (size_any ca _).mono ?_
  rintro e w' ⟨rfl,rfl⟩
  obtain ⟨b4,hb4⟩:∃ b,okB ca = b:=⟨_,rfl⟩
  have O4:=Lib.hid hb4
  rw [hb4]
  clear hb4
  rcases bool_ft b4 with rfl | rfl
  · go_wp2_with fail
    go_ret
    exact ⟨ret_int (F2.out G1.out G2.out Hsc.out (by simp [O0.out,O1.out,O2.out,O3.out,O4.out])).symm,HB.out⟩
  by_cases h4:st = 0
  · have hq:(st != 0) = false:=by rw [h4];rfl
    have G4:=Lib.hid (show (okB mi && okB bu && okB ch && okB wi && okB ca && decide (0 ≤ st ∧ st ≤ 1048576)) = true by rw [O0.out,O1.out,O2.out,O3.out,O4.out];simp;omega)
    clear h4
    by_cases h5:ba < wk
    · go_wp2_with fail
      go_ret
      exact ⟨ret_int (F7.out G1.out G2.out Hsc.out G4.out (by rw [decide_eq_false_iff_not];omega)).symm,HB.out⟩
    by_cases h5':1048576 < ba
    · go_wp2_with fail
      go_ret
      exact ⟨ret_int (F7.out G1.out G2.out Hsc.out G4.out (by rw [decide_eq_false_iff_not];omega)).symm,HB.out⟩
    go_wp2_with fail
    go_ret
    exact ⟨ret_int (F0.out G1.out G2.out Hsc.out G4.out (by rw [decide_eq_true_eq];omega)).symm,HB.out⟩
  · have hq:(st != 0) = true:=by rw [bne_iff_ne];exact h4
    have H4:=Lib.hid h4;clear h4
    go_wp2_with fail
    refine (size_any st _).mono ?_
    rintro e w' ⟨rfl,rfl⟩
    obtain ⟨b5,hb5⟩:∃ b,okB st = b:=⟨_,rfl⟩
    have O5:=Lib.hid hb5
    rw [hb5]
    clear hb5
    rcases bool_ft b5 with rfl | rfl
    · go_wp2_with fail
      go_ret
      exact ⟨ret_int (F2.out G1.out G2.out Hsc.out (by rw [O0.out,O1.out,O2.out,O3.out,O4.out];have:=okB_false O5.out;have:=H4.out;simp;omega)).symm,HB.out⟩
    have G4:=Lib.hid (show (okB mi && okB bu && okB ch && okB wi && okB ca && decide (0 ≤ st ∧ st ≤ 1048576)) = true by rw [O0.out,O1.out,O2.out,O3.out,O4.out];have:=okB_true O5.out;simp;omega)
    by_cases h5:ba < wk
    · go_wp2_with fail
      go_ret
      exact ⟨ret_int (F7.out G1.out G2.out Hsc.out G4.out (by rw [decide_eq_false_iff_not];omega)).symm,HB.out⟩
    by_cases h5':1048576 < ba
    · go_wp2_with fail
      go_ret
      exact ⟨ret_int (F7.out G1.out G2.out Hsc.out G4.out (by rw [decide_eq_false_iff_not];omega)).symm,HB.out⟩
    go_wp2_with fail
    go_ret
    exact ⟨ret_int (F0.out G1.out G2.out Hsc.out G4.out (by rw [decide_eq_true_eq];omega)).symm,HB.out⟩
end Go.Proofs.YthamijnggdjaoaaGreatDoor
namespace Go.Proofs.YthamijnggdjaoaaGreatDoor
open Go.RowKit
theorem pneed_any (n:Nat) (w:World) (hn:1 ≤ n) (hn2:n ≤ 1048576):Calls Tryz.prog 103 #[.int .i64 n] w fun e w' => e = .returned (.int .i64 ((n - 1:Nat):Int)) ∧ w = w':=by
  have h1:(0:Int) ≤ (n:Int) - 1:=by omega
  go_enter Tryz.func103,Tryz.ntmps103
  go_wp2
  all_goals
    go_ret
    exact ⟨ret_int (by omega),rfl⟩
set_option maxRecDepth 100000 in
set_option maxHeartbeats 1000000 in
theorem epochs_any (A:Option Addr) (c n:Nat) (k:Cfg) (w:World) (h:CfgRd w A c k) (hg:GoodCfg k) (hn:k.batch ≤ n ∧ (n:Int) ≤ 1048576) :
    Calls Tryz.prog 102 #[.agg (cfgVals A c k),.int .i64 n] w fun e w' => e = .returned (.int .i64 (epN n k.batch.toNat k.steps.toNat:Int)) ∧ Below w.heap.size w w':=by
  have hck:=fun w' (q:Below w.heap.size w w') => check_any A c k w' (h.below q)
  rw [cfg_good.2 hg] at hck
  have g1:=hg.w;have g2:=hg.ba;have g3:=hg.st
  clear h hg
  obtain ⟨sz,sh,ra,mo,wk,ba,mi,st,bu,ch,wi,ca⟩:=k
  dsimp only [cfgVals] at *
  obtain ⟨bt,rfl⟩:∃ bt:Nat,ba = bt:=⟨ba.toNat,by omega⟩
  obtain ⟨sn,rfl⟩:∃ sn:Nat,st = sn:=⟨st.toNat,by omega⟩
  rw [Int.toNat_natCast,Int.toNat_natCast]
  obtain ⟨L,hL⟩:∃ L,sz.length = L:=⟨_,rfl⟩
  rw [hL] at hck ⊢
  obtain ⟨per,hper⟩:∃ per,n / bt = per:=⟨_,rfl⟩
  have hper1:1 ≤ per:=by rw [← hper];exact Nat.div_pos (by omega) (by omega)
  have hper2:per ≤ n:=by rw [← hper];exact Nat.div_le_self _ _
  have hE:epN n bt sn = (sn + per - 1) / per:=by unfold epN;rw [hper,cntQ_eq _ _ hper1]
  rw [hE]
  have hEl:(sn + per - 1) / per ≤ sn + per - 1:=Nat.div_le_self _ _
  obtain ⟨E,hE2⟩:∃ E,(sn + per - 1) / per = E:=⟨_,rfl⟩
  rw [hE2] at hEl ⊢
  have hq1:(n:Int).tdiv (bt:Int) = (per:Int):=by rw [← hper];rfl
  have hq1':(n:Int) / (bt:Int) = (per:Int):=by rw [← hper];rfl
  have hcast:(sn:Int) + per - 1 = ((sn + per - 1:Nat):Int):=by omega
  have hq2:((sn:Int) + per - 1).tdiv (per:Int) = (E:Int):=by rw [hcast,← hE2];rfl
  have hq2':((sn:Int) + per - 1) / (per:Int) = (E:Int):=by rw [hcast,← hE2];rfl
  have hq3:¬ (bt = 0):=by omega
  have hq4:¬ (per = 0):=by omega
  have hq5:¬ ((n:Int) < bt):=by omega
  have hq6:¬ ((1048576:Int) < n):=by omega
  have Hck:=Lib.hid hck
  clear hck hL hper hE hE2 hcast
  go_enter Tryz.func102,Tryz.ntmps102
  go_wp2_with fail
  have hz:=heap_alloc_new w (.cells #[.slice A L c,.int .i64 sh,.int .i64 ra,.int .i64 mo,.int .i64 wk,.int .i64 bt,.int .i64 mi,.int .i64 sn,.int .i64 bu,.int .i64 ch,.int .i64 wi,.int .i64 ca] 24)
  have hB:=(Below.refl _ w).alloc (Nat.le_refl _) (.cells #[.slice A L c,.int .i64 sh,.int .i64 ra,.int .i64 mo,.int .i64 wk,.int .i64 bt,.int .i64 mi,.int .i64 sn,.int .i64 bu,.int .i64 ch,.int .i64 wi,.int .i64 ca] 24)
  refine (Hck.out _ hB).mono ?_
  rintro e w1 ⟨rfl,hb1⟩
  have hz1:=(hb1.block _ (lt_of_block hz)).trans hz
  have HB:=Lib.hid (hB.trans (hb1.mono hB.size))
  obtain ⟨⟨z0,z1,z2,z3,z4,z5,z6,z7,z8,z9,z10,z11⟩,zf⟩:=bx12 hz1
  clear hz hB hb1 hz1
  go_wp2_with fail
  go_ret
  exact ⟨rfl,HB.out⟩
set_option maxRecDepth 100000 in
theorem need_any (A:Option Addr) (c n:Nat) (k:Cfg) (w:World) (h:CfgRd w A c k) (hg:GoodCfg k) (hn:k.batch ≤ n ∧ (n:Int) ≤ 1048576) :
    Calls Tryz.prog 53 #[.agg (cfgVals A c k),.int .i64 n] w fun e w' => e = .returned (.int .i64 (needN n k.batch.toNat k.steps.toNat:Int)) ∧ Below w.heap.size w w':=by
  have hep:=fun w' (q:Below w.heap.size w w') => epochs_any A c n k w' (h.below q) hg hn
  have g1:=hg.w;have g2:=hg.ba;have g3:=hg.st
  have hpn:=fun w' => pneed_any n w' (by omega) (by omega)
  have hle:=needN_le (n:=n) (b:=k.batch.toNat) (st:=k.steps.toNat) (by omega) (by omega)
  unfold needN at hle ⊢
  clear h hg
  obtain ⟨sz,sh,ra,mo,wk,ba,mi,st,bu,ch,wi,ca⟩:=k
  dsimp only [cfgVals] at *
  obtain ⟨L,hL⟩:∃ L,sz.length = L:=⟨_,rfl⟩
  rw [hL] at hep ⊢
  obtain ⟨E,hE⟩:∃ E,epN n ba.toNat st.toNat = E:=⟨_,rfl⟩
  obtain ⟨m,hm⟩:∃ m,n - 1 = m:=⟨_,rfl⟩
  rw [hE] at hep hle ⊢
  rw [hm] at hpn hle ⊢
  obtain ⟨y,hy⟩:∃ y,E * m = y:=⟨_,rfl⟩
  rw [hy] at hle ⊢
  have hmul:(E:Int) * (m:Int) = (y:Int):=by rw [← hy];push_cast;rfl
  have Hep:=Lib.hid hep;have Hpn:=Lib.hid hpn
  clear hep hpn hL hE hm hy
  go_enter Tryz.func53,Tryz.ntmps53
  go_wp2_with fail
  have hz:=heap_alloc_new w (.cells #[.slice A L c,.int .i64 sh,.int .i64 ra,.int .i64 mo,.int .i64 wk,.int .i64 ba,.int .i64 mi,.int .i64 st,.int .i64 bu,.int .i64 ch,.int .i64 wi,.int .i64 ca] 24)
  have hB:=(Below.refl _ w).alloc (Nat.le_refl _) (.cells #[.slice A L c,.int .i64 sh,.int .i64 ra,.int .i64 mo,.int .i64 wk,.int .i64 ba,.int .i64 mi,.int .i64 st,.int .i64 bu,.int .i64 ch,.int .i64 wi,.int .i64 ca] 24)
  refine (Hep.out _ hB).mono ?_
  rintro e w1 ⟨rfl,hb1⟩
  have HB:=Lib.hid (hB.trans (hb1.mono hB.size))
  clear hz hB hb1
  go_wp2_with fail
  refine (Hpn.out _).mono ?_
  rintro e w2 ⟨rfl,rfl⟩
  go_wp2_with fail
  go_ret
  exact ⟨rfl,HB.out⟩
end Go.Proofs.YthamijnggdjaoaaGreatDoor
namespace Go.Proofs.YthamijnggdjaoaaGreatDoor
open Go.RowKit
abbrev inpVals (A:Option Addr) (c:Nat) (D:Option Addr) (cd:Nat) (T:Option Addr) (ct:Nat) (R:Option Addr) (cr:Nat) (i:Inp):Array Value:=
  #[.slice A i.cfg.sizes.length c,.int .i64 i.cfg.shift,.int .i64 i.cfg.rate,.int .i64 i.cfg.mom,.int .i64 i.cfg.workers,.int .i64 i.cfg.batch,.int .i64 i.cfg.micros,.int .i64 i.cfg.steps,.int .i64 i.cfg.bucket,.int .i64 i.cfg.chunk,.int .i64 i.cfg.window,.int .i64 i.cfg.cap,
    .slice D i.data.length cd,.slice T i.start.length ct,.slice R i.draws.length cr]
structure InpRd (w:World) (A:Option Addr) (c:Nat) (D:Option Addr) (T:Option Addr) (ct:Nat) (R:Option Addr) (i:Inp):Prop where
  c:CfgRd w A c i.cfg
  d:SlRd rEx 2 w D i.data
  dl:i.data.length ≤ 1048576
  t:NumsRd w T i.start ct
  tl:i.start.length ≤ 1048576
  r:Rd w R (nums .u64 i.draws)
  rl:i.draws.length ≤ 1048576
  ru:U64 i.draws
  ra:-9223372036854775808 ≤ i.cfg.rate ∧ i.cfg.rate ≤ 9223372036854775807
  rm:-9223372036854775808 ≤ i.cfg.mom ∧ i.cfg.mom ≤ 9223372036854775807
theorem InpRd.below {w w':World} {A:Option Addr} {c:Nat} {D T R:Option Addr} {ct:Nat} {i:Inp} (h:InpRd w A c D T ct R i) (hb:Below w.heap.size w w'):InpRd w' A c D T ct R i:=
  ⟨h.c.below hb,h.d.below stays_ex hb,h.dl,h.t.below hb,h.tl,h.r.below hb,h.rl,h.ru,h.ra,h.rm⟩
set_option maxRecDepth 100000 in
set_option maxHeartbeats 4000000 in
theorem input_any (A:Option Addr) (c:Nat) (D:Option Addr) (cd:Nat) (T:Option Addr) (ct:Nat) (R:Option Addr) (cr:Nat) (i:Inp) (w:World) (h:InpRd w A c D T ct R i) :
    Calls Tryz.prog 17 #[.agg (inpVals A c D cd T ct R cr i)] w fun e w' => e = .returned (.int .i64 (inCode i)) ∧ Below w.heap.size w w':=by
  have hck:=fun w' (q:Below w.heap.size w w') => check_any A c i.cfg w' (h.c.below q)
  have hsn:=fun w' (q:Below w.heap.size w w') => snew_code A i.cfg.sizes c w' (h.c.hr.below q) h.c.hc h.c.hm
  have hct:=fun S w' (hS:ShapeAt 123 w' S i.cfg.sizes) => shape_count S i.cfg.sizes w' hS
  have hdc:=fun a b w' (q:Below w.heap.size w w') => dcheck_any a b cd D i.data w' (h.d.below stays_ex q) h.dl
  have hnd:=fun (hg:GoodCfg i.cfg) (hb:i.cfg.batch ≤ i.data.length ∧ (i.data.length:Int) ≤ 1048576) w' (q:Below w.heap.size w w') => need_any A c i.data.length i.cfg w' (h.c.below q) hg hb
  have fc:=@in_c i;have f7:=@in_7 i;have f5:=@in_5 i;have f8:=@in_8 i;have f0:=@in_0 i
  have hgd:=@cfg_good i.cfg
  have hsr:=h.c.hr
  have hdl:=h.dl;have htl:=h.tl;have hrl:=h.rl
  unfold DChkIs at hdc
  unfold batchB at f7 f5 f8 f0
  unfold shapeB fitB inN outN cnt at f5 f8 f0
  unfold drawsB at f8 f0
  obtain ⟨code,hcode⟩:∃ code,inCode i = code:=⟨_,rfl⟩
  rw [hcode] at fc f7 f5 f8 f0 ⊢
  clear hcode h
  obtain ⟨⟨sz,sh,ra,mo,wk,ba,mi,st,bu,ch,wi,ca⟩,data,start,draws⟩:=i
  dsimp only [inpVals,cfgVals] at *
  obtain ⟨L,hL⟩:∃ L,sz.length = L:=⟨_,rfl⟩
  obtain ⟨N,hN⟩:∃ N,data.length = N:=⟨_,rfl⟩
  obtain ⟨M,hM⟩:∃ M,start.length = M:=⟨_,rfl⟩
  obtain ⟨Q,hQ⟩:∃ Q,draws.length = Q:=⟨_,rfl⟩
  obtain ⟨cc,hcc⟩:∃ cc,cfgCode ⟨sz,sh,ra,mo,wk,ba,mi,st,bu,ch,wi,ca⟩ = cc:=⟨_,rfl⟩
  rw [hL] at hck hsn hct hnd f5 f8 f0 ⊢
  rw [hN] at hdc hnd f7 f5 f8 f0 hdl ⊢
  rw [hM] at f5 f8 f0 htl ⊢
  rw [hQ] at f8 f0 hrl ⊢
  rw [hcc] at hck fc f7 f5 f8 f0 hgd
  obtain ⟨CN,hCN⟩:∃ CN,cntN sz (L - 1) = CN:=⟨_,rfl⟩
  rw [hCN] at hct f5 f8 f0
  obtain ⟨ND,hND⟩:∃ ND,needN N ba.toNat st.toNat = ND:=⟨_,rfl⟩
  rw [hND] at hnd f8 f0
  have Hck:=Lib.hid hck;have Hsn:=Lib.hid hsn;have Hct:=Lib.hid hct;have Hdc:=Lib.hid hdc;have Hnd:=Lib.hid hnd;have Fc:=Lib.hid fc;have F7:=Lib.hid f7;have F5:=Lib.hid f5;have F8:=Lib.hid f8;have F0:=Lib.hid f0;have Hgd:=Lib.hid hgd;have Hsr:=Lib.hid hsr;have HL:=Lib.hid hL;have HCN:=Lib.hid hCN
  clear hck hsn hct hdc hnd fc f7 f5 f8 f0 hgd hsr hL hN hM hQ hcc hCN hND
  go_enter Tryz.func17,Tryz.ntmps17
  go_wp2_with fail
  have hz:=(Below.heap_alloc (w.alloc (.cells #[.slice A L c,.int .i64 sh,.int .i64 ra,.int .i64 mo,.int .i64 wk,.int .i64 ba,.int .i64 mi,.int .i64 st,.int .i64 bu,.int .i64 ch,.int .i64 wi,.int .i64 ca,.slice D N cd,.slice T M ct,.slice R Q cr] 29)) (.cells #[.slice A L c,.int .i64 sh,.int .i64 ra,.int .i64 mo,.int .i64 wk,.int .i64 ba,.int .i64 mi,.int .i64 st,.int .i64 bu,.int .i64 ch,.int .i64 wi,.int .i64 ca] 24) w.heap.size (by simp)).trans (heap_alloc_new w _)
  have hy:=heap_alloc_new (w.alloc (.cells #[.slice A L c,.int .i64 sh,.int .i64 ra,.int .i64 mo,.int .i64 wk,.int .i64 ba,.int .i64 mi,.int .i64 st,.int .i64 bu,.int .i64 ch,.int .i64 wi,.int .i64 ca,.slice D N cd,.slice T M ct,.slice R Q cr] 29)) (.cells #[.slice A L c,.int .i64 sh,.int .i64 ra,.int .i64 mo,.int .i64 wk,.int .i64 ba,.int .i64 mi,.int .i64 st,.int .i64 bu,.int .i64 ch,.int .i64 wi,.int .i64 ca] 24)
  rw [show (w.alloc (.cells #[.slice A L c,.int .i64 sh,.int .i64 ra,.int .i64 mo,.int .i64 wk,.int .i64 ba,.int .i64 mi,.int .i64 st,.int .i64 bu,.int .i64 ch,.int .i64 wi,.int .i64 ca,.slice D N cd,.slice T M ct,.slice R Q cr] 29)).heap.size = w.heap.size + 1 by simp] at hy
  have hB:Below w.heap.size w ((w.alloc (.cells #[.slice A L c,.int .i64 sh,.int .i64 ra,.int .i64 mo,.int .i64 wk,.int .i64 ba,.int .i64 mi,.int .i64 st,.int .i64 bu,.int .i64 ch,.int .i64 wi,.int .i64 ca,.slice D N cd,.slice T M ct,.slice R Q cr] 29)).alloc (.cells #[.slice A L c,.int .i64 sh,.int .i64 ra,.int .i64 mo,.int .i64 wk,.int .i64 ba,.int .i64 mi,.int .i64 st,.int .i64 bu,.int .i64 ch,.int .i64 wi,.int .i64 ca] 24)):=((Below.refl _ w).alloc (Nat.le_refl _) _).alloc (by simp) _
  obtain ⟨W0,hW0⟩:∃ W0,W0 = (w.alloc (.cells #[.slice A L c,.int .i64 sh,.int .i64 ra,.int .i64 mo,.int .i64 wk,.int .i64 ba,.int .i64 mi,.int .i64 st,.int .i64 bu,.int .i64 ch,.int .i64 wi,.int .i64 ca,.slice D N cd,.slice T M ct,.slice R Q cr] 29)).alloc (.cells #[.slice A L c,.int .i64 sh,.int .i64 ra,.int .i64 mo,.int .i64 wk,.int .i64 ba,.int .i64 mi,.int .i64 st,.int .i64 bu,.int .i64 ch,.int .i64 wi,.int .i64 ca] 24):=⟨_,rfl⟩
  rw [← hW0] at hz hy hB ⊢
  clear hW0
  refine (Hck.out _ hB).mono ?_
  rintro e w1 ⟨rfl,hb1⟩
  have hz1:=(hb1.block _ (lt_of_block hz)).trans hz
  have hy1:=(hb1.block _ (lt_of_block hy)).trans hy
  have HB:=Lib.hid (hB.trans (hb1.mono hB.size))
  obtain ⟨⟨z0,z1,z2,z3,z4,z5,z6,z7,z8,z9,z10,z11,z12,z13,z14⟩,zf⟩:=bx15 hz1
  obtain ⟨⟨y0,y1,y2,y3,y4,y5,y6,y7,y8,y9,y10,y11⟩,yf⟩:=bx12 hy1
  have lz:=lt_of_block hz1;have ly:=lt_of_block hy1
  have HZ:=Lib.hid hz1;have HY:=Lib.hid hy1
  clear hz hy hB hb1 hz1 hy1
  by_cases h3:cc ≠ 0
  · have hq:(cc != 0) = true:=by rw [bne_iff_ne];exact h3
    have H3:=Lib.hid h3;clear h3
    go_wp2_with fail
    go_ret
    exact ⟨ret_int (Fc.out H3.out).symm,HB.out⟩
  obtain rfl:cc = 0:=by omega
  clear h3
  have hg:=Hgd.out.1 rfl
  have g1:=hg.w;have g2:=hg.ba;have g3:=hg.st;have gz:=hg.z
  have HG:=Lib.hid hg
  dsimp only at g1 g2 g3 gz
  clear hg
  have hl16:=gz.1.1
  rw [HL.out] at hl16
  have s0:=gz.1.at (k:=0) (by have:=HL.out;omega)
  have s1:=gz.1.at (k:=L - 1) (by have:=HL.out;omega)
  obtain ⟨bz,oz,rfl,p0⟩:=Hsr.out.num (show 0 < sz.length by have:=HL.out;omega)
  obtain ⟨_,_,e',p1⟩:=Hsr.out.num (show L - 1 < sz.length by have:=HL.out;omega)
  injection e' with e';injection e' with e1 e2 _;subst e1;subst e2
  rw [s0.2.2,Nat.add_zero] at p0
  rw [s1.2.2] at p1
  obtain ⟨n0,hn0⟩:∃ n0,szN sz 0 = n0:=⟨_,rfl⟩
  obtain ⟨n1,hn1⟩:∃ n1,szN sz (L - 1) = n1:=⟨_,rfl⟩
  have f5:=F5.out;have f8:=F8.out;have f0:=F0.out
  rw [hn0,hn1] at f5 f8 f0
  rw [hn0] at p0 s0
  rw [hn1] at p1 s1
  have F5:=Lib.hid f5;have F8:=Lib.hid f8;have F0:=Lib.hid f0;have HGZ:=Lib.hid gz
  have hb5:bz < w.heap.size:=lt_of_cell p0
  have P0:=Lib.hid p0;have P1:=Lib.hid p1
  clear f5 f8 f0 gz hn0 hn1 p0 p1 s0 s1
  obtain ⟨bt,rfl⟩:∃ bt:Nat,ba = bt:=⟨ba.toNat,by omega⟩
  go_wp2_with fail
  refine (Hsn.out _ HB.out).mono ?_
  rintro e w2 ⟨hb2,hs⟩
  obtain ⟨S,rfl,hS⟩:∃ S,e = .returned (.tuple #[.pointer (some ⟨S,0,none⟩),.int .i64 0]) ∧ ShapeAt 123 w2 S sz:=by
    rcases hs with ⟨_,S,he,hS,_⟩ | ⟨hng,_⟩
    · exact ⟨S,he,hS⟩
    · exact absurd HGZ.out hng
  clear hs
  have hz2:=(hb2.block _ lz).trans HZ.out
  have hy2:=(hb2.block _ ly).trans HY.out
  have HB2:=Lib.hid (HB.out.trans (hb2.mono HB.out.size))
  clear z0 z1 z2 z3 z4 z5 z6 z7 z8 z9 z10 z11 z12 z13 z14 zf y0 y1 y2 y3 y4 y5 y6 y7 y8 y9 y10 y11 yf lz ly
  obtain ⟨⟨z0,z1,z2,z3,z4,z5,z6,z7,z8,z9,z10,z11,z12,z13,z14⟩,zf⟩:=bx15 hz2
  obtain ⟨⟨y0,y1,y2,y3,y4,y5,y6,y7,y8,y9,y10,y11⟩,yf⟩:=bx12 hy2
  have lz:=lt_of_block hz2;have ly:=lt_of_block hy2
  have HZ2:=Lib.hid hz2;have HY2:=Lib.hid hy2;have HS:=Lib.hid hS
  clear hb2 hz2 hy2 hS
  have p0:=(HB2.out.cell (p:=⟨bz,oz,none⟩) hb5).trans P0.out
  have p1:=(HB2.out.cell (p:=⟨bz,oz + (L - 1),none⟩) hb5).trans P1.out
  have hw1:IntKind.i64.wrap ((L:Int) - 1) = ((L - 1:Nat):Int):=by rw [IntWalk.i64_in _ (by omega)];omega
  have hLi:((L - 1:Nat):Int) < L:=by omega
  have hLn:L - 1 < L:=by omega
  have hL0:0 < L:=by omega
  have hL0i:(0:Int) < L:=by omega
  go_wp2_with fail
  have hSw:(fun w':World => w'.cell? ⟨w.heap.size,12,none⟩ = some (.slice D N cd) ∧ w'.cell? ⟨w.heap.size + 1,0,none⟩ = some (.slice (some ⟨bz,oz,none⟩) L c) ∧ w'.cell? ⟨bz,oz,none⟩ = some (.int .i64 n0) ∧ w'.cell? ⟨bz,oz + (L - 1),none⟩ = some (.int .i64 n1)) w2.drew:=⟨z12,y0,p0,p1⟩
  refine HA.g (fun w':World => w'.cell? ⟨w.heap.size,12,none⟩ = some (.slice D N cd) ∧ w'.cell? ⟨w.heap.size + 1,0,none⟩ = some (.slice (some ⟨bz,oz,none⟩) L c) ∧ w'.cell? ⟨bz,oz,none⟩ = some (.int .i64 n0) ∧ w'.cell? ⟨bz,oz + (L - 1),none⟩ = some (.int .i64 n1)) ?_
  refine HA.t ?_ [0,1,2,3,4,5,6,7,8,9,10,11,12,13] hSw ?_
  refine HA.o 14 (fun K hK => ?_)
  go_simp
  refine (Hdc.out n0 n1 _ HB2.out.drew).mono ?_
  rintro e w3 ⟨hb3,d,hd⟩
  have hS3:=And.intro (cell_below hb3 hSw.1) (And.intro (cell_below hb3 hSw.2.1) (And.intro (cell_below hb3 hSw.2.2.1) (cell_below hb3 hSw.2.2.2)))
  have hb3':Below w2.heap.size w2 w3:=(Below.refl w2.heap.size w2).drew.trans hb3
  have hz3:=(hb3'.block _ lz).trans HZ2.out
  have hy3:=(hb3'.block _ ly).trans HY2.out
  have hs3:=HS.out.below hb3'
  have HB3:=Lib.hid (HB2.out.trans (hb3'.mono HB2.out.size))
  have HZ3:=Lib.hid hz3;have HY3:=Lib.hid hy3;have HS3:=Lib.hid hs3
  obtain ⟨fit,rfl,hfit⟩:∃ fit,e = .returned (.tuple #[.int .i64 d,.bool fit]) ∧ decide (∀ x ∈ data,fitEx n0 n1 x) = fit:=by
    rcases hd with ⟨ha,rfl⟩ | ⟨ha,rfl⟩
    · exact ⟨true,rfl,decide_eq_true ha⟩
    · exact ⟨false,rfl,decide_eq_false ha⟩
  have Hfit:=Lib.hid hfit
  clear hb3 hb3' hz3 hy3 hs3 hd hfit hSw
  dsimp only
  refine hK.out _ _ hS3 (fun hSw => ?_)
  clear hK K hS3
  refine HA.t ?_ [15,16,17,18,19] hSw ?_
  refine HA.d ?_
  clear hSw z0 z1 z2 z3 z4 z5 z6 z7 z8 z9 z10 z11 z12 z13 z14 zf y0 y1 y2 y3 y4 y5 y6 y7 y8 y9 y10 y11 yf lz ly hw1
  have hz3:=HZ3.out;have hy3:=HY3.out
  obtain ⟨⟨z0,z1,z2,z3,z4,z5,z6,z7,z8,z9,z10,z11,z12,z13,z14⟩,zf⟩:=bx15 hz3
  obtain ⟨⟨y0,y1,y2,y3,y4,y5,y6,y7,y8,y9,y10,y11⟩,yf⟩:=bx12 hy3
  have lz:=lt_of_block hz3;have ly:=lt_of_block hy3
  clear hz3 hy3
  by_cases h7:N < bt
  · have hq:(N:Int) < bt:=by omega
    go_wp2_with fail
    go_ret
    exact ⟨ret_int (F7.out trivial (by rw [decide_eq_false_iff_not];omega)).symm,HB3.out⟩
  have hq7:¬ ((N:Int) < bt):=by omega
  have hq8:¬ ((1048576:Int) < N):=by omega
  have G1:=Lib.hid (show decide ((bt:Int) ≤ N ∧ N ≤ 1048576) = true by rw [decide_eq_true_eq];omega)
  rcases bool_ft fit with rfl | rfl
  · go_wp2_with fail
    go_quiet (fail)
    go_wp2_with fail
    go_ret
    exact ⟨ret_int (F5.out trivial G1.out (by rw [Hfit.out];rfl)).symm,below_drewN HB3.out _⟩
  have hcnt:=fun w' (q:Below w3.heap.size w3 w') => Hct.out S w' (HS3.out.below q)
  have Hcnt:=Lib.hid hcnt;clear hcnt
  by_cases h5:M ≠ CN
  · have hq:((M:Int) != (CN:Int)) = true:=by rw [bne_iff_ne];omega
    have H5:=Lib.hid h5;clear h5
    go_wp2_with fail
    go_quiet ((go_at_call 52;refine Calls.quiet_of ((Hcnt.out _ ?_).mono fun e w' ⟨he,hw⟩ => ⟨he,0,hw.symm⟩);(focus (repeat' (first | (with_reducible exact Below.refl _ _) | (with_reducible assumption) | (with_reducible refine Below.setCell ?_ ?_ _) | (with_reducible refine Below.alloc ?_ ?_ _) | (with_reducible refine below_drewN ?_ _) | (with_reducible refine Below.drew ?_) | (with_reducible exact Nat.le_refl _) | omega | (simp;done) | (simp;omega))))))
    go_wp2_with fail
    go_ret
    exact ⟨ret_int (F5.out trivial G1.out (by rw [Hfit.out,decide_eq_false H5.out];rfl)).symm,below_drewN HB3.out _⟩
  have hq:((M:Int) != (CN:Int)) = false:=by rw [bne_eq_false_iff_eq];omega
  have G2:=Lib.hid (show (decide (∀ x ∈ data,fitEx n0 n1 x) && decide (M = CN)) = true by rw [Hfit.out,decide_eq_true (show M = CN by omega)];rfl)
  clear h5
  go_wp2_with fail
  go_quiet ((go_at_call 52;refine Calls.quiet_of ((Hcnt.out _ ?_).mono fun e w' ⟨he,hw⟩ => ⟨he,0,hw.symm⟩);(focus (repeat' (first | (with_reducible exact Below.refl _ _) | (with_reducible assumption) | (with_reducible refine Below.setCell ?_ ?_ _) | (with_reducible refine Below.alloc ?_ ?_ _) | (with_reducible refine below_drewN ?_ _) | (with_reducible refine Below.drew ?_) | (with_reducible exact Nat.le_refl _) | omega | (simp;done) | (simp;omega))))))
  go_wp2_with fail
  obtain ⟨V,hV⟩:∃ V,V = w3.drewN nq:=⟨_,rfl⟩
  have hBV:Below w.heap.size w V:=by rw [hV];exact below_drewN HB3.out _
  have hzV:V.heap[w.heap.size]? = some (.cells #[.slice (some ⟨bz,oz,none⟩) L c,.int .i64 sh,.int .i64 ra,.int .i64 mo,.int .i64 wk,.int .i64 bt,.int .i64 mi,.int .i64 st,.int .i64 bu,.int .i64 ch,.int .i64 wi,.int .i64 ca,.slice D N cd,.slice T M ct,.slice R Q cr] 29 (0,0)):=by rw [hV];exact HZ3.out
  have hyV:V.heap[w.heap.size + 1]? = some (.cells #[.slice (some ⟨bz,oz,none⟩) L c,.int .i64 sh,.int .i64 ra,.int .i64 mo,.int .i64 wk,.int .i64 bt,.int .i64 mi,.int .i64 st,.int .i64 bu,.int .i64 ch,.int .i64 wi,.int .i64 ca] 24 (0,0)):=by rw [hV];exact HY3.out
  clear z0 z1 z2 z3 z4 z5 z6 z7 z8 z9 z10 z11 z12 z13 z14 zf y0 y1 y2 y3 y4 y5 y6 y7 y8 y9 y10 y11 yf
  rw [← hV]
  clear hV
  obtain ⟨⟨z0,z1,z2,z3,z4,z5,z6,z7,z8,z9,z10,z11,z12,z13,z14⟩,zf⟩:=bx15 hzV
  obtain ⟨⟨y0,y1,y2,y3,y4,y5,y6,y7,y8,y9,y10,y11⟩,yf⟩:=bx12 hyV
  have HBV:=Lib.hid hBV;clear hBV hzV hyV
  have hnd:=Hnd.out HG.out (by omega) V.drew HBV.out.drew
  have Hnd2:=Lib.hid hnd;clear hnd
  have hSw:(fun w':World => w'.cell? ⟨w.heap.size,14,none⟩ = some (.slice R Q cr) ∧ w'.cell? ⟨w.heap.size + 1,0,none⟩ = some (.slice (some ⟨bz,oz,none⟩) L c) ∧ w'.cell? ⟨w.heap.size + 1,1,none⟩ = some (.int .i64 sh) ∧ w'.cell? ⟨w.heap.size + 1,2,none⟩ = some (.int .i64 ra) ∧ w'.cell? ⟨w.heap.size + 1,3,none⟩ = some (.int .i64 mo) ∧ w'.cell? ⟨w.heap.size + 1,4,none⟩ = some (.int .i64 wk) ∧ w'.cell? ⟨w.heap.size + 1,5,none⟩ = some (.int .i64 bt) ∧ w'.cell? ⟨w.heap.size + 1,6,none⟩ = some (.int .i64 mi) ∧ w'.cell? ⟨w.heap.size + 1,7,none⟩ = some (.int .i64 st) ∧ w'.cell? ⟨w.heap.size + 1,8,none⟩ = some (.int .i64 bu) ∧ w'.cell? ⟨w.heap.size + 1,9,none⟩ = some (.int .i64 ch) ∧ w'.cell? ⟨w.heap.size + 1,10,none⟩ = some (.int .i64 wi) ∧ w'.cell? ⟨w.heap.size + 1,11,none⟩ = some (.int .i64 ca)) V.drew:=⟨z14,y0,y1,y2,y3,y4,y5,y6,y7,y8,y9,y10,y11⟩
  refine HA.g (fun w':World => w'.cell? ⟨w.heap.size,14,none⟩ = some (.slice R Q cr) ∧ w'.cell? ⟨w.heap.size + 1,0,none⟩ = some (.slice (some ⟨bz,oz,none⟩) L c) ∧ w'.cell? ⟨w.heap.size + 1,1,none⟩ = some (.int .i64 sh) ∧ w'.cell? ⟨w.heap.size + 1,2,none⟩ = some (.int .i64 ra) ∧ w'.cell? ⟨w.heap.size + 1,3,none⟩ = some (.int .i64 mo) ∧ w'.cell? ⟨w.heap.size + 1,4,none⟩ = some (.int .i64 wk) ∧ w'.cell? ⟨w.heap.size + 1,5,none⟩ = some (.int .i64 bt) ∧ w'.cell? ⟨w.heap.size + 1,6,none⟩ = some (.int .i64 mi) ∧ w'.cell? ⟨w.heap.size + 1,7,none⟩ = some (.int .i64 st) ∧ w'.cell? ⟨w.heap.size + 1,8,none⟩ = some (.int .i64 bu) ∧ w'.cell? ⟨w.heap.size + 1,9,none⟩ = some (.int .i64 ch) ∧ w'.cell? ⟨w.heap.size + 1,10,none⟩ = some (.int .i64 wi) ∧ w'.cell? ⟨w.heap.size + 1,11,none⟩ = some (.int .i64 ca)) ?_
  refine HA.t ?_ [0,1,2,3,4] hSw ?_
  refine HA.o 5 (fun K hK => ?_)
  go_simp
  refine Hnd2.out.mono ?_
  rintro e w4 ⟨rfl,hb4⟩
  have HB4:=Lib.hid (HBV.out.trans ((Below.refl V.heap.size V).drew.trans hb4 |>.mono HBV.out.size))
  have hS4:=And.intro (cell_below hb4 hSw.1) (And.intro (cell_below hb4 hSw.2.1) (And.intro (cell_below hb4 hSw.2.2.1) (And.intro (cell_below hb4 hSw.2.2.2.1) (And.intro (cell_below hb4 hSw.2.2.2.2.1) (And.intro (cell_below hb4 hSw.2.2.2.2.2.1) (And.intro (cell_below hb4 hSw.2.2.2.2.2.2.1) (And.intro (cell_below hb4 hSw.2.2.2.2.2.2.2.1) (And.intro (cell_below hb4 hSw.2.2.2.2.2.2.2.2.1) (And.intro (cell_below hb4 hSw.2.2.2.2.2.2.2.2.2.1) (And.intro (cell_below hb4 hSw.2.2.2.2.2.2.2.2.2.2.1) (And.intro (cell_below hb4 hSw.2.2.2.2.2.2.2.2.2.2.2.1) (cell_below hb4 hSw.2.2.2.2.2.2.2.2.2.2.2.2))))))))))))
  clear hb4 hSw
  dsimp only
  refine hK.out _ _ hS4 (fun hSw => ?_)
  clear hK K hS4
  refine HA.t ?_ [6,7] hSw ?_
  refine HA.d ?_
  clear hSw z0 z1 z2 z3 z4 z5 z6 z7 z8 z9 z10 z11 z12 z13 z14 zf y0 y1 y2 y3 y4 y5 y6 y7 y8 y9 y10 y11 yf
  by_cases h8:ND ≤ Q
  · have hq9:¬ ((Q:Int) < ND):=by omega
    have hqd:decide ((Q:Int) < ND) = false:=by simp;omega
    have hqe:decide (Q < ND) = false:=by simp;omega
    have G8:=Lib.hid (decide_eq_true h8)
    go_wp2_with fail
    go_ret
    exact ⟨ret_int (F0.out trivial G1.out G2.out G8.out).symm,HB4.out⟩
  · have hq9:(Q:Int) < ND:=by omega
    have hqd:decide ((Q:Int) < ND) = true:=by simp;omega
    have hqe:decide (Q < ND) = true:=by simp;omega
    have G8:=Lib.hid (decide_eq_false h8)
    go_wp2_with fail
    go_ret
    exact ⟨ret_int (F8.out trivial G1.out G2.out G8.out).symm,HB4.out⟩
end Go.Proofs.YthamijnggdjaoaaGreatDoor
namespace Go.Proofs.YthamijnggdjaoaaGreatDoor
open Go.RowKit
--? same
theorem et_ri64s:ElemT Tryz.prog 26 2 (.int .i64 0) 1 8:=⟨Tryz.underlying26,info_parts (by kernel_rfl),rfl,by decide⟩
set_option maxRecDepth 100000 in
theorem rstart_any (A:Option Addr) (n c:Nat) (w:World) (hn:n ≤ 1048576) :
    Calls Tryz.prog 74 #[.slice A n c] w fun e w' => ∃ A2,e = .returned (.agg #[.slice A n c,.slice A2 n n]) ∧ w'.ownsRow w.heap.size 2 1 (.slice A2 n n) n (nums .i64 (List.replicate n 0)) ∧ Below w.heap.size w w':=by
  have hmk:=fun w' => run_mk et_ri64s w' rfl n (by omega) (by unfold maxLen;omega)
  simp only [nums_rep] at hmk
  have Hmk:=Lib.hid hmk
  clear hmk
  have hz:=heap_alloc_new w (.cells #[.slice none 0 0,.slice none 0 0] 84)
  have hB0:Below w.heap.size w (w.alloc (.cells #[.slice none 0 0,.slice none 0 0] 84)):=(Below.refl _ w).alloc (Nat.le_refl _) _
  have hl0:=lt_of_block hz
  obtain ⟨V,hrun,ho2,hb2⟩:=Hmk.out (w.alloc (.cells #[.slice none 0 0,.slice none 0 0] 84))
  rw [show (w.alloc (.cells #[.slice none 0 0,.slice none 0 0] 84)).heap.size = w.heap.size + 1 by simp] at hrun ho2
  have HZ2:=Lib.hid ((hb2.block w.heap.size hl0).trans hz)
  have HO2:=Lib.hid (own_base (base':=w.heap.size) ho2 (by omega));have HB2:=Lib.hid (hB0.trans (hb2.mono (by omega)))
  have hz2:=HZ2.out
  obtain ⟨⟨z0,z1⟩,zf⟩:=bx2 hz2
  have hl2:=lt_of_block hz2
  clear hz hB0 ho2 hb2 hz2 hl0
  go_enter Tryz.func74,Tryz.ntmps74
  go_wp2_with fail
  have e1:=heap_setCell_same V w.heap.size 0 _ _ (.slice A n c) HZ2.out
  have e2:=heap_setCell_same _ w.heap.size 1 _ _ (.slice (some ⟨w.heap.size + 1,0,none⟩) n n) e1
  have e3:((V.setCell ⟨w.heap.size,0,none⟩ (.slice A n c)).setCell ⟨w.heap.size,1,none⟩ (.slice (some ⟨w.heap.size + 1,0,none⟩) n n)).heap[w.heap.size]? = some (.cells #[.slice A n c,.slice (some ⟨w.heap.size + 1,0,none⟩) n n] 84 (0,0)):=by simpa using e2
  have hk:Keep (fun j => j = w.heap.size) V ((V.setCell ⟨w.heap.size,0,none⟩ (.slice A n c)).setCell ⟨w.heap.size,1,none⟩ (.slice (some ⟨w.heap.size + 1,0,none⟩) n n)):=Keep.setCell (S:=fun j => j = w.heap.size) (Keep.setCell (S:=fun j => j = w.heap.size) (Keep.refl _ _) _ (.inr rfl) _) _ (.inr rfl) _
  obtain ⟨W9,hW9⟩:∃ W9,W9 = (V.setCell ⟨w.heap.size,0,none⟩ (.slice A n c)).setCell ⟨w.heap.size,1,none⟩ (.slice (some ⟨w.heap.size + 1,0,none⟩) n n):=⟨_,rfl⟩
  rw [← hW9] at e3 hk ⊢
  obtain ⟨⟨r0,r1⟩,rf⟩:=bx2 e3
  have hm9:=hk.own HO2.out (fun j hj e => block_notrow HZ2.out (by decide) HO2.out (by rw [hj,e]))
  exact bodyPost_ret (v:=.agg #[.slice A n c,.slice (some ⟨w.heap.size + 1,0,none⟩) n n]) (by simp [results,Tryz.results74,go_sem,r0,r1]) rfl ⟨_,rfl,hm9,HB2.out.trans (hk.toBelow HB2.out.size (fun j hj => by omega))⟩
end Go.Proofs.YthamijnggdjaoaaGreatDoor
namespace Go.Proofs.YthamijnggdjaoaaGreatDoor
open Go.RowKit
def sumR (n:Nat) (ls:List (List Int)):List Int:=ls.foldl addL (List.replicate n 0)
theorem sumR_snoc (n:Nat) (ls:List (List Int)) (x:List Int):sumR n (ls ++ [x]) = addL (sumR n ls) x:=by simp [sumR]
theorem sumR_len (n:Nat) (ls:List (List Int)):(sumR n ls).length = n:=by
  have:∀ (l:List (List Int)) (a:List Int),(l.foldl addL a).length = a.length:=by
    intro l
    induction l with
    | nil => intro a;rfl
    | cons x l ih => intro a;rw [List.foldl_cons,ih,addL_len]
  unfold sumR;rw [this];simp
def RSumIs (ls:List (List Int)) (n:Nat) (w:World) (e:Ending) (w':World):Prop:=∃ v ok,e = .returned (.tuple #[v,.bool ok]) ∧ Below w.heap.size w w' ∧ ((∀ (j:Nat) (x:List Int),ls[j]? = some x → x.length = n) → ok = true ∧ w'.ownsRow w.heap.size 2 1 v n (nums .i64 (sumR n ls)))
def RSumT (ls:List (List Int)) (n:Nat) (w:World) (e:Ending) (w':World):Prop:=∃ v ok,e = .returned (.tuple #[v,.bool ok]) ∧ Below w.heap.size w w' ∧ ((∀ (j:Nat) (x:List Int),ls[j]? = some x → x.length = n) → ok = true ∧ w'.ownsRow w.heap.size 2 1 v n (nums .i64 (sumR n ls))) ∧ (ok = true → ∀ (j:Nat) (x:List Int),ls[j]? = some x → x.length = n)
set_option maxRecDepth 100000 in
set_option maxHeartbeats 1000000 in
theorem rsumv_anyT (V:Option Addr) (ls:List (List Int)) (c n:Nat) (x0:List Int) (w:World) (hV:SlRd rVec0 1 w V ls) (hl:ls.length ≤ 17592186043904) (h0:ls[0]? = some x0) (hn:x0.length = n) :
    Calls Tryz.prog 119 #[.slice V ls.length c] w (RSumT ls n w):=by
  obtain ⟨N,hN⟩:∃ N,ls.length = N:=⟨_,rfl⟩
  have hN0:0 < N:=by rw [← hN];exact (List.getElem?_eq_some_iff.1 h0).1
  obtain ⟨b,o,A0,c0,rfl,hb,p0,_,hxl⟩:=rVec0_cell hV h0
  rw [hN] at hl ⊢
  rw [hn,Nat.add_zero] at p0
  rw [hn] at hxl
  have hN1:¬ (N = 0):=by omega
  have hmk:=fun w' => run_mk et_ri64s w' rfl n (by omega) (by unfold maxLen;omega)
  simp only [nums_rep] at hmk
  have Hmk:=Lib.hid hmk;have HV:=Lib.hid hV;have HN:=Lib.hid hN
  clear hmk hV hN h0 hn
  have hN0i:(0:Int) < N:=by omega
  have hN9:((N:Int) == 0) = false:=by simp;omega
  go_enter Tryz.func119,Tryz.ntmps119
  obtain ⟨W2,hrun,ho2,hb2⟩:=Hmk.out w
  go_wp2_with fail
  have HO2:=Lib.hid ho2;have HB2:=Lib.hid hb2
  clear hrun ho2 hb2 p0 Hmk
  go_loopw [5] (fun x wr => ∃ k:Nat,k ≤ N ∧ x = .int .i64 k ∧ wr.ownsRow w.heap.size 2 1 (.slice (some ⟨w.heap.size,0,none⟩) n n) n (nums .i64 (sumR n (ls.take k))) ∧ Hid (∀ (j:Nat) (x:List Int),j < k → ls[j]? = some x → x.length = n) ∧ Below w.heap.size w wr) (fun x _ => N - (intOf x).toNat)
  case atStart => exact ⟨0,Nat.zero_le _,rfl,HO2.out,Lib.hid fun j x hj => by omega,HB2.out⟩
  case round =>
    obtain ⟨W1,rfl⟩:∃ W1:World,W1 = wr:=⟨_,rfl⟩
    obtain ⟨k,hk,rfl,hown,Hall,hbw⟩:=hrel
    by_cases hlt:k < N
    · obtain ⟨x,hx⟩:∃ x,ls[k]? = some x:=⟨_,List.getElem?_eq_getElem (by rw [HN.out];exact hlt)⟩
      have hlti:(k:Int) < N:=by omega
      have g1:SlRd rVec0 1 W1 (some ⟨b,o,none⟩) ls:=HV.out.below stays_vec0 hbw
      obtain ⟨b',o',A,cA,e1,hb',p,hA,hxl'⟩:=rVec0_cell g1 hx
      injection e1 with e1;injection e1 with e1 e2 _;subst e1;subst e2
      have HX:=Lib.hid hx;have HO:=Lib.hid hown;have HB:=Lib.hid hbw;have HA:=Lib.hid hA;have P:=Lib.hid p
      obtain ⟨m,hm⟩:∃ m,x.length = m:=⟨_,rfl⟩
      have Hm:=Lib.hid hm
      rw [hm] at p hxl'
      clear hx hown hbw hA hm g1
      by_cases hmn:m = n
      · subst hmn
        go_wp2_with fail
        clear p
        go_loopw [6] (fun y wr => ∃ t:Nat,t ≤ m ∧ y = .int .i64 t ∧ wr.ownsRow w.heap.size 2 1 (.slice (some ⟨w.heap.size,0,none⟩) m m) m (nums .i64 (mixed (sumR m (ls.take k)) t (fun t => wrap64 (nth (sumR m (ls.take k)) t + nth x t)))) ∧ Keep (fun i => i = w.heap.size) W1 wr) (fun y _ => m - (intOf y).toNat)
        case atStart => exact ⟨0,Nat.zero_le _,rfl,by rw [mixed_zero];exact HO.out,Keep.refl _ _⟩
        case round =>
          obtain ⟨t,ht,rfl,hown,hK⟩:=hrel
          by_cases hlt2:t < m
          · have hlti2:(t:Int) < m:=by omega
            have hkx:t < (sumR m (ls.take k)).length:=by rw [sumR_len];exact hlt2
            have p1:=own_num hown hlt2
            rw [mixed_nth _ hkx,if_neg (by omega)] at p1
            have f1:=hown.frozenAt t
            obtain ⟨b2,o2,rfl,p3⟩:=HA.out.num (show t < x.length by rw [Hm.out];exact hlt2)
            have hbs:b < w.heap.size:=hb
            have p2:wr.cell? ⟨b,o + k,none⟩ = some (.slice (some ⟨b2,o2,none⟩) m cA):=hK.cell (by rw [P.out,Hm.out]) (by dsimp only;omega)
            have hA2:b2 < w.heap.size:=by
              obtain ⟨_,_,A9,c9,e9,_,q9,r9,_⟩:=rVec0_cell HV.out HX.out
              injection e9 with e9;injection e9 with e9 e8 _;subst e9;subst e8
              have:=(HB.out.cell (p:=⟨b,o + k,none⟩) hb).trans q9
              rw [P.out] at this
              injection this with this
              simp only [Value.slice.injEq] at this
              rw [← this.1] at r9
              obtain ⟨b8,o8,e8,q8⟩:=r9.num (show t < x.length by rw [Hm.out];exact hlt2)
              injection e8 with e8;injection e8 with e8 _ _;subst e8
              exact lt_of_cell q8
            have p4:wr.cell? ⟨b2,o2 + t,none⟩ = some (.int .i64 (nth x t)):=hK.cell p3 (by dsimp only;omega)
            have hst:=mixed_set (l:=sumR m (ls.take k)) (k:=t) (fun t => wrap64 (nth (sumR m (ls.take k)) t + nth x t)) hkx
            have HK:=Lib.hid hK;have HO2:=Lib.hid hown;have Hst:=Lib.hid hst
            clear hK hown hst hkx p3
            go_wp2_with fail
            go_region
            all_goals go_wp2_with fail
            all_goals
              go_roundw
              case rel =>
                refine ⟨t + 1,by omega,by go_num,?_,?_⟩
                · rw [← Hst.out];exact own_put (own_drewN HO2.out 1) t _
                · exact Keep.setCell (HK.out.drewN 1) ⟨w.heap.size,t,none⟩ (.inr rfl) _
              case measure => simp [intOf];omega
          · obtain rfl:m = t:=by omega
            have HK:=Lib.hid hK;have HO2:=Lib.hid hown;clear hK hown
            go_wp2_with fail
            go_roundw
            case rel =>
              refine ⟨k + 1,by omega,by go_num,?_,Lib.hid fun j y hj hy => ?_,HB.out.trans (HK.out.toBelow (by have:=HB.out.size;omega) (fun j hj => by omega))⟩
              · rw [List.take_add_one,HX.out,Option.toList_some,sumR_snoc]
                have e9:=HO2.out
                have e8:=mixed_all (sumR m (ls.take k)) (fun t => wrap64 (nth (sumR m (ls.take k)) t + nth x t))
                rw [sumR_len] at e8
                unfold addL
                rw [sumR_len,← e8]
                exact e9
              · rcases Nat.lt_or_ge j k with h | h
                · exact Hall.out j y h hy
                · obtain rfl:j = k:=by omega
                  rw [HX.out] at hy;injection hy with hy;rw [← hy];exact Hm.out
            case measure => simp [intOf];omega
      · have hmi:((m:Int) != (n:Int)) = true:=by rw [bne_iff_ne];omega
        go_wp2_with fail
        go_ret2
        refine ⟨_,_,rfl,HB.out,fun h => absurd ?_ hmn,fun h => by cases h⟩
        rw [← Hm.out];exact h k x HX.out
    · obtain rfl:k = N:=by omega
      have HO:=Lib.hid hown;have HB:=Lib.hid hbw
      clear hown hbw
      go_wp2_with fail
      go_ret2
      refine ⟨_,_,rfl,HB.out,fun h => ⟨rfl,?_⟩,fun _ j x hx => Hall.out j x (by have:=(List.getElem?_eq_some_iff.1 hx).1;rw [HN.out] at this;exact this) hx⟩
      have:=HO.out
      rwa [← HN.out,List.take_length] at this
theorem rsumv_any (V:Option Addr) (ls:List (List Int)) (c n:Nat) (x0:List Int) (w:World) (hV:SlRd rVec0 1 w V ls) (hl:ls.length ≤ 17592186043904) (h0:ls[0]? = some x0) (hn:x0.length = n) :
    Calls Tryz.prog 119 #[.slice V ls.length c] w (RSumIs ls n w):=by
  refine (rsumv_anyT V ls c n x0 w hV hl h0 hn).mono ?_
  rintro e w' ⟨v,ok,h1,h2,h3,-⟩
  exact ⟨v,ok,h1,h2,h3⟩
end Go.Proofs.YthamijnggdjaoaaGreatDoor
namespace Go.Proofs.YthamijnggdjaoaaGreatDoor
open Go.RowKit
abbrev Pl:=Nat × Nat × Int
def plW (k c m:Nat):List Pl:=(List.range m).map fun i => (k,i / c,((i % c:Nat):Int))
def plB (k m:Nat):List Pl:=(List.range m).map fun i => (k,i,-1)
def plK (sz:List Int) (k:Nat):List Pl:=plW k (szN sz k) (szN sz (k + 1) * szN sz k) ++ plB k (szN sz (k + 1))
def plL (sz:List Int) (n:Nat):List Pl:=(List.range n).flatMap (plK sz)
theorem plW_len (k c m:Nat):(plW k c m).length = m:=by simp [plW]
theorem plB_len (k m:Nat):(plB k m).length = m:=by simp [plB]
theorem plL_succ (sz:List Int) (n:Nat):plL sz (n + 1) = plL sz n ++ plK sz n:=by simp [plL,List.range_succ,List.flatMap_append]
theorem plL_len (sz:List Int) (n:Nat):(plL sz n).length = cntN sz n:=by
  induction n with
  | zero => rfl
  | succ n ih =>
    have:=midN_eq sz n
    unfold midN at this
    rw [plL_succ,List.length_append,ih]
    unfold plK
    rw [List.length_append,plW_len,plB_len]
    omega
def plV (l:List Pl):List Value:=l.flatMap fun p => [.int .i64 (p.1:Int),.int .i64 (p.2.1:Int),.int .i64 p.2.2]
theorem plV_append (a b:List Pl):plV (a ++ b) = plV a ++ plV b:=by simp [plV,List.flatMap_append]
theorem plV_one (p:Pl):plV [p] = [.int .i64 (p.1:Int),.int .i64 (p.2.1:Int),.int .i64 p.2.2]:=rfl
theorem plV_at:∀ (l:List Pl) (i:Nat) (p:Pl),l[i]? = some p → (plV l)[i * 3]? = some (.int .i64 (p.1:Int)) ∧ (plV l)[i * 3 + 1]? = some (.int .i64 (p.2.1:Int)) ∧ (plV l)[i * 3 + 2]? = some (.int .i64 p.2.2):=by
  intro l
  induction l with
  | nil => intro i p h;simp at h
  | cons a l ih =>
    intro i p h
    have hv:plV (a :: l) = [.int .i64 (a.1:Int),.int .i64 (a.2.1:Int),.int .i64 a.2.2] ++ plV l:=rfl
    rw [hv]
    cases i with
    | zero =>
      simp at h
      subst h
      exact ⟨rfl,rfl,rfl⟩
    | succ i =>
      have:=ih i p (by simpa using h)
      rw [List.getElem?_append_right (by simp;omega),List.getElem?_append_right (by simp;omega),List.getElem?_append_right (by simp;omega)]
      simp only [List.length_cons,List.length_nil]
      rw [show (i + 1) * 3 - (0 + 1 + 1 + 1) = i * 3 by omega,show (i + 1) * 3 + 1 - (0 + 1 + 1 + 1) = i * 3 + 1 by omega,show (i + 1) * 3 + 2 - (0 + 1 + 1 + 1) = i * 3 + 2 by omega]
      exact this
theorem plW_succ (k c r j:Nat) (hj:j < c):plW k c (r * c + j + 1) = plW k c (r * c + j) ++ [(k,r,(j:Int))]:=by
  unfold plW
  rw [List.range_succ,List.map_append]
  have h1:(r * c + j) / c = r:=by rw [Nat.add_comm,Nat.add_mul_div_right _ _ (by omega),Nat.div_eq_of_lt hj,Nat.zero_add]
  have h2:(r * c + j) % c = j:=by rw [Nat.add_comm,Nat.add_mul_mod_self_right,Nat.mod_eq_of_lt hj]
  rw [List.map_singleton,h1,h2]
theorem plB_succ (k r:Nat):plB k (r + 1) = plB k r ++ [(k,r,-1)]:=by simp [plB,List.range_succ]
def gAt (sz ps:List Int) (q:Int) (x y:List Int) (p:Pl):Int:=
  if 0 ≤ p.2.2 then mulQ (nth (errD sz ps q x y (sz.length - 2 - p.1)) p.2.1) (nth (valL sz ps q x p.1) p.2.2.toNat) q else nth (errD sz ps q x y (sz.length - 2 - p.1)) p.2.1
theorem map_nth (l:List Int) (n:Nat) (h:l.length = n):(List.range n).map (nth l) = l:=(eq_upTo h fun k _ => rfl).symm
theorem block_eq {sz ps:List Int} {q:Int} {x y:List Int} (hx:x.length = szN sz 0) {k:Nat} (hk:k + 2 ≤ sz.length) :
    outerL (szN sz (k + 1)) (szN sz k) (errD sz ps q x y (sz.length - 2 - k)) (valL sz ps q x k) q ++ errD sz ps q x y (sz.length - 2 - k) = (plK sz k).map (gAt sz ps q x y):=by
  unfold plK
  rw [List.map_append]
  congr 1
  · unfold outerL upTo plW
    rw [List.map_map]
    refine List.map_congr_left fun i _ => ?_
    unfold outV gAt
    show _ = if 0 ≤ ((i % szN sz k:Nat):Int) then mulQ (nth (errD sz ps q x y (sz.length - 2 - k)) (i / szN sz k)) (nth (valL sz ps q x k) ((i % szN sz k:Nat):Int).toNat) q else nth (errD sz ps q x y (sz.length - 2 - k)) (i / szN sz k)
    rw [if_pos (Int.natCast_nonneg _),Int.toNat_natCast]
  · unfold plB
    rw [List.map_map]
    have hl:=errD_len (sz:=sz) (ps:=ps) (q:=q) (x:=x) (y:=y) hx (sz.length - 2 - k)
    rw [show sz.length - 1 - (sz.length - 2 - k) = k + 1 by omega] at hl
    have:=map_nth _ _ hl
    conv => lhs;rw [← this]
    refine List.map_congr_left fun i _ => ?_
    unfold gAt
    simp
theorem gradT_eq {sz ps:List Int} {q:Int} {x y:List Int} (hx:x.length = szN sz 0):∀ j,j + 1 ≤ sz.length → gradT sz ps q x y j = (((List.range (sz.length - 1)).drop (sz.length - 1 - j)).flatMap (plK sz)).map (gAt sz ps q x y):=by
  intro j
  induction j with
  | zero => intro _;rw [Nat.sub_zero,List.drop_eq_nil_of_le (by simp)];rfl
  | succ j ih =>
    intro hj
    have hd:(List.range (sz.length - 1)).drop (sz.length - 1 - (j + 1)) = (sz.length - 2 - j) :: (List.range (sz.length - 1)).drop (sz.length - 1 - j):=by
      rw [show sz.length - 1 - (j + 1) = sz.length - 2 - j by omega]
      rw [List.drop_eq_getElem_cons (by simp;omega),List.getElem_range]
      congr 2
      omega
    rw [hd,List.flatMap_cons,List.map_append,← ih (by omega),gradT,← List.append_assoc]
    congr 1
    have:=block_eq (sz:=sz) (ps:=ps) (q:=q) (x:=x) (y:=y) hx (k:=sz.length - 2 - j) (by omega)
    rw [show sz.length - 2 - j + 1 = sz.length - 1 - j by omega,show sz.length - 2 - (sz.length - 2 - j) = j by omega] at this
    exact this
theorem gradL_eq {sz ps:List Int} {q:Int} {x y:List Int} (hx:x.length = szN sz 0) (hl:1 ≤ sz.length):gradL sz ps q x y = (plL sz (sz.length - 1)).map (gAt sz ps q x y):=by
  unfold gradL
  rw [gradT_eq hx _ (by omega),Nat.sub_self,List.drop_zero]
  rfl
theorem gradL_len {sz ps:List Int} {q:Int} {x y:List Int} (hx:x.length = szN sz 0) (hl:1 ≤ sz.length):(gradL sz ps q x y).length = cntN sz (sz.length - 1):=by
  rw [gradL_eq hx hl,List.length_map,plL_len]
theorem plL_mem {sz:List Int} {n:Nat} {p:Pl} (h:p ∈ plL sz n):p.1 < n ∧ p.2.1 < szN sz (p.1 + 1) ∧ (p.2.2 = -1 ∨ (0 ≤ p.2.2 ∧ p.2.2.toNat < szN sz p.1)):=by
  unfold plL at h
  obtain ⟨k,hk,h⟩:=List.mem_flatMap.1 h
  have hk:=List.mem_range.1 hk
  unfold plK at h
  rcases List.mem_append.1 h with h | h
  · unfold plW at h
    obtain ⟨i,hi,rfl⟩:=List.mem_map.1 h
    have hi:=List.mem_range.1 hi
    have hc:0 < szN sz k:=by
      rcases Nat.eq_zero_or_pos (szN sz k) with h0 | h0
      · rw [h0,Nat.mul_zero] at hi;omega
      · exact h0
    exact ⟨hk,Nat.div_lt_of_lt_mul (by rw [Nat.mul_comm];exact hi),.inr ⟨by dsimp only;omega,by dsimp only;rw [Int.toNat_natCast];exact Nat.mod_lt _ hc⟩⟩
  · unfold plB at h
    obtain ⟨i,hi,rfl⟩:=List.mem_map.1 h
    exact ⟨hk,List.mem_range.1 hi,.inl rfl⟩
end Go.Proofs.YthamijnggdjaoaaGreatDoor
namespace Go.Proofs.YthamijnggdjaoaaGreatDoor
open Go.RowKit
theorem et_pls:ElemT Tryz.prog 272 275 (.agg #[.int .i64 0,.int .i64 0,.int .i64 0]) 3 24:=⟨Tryz.underlying272,info_parts (by kernel_rfl),rfl,by decide⟩
set_option maxRecDepth 100000 in
set_option maxHeartbeats 1000000 in
theorem rplaces_any (A:Option Addr) (sz:List Int) (c:Nat) (w:World) (hA:Rd w A (nums .i64 sz)) (hg:GoodSz sz) :
    Calls Tryz.prog 162 #[.slice A sz.length c] w fun e w' => ∃ A' c',e = .returned (.slice A' (cntN sz (sz.length - 1)) c') ∧ w'.ownsRow w.heap.size 275 3 (.slice A' (cntN sz (sz.length - 1)) c') (cntN sz (sz.length - 1)) (plV (plL sz (sz.length - 1))) ∧ Below w.heap.size w w':=by
  have hl16:=hg.1.1
  obtain ⟨b,o,rfl,p00⟩:=hA.num (show 0 < sz.length by omega)
  have hbl:b < w.heap.size:=lt_of_cell p00
  obtain ⟨L,hL⟩:∃ L,sz.length = L:=⟨_,rfl⟩
  rw [hL] at hl16 ⊢
  have HA:=Lib.hid hA;have HG:=Lib.hid hg;have HL:=Lib.hid hL;clear hA hg hL p00
  go_enter Tryz.func162,Tryz.ntmps162
  go_wp2_with fail
  go_loopw [3,4] (fun v i wr => ∃ k:Nat,k + 1 ≤ L ∧ i = .int .i64 k ∧ wr.ownsRow w.heap.size 275 3 v (cntN sz k) (plV (plL sz k)) ∧ Below w.heap.size w wr) (fun _ i _ => L - (intOf i).toNat)
  case atStart => exact ⟨0,by omega,rfl,World.ownsRow_nil _ _ _ _,Below.refl _ _⟩
  case round =>
    obtain ⟨wq,rfl⟩:∃ wq:World,wq = wr:=⟨_,rfl⟩
    obtain ⟨k,hk,rfl,ho0,hW0⟩:=hrel
    obtain ⟨A0,c9,rfl,_⟩:=own_form ho0
    have Ho0:=Lib.hid ho0;have HW0:=Lib.hid hW0;clear ho0 hW0
    have hwk:IntKind.i64.wrap ((k:Int) + 1) = (k:Int) + 1:=IntWalk.i64_in _ (by omega)
    by_cases hlt:k + 1 < L
    · have hR:=HG.out.1
      have hL2:=HL.out
      have z0:=hR.at (k:=k) (by omega)
      have z1:=hR.at (k:=k + 1) (by omega)
      obtain ⟨_,_,e',p0⟩:=HA.out.num (show k < sz.length by omega)
      injection e' with e';injection e' with e1 e2 _;subst e1;subst e2
      obtain ⟨_,_,e',p1⟩:=HA.out.num (show k + 1 < sz.length by omega)
      injection e' with e';injection e' with e1 e2 _;subst e1;subst e2
      rw [z0.2.2] at p0
      rw [z1.2.2] at p1
      have hb1:=HG.out.bound (k:=k + 1) (by omega)
      have hm:=midN_eq sz k
      have hm2:midN sz k = cntN sz k + szN sz (k + 1) * szN sz k:=rfl
      have hpk:plK sz k = plW k (szN sz k) (szN sz (k + 1) * szN sz k) ++ plB k (szN sz (k + 1)):=rfl
      obtain ⟨c0,hc0⟩:∃ c0,szN sz k = c0:=⟨_,rfl⟩
      obtain ⟨r1,hr1⟩:∃ r1,szN sz (k + 1) = r1:=⟨_,rfl⟩
      obtain ⟨N,hN⟩:∃ N,cntN sz k = N:=⟨_,rfl⟩
      obtain ⟨M,hM⟩:∃ M,midN sz k = M:=⟨_,rfl⟩
      rw [hc0] at p0 hm2 hpk z0
      rw [hr1] at p1 hm2 hm hpk z1
      rw [hN,hM] at hm2
      rw [hM] at hm
      rw [← hm] at hb1
      have Hpk:=Lib.hid hpk;have HN:=Lib.hid hN;have Hm:=Lib.hid hm
      have hki:(k:Int) + 1 < L:=by omega
      have hki0:(k:Int) < L:=by omega
      clear hc0 hr1 hpk hm hN hM hL2 hR
      go_wp2_with fail
      go_loopw [3,5] (fun v i wr => ∃ r:Nat,r ≤ r1 ∧ i = .int .i64 r ∧ wr.ownsRow w.heap.size 275 3 v (N + r * c0) (plV (plL sz k ++ plW k c0 (r * c0))) ∧ Below w.heap.size w wr) (fun _ i _ => r1 - (intOf i).toNat)
      case atStart =>
        refine ⟨0,Nat.zero_le _,rfl,?_,HW0.out⟩
        rw [Nat.zero_mul,show plW k c0 0 = [] from rfl,List.append_nil,Nat.add_zero,← HN.out]
        exact Ho0.out
      case round =>
        obtain ⟨w1,rfl⟩:∃ w1:World,w1 = wr:=⟨_,rfl⟩
        obtain ⟨r,hr,rfl,ho1,hW1⟩:=hrel
        obtain ⟨A1,d1,rfl,_⟩:=own_form ho1
        have p0r:=(hW1.cell (p:=⟨b,o + k,none⟩) hbl).trans p0
        have p1r:=(hW1.cell (p:=⟨b,o + (k + 1),none⟩) hbl).trans p1
        have Ho1:=Lib.hid ho1;have HW1:=Lib.hid hW1;clear ho1 hW1
        by_cases hlr:r < r1
        · have hrc:r * c0 + c0 ≤ r1 * c0:=by
            have:=Nat.mul_le_mul_right c0 (show r + 1 ≤ r1 by omega)
            rwa [Nat.succ_mul] at this
          have hrs:(r + 1) * c0 = r * c0 + c0:=Nat.succ_mul r c0
          obtain ⟨rc,hrce⟩:∃ rc,r * c0 = rc:=⟨_,rfl⟩
          obtain ⟨m1,hm1⟩:∃ m1,r1 * c0 = m1:=⟨_,rfl⟩
          have hsu:=fun j (hj:j < c0) => plW_succ k c0 r j hj
          rw [hrce] at hrc hrs hsu
          rw [hm1] at hrc hm2
          have Hsu:=Lib.hid hsu;have Hrs:=Lib.hid hrs;have Hrc:=Lib.hid hrce
          clear hsu hrs hrce hm1
          go_wp2_with fail
          go_loopw [3,6] (fun v i wr => ∃ j:Nat,j ≤ c0 ∧ i = .int .i64 j ∧ wr.ownsRow w.heap.size 275 3 v (N + (rc + j)) (plV (plL sz k ++ plW k c0 (rc + j))) ∧ Below w.heap.size w wr) (fun _ i _ => c0 - (intOf i).toNat)
          case atStart =>
            refine ⟨0,Nat.zero_le _,rfl,?_,HW1.out⟩
            rw [Nat.add_zero,← Hrc.out]
            exact Ho1.out
          case round =>
            obtain ⟨w2,rfl⟩:∃ w2:World,w2 = wr:=⟨_,rfl⟩
            obtain ⟨j,hj,rfl,ho2,hW2⟩:=hrel
            obtain ⟨A2,d2,rfl,_⟩:=own_form ho2
            have p0s:=(hW2.cell (p:=⟨b,o + k,none⟩) hbl).trans p0
            have hz:=hW2.size
            have Ho2:=Lib.hid ho2;have HW2:=Lib.hid hW2;clear ho2 hW2 p0r p1r
            by_cases hlj:j < c0
            · have hsj:=Hsu.out j hlj
              have Hsj:=Lib.hid hsj;clear hsj
              go_wp2_with (at_builtin;refine wpList_push et_pls w2 rfl (.tmp 32) (.tmp 37) rfl w.heap.size (.slice A2 (N + (rc + j)) d2) (N + (rc + j)) _ rfl Ho2.out [.int .i64 k,.int .i64 r,.int .i64 j] rfl rfl (by simp [Value.oneCell']) (by omega) (by unfold maxLen;omega) (by omega) ?_)
              intro g7 c7 w7 ho7 hb7 hg7
              have hB7:=HW2.out.trans hb7
              have HO7:=Lib.hid ho7;have HB7:=Lib.hid hB7;clear ho7 hb7 hg7 hB7
              go_wp2_with fail
              go_roundw
              case rel =>
                refine ⟨j + 1,by omega,by go_num,?_,HB7.out⟩
                have:=HO7.out
                rw [← plV_one (k,r,(j:Int)),← plV_append,List.append_assoc,← Hsj.out,show N + (rc + j) + 1 = N + (rc + (j + 1)) by omega,show rc + j + 1 = rc + (j + 1) by omega] at this
                exact this
              case measure => simp [intOf];omega
            · obtain rfl:j = c0:=by omega
              go_wp2_with fail
              go_roundw
              case rel =>
                refine ⟨r + 1,by omega,by go_num,?_,HW2.out⟩
                rw [Hrs.out]
                exact Ho2.out
              case measure => simp [intOf];omega
        · obtain rfl:r = r1:=by omega
          have Hm2:=Lib.hid hm2;clear hm2
          go_wp2_with fail
          go_loopw [3,7] (fun v i wr => ∃ t:Nat,t ≤ r ∧ i = .int .i64 t ∧ wr.ownsRow w.heap.size 275 3 v (M + t) (plV (plL sz k ++ plW k c0 (r * c0) ++ plB k t)) ∧ Below w.heap.size w wr) (fun _ i _ => r - (intOf i).toNat)
          case atStart =>
            refine ⟨0,Nat.zero_le _,rfl,?_,HW1.out⟩
            rw [show plB k 0 = [] from rfl,List.append_nil,Nat.add_zero,Hm2.out]
            exact Ho1.out
          case round =>
            obtain ⟨w2,rfl⟩:∃ w2:World,w2 = wr:=⟨_,rfl⟩
            obtain ⟨t,ht,rfl,ho2,hW2⟩:=hrel
            obtain ⟨A2,d2,rfl,_⟩:=own_form ho2
            have p1s:=(hW2.cell (p:=⟨b,o + (k + 1),none⟩) hbl).trans p1
            have hz:=hW2.size
            have Ho2:=Lib.hid ho2;have HW2:=Lib.hid hW2;clear ho2 hW2 p0r p1r
            by_cases hlj:t < r
            · go_wp2_with (at_builtin;refine wpList_push et_pls w2 rfl (.tmp 48) (.tmp 52) rfl w.heap.size (.slice A2 (M + t) d2) (M + t) _ rfl Ho2.out [.int .i64 k,.int .i64 t,.int .i64 (-1)] rfl rfl (by simp [Value.oneCell']) (by omega) (by unfold maxLen;omega) (by omega) ?_)
              intro g7 c7 w7 ho7 hb7 hg7
              have hB7:=HW2.out.trans hb7
              have HO7:=Lib.hid ho7;have HB7:=Lib.hid hB7;clear ho7 hb7 hg7 hB7
              go_wp2_with fail
              go_roundw
              case rel =>
                refine ⟨t + 1,by omega,by go_num,?_,HB7.out⟩
                have:=HO7.out
                rw [← plV_one (k,t,-1),← plV_append,show M + t + 1 = M + (t + 1) by omega] at this
                rw [plB_succ]
                simp only [List.append_assoc] at this ⊢
                exact this
              case measure => simp [intOf];omega
            · obtain rfl:t = r:=by omega
              go_wp2_with fail
              go_roundw
              case rel =>
                refine ⟨k + 1,by omega,by go_num,?_,HW2.out⟩
                rw [plL_succ,Hpk.out,← List.append_assoc,← Hm.out]
                exact Ho2.out
              case measure => simp [intOf];omega
    · obtain rfl:k = L - 1:=by omega
      have hki:¬ ((((L - 1:Nat):Int) + 1) < L):=by omega
      go_wp2_with fail
      go_ret
      exact ⟨_,_,rfl,Ho0.out,HW0.out⟩
end Go.Proofs.YthamijnggdjaoaaGreatDoor
namespace Go.Proofs.YthamijnggdjaoaaGreatDoor
open Go.RowKit
set_option maxRecDepth 100000 in
set_option maxHeartbeats 2000000 in
theorem rerr_last (As Ap Y V:Option Addr) (sz ps x y:List Int) (cs cp cy cv:Nat) (q:Int) (vals:List Value) (w:World) (h:RNet w As Ap sz ps cs) (hx:x.length = szN sz 0) (hY:Rd w Y (nums .i64 y)) (hy:y.length = szN sz (sz.length - 1))
    (hV:Rd w V vals) (hva:VecsAt w vals sz.length (valL sz ps q x)) :
    Calls Tryz.prog 123 #[.agg #[.slice As sz.length cs,.slice Ap ps.length cp,.int .i64 q],.int .i64 ((sz.length - 1:Nat):Int),.slice V sz.length cv,.slice Y y.length cy] w fun e w' => ∃ A c,e = .returned (.slice A y.length c) ∧ w'.ownsRow w.heap.size 2 1 (.slice A y.length c) y.length (nums .i64 (errD sz ps q x y 0)) ∧ Below w.heap.size w w':=by
  have hl16:=h.hg.1.1
  have hla:=fun w' => rlast_any As Ap sz.length ps.length cs cp q w' (by omega)
  have hmb:=(h.hg.1.at (k:=sz.length - 1) (by omega)).2.1
  obtain ⟨Aj,cj,e1,e2,e3⟩:=hva.2 (sz.length - 1) (by omega)
  have hvl:=valL_len (sz:=sz) (ps:=ps) (q:=q) hx (sz.length - 1)
  obtain ⟨bo,oo,rfl,pv⟩:=hV _ _ e1
  have hbo:bo < w.heap.size:=lt_of_cell pv
  rw [← hy] at hvl hmb
  have hed:errD sz ps q x y 0 = upTo y.length fun i => wrap64 (nth (valL sz ps q x (sz.length - 1)) i - nth y i):=by
    show missL _ _ = _
    unfold missL
    rw [hvl]
  obtain ⟨a,ha⟩:∃ a,valL sz ps q x (sz.length - 1) = a:=⟨_,rfl⟩
  obtain ⟨L,hL⟩:∃ L,sz.length = L:=⟨_,rfl⟩
  obtain ⟨m,hm⟩:∃ m,ps.length = m:=⟨_,rfl⟩
  obtain ⟨Y0,hY0⟩:∃ Y0,y.length = Y0:=⟨_,rfl⟩
  rw [hed]
  rw [ha] at pv e3 hvl ⊢
  rw [hL] at hla hl16 pv ⊢
  rw [hvl] at pv
  rw [hm] at hla ⊢
  rw [hY0] at pv hvl hmb ⊢
  have Hla:=Lib.hid hla;have HY:=Lib.hid hY;have HY0:=Lib.hid hY0;have Hvl:=Lib.hid hvl;have He3:=Lib.hid e3
  clear hla hY hY0 hvl e1 e2 e3 h hx hy hV hva hed ha hL hm
  have hLi:((L - 1:Nat):Int) < L:=by omega
  have hLn:L - 1 < L:=by omega
  have hq:(((L - 1:Nat):Int) == ((L - 1:Nat):Int)) = true:=by simp
  go_enter Tryz.func123,Tryz.ntmps123
  go_wp2_with fail
  refine (Hla.out _).mono ?_
  rintro e w1 ⟨rfl,hb1⟩
  have hB1:Below w.heap.size w w1:=((Below.refl _ w).alloc (Nat.le_refl _) _).trans (hb1.mono (by simp))
  have HB1:=Lib.hid hB1;clear hb1 hB1
  go_wp2_with fail
  clear hq
  go_loopw [9,10] (fun v i wr => ∃ k:Nat,k ≤ Y0 ∧ i = .int .i64 k ∧ wr.ownsRow w.heap.size 2 1 v k (nums .i64 (upTo k fun i => wrap64 (nth a i - nth y i))) ∧ Below w.heap.size w wr) (fun _ i _ => Y0 - (intOf i).toNat)
  case atStart => exact ⟨0,Nat.zero_le _,rfl,World.ownsRow_nil _ _ _ _,HB1.out⟩
  case round =>
    obtain ⟨k,hk,rfl,hown,hW⟩:=hrel
    obtain ⟨Al,cl,rfl,hcl⟩:=own_form hown
    by_cases hlt:k < Y0
    · obtain ⟨ba,oa,rfl,p1⟩:=He3.out.num (show k < a.length by rw [Hvl.out];exact hlt)
      obtain ⟨by0,oy,rfl,p2⟩:=HY.out.num (show k < y.length by rw [HY0.out];exact hlt)
      have l1:ba < w.heap.size:=lt_of_cell p1
      have l2:by0 < w.heap.size:=lt_of_cell p2
      have s1:=(hW.cell (p:=⟨bo,oo + (L - 1),none⟩) hbo).trans pv
      have s2:=(hW.cell (p:=⟨ba,oa + k,none⟩) l1).trans p1
      have s3:=(hW.cell (p:=⟨by0,oy + k,none⟩) l2).trans p2
      have hz:=hW.size
      have Hown:=Lib.hid hown;have HW:=Lib.hid hW;clear hown hW p1 p2
      have hki:(k:Int) < Y0:=by omega
      go_wp2_with fail
      have hSw:(fun w':World => w'.cell? ⟨bo,oo + (L - 1),none⟩ = some (.slice (some ⟨ba,oa,none⟩) Y0 cj) ∧ w'.cell? ⟨ba,oa + k,none⟩ = some (.int .i64 (nth a k)) ∧ w'.cell? ⟨by0,oy + k,none⟩ = some (.int .i64 (nth y k))) wr.drew:=⟨s1,s2,s3⟩
      refine HA.g (fun w':World => w'.cell? ⟨bo,oo + (L - 1),none⟩ = some (.slice (some ⟨ba,oa,none⟩) Y0 cj) ∧ w'.cell? ⟨ba,oa + k,none⟩ = some (.int .i64 (nth a k)) ∧ w'.cell? ⟨by0,oy + k,none⟩ = some (.int .i64 (nth y k))) ?_
      refine HA.t ?_ [0,1,2,3,4,5,6,7,8,9,10,11,12] hSw ?_
      refine HA.o 13 (fun K hK => ?_)
      go_simp
      refine hK.out _ _ ⟨cell_alloc hSw.1 _,cell_alloc hSw.2.1 _,cell_alloc hSw.2.2 _⟩ (fun hSw => ?_)
      clear hK K
      refine HA.o 14 (fun K hK => ?_)
      refine step_appX et_i64s (.tmp 25) (.tmp 38) rfl rfl w.heap.size (.slice Al k cl) k _ rfl (own_drewN (Hown.out.alloc _) 1) (some ⟨wr.heap.size,0,none⟩) 1 1 [.int .i64 (IntKind.i64.wrap (nth a k - nth y k))] rfl (rd_newN wr _ _ _ rfl) rfl (by simp [Value.oneCell']) (by omega) (by unfold maxLen;omega) (by simp;omega) ?_
      intro A4 c4 w4 ho4 hb4 hg4 hv4
      have hS4:=And.intro ((hb4.cell (p:=⟨bo,oo + (L - 1),none⟩) hbo).trans hSw.1) (And.intro ((hb4.cell (p:=⟨ba,oa + k,none⟩) l1).trans hSw.2.1) ((hb4.cell (p:=⟨by0,oy + k,none⟩) l2).trans hSw.2.2))
      have hB4:Below w.heap.size w w4:=((HW.out.alloc hz _).drew).trans hb4
      have Ho4:=Lib.hid ho4;have HB4:=Lib.hid hB4;clear ho4 hb4 hg4 hv4 hB4 hSw
      dsimp only
      refine hK.out _ _ hS4 (fun hSw => ?_)
      clear hK K hS4
      refine HA.t ?_ [15] hSw ?_
      refine HA.d ?_
      clear hSw s1 s2 s3
      go_wp2_with fail
      go_roundw
      case rel =>
        have e9:IntKind.i64.wrap (nth a k - nth y k) = wrap64 (nth a k - nth y k):=by rw [IntKind.wrap_i64,wrap64]
        have ho4:=Ho4.out
        rw [e9] at ho4
        exact ⟨k + 1,by omega,by go_num,by rw [upTo_succ,nums_append];exact ho4,HB4.out⟩
      case measure => simp [intOf];omega
    · obtain rfl:k = Y0:=by omega
      have Hown:=Lib.hid hown;have HW:=Lib.hid hW;clear hown hW
      go_wp2_with fail
      go_ret
      exact ⟨_,_,rfl,Hown.out,HW.out⟩
set_option maxRecDepth 100000 in
set_option maxHeartbeats 2000000 in
theorem rerr_step (j:Nat) (As Ap Y V:Option Addr) (sz ps x y:List Int) (cs cp cy cv:Nat) (q:Int) (vals:List Value) (w:World) (h:RNet w As Ap sz ps cs) (hx:x.length = szN sz 0) (wx:W64 x)
    (hV:Rd w V vals) (hva:VecsAt w vals sz.length (valL sz ps q x)) (hj:j + 2 ≤ sz.length)
    (ih:∀ w',Below w.heap.size w w' → Calls Tryz.prog 123 #[.agg #[.slice As sz.length cs,.slice Ap ps.length cp,.int .i64 q],.int .i64 ((sz.length - 1 - j:Nat):Int),.slice V sz.length cv,.slice Y y.length cy] w' fun e w2 => ∃ A c,e = .returned (.slice A (szN sz (sz.length - 1 - j)) c) ∧ w2.ownsRow w'.heap.size 2 1 (.slice A (szN sz (sz.length - 1 - j)) c) (szN sz (sz.length - 1 - j)) (nums .i64 (errD sz ps q x y j)) ∧ Below w'.heap.size w' w2) :
    Calls Tryz.prog 123 #[.agg #[.slice As sz.length cs,.slice Ap ps.length cp,.int .i64 q],.int .i64 ((sz.length - 2 - j:Nat):Int),.slice V sz.length cv,.slice Y y.length cy] w fun e w2 => ∃ A c,e = .returned (.slice A (szN sz (sz.length - 2 - j)) c) ∧ w2.ownsRow w.heap.size 2 1 (.slice A (szN sz (sz.length - 2 - j)) c) (szN sz (sz.length - 2 - j)) (nums .i64 (errD sz ps q x y (j + 1))) ∧ Below w.heap.size w w2:=by
  have hl16:=h.hg.1.1
  have hla:=fun w' => rlast_any As Ap sz.length ps.length cs cp q w' (by omega)
  obtain ⟨k,hk⟩:∃ k,sz.length - 2 - j = k:=⟨_,rfl⟩
  have hk1:sz.length - 1 - j = k + 1:=by omega
  have hkl:k + 1 < sz.length:=by omega
  rw [hk1] at ih
  have z0:=h.hg.1.at (k:=k) (by omega)
  have z1:=h.hg.1.at hkl
  obtain ⟨Ak,ck,e1,e2,e3⟩:=hva.2 k (by omega)
  have hvl:=valL_len (sz:=sz) (ps:=ps) (q:=q) hx k
  rw [hvl] at e1
  obtain ⟨bo,oo,rfl,pv⟩:=hV _ _ e1
  have hbo:bo < w.heap.size:=lt_of_cell pv
  have hel:=errD_len (sz:=sz) (ps:=ps) (q:=q) (x:=x) (y:=y) hx j
  rw [hk1] at hel
  have wel:=errD_W64 sz ps q x y j
  have hel2:=errD_len (sz:=sz) (ps:=ps) (q:=q) (x:=x) (y:=y) hx (j + 1)
  rw [show sz.length - 1 - (j + 1) = k by omega] at hel2
  have hst:=fun c (hc:c < szN sz k) => err_step (sz:=sz) (ps:=ps) (q:=q) (x:=x) (y:=y) (j:=j) (c:=c) hx hj (by rw [hk];exact hc)
  have hwe:=fun r c (hr:r < szN sz (k + 1)) (hc:c < szN sz k) w' (hb:Below w.heap.size w w') => rweight_any As Ap sz ps cs cp k r c q w' (h.below hb) hkl hr hc
  obtain ⟨b,o,rfl,p0⟩:=h.hA.num (show k < sz.length by omega)
  rw [z0.2.2] at p0
  have hbl:b < w.heap.size:=lt_of_cell p0
  have WP:=Lib.hid h.wp
  rw [hk] at hst ⊢
  obtain ⟨ev,hev⟩:∃ ev,errD sz ps q x y j = ev:=⟨_,rfl⟩
  obtain ⟨en,hen⟩:∃ en,errD sz ps q x y (j + 1) = en:=⟨_,rfl⟩
  obtain ⟨vv,hvv⟩:∃ vv,valL sz ps q x k = vv:=⟨_,rfl⟩
  obtain ⟨L,hL⟩:∃ L,sz.length = L:=⟨_,rfl⟩
  obtain ⟨m,hm⟩:∃ m,ps.length = m:=⟨_,rfl⟩
  obtain ⟨Y0,hY0⟩:∃ Y0,y.length = Y0:=⟨_,rfl⟩
  obtain ⟨r1,hr1⟩:∃ r1,szN sz (k + 1) = r1:=⟨_,rfl⟩
  obtain ⟨c1,hc1⟩:∃ c1,szN sz k = c1:=⟨_,rfl⟩
  rw [hev] at hel wel hst ih
  rw [hen] at hel2 hst ⊢
  rw [hvv] at e3 hvl hst
  rw [hL] at hla hl16 hkl ih hwe hj ⊢
  rw [hm] at hla ih hwe ⊢
  rw [hY0] at ih ⊢
  rw [hr1] at hel ih hwe z1
  rw [hc1] at hvl hel2 pv p0 hst hwe z0 ⊢
  rw [hel] at hst
  have Hla:=Lib.hid hla;have Hvl:=Lib.hid hvl;have He3:=Lib.hid e3;have Hih:=Lib.hid ih;have Hel:=Lib.hid hel;have WEL:=Lib.hid wel;have Hel2:=Lib.hid hel2;have Hst:=Lib.hid hst;have Hwe:=Lib.hid hwe;have Hc1:=Lib.hid hc1
  clear hla hvl e3 ih hel wel hel2 hst hwe h hx hV hva hev hen hvv hL hm hY0 hr1 hc1 e1 e2 hk hk1
  have hne:((k:Int) == ((L - 1:Nat):Int)) = false:=by simp;omega
  have hkL:k < L:=by omega
  have hkI:(k:Int) < L:=by omega
  go_enter Tryz.func123,Tryz.ntmps123
  go_wp2_with fail
  refine (Hla.out _).mono ?_
  rintro e w1 ⟨rfl,hb1⟩
  have hbx1:=(hb1.block w.heap.size (by simp)).trans (heap_alloc_new w (.cells #[.slice (some ⟨b,o,none⟩) L cs,.slice Ap m cp,.int .i64 q] 165))
  have hB1:Below w.heap.size w w1:=((Below.refl _ w).alloc (Nat.le_refl _) _).trans (hb1.mono (by simp))
  obtain ⟨⟨y0,y1,y2⟩,yf⟩:=bx3 hbx1
  have HB1:=Lib.hid hB1;have Hbx1:=Lib.hid hbx1;clear hb1 hB1 hbx1
  go_wp2_with fail
  refine (Hih.out w1 HB1.out).mono ?_
  rintro e w2 ⟨A2,c2,rfl,ho2,hb2⟩
  have hbx2:=(hb2.block _ (lt_of_block Hbx1.out)).trans Hbx1.out
  have hB2:=HB1.out.trans (hb2.mono HB1.out.size)
  have hrd2:=Rd.own ho2
  clear y0 y1 y2 yf hne
  obtain ⟨⟨y0,y1,y2⟩,yf⟩:=bx3 hbx2
  have hbxl:w.heap.size < w2.heap.size:=lt_of_block hbx2
  have HB2:=Lib.hid hB2;have Hbx2:=Lib.hid hbx2;have Hrd2:=Lib.hid hrd2;clear ho2 hb2 hB2 hbx2 hrd2
  go_wp2_with fail
  go_loopw [9,12] (fun v i wr => ∃ c:Nat,c ≤ c1 ∧ i = .int .i64 c ∧ wr.ownsRow w2.heap.size 2 1 v c (nums .i64 (en.take c)) ∧ Below w2.heap.size w2 wr) (fun _ i _ => c1 - (intOf i).toNat)
  case atStart => exact ⟨0,Nat.zero_le _,rfl,World.ownsRow_nil _ _ _ _,Below.refl _ _⟩
  case round =>
    obtain ⟨wq,rfl⟩:∃ wq:World,wq = wr:=⟨_,rfl⟩
    obtain ⟨c,hc,rfl,hown,hbq⟩:=hrel
    obtain ⟨Al,cl,rfl,hcl⟩:=own_form hown
    have x0:=(hbq.cell (p:=⟨w.heap.size,0,none⟩) hbxl).trans y0
    have hbwq:=HB2.out.trans (hbq.mono HB2.out.size)
    have p0q:=(hbwq.cell (p:=⟨b,o + k,none⟩) hbl).trans p0
    have hz2:w2.heap.size ≤ wq.heap.size:=hbq.size
    have Hown:=Lib.hid hown;have Hbq:=Lib.hid hbq;have Hbwq:=Lib.hid hbwq;clear hown hbq hbwq
    by_cases hlc:c < c1
    · have hst:=Hst.out c hlc
      have Hst2:=Lib.hid hst;clear hst
      go_wp2_with fail
      go_loopw [13,14] (fun s i wx => ∃ r:Nat,r ≤ r1 ∧ i = .int .i64 r ∧ s = .int .i64 (esumN sz ps q k c ev r) ∧ Below wq.heap.size wq wx) (fun _ i _ => r1 - (intOf i).toNat)
      case atStart => exact ⟨0,Nat.zero_le _,rfl,rfl,Below.refl _ _⟩
      case round =>
        obtain ⟨wo,rfl⟩:∃ wo:World,wo = wr:=⟨_,rfl⟩
        obtain ⟨r,hr,rfl,rfl,hbx⟩:=hrel
        have hb2x:=Hbq.out.trans (hbx.mono Hbq.out.size)
        have hbwx:=HB2.out.trans (hb2x.mono HB2.out.size)
        by_cases hlr:r < r1
        · obtain ⟨be,oe,rfl,pe⟩:=Hrd2.out.num (show r < ev.length by rw [Hel.out];exact hlr)
          have hbe:be < w2.heap.size:=lt_of_cell pe
          have per:=(hb2x.cell (p:=⟨be,oe + r,none⟩) hbe).trans pe
          have x0r:=(hb2x.cell (p:=⟨w.heap.size,0,none⟩) hbxl).trans y0
          have x1r:=(hb2x.cell (p:=⟨w.heap.size,1,none⟩) hbxl).trans y1
          have x2r:=(hb2x.cell (p:=⟨w.heap.size,2,none⟩) hbxl).trans y2
          have hwk:=Hwe.out r c hlr hlc wo.drew hbwx.drew
          have hmu:=fun w' => refMul (nth ps (cntN sz k + r * c1 + c)) (nth ev r) q w' (WP.out.nth _) (WEL.out.nth _)
          have Hwk:=Lib.hid hwk;have Hmu:=Lib.hid hmu;have Hbx:=Lib.hid hbx
          clear hwk hmu hbx pe hb2x hbwx
          have hri:(r:Int) < r1:=by omega
          go_wp2_with fail
          go_region_held3 (fun w' => w'.cell? ⟨w.heap.size,0,none⟩ = some (.slice (some ⟨b,o,none⟩) L cs) ∧ w'.cell? ⟨w.heap.size,1,none⟩ = some (.slice Ap m cp) ∧ w'.cell? ⟨w.heap.size,2,none⟩ = some (.int .i64 q) ∧ w'.cell? ⟨be,oe + r,none⟩ = some (.int .i64 (nth ev r))) (simp [go_sem, *])
            ((first | (go_at_call 165;refine Hwk.out.mono ?_;rintro e w3 ⟨rfl,hb3⟩;have g0:=cell_below hb3 x0r;have g1:=cell_below hb3 x1r;have g2:=cell_below hb3 x2r;have g3:=cell_below hb3 per;have hB3:=Hbx.out.trans (((Below.refl wo.heap.size wo).drew.trans hb3).mono Hbx.out.size);have HB3:=Lib.hid hB3;clear hb3 hB3) | (go_at_call 122;refine (Hmu.out _).mono ?_;rintro e w4 ⟨rfl,rfl⟩)))
          go_wp2_with fail
          go_roundw
          case rel => exact ⟨r + 1,by omega,by go_num,by rw [IntKind.wrap_i64,esumN,wrap64,Hc1.out],HB3.out⟩
          case measure => simp [intOf];omega
        · obtain rfl:r = r1:=by omega
          obtain ⟨ba,oa,rfl,pa⟩:=He3.out.num (show c < vv.length by rw [Hvl.out];exact hlc)
          have hba:ba < w.heap.size:=lt_of_cell pa
          have pax:=(hbwx.cell (p:=⟨ba,oa + c,none⟩) hba).trans pa
          have pvx:=(hbwx.cell (p:=⟨bo,oo + k,none⟩) hbo).trans pv
          have hownx:=own_below Hown.out hbx
          have hzx:=hbx.size
          have htk:=take_succ_nth en c (by rw [Hel2.out];exact hlc)
          have Hbx:=Lib.hid hbx;have Hownx:=Lib.hid hownx;have Htk:=Lib.hid htk;have Hb2x:=Lib.hid hb2x
          clear hbx hownx htk pa hb2x hbwx
          have hci:(c:Int) < c1:=by omega
          go_wp2_with fail
          refine (rgate_any _ _ _).mono ?_
          rintro e w7 ⟨rfl,rfl⟩
          rw [← Hst2.out]
          go_wp2_with (at_builtin;refine wpList_push et_i64s wo rfl (.tmp 76) (.tmp 86) rfl w2.heap.size (.slice Al c cl) c _ rfl Hownx.out [.int .i64 (nth en c)] rfl rfl (by simp [Value.oneCell']) (by omega) (by unfold maxLen;omega) (by omega) ?_)
          intro g7 c7 w7 ho7 hb7 hg7
          have hB7:=Hb2x.out.trans hb7
          have HO7:=Lib.hid ho7;have HB7:=Lib.hid hB7;clear ho7 hb7 hg7 hB7
          go_wp2_with fail
          go_roundw
          case rel => exact ⟨c + 1,by omega,by go_num,by rw [Htk.out,nums_append];exact HO7.out,HB7.out⟩
          case measure => simp [intOf];omega
    · obtain rfl:c = c1:=by omega
      have hfull:=Hown.out
      rw [List.take_of_length_le (by rw [Hel2.out];exact Nat.le_refl _)] at hfull
      have Hf:=Lib.hid (own_base hfull (base':=w.heap.size) (by have:=HB2.out.size;omega));clear hfull
      go_wp2_with fail
      go_ret
      exact ⟨_,_,rfl,Hf.out,Hbwq.out⟩
theorem rerr_any (As Ap Y V:Option Addr) (sz ps x y:List Int) (cs cp cy cv:Nat) (q:Int) (vals:List Value) (hx:x.length = szN sz 0) (wx:W64 x) (hy:y.length = szN sz (sz.length - 1)) :
    ∀ (j:Nat) (w:World),j + 1 ≤ sz.length → RNet w As Ap sz ps cs → Rd w Y (nums .i64 y) → Rd w V vals → VecsAt w vals sz.length (valL sz ps q x) →
      Calls Tryz.prog 123 #[.agg #[.slice As sz.length cs,.slice Ap ps.length cp,.int .i64 q],.int .i64 ((sz.length - 1 - j:Nat):Int),.slice V sz.length cv,.slice Y y.length cy] w fun e w2 => ∃ A c,e = .returned (.slice A (szN sz (sz.length - 1 - j)) c) ∧ w2.ownsRow w.heap.size 2 1 (.slice A (szN sz (sz.length - 1 - j)) c) (szN sz (sz.length - 1 - j)) (nums .i64 (errD sz ps q x y j)) ∧ Below w.heap.size w w2:=by
  intro j
  induction j with
  | zero =>
    intro w _ h hY hV hva
    have:=rerr_last As Ap Y V sz ps x y cs cp cy cv q vals w h hx hY hy hV hva
    rw [Nat.sub_zero,← hy]
    exact this
  | succ j ih =>
    intro w hj h hY hV hva
    have:=rerr_step j As Ap Y V sz ps x y cs cp cy cv q vals w h hx wx hV hva (by omega) (fun w' hb => ih w' (by omega) (h.below hb) (hY.below hb) (hV.below hb) (hva.below hb))
    rw [show sz.length - 1 - (j + 1) = sz.length - 2 - j by omega]
    exact this
end Go.Proofs.YthamijnggdjaoaaGreatDoor
namespace Go.Proofs.YthamijnggdjaoaaGreatDoor
open Go.RowKit
def RGradI (sz ps:List Int) (q:Int) (x y:List Int) (B:Nat) (k:Nat) (v:Value) (BX:Obj) (w0 w2 w:World):Prop:=
  ∃ A c vals,v = .slice A k c ∧ w.ownsRow w2.heap.size 26 1 (.slice A k c) k vals ∧
    (∀ j,1 ≤ j → j < k → ∃ Aj cj,vals[j]? = some (.slice Aj (szN sz j) cj) ∧ w.ownsRow w2.heap.size 2 1 (.slice Aj (szN sz j) cj) (szN sz j) (nums .i64 (errD sz ps q x y (sz.length - 1 - j)))) ∧ Below w2.heap.size w2 w
theorem quiet_more {P:Program} {f:FuncId} {args:Array Value} {W:World} {a n:Nat} {v:Value} (h:∀ w',Calls P f args w' fun e w'' => e = .returned v ∧ w' = w''):Calls P f args (W.drewN (a + n)) fun e w'' => e = .returned v ∧ ∃ m,w'' = W.drewN (a + m):=
  (h _).mono fun _ _ h => ⟨h.1,n,h.2.symm⟩
set_option maxRecDepth 100000 in
set_option maxHeartbeats 2000000 in
theorem rgrad_any (As Ap X Y:Option Addr) (sz ps x y:List Int) (cs cp cx cy:Nat) (q:Int) (w:World) (h:RNet w As Ap sz ps cs) (hX:Rd w X (nums .i64 x)) (hx:x.length = szN sz 0) (wx:W64 x) (hcx:x.length ≤ cx) (hY:Rd w Y (nums .i64 y)) (hy:y.length = szN sz (sz.length - 1)) :
    Calls Tryz.prog 120 #[.agg #[.slice As sz.length cs,.slice Ap ps.length cp,.int .i64 q],.slice X x.length cx,.slice Y y.length cy] w fun e w' => ∃ A' c',e = .returned (.slice A' (cntN sz (sz.length - 1)) c') ∧ Rd w' A' (nums .i64 (gradL sz ps q x y)) ∧ Below w.heap.size w w':=by
  have hl16:=h.hg.1.1
  have hgl:=gradL_eq (sz:=sz) (ps:=ps) (q:=q) (x:=x) (y:=y) hx (by omega)
  have hpl:=plL_len sz (sz.length - 1)
  have hla:=fun w' => rlast_any As Ap sz.length ps.length cs cp q w' (by omega)
  have htr:=fun w' (hb:Below w.heap.size w w') => rtrace_any As Ap X sz ps x cs cp cx q w' (h.below hb) (hX.below hb) hx wx hcx
  have hpa:=fun w' (hb:Below w.heap.size w w') => rplaces_any As sz cs w' (h.hA.below hb) h.hg
  have her:=fun j V cv vals w' (hb:Below w.heap.size w w') (hj:j + 1 ≤ sz.length) (hV:Rd w' V vals) (hva:VecsAt w' vals sz.length (valL sz ps q x)) => rerr_any As Ap Y V sz ps x y cs cp cy cv q vals hx wx hy j w' hj (h.below hb) (hY.below hb) hV hva
  have hcb:=h.hg.2
  have hG:=h.hg
  rw [hgl]
  obtain ⟨L,hL⟩:∃ L,sz.length = L:=⟨_,rfl⟩
  obtain ⟨m,hm⟩:∃ m,ps.length = m:=⟨_,rfl⟩
  obtain ⟨Y0,hY0⟩:∃ Y0,y.length = Y0:=⟨_,rfl⟩
  obtain ⟨X0,hX0⟩:∃ X0,x.length = X0:=⟨_,rfl⟩
  rw [hL] at hla htr her hpa hl16 hpl hcb ⊢
  rw [hm] at hla htr her ⊢
  rw [hY0] at her ⊢
  rw [hX0] at htr ⊢
  obtain ⟨N,hN⟩:∃ N,cntN sz (L - 1) = N:=⟨_,rfl⟩
  rw [hN] at hpa hpl hcb ⊢
  have Hla:=Lib.hid hla;have Htr:=Lib.hid htr;have Her:=Lib.hid her;have Hpa:=Lib.hid hpa;have Hpl:=Lib.hid hpl;have HG:=Lib.hid hG;have HL:=Lib.hid hL;have Hx:=Lib.hid hx;have WX:=Lib.hid wx
  clear hla htr her hpa hpl hG hX hx wx hcx hY hy hgl hL hm hY0 hX0 hN h
  go_enter Tryz.func120,Tryz.ntmps120
  go_wp2_with fail
  refine (Htr.out _ ?_).mono ?_
  · (focus (repeat' (first | (with_reducible exact Below.refl _ _) | (with_reducible assumption) | (with_reducible refine Below.setCell ?_ ?_ _) | (with_reducible refine Below.alloc ?_ ?_ _) | (with_reducible refine below_drewN ?_ _) | (with_reducible refine Below.drew ?_) | (with_reducible exact Nat.le_refl _) | omega | (simp;done) | (simp;omega))))
  rintro e w1 ⟨V,cv,vals,rfl,hV,hva,hcv,hb1⟩
  have hbx1:=(hb1.block w.heap.size (by simp)).trans (heap_alloc_new w (.cells #[.slice As L cs,.slice Ap m cp,.int .i64 q] 165))
  have hB1:Below w.heap.size w w1:=((Below.refl _ w).alloc (Nat.le_refl _) _).trans (hb1.mono (by simp))
  obtain ⟨⟨z0,z1,z2⟩,zf⟩:=bx3 hbx1
  have HB1:=Lib.hid hB1;have Hbx1:=Lib.hid hbx1;have HV1:=Lib.hid hV;have Hva1:=Lib.hid hva;clear hb1 hbx1 hB1 hV hva hcv
  go_wp2_with fail
  refine (Hpa.out _ HB1.out).mono ?_
  rintro e w2 ⟨Pa,pc,rfl,hop,hb2⟩
  have hbx2:=(hb2.block _ (lt_of_block Hbx1.out)).trans Hbx1.out
  have hB2:=HB1.out.trans (hb2.mono HB1.out.size)
  have hV2:=HV1.out.below hb2
  have hva2:=Hva1.out.below hb2
  have hrp:=Rd.own hop
  clear z0 z1 z2 zf
  obtain ⟨⟨z0,z1,z2⟩,zf⟩:=bx3 hbx2
  have hbxl:w.heap.size < w2.heap.size:=lt_of_block hbx2
  have HB2:=Lib.hid hB2;have Hbx2:=Lib.hid hbx2;have HV2:=Lib.hid hV2;have Hva2:=Lib.hid hva2;have Hrp:=Lib.hid hrp;clear hb2 hbx2 hB2 hV2 hva2 hop hrp
  go_wp2_with fail
  go_loopw [9,10] (fun v i wr => ∃ k:Nat,k ≤ L ∧ i = .int .i64 k ∧ RGradI sz ps q x y w.heap.size k v (.cells #[] 0 (0,0)) w w2 wr) (fun _ i _ => L - (intOf i).toNat)
  case atStart => exact ⟨0,Nat.zero_le _,rfl,none,0,[],rfl,World.ownsRow_nil _ _ _ _,fun j h1 h2 => by omega,Below.refl _ _⟩
  case round =>
    obtain ⟨wq,rfl⟩:∃ wq:World,wq = wr:=⟨_,rfl⟩
    obtain ⟨k,hk,rfl,Aa,ca,av,rfl,hoa,hav,hWq⟩:=hrel
    have x0:=(hWq.cell (p:=⟨w.heap.size,0,none⟩) hbxl).trans z0
    have x1:=(hWq.cell (p:=⟨w.heap.size,1,none⟩) hbxl).trans z1
    have x2:=(hWq.cell (p:=⟨w.heap.size,2,none⟩) hbxl).trans z2
    have Hoa:=Lib.hid hoa;have Hav:=Lib.hid hav;have HWq:=Lib.hid hWq;clear hoa hav hWq
    by_cases hlt:k < L
    · have hle:(k:Int) ≤ ((L - 1:Nat):Int):=by omega
      go_wp2_with fail
      refine (Hla.out _).mono ?_
      rintro e w3 ⟨rfl,hb3⟩
      have hB23:=HWq.out.trans (hb3.mono HWq.out.size)
      have hoa3:=own_below Hoa.out hb3
      have hz3:=hB23.size
      clear x0 x1 x2
      have HB23:=Lib.hid hB23;have Hoa3:=Lib.hid hoa3;have Hb3:=Lib.hid hb3;clear hb3 hB23 hoa3
      go_wp2_with (at_builtin;refine wpList_push et_vvs w3 rfl (.tmp 27) (.tmp 28) rfl w2.heap.size (.slice Aa k ca) k av rfl Hoa3.out [.slice none 0 0] rfl rfl (by simp [Value.oneCell']) (by omega) (by unfold maxLen;omega) hz3 ?_)
      intro g4 c4 w4 ho4 hb4 hg4
      have hB4:=HB23.out.trans hb4
      have havl:=Hoa.out.1
      have hkeep:∀ {mm:Nat} {u:Value} {ys:List Value} {b0:Nat},w3.ownsRow b0 2 1 u mm ys → w4.ownsRow b0 2 1 u mm ys:=fun h => h.kept hg4 (by
        rename_i u _ _
        cases hu:u.ownBlock with
        | none => exact .inl rfl
        | some i => exact .inr fun e9 => own_types Hoa3.out h (by decide) i e9.symm hu)
      have hav4:∀ j,1 ≤ j → j < k → ∃ Aj cj,(av ++ [Value.slice none 0 0])[j]? = some (.slice Aj (szN sz j) cj) ∧ w4.ownsRow w2.heap.size 2 1 (.slice Aj (szN sz j) cj) (szN sz j) (nums .i64 (errD sz ps q x y (sz.length - 1 - j))):=fun j h1 h2 => by
        obtain ⟨Aj,cj,e1,e2⟩:=Hav.out j h1 h2
        exact ⟨Aj,cj,by rw [List.getElem?_append_left (by omega)];exact e1,hkeep (own_below e2 Hb3.out)⟩
      have Ho4:=Lib.hid ho4;have HB4:=Lib.hid hB4;have Hav4:=Lib.hid hav4;clear ho4 hb4 hg4 hB4 hav4
      have y0:=(HB4.out.cell (p:=⟨w.heap.size,0,none⟩) hbxl).trans z0
      have y1:=(HB4.out.cell (p:=⟨w.heap.size,1,none⟩) hbxl).trans z1
      have y2:=(HB4.out.cell (p:=⟨w.heap.size,2,none⟩) hbxl).trans z2
      by_cases hk0:k = 0
      · have hk0i:¬ (0:Int) < (k:Int):=by omega
        go_wp2_with fail
        go_roundw
        case rel => exact ⟨k + 1,by omega,by go_num,some ⟨g4,0,none⟩,c4,_,rfl,Ho4.out,fun j h1 h2 => by omega,HB4.out⟩
        case measure => simp [intOf];omega
      · have hk0i:(0:Int) < (k:Int):=by omega
        have hkp:0 < k:=by omega
        have her4:=Her.out (L - 1 - k) V cv vals w4 (HB2.out.trans (HB4.out.mono HB2.out.size)) (by omega) (HV2.out.below HB4.out) (Hva2.out.below HB4.out)
        rw [show L - 1 - (L - 1 - k) = k by omega] at her4
        have Her4:=Lib.hid her4;clear her4
        have hwk:k < k + 1:=Nat.lt_succ_self k
        have hwk2:(k:Int) < (k:Int) + 1:=by omega
        go_wp2_with fail
        refine Her4.out.mono ?_
        rintro e w5 ⟨A5,c5,rfl,ho5,hb5⟩
        have hB5:=HB4.out.trans (hb5.mono HB4.out.size)
        have hoa5:=own_below Ho4.out hb5
        have hz4:=HB4.out.size
        have q0:=hoa5.cellAt k (by omega)
        have qk:(av ++ [Value.slice none 0 0])[k]? = some (.slice none 0 0):=by
          have:=Ho4.out.1
          rw [List.getElem?_append_right (by simp at this;omega)]
          simp at this
          simp [show av.length = k by omega]
        rw [qk] at q0
        have qf:=hoa5.frozenAt k
        have hst:=(hoa5.stored k (.slice A5 (szN sz k) c5)).1
        have Hst:=Lib.hid hst;have HB5:=Lib.hid hB5;have Ho5:=Lib.hid ho5;have Hb5:=Lib.hid hb5;have Hoa5:=Lib.hid hoa5;have Hqk:=Lib.hid qk
        clear hst hB5 ho5 hb5 hoa5 qk y0 y1 y2
        go_wp2_with fail
        have hsk:Keep (fun i => i = g4) w5 (w5.setCell ⟨g4,k,none⟩ (.slice A5 (szN sz k) c5)):=Keep.setCell (S:=fun i => i = g4) (Keep.refl _ _) ⟨g4,k,none⟩ (.inr rfl) _
        have hkeep2:∀ {mm:Nat} {u:Value} {ys:List Value} {b0:Nat},w5.ownsRow b0 2 1 u mm ys → (w5.setCell ⟨g4,k,none⟩ (.slice A5 (szN sz k) c5)).ownsRow b0 2 1 u mm ys:=fun h => hsk.own h (fun i hi e9 => by
          subst e9
          exact own_types Hoa5.out h (by decide) i rfl hi)
        go_roundw
        case rel =>
          refine ⟨k + 1,by omega,by go_num,some ⟨g4,0,none⟩,c4,_,rfl,Hst.out,fun j h1 h2 => ?_,HB5.out.trans (hsk.toBelow HB5.out.size (fun i hi => by subst hi;exact (Ho4.out.lt i rfl).1))⟩
          have hl9:(av ++ [Value.slice none 0 0]).length = k + 1:=by have:=Ho4.out.1;simpa using this
          rcases Nat.lt_or_ge j k with hjk | hjk
          · obtain ⟨Aj,cj,e1,e2⟩:=Hav4.out j h1 hjk
            refine ⟨Aj,cj,?_,hkeep2 (own_below e2 Hb5.out)⟩
            rw [List.getElem?_set_ne (by omega)];exact e1
          · obtain rfl:j = k:=by omega
            refine ⟨A5,c5,?_,?_⟩
            · rw [List.getElem?_set_self (by omega)]
            · have:=hkeep2 (own_base Ho5.out (base':=w2.heap.size) hz4)
              rw [HL.out];exact this
        case measure => simp [intOf];omega
    · obtain rfl:k = L:=by omega
      have hle:¬ ((k:Int) ≤ ((k - 1:Nat):Int)):=by omega
      have hLp:1 ≤ k:=by omega
      go_wp2_with fail
      refine (Hla.out _).mono ?_
      rintro e w3 ⟨rfl,hb3⟩
      obtain ⟨ga,ca',hva',hga,_⟩:=Hoa.out.form (by omega)
      simp only [Value.slice.injEq] at hva'
      obtain ⟨rfl,hvx,rfl⟩:=hva'
      clear hvx
      have hB23:=HWq.out.trans (hb3.mono HWq.out.size)
      have hoa3:=own_below Hoa.out hb3
      have hav3:∀ j,1 ≤ j → j < k → ∃ Aj cj,av[j]? = some (.slice Aj (szN sz j) cj) ∧ w3.ownsRow w2.heap.size 2 1 (.slice Aj (szN sz j) cj) (szN sz j) (nums .i64 (errD sz ps q x y (sz.length - 1 - j))):=fun j h1 h2 => by
        obtain ⟨Aj,cj,e1,e2⟩:=Hav.out j h1 h2
        exact ⟨Aj,cj,e1,own_below e2 hb3⟩
      have HB23:=Lib.hid hB23;have Hoa3:=Lib.hid hoa3;have Hav3:=Lib.hid hav3;clear hb3 hB23 hoa3 hav3 x0 x1 x2
      go_wp2_with fail
      have hdec:decide (k ≤ k - 1) = false:=decide_eq_false (by omega)
      rw [hdec]
      clear hdec
      go_loopw [11,12] (fun v i wr => ∃ t:Nat,t ≤ N ∧ i = .int .i64 t ∧ wr.ownsRow w3.heap.size 2 1 v t (nums .i64 (((plL sz (k - 1)).map (gAt sz ps q x y)).take t)) ∧ Below w3.heap.size w3 wr) (fun _ i _ => N - (intOf i).toNat)
      case atStart => exact ⟨0,Nat.zero_le _,rfl,World.ownsRow_nil _ _ _ _,Below.refl _ _⟩
      case round =>
        obtain ⟨wo,rfl⟩:∃ wo:World,wo = wr:=⟨_,rfl⟩
        obtain ⟨t,ht,rfl,hown,hbo⟩:=hrel
        obtain ⟨Al,cl,rfl,_⟩:=own_form hown
        have Hown:=Lib.hid hown;have Hbo:=Lib.hid hbo;clear hown hbo
        by_cases hlt:t < N
        · obtain ⟨pp,hpp⟩:∃ pp,(plL sz (k - 1))[t]? = some pp:=⟨_,List.getElem?_eq_getElem (by rw [Hpl.out];exact hlt)⟩
          have hmem:=plL_mem (List.mem_of_getElem? hpp)
          have hga2:nth ((plL sz (k - 1)).map (gAt sz ps q x y)) t = gAt sz ps q x y pp:=by
            unfold nth
            rw [List.getD_eq_getElem?_getD,List.getElem?_map,hpp]
            rfl
          have htk:=take_succ_nth ((plL sz (k - 1)).map (gAt sz ps q x y)) t (by rw [List.length_map,Hpl.out];exact hlt)
          rw [hga2] at htk
          obtain ⟨f0,f1,f2⟩:=plV_at _ _ _ hpp
          obtain ⟨bp,op,hPa,c0⟩:=Hrp.out _ _ f0
          obtain ⟨_,_,e',c1⟩:=Hrp.out _ _ f1
          rw [hPa] at e';injection e' with e';injection e' with i1 i2 _;subst i1;subst i2
          obtain ⟨_,_,e',c2⟩:=Hrp.out _ _ f2
          rw [hPa] at e';injection e' with e';injection e' with i1 i2 _;subst i1;subst i2
          subst hPa
          have hB2o:=HB23.out.trans (Hbo.out.mono HB23.out.size)
          have c0r:=cell_below hB2o c0
          have c1r:=cell_below hB2o c1
          have c2r:=cell_below hB2o c2
          rw [← Nat.add_assoc] at c1r c2r
          obtain ⟨K,R,C⟩:=pp
          dsimp only at hmem c0r c1r c2r
          obtain ⟨m1,m2,m3⟩:=hmem
          obtain ⟨A8,c8,g1,g2⟩:=Hav3.out (K + 1) (by omega) (by omega)
          obtain ⟨_,_,e8,p8⟩:=(Rd.own Hoa3.out) _ _ g1
          injection e8 with e8;injection e8 with i1 i2 _;subst i1;subst i2
          rw [Nat.zero_add] at p8
          have hel:=errD_len (sz:=sz) (ps:=ps) (q:=q) (x:=x) (y:=y) Hx.out (sz.length - 2 - K)
          have hL9:=HL.out
          rw [show sz.length - 1 - (sz.length - 2 - K) = K + 1 by omega] at hel
          rw [show sz.length - 1 - (K + 1) = sz.length - 2 - K by omega] at g2
          have wel:=errD_W64 sz ps q x y (sz.length - 2 - K)
          obtain ⟨b9,o9,rfl,p9⟩:=(Rd.own g2).num (show R < (errD sz ps q x y (sz.length - 2 - K)).length by rw [hel];exact m2)
          have p8o:=cell_below Hbo.out p8
          have p9o:=cell_below Hbo.out p9
          obtain ⟨A7,c7,h1,h2,h3⟩:=Hva2.out.2 K (by omega)
          have hvl:=valL_len (sz:=sz) (ps:=ps) (q:=q) Hx.out K
          rw [hvl] at h1
          obtain ⟨bv,ov,hVe,p7⟩:=HV2.out _ _ h1
          subst hVe
          have p7o:=cell_below hB2o p7
          have h3o:=h3.below hB2o
          have wvl:=valL_W64 (sz:=sz) (ps:=ps) (q:=q) WX.out K
          have hs1:=HG.out.1.at (k:=K + 1) (by omega)
          have hs0:=HG.out.1.at (k:=K) (by omega)
          have y2:=(hB2o.cell (p:=⟨w.heap.size,2,none⟩) hbxl).trans z2
          obtain ⟨ev,hev⟩:∃ ev,errD sz ps q x y (sz.length - 2 - K) = ev:=⟨_,rfl⟩
          obtain ⟨vv,hvv⟩:∃ vv,valL sz ps q x K = vv:=⟨_,rfl⟩
          obtain ⟨n1,hn1⟩:∃ n1,szN sz (K + 1) = n1:=⟨_,rfl⟩
          obtain ⟨n0,hn0⟩:∃ n0,szN sz K = n0:=⟨_,rfl⟩
          have hgv:gAt sz ps q x y (K,R,C) = if 0 ≤ C then mulQ (nth ev R) (nth vv C.toNat) q else nth ev R:=by unfold gAt;rw [hev,hvv]
          rw [hev] at p9o wel
          rw [hvv] at h3o wvl hvl
          rw [hn1] at p8o m2 hs1
          rw [hn0] at p7o m3 hs0 hvl
          have Hgv:=Lib.hid hgv;have Htk:=Lib.hid htk;have H3o:=Lib.hid h3o;have WEL:=Lib.hid wel;have WVL:=Lib.hid wvl;have Hvl:=Lib.hid hvl;have HB2o:=Lib.hid hB2o
          clear hgv htk h3o wel wvl hvl hB2o hga2 hpp f0 f1 f2 c0 c1 c2 g1 g2 p8 p9 h1 h2 h3 p7 hel hev hvv hn1 hn0 hL9
          have hti:(t:Int) < N:=by omega
          go_wp2_with fail
          have e1:IntKind.i64.wrap ((K:Int) + 1) = (K:Int) + 1:=IntWalk.i64_in _ (by omega)
          have e2:(K:Int) + 1 < k:=by omega
          have e3:K + 1 < k:=by omega
          have e4:(R:Int) < n1:=by omega
          have e5:(0:Int) ≤ (K:Int) + 1:=by omega
          have e6:((K:Int) + 1).toNat = K + 1:=by omega
          have e7:¬ ((K:Int) + 1 < 0):=by omega
          have e8:¬ ((k:Int) ≤ (K:Int) + 1):=by omega
          have l8:ga < wo.heap.size:=lt_of_cell p8o
          have l9:b9 < wo.heap.size:=lt_of_cell p9o
          have l7:bv < wo.heap.size:=lt_of_cell p7o
          have l2:w.heap.size < wo.heap.size:=lt_of_cell y2
          go_quiet (fail)
          have pb:=cell_alloc (W:=wo) (p:=⟨b9,o9 + R,none⟩) p9o (.cells #[.int .i64 (K:Int),.int .i64 (R:Int),.int .i64 C] 275)
          by_cases hC:0 ≤ C
          · obtain ⟨C1,rfl⟩:∃ C1:Nat,C = (C1:Int):=⟨C.toNat,by omega⟩
            have hC2:C1 < n0:=by omega
            have hC1:(C1:Int) < n0:=by omega
            have hC3:¬ ((C1:Int) < 0):=by omega
            obtain ⟨b7,o7,rfl,p6⟩:=H3o.out.num (show C1 < vv.length by rw [Hvl.out];exact hC2)
            have l6:b7 < wo.heap.size:=lt_of_cell p6
            have f3:(K:Int) < k:=by omega
            have f4:K < k:=by omega
            have hmu:=fun w' => refMul (nth ev R) (nth vv C1) q w' (WEL.out.nth _) (WVL.out.nth _)
            have Hmu:=Lib.hid hmu;clear hmu
            obtain ⟨na,rfl⟩:∃ na:Nat,na = nq:=⟨_,rfl⟩
            go_wp2_with fail
            go_quiet ((go_at_call 122;exact quiet_more Hmu.out))
            have hzw:w3.heap.size ≤ wo.heap.size:=Hbo.out.size
            have hsz9:=Lib.hid (show ((wo.alloc (.cells #[.int .i64 (K:Int),.int .i64 (R:Int),.int .i64 (C1:Int)] 275)).drewN (na + nq)).heap.size = wo.heap.size + 1 by simp)
            have hbw:=below_drewN (Hbo.out.alloc Hbo.out.size (.cells #[.int .i64 (K:Int),.int .i64 (R:Int),.int .i64 (C1:Int)] 275)) (na + nq)
            have how:=own_drewN (Hown.out.alloc (.cells #[.int .i64 (K:Int),.int .i64 (R:Int),.int .i64 (C1:Int)] 275)) (na + nq)
            go_wp2_with (at_builtin;go_loud (refine wpList_push et_i64s _ rfl (.tmp 76) (.tmp 78) rfl w3.heap.size (.slice Al t cl) t _ rfl how [.int .i64 (mulQ (nth ev R) (nth vv C1) q)] (congrArg (fun b:Nat => Value.slice (some ⟨b,0,none⟩) 1 1) hsz9.out.symm) rfl (by simp [Value.oneCell']) (by omega) (by unfold maxLen;omega) hbw.size ?_))
            intro g6 c6 w6 ho6 hb6 hg6
            have hb6':=hbw.trans hb6
            have HO6:=Lib.hid ho6;have HB6:=Lib.hid hb6'
            clear ho6 hb6 hg6 hb6' how hbw
            go_wp2_with fail
            go_roundw
            case rel =>
              refine ⟨t + 1,by omega,by go_num,?_,HB6.out⟩
              have hv:=Hgv.out
              rw [if_pos (Int.natCast_nonneg _),Int.toNat_natCast] at hv
              rw [Htk.out,hv,nums_append]
              exact HO6.out
            case measure => simp [intOf];omega
          · have HC:=Lib.hid hC
            have hzw:w3.heap.size ≤ wo.heap.size:=Hbo.out.size
            have hsz9:=Lib.hid (show ((wo.alloc (.cells #[.int .i64 (K:Int),.int .i64 (R:Int),.int .i64 C] 275)).drewN nq).heap.size = wo.heap.size + 1 by simp)
            have hbw:=below_drewN (Hbo.out.alloc Hbo.out.size (.cells #[.int .i64 (K:Int),.int .i64 (R:Int),.int .i64 C] 275)) nq
            have how:=own_drewN (Hown.out.alloc (.cells #[.int .i64 (K:Int),.int .i64 (R:Int),.int .i64 C] 275)) nq
            go_wp2_with (at_builtin;go_loud (refine wpList_push et_i64s _ rfl (.tmp 76) (.tmp 78) rfl w3.heap.size (.slice Al t cl) t _ rfl how [.int .i64 (nth ev R)] (congrArg (fun b:Nat => Value.slice (some ⟨b,0,none⟩) 1 1) hsz9.out.symm) rfl (by simp [Value.oneCell']) (by omega) (by unfold maxLen;omega) hbw.size ?_))
            intro g6 c6 w6 ho6 hb6 hg6
            have hb6':=hbw.trans hb6
            have HO6:=Lib.hid ho6;have HB6:=Lib.hid hb6'
            clear ho6 hb6 hg6 hb6' how hbw
            go_wp2_with fail
            go_roundw
            case rel =>
              refine ⟨t + 1,by omega,by go_num,?_,HB6.out⟩
              have hv:=Hgv.out
              rw [if_neg (by have:=HC.out;omega)] at hv
              rw [Htk.out,hv,nums_append]
              exact HO6.out
            case measure => simp [intOf];omega
        · obtain rfl:t = N:=by omega
          have hall:=Hown.out
          rw [List.take_of_length_le (by rw [List.length_map,Hpl.out];exact Nat.le_refl _)] at hall
          have Hall:=Lib.hid (Rd.own hall);clear hall
          have hBf:=HB2.out.trans ((HB23.out.trans (Hbo.out.mono HB23.out.size)).mono HB2.out.size)
          have HBf:=Lib.hid hBf;clear hBf
          go_wp2_with fail
          go_ret
          exact ⟨_,_,rfl,Hall.out,HBf.out⟩
end Go.Proofs.YthamijnggdjaoaaGreatDoor
namespace Go.Proofs.YthamijnggdjaoaaGreatDoor
open Go.RowKit
set_option maxRecDepth 100000 in
theorem rule_any (A:Option Addr) (c:Nat) (k:Cfg) (w:World) :
    Calls Tryz.prog 79 #[.agg (cfgVals A c k)] w fun e w' => e = .returned (.agg #[.int .i64 k.rate,.int .i64 k.mom,.int .i64 k.shift]) ∧ Below w.heap.size w w':=by
  obtain ⟨sz,sh,ra,mo,wk,ba,mi,st,bu,ch,wi,ca⟩:=k
  dsimp only [cfgVals]
  obtain ⟨L,hL⟩:∃ L,sz.length = L:=⟨_,rfl⟩
  rw [hL]
  clear hL
  go_enter Tryz.func79,Tryz.ntmps79
  go_wp2_with fail
  have e3:=heap_alloc_new (w.alloc (.cells #[.slice A L c,.int .i64 sh,.int .i64 ra,.int .i64 mo,.int .i64 wk,.int .i64 ba,.int .i64 mi,.int .i64 st,.int .i64 bu,.int .i64 ch,.int .i64 wi,.int .i64 ca] 24)) (.cells #[.int .i64 ra,.int .i64 mo,.int .i64 sh] 161)
  rw [show (w.alloc (.cells #[.slice A L c,.int .i64 sh,.int .i64 ra,.int .i64 mo,.int .i64 wk,.int .i64 ba,.int .i64 mi,.int .i64 st,.int .i64 bu,.int .i64 ch,.int .i64 wi,.int .i64 ca] 24)).heap.size = w.heap.size + 1 by simp] at e3
  have hB:Below w.heap.size w ((w.alloc (.cells #[.slice A L c,.int .i64 sh,.int .i64 ra,.int .i64 mo,.int .i64 wk,.int .i64 ba,.int .i64 mi,.int .i64 st,.int .i64 bu,.int .i64 ch,.int .i64 wi,.int .i64 ca] 24)).alloc (.cells #[.int .i64 ra,.int .i64 mo,.int .i64 sh] 161)):=((Below.refl _ w).alloc (Nat.le_refl _) _).alloc (by simp) _
  obtain ⟨W9,hW9⟩:∃ W9,W9 = (w.alloc (.cells #[.slice A L c,.int .i64 sh,.int .i64 ra,.int .i64 mo,.int .i64 wk,.int .i64 ba,.int .i64 mi,.int .i64 st,.int .i64 bu,.int .i64 ch,.int .i64 wi,.int .i64 ca] 24)).alloc (.cells #[.int .i64 ra,.int .i64 mo,.int .i64 sh] 161):=⟨_,rfl⟩
  rw [← hW9] at e3 hB ⊢
  clear hW9
  obtain ⟨⟨r0,r1,r2⟩,rf⟩:=bx3 e3
  exact bodyPost_ret (v:=.agg #[.int .i64 ra,.int .i64 mo,.int .i64 sh]) (by simp [results,Tryz.results79,go_sem,r0,r1,r2]) rfl ⟨rfl,hB⟩
set_option maxRecDepth 100000 in
theorem rnet14_any (A:Option Addr) (c:Nat) (D:Option Addr) (cd:Nat) (T:Option Addr) (ct:Nat) (R:Option Addr) (cr:Nat) (i:Inp) (P:Option Addr) (pn pc:Nat) (w:World) :
    Calls Tryz.prog 81 #[.agg (inpVals A c D cd T ct R cr i),.slice P pn pc] w fun e w' => e = .returned (.agg #[.slice A i.cfg.sizes.length c,.slice P pn pc,.int .i64 i.cfg.shift]) ∧ Below w.heap.size w w':=by
  obtain ⟨⟨sz,sh,ra,mo,wk,ba,mi,st,bu,ch,wi,ca⟩,data,start,draws⟩:=i
  dsimp only [inpVals]
  obtain ⟨L,hL⟩:∃ L,sz.length = L:=⟨_,rfl⟩
  obtain ⟨N,hN⟩:∃ N,data.length = N:=⟨_,rfl⟩
  obtain ⟨M,hM⟩:∃ M,start.length = M:=⟨_,rfl⟩
  obtain ⟨Q,hQ⟩:∃ Q,draws.length = Q:=⟨_,rfl⟩
  rw [hL,hN,hM,hQ]
  clear hL hN hM hQ
  go_enter Tryz.func81,Tryz.ntmps81
  go_wp2_with fail
  have e3:=heap_alloc_new (w.alloc (.cells #[.slice A L c,.int .i64 sh,.int .i64 ra,.int .i64 mo,.int .i64 wk,.int .i64 ba,.int .i64 mi,.int .i64 st,.int .i64 bu,.int .i64 ch,.int .i64 wi,.int .i64 ca,.slice D N cd,.slice T M ct,.slice R Q cr] 29)) (.cells #[.slice A L c,.slice P pn pc,.int .i64 sh] 165)
  rw [show (w.alloc (.cells #[.slice A L c,.int .i64 sh,.int .i64 ra,.int .i64 mo,.int .i64 wk,.int .i64 ba,.int .i64 mi,.int .i64 st,.int .i64 bu,.int .i64 ch,.int .i64 wi,.int .i64 ca,.slice D N cd,.slice T M ct,.slice R Q cr] 29)).heap.size = w.heap.size + 1 by simp] at e3
  have hB:Below w.heap.size w ((w.alloc (.cells #[.slice A L c,.int .i64 sh,.int .i64 ra,.int .i64 mo,.int .i64 wk,.int .i64 ba,.int .i64 mi,.int .i64 st,.int .i64 bu,.int .i64 ch,.int .i64 wi,.int .i64 ca,.slice D N cd,.slice T M ct,.slice R Q cr] 29)).alloc (.cells #[.slice A L c,.slice P pn pc,.int .i64 sh] 165)):=((Below.refl _ w).alloc (Nat.le_refl _) _).alloc (by simp) _
  obtain ⟨W9,hW9⟩:∃ W9,W9 = (w.alloc (.cells #[.slice A L c,.int .i64 sh,.int .i64 ra,.int .i64 mo,.int .i64 wk,.int .i64 ba,.int .i64 mi,.int .i64 st,.int .i64 bu,.int .i64 ch,.int .i64 wi,.int .i64 ca,.slice D N cd,.slice T M ct,.slice R Q cr] 29)).alloc (.cells #[.slice A L c,.slice P pn pc,.int .i64 sh] 165):=⟨_,rfl⟩
  rw [← hW9] at e3 hB ⊢
  clear hW9
  obtain ⟨⟨r0,r1,r2⟩,rf⟩:=bx3 e3
  exact bodyPost_ret (v:=.agg #[.slice A L c,.slice P pn pc,.int .i64 sh]) (by simp [results,Tryz.results81,go_sem,r0,r1,r2]) rfl ⟨rfl,hB⟩
end Go.Proofs.YthamijnggdjaoaaGreatDoor
namespace Go.Proofs.YthamijnggdjaoaaGreatDoor
open Go.RowKit Go.Shelf
attribute [local go_sem] Oper.semAt_some
def sumW (l:List Int):Int:=l.foldl (fun a x => wrap64 (a + x)) 0
theorem sumW_snoc (l:List Int) (x:Int):sumW (l ++ [x]) = wrap64 (sumW l + x):=by simp [sumW]
def valEnc (zs:List Int) {m:Nat} (k:Fin m):Array Value:=#[.int .i64 (nth zs k.1)]
theorem val_fin {zs:List Int} {m:Nat} (h:zs.length = m):((List.finRange m).map fun k => nth zs k.1) = zs:=by
  refine ext_nth (by simp [h]) fun k hk => ?_
  rw [nth_eq _ _ hk]
  simp
theorem ownFrom_blk {β:Type} (B b:Nat) (o:List β → Obj) (ho:∀ p,(o p).isCells = true):OwnFrom B (fun (p:List β) W => W.heap[b]? = some (o p)):=fun p W W' row hs hg hr => ownFrom_block (β:=List β) B b (o p) (ho p) p W W' row hs hg hr
set_option maxRecDepth 100000 in
set_option maxHeartbeats 2000000 in
theorem vals1_in (n l Bm n₀ m d:Nat) (A:Option Addr) (zs:List Int) (hzl:zs.length = m) (hm:m ≤ 1048576) (hB0:Bm < n₀) (hA0:∀ a,A = some a → a.block < n₀) (J Jx:List (Fin m) → World → Prop)
    (hY:∀ pre x W,J pre W → pre.length < m → YieldAt Fence.wide (n - 1) Tryz.prog l (valEnc zs x) W fun e W' =>
      (e = .returned (.bool true) ∧ J (pre ++ [x]) W' ∧ RowsKeep n₀ Bm W W') ∨ (e = .returned (.bool false) ∧ Jx (pre ++ [x]) W'))
    (W:World) (hBm:W.heap[Bm]? = some (.cells #[.slice A m d] 26 (0,0))) (hA:Rd W A (nums .i64 zs)) (h0:J [] W) :
    CallsIn Fence.wide n Tryz.prog 116 #[.func (.yield l) #[] #[],.pointer (some ⟨Bm,0,none⟩)] W fun e W' => (∃ v,e = .returned v) ∧
      ((∃ ys,ys = List.finRange m ∧ J ys W') ∨ (∃ pre,True ∧ Jx pre W')):=by
  obtain ⟨e0,ef⟩:=bx1 hBm
  have HBm:=Lib.hid hBm;have HA:=Lib.hid hA;have Hzl:=Lib.hid hzl;have HA0:=Lib.hid hA0;clear hBm hA hzl hA0
  refine callsIn_of_wp Tryz.func116 rfl trivial ?_ rfl
  simp only [Tryz.ntmps116,List.size_toArray,List.length_cons,List.length_nil,Nat.reduceAdd,Nat.reduceSub,Array.replicate_succ,Array.replicate_zero,List.push_toArray,List.append_toArray,List.nil_append,List.cons_append]
  gi_wp2
  gi_loopw [7] (fun i wr => ∃ k:Nat,k ≤ m ∧ i = .int .i64 k ∧ J ((List.finRange m).take k) wr ∧ Rd wr A (nums .i64 zs))
    (fun i _ => m - (intOf i).toNat)
  case atStart => exact ⟨0,Nat.zero_le _,rfl,h0,HA.out⟩
  case round =>
    obtain ⟨k,hk,rfl,hJs,hAk⟩:=hrel
    clear e0 ef
    by_cases hlt:k < m
    · have hlen:((List.finRange m).take k).length < m:=by simp;omega
      have HAk:=Lib.hid hAk
      obtain ⟨b,o,rfl,p⟩:=hAk.num (show k < zs.length by rw [Hzl.out];exact hlt)
      obtain ⟨fn,tmps,assign,body,hy,hR⟩:=hY _ ⟨k,hlt⟩ wr hJs hlen
      unfold valEnc at hy
      dsimp only at hy
      clear hAk hJs
      gi_wp2
      refine ⟨(fun h => by cases h),?_⟩
      refine hR.mono ?_
      rintro e w5 (⟨rfl,hJ5,hk5⟩ | ⟨rfl,hJx5⟩)
      · have hA5:=HAk.out.belowB hk5.1 HA0.out
        have HA5:=Lib.hid hA5;have HJ5:=Lib.hid hJ5;clear hA5 hJ5 hk5 p
        gi_wp2
        go_roundw
        case rel => exact ⟨k + 1,by omega,by go_num,by rw [finTake hlt];exact HJ5.out,HA5.out⟩
        case measure => simp [intOf];omega
      · gi_wp2
        refine bodyPost_ret (results_none rfl _ _ _) rfl ?_
        exact ⟨⟨_,rfl⟩,.inr ⟨_,trivial,hJx5⟩⟩
    · obtain rfl:k = m:=by omega
      have hall:(List.finRange k).take k = List.finRange k:=List.take_of_length_le (by simp)
      rw [hall] at hJs
      have HJs:=Lib.hid hJs;clear hJs hall hAk
      gi_wp2
      go_end0
      exact ⟨⟨_,rfl⟩,.inl ⟨_,rfl,HJs.out⟩⟩
theorem vals_stops (n Bm n₀ m d:Nat) (A:Option Addr) (zs:List Int) (hzl:zs.length = m) (hm:m ≤ 1048576) (hB0:Bm < n₀) (hA0:∀ a,A = some a → a.block < n₀) (w:World)
    (hBm:w.heap[Bm]? = some (.cells #[.slice A m d] 26 (0,0))) (hA:Rd w A (nums .i64 zs)) :
    SeqStopsK Fence.wide n Tryz.prog 116 #[.pointer (some ⟨Bm,0,none⟩)] (valEnc zs (m:=m)) (RowsKeep n₀ Bm) (fun ys => ys = List.finRange m) (fun _ => True) m w:=fun l J Jx W hW _ _ hY h0 =>
  vals1_in n l Bm n₀ m d A zs hzl hm hB0 hA0 J Jx hY W ((hW.block _ (lt_of_block hBm)).trans hBm) (hA.below hW) h0
set_option maxRecDepth 100000 in
set_option maxHeartbeats 2000000 in
theorem total_any (Bm m d:Nat) (A:Option Addr) (zs:List Int) (w:World) (hBm:w.heap[Bm]? = some (.cells #[.slice A m d] 26 (0,0))) (hA:Rd w A (nums .i64 zs)) (hzl:zs.length = m) (hm:m ≤ 1048576) (hA0:∀ a,A = some a → a.block < w.heap.size) :
    Calls Tryz.prog 69 #[.func (.func 116) #[] #[.pointer (some ⟨Bm,0,none⟩)]] w fun e w' => e = .returned (.int .i64 (sumW zs)) ∧ Below w.heap.size w w':=by
  have hBl:=lt_of_block hBm
  have hst:=vals_stops 2 Bm w.heap.size m d A zs hzl hm hBl hA0 (w.alloc (.cells #[.int .i64 0] 2)) ((Below.heap_alloc w _ _ hBl).trans hBm) (hA.alloc _)
  have Hst:=Lib.hid hst;have Hzl:=Lib.hid hzl;clear hst hBm hA hzl hA0
  refine (callsIn_wide (n:=3)).1 ?_
  refine callsIn_of_wp_marks Tryz.func69 rfl trivial ?_ rfl
  simp only [Tryz.ntmps69,List.size_toArray,List.length_cons,List.length_nil,Nat.reduceAdd,Nat.reduceSub,Array.replicate_succ,Array.replicate_zero,List.push_toArray,List.append_toArray,List.nil_append,List.cons_append]
  gi_wp2_with fail
  refine' wpIn_rangeFunc_ownG (F:=Fence.wide) (n:=3) rfl (by omega) (gf:=116) (lb:=#[.pointer (some ⟨Bm,0,none⟩)]) rfl trivial (enters_of Tryz.func116 (by kernel_rfl) rfl)
    Hst.out rowsKeep_t (rowsKeep_b (by simp) (by simp;omega)) (Below.refl _ _) (fun _ => rfl)
    (fun (pre:List (Fin m)) W => (W.heap[w.heap.size]? = some (.cells #[.int .i64 (sumW (pre.map fun k => nth zs k.1))] 2 (0,0))) ∧ Below w.heap.size w W)
    (fun _ _ _ => False)
    (OwnFrom.and (ownFrom_blk _ _ (fun pre:List (Fin m) => .cells #[.int .i64 (sumW (pre.map fun k => nth zs k.1))] 2 (0,0)) (fun _ => rfl)) (ownFrom_below (Nat.le_refl _) (by simp)))
    (fun _ _ _ _ _ hs _ _ => hs)
    ⟨heap_alloc_new w _,(Below.refl _ w).alloc (Nat.le_refl _) _⟩
    _ ?assign ?body ?done ?stop
  case assign =>
    intro l x W K hK
    unfold valEnc
    gi_wp2
    exact hK
  case body =>
    rintro l pre x W ⟨hS,hBlw⟩ hlt
    obtain ⟨sv,hsv⟩:∃ sv,sumW (pre.map fun k => nth zs k.1) = sv:=⟨_,rfl⟩
    obtain ⟨xv,hxv⟩:∃ xv,nth zs x.1 = xv:=⟨_,rfl⟩
    rw [hsv] at hS
    obtain ⟨p0,pf⟩:=bx1 hS
    have hSl:=lt_of_block hS
    have HS:=Lib.hid hS;have HB:=Lib.hid hBlw;have Hsv:=Lib.hid hsv;have Hxv:=Lib.hid hxv;clear hS hBlw hlt hsv
    simp only [hxv]
    clear hxv
    gi_wp2_with fail
    have hk:Keep (fun j => j = w.heap.size) W (W.setCell ⟨w.heap.size,0,none⟩ (.int .i64 (wrap64 (sv + xv)))):=Keep.setCell (S:=fun j => j = w.heap.size) (Keep.refl _ _) ⟨w.heap.size,0,none⟩ (.inr rfl) _
    have hb:Below w.heap.size W (W.setCell ⟨w.heap.size,0,none⟩ (.int .i64 (wrap64 (sv + xv)))):=hk.toBelow HB.out.size (fun j hj => by omega)
    refine ⟨(others_keep hk (fun k o hs hk' => by rw [hs,HS.out] at hk';injection hk' with e;subst e;rfl)).from _,⟨hb,fun h => hk.block Bm h (by omega)⟩,?_,HB.out.trans hb⟩
    rw [List.map_append,List.map_cons,List.map_nil,sumW_snoc,Hsv.out,Hxv.out]
    exact heap_setCell_same W w.heap.size 0 _ _ _ HS.out
  case done =>
    rintro D ys W hD rfl ⟨hS,hBlw⟩ hK
    rw [val_fin Hzl.out] at hS
    obtain ⟨p0,pf⟩:=bx1 hS
    gi_wp2
    refine ⟨by simp,.inl ⟨_,_,rfl,run_takeDeferred hK,?_⟩⟩
    exact ⟨.int .i64 (sumW zs),by simp [results,Tryz.results69,go_sem],rfl,hBlw.trans (belowK_b (w:=w) (Nat.le_refl _) W D _ _ (by simp at hD;omega) hK rfl rfl)⟩
  case stop =>
    rintro D c pre W _ _ h _
    exact h.elim
theorem vals_any (A:Option Addr) (m d:Nat) (w:World) :
    Calls Tryz.prog 70 #[.slice A m d] w fun e w' => e = .returned (.func (.func 116) #[] #[.pointer (some ⟨w.heap.size,0,none⟩)]) ∧ w' = w.alloc (.cells #[.slice A m d] 26):=by
  go_enter Tryz.func70,Tryz.ntmps70
  go_wp2
  go_ret
  exact ⟨rfl,rfl⟩
theorem fsum_any (A:Option Addr) (m d:Nat) (zs:List Int) (w:World) (hA:Rd w A (nums .i64 zs)) (hzl:zs.length = m) (hm:m ≤ 1048576) (hA0:∀ a,A = some a → a.block < w.heap.size) :
    Calls Tryz.prog 22 #[.slice A m d] w fun e w' => e = .returned (.int .i64 (sumW zs)) ∧ Below w.heap.size w w':=by
  have ht:=total_any w.heap.size m d A zs (w.alloc (.cells #[.slice A m d] 26)) (heap_alloc_new w _) (hA.alloc _) hzl hm (fun a ha => by have:=hA0 a ha;simp;omega)
  have Ht:=Lib.hid ht;clear ht hA hzl hA0
  go_enter Tryz.func22,Tryz.ntmps22
  go_wp2_with fail
  refine (vals_any A m d w).mono ?_
  rintro e w1 ⟨rfl,rfl⟩
  go_wp2_with fail
  refine Ht.out.mono ?_
  rintro e w2 ⟨rfl,hb⟩
  have Hb:=Lib.hid (((Below.refl _ w).alloc (Nat.le_refl _) _).trans (hb.mono (by simp)));clear hb
  go_wp2
  go_ret
  exact ⟨rfl,Hb.out⟩
end Go.Proofs.YthamijnggdjaoaaGreatDoor
