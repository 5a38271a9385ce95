/- The walk of Net.Gradient. No condition. -/
import Derived.Test.YtaccfnffmbndhaaGreatB04
import Derived.Test.YtaccfnffmbndhaaGreatB16
import Derived.Test.YtaccfnffmbndhaaGreatB37
import Derived.WalkMore
import Derived.Deep.LoopGhost
set_option linter.unusedSimpArgs false
set_option linter.unusedVariables false
namespace Go.Proofs.YtaccfnffmbndhaaGreat
open Go.RowKit
def GradI (sz ps:List Int) (q:Int) (x y:List Int) (G:Nat) (k:Nat) (D:Value) (w0 w1 w:World):Prop:=
  ∃ A c o,D = .slice A (szN sz (k + 1)) c ∧ w.ownsRow w0.heap.size 2 1 (.slice A (szN sz (k + 1)) c) (szN sz (k + 1)) (nums .i64 (errD sz ps q x y (sz.length - 2 - k))) ∧
    w.heap[G]? = some (.cells (nums .i64 o).toArray 2 (0,0)) ∧ o.length = cntN sz (sz.length - 1) ∧ o.drop (cntN sz (k + 1)) = gradT sz ps q x y (sz.length - 2 - k) ∧ (∀ a,A = some a → a.block ≠ G) ∧ Below w1.heap.size w1 w
set_option maxRecDepth 100000 in
set_option maxHeartbeats 2000000 in
theorem grad_ok (b:Nat) (sz ps:List Int) (q:Int) (A B:Option Addr) (x y:List Int) (c d:Nat) (w:World) (h:NetAt 186 280 w b sz ps q) (hg:GoodSz sz) (wp:W64 ps) (hA:Rd w A (nums .i64 x)) (hx:x.length = szN sz 0) (wx:W64 x) (hB:Rd w B (nums .i64 y)) (hy:y.length = szN sz (sz.length - 1)) :
    Calls Tryz.prog 148 #[.pointer (some ⟨b,0,none⟩),.slice A x.length c,.slice B y.length d] w fun e w' => ∃ A' c',e = .returned (.tuple #[.slice A' (cntN sz (sz.length - 1)) c',.bool true]) ∧ w'.ownsRow w.heap.size 2 1 (.slice A' (cntN sz (sz.length - 1)) c') (cntN sz (sz.length - 1)) (nums .i64 (gradL sz ps q x y)) ∧ Below w.heap.size w w':=by
  have hm:=miss_ok b sz ps q A B x y c d w h hg wp hA hx wx hB hy
  have hbl:=h.lt
  obtain ⟨S,Ap,cp,Al,cl,rows,h0,h1,h2,h3,h4,h5,h6⟩:=h
  have hct:=fun w' (k:Below w.heap.size w w') => shape_count S sz w' (h1.below k)
  have hlk:=fun w' (k:Below w.heap.size w w') => shape_links S sz w' (h1.below k)
  have hwt:=fun j w' (k:Below w.heap.size w w') => shape_weights S sz j w' (h1.below k) (by have:=hg.1.1.2;omega)
  have hbi:=fun j w' (k:Below w.heap.size w w') => shape_biases S sz j w' (h1.below k) (by have:=hg.1.1.2;omega)
  have hNb:=hg.2
  have hGe:gradL sz ps q x y = gradT sz ps q x y (sz.length - 1):=rfl
  obtain ⟨n,hn⟩:∃ n,sz.length - 1 = n:=⟨_,rfl⟩
  obtain ⟨N,hN⟩:∃ N,cntN sz n = N:=⟨_,rfl⟩
  have hmt:missL (valL sz ps q x n) y = errD sz ps q x y 0:=by show _ = missL _ _;rw [hn]
  rw [hn] at h0 hlk hwt hbi h4 h6 hct hNb hGe hm hy ⊢
  rw [hN] at hct hNb ⊢
  rw [hmt] at hm
  have hnb:1 ≤ n ∧ n ≤ 15:=by have:=hg.1.1;omega
  have Hm:=Lib.hid hm;have Hct:=Lib.hid hct;have Hlk:=Lib.hid hlk;have Hwt:=Lib.hid hwt;have Hbi:=Lib.hid hbi;have H0:=Lib.hid h0;have H3:=Lib.hid h3;have H4:=Lib.hid h4;have H5:=Lib.hid h5;have H6:=Lib.hid h6;have HG:=Lib.hid hg;have WP:=Lib.hid wp;have Hx:=Lib.hid hx;have WX:=Lib.hid wx;have Hy:=Lib.hid hy;have Hn:=Lib.hid hn;have HN:=Lib.hid hN;have HGe:=Lib.hid hGe
  clear hm hct hlk hwt hbi h0 h1 h2 h3 h4 h5 h6 hg wp hA hx wx hB hy hn hN hGe hmt
  go_enter Tryz.func148,Tryz.ntmps148
  go_wp2_with fail
  go_step3
  go_wp2_with fail
  refine Hm.out.mono ?_
  rintro e w1 ⟨A',c',D,dc,vals,rfl,hr,hva,hc,ho,hb⟩
  have hN1:=(hb.block b hbl).trans H0.out
  obtain ⟨⟨r0,r1,r2,r3⟩,rf⟩:=bx4 hN1
  have hb1:b < w1.heap.size:=lt_of_block hN1
  have hw1:=hb.size
  have Hr:=Lib.hid hr;have Hva:=Lib.hid hva;have Hc:=Lib.hid hc;have Ho:=Lib.hid ho;have Hb:=Lib.hid hb;have HN1:=Lib.hid hN1;clear hr hva hc ho hb hN1
  go_wp2_with fail
  refine (Hct.out _ Hb.out).mono ?_
  rintro e w' ⟨rfl,rfl⟩
  have hmk:(8:Nat) * N ≤ 281474976710656:=by omega
  have Hmk:=Lib.hid hmk;clear hmk
  go_wp2_with (at_make;refine wpList_mk et_vec _ rfl (.tmp 31) (.tmp 31) rfl rfl N rfl rfl Hmk.out (by unfold maxLen;omega) ?_)
  intro w2 ho2 hb2
  have hG2:=own_full ho2
  rw [nums_rep] at hG2
  have hN2:=(hb2.block b hb1).trans HN1.out
  clear r0 r1 r2 r3 rf
  obtain ⟨⟨r0,r1,r2,r3⟩,rf⟩:=bx4 hN2
  have hbl2:=lt_of_block hN2
  have hGl:=lt_of_block hG2
  have Hb2:=Lib.hid hb2;have HG2:=Lib.hid hG2;have HN2:=Lib.hid hN2;clear ho2 hb2 hG2 hN2
  have hnw2:(n:Int) - 1 = ((n - 1:Nat):Int):=by omega
  have hnw:IntKind.i64.wrap ((n:Int) - 1) = ((n - 1:Nat):Int):=by rw [IntWalk.i64_in _ (by omega)];omega
  rw [hnw2] at hnw
  go_wp2_with fail
  go_step3
  go_wp2_with fail
  refine (Hlk.out _ (Hb.out.trans (Hb2.out.mono hw1))).mono ?_
  rintro e w' ⟨rfl,rfl⟩
  go_wp2_with fail
  clear hnw hnw2 r0 r1 r2 r3 rf
  go_loopw [9,12] (fun v i wr => ∃ k:Nat,k ≤ n - 1 ∧ i = .int .i64 k ∧ GradI sz ps q x y w1.heap.size k v w w1 wr) (fun _ i _ => (intOf i).toNat)
  case atStart =>
    have hs1:sz.length - 2 - (n - 1) = 0:=by have:=Hn.out;omega
    have hs2:n - 1 + 1 = n:=by omega
    refine ⟨n - 1,Nat.le_refl _,rfl,D,dc,List.replicate N 0,?_,?_,HG2.out,?_,?_,?_,Hb2.out⟩
    · rw [hs2,← Hy.out]
    · rw [hs1,hs2,← Hy.out];exact own_below Ho.out Hb2.out
    · rw [Hn.out,HN.out];simp
    · rw [hs1,hs2,HN.out];simp [gradT]
    · intro a ha e
      have:=(Ho.out.lt a.block (by rw [ha];rfl)).2
      omega
  case round =>
    obtain ⟨k,hk,rfl,A9,c9,o,rfl,ho,hGk,hol,hod,hne,hW⟩:=hrel
    have hNr:=(hW.block b hb1).trans HN1.out
    obtain ⟨⟨r0,r1,r2,r3⟩,rf⟩:=bx4 hNr
    have hbw:Below w.heap.size w wr:=Hb.out.trans (hW.mono hw1)
    have hbr:b < wr.heap.size:=lt_of_block hNr
    have HNr:=Lib.hid hNr;have Ho9:=Lib.hid ho;have HGk:=Lib.hid hGk;have Hol:=Lib.hid hol;have Hod:=Lib.hid hod;have Hne:=Lib.hid hne;have HW:=Lib.hid hW;have Hbw:=Lib.hid hbw
    clear hNr ho hGk hol hod hne hW hbw
    have hwk:=Hwt.out k
    have hbk:=Hbi.out k
    have HWk:=Lib.hid hwk;have HBk:=Lib.hid hbk;clear hwk hbk
    go_wp2_with fail
    go_cut [13,14] (fun v1 v2 wx => ∃ M1 M2,v1 = .pointer (some ⟨M1,0,none⟩) ∧ v2 = .pointer (some ⟨M2,0,none⟩) ∧ wx.heap[M1]? = some (.cells #[.int .i64 (cntN sz k:Int),.int .i64 (midN sz k:Int)] 52 (0,0)) ∧ wx.heap[M2]? = some (.cells #[.int .i64 (midN sz k:Int),.int .i64 (cntN sz (k + 1):Int)] 52 (0,0)) ∧ wr.heap.size ≤ M1 ∧ wr.heap.size ≤ M2 ∧ Below wr.heap.size wr wx)
    case first =>
      have hSw:(fun w':World => w'.cell? ⟨b,0,none⟩ = some (.pointer (some ⟨S,0,none⟩))) wr.drew:=r0
      refine wp_region_X 15 (fun w':World => w'.cell? ⟨b,0,none⟩ = some (.pointer (some ⟨S,0,none⟩))) (by kernel_rfl) ?_
      have HB_V0:=Lib.hid ((Below.refl wr.heap.size wr).drew)
      obtain ⟨V0,hV0⟩:∃ V0,V0 = wr.drew:=⟨_,rfl⟩
      rw [← hV0] at hSw HB_V0 ⊢
      clear hV0 r0 r1 r2 r3 rf
      refine wpAnyX_take (i:=0) (v:=?_) rfl (by kernel_rfl) (by decide) (by kernel_rfl) (by kernel_rfl) (by kernel_rfl) (by kernel_rfl) (fun _ _ _ h => h) (Or.inl ⟨by rfl,?_⟩) hSw ?_
      rotate_left
      · intro w9 hS9;(try dsimp only at hS9);have s1:=hS9;go_simp;(try with_reducible rfl)
      simp only [List.getElem_toArray,List.getElem_cons_succ,List.getElem_cons_zero,Act.put,List.setIfInBounds_toArray,List.set_cons_zero,List.set_cons_succ]
      refine wpAnyX_take (i:=1) (v:=?_) rfl (by kernel_rfl) (by decide) (by kernel_rfl) (by kernel_rfl) (by kernel_rfl) (by kernel_rfl) (fun _ _ _ h => h) (Or.inl ⟨by rfl,?_⟩) hSw ?_
      rotate_left
      · intro w9 hS9;(try dsimp only at hS9);have s1:=hS9;go_simp;(try with_reducible rfl)
      simp only [List.getElem_toArray,List.getElem_cons_succ,List.getElem_cons_zero,Act.put,List.setIfInBounds_toArray,List.set_cons_zero,List.set_cons_succ]
      refine wpAnyX_take (i:=2) (v:=?_) rfl (by kernel_rfl) (by decide) (by kernel_rfl) (by kernel_rfl) (by kernel_rfl) (by kernel_rfl) (fun _ _ _ h => h) (Or.inl ⟨by rfl,?_⟩) hSw ?_
      rotate_left
      · intro w9 hS9;(try dsimp only at hS9);have s1:=hS9;go_simp;(try with_reducible rfl)
      simp only [List.getElem_toArray,List.getElem_cons_succ,List.getElem_cons_zero,Act.put,List.setIfInBounds_toArray,List.set_cons_zero,List.set_cons_succ]
      refine wpAnyX_take (i:=3) (v:=?_) rfl (by kernel_rfl) (by decide) (by kernel_rfl) (by kernel_rfl) (by kernel_rfl) (by kernel_rfl) (fun _ _ _ h => h) (Or.inl ⟨by rfl,?_⟩) hSw ?_
      rotate_left
      · intro w9 hS9;(try dsimp only at hS9);have s1:=hS9;go_simp;(try with_reducible rfl)
      simp only [List.getElem_toArray,List.getElem_cons_succ,List.getElem_cons_zero,Act.put,List.setIfInBounds_toArray,List.set_cons_zero,List.set_cons_succ]
      refine wpAnyX_take (i:=4) (v:=?_) rfl (by kernel_rfl) (by decide) (by kernel_rfl) (by kernel_rfl) (by kernel_rfl) (by kernel_rfl) (fun _ _ _ h => h) (Or.inl ⟨by rfl,?_⟩) hSw ?_
      rotate_left
      · intro w9 hS9;(try dsimp only at hS9);have s1:=hS9;go_simp;(try with_reducible rfl)
      simp only [List.getElem_toArray,List.getElem_cons_succ,List.getElem_cons_zero,Act.put,List.setIfInBounds_toArray,List.set_cons_zero,List.set_cons_succ]
      refine wpAnyX_take (i:=6) (v:=?_) rfl (by kernel_rfl) (by decide) (by kernel_rfl) (by kernel_rfl) (by kernel_rfl) (by kernel_rfl) (fun _ _ _ h => h) (Or.inl ⟨by rfl,?_⟩) hSw ?_
      rotate_left
      · intro w9 hS9;(try dsimp only at hS9);have s1:=hS9;go_simp;(try with_reducible rfl)
      simp only [List.getElem_toArray,List.getElem_cons_succ,List.getElem_cons_zero,Act.put,List.setIfInBounds_toArray,List.set_cons_zero,List.set_cons_succ]
      refine wpAnyX_take (i:=7) (v:=?_) rfl (by kernel_rfl) (by decide) (by kernel_rfl) (by kernel_rfl) (by kernel_rfl) (by kernel_rfl) (fun _ _ _ h => h) (Or.inl ⟨by rfl,?_⟩) hSw ?_
      rotate_left
      · intro w9 hS9;(try dsimp only at hS9);have s1:=hS9;go_simp;(try with_reducible rfl)
      simp only [List.getElem_toArray,List.getElem_cons_succ,List.getElem_cons_zero,Act.put,List.setIfInBounds_toArray,List.set_cons_zero,List.set_cons_succ]
      refine wpAnyX_take (i:=8) (v:=?_) rfl (by kernel_rfl) (by decide) (by kernel_rfl) (by kernel_rfl) (by kernel_rfl) (by kernel_rfl) (fun _ _ _ h => h) (Or.inl ⟨by rfl,?_⟩) hSw ?_
      rotate_left
      · intro w9 hS9;(try dsimp only at hS9);have s1:=hS9;go_simp;(try with_reducible rfl)
      simp only [List.getElem_toArray,List.getElem_cons_succ,List.getElem_cons_zero,Act.put,List.setIfInBounds_toArray,List.set_cons_zero,List.set_cons_succ]
      refine wpAnyX_take (i:=9) (v:=?_) rfl (by kernel_rfl) (by decide) (by kernel_rfl) (by kernel_rfl) (by kernel_rfl) (by kernel_rfl) (fun _ _ _ h => h) (Or.inl ⟨by rfl,?_⟩) hSw ?_
      rotate_left
      · intro w9 hS9;(try dsimp only at hS9);have s1:=hS9;go_simp;(try with_reducible rfl)
      simp only [List.getElem_toArray,List.getElem_cons_succ,List.getElem_cons_zero,Act.put,List.setIfInBounds_toArray,List.set_cons_zero,List.set_cons_succ]
      refine wpAnyX_take (i:=10) (v:=?_) rfl (by kernel_rfl) (by decide) (by kernel_rfl) (by kernel_rfl) (by kernel_rfl) (by kernel_rfl) (fun _ _ _ h => h) (Or.inl ⟨by rfl,?_⟩) hSw ?_
      rotate_left
      · intro w9 hS9;(try dsimp only at hS9);have s1:=hS9;go_simp;(try with_reducible rfl)
      simp only [List.getElem_toArray,List.getElem_cons_succ,List.getElem_cons_zero,Act.put,List.setIfInBounds_toArray,List.set_cons_zero,List.set_cons_succ]
      refine wpAnyX_ready (rs:=[5,12,13]) (by kernel_rfl) (by simp) ?_
      refine (AllReadyX.cons rfl (fun K hK => ?_) (AllReadyX.cons rfl (fun K hK => ?_) (AllReadyX.cons rfl (fun K hK => ?_) AllReadyX.nil)))
      · simp only [List.getElem_toArray,List.getElem_cons_succ,List.getElem_cons_zero]
        go_simp
        refine (HWk.out V0 (Hbw.out.trans (HB_V0.out.mono Hbw.out.size)) (by omega)).mono ?_
        rintro e W1 ⟨rfl,hb⟩
        dsimp only
        have HB_W1:=Lib.hid (HB_V0.out.trans (hb.mono HB_V0.out.size))
        have hs0:=cell_below hb hSw
        refine hK.out _ _ hs0 (fun hSw => ?_)
        clear hK K hb hs0
        refine wpAnyX_ready (rs:=[11,12,13]) (by kernel_rfl) (by simp) ?_
        refine (AllReadyX.cons rfl (fun K hK => ?_) (AllReadyX.cons rfl (fun K hK => ?_) (AllReadyX.cons rfl (fun K hK => ?_) AllReadyX.nil)))
        · simp only [List.getElem_toArray,List.getElem_cons_succ,List.getElem_cons_zero]
          go_simp
          refine (HBk.out W1 (Hbw.out.trans (HB_W1.out.mono Hbw.out.size)) (by omega)).mono ?_
          rintro e W2 ⟨rfl,hb⟩
          dsimp only
          have HB_W2:=Lib.hid (HB_W1.out.trans (hb.mono HB_W1.out.size))
          have hs0:=cell_below hb hSw
          refine hK.out _ _ hs0 (fun hSw => ?_)
          clear hK K hb hs0
          refine wpAnyX_ready (rs:=[12,13]) (by kernel_rfl) (by simp) ?_
          refine (AllReadyX.cons rfl (fun K hK => ?_) (AllReadyX.cons rfl (fun K hK => ?_) AllReadyX.nil))
          · simp only [List.getElem_toArray,List.getElem_cons_succ,List.getElem_cons_zero]
            go_simp
            obtain ⟨W3,hV⟩:∃ V,V = World.alloc W2 (.cells #[.int .i64 0,.int .i64 0] 52):=⟨_,rfl⟩
            have hbx:=heap_alloc_new W2 (.cells #[.int .i64 0,.int .i64 0] 52)
            have hb:=(Below.refl _ W2).alloc (Nat.le_refl _) (.cells #[.int .i64 0,.int .i64 0] 52)
            rw [← hV] at hbx hb
            (try simp only [World.size_drew] at hbx hb)
            rw [← hV]
            clear hV
            have hge_12:=HB_W2.out.size
            have hbx_W3_12:=Lib.hid hbx;clear hbx
            have HB_W3:=Lib.hid (HB_W2.out.trans (hb.mono HB_W2.out.size))
            have hs0:=cell_below hb hSw
            refine hK.out _ _ hs0 (fun hSw => ?_)
            clear hK K hb hs0
            refine wpAnyX_ready (rs:=[13]) (by kernel_rfl) (by simp) ?_
            refine (AllReadyX.cons rfl (fun K hK => ?_) AllReadyX.nil)
            · simp only [List.getElem_toArray,List.getElem_cons_succ,List.getElem_cons_zero]
              go_simp
              have hne_12_13:W2.heap.size ≠ W3.heap.size:=by have:=lt_of_block hbx_W3_12.out;omega
              obtain ⟨W4,hV⟩:∃ V,V = World.alloc W3 (.cells #[.int .i64 0,.int .i64 0] 52):=⟨_,rfl⟩
              have hbx:=heap_alloc_new W3 (.cells #[.int .i64 0,.int .i64 0] 52)
              have hb:=(Below.refl _ W3).alloc (Nat.le_refl _) (.cells #[.int .i64 0,.int .i64 0] 52)
              rw [← hV] at hbx hb
              (try simp only [World.size_drew] at hbx hb)
              rw [← hV]
              clear hV
              have hge_13:=HB_W3.out.size
              have hbx_W4_13:=Lib.hid hbx;clear hbx
              have HB_W4:=Lib.hid (HB_W3.out.trans (hb.mono HB_W3.out.size))
              have hbx_W4_12:=Lib.hid ((hb.block _ (lt_of_block hbx_W3_12.out)).trans hbx_W3_12.out)
              have hs0:=cell_below hb hSw
              refine hK.out _ _ hs0 (fun hSw => ?_)
              clear hK K hb hs0
              have hne12':=fun e => hne_12_13 (Eq.symm e)
              have y0:=cell_of_row W4 _ 0 _ _ _ hbx_W4_12.out;have y1:=cell_of_row W4 _ 1 _ _ _ hbx_W4_12.out;have yf:=fun j => frozen_of_row W4 _ j _ _ hbx_W4_12.out
              have z0:=cell_of_row W4 _ 0 _ _ _ hbx_W4_13.out;have z1:=cell_of_row W4 _ 1 _ _ _ hbx_W4_13.out;have zf:=fun j => frozen_of_row W4 _ j _ _ hbx_W4_13.out
              refine wpAnyX_ready (rs:=[14]) (by kernel_rfl) (by simp) ?_
              refine AllReadyX.cons rfl (fun K hK => ?_) AllReadyX.nil
              simp only [List.getElem_toArray,List.getElem_cons_succ,List.getElem_cons_zero]
              go_simp
              refine hK.out _ _ ((World.cell?_setCell_far _ _ _ _ (show W2.heap.size ≠ b by omega)).trans ((World.cell?_setCell_far _ _ _ _ (show W2.heap.size ≠ b by omega)).trans hSw)) (fun hSw => ?_)
              clear hK K
              refine wpAnyX_tail (by rfl) (by kernel_rfl) ?_
              simp only [List.drop_succ_cons,List.drop_zero]
              go_wp2_with fail
              go_meet
              obtain ⟨b1,b2,b3⟩:=two_boxes (.int .i64 (cntN sz k:Int)) (.int .i64 (midN sz k:Int)) (.int .i64 (midN sz k:Int)) (.int .i64 (cntN sz (k + 1):Int)) hbx_W4_12.out hbx_W4_13.out hne_12_13 HB_W4.out hge_12 hge_13
              exact ⟨W2.heap.size,W3.heap.size,rfl,rfl,b1,b2,hge_12,hge_13,b3⟩
          · simp only [List.getElem_toArray,List.getElem_cons_succ,List.getElem_cons_zero]
            go_simp
            obtain ⟨W5,hV⟩:∃ V,V = World.alloc W2 (.cells #[.int .i64 0,.int .i64 0] 52):=⟨_,rfl⟩
            have hbx:=heap_alloc_new W2 (.cells #[.int .i64 0,.int .i64 0] 52)
            have hb:=(Below.refl _ W2).alloc (Nat.le_refl _) (.cells #[.int .i64 0,.int .i64 0] 52)
            rw [← hV] at hbx hb
            (try simp only [World.size_drew] at hbx hb)
            rw [← hV]
            clear hV
            have hge_13:=HB_W2.out.size
            have hbx_W5_13:=Lib.hid hbx;clear hbx
            have HB_W5:=Lib.hid (HB_W2.out.trans (hb.mono HB_W2.out.size))
            have hs0:=cell_below hb hSw
            refine hK.out _ _ hs0 (fun hSw => ?_)
            clear hK K hb hs0
            refine wpAnyX_ready (rs:=[12]) (by kernel_rfl) (by simp) ?_
            refine (AllReadyX.cons rfl (fun K hK => ?_) AllReadyX.nil)
            · simp only [List.getElem_toArray,List.getElem_cons_succ,List.getElem_cons_zero]
              go_simp
              have hne_12_13:W5.heap.size ≠ W2.heap.size:=by have:=lt_of_block hbx_W5_13.out;omega
              obtain ⟨W6,hV⟩:∃ V,V = World.alloc W5 (.cells #[.int .i64 0,.int .i64 0] 52):=⟨_,rfl⟩
              have hbx:=heap_alloc_new W5 (.cells #[.int .i64 0,.int .i64 0] 52)
              have hb:=(Below.refl _ W5).alloc (Nat.le_refl _) (.cells #[.int .i64 0,.int .i64 0] 52)
              rw [← hV] at hbx hb
              (try simp only [World.size_drew] at hbx hb)
              rw [← hV]
              clear hV
              have hge_12:=HB_W5.out.size
              have hbx_W6_12:=Lib.hid hbx;clear hbx
              have HB_W6:=Lib.hid (HB_W5.out.trans (hb.mono HB_W5.out.size))
              have hbx_W6_13:=Lib.hid ((hb.block _ (lt_of_block hbx_W5_13.out)).trans hbx_W5_13.out)
              have hs0:=cell_below hb hSw
              refine hK.out _ _ hs0 (fun hSw => ?_)
              clear hK K hb hs0
              have hne12':=fun e => hne_12_13 (Eq.symm e)
              have y0:=cell_of_row W6 _ 0 _ _ _ hbx_W6_12.out;have y1:=cell_of_row W6 _ 1 _ _ _ hbx_W6_12.out;have yf:=fun j => frozen_of_row W6 _ j _ _ hbx_W6_12.out
              have z0:=cell_of_row W6 _ 0 _ _ _ hbx_W6_13.out;have z1:=cell_of_row W6 _ 1 _ _ _ hbx_W6_13.out;have zf:=fun j => frozen_of_row W6 _ j _ _ hbx_W6_13.out
              refine wpAnyX_ready (rs:=[14]) (by kernel_rfl) (by simp) ?_
              refine AllReadyX.cons rfl (fun K hK => ?_) AllReadyX.nil
              simp only [List.getElem_toArray,List.getElem_cons_succ,List.getElem_cons_zero]
              go_simp
              refine hK.out _ _ ((World.cell?_setCell_far _ _ _ _ (show W5.heap.size ≠ b by omega)).trans ((World.cell?_setCell_far _ _ _ _ (show W5.heap.size ≠ b by omega)).trans hSw)) (fun hSw => ?_)
              clear hK K
              refine wpAnyX_tail (by rfl) (by kernel_rfl) ?_
              simp only [List.drop_succ_cons,List.drop_zero]
              go_wp2_with fail
              go_meet
              obtain ⟨b1,b2,b3⟩:=two_boxes (.int .i64 (cntN sz k:Int)) (.int .i64 (midN sz k:Int)) (.int .i64 (midN sz k:Int)) (.int .i64 (cntN sz (k + 1):Int)) hbx_W6_12.out hbx_W6_13.out hne_12_13 HB_W6.out hge_12 hge_13
              exact ⟨W5.heap.size,W2.heap.size,rfl,rfl,b1,b2,hge_12,hge_13,b3⟩
        · simp only [List.getElem_toArray,List.getElem_cons_succ,List.getElem_cons_zero]
          go_simp
          obtain ⟨W7,hV⟩:∃ V,V = World.alloc W1 (.cells #[.int .i64 0,.int .i64 0] 52):=⟨_,rfl⟩
          have hbx:=heap_alloc_new W1 (.cells #[.int .i64 0,.int .i64 0] 52)
          have hb:=(Below.refl _ W1).alloc (Nat.le_refl _) (.cells #[.int .i64 0,.int .i64 0] 52)
          rw [← hV] at hbx hb
          (try simp only [World.size_drew] at hbx hb)
          rw [← hV]
          clear hV
          have hge_12:=HB_W1.out.size
          have hbx_W7_12:=Lib.hid hbx;clear hbx
          have HB_W7:=Lib.hid (HB_W1.out.trans (hb.mono HB_W1.out.size))
          have hs0:=cell_below hb hSw
          refine hK.out _ _ hs0 (fun hSw => ?_)
          clear hK K hb hs0
          refine wpAnyX_ready (rs:=[11,13]) (by kernel_rfl) (by simp) ?_
          refine (AllReadyX.cons rfl (fun K hK => ?_) (AllReadyX.cons rfl (fun K hK => ?_) AllReadyX.nil))
          · simp only [List.getElem_toArray,List.getElem_cons_succ,List.getElem_cons_zero]
            go_simp
            refine (HBk.out W7 (Hbw.out.trans (HB_W7.out.mono Hbw.out.size)) (by omega)).mono ?_
            rintro e W8 ⟨rfl,hb⟩
            dsimp only
            have HB_W8:=Lib.hid (HB_W7.out.trans (hb.mono HB_W7.out.size))
            have hbx_W8_12:=Lib.hid ((hb.block _ (lt_of_block hbx_W7_12.out)).trans hbx_W7_12.out)
            have hs0:=cell_below hb hSw
            refine hK.out _ _ hs0 (fun hSw => ?_)
            clear hK K hb hs0
            refine wpAnyX_ready (rs:=[13]) (by kernel_rfl) (by simp) ?_
            refine (AllReadyX.cons rfl (fun K hK => ?_) AllReadyX.nil)
            · simp only [List.getElem_toArray,List.getElem_cons_succ,List.getElem_cons_zero]
              go_simp
              have hne_12_13:W1.heap.size ≠ W8.heap.size:=by have:=lt_of_block hbx_W8_12.out;omega
              obtain ⟨W9,hV⟩:∃ V,V = World.alloc W8 (.cells #[.int .i64 0,.int .i64 0] 52):=⟨_,rfl⟩
              have hbx:=heap_alloc_new W8 (.cells #[.int .i64 0,.int .i64 0] 52)
              have hb:=(Below.refl _ W8).alloc (Nat.le_refl _) (.cells #[.int .i64 0,.int .i64 0] 52)
              rw [← hV] at hbx hb
              (try simp only [World.size_drew] at hbx hb)
              rw [← hV]
              clear hV
              have hge_13:=HB_W8.out.size
              have hbx_W9_13:=Lib.hid hbx;clear hbx
              have HB_W9:=Lib.hid (HB_W8.out.trans (hb.mono HB_W8.out.size))
              have hbx_W9_12:=Lib.hid ((hb.block _ (lt_of_block hbx_W8_12.out)).trans hbx_W8_12.out)
              have hs0:=cell_below hb hSw
              refine hK.out _ _ hs0 (fun hSw => ?_)
              clear hK K hb hs0
              have hne12':=fun e => hne_12_13 (Eq.symm e)
              have y0:=cell_of_row W9 _ 0 _ _ _ hbx_W9_12.out;have y1:=cell_of_row W9 _ 1 _ _ _ hbx_W9_12.out;have yf:=fun j => frozen_of_row W9 _ j _ _ hbx_W9_12.out
              have z0:=cell_of_row W9 _ 0 _ _ _ hbx_W9_13.out;have z1:=cell_of_row W9 _ 1 _ _ _ hbx_W9_13.out;have zf:=fun j => frozen_of_row W9 _ j _ _ hbx_W9_13.out
              refine wpAnyX_ready (rs:=[14]) (by kernel_rfl) (by simp) ?_
              refine AllReadyX.cons rfl (fun K hK => ?_) AllReadyX.nil
              simp only [List.getElem_toArray,List.getElem_cons_succ,List.getElem_cons_zero]
              go_simp
              refine hK.out _ _ ((World.cell?_setCell_far _ _ _ _ (show W1.heap.size ≠ b by omega)).trans ((World.cell?_setCell_far _ _ _ _ (show W1.heap.size ≠ b by omega)).trans hSw)) (fun hSw => ?_)
              clear hK K
              refine wpAnyX_tail (by rfl) (by kernel_rfl) ?_
              simp only [List.drop_succ_cons,List.drop_zero]
              go_wp2_with fail
              go_meet
              obtain ⟨b1,b2,b3⟩:=two_boxes (.int .i64 (cntN sz k:Int)) (.int .i64 (midN sz k:Int)) (.int .i64 (midN sz k:Int)) (.int .i64 (cntN sz (k + 1):Int)) hbx_W9_12.out hbx_W9_13.out hne_12_13 HB_W9.out hge_12 hge_13
              exact ⟨W1.heap.size,W8.heap.size,rfl,rfl,b1,b2,hge_12,hge_13,b3⟩
          · simp only [List.getElem_toArray,List.getElem_cons_succ,List.getElem_cons_zero]
            go_simp
            have hne_12_13:W1.heap.size ≠ W7.heap.size:=by have:=lt_of_block hbx_W7_12.out;omega
            obtain ⟨W10,hV⟩:∃ V,V = World.alloc W7 (.cells #[.int .i64 0,.int .i64 0] 52):=⟨_,rfl⟩
            have hbx:=heap_alloc_new W7 (.cells #[.int .i64 0,.int .i64 0] 52)
            have hb:=(Below.refl _ W7).alloc (Nat.le_refl _) (.cells #[.int .i64 0,.int .i64 0] 52)
            rw [← hV] at hbx hb
            (try simp only [World.size_drew] at hbx hb)
            rw [← hV]
            clear hV
            have hge_13:=HB_W7.out.size
            have hbx_W10_13:=Lib.hid hbx;clear hbx
            have HB_W10:=Lib.hid (HB_W7.out.trans (hb.mono HB_W7.out.size))
            have hbx_W10_12:=Lib.hid ((hb.block _ (lt_of_block hbx_W7_12.out)).trans hbx_W7_12.out)
            have hs0:=cell_below hb hSw
            refine hK.out _ _ hs0 (fun hSw => ?_)
            clear hK K hb hs0
            refine wpAnyX_ready (rs:=[11]) (by kernel_rfl) (by simp) ?_
            refine (AllReadyX.cons rfl (fun K hK => ?_) AllReadyX.nil)
            · simp only [List.getElem_toArray,List.getElem_cons_succ,List.getElem_cons_zero]
              go_simp
              refine (HBk.out W10 (Hbw.out.trans (HB_W10.out.mono Hbw.out.size)) (by omega)).mono ?_
              rintro e W11 ⟨rfl,hb⟩
              dsimp only
              have HB_W11:=Lib.hid (HB_W10.out.trans (hb.mono HB_W10.out.size))
              have hbx_W11_13:=Lib.hid ((hb.block _ (lt_of_block hbx_W10_13.out)).trans hbx_W10_13.out)
              have hbx_W11_12:=Lib.hid ((hb.block _ (lt_of_block hbx_W10_12.out)).trans hbx_W10_12.out)
              have hs0:=cell_below hb hSw
              refine hK.out _ _ hs0 (fun hSw => ?_)
              clear hK K hb hs0
              have hne12':=fun e => hne_12_13 (Eq.symm e)
              have y0:=cell_of_row W11 _ 0 _ _ _ hbx_W11_12.out;have y1:=cell_of_row W11 _ 1 _ _ _ hbx_W11_12.out;have yf:=fun j => frozen_of_row W11 _ j _ _ hbx_W11_12.out
              have z0:=cell_of_row W11 _ 0 _ _ _ hbx_W11_13.out;have z1:=cell_of_row W11 _ 1 _ _ _ hbx_W11_13.out;have zf:=fun j => frozen_of_row W11 _ j _ _ hbx_W11_13.out
              refine wpAnyX_ready (rs:=[14]) (by kernel_rfl) (by simp) ?_
              refine AllReadyX.cons rfl (fun K hK => ?_) AllReadyX.nil
              simp only [List.getElem_toArray,List.getElem_cons_succ,List.getElem_cons_zero]
              go_simp
              refine hK.out _ _ ((World.cell?_setCell_far _ _ _ _ (show W1.heap.size ≠ b by omega)).trans ((World.cell?_setCell_far _ _ _ _ (show W1.heap.size ≠ b by omega)).trans hSw)) (fun hSw => ?_)
              clear hK K
              refine wpAnyX_tail (by rfl) (by kernel_rfl) ?_
              simp only [List.drop_succ_cons,List.drop_zero]
              go_wp2_with fail
              go_meet
              obtain ⟨b1,b2,b3⟩:=two_boxes (.int .i64 (cntN sz k:Int)) (.int .i64 (midN sz k:Int)) (.int .i64 (midN sz k:Int)) (.int .i64 (cntN sz (k + 1):Int)) hbx_W11_12.out hbx_W11_13.out hne_12_13 HB_W11.out hge_12 hge_13
              exact ⟨W1.heap.size,W7.heap.size,rfl,rfl,b1,b2,hge_12,hge_13,b3⟩
        · simp only [List.getElem_toArray,List.getElem_cons_succ,List.getElem_cons_zero]
          go_simp
          obtain ⟨W12,hV⟩:∃ V,V = World.alloc W1 (.cells #[.int .i64 0,.int .i64 0] 52):=⟨_,rfl⟩
          have hbx:=heap_alloc_new W1 (.cells #[.int .i64 0,.int .i64 0] 52)
          have hb:=(Below.refl _ W1).alloc (Nat.le_refl _) (.cells #[.int .i64 0,.int .i64 0] 52)
          rw [← hV] at hbx hb
          (try simp only [World.size_drew] at hbx hb)
          rw [← hV]
          clear hV
          have hge_13:=HB_W1.out.size
          have hbx_W12_13:=Lib.hid hbx;clear hbx
          have HB_W12:=Lib.hid (HB_W1.out.trans (hb.mono HB_W1.out.size))
          have hs0:=cell_below hb hSw
          refine hK.out _ _ hs0 (fun hSw => ?_)
          clear hK K hb hs0
          refine wpAnyX_ready (rs:=[11,12]) (by kernel_rfl) (by simp) ?_
          refine (AllReadyX.cons rfl (fun K hK => ?_) (AllReadyX.cons rfl (fun K hK => ?_) AllReadyX.nil))
          · simp only [List.getElem_toArray,List.getElem_cons_succ,List.getElem_cons_zero]
            go_simp
            refine (HBk.out W12 (Hbw.out.trans (HB_W12.out.mono Hbw.out.size)) (by omega)).mono ?_
            rintro e W13 ⟨rfl,hb⟩
            dsimp only
            have HB_W13:=Lib.hid (HB_W12.out.trans (hb.mono HB_W12.out.size))
            have hbx_W13_13:=Lib.hid ((hb.block _ (lt_of_block hbx_W12_13.out)).trans hbx_W12_13.out)
            have hs0:=cell_below hb hSw
            refine hK.out _ _ hs0 (fun hSw => ?_)
            clear hK K hb hs0
            refine wpAnyX_ready (rs:=[12]) (by kernel_rfl) (by simp) ?_
            refine (AllReadyX.cons rfl (fun K hK => ?_) AllReadyX.nil)
            · simp only [List.getElem_toArray,List.getElem_cons_succ,List.getElem_cons_zero]
              go_simp
              have hne_12_13:W13.heap.size ≠ W1.heap.size:=by have:=lt_of_block hbx_W13_13.out;omega
              obtain ⟨W14,hV⟩:∃ V,V = World.alloc W13 (.cells #[.int .i64 0,.int .i64 0] 52):=⟨_,rfl⟩
              have hbx:=heap_alloc_new W13 (.cells #[.int .i64 0,.int .i64 0] 52)
              have hb:=(Below.refl _ W13).alloc (Nat.le_refl _) (.cells #[.int .i64 0,.int .i64 0] 52)
              rw [← hV] at hbx hb
              (try simp only [World.size_drew] at hbx hb)
              rw [← hV]
              clear hV
              have hge_12:=HB_W13.out.size
              have hbx_W14_12:=Lib.hid hbx;clear hbx
              have HB_W14:=Lib.hid (HB_W13.out.trans (hb.mono HB_W13.out.size))
              have hbx_W14_13:=Lib.hid ((hb.block _ (lt_of_block hbx_W13_13.out)).trans hbx_W13_13.out)
              have hs0:=cell_below hb hSw
              refine hK.out _ _ hs0 (fun hSw => ?_)
              clear hK K hb hs0
              have hne12':=fun e => hne_12_13 (Eq.symm e)
              have y0:=cell_of_row W14 _ 0 _ _ _ hbx_W14_12.out;have y1:=cell_of_row W14 _ 1 _ _ _ hbx_W14_12.out;have yf:=fun j => frozen_of_row W14 _ j _ _ hbx_W14_12.out
              have z0:=cell_of_row W14 _ 0 _ _ _ hbx_W14_13.out;have z1:=cell_of_row W14 _ 1 _ _ _ hbx_W14_13.out;have zf:=fun j => frozen_of_row W14 _ j _ _ hbx_W14_13.out
              refine wpAnyX_ready (rs:=[14]) (by kernel_rfl) (by simp) ?_
              refine AllReadyX.cons rfl (fun K hK => ?_) AllReadyX.nil
              simp only [List.getElem_toArray,List.getElem_cons_succ,List.getElem_cons_zero]
              go_simp
              refine hK.out _ _ ((World.cell?_setCell_far _ _ _ _ (show W13.heap.size ≠ b by omega)).trans ((World.cell?_setCell_far _ _ _ _ (show W13.heap.size ≠ b by omega)).trans hSw)) (fun hSw => ?_)
              clear hK K
              refine wpAnyX_tail (by rfl) (by kernel_rfl) ?_
              simp only [List.drop_succ_cons,List.drop_zero]
              go_wp2_with fail
              go_meet
              obtain ⟨b1,b2,b3⟩:=two_boxes (.int .i64 (cntN sz k:Int)) (.int .i64 (midN sz k:Int)) (.int .i64 (midN sz k:Int)) (.int .i64 (cntN sz (k + 1):Int)) hbx_W14_12.out hbx_W14_13.out hne_12_13 HB_W14.out hge_12 hge_13
              exact ⟨W13.heap.size,W1.heap.size,rfl,rfl,b1,b2,hge_12,hge_13,b3⟩
          · simp only [List.getElem_toArray,List.getElem_cons_succ,List.getElem_cons_zero]
            go_simp
            have hne_12_13:W12.heap.size ≠ W1.heap.size:=by have:=lt_of_block hbx_W12_13.out;omega
            obtain ⟨W15,hV⟩:∃ V,V = World.alloc W12 (.cells #[.int .i64 0,.int .i64 0] 52):=⟨_,rfl⟩
            have hbx:=heap_alloc_new W12 (.cells #[.int .i64 0,.int .i64 0] 52)
            have hb:=(Below.refl _ W12).alloc (Nat.le_refl _) (.cells #[.int .i64 0,.int .i64 0] 52)
            rw [← hV] at hbx hb
            (try simp only [World.size_drew] at hbx hb)
            rw [← hV]
            clear hV
            have hge_12:=HB_W12.out.size
            have hbx_W15_12:=Lib.hid hbx;clear hbx
            have HB_W15:=Lib.hid (HB_W12.out.trans (hb.mono HB_W12.out.size))
            have hbx_W15_13:=Lib.hid ((hb.block _ (lt_of_block hbx_W12_13.out)).trans hbx_W12_13.out)
            have hs0:=cell_below hb hSw
            refine hK.out _ _ hs0 (fun hSw => ?_)
            clear hK K hb hs0
            refine wpAnyX_ready (rs:=[11]) (by kernel_rfl) (by simp) ?_
            refine (AllReadyX.cons rfl (fun K hK => ?_) AllReadyX.nil)
            · simp only [List.getElem_toArray,List.getElem_cons_succ,List.getElem_cons_zero]
              go_simp
              refine (HBk.out W15 (Hbw.out.trans (HB_W15.out.mono Hbw.out.size)) (by omega)).mono ?_
              rintro e W16 ⟨rfl,hb⟩
              dsimp only
              have HB_W16:=Lib.hid (HB_W15.out.trans (hb.mono HB_W15.out.size))
              have hbx_W16_12:=Lib.hid ((hb.block _ (lt_of_block hbx_W15_12.out)).trans hbx_W15_12.out)
              have hbx_W16_13:=Lib.hid ((hb.block _ (lt_of_block hbx_W15_13.out)).trans hbx_W15_13.out)
              have hs0:=cell_below hb hSw
              refine hK.out _ _ hs0 (fun hSw => ?_)
              clear hK K hb hs0
              have hne12':=fun e => hne_12_13 (Eq.symm e)
              have y0:=cell_of_row W16 _ 0 _ _ _ hbx_W16_12.out;have y1:=cell_of_row W16 _ 1 _ _ _ hbx_W16_12.out;have yf:=fun j => frozen_of_row W16 _ j _ _ hbx_W16_12.out
              have z0:=cell_of_row W16 _ 0 _ _ _ hbx_W16_13.out;have z1:=cell_of_row W16 _ 1 _ _ _ hbx_W16_13.out;have zf:=fun j => frozen_of_row W16 _ j _ _ hbx_W16_13.out
              refine wpAnyX_ready (rs:=[14]) (by kernel_rfl) (by simp) ?_
              refine AllReadyX.cons rfl (fun K hK => ?_) AllReadyX.nil
              simp only [List.getElem_toArray,List.getElem_cons_succ,List.getElem_cons_zero]
              go_simp
              refine hK.out _ _ ((World.cell?_setCell_far _ _ _ _ (show W12.heap.size ≠ b by omega)).trans ((World.cell?_setCell_far _ _ _ _ (show W12.heap.size ≠ b by omega)).trans hSw)) (fun hSw => ?_)
              clear hK K
              refine wpAnyX_tail (by rfl) (by kernel_rfl) ?_
              simp only [List.drop_succ_cons,List.drop_zero]
              go_wp2_with fail
              go_meet
              obtain ⟨b1,b2,b3⟩:=two_boxes (.int .i64 (cntN sz k:Int)) (.int .i64 (midN sz k:Int)) (.int .i64 (midN sz k:Int)) (.int .i64 (cntN sz (k + 1):Int)) hbx_W16_12.out hbx_W16_13.out hne_12_13 HB_W16.out hge_12 hge_13
              exact ⟨W12.heap.size,W1.heap.size,rfl,rfl,b1,b2,hge_12,hge_13,b3⟩
      · simp only [List.getElem_toArray,List.getElem_cons_succ,List.getElem_cons_zero]
        go_simp
        obtain ⟨W17,hV⟩:∃ V,V = World.alloc V0 (.cells #[.int .i64 0,.int .i64 0] 52):=⟨_,rfl⟩
        have hbx:=heap_alloc_new V0 (.cells #[.int .i64 0,.int .i64 0] 52)
        have hb:=(Below.refl _ V0).alloc (Nat.le_refl _) (.cells #[.int .i64 0,.int .i64 0] 52)
        rw [← hV] at hbx hb
        (try simp only [World.size_drew] at hbx hb)
        rw [← hV]
        clear hV
        have hge_12:=HB_V0.out.size
        have hbx_W17_12:=Lib.hid hbx;clear hbx
        have HB_W17:=Lib.hid (HB_V0.out.trans (hb.mono HB_V0.out.size))
        have hs0:=cell_below hb hSw
        refine hK.out _ _ hs0 (fun hSw => ?_)
        clear hK K hb hs0
        refine wpAnyX_ready (rs:=[5,13]) (by kernel_rfl) (by simp) ?_
        refine (AllReadyX.cons rfl (fun K hK => ?_) (AllReadyX.cons rfl (fun K hK => ?_) AllReadyX.nil))
        · simp only [List.getElem_toArray,List.getElem_cons_succ,List.getElem_cons_zero]
          go_simp
          refine (HWk.out W17 (Hbw.out.trans (HB_W17.out.mono Hbw.out.size)) (by omega)).mono ?_
          rintro e W18 ⟨rfl,hb⟩
          dsimp only
          have HB_W18:=Lib.hid (HB_W17.out.trans (hb.mono HB_W17.out.size))
          have hbx_W18_12:=Lib.hid ((hb.block _ (lt_of_block hbx_W17_12.out)).trans hbx_W17_12.out)
          have hs0:=cell_below hb hSw
          refine hK.out _ _ hs0 (fun hSw => ?_)
          clear hK K hb hs0
          refine wpAnyX_ready (rs:=[11,13]) (by kernel_rfl) (by simp) ?_
          refine (AllReadyX.cons rfl (fun K hK => ?_) (AllReadyX.cons rfl (fun K hK => ?_) AllReadyX.nil))
          · simp only [List.getElem_toArray,List.getElem_cons_succ,List.getElem_cons_zero]
            go_simp
            refine (HBk.out W18 (Hbw.out.trans (HB_W18.out.mono Hbw.out.size)) (by omega)).mono ?_
            rintro e W19 ⟨rfl,hb⟩
            dsimp only
            have HB_W19:=Lib.hid (HB_W18.out.trans (hb.mono HB_W18.out.size))
            have hbx_W19_12:=Lib.hid ((hb.block _ (lt_of_block hbx_W18_12.out)).trans hbx_W18_12.out)
            have hs0:=cell_below hb hSw
            refine hK.out _ _ hs0 (fun hSw => ?_)
            clear hK K hb hs0
            refine wpAnyX_ready (rs:=[13]) (by kernel_rfl) (by simp) ?_
            refine (AllReadyX.cons rfl (fun K hK => ?_) AllReadyX.nil)
            · simp only [List.getElem_toArray,List.getElem_cons_succ,List.getElem_cons_zero]
              go_simp
              have hne_12_13:V0.heap.size ≠ W19.heap.size:=by have:=lt_of_block hbx_W19_12.out;omega
              obtain ⟨W20,hV⟩:∃ V,V = World.alloc W19 (.cells #[.int .i64 0,.int .i64 0] 52):=⟨_,rfl⟩
              have hbx:=heap_alloc_new W19 (.cells #[.int .i64 0,.int .i64 0] 52)
              have hb:=(Below.refl _ W19).alloc (Nat.le_refl _) (.cells #[.int .i64 0,.int .i64 0] 52)
              rw [← hV] at hbx hb
              (try simp only [World.size_drew] at hbx hb)
              rw [← hV]
              clear hV
              have hge_13:=HB_W19.out.size
              have hbx_W20_13:=Lib.hid hbx;clear hbx
              have HB_W20:=Lib.hid (HB_W19.out.trans (hb.mono HB_W19.out.size))
              have hbx_W20_12:=Lib.hid ((hb.block _ (lt_of_block hbx_W19_12.out)).trans hbx_W19_12.out)
              have hs0:=cell_below hb hSw
              refine hK.out _ _ hs0 (fun hSw => ?_)
              clear hK K hb hs0
              have hne12':=fun e => hne_12_13 (Eq.symm e)
              have y0:=cell_of_row W20 _ 0 _ _ _ hbx_W20_12.out;have y1:=cell_of_row W20 _ 1 _ _ _ hbx_W20_12.out;have yf:=fun j => frozen_of_row W20 _ j _ _ hbx_W20_12.out
              have z0:=cell_of_row W20 _ 0 _ _ _ hbx_W20_13.out;have z1:=cell_of_row W20 _ 1 _ _ _ hbx_W20_13.out;have zf:=fun j => frozen_of_row W20 _ j _ _ hbx_W20_13.out
              refine wpAnyX_ready (rs:=[14]) (by kernel_rfl) (by simp) ?_
              refine AllReadyX.cons rfl (fun K hK => ?_) AllReadyX.nil
              simp only [List.getElem_toArray,List.getElem_cons_succ,List.getElem_cons_zero]
              go_simp
              refine hK.out _ _ ((World.cell?_setCell_far _ _ _ _ (show V0.heap.size ≠ b by omega)).trans ((World.cell?_setCell_far _ _ _ _ (show V0.heap.size ≠ b by omega)).trans hSw)) (fun hSw => ?_)
              clear hK K
              refine wpAnyX_tail (by rfl) (by kernel_rfl) ?_
              simp only [List.drop_succ_cons,List.drop_zero]
              go_wp2_with fail
              go_meet
              obtain ⟨b1,b2,b3⟩:=two_boxes (.int .i64 (cntN sz k:Int)) (.int .i64 (midN sz k:Int)) (.int .i64 (midN sz k:Int)) (.int .i64 (cntN sz (k + 1):Int)) hbx_W20_12.out hbx_W20_13.out hne_12_13 HB_W20.out hge_12 hge_13
              exact ⟨V0.heap.size,W19.heap.size,rfl,rfl,b1,b2,hge_12,hge_13,b3⟩
          · simp only [List.getElem_toArray,List.getElem_cons_succ,List.getElem_cons_zero]
            go_simp
            have hne_12_13:V0.heap.size ≠ W18.heap.size:=by have:=lt_of_block hbx_W18_12.out;omega
            obtain ⟨W21,hV⟩:∃ V,V = World.alloc W18 (.cells #[.int .i64 0,.int .i64 0] 52):=⟨_,rfl⟩
            have hbx:=heap_alloc_new W18 (.cells #[.int .i64 0,.int .i64 0] 52)
            have hb:=(Below.refl _ W18).alloc (Nat.le_refl _) (.cells #[.int .i64 0,.int .i64 0] 52)
            rw [← hV] at hbx hb
            (try simp only [World.size_drew] at hbx hb)
            rw [← hV]
            clear hV
            have hge_13:=HB_W18.out.size
            have hbx_W21_13:=Lib.hid hbx;clear hbx
            have HB_W21:=Lib.hid (HB_W18.out.trans (hb.mono HB_W18.out.size))
            have hbx_W21_12:=Lib.hid ((hb.block _ (lt_of_block hbx_W18_12.out)).trans hbx_W18_12.out)
            have hs0:=cell_below hb hSw
            refine hK.out _ _ hs0 (fun hSw => ?_)
            clear hK K hb hs0
            refine wpAnyX_ready (rs:=[11]) (by kernel_rfl) (by simp) ?_
            refine (AllReadyX.cons rfl (fun K hK => ?_) AllReadyX.nil)
            · simp only [List.getElem_toArray,List.getElem_cons_succ,List.getElem_cons_zero]
              go_simp
              refine (HBk.out W21 (Hbw.out.trans (HB_W21.out.mono Hbw.out.size)) (by omega)).mono ?_
              rintro e W22 ⟨rfl,hb⟩
              dsimp only
              have HB_W22:=Lib.hid (HB_W21.out.trans (hb.mono HB_W21.out.size))
              have hbx_W22_13:=Lib.hid ((hb.block _ (lt_of_block hbx_W21_13.out)).trans hbx_W21_13.out)
              have hbx_W22_12:=Lib.hid ((hb.block _ (lt_of_block hbx_W21_12.out)).trans hbx_W21_12.out)
              have hs0:=cell_below hb hSw
              refine hK.out _ _ hs0 (fun hSw => ?_)
              clear hK K hb hs0
              have hne12':=fun e => hne_12_13 (Eq.symm e)
              have y0:=cell_of_row W22 _ 0 _ _ _ hbx_W22_12.out;have y1:=cell_of_row W22 _ 1 _ _ _ hbx_W22_12.out;have yf:=fun j => frozen_of_row W22 _ j _ _ hbx_W22_12.out
              have z0:=cell_of_row W22 _ 0 _ _ _ hbx_W22_13.out;have z1:=cell_of_row W22 _ 1 _ _ _ hbx_W22_13.out;have zf:=fun j => frozen_of_row W22 _ j _ _ hbx_W22_13.out
              refine wpAnyX_ready (rs:=[14]) (by kernel_rfl) (by simp) ?_
              refine AllReadyX.cons rfl (fun K hK => ?_) AllReadyX.nil
              simp only [List.getElem_toArray,List.getElem_cons_succ,List.getElem_cons_zero]
              go_simp
              refine hK.out _ _ ((World.cell?_setCell_far _ _ _ _ (show V0.heap.size ≠ b by omega)).trans ((World.cell?_setCell_far _ _ _ _ (show V0.heap.size ≠ b by omega)).trans hSw)) (fun hSw => ?_)
              clear hK K
              refine wpAnyX_tail (by rfl) (by kernel_rfl) ?_
              simp only [List.drop_succ_cons,List.drop_zero]
              go_wp2_with fail
              go_meet
              obtain ⟨b1,b2,b3⟩:=two_boxes (.int .i64 (cntN sz k:Int)) (.int .i64 (midN sz k:Int)) (.int .i64 (midN sz k:Int)) (.int .i64 (cntN sz (k + 1):Int)) hbx_W22_12.out hbx_W22_13.out hne_12_13 HB_W22.out hge_12 hge_13
              exact ⟨V0.heap.size,W18.heap.size,rfl,rfl,b1,b2,hge_12,hge_13,b3⟩
        · simp only [List.getElem_toArray,List.getElem_cons_succ,List.getElem_cons_zero]
          go_simp
          have hne_12_13:V0.heap.size ≠ W17.heap.size:=by have:=lt_of_block hbx_W17_12.out;omega
          obtain ⟨W23,hV⟩:∃ V,V = World.alloc W17 (.cells #[.int .i64 0,.int .i64 0] 52):=⟨_,rfl⟩
          have hbx:=heap_alloc_new W17 (.cells #[.int .i64 0,.int .i64 0] 52)
          have hb:=(Below.refl _ W17).alloc (Nat.le_refl _) (.cells #[.int .i64 0,.int .i64 0] 52)
          rw [← hV] at hbx hb
          (try simp only [World.size_drew] at hbx hb)
          rw [← hV]
          clear hV
          have hge_13:=HB_W17.out.size
          have hbx_W23_13:=Lib.hid hbx;clear hbx
          have HB_W23:=Lib.hid (HB_W17.out.trans (hb.mono HB_W17.out.size))
          have hbx_W23_12:=Lib.hid ((hb.block _ (lt_of_block hbx_W17_12.out)).trans hbx_W17_12.out)
          have hs0:=cell_below hb hSw
          refine hK.out _ _ hs0 (fun hSw => ?_)
          clear hK K hb hs0
          refine wpAnyX_ready (rs:=[5]) (by kernel_rfl) (by simp) ?_
          refine (AllReadyX.cons rfl (fun K hK => ?_) AllReadyX.nil)
          · simp only [List.getElem_toArray,List.getElem_cons_succ,List.getElem_cons_zero]
            go_simp
            refine (HWk.out W23 (Hbw.out.trans (HB_W23.out.mono Hbw.out.size)) (by omega)).mono ?_
            rintro e W24 ⟨rfl,hb⟩
            dsimp only
            have HB_W24:=Lib.hid (HB_W23.out.trans (hb.mono HB_W23.out.size))
            have hbx_W24_13:=Lib.hid ((hb.block _ (lt_of_block hbx_W23_13.out)).trans hbx_W23_13.out)
            have hbx_W24_12:=Lib.hid ((hb.block _ (lt_of_block hbx_W23_12.out)).trans hbx_W23_12.out)
            have hs0:=cell_below hb hSw
            refine hK.out _ _ hs0 (fun hSw => ?_)
            clear hK K hb hs0
            refine wpAnyX_ready (rs:=[11]) (by kernel_rfl) (by simp) ?_
            refine (AllReadyX.cons rfl (fun K hK => ?_) AllReadyX.nil)
            · simp only [List.getElem_toArray,List.getElem_cons_succ,List.getElem_cons_zero]
              go_simp
              refine (HBk.out W24 (Hbw.out.trans (HB_W24.out.mono Hbw.out.size)) (by omega)).mono ?_
              rintro e W25 ⟨rfl,hb⟩
              dsimp only
              have HB_W25:=Lib.hid (HB_W24.out.trans (hb.mono HB_W24.out.size))
              have hbx_W25_13:=Lib.hid ((hb.block _ (lt_of_block hbx_W24_13.out)).trans hbx_W24_13.out)
              have hbx_W25_12:=Lib.hid ((hb.block _ (lt_of_block hbx_W24_12.out)).trans hbx_W24_12.out)
              have hs0:=cell_below hb hSw
              refine hK.out _ _ hs0 (fun hSw => ?_)
              clear hK K hb hs0
              have hne12':=fun e => hne_12_13 (Eq.symm e)
              have y0:=cell_of_row W25 _ 0 _ _ _ hbx_W25_12.out;have y1:=cell_of_row W25 _ 1 _ _ _ hbx_W25_12.out;have yf:=fun j => frozen_of_row W25 _ j _ _ hbx_W25_12.out
              have z0:=cell_of_row W25 _ 0 _ _ _ hbx_W25_13.out;have z1:=cell_of_row W25 _ 1 _ _ _ hbx_W25_13.out;have zf:=fun j => frozen_of_row W25 _ j _ _ hbx_W25_13.out
              refine wpAnyX_ready (rs:=[14]) (by kernel_rfl) (by simp) ?_
              refine AllReadyX.cons rfl (fun K hK => ?_) AllReadyX.nil
              simp only [List.getElem_toArray,List.getElem_cons_succ,List.getElem_cons_zero]
              go_simp
              refine hK.out _ _ ((World.cell?_setCell_far _ _ _ _ (show V0.heap.size ≠ b by omega)).trans ((World.cell?_setCell_far _ _ _ _ (show V0.heap.size ≠ b by omega)).trans hSw)) (fun hSw => ?_)
              clear hK K
              refine wpAnyX_tail (by rfl) (by kernel_rfl) ?_
              simp only [List.drop_succ_cons,List.drop_zero]
              go_wp2_with fail
              go_meet
              obtain ⟨b1,b2,b3⟩:=two_boxes (.int .i64 (cntN sz k:Int)) (.int .i64 (midN sz k:Int)) (.int .i64 (midN sz k:Int)) (.int .i64 (cntN sz (k + 1):Int)) hbx_W25_12.out hbx_W25_13.out hne_12_13 HB_W25.out hge_12 hge_13
              exact ⟨V0.heap.size,W17.heap.size,rfl,rfl,b1,b2,hge_12,hge_13,b3⟩
      · simp only [List.getElem_toArray,List.getElem_cons_succ,List.getElem_cons_zero]
        go_simp
        obtain ⟨W26,hV⟩:∃ V,V = World.alloc V0 (.cells #[.int .i64 0,.int .i64 0] 52):=⟨_,rfl⟩
        have hbx:=heap_alloc_new V0 (.cells #[.int .i64 0,.int .i64 0] 52)
        have hb:=(Below.refl _ V0).alloc (Nat.le_refl _) (.cells #[.int .i64 0,.int .i64 0] 52)
        rw [← hV] at hbx hb
        (try simp only [World.size_drew] at hbx hb)
        rw [← hV]
        clear hV
        have hge_13:=HB_V0.out.size
        have hbx_W26_13:=Lib.hid hbx;clear hbx
        have HB_W26:=Lib.hid (HB_V0.out.trans (hb.mono HB_V0.out.size))
        have hs0:=cell_below hb hSw
        refine hK.out _ _ hs0 (fun hSw => ?_)
        clear hK K hb hs0
        refine wpAnyX_ready (rs:=[5,12]) (by kernel_rfl) (by simp) ?_
        refine (AllReadyX.cons rfl (fun K hK => ?_) (AllReadyX.cons rfl (fun K hK => ?_) AllReadyX.nil))
        · simp only [List.getElem_toArray,List.getElem_cons_succ,List.getElem_cons_zero]
          go_simp
          refine (HWk.out W26 (Hbw.out.trans (HB_W26.out.mono Hbw.out.size)) (by omega)).mono ?_
          rintro e W27 ⟨rfl,hb⟩
          dsimp only
          have HB_W27:=Lib.hid (HB_W26.out.trans (hb.mono HB_W26.out.size))
          have hbx_W27_13:=Lib.hid ((hb.block _ (lt_of_block hbx_W26_13.out)).trans hbx_W26_13.out)
          have hs0:=cell_below hb hSw
          refine hK.out _ _ hs0 (fun hSw => ?_)
          clear hK K hb hs0
          refine wpAnyX_ready (rs:=[11,12]) (by kernel_rfl) (by simp) ?_
          refine (AllReadyX.cons rfl (fun K hK => ?_) (AllReadyX.cons rfl (fun K hK => ?_) AllReadyX.nil))
          · simp only [List.getElem_toArray,List.getElem_cons_succ,List.getElem_cons_zero]
            go_simp
            refine (HBk.out W27 (Hbw.out.trans (HB_W27.out.mono Hbw.out.size)) (by omega)).mono ?_
            rintro e W28 ⟨rfl,hb⟩
            dsimp only
            have HB_W28:=Lib.hid (HB_W27.out.trans (hb.mono HB_W27.out.size))
            have hbx_W28_13:=Lib.hid ((hb.block _ (lt_of_block hbx_W27_13.out)).trans hbx_W27_13.out)
            have hs0:=cell_below hb hSw
            refine hK.out _ _ hs0 (fun hSw => ?_)
            clear hK K hb hs0
            refine wpAnyX_ready (rs:=[12]) (by kernel_rfl) (by simp) ?_
            refine (AllReadyX.cons rfl (fun K hK => ?_) AllReadyX.nil)
            · simp only [List.getElem_toArray,List.getElem_cons_succ,List.getElem_cons_zero]
              go_simp
              have hne_12_13:W28.heap.size ≠ V0.heap.size:=by have:=lt_of_block hbx_W28_13.out;omega
              obtain ⟨W29,hV⟩:∃ V,V = World.alloc W28 (.cells #[.int .i64 0,.int .i64 0] 52):=⟨_,rfl⟩
              have hbx:=heap_alloc_new W28 (.cells #[.int .i64 0,.int .i64 0] 52)
              have hb:=(Below.refl _ W28).alloc (Nat.le_refl _) (.cells #[.int .i64 0,.int .i64 0] 52)
              rw [← hV] at hbx hb
              (try simp only [World.size_drew] at hbx hb)
              rw [← hV]
              clear hV
              have hge_12:=HB_W28.out.size
              have hbx_W29_12:=Lib.hid hbx;clear hbx
              have HB_W29:=Lib.hid (HB_W28.out.trans (hb.mono HB_W28.out.size))
              have hbx_W29_13:=Lib.hid ((hb.block _ (lt_of_block hbx_W28_13.out)).trans hbx_W28_13.out)
              have hs0:=cell_below hb hSw
              refine hK.out _ _ hs0 (fun hSw => ?_)
              clear hK K hb hs0
              have hne12':=fun e => hne_12_13 (Eq.symm e)
              have y0:=cell_of_row W29 _ 0 _ _ _ hbx_W29_12.out;have y1:=cell_of_row W29 _ 1 _ _ _ hbx_W29_12.out;have yf:=fun j => frozen_of_row W29 _ j _ _ hbx_W29_12.out
              have z0:=cell_of_row W29 _ 0 _ _ _ hbx_W29_13.out;have z1:=cell_of_row W29 _ 1 _ _ _ hbx_W29_13.out;have zf:=fun j => frozen_of_row W29 _ j _ _ hbx_W29_13.out
              refine wpAnyX_ready (rs:=[14]) (by kernel_rfl) (by simp) ?_
              refine AllReadyX.cons rfl (fun K hK => ?_) AllReadyX.nil
              simp only [List.getElem_toArray,List.getElem_cons_succ,List.getElem_cons_zero]
              go_simp
              refine hK.out _ _ ((World.cell?_setCell_far _ _ _ _ (show W28.heap.size ≠ b by omega)).trans ((World.cell?_setCell_far _ _ _ _ (show W28.heap.size ≠ b by omega)).trans hSw)) (fun hSw => ?_)
              clear hK K
              refine wpAnyX_tail (by rfl) (by kernel_rfl) ?_
              simp only [List.drop_succ_cons,List.drop_zero]
              go_wp2_with fail
              go_meet
              obtain ⟨b1,b2,b3⟩:=two_boxes (.int .i64 (cntN sz k:Int)) (.int .i64 (midN sz k:Int)) (.int .i64 (midN sz k:Int)) (.int .i64 (cntN sz (k + 1):Int)) hbx_W29_12.out hbx_W29_13.out hne_12_13 HB_W29.out hge_12 hge_13
              exact ⟨W28.heap.size,V0.heap.size,rfl,rfl,b1,b2,hge_12,hge_13,b3⟩
          · simp only [List.getElem_toArray,List.getElem_cons_succ,List.getElem_cons_zero]
            go_simp
            have hne_12_13:W27.heap.size ≠ V0.heap.size:=by have:=lt_of_block hbx_W27_13.out;omega
            obtain ⟨W30,hV⟩:∃ V,V = World.alloc W27 (.cells #[.int .i64 0,.int .i64 0] 52):=⟨_,rfl⟩
            have hbx:=heap_alloc_new W27 (.cells #[.int .i64 0,.int .i64 0] 52)
            have hb:=(Below.refl _ W27).alloc (Nat.le_refl _) (.cells #[.int .i64 0,.int .i64 0] 52)
            rw [← hV] at hbx hb
            (try simp only [World.size_drew] at hbx hb)
            rw [← hV]
            clear hV
            have hge_12:=HB_W27.out.size
            have hbx_W30_12:=Lib.hid hbx;clear hbx
            have HB_W30:=Lib.hid (HB_W27.out.trans (hb.mono HB_W27.out.size))
            have hbx_W30_13:=Lib.hid ((hb.block _ (lt_of_block hbx_W27_13.out)).trans hbx_W27_13.out)
            have hs0:=cell_below hb hSw
            refine hK.out _ _ hs0 (fun hSw => ?_)
            clear hK K hb hs0
            refine wpAnyX_ready (rs:=[11]) (by kernel_rfl) (by simp) ?_
            refine (AllReadyX.cons rfl (fun K hK => ?_) AllReadyX.nil)
            · simp only [List.getElem_toArray,List.getElem_cons_succ,List.getElem_cons_zero]
              go_simp
              refine (HBk.out W30 (Hbw.out.trans (HB_W30.out.mono Hbw.out.size)) (by omega)).mono ?_
              rintro e W31 ⟨rfl,hb⟩
              dsimp only
              have HB_W31:=Lib.hid (HB_W30.out.trans (hb.mono HB_W30.out.size))
              have hbx_W31_12:=Lib.hid ((hb.block _ (lt_of_block hbx_W30_12.out)).trans hbx_W30_12.out)
              have hbx_W31_13:=Lib.hid ((hb.block _ (lt_of_block hbx_W30_13.out)).trans hbx_W30_13.out)
              have hs0:=cell_below hb hSw
              refine hK.out _ _ hs0 (fun hSw => ?_)
              clear hK K hb hs0
              have hne12':=fun e => hne_12_13 (Eq.symm e)
              have y0:=cell_of_row W31 _ 0 _ _ _ hbx_W31_12.out;have y1:=cell_of_row W31 _ 1 _ _ _ hbx_W31_12.out;have yf:=fun j => frozen_of_row W31 _ j _ _ hbx_W31_12.out
              have z0:=cell_of_row W31 _ 0 _ _ _ hbx_W31_13.out;have z1:=cell_of_row W31 _ 1 _ _ _ hbx_W31_13.out;have zf:=fun j => frozen_of_row W31 _ j _ _ hbx_W31_13.out
              refine wpAnyX_ready (rs:=[14]) (by kernel_rfl) (by simp) ?_
              refine AllReadyX.cons rfl (fun K hK => ?_) AllReadyX.nil
              simp only [List.getElem_toArray,List.getElem_cons_succ,List.getElem_cons_zero]
              go_simp
              refine hK.out _ _ ((World.cell?_setCell_far _ _ _ _ (show W27.heap.size ≠ b by omega)).trans ((World.cell?_setCell_far _ _ _ _ (show W27.heap.size ≠ b by omega)).trans hSw)) (fun hSw => ?_)
              clear hK K
              refine wpAnyX_tail (by rfl) (by kernel_rfl) ?_
              simp only [List.drop_succ_cons,List.drop_zero]
              go_wp2_with fail
              go_meet
              obtain ⟨b1,b2,b3⟩:=two_boxes (.int .i64 (cntN sz k:Int)) (.int .i64 (midN sz k:Int)) (.int .i64 (midN sz k:Int)) (.int .i64 (cntN sz (k + 1):Int)) hbx_W31_12.out hbx_W31_13.out hne_12_13 HB_W31.out hge_12 hge_13
              exact ⟨W27.heap.size,V0.heap.size,rfl,rfl,b1,b2,hge_12,hge_13,b3⟩
        · simp only [List.getElem_toArray,List.getElem_cons_succ,List.getElem_cons_zero]
          go_simp
          have hne_12_13:W26.heap.size ≠ V0.heap.size:=by have:=lt_of_block hbx_W26_13.out;omega
          obtain ⟨W32,hV⟩:∃ V,V = World.alloc W26 (.cells #[.int .i64 0,.int .i64 0] 52):=⟨_,rfl⟩
          have hbx:=heap_alloc_new W26 (.cells #[.int .i64 0,.int .i64 0] 52)
          have hb:=(Below.refl _ W26).alloc (Nat.le_refl _) (.cells #[.int .i64 0,.int .i64 0] 52)
          rw [← hV] at hbx hb
          (try simp only [World.size_drew] at hbx hb)
          rw [← hV]
          clear hV
          have hge_12:=HB_W26.out.size
          have hbx_W32_12:=Lib.hid hbx;clear hbx
          have HB_W32:=Lib.hid (HB_W26.out.trans (hb.mono HB_W26.out.size))
          have hbx_W32_13:=Lib.hid ((hb.block _ (lt_of_block hbx_W26_13.out)).trans hbx_W26_13.out)
          have hs0:=cell_below hb hSw
          refine hK.out _ _ hs0 (fun hSw => ?_)
          clear hK K hb hs0
          refine wpAnyX_ready (rs:=[5]) (by kernel_rfl) (by simp) ?_
          refine (AllReadyX.cons rfl (fun K hK => ?_) AllReadyX.nil)
          · simp only [List.getElem_toArray,List.getElem_cons_succ,List.getElem_cons_zero]
            go_simp
            refine (HWk.out W32 (Hbw.out.trans (HB_W32.out.mono Hbw.out.size)) (by omega)).mono ?_
            rintro e W33 ⟨rfl,hb⟩
            dsimp only
            have HB_W33:=Lib.hid (HB_W32.out.trans (hb.mono HB_W32.out.size))
            have hbx_W33_12:=Lib.hid ((hb.block _ (lt_of_block hbx_W32_12.out)).trans hbx_W32_12.out)
            have hbx_W33_13:=Lib.hid ((hb.block _ (lt_of_block hbx_W32_13.out)).trans hbx_W32_13.out)
            have hs0:=cell_below hb hSw
            refine hK.out _ _ hs0 (fun hSw => ?_)
            clear hK K hb hs0
            refine wpAnyX_ready (rs:=[11]) (by kernel_rfl) (by simp) ?_
            refine (AllReadyX.cons rfl (fun K hK => ?_) AllReadyX.nil)
            · simp only [List.getElem_toArray,List.getElem_cons_succ,List.getElem_cons_zero]
              go_simp
              refine (HBk.out W33 (Hbw.out.trans (HB_W33.out.mono Hbw.out.size)) (by omega)).mono ?_
              rintro e W34 ⟨rfl,hb⟩
              dsimp only
              have HB_W34:=Lib.hid (HB_W33.out.trans (hb.mono HB_W33.out.size))
              have hbx_W34_12:=Lib.hid ((hb.block _ (lt_of_block hbx_W33_12.out)).trans hbx_W33_12.out)
              have hbx_W34_13:=Lib.hid ((hb.block _ (lt_of_block hbx_W33_13.out)).trans hbx_W33_13.out)
              have hs0:=cell_below hb hSw
              refine hK.out _ _ hs0 (fun hSw => ?_)
              clear hK K hb hs0
              have hne12':=fun e => hne_12_13 (Eq.symm e)
              have y0:=cell_of_row W34 _ 0 _ _ _ hbx_W34_12.out;have y1:=cell_of_row W34 _ 1 _ _ _ hbx_W34_12.out;have yf:=fun j => frozen_of_row W34 _ j _ _ hbx_W34_12.out
              have z0:=cell_of_row W34 _ 0 _ _ _ hbx_W34_13.out;have z1:=cell_of_row W34 _ 1 _ _ _ hbx_W34_13.out;have zf:=fun j => frozen_of_row W34 _ j _ _ hbx_W34_13.out
              refine wpAnyX_ready (rs:=[14]) (by kernel_rfl) (by simp) ?_
              refine AllReadyX.cons rfl (fun K hK => ?_) AllReadyX.nil
              simp only [List.getElem_toArray,List.getElem_cons_succ,List.getElem_cons_zero]
              go_simp
              refine hK.out _ _ ((World.cell?_setCell_far _ _ _ _ (show W26.heap.size ≠ b by omega)).trans ((World.cell?_setCell_far _ _ _ _ (show W26.heap.size ≠ b by omega)).trans hSw)) (fun hSw => ?_)
              clear hK K
              refine wpAnyX_tail (by rfl) (by kernel_rfl) ?_
              simp only [List.drop_succ_cons,List.drop_zero]
              go_wp2_with fail
              go_meet
              obtain ⟨b1,b2,b3⟩:=two_boxes (.int .i64 (cntN sz k:Int)) (.int .i64 (midN sz k:Int)) (.int .i64 (midN sz k:Int)) (.int .i64 (cntN sz (k + 1):Int)) hbx_W34_12.out hbx_W34_13.out hne_12_13 HB_W34.out hge_12 hge_13
              exact ⟨W26.heap.size,V0.heap.size,rfl,rfl,b1,b2,hge_12,hge_13,b3⟩
    case rest =>
      obtain ⟨M1,M2,rfl,rfl,hM1,hM2,hg1,hg2,hB⟩:=hcut
      have hR:=HG.out.1
      have hnl:=Hn.out
      have hk1:k + 1 < sz.length:=by omega
      have z0:=hR.at (k:=k) (by omega)
      have z1:=hR.at hk1
      have hmul:=HG.out.mul hk1
      have hpos:1 ≤ szN sz (k + 1) * szN sz k:=Nat.mul_pos z1.1 z0.1
      have hmid:midN sz k = cntN sz k + szN sz (k + 1) * szN sz k:=rfl
      have hnext:=midN_eq sz k
      have hroom:=cntN_mono sz (show k + 1 ≤ n by omega)
      have hNN:=HN.out
      have hsk:sz.length - 2 - k = n - 1 - k:=by omega
      have hej:=errD_len (sz:=sz) (ps:=ps) (q:=q) (x:=x) (y:=y) Hx.out (n - 1 - k)
      rw [show sz.length - 1 - (n - 1 - k) = k + 1 by omega] at hej
      have wej:=errD_W64 sz ps q x y (n - 1 - k)
      have hvl:=valL_len (sz:=sz) (ps:=ps) (q:=q) Hx.out k
      have wvl:=valL_W64 (sz:=sz) (ps:=ps) (q:=q) WX.out k
      obtain ⟨Ak,ck,hv1,hv2,hv3⟩:=Hva.out.2 k (by omega)
      rw [hvl] at hv1
      obtain ⟨bo,oo,rfl,pv⟩:=Hr.out _ _ hv1
      have hbo:bo < w1.heap.size:=lt_of_cell pv
      have h1c:Below w1.heap.size w1 wc:=HW.out.trans (hB.mono HW.out.size)
      have pvc:=(h1c.cell (p:=⟨bo,oo + k,none⟩) hbo).trans pv
      have hNc:=(hB.block b hbr).trans HNr.out
      have hGc:=(hB.block w1.heap.size (lt_of_block HGk.out)).trans HGk.out
      have hoc:=own_below Ho9.out hB
      rw [hsk] at hoc
      have hvr:=hv3.below h1c
      obtain ⟨lo,hlo⟩:∃ lo,cntN sz k = lo:=⟨_,rfl⟩
      obtain ⟨r,hr⟩:∃ r,szN sz (k + 1) = r:=⟨_,rfl⟩
      obtain ⟨c0,hc0⟩:∃ c0,szN sz k = c0:=⟨_,rfl⟩
      obtain ⟨nn,hnn⟩:∃ nn,r * c0 = nn:=⟨_,rfl⟩
      rw [← hnext,hmid] at hM2
      rw [hmid] at hM1
      rw [← hnext,hmid] at hroom
      rw [hlo,hr,hc0,hnn] at hM1 hM2 hroom
      rw [hr] at hej z1 hoc
      rw [hc0] at hvl z0 pvc
      rw [hr,hc0,hnn] at hpos hmul
      rw [hr]
      obtain ⟨ev,hev⟩:∃ ev,errD sz ps q x y (n - 1 - k) = ev:=⟨_,rfl⟩
      obtain ⟨vv,hvv⟩:∃ vv,valL sz ps q x k = vv:=⟨_,rfl⟩
      rw [hev] at hej wej hoc
      rw [hvv] at hvl wvl hvr hv3
      have HV3:=Lib.hid hv3
      have hou:=fun W (h:Below wc.heap.size wc W) => outer_any r c0 A9 Ak ev vv c9 ck q W ⟨z1.1,z1.2.1⟩ ⟨z0.1,z0.2.1⟩ (by rw [hnn];exact hmul) ((Rd.own hoc).below h) wej hej (hvr.below h) hvl wvl
      rw [hnn] at hou
      have hwl:(outerL r c0 ev vv q).length = nn:=by rw [outerL_len,hnn]
      obtain ⟨ow,how⟩:∃ ow,outerL r c0 ev vv q = ow:=⟨_,rfl⟩
      rw [how] at hou hwl
      obtain ⟨⟨m0,m1⟩,mf⟩:=bx2 hM1
      obtain ⟨⟨n0,n1,n2,n3⟩,nf⟩:=bx4 hNc
      have hl1:=lt_of_block hM1
      have hlc:w1.heap.size < wc.heap.size:=lt_of_block hGc
      have hbc:b < wc.heap.size:=lt_of_block hNc
      have hboc:bo < wc.heap.size:=by omega
      have hMG1:M1 ≠ w1.heap.size:=by have:=HW.out.size;have:=lt_of_block HGk.out;omega
      have hMG2:M2 ≠ w1.heap.size:=by have:=HW.out.size;have:=lt_of_block HGk.out;omega
      have hol:o.length = N:=by rw [Hol.out,hnl,hNN]
      have hro:lo + nn + r ≤ N:=by omega
      have hksz:k < sz.length:=by omega
      have hq1:¬ (N = lo):=by omega
      have hq2:lo + nn ≤ N:=by omega
      have hq3:(lo:Int) + nn ≤ N:=by omega
      have hq4:((lo:Int) + nn).toNat = lo + nn:=by omega
      have hq5:(0:Int) ≤ (lo:Int) + nn:=by omega
      have hq6:(lo:Int) ≤ (lo:Int) + nn:=by omega
      have HM1:=Lib.hid hM1;have HM2:=Lib.hid hM2;have HNc:=Lib.hid hNc;have HGc:=Lib.hid hGc;have Hoc:=Lib.hid hoc;have Hou:=Lib.hid hou;have Hwl:=Lib.hid hwl;have How:=Lib.hid how;have Hev:=Lib.hid hev;have Hvv:=Lib.hid hvv;have Hlo:=Lib.hid hlo;have Hr9:=Lib.hid hr;have Hc0:=Lib.hid hc0;have Hnn:=Lib.hid hnn;have H1c:=Lib.hid h1c;have HB:=Lib.hid hB;have Holn:=Lib.hid hol;have Hvr:=Lib.hid hvr;have Hvl:=Lib.hid hvl;have WV:=Lib.hid wvl;have Hej:=Lib.hid hej;have WEJ:=Lib.hid wej;have Hsk:=Lib.hid hsk;have Hvk:=Lib.hid hv1
      clear hM1 hM2 hNc hGc hoc hou hwl how hev hvv hlo hr hc0 hnn h1c hB hol hvr hvl wvl hej wej hsk hv1 hv2 hv3 pv hmid hnext hroom hNN hnl n0 n1 n3 nf mf
      go_wp2_with fail
      have hSw:(fun w':World => w'.cell? ⟨M1,0,none⟩ = some (.int .i64 lo) ∧ w'.cell? ⟨M1,1,none⟩ = some (.int .i64 ((lo:Int) + nn)) ∧ w'.cell? ⟨bo,oo + k,none⟩ = some (.slice Ak c0 ck) ∧ w'.cell? ⟨b,2,none⟩ = some (.int .i64 q)) wc.drew:=⟨m0,m1,pvc,n2⟩
      refine HA.g (fun w':World => w'.cell? ⟨M1,0,none⟩ = some (.int .i64 lo) ∧ w'.cell? ⟨M1,1,none⟩ = some (.int .i64 ((lo:Int) + nn)) ∧ w'.cell? ⟨bo,oo + k,none⟩ = some (.slice Ak c0 ck) ∧ w'.cell? ⟨b,2,none⟩ = some (.int .i64 q)) ?_
      refine HA.t ?_ [0,1,2,3,4,5,6,7,8,9,10,11,12,13,14] hSw ?_
      refine HA.o 15 (fun K hK => ?_)
      go_simp
      refine (Hou.out _ ((Below.refl wc.heap.size wc).drew)).mono ?_
      rintro e w5 ⟨A5,rfl,ho5,hb5⟩
      have hS5:=And.intro (cell_below hb5 hSw.1) (And.intro (cell_below hb5 hSw.2.1) (And.intro (cell_below hb5 hSw.2.2.1) (cell_below hb5 hSw.2.2.2)))
      have hb5c:Below wc.heap.size wc w5:=(Below.refl wc.heap.size wc).drew.trans hb5
      have hG5:=(hb5c.block _ hlc).trans HGc.out
      have ho5:=Rd.own ho5
      have HG5:=Lib.hid hG5;have Ho5:=Lib.hid ho5;have Hb5:=Lib.hid hb5c;clear hG5 ho5 hb5 hb5c hSw
      dsimp only
      refine hK.out _ _ hS5 (fun hSw => ?_)
      clear hK K hS5
      refine HA.o 16 (fun K hK => ?_)
      go_simp
      refine hK.out _ _ hSw (fun hSw => ?_)
      clear hK K
      refine HA.o 17 (fun K hK => ?_)
      refine step_copyK (.tmp 58) (.tmp 69) 64 64 rfl rfl 2 Tryz.underlying64 (by kernel_rfl) (some ⟨w1.heap.size,lo,none⟩) A5 nn (N - lo) nn rfl rfl w1.heap.size lo (nums .i64 o) 2 HG5.out (nums .i64 ow) (by rw [nums_length,Hwl.out]) (fun _ => rfl) Ho5.out (by rw [nums_length,nums_length,Hwl.out,Holn.out];omega) (nums_cell _ _) ?_
      intro w6 hG6 hK6
      rw [nums_splice] at hG6
      have hS6:=And.intro (hK6.cell hSw.1 (by exact hMG1)) (And.intro (hK6.cell hSw.2.1 (by exact hMG1)) (And.intro (hK6.cell hSw.2.2.1 (show bo ≠ _ by omega)) (hK6.cell hSw.2.2.2 (show b ≠ _ by omega))))
      have hM26:=(hK6.block M2 (lt_of_block ((Hb5.out.block _ (lt_of_block HM2.out)).trans HM2.out)) hMG2).trans ((Hb5.out.block _ (lt_of_block HM2.out)).trans HM2.out)
      have HG6:=Lib.hid hG6;have HK6:=Lib.hid hK6;clear hG6 hK6 hSw
      dsimp only
      refine hK.out _ _ hS6 (fun hSw => ?_)
      clear hK K hS6
      refine HA.d ?_
      have hD6:w6.ownsRow w.heap.size 2 1 (.slice A9 r c9) r (nums .i64 ev):=HK6.out.own (own_below Hoc.out Hb5.out) (fun i hi e => by
        cases A9 with
        | none => cases hi
        | some a => simp [Value.ownBlock] at hi;exact Hne.out a rfl (hi.trans e))
      have n26:=hSw.2.2.2
      have v26:=hSw.2.2.1
      obtain ⟨⟨mm0,mm1⟩,mmf⟩:=bx2 hM26
      have hlM2:=lt_of_block hM26
      have HD6:=Lib.hid hD6;have HM26:=Lib.hid hM26;clear hD6 hM26 hSw m0 m1 pvc n2
      have hq7:¬ (N = lo + nn):=by omega
      have hq8:lo + nn + r ≤ N:=by omega
      have hq9:(lo:Int) + nn + r ≤ N:=by omega
      have hqa:((lo:Int) + nn + r).toNat = lo + nn + r:=by omega
      have hqb:(0:Int) ≤ (lo:Int) + nn + r:=by omega
      have hqc:(lo:Int) + nn ≤ (lo:Int) + nn + r:=by omega
      have Hf1:=Lib.hid (show (nums .i64 ev).length = r by rw [nums_length,Hej.out])
      have Hf2:=Lib.hid (show lo + nn + (nums .i64 ev).length ≤ (nums .i64 (splice o lo ow)).length by rw [nums_length,nums_length,Hej.out,length_splice _ _ _ (by rw [Hwl.out,Holn.out];omega),Holn.out];omega)
      have Hf3:=Lib.hid (show (Tryz.prog.info? 2).map (·.size) = some 1 by kernel_rfl)
      go_wp2_with (refine wpList_copyK rfl (.tmp 76) (.tmp 77) 64 64 rfl 2 Tryz.underlying64 Hf3.out (some ⟨w1.heap.size,lo + nn,none⟩) A9 r (N - (lo + nn)) c9 rfl rfl w1.heap.size (lo + nn) (nums .i64 (splice o lo ow)) 2 HG6.out (nums .i64 ev) Hf1.out (fun _ => rfl) (Rd.own HD6.out) Hf2.out (nums_cell _ _) ?_)
      intro w7 hG7 hK7
      rw [nums_splice] at hG7
      obtain ⟨o7,ho7⟩:∃ o7,splice (splice o lo ow) (lo + nn) ev = o7:=⟨_,rfl⟩
      have hl7:o7.length = N:=by
        have h1:(splice o lo ow).length = N:=by rw [length_splice _ _ _ (by rw [Hwl.out,Holn.out];omega),Holn.out]
        rw [← ho7,length_splice _ _ _ (by rw [h1,Hej.out];omega),h1]
      have hdr:o7.drop (cntN sz k) = gradT sz ps q x y (n - k):=by
        have e1:=Hn.out
        have e2:=splice2_drop (o:=o) (W:=ow) (D:=ev) (lo:=lo) (by rw [Hwl.out,Hej.out,Holn.out];exact hro)
        rw [Hwl.out,Hej.out,ho7] at e2
        rw [Hlo.out,e2,show n - k = (n - 1 - k) + 1 by omega]
        have e3:cntN sz (k + 1) = lo + nn + r:=by
          rw [← midN_eq sz k,show midN sz k = cntN sz k + szN sz (k + 1) * szN sz k from rfl,Hlo.out,Hr9.out,Hc0.out,Hnn.out]
        have e4:=Hod.out
        rw [e3,Hsk.out] at e4
        rw [gradT,show sz.length - 1 - (n - 1 - k) = k + 1 by omega,show sz.length - 2 - (n - 1 - k) = k by omega,Hr9.out,Hc0.out,Hev.out,Hvv.out,How.out,← e4]
      have hbw7:Below w1.heap.size w1 w7:=H1c.out.trans (((Hb5.out.mono (by omega)).trans (HK6.out.toBelow (by have:=Hb5.out.size;omega) (fun i hi => by omega))).trans (hK7.toBelow (by have:=HK6.out.size;have:=Hb5.out.size;omega) (fun i hi => by omega)))
      rw [ho7] at hG7
      have hD7:=hK7.own HD6.out (fun i hi e => by
        cases A9 with
        | none => cases hi
        | some a => simp [Value.ownBlock] at hi;exact Hne.out a rfl (hi.trans e))
      have n27:=hK7.cell n26 (show b ≠ _ by omega)
      have v27:=hK7.cell v26 (show bo ≠ _ by omega)
      have HG7:=Lib.hid hG7;have Hl7:=Lib.hid hl7;have Hdr:=Lib.hid hdr;have Hbw7:=Lib.hid hbw7;have HD7:=Lib.hid hD7
      clear hG7 hl7 hdr hbw7 hD7 ho7 hK7 n26 v26 mm0 mm1 mmf
      by_cases hk0:k = 0
      · have hk0b:((k:Int) == 0) = true:=by simp [hk0]
        have hfin:w7.ownsRow w.heap.size 2 1 (.slice (some ⟨w1.heap.size,0,none⟩) N N) N (nums .i64 (gradL sz ps q x y)):=by
          have e1:=Hdr.out
          rw [hk0] at e1
          have e2:o7 = gradL sz ps q x y:=by rw [HGe.out,← Nat.sub_zero n,← e1];rfl
          have e3:=full_own (base:=w.heap.size) (xs:=nums .i64 o7) (by exact HG7.out) hw1 (by rw [nums_length,Hl7.out];unfold maxLen;omega)
          rw [nums_length,Hl7.out] at e3
          rw [← e2];exact e3
        have Hfin:=Lib.hid hfin;clear hfin hk0
        have hbf:=Hb.out.trans (Hbw7.out.mono hw1)
        have Hbf:=Lib.hid hbf;clear hbf
        go_wp2_with fail
        try rw [Exit.noGoto_ret]
        go_ret2
        exact ⟨_,_,rfl,Hfin.out,Hbf.out⟩
      · have hk0b:((k:Int) == 0) = false:=by simp;omega
        obtain ⟨gl,ol,dl,Bl,el,hcs,hd,hrw,hrb⟩:=H6.out k (by omega)
        have hkrow:k < rows.length:=by rw [H4.out];omega
        have hcl:∀ t,t < 4 → (List.flatten rows)[k * 4 + t]? = (rowOf rows k)[t]?:=fun t ht => flat_get H5.out k t hkrow ht
        have e0:=hcl 0 (by omega);have e1:=hcl 1 (by omega);have e2:=hcl 2 (by omega)
        rw [hcs] at e0 e1 e2
        simp only [Nat.add_zero,List.getElem?_cons_zero,List.getElem?_cons_succ] at e0 e1 e2
        obtain ⟨bl,ob,hAl,q0⟩:=H3.out _ _ e0
        obtain ⟨_,_,hAl1,q1⟩:=H3.out _ _ e1
        obtain ⟨_,_,hAl2,q2⟩:=H3.out _ _ e2
        subst hAl
        injection hAl1 with hAl1;injection hAl1 with i1 i2 _;subst i1;subst i2
        injection hAl2 with hAl2;injection hAl2 with i1 i2 _;subst i1;subst i2
        have hbb:bl < w.heap.size:=lt_of_cell q0
        have hbf:=Hb.out.trans (Hbw7.out.mono hw1)
        have q0r:=(hbf.cell (p:=⟨bl,ob + k * 4,none⟩) hbb).trans q0
        have q1r:=(hbf.cell (p:=⟨bl,ob + (k * 4 + 1),none⟩) hbb).trans q1
        have q2r:=(hbf.cell (p:=⟨bl,ob + (k * 4 + 2),none⟩) hbb).trans q2
        rw [← Nat.add_assoc] at q1r q2r
        rw [Hr9.out] at q0r
        rw [Hc0.out] at q1r
        rw [Hr9.out,Hc0.out,Hnn.out] at q2r hd
        have hN7:=(hbf.block b hbl).trans H0.out
        obtain ⟨⟨n0,n1,n2,n3⟩,nf⟩:=bx4 hN7
        have hwl2:=wL_len sz ps k
        rw [Hr9.out,Hc0.out,Hnn.out] at hwl2
        have hbk:=mback_any r c0 gl ol nn dl (wL sz ps k) A9 ev c9 q w7.drew ⟨z1.1,z1.2.1⟩ ⟨z0.1,z0.2.1⟩ Hnn.out.symm hd (by omega) hwl2 ((hrw.below hbf).drewN 1) (wL_W64 WP.out sz k) ((Rd.own HD7.out).drewN 1) Hej.out WEJ.out
        have hkn:k < n:=by omega
        have Hbk:=Lib.hid hbk;have Hbf:=Lib.hid hbf
        clear hbk hbf hN7 hwl2 hrw hrb hcs e0 e1 e2 q0 q1 q2 hcl hkrow hd
        go_wp2_with fail
        go_region_held3 (fun w' => w'.cell? ⟨b,3,none⟩ = some (.slice (some ⟨bl,ob,none⟩) n cl) ∧ w'.cell? ⟨bl,ob + k * 4,none⟩ = some (.int .i64 r) ∧ w'.cell? ⟨bl,ob + k * 4 + 1,none⟩ = some (.int .i64 c0) ∧ w'.cell? ⟨bl,ob + k * 4 + 2,none⟩ = some (.slice (some ⟨gl,ol,none⟩) nn dl) ∧ w'.cell? ⟨b,2,none⟩ = some (.int .i64 q)) (simp [go_sem, *])
          ((go_at_call 179;refine Hbk.out.mono ?_;rintro e w8 ⟨A8,c8,rfl,ho8,hb8⟩;have g0:=cell_below hb8 n3;have g1:=cell_below hb8 q0r;have g2:=cell_below hb8 q1r;have g3:=cell_below hb8 q2r;have g4:=cell_below hb8 n2;have g5:=cell_below hb8 v27;have Ho8:=Lib.hid ho8;have Hb8:=Lib.hid hb8;clear ho8 hb8))
        go_wp2_with fail
        have hbl8:=backL_len (wL sz ps k) r c0 ev q
        obtain ⟨bk,hbke⟩:∃ bk,backL (wL sz ps k) r c0 ev q = bk:=⟨_,rfl⟩
        have ho8:=own_base (base':=w7.heap.size) Ho8.out (by simp)
        rw [hbke] at hbl8 ho8
        have Hbkl:=Lib.hid hbl8;have Ho8':=Lib.hid ho8;have Hbke:=Lib.hid hbke
        have hb8:=(Below.refl w7.heap.size w7).drew.trans Hb8.out
        have HB8:=Lib.hid hb8
        clear hbl8 ho8 hbke hb8 g0 g1 g2 g3 g4 g5 n0 n1 n2 n3 nf v27 q0r q1r q2r n27 hk0b
        go_loopw [103] (fun i wx => ∃ j:Nat,j ≤ c0 ∧ i = .int .i64 j ∧ wx.ownsRow w7.heap.size 2 1 (.slice A8 c0 c8) c0 (nums .i64 (mixed bk j (fun i => if 0 < nth vv i then nth bk i else 0))) ∧ Below w7.heap.size w7 wx) (fun i _ => c0 - (intOf i).toNat)
        case atStart => exact ⟨0,Nat.zero_le _,rfl,by rw [mixed_zero];exact Ho8'.out,HB8.out⟩
        case round =>
          obtain ⟨j,hj,rfl,hown,hbx⟩:=hrel
          by_cases hlt:j < c0
          · obtain ⟨g8,d8,hv8,hg8,_⟩:=hown.form (by omega)
            simp only [Value.slice.injEq] at hv8
            obtain ⟨rfl,hx8,rfl⟩:=hv8
            clear hx8
            have hjz:j < bk.length:=by rw [Hbkl.out];exact hlt
            have p1:=own_num hown hlt
            rw [mixed_nth _ hjz,if_neg (by omega)] at p1
            have f1:=hown.frozenAt j
            have hst:=mixed_set (l:=bk) (k:=j) (fun i => if 0 < nth vv i then nth bk i else 0) hjz
            obtain ⟨bv,ov,rfl,pv0⟩:=((HV3.out.below Hbw7.out).below hbx).num (show j < vv.length by rw [Hvl.out];exact hlt)
            have HO:=Lib.hid hown;have HBx:=Lib.hid hbx;have Hst:=Lib.hid hst;clear hown hbx hst hjz
            go_wp2_with fail
            refine (gate_any _ _ _).mono ?_
            rintro e w9 ⟨rfl,rfl⟩
            go_wp2_with fail
            go_roundw
            case rel => exact ⟨j + 1,by omega,by go_num,by rw [← Hst.out];exact own_put HO.out j _,HBx.out.setCell (p:=⟨g8,j,none⟩) hg8 _⟩
            case measure => simp [intOf];omega
          · obtain rfl:j = c0:=by omega
            have HO:=Lib.hid hown;have HBx:=Lib.hid hbx;clear hown hbx
            have hkw:IntKind.i64.wrap ((k:Int) - 1) = ((k - 1:Nat):Int):=by rw [IntWalk.i64_in _ (by omega)];omega
            have hkw2:(k:Int) - 1 = ((k - 1:Nat):Int):=by omega
            rw [hkw2] at hkw
            go_wp2_with fail
            clear hkw hkw2
            go_roundw
            case rel =>
              have ek:k - 1 + 1 = k:=by omega
              have en:=Hn.out
              have hGw:w1.heap.size < w7.heap.size:=lt_of_block HG7.out
              have hge:errD sz ps q x y (sz.length - 2 - (k - 1)) = mixed bk j (fun i => if 0 < nth vv i then nth bk i else 0):=by
                rw [show sz.length - 2 - (k - 1) = (n - 1 - k) + 1 by omega,errD,show sz.length - 2 - (n - 1 - k) = k by omega,show sz.length - 1 - (n - 1 - k) = k + 1 by omega,Hev.out,Hvv.out,Hr9.out,Hc0.out,Hbke.out]
                rw [← Hbkl.out,mixed_all]
                rfl
              refine ⟨k - 1,by omega,rfl,A8,c8,o7,?_,?_,?_,?_,?_,?_,?_⟩
              · rw [ek,Hc0.out]
              · rw [ek,Hc0.out,hge];exact own_base HO.out (by omega)
              · exact (HBx.out.block _ hGw).trans HG7.out
              · rw [Hl7.out,en,HN.out]
              · rw [ek,Hdr.out,show sz.length - 2 - (k - 1) = n - k by omega]
              · intro a ha e9
                have:=(HO.out.lt a.block (by rw [ha];rfl)).1
                omega
              · exact Hbw7.out.trans (HBx.out.mono (by omega))
            case measure => simp [intOf];omega
end Go.Proofs.YtaccfnffmbndhaaGreat
