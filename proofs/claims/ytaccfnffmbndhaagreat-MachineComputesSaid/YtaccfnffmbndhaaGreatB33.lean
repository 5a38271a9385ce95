/- The walk of sakiaref09.errors. No condition. -/
import Derived.Test.YtaccfnffmbndhaaGreatB04
import Derived.Test.YtaccfnffmbndhaaGreatB17
set_option linter.unusedSimpArgs false
set_option linter.unusedVariables false
namespace Go.Proofs.YtaccfnffmbndhaaGreat
open Go.RowKit
set_option maxRecDepth 100000 in
set_option maxHeartbeats 2000000 in
theorem rerr_last (As Ap Y V:Option Addr) (sz ps x y:List Int) (cs cp cy cv:Nat) (q:Int) (vals:List Value) (w:World) (h:RNet w As Ap sz ps cs) (hx:x.length = szN sz 0) (hY:Rd w Y (nums .i64 y)) (hy:y.length = szN sz (sz.length - 1))
    (hV:Rd w V vals) (hva:VecsAt w vals sz.length (valL sz ps q x)) :
    Calls Tryz.prog 159 #[.agg #[.slice As sz.length cs,.slice Ap ps.length cp,.int .i64 q],.int .i64 ((sz.length - 1:Nat):Int),.slice V sz.length cv,.slice Y y.length cy] w fun e w' => ∃ A c,e = .returned (.slice A y.length c) ∧ w'.ownsRow w.heap.size 2 1 (.slice A y.length c) y.length (nums .i64 (errD sz ps q x y 0)) ∧ Below w.heap.size w w':=by
  have hl16:=h.hg.1.1
  have hla:=fun w' => rlast_any As Ap sz.length ps.length cs cp q w' (by omega)
  have hmb:=(h.hg.1.at (k:=sz.length - 1) (by omega)).2.1
  obtain ⟨Aj,cj,e1,e2,e3⟩:=hva.2 (sz.length - 1) (by omega)
  have hvl:=valL_len (sz:=sz) (ps:=ps) (q:=q) hx (sz.length - 1)
  obtain ⟨bo,oo,rfl,pv⟩:=hV _ _ e1
  have hbo:bo < w.heap.size:=lt_of_cell pv
  rw [← hy] at hvl hmb
  have hed:errD sz ps q x y 0 = upTo y.length fun i => wrap64 (nth (valL sz ps q x (sz.length - 1)) i - nth y i):=by
    show missL _ _ = _
    unfold missL
    rw [hvl]
  obtain ⟨a,ha⟩:∃ a,valL sz ps q x (sz.length - 1) = a:=⟨_,rfl⟩
  obtain ⟨L,hL⟩:∃ L,sz.length = L:=⟨_,rfl⟩
  obtain ⟨m,hm⟩:∃ m,ps.length = m:=⟨_,rfl⟩
  obtain ⟨Y0,hY0⟩:∃ Y0,y.length = Y0:=⟨_,rfl⟩
  rw [hed]
  rw [ha] at pv e3 hvl ⊢
  rw [hL] at hla hl16 pv ⊢
  rw [hvl] at pv
  rw [hm] at hla ⊢
  rw [hY0] at pv hvl hmb ⊢
  have Hla:=Lib.hid hla;have HY:=Lib.hid hY;have HY0:=Lib.hid hY0;have Hvl:=Lib.hid hvl;have He3:=Lib.hid e3
  clear hla hY hY0 hvl e1 e2 e3 h hx hy hV hva hed ha hL hm
  have hLi:((L - 1:Nat):Int) < L:=by omega
  have hLn:L - 1 < L:=by omega
  have hq:(((L - 1:Nat):Int) == ((L - 1:Nat):Int)) = true:=by simp
  go_enter Tryz.func159,Tryz.ntmps159
  go_wp2_with fail
  refine (Hla.out _).mono ?_
  rintro e w1 ⟨rfl,hb1⟩
  have hB1:Below w.heap.size w w1:=((Below.refl _ w).alloc (Nat.le_refl _) _).trans (hb1.mono (by simp))
  have HB1:=Lib.hid hB1;clear hb1 hB1
  go_wp2_with fail
  clear hq
  go_loopw [9,10] (fun v i wr => ∃ k:Nat,k ≤ Y0 ∧ i = .int .i64 k ∧ wr.ownsRow w.heap.size 2 1 v k (nums .i64 (upTo k fun i => wrap64 (nth a i - nth y i))) ∧ Below w.heap.size w wr) (fun _ i _ => Y0 - (intOf i).toNat)
  case atStart => exact ⟨0,Nat.zero_le _,rfl,World.ownsRow_nil _ _ _ _,HB1.out⟩
  case round =>
    obtain ⟨k,hk,rfl,hown,hW⟩:=hrel
    obtain ⟨Al,cl,rfl,hcl⟩:=own_form hown
    by_cases hlt:k < Y0
    · obtain ⟨ba,oa,rfl,p1⟩:=He3.out.num (show k < a.length by rw [Hvl.out];exact hlt)
      obtain ⟨by0,oy,rfl,p2⟩:=HY.out.num (show k < y.length by rw [HY0.out];exact hlt)
      have l1:ba < w.heap.size:=lt_of_cell p1
      have l2:by0 < w.heap.size:=lt_of_cell p2
      have s1:=(hW.cell (p:=⟨bo,oo + (L - 1),none⟩) hbo).trans pv
      have s2:=(hW.cell (p:=⟨ba,oa + k,none⟩) l1).trans p1
      have s3:=(hW.cell (p:=⟨by0,oy + k,none⟩) l2).trans p2
      have hz:=hW.size
      have Hown:=Lib.hid hown;have HW:=Lib.hid hW;clear hown hW p1 p2
      have hki:(k:Int) < Y0:=by omega
      go_wp2_with fail
      have hSw:(fun w':World => w'.cell? ⟨bo,oo + (L - 1),none⟩ = some (.slice (some ⟨ba,oa,none⟩) Y0 cj) ∧ w'.cell? ⟨ba,oa + k,none⟩ = some (.int .i64 (nth a k)) ∧ w'.cell? ⟨by0,oy + k,none⟩ = some (.int .i64 (nth y k))) wr.drew:=⟨s1,s2,s3⟩
      refine HA.g (fun w':World => w'.cell? ⟨bo,oo + (L - 1),none⟩ = some (.slice (some ⟨ba,oa,none⟩) Y0 cj) ∧ w'.cell? ⟨ba,oa + k,none⟩ = some (.int .i64 (nth a k)) ∧ w'.cell? ⟨by0,oy + k,none⟩ = some (.int .i64 (nth y k))) ?_
      refine HA.t ?_ [0,1,2,3,4,5,6,7,8,9,10,11,12] hSw ?_
      refine HA.o 13 (fun K hK => ?_)
      go_simp
      refine hK.out _ _ ⟨cell_alloc hSw.1 _,cell_alloc hSw.2.1 _,cell_alloc hSw.2.2 _⟩ (fun hSw => ?_)
      clear hK K
      refine HA.o 14 (fun K hK => ?_)
      refine step_appX et_i64s (.tmp 25) (.tmp 38) rfl rfl w.heap.size (.slice Al k cl) k _ rfl (own_drewN (Hown.out.alloc _) 1) (some ⟨wr.heap.size,0,none⟩) 1 1 [.int .i64 (IntKind.i64.wrap (nth a k - nth y k))] rfl (rd_newN wr _ _ _ rfl) rfl (by simp [Value.oneCell']) (by omega) (by unfold maxLen;omega) (by simp;omega) ?_
      intro A4 c4 w4 ho4 hb4 hg4 hv4
      have hS4:=And.intro ((hb4.cell (p:=⟨bo,oo + (L - 1),none⟩) hbo).trans hSw.1) (And.intro ((hb4.cell (p:=⟨ba,oa + k,none⟩) l1).trans hSw.2.1) ((hb4.cell (p:=⟨by0,oy + k,none⟩) l2).trans hSw.2.2))
      have hB4:Below w.heap.size w w4:=((HW.out.alloc hz _).drew).trans hb4
      have Ho4:=Lib.hid ho4;have HB4:=Lib.hid hB4;clear ho4 hb4 hg4 hv4 hB4 hSw
      dsimp only
      refine hK.out _ _ hS4 (fun hSw => ?_)
      clear hK K hS4
      refine HA.t ?_ [15] hSw ?_
      refine HA.d ?_
      clear hSw s1 s2 s3
      go_wp2_with fail
      go_roundw
      case rel =>
        have e9:IntKind.i64.wrap (nth a k - nth y k) = wrap64 (nth a k - nth y k):=by rw [IntKind.wrap_i64,wrap64]
        have ho4:=Ho4.out
        rw [e9] at ho4
        exact ⟨k + 1,by omega,by go_num,by rw [upTo_succ,nums_append];exact ho4,HB4.out⟩
      case measure => simp [intOf];omega
    · obtain rfl:k = Y0:=by omega
      have Hown:=Lib.hid hown;have HW:=Lib.hid hW;clear hown hW
      go_wp2_with fail
      go_ret
      exact ⟨_,_,rfl,Hown.out,HW.out⟩
set_option maxRecDepth 100000 in
set_option maxHeartbeats 2000000 in
theorem rerr_step (j:Nat) (As Ap Y V:Option Addr) (sz ps x y:List Int) (cs cp cy cv:Nat) (q:Int) (vals:List Value) (w:World) (h:RNet w As Ap sz ps cs) (hx:x.length = szN sz 0) (wx:W64 x)
    (hV:Rd w V vals) (hva:VecsAt w vals sz.length (valL sz ps q x)) (hj:j + 2 ≤ sz.length)
    (ih:∀ w',Below w.heap.size w w' → Calls Tryz.prog 159 #[.agg #[.slice As sz.length cs,.slice Ap ps.length cp,.int .i64 q],.int .i64 ((sz.length - 1 - j:Nat):Int),.slice V sz.length cv,.slice Y y.length cy] w' fun e w2 => ∃ A c,e = .returned (.slice A (szN sz (sz.length - 1 - j)) c) ∧ w2.ownsRow w'.heap.size 2 1 (.slice A (szN sz (sz.length - 1 - j)) c) (szN sz (sz.length - 1 - j)) (nums .i64 (errD sz ps q x y j)) ∧ Below w'.heap.size w' w2) :
    Calls Tryz.prog 159 #[.agg #[.slice As sz.length cs,.slice Ap ps.length cp,.int .i64 q],.int .i64 ((sz.length - 2 - j:Nat):Int),.slice V sz.length cv,.slice Y y.length cy] w fun e w2 => ∃ A c,e = .returned (.slice A (szN sz (sz.length - 2 - j)) c) ∧ w2.ownsRow w.heap.size 2 1 (.slice A (szN sz (sz.length - 2 - j)) c) (szN sz (sz.length - 2 - j)) (nums .i64 (errD sz ps q x y (j + 1))) ∧ Below w.heap.size w w2:=by
  have hl16:=h.hg.1.1
  have hla:=fun w' => rlast_any As Ap sz.length ps.length cs cp q w' (by omega)
  obtain ⟨k,hk⟩:∃ k,sz.length - 2 - j = k:=⟨_,rfl⟩
  have hk1:sz.length - 1 - j = k + 1:=by omega
  have hkl:k + 1 < sz.length:=by omega
  rw [hk1] at ih
  have z0:=h.hg.1.at (k:=k) (by omega)
  have z1:=h.hg.1.at hkl
  obtain ⟨Ak,ck,e1,e2,e3⟩:=hva.2 k (by omega)
  have hvl:=valL_len (sz:=sz) (ps:=ps) (q:=q) hx k
  rw [hvl] at e1
  obtain ⟨bo,oo,rfl,pv⟩:=hV _ _ e1
  have hbo:bo < w.heap.size:=lt_of_cell pv
  have hel:=errD_len (sz:=sz) (ps:=ps) (q:=q) (x:=x) (y:=y) hx j
  rw [hk1] at hel
  have wel:=errD_W64 sz ps q x y j
  have hel2:=errD_len (sz:=sz) (ps:=ps) (q:=q) (x:=x) (y:=y) hx (j + 1)
  rw [show sz.length - 1 - (j + 1) = k by omega] at hel2
  have hst:=fun c (hc:c < szN sz k) => err_step (sz:=sz) (ps:=ps) (q:=q) (x:=x) (y:=y) (j:=j) (c:=c) hx hj (by rw [hk];exact hc)
  have hwe:=fun r c (hr:r < szN sz (k + 1)) (hc:c < szN sz k) w' (hb:Below w.heap.size w w') => rweight_any As Ap sz ps cs cp k r c q w' (h.below hb) hkl hr hc
  obtain ⟨b,o,rfl,p0⟩:=h.hA.num (show k < sz.length by omega)
  rw [z0.2.2] at p0
  have hbl:b < w.heap.size:=lt_of_cell p0
  have WP:=Lib.hid h.wp
  rw [hk] at hst ⊢
  obtain ⟨ev,hev⟩:∃ ev,errD sz ps q x y j = ev:=⟨_,rfl⟩
  obtain ⟨en,hen⟩:∃ en,errD sz ps q x y (j + 1) = en:=⟨_,rfl⟩
  obtain ⟨vv,hvv⟩:∃ vv,valL sz ps q x k = vv:=⟨_,rfl⟩
  obtain ⟨L,hL⟩:∃ L,sz.length = L:=⟨_,rfl⟩
  obtain ⟨m,hm⟩:∃ m,ps.length = m:=⟨_,rfl⟩
  obtain ⟨Y0,hY0⟩:∃ Y0,y.length = Y0:=⟨_,rfl⟩
  obtain ⟨r1,hr1⟩:∃ r1,szN sz (k + 1) = r1:=⟨_,rfl⟩
  obtain ⟨c1,hc1⟩:∃ c1,szN sz k = c1:=⟨_,rfl⟩
  rw [hev] at hel wel hst ih
  rw [hen] at hel2 hst ⊢
  rw [hvv] at e3 hvl hst
  rw [hL] at hla hl16 hkl ih hwe hj ⊢
  rw [hm] at hla ih hwe ⊢
  rw [hY0] at ih ⊢
  rw [hr1] at hel ih hwe z1
  rw [hc1] at hvl hel2 pv p0 hst hwe z0 ⊢
  rw [hel] at hst
  have Hla:=Lib.hid hla;have Hvl:=Lib.hid hvl;have He3:=Lib.hid e3;have Hih:=Lib.hid ih;have Hel:=Lib.hid hel;have WEL:=Lib.hid wel;have Hel2:=Lib.hid hel2;have Hst:=Lib.hid hst;have Hwe:=Lib.hid hwe;have Hc1:=Lib.hid hc1
  clear hla hvl e3 ih hel wel hel2 hst hwe h hx hV hva hev hen hvv hL hm hY0 hr1 hc1 e1 e2 hk hk1
  have hne:((k:Int) == ((L - 1:Nat):Int)) = false:=by simp;omega
  have hkL:k < L:=by omega
  have hkI:(k:Int) < L:=by omega
  go_enter Tryz.func159,Tryz.ntmps159
  go_wp2_with fail
  refine (Hla.out _).mono ?_
  rintro e w1 ⟨rfl,hb1⟩
  have hbx1:=(hb1.block w.heap.size (by simp)).trans (heap_alloc_new w (.cells #[.slice (some ⟨b,o,none⟩) L cs,.slice Ap m cp,.int .i64 q] 214))
  have hB1:Below w.heap.size w w1:=((Below.refl _ w).alloc (Nat.le_refl _) _).trans (hb1.mono (by simp))
  obtain ⟨⟨y0,y1,y2⟩,yf⟩:=bx3 hbx1
  have HB1:=Lib.hid hB1;have Hbx1:=Lib.hid hbx1;clear hb1 hB1 hbx1
  go_wp2_with fail
  refine (Hih.out w1 HB1.out).mono ?_
  rintro e w2 ⟨A2,c2,rfl,ho2,hb2⟩
  have hbx2:=(hb2.block _ (lt_of_block Hbx1.out)).trans Hbx1.out
  have hB2:=HB1.out.trans (hb2.mono HB1.out.size)
  have hrd2:=Rd.own ho2
  clear y0 y1 y2 yf hne
  obtain ⟨⟨y0,y1,y2⟩,yf⟩:=bx3 hbx2
  have hbxl:w.heap.size < w2.heap.size:=lt_of_block hbx2
  have HB2:=Lib.hid hB2;have Hbx2:=Lib.hid hbx2;have Hrd2:=Lib.hid hrd2;clear ho2 hb2 hB2 hbx2 hrd2
  go_wp2_with fail
  go_loopw [9,12] (fun v i wr => ∃ c:Nat,c ≤ c1 ∧ i = .int .i64 c ∧ wr.ownsRow w2.heap.size 2 1 v c (nums .i64 (en.take c)) ∧ Below w2.heap.size w2 wr) (fun _ i _ => c1 - (intOf i).toNat)
  case atStart => exact ⟨0,Nat.zero_le _,rfl,World.ownsRow_nil _ _ _ _,Below.refl _ _⟩
  case round =>
    obtain ⟨wq,rfl⟩:∃ wq:World,wq = wr:=⟨_,rfl⟩
    obtain ⟨c,hc,rfl,hown,hbq⟩:=hrel
    obtain ⟨Al,cl,rfl,hcl⟩:=own_form hown
    have x0:=(hbq.cell (p:=⟨w.heap.size,0,none⟩) hbxl).trans y0
    have hbwq:=HB2.out.trans (hbq.mono HB2.out.size)
    have p0q:=(hbwq.cell (p:=⟨b,o + k,none⟩) hbl).trans p0
    have hz2:w2.heap.size ≤ wq.heap.size:=hbq.size
    have Hown:=Lib.hid hown;have Hbq:=Lib.hid hbq;have Hbwq:=Lib.hid hbwq;clear hown hbq hbwq
    by_cases hlc:c < c1
    · have hst:=Hst.out c hlc
      have Hst2:=Lib.hid hst;clear hst
      go_wp2_with fail
      go_loopw [13,14] (fun s i wx => ∃ r:Nat,r ≤ r1 ∧ i = .int .i64 r ∧ s = .int .i64 (esumN sz ps q k c ev r) ∧ Below wq.heap.size wq wx) (fun _ i _ => r1 - (intOf i).toNat)
      case atStart => exact ⟨0,Nat.zero_le _,rfl,rfl,Below.refl _ _⟩
      case round =>
        obtain ⟨wo,rfl⟩:∃ wo:World,wo = wr:=⟨_,rfl⟩
        obtain ⟨r,hr,rfl,rfl,hbx⟩:=hrel
        have hb2x:=Hbq.out.trans (hbx.mono Hbq.out.size)
        have hbwx:=HB2.out.trans (hb2x.mono HB2.out.size)
        by_cases hlr:r < r1
        · obtain ⟨be,oe,rfl,pe⟩:=Hrd2.out.num (show r < ev.length by rw [Hel.out];exact hlr)
          have hbe:be < w2.heap.size:=lt_of_cell pe
          have per:=(hb2x.cell (p:=⟨be,oe + r,none⟩) hbe).trans pe
          have x0r:=(hb2x.cell (p:=⟨w.heap.size,0,none⟩) hbxl).trans y0
          have x1r:=(hb2x.cell (p:=⟨w.heap.size,1,none⟩) hbxl).trans y1
          have x2r:=(hb2x.cell (p:=⟨w.heap.size,2,none⟩) hbxl).trans y2
          have hwk:=Hwe.out r c hlr hlc wo.drew hbwx.drew
          have hmu:=fun w' => refMul (nth ps (cntN sz k + r * c1 + c)) (nth ev r) q w' (WP.out.nth _) (WEL.out.nth _)
          have Hwk:=Lib.hid hwk;have Hmu:=Lib.hid hmu;have Hbx:=Lib.hid hbx
          clear hwk hmu hbx pe hb2x hbwx
          have hri:(r:Int) < r1:=by omega
          go_wp2_with fail
          go_region_held3 (fun w' => w'.cell? ⟨w.heap.size,0,none⟩ = some (.slice (some ⟨b,o,none⟩) L cs) ∧ w'.cell? ⟨w.heap.size,1,none⟩ = some (.slice Ap m cp) ∧ w'.cell? ⟨w.heap.size,2,none⟩ = some (.int .i64 q) ∧ w'.cell? ⟨be,oe + r,none⟩ = some (.int .i64 (nth ev r))) (simp [go_sem, *])
            ((first | (go_at_call 186;refine Hwk.out.mono ?_;rintro e w3 ⟨rfl,hb3⟩;have g0:=cell_below hb3 x0r;have g1:=cell_below hb3 x1r;have g2:=cell_below hb3 x2r;have g3:=cell_below hb3 per;have hB3:=Hbx.out.trans (((Below.refl wo.heap.size wo).drew.trans hb3).mono Hbx.out.size);have HB3:=Lib.hid hB3;clear hb3 hB3) | (go_at_call 128;refine (Hmu.out _).mono ?_;rintro e w4 ⟨rfl,rfl⟩)))
          go_wp2_with fail
          go_roundw
          case rel => exact ⟨r + 1,by omega,by go_num,by rw [IntKind.wrap_i64,esumN,wrap64,Hc1.out],HB3.out⟩
          case measure => simp [intOf];omega
        · obtain rfl:r = r1:=by omega
          obtain ⟨ba,oa,rfl,pa⟩:=He3.out.num (show c < vv.length by rw [Hvl.out];exact hlc)
          have hba:ba < w.heap.size:=lt_of_cell pa
          have pax:=(hbwx.cell (p:=⟨ba,oa + c,none⟩) hba).trans pa
          have pvx:=(hbwx.cell (p:=⟨bo,oo + k,none⟩) hbo).trans pv
          have hownx:=own_below Hown.out hbx
          have hzx:=hbx.size
          have htk:=take_succ_nth en c (by rw [Hel2.out];exact hlc)
          have Hbx:=Lib.hid hbx;have Hownx:=Lib.hid hownx;have Htk:=Lib.hid htk;have Hb2x:=Lib.hid hb2x
          clear hbx hownx htk pa hb2x hbwx
          have hci:(c:Int) < c1:=by omega
          go_wp2_with fail
          refine (rgate_any _ _ _).mono ?_
          rintro e w7 ⟨rfl,rfl⟩
          rw [← Hst2.out]
          go_wp2_with (at_builtin;refine wpList_push et_i64s wo rfl (.tmp 76) (.tmp 86) rfl w2.heap.size (.slice Al c cl) c _ rfl Hownx.out [.int .i64 (nth en c)] rfl rfl (by simp [Value.oneCell']) (by omega) (by unfold maxLen;omega) (by omega) ?_)
          intro g7 c7 w7 ho7 hb7 hg7
          have hB7:=Hb2x.out.trans hb7
          have HO7:=Lib.hid ho7;have HB7:=Lib.hid hB7;clear ho7 hb7 hg7 hB7
          go_wp2_with fail
          go_roundw
          case rel => exact ⟨c + 1,by omega,by go_num,by rw [Htk.out,nums_append];exact HO7.out,HB7.out⟩
          case measure => simp [intOf];omega
    · obtain rfl:c = c1:=by omega
      have hfull:=Hown.out
      rw [List.take_of_length_le (by rw [Hel2.out];exact Nat.le_refl _)] at hfull
      have Hf:=Lib.hid (own_base hfull (base':=w.heap.size) (by have:=HB2.out.size;omega));clear hfull
      go_wp2_with fail
      go_ret
      exact ⟨_,_,rfl,Hf.out,Hbwq.out⟩
theorem rerr_any (As Ap Y V:Option Addr) (sz ps x y:List Int) (cs cp cy cv:Nat) (q:Int) (vals:List Value) (hx:x.length = szN sz 0) (wx:W64 x) (hy:y.length = szN sz (sz.length - 1)) :
    ∀ (j:Nat) (w:World),j + 1 ≤ sz.length → RNet w As Ap sz ps cs → Rd w Y (nums .i64 y) → Rd w V vals → VecsAt w vals sz.length (valL sz ps q x) →
      Calls Tryz.prog 159 #[.agg #[.slice As sz.length cs,.slice Ap ps.length cp,.int .i64 q],.int .i64 ((sz.length - 1 - j:Nat):Int),.slice V sz.length cv,.slice Y y.length cy] w fun e w2 => ∃ A c,e = .returned (.slice A (szN sz (sz.length - 1 - j)) c) ∧ w2.ownsRow w.heap.size 2 1 (.slice A (szN sz (sz.length - 1 - j)) c) (szN sz (sz.length - 1 - j)) (nums .i64 (errD sz ps q x y j)) ∧ Below w.heap.size w w2:=by
  intro j
  induction j with
  | zero =>
    intro w _ h hY hV hva
    have:=rerr_last As Ap Y V sz ps x y cs cp cy cv q vals w h hx hY hy hV hva
    rw [Nat.sub_zero,← hy]
    exact this
  | succ j ih =>
    intro w hj h hY hV hva
    have:=rerr_step j As Ap Y V sz ps x y cs cp cy cv q vals w h hx wx hV hva (by omega) (fun w' hb => ih w' (by omega) (h.below hb) (hY.below hb) (hV.below hb) (hva.below hb))
    rw [show sz.length - 1 - (j + 1) = sz.length - 2 - j by omega]
    exact this
end Go.Proofs.YtaccfnffmbndhaaGreat
