/- The walk of sakiaref09.Gradient. The reference's Gradient of a run. The reference's draw. No condition. -/
import Derived.Test.YtaccfnffmbndhaaGreatB32
import Derived.Test.YtaccfnffmbndhaaGreatB33
import Derived.Test.YtaccfnffmbndhaaGreatB04
import Derived.Test.YtaccfnffmbndhaaGreatB22
import Derived.Deep.RegionHeld3
import Derived.Test.YtaccfnffmbndhaaGreatB17
set_option linter.unusedSimpArgs false
set_option linter.unusedVariables false
namespace Go.Proofs.YtaccfnffmbndhaaGreat
open Go.RowKit
def RGradI (sz ps:List Int) (q:Int) (x y:List Int) (B:Nat) (k:Nat) (v:Value) (BX:Obj) (w0 w2 w:World):Prop:=
  ∃ A c vals,v = .slice A k c ∧ w.ownsRow w2.heap.size 26 1 (.slice A k c) k vals ∧
    (∀ j,1 ≤ j → j < k → ∃ Aj cj,vals[j]? = some (.slice Aj (szN sz j) cj) ∧ w.ownsRow w2.heap.size 2 1 (.slice Aj (szN sz j) cj) (szN sz j) (nums .i64 (errD sz ps q x y (sz.length - 1 - j)))) ∧ Below w2.heap.size w2 w
theorem quiet_more {P:Program} {f:FuncId} {args:Array Value} {W:World} {a n:Nat} {v:Value} (h:∀ w',Calls P f args w' fun e w'' => e = .returned v ∧ w' = w''):Calls P f args (W.drewN (a + n)) fun e w'' => e = .returned v ∧ ∃ m,w'' = W.drewN (a + m):=
  (h _).mono fun _ _ h => ⟨h.1,n,h.2.symm⟩
set_option maxRecDepth 100000 in
set_option maxHeartbeats 2000000 in
theorem rgrad_any (As Ap X Y:Option Addr) (sz ps x y:List Int) (cs cp cx cy:Nat) (q:Int) (w:World) (h:RNet w As Ap sz ps cs) (hX:Rd w X (nums .i64 x)) (hx:x.length = szN sz 0) (wx:W64 x) (hcx:x.length ≤ cx) (hY:Rd w Y (nums .i64 y)) (hy:y.length = szN sz (sz.length - 1)) :
    Calls Tryz.prog 121 #[.agg #[.slice As sz.length cs,.slice Ap ps.length cp,.int .i64 q],.slice X x.length cx,.slice Y y.length cy] w fun e w' => ∃ A' c',e = .returned (.slice A' (cntN sz (sz.length - 1)) c') ∧ Rd w' A' (nums .i64 (gradL sz ps q x y)) ∧ Below w.heap.size w w':=by
  have hl16:=h.hg.1.1
  have hgl:=gradL_eq (sz:=sz) (ps:=ps) (q:=q) (x:=x) (y:=y) hx (by omega)
  have hpl:=plL_len sz (sz.length - 1)
  have hla:=fun w' => rlast_any As Ap sz.length ps.length cs cp q w' (by omega)
  have htr:=fun w' (hb:Below w.heap.size w w') => rtrace_any As Ap X sz ps x cs cp cx q w' (h.below hb) (hX.below hb) hx wx hcx
  have hpa:=fun w' (hb:Below w.heap.size w w') => rplaces_any As sz cs w' (h.hA.below hb) h.hg
  have her:=fun j V cv vals w' (hb:Below w.heap.size w w') (hj:j + 1 ≤ sz.length) (hV:Rd w' V vals) (hva:VecsAt w' vals sz.length (valL sz ps q x)) => rerr_any As Ap Y V sz ps x y cs cp cy cv q vals hx wx hy j w' hj (h.below hb) (hY.below hb) hV hva
  have hcb:=h.hg.2
  have hG:=h.hg
  rw [hgl]
  obtain ⟨L,hL⟩:∃ L,sz.length = L:=⟨_,rfl⟩
  obtain ⟨m,hm⟩:∃ m,ps.length = m:=⟨_,rfl⟩
  obtain ⟨Y0,hY0⟩:∃ Y0,y.length = Y0:=⟨_,rfl⟩
  obtain ⟨X0,hX0⟩:∃ X0,x.length = X0:=⟨_,rfl⟩
  rw [hL] at hla htr her hpa hl16 hpl hcb ⊢
  rw [hm] at hla htr her ⊢
  rw [hY0] at her ⊢
  rw [hX0] at htr ⊢
  obtain ⟨N,hN⟩:∃ N,cntN sz (L - 1) = N:=⟨_,rfl⟩
  rw [hN] at hpa hpl hcb ⊢
  have Hla:=Lib.hid hla;have Htr:=Lib.hid htr;have Her:=Lib.hid her;have Hpa:=Lib.hid hpa;have Hpl:=Lib.hid hpl;have HG:=Lib.hid hG;have HL:=Lib.hid hL;have Hx:=Lib.hid hx;have WX:=Lib.hid wx
  clear hla htr her hpa hpl hG hX hx wx hcx hY hy hgl hL hm hY0 hX0 hN h
  go_enter Tryz.func121,Tryz.ntmps121
  go_wp2_with fail
  refine (Htr.out _ ?_).mono ?_
  · (focus (repeat' (first | (with_reducible exact Below.refl _ _) | (with_reducible assumption) | (with_reducible refine Below.setCell ?_ ?_ _) | (with_reducible refine Below.alloc ?_ ?_ _) | (with_reducible refine below_drewN ?_ _) | (with_reducible refine Below.drew ?_) | (with_reducible exact Nat.le_refl _) | omega | (simp;done) | (simp;omega))))
  rintro e w1 ⟨V,cv,vals,rfl,hV,hva,hcv,hb1⟩
  have hbx1:=(hb1.block w.heap.size (by simp)).trans (heap_alloc_new w (.cells #[.slice As L cs,.slice Ap m cp,.int .i64 q] 214))
  have hB1:Below w.heap.size w w1:=((Below.refl _ w).alloc (Nat.le_refl _) _).trans (hb1.mono (by simp))
  obtain ⟨⟨z0,z1,z2⟩,zf⟩:=bx3 hbx1
  have HB1:=Lib.hid hB1;have Hbx1:=Lib.hid hbx1;have HV1:=Lib.hid hV;have Hva1:=Lib.hid hva;clear hb1 hbx1 hB1 hV hva hcv
  go_wp2_with fail
  refine (Hpa.out _ HB1.out).mono ?_
  rintro e w2 ⟨Pa,pc,rfl,hop,hb2⟩
  have hbx2:=(hb2.block _ (lt_of_block Hbx1.out)).trans Hbx1.out
  have hB2:=HB1.out.trans (hb2.mono HB1.out.size)
  have hV2:=HV1.out.below hb2
  have hva2:=Hva1.out.below hb2
  have hrp:=Rd.own hop
  clear z0 z1 z2 zf
  obtain ⟨⟨z0,z1,z2⟩,zf⟩:=bx3 hbx2
  have hbxl:w.heap.size < w2.heap.size:=lt_of_block hbx2
  have HB2:=Lib.hid hB2;have Hbx2:=Lib.hid hbx2;have HV2:=Lib.hid hV2;have Hva2:=Lib.hid hva2;have Hrp:=Lib.hid hrp;clear hb2 hbx2 hB2 hV2 hva2 hop hrp
  go_wp2_with fail
  go_loopw [9,10] (fun v i wr => ∃ k:Nat,k ≤ L ∧ i = .int .i64 k ∧ RGradI sz ps q x y w.heap.size k v (.cells #[] 0 (0,0)) w w2 wr) (fun _ i _ => L - (intOf i).toNat)
  case atStart => exact ⟨0,Nat.zero_le _,rfl,none,0,[],rfl,World.ownsRow_nil _ _ _ _,fun j h1 h2 => by omega,Below.refl _ _⟩
  case round =>
    obtain ⟨wq,rfl⟩:∃ wq:World,wq = wr:=⟨_,rfl⟩
    obtain ⟨k,hk,rfl,Aa,ca,av,rfl,hoa,hav,hWq⟩:=hrel
    have x0:=(hWq.cell (p:=⟨w.heap.size,0,none⟩) hbxl).trans z0
    have x1:=(hWq.cell (p:=⟨w.heap.size,1,none⟩) hbxl).trans z1
    have x2:=(hWq.cell (p:=⟨w.heap.size,2,none⟩) hbxl).trans z2
    have Hoa:=Lib.hid hoa;have Hav:=Lib.hid hav;have HWq:=Lib.hid hWq;clear hoa hav hWq
    by_cases hlt:k < L
    · have hle:(k:Int) ≤ ((L - 1:Nat):Int):=by omega
      go_wp2_with fail
      refine (Hla.out _).mono ?_
      rintro e w3 ⟨rfl,hb3⟩
      have hB23:=HWq.out.trans (hb3.mono HWq.out.size)
      have hoa3:=own_below Hoa.out hb3
      have hz3:=hB23.size
      clear x0 x1 x2
      have HB23:=Lib.hid hB23;have Hoa3:=Lib.hid hoa3;have Hb3:=Lib.hid hb3;clear hb3 hB23 hoa3
      go_wp2_with (at_builtin;refine wpList_push et_vvs w3 rfl (.tmp 27) (.tmp 28) rfl w2.heap.size (.slice Aa k ca) k av rfl Hoa3.out [.slice none 0 0] rfl rfl (by simp [Value.oneCell']) (by omega) (by unfold maxLen;omega) hz3 ?_)
      intro g4 c4 w4 ho4 hb4 hg4
      have hB4:=HB23.out.trans hb4
      have havl:=Hoa.out.1
      have hkeep:∀ {mm:Nat} {u:Value} {ys:List Value} {b0:Nat},w3.ownsRow b0 2 1 u mm ys → w4.ownsRow b0 2 1 u mm ys:=fun h => h.kept hg4 (by
        rename_i u _ _
        cases hu:u.ownBlock with
        | none => exact .inl rfl
        | some i => exact .inr fun e9 => own_types Hoa3.out h (by decide) i e9.symm hu)
      have hav4:∀ j,1 ≤ j → j < k → ∃ Aj cj,(av ++ [Value.slice none 0 0])[j]? = some (.slice Aj (szN sz j) cj) ∧ w4.ownsRow w2.heap.size 2 1 (.slice Aj (szN sz j) cj) (szN sz j) (nums .i64 (errD sz ps q x y (sz.length - 1 - j))):=fun j h1 h2 => by
        obtain ⟨Aj,cj,e1,e2⟩:=Hav.out j h1 h2
        exact ⟨Aj,cj,by rw [List.getElem?_append_left (by omega)];exact e1,hkeep (own_below e2 Hb3.out)⟩
      have Ho4:=Lib.hid ho4;have HB4:=Lib.hid hB4;have Hav4:=Lib.hid hav4;clear ho4 hb4 hg4 hB4 hav4
      have y0:=(HB4.out.cell (p:=⟨w.heap.size,0,none⟩) hbxl).trans z0
      have y1:=(HB4.out.cell (p:=⟨w.heap.size,1,none⟩) hbxl).trans z1
      have y2:=(HB4.out.cell (p:=⟨w.heap.size,2,none⟩) hbxl).trans z2
      by_cases hk0:k = 0
      · have hk0i:¬ (0:Int) < (k:Int):=by omega
        go_wp2_with fail
        go_roundw
        case rel => exact ⟨k + 1,by omega,by go_num,some ⟨g4,0,none⟩,c4,_,rfl,Ho4.out,fun j h1 h2 => by omega,HB4.out⟩
        case measure => simp [intOf];omega
      · have hk0i:(0:Int) < (k:Int):=by omega
        have hkp:0 < k:=by omega
        have her4:=Her.out (L - 1 - k) V cv vals w4 (HB2.out.trans (HB4.out.mono HB2.out.size)) (by omega) (HV2.out.below HB4.out) (Hva2.out.below HB4.out)
        rw [show L - 1 - (L - 1 - k) = k by omega] at her4
        have Her4:=Lib.hid her4;clear her4
        have hwk:k < k + 1:=Nat.lt_succ_self k
        have hwk2:(k:Int) < (k:Int) + 1:=by omega
        go_wp2_with fail
        refine Her4.out.mono ?_
        rintro e w5 ⟨A5,c5,rfl,ho5,hb5⟩
        have hB5:=HB4.out.trans (hb5.mono HB4.out.size)
        have hoa5:=own_below Ho4.out hb5
        have hz4:=HB4.out.size
        have q0:=hoa5.cellAt k (by omega)
        have qk:(av ++ [Value.slice none 0 0])[k]? = some (.slice none 0 0):=by
          have:=Ho4.out.1
          rw [List.getElem?_append_right (by simp at this;omega)]
          simp at this
          simp [show av.length = k by omega]
        rw [qk] at q0
        have qf:=hoa5.frozenAt k
        have hst:=(hoa5.stored k (.slice A5 (szN sz k) c5)).1
        have Hst:=Lib.hid hst;have HB5:=Lib.hid hB5;have Ho5:=Lib.hid ho5;have Hb5:=Lib.hid hb5;have Hoa5:=Lib.hid hoa5;have Hqk:=Lib.hid qk
        clear hst hB5 ho5 hb5 hoa5 qk y0 y1 y2
        go_wp2_with fail
        have hsk:Keep (fun i => i = g4) w5 (w5.setCell ⟨g4,k,none⟩ (.slice A5 (szN sz k) c5)):=Keep.setCell (S:=fun i => i = g4) (Keep.refl _ _) ⟨g4,k,none⟩ (.inr rfl) _
        have hkeep2:∀ {mm:Nat} {u:Value} {ys:List Value} {b0:Nat},w5.ownsRow b0 2 1 u mm ys → (w5.setCell ⟨g4,k,none⟩ (.slice A5 (szN sz k) c5)).ownsRow b0 2 1 u mm ys:=fun h => hsk.own h (fun i hi e9 => by
          subst e9
          exact own_types Hoa5.out h (by decide) i rfl hi)
        go_roundw
        case rel =>
          refine ⟨k + 1,by omega,by go_num,some ⟨g4,0,none⟩,c4,_,rfl,Hst.out,fun j h1 h2 => ?_,HB5.out.trans (hsk.toBelow HB5.out.size (fun i hi => by subst hi;exact (Ho4.out.lt i rfl).1))⟩
          have hl9:(av ++ [Value.slice none 0 0]).length = k + 1:=by have:=Ho4.out.1;simpa using this
          rcases Nat.lt_or_ge j k with hjk | hjk
          · obtain ⟨Aj,cj,e1,e2⟩:=Hav4.out j h1 hjk
            refine ⟨Aj,cj,?_,hkeep2 (own_below e2 Hb5.out)⟩
            rw [List.getElem?_set_ne (by omega)];exact e1
          · obtain rfl:j = k:=by omega
            refine ⟨A5,c5,?_,?_⟩
            · rw [List.getElem?_set_self (by omega)]
            · have:=hkeep2 (own_base Ho5.out (base':=w2.heap.size) hz4)
              rw [HL.out];exact this
        case measure => simp [intOf];omega
    · obtain rfl:k = L:=by omega
      have hle:¬ ((k:Int) ≤ ((k - 1:Nat):Int)):=by omega
      have hLp:1 ≤ k:=by omega
      go_wp2_with fail
      refine (Hla.out _).mono ?_
      rintro e w3 ⟨rfl,hb3⟩
      obtain ⟨ga,ca',hva',hga,_⟩:=Hoa.out.form (by omega)
      simp only [Value.slice.injEq] at hva'
      obtain ⟨rfl,hvx,rfl⟩:=hva'
      clear hvx
      have hB23:=HWq.out.trans (hb3.mono HWq.out.size)
      have hoa3:=own_below Hoa.out hb3
      have hav3:∀ j,1 ≤ j → j < k → ∃ Aj cj,av[j]? = some (.slice Aj (szN sz j) cj) ∧ w3.ownsRow w2.heap.size 2 1 (.slice Aj (szN sz j) cj) (szN sz j) (nums .i64 (errD sz ps q x y (sz.length - 1 - j))):=fun j h1 h2 => by
        obtain ⟨Aj,cj,e1,e2⟩:=Hav.out j h1 h2
        exact ⟨Aj,cj,e1,own_below e2 hb3⟩
      have HB23:=Lib.hid hB23;have Hoa3:=Lib.hid hoa3;have Hav3:=Lib.hid hav3;clear hb3 hB23 hoa3 hav3 x0 x1 x2
      go_wp2_with fail
      have hdec:decide (k ≤ k - 1) = false:=decide_eq_false (by omega)
      rw [hdec]
      clear hdec
      go_loopw [11,12] (fun v i wr => ∃ t:Nat,t ≤ N ∧ i = .int .i64 t ∧ wr.ownsRow w3.heap.size 2 1 v t (nums .i64 (((plL sz (k - 1)).map (gAt sz ps q x y)).take t)) ∧ Below w3.heap.size w3 wr) (fun _ i _ => N - (intOf i).toNat)
      case atStart => exact ⟨0,Nat.zero_le _,rfl,World.ownsRow_nil _ _ _ _,Below.refl _ _⟩
      case round =>
        obtain ⟨wo,rfl⟩:∃ wo:World,wo = wr:=⟨_,rfl⟩
        obtain ⟨t,ht,rfl,hown,hbo⟩:=hrel
        obtain ⟨Al,cl,rfl,_⟩:=own_form hown
        have Hown:=Lib.hid hown;have Hbo:=Lib.hid hbo;clear hown hbo
        by_cases hlt:t < N
        · obtain ⟨pp,hpp⟩:∃ pp,(plL sz (k - 1))[t]? = some pp:=⟨_,List.getElem?_eq_getElem (by rw [Hpl.out];exact hlt)⟩
          have hmem:=plL_mem (List.mem_of_getElem? hpp)
          have hga2:nth ((plL sz (k - 1)).map (gAt sz ps q x y)) t = gAt sz ps q x y pp:=by
            unfold nth
            rw [List.getD_eq_getElem?_getD,List.getElem?_map,hpp]
            rfl
          have htk:=take_succ_nth ((plL sz (k - 1)).map (gAt sz ps q x y)) t (by rw [List.length_map,Hpl.out];exact hlt)
          rw [hga2] at htk
          obtain ⟨f0,f1,f2⟩:=plV_at _ _ _ hpp
          obtain ⟨bp,op,hPa,c0⟩:=Hrp.out _ _ f0
          obtain ⟨_,_,e',c1⟩:=Hrp.out _ _ f1
          rw [hPa] at e';injection e' with e';injection e' with i1 i2 _;subst i1;subst i2
          obtain ⟨_,_,e',c2⟩:=Hrp.out _ _ f2
          rw [hPa] at e';injection e' with e';injection e' with i1 i2 _;subst i1;subst i2
          subst hPa
          have hB2o:=HB23.out.trans (Hbo.out.mono HB23.out.size)
          have c0r:=cell_below hB2o c0
          have c1r:=cell_below hB2o c1
          have c2r:=cell_below hB2o c2
          rw [← Nat.add_assoc] at c1r c2r
          obtain ⟨K,R,C⟩:=pp
          dsimp only at hmem c0r c1r c2r
          obtain ⟨m1,m2,m3⟩:=hmem
          obtain ⟨A8,c8,g1,g2⟩:=Hav3.out (K + 1) (by omega) (by omega)
          obtain ⟨_,_,e8,p8⟩:=(Rd.own Hoa3.out) _ _ g1
          injection e8 with e8;injection e8 with i1 i2 _;subst i1;subst i2
          rw [Nat.zero_add] at p8
          have hel:=errD_len (sz:=sz) (ps:=ps) (q:=q) (x:=x) (y:=y) Hx.out (sz.length - 2 - K)
          have hL9:=HL.out
          rw [show sz.length - 1 - (sz.length - 2 - K) = K + 1 by omega] at hel
          rw [show sz.length - 1 - (K + 1) = sz.length - 2 - K by omega] at g2
          have wel:=errD_W64 sz ps q x y (sz.length - 2 - K)
          obtain ⟨b9,o9,rfl,p9⟩:=(Rd.own g2).num (show R < (errD sz ps q x y (sz.length - 2 - K)).length by rw [hel];exact m2)
          have p8o:=cell_below Hbo.out p8
          have p9o:=cell_below Hbo.out p9
          obtain ⟨A7,c7,h1,h2,h3⟩:=Hva2.out.2 K (by omega)
          have hvl:=valL_len (sz:=sz) (ps:=ps) (q:=q) Hx.out K
          rw [hvl] at h1
          obtain ⟨bv,ov,hVe,p7⟩:=HV2.out _ _ h1
          subst hVe
          have p7o:=cell_below hB2o p7
          have h3o:=h3.below hB2o
          have wvl:=valL_W64 (sz:=sz) (ps:=ps) (q:=q) WX.out K
          have hs1:=HG.out.1.at (k:=K + 1) (by omega)
          have hs0:=HG.out.1.at (k:=K) (by omega)
          have y2:=(hB2o.cell (p:=⟨w.heap.size,2,none⟩) hbxl).trans z2
          obtain ⟨ev,hev⟩:∃ ev,errD sz ps q x y (sz.length - 2 - K) = ev:=⟨_,rfl⟩
          obtain ⟨vv,hvv⟩:∃ vv,valL sz ps q x K = vv:=⟨_,rfl⟩
          obtain ⟨n1,hn1⟩:∃ n1,szN sz (K + 1) = n1:=⟨_,rfl⟩
          obtain ⟨n0,hn0⟩:∃ n0,szN sz K = n0:=⟨_,rfl⟩
          have hgv:gAt sz ps q x y (K,R,C) = if 0 ≤ C then mulQ (nth ev R) (nth vv C.toNat) q else nth ev R:=by unfold gAt;rw [hev,hvv]
          rw [hev] at p9o wel
          rw [hvv] at h3o wvl hvl
          rw [hn1] at p8o m2 hs1
          rw [hn0] at p7o m3 hs0 hvl
          have Hgv:=Lib.hid hgv;have Htk:=Lib.hid htk;have H3o:=Lib.hid h3o;have WEL:=Lib.hid wel;have WVL:=Lib.hid wvl;have Hvl:=Lib.hid hvl;have HB2o:=Lib.hid hB2o
          clear hgv htk h3o wel wvl hvl hB2o hga2 hpp f0 f1 f2 c0 c1 c2 g1 g2 p8 p9 h1 h2 h3 p7 hel hev hvv hn1 hn0 hL9
          have hti:(t:Int) < N:=by omega
          go_wp2_with fail
          have e1:IntKind.i64.wrap ((K:Int) + 1) = (K:Int) + 1:=IntWalk.i64_in _ (by omega)
          have e2:(K:Int) + 1 < k:=by omega
          have e3:K + 1 < k:=by omega
          have e4:(R:Int) < n1:=by omega
          have e5:(0:Int) ≤ (K:Int) + 1:=by omega
          have e6:((K:Int) + 1).toNat = K + 1:=by omega
          have e7:¬ ((K:Int) + 1 < 0):=by omega
          have e8:¬ ((k:Int) ≤ (K:Int) + 1):=by omega
          have l8:ga < wo.heap.size:=lt_of_cell p8o
          have l9:b9 < wo.heap.size:=lt_of_cell p9o
          have l7:bv < wo.heap.size:=lt_of_cell p7o
          have l2:w.heap.size < wo.heap.size:=lt_of_cell y2
          go_quiet (fail)
          have pb:=cell_alloc (W:=wo) (p:=⟨b9,o9 + R,none⟩) p9o (.cells #[.int .i64 (K:Int),.int .i64 (R:Int),.int .i64 C] 267)
          by_cases hC:0 ≤ C
          · obtain ⟨C1,rfl⟩:∃ C1:Nat,C = (C1:Int):=⟨C.toNat,by omega⟩
            have hC2:C1 < n0:=by omega
            have hC1:(C1:Int) < n0:=by omega
            have hC3:¬ ((C1:Int) < 0):=by omega
            obtain ⟨b7,o7,rfl,p6⟩:=H3o.out.num (show C1 < vv.length by rw [Hvl.out];exact hC2)
            have l6:b7 < wo.heap.size:=lt_of_cell p6
            have f3:(K:Int) < k:=by omega
            have f4:K < k:=by omega
            have hmu:=fun w' => refMul (nth ev R) (nth vv C1) q w' (WEL.out.nth _) (WVL.out.nth _)
            have Hmu:=Lib.hid hmu;clear hmu
            obtain ⟨na,rfl⟩:∃ na:Nat,na = nq:=⟨_,rfl⟩
            go_wp2_with fail
            go_quiet ((go_at_call 128;exact quiet_more Hmu.out))
            have hzw:w3.heap.size ≤ wo.heap.size:=Hbo.out.size
            have hsz9:=Lib.hid (show ((wo.alloc (.cells #[.int .i64 (K:Int),.int .i64 (R:Int),.int .i64 (C1:Int)] 267)).drewN (na + nq)).heap.size = wo.heap.size + 1 by simp)
            have hbw:=below_drewN (Hbo.out.alloc Hbo.out.size (.cells #[.int .i64 (K:Int),.int .i64 (R:Int),.int .i64 (C1:Int)] 267)) (na + nq)
            have how:=own_drewN (Hown.out.alloc (.cells #[.int .i64 (K:Int),.int .i64 (R:Int),.int .i64 (C1:Int)] 267)) (na + nq)
            go_wp2_with (at_builtin;go_loud (refine wpList_push et_i64s _ rfl (.tmp 76) (.tmp 78) rfl w3.heap.size (.slice Al t cl) t _ rfl how [.int .i64 (mulQ (nth ev R) (nth vv C1) q)] (congrArg (fun b:Nat => Value.slice (some ⟨b,0,none⟩) 1 1) hsz9.out.symm) rfl (by simp [Value.oneCell']) (by omega) (by unfold maxLen;omega) hbw.size ?_))
            intro g6 c6 w6 ho6 hb6 hg6
            have hb6':=hbw.trans hb6
            have HO6:=Lib.hid ho6;have HB6:=Lib.hid hb6'
            clear ho6 hb6 hg6 hb6' how hbw
            go_wp2_with fail
            go_roundw
            case rel =>
              refine ⟨t + 1,by omega,by go_num,?_,HB6.out⟩
              have hv:=Hgv.out
              rw [if_pos (Int.natCast_nonneg _),Int.toNat_natCast] at hv
              rw [Htk.out,hv,nums_append]
              exact HO6.out
            case measure => simp [intOf];omega
          · have HC:=Lib.hid hC
            have hzw:w3.heap.size ≤ wo.heap.size:=Hbo.out.size
            have hsz9:=Lib.hid (show ((wo.alloc (.cells #[.int .i64 (K:Int),.int .i64 (R:Int),.int .i64 C] 267)).drewN nq).heap.size = wo.heap.size + 1 by simp)
            have hbw:=below_drewN (Hbo.out.alloc Hbo.out.size (.cells #[.int .i64 (K:Int),.int .i64 (R:Int),.int .i64 C] 267)) nq
            have how:=own_drewN (Hown.out.alloc (.cells #[.int .i64 (K:Int),.int .i64 (R:Int),.int .i64 C] 267)) nq
            go_wp2_with (at_builtin;go_loud (refine wpList_push et_i64s _ rfl (.tmp 76) (.tmp 78) rfl w3.heap.size (.slice Al t cl) t _ rfl how [.int .i64 (nth ev R)] (congrArg (fun b:Nat => Value.slice (some ⟨b,0,none⟩) 1 1) hsz9.out.symm) rfl (by simp [Value.oneCell']) (by omega) (by unfold maxLen;omega) hbw.size ?_))
            intro g6 c6 w6 ho6 hb6 hg6
            have hb6':=hbw.trans hb6
            have HO6:=Lib.hid ho6;have HB6:=Lib.hid hb6'
            clear ho6 hb6 hg6 hb6' how hbw
            go_wp2_with fail
            go_roundw
            case rel =>
              refine ⟨t + 1,by omega,by go_num,?_,HB6.out⟩
              have hv:=Hgv.out
              rw [if_neg (by have:=HC.out;omega)] at hv
              rw [Htk.out,hv,nums_append]
              exact HO6.out
            case measure => simp [intOf];omega
        · obtain rfl:t = N:=by omega
          have hall:=Hown.out
          rw [List.take_of_length_le (by rw [List.length_map,Hpl.out];exact Nat.le_refl _)] at hall
          have Hall:=Lib.hid (Rd.own hall);clear hall
          have hBf:=HB2.out.trans ((HB23.out.trans (Hbo.out.mono HB23.out.size)).mono HB2.out.size)
          have HBf:=Lib.hid hBf;clear hBf
          go_wp2_with fail
          go_ret
          exact ⟨_,_,rfl,Hall.out,HBf.out⟩
end Go.Proofs.YtaccfnffmbndhaaGreat
namespace Go.Proofs.YtaccfnffmbndhaaGreat
open Go.RowKit
theorem addL_zero {n:Nat} {s:List Int} (hs:s.length = n) (ws:W64 s):addL (List.replicate n 0) s = s:=by
  refine ext_nth (by rw [addL_len,List.length_replicate,hs]) fun k hk => ?_
  rw [addL_len,List.length_replicate] at hk
  unfold addL
  rw [upTo_nth _ (by rw [List.length_replicate];exact hk),nth_eq _ k (by rw [List.length_replicate];exact hk)]
  have h1:=ws.nth k
  simp only [List.getElem_replicate]
  generalize nth s k = y at h1 ⊢
  unfold wrap64;omega
theorem sumR_two {n:Nat} {s g:List Int} (hs:s.length = n) (ws:W64 s):sumR n [s,g] = addL s g:=by
  unfold sumR;simp only [List.foldl_cons,List.foldl_nil];rw [addL_zero hs ws]
theorem pick_snoc (l:List Ex) (idx:List Int) {k:Nat} (hk:k < idx.length) {x:Ex} {j:Nat} (hj:nth idx k = (j:Int)) (hx:l[j]? = some x):pickL l (idx.take (k + 1)) = pickL l (idx.take k) ++ [x]:=by
  rw [take_succ_nth _ _ hk];unfold pickL;rw [List.map_append]
  simp [hj,List.getD,hx]
theorem nx_m2 {n k:Nat} (h:k < n):n - (k + 1) < n - k:=by omega
def RGrad14Is (i:Inp) (P idx:List Int) (w:World) (e:Ending) (w':World):Prop:=Below w.heap.size w w' ∧
  ((allGood i idx ∧ ∃ v,e = .returned (.tuple #[v,.bool true]) ∧ w'.ownsRow w.heap.size 2 1 v (cnt i) (nums .i64 (gradAcc i P (pickL i.data idx)))) ∨ (¬ allGood i idx ∧ e = .returned (.tuple #[.slice none 0 0,.bool false])))
theorem vv_two (w:World) (u v:Value) (A1 A2:Option Addr) (n c1 c2:Nat) (s g:List Int) (hu:u = .slice A1 n c1) (hv:v = .slice A2 n c2) (hs:s.length = n) (hg:g.length = n) (hn:n ≤ 1048576) (r1:Rd w A1 (nums .i64 s)) (r2:Rd w A2 (nums .i64 g)) :
    SlRd rVec0 1 (w.alloc (.cells #[u,v] 26)) (some ⟨w.heap.size,0,none⟩) [s,g]:=by
  refine slrd_one (rd_newN w [u,v] _ _ rfl) rfl fun j x hx => ?_
  match j,hx with
  | 0,hx => injection hx with hx;subst hx;exact ⟨u,rfl,A1,c1,by rw [hu,hs],by omega,r1.alloc _⟩
  | 1,hx => injection hx with hx;subst hx;exact ⟨v,rfl,A2,c2,by rw [hv,hg],by omega,r2.alloc _⟩
set_option maxRecDepth 100000 in
set_option maxHeartbeats 2000000 in
theorem rgrad14_any (A:Option Addr) (c:Nat) (D:Option Addr) (cd:Nat) (T:Option Addr) (ct:Nat) (R:Option Addr) (cr:Nat) (i:Inp) (Ap X:Option Addr) (P idx:List Int) (n cp cx:Nat) (w:World) (hA:Rd w A (nums .i64 i.cfg.sizes)) (hc:i.cfg.sizes.length ≤ c) (hD:SlRd rEx 2 w D i.data) (hg:GoodIn i) (hP:Rd w Ap (nums .i64 P)) (hPl:P.length = n) (hn:cnt i = n) (wP:W64 P) (hX:Rd w X (nums .i64 idx)) (hil:idx.length ≤ 17592186043904) :
    Calls Tryz.prog 71 #[.agg (inpVals A c D cd T ct R cr i),.slice Ap n cp,.slice X idx.length cx] w (RGrad14Is i P idx w):=by
  have hcb:=hg.c.z.bound (k:=i.cfg.sizes.length - 1) (by have:=hg.c.z.1.1;omega)
  have hcn:cntN i.cfg.sizes (i.cfg.sizes.length - 1) = n:=hn
  rw [hcn] at hcb
  have hnet:=fun w' => rnet14_any A c D cd T ct R cr i Ap n cp w'
  have hgr:=fun w' (q:Below w.heap.size w w') X1 Y1 x c1 c2 (hf:fitEx (inN i) (outN i) x) (r1:NumsRd w' X1 x.1 c1) (r2:NumsRd w' Y1 x.2 c2) => rgrad_any A Ap X1 Y1 i.cfg.sizes P x.1 x.2 c cp c1 c2 i.cfg.shift w' ⟨hA.below q,hP.below q,hg.c.z,by rw [hPl,hcn],hc,wP⟩ r1.hr hf.1 r1.hw r1.hc r2.hr hf.2
  rw [hcn,hPl] at hgr
  have hmk:=fun w' => run_mk et_ri64s w' rfl n (by omega) (by unfold maxLen;omega)
  simp only [nums_rep] at hmk
  have hz0:gradAcc i P (pickL i.data (idx.take 0)) = List.replicate n 0:=by simp [gradAcc,pickL,hn]
  obtain ⟨m,hm⟩:∃ m,idx.length = m:=⟨_,rfl⟩
  obtain ⟨N,hN⟩:∃ N,i.data.length = N:=⟨_,rfl⟩
  have hNb:N ≤ 1048576:=by rw [← hN];exact hg.b.2
  rw [hm] at hil ⊢
  have hbl:(w.alloc (.cells (inpVals A c D cd T ct R cr i) 29)).heap.size = w.heap.size + 1:=by simp
  have hbx:=blk_new w (inpVals A c D cd T ct R cr i) 29 rfl
  have hb0:Below w.heap.size w (w.alloc (.cells (inpVals A c D cd T ct R cr i) 29)):=(Below.refl _ w).alloc (Nat.le_refl _) _
  obtain ⟨W1,hW1⟩:∃ W1,W1 = w.alloc (.cells (inpVals A c D cd T ct R cr i) 29):=⟨_,rfl⟩
  rw [← hW1] at hbl hbx hb0
  obtain ⟨W2,hrun,ho2,hb2⟩:=hmk W1
  rw [hbl] at hrun ho2
  rw [hW1] at hrun
  dsimp only [inpVals] at hrun
  have hbx2:=(hb2.block _ (by omega)).trans hbx
  have hB2:=hb0.trans (hb2.mono hb0.size)
  have HD:=Lib.hid hD;have HX:=Lib.hid hX;have Hnet:=Lib.hid hnet;have Hgr:=Lib.hid hgr;have Hm:=Lib.hid hm;have HN:=Lib.hid hN;have HG:=Lib.hid hg;have HO2:=Lib.hid ho2;have HBx2:=Lib.hid hbx2;have HB2:=Lib.hid hB2;have Hz0:=Lib.hid hz0;have Hn:=Lib.hid hn
  clear hA hc hD hg hP hPl hn wP hX hnet hgr hmk hm hN hbl hbx hb0 ho2 hbx2 hB2 hb2 hcn hz0 hW1
  go_enter Tryz.func71,Tryz.ntmps71
  dsimp only [inpVals]
  go_wp2_with fail
  clear hrun
  go_loopw [8,9] (fun v x wr => ∃ k:Nat,k ≤ m ∧ x = .int .i64 k ∧ wr.ownsRow w.heap.size 2 1 v n (nums .i64 (gradAcc i P (pickL i.data (idx.take k)))) ∧ Hid (∀ j,j < k → goodI N (nth idx j)) ∧ Below (w.heap.size + 1) W2 wr) (fun _ x _ => m - (intOf x).toNat)
  case atStart => exact ⟨0,Nat.zero_le _,rfl,by rw [Hz0.out];exact own_base HO2.out (by omega),Lib.hid fun j hj => by omega,Below.refl _ _⟩
  case round =>
    obtain ⟨k,hk,rfl,hown,Hall,hbw⟩:=hrel
    obtain ⟨As,cs,rfl,hcs⟩:=own_form hown
    have hbx:=(hbw.block _ (by omega)).trans HBx2.out
    have hB:=HB2.out.trans (hbw.mono (by omega))
    have hrs:=hB.size
    have HO:=Lib.hid hown;have HBW:=Lib.hid hbw;have HB:=Lib.hid hB;have HBX:=Lib.hid hbx;have HCS:=Lib.hid hcs
    dsimp only [inpVals] at hbx
    obtain ⟨⟨t0,t1,t2,t3,t4,t5,t6,t7,t8,t9,t10,t11,t12,t13,t14⟩,tf⟩:=bx15 hbx
    have hlx:=lt_of_block hbx
    clear hown hbw hB hbx hcs
    by_cases hlt:k < m
    · have hlti:(k:Int) < m:=by omega
      obtain ⟨bx,ox,rfl,px⟩:=HX.out.num (show k < idx.length by rw [Hm.out];exact hlt)
      have px':=(HB.out.cell (p:=⟨bx,ox + k,none⟩) (lt_of_cell px)).trans px
      clear px
      by_cases hgd:goodI N (nth idx k)
      · obtain ⟨j,hj⟩:∃ j:Nat,nth idx k = (j:Int):=⟨(nth idx k).toNat,by have:=hgd.1;omega⟩
        have hjN:j < N:=by have:=hgd.2;omega
        rw [hj] at px'
        obtain ⟨x,hx⟩:∃ x,i.data[j]? = some x:=⟨_,List.getElem?_eq_getElem (by rw [HN.out];exact hjN)⟩
        obtain ⟨bd,od,X1,c1,Y1,c2,rfl,hbd,p1,p2,r1,r2⟩:=ex_cells (HD.out.below stays_ex HB.out) hx
        have hfit:fitEx (inN i) (outN i) x:=HG.out.f _ (by obtain ⟨q1,q2⟩:=List.getElem?_eq_some_iff.1 hx;rw [← q2];exact List.getElem_mem _)
        have hgr:=fun w' (q:Below wr.heap.size wr w') => Hgr.out w' (HB.out.trans (q.mono HB.out.size)) X1 Y1 x c1 c2 hfit (r1.below q) (r2.below q)
        have hgl:=gradL_len (sz:=i.cfg.sizes) (ps:=P) (q:=i.cfg.shift) (x:=x.1) (y:=x.2) hfit.1 (by have:=HG.out.c.z.1.1;omega)
        have hgn:cntN i.cfg.sizes (i.cfg.sizes.length - 1) = n:=Hn.out
        rw [hgn] at hgl
        have hps:=pick_snoc i.data idx (k:=k) (by rw [Hm.out];exact hlt) hj hx
        have q1:¬ ((j:Int) < 0):=by omega
        have hN:=HN.out
        have q2:¬ ((i.data.length:Int) ≤ j):=by omega
        have q3:(j:Int) < i.data.length:=by omega
        have Hj:=Lib.hid hj;have Hgr2:=Lib.hid hgr;have Hgl:=Lib.hid hgl;have Hps:=Lib.hid hps;have Hgd:=Lib.hid hgd
        obtain ⟨n1,hn1⟩:∃ n1,x.1.length = n1:=⟨_,rfl⟩
        obtain ⟨n2,hn2⟩:∃ n2,x.2.length = n2:=⟨_,rfl⟩
        rw [hn1] at p1;rw [hn2] at p2
        have Hn1:=Lib.hid hn1;have Hn2:=Lib.hid hn2
        clear hj hx r1 r2 hfit hgr hgl hgn hps hgd hN hn1 hn2
        go_upto_region 8 with (fail)
        clear px' t0 t1 t2 t3 t4 t5 t6 t7 t8 t9 t10 t11 t12 t13 t14 tf
        have hbx:=HBX.out
        dsimp only [inpVals] at hbx
        have hSw:(fun w':World => w'.heap[w.heap.size]? = some (.cells #[.slice A i.cfg.sizes.length c,.int .i64 i.cfg.shift,.int .i64 i.cfg.rate,.int .i64 i.cfg.mom,.int .i64 i.cfg.workers,.int .i64 i.cfg.batch,.int .i64 i.cfg.micros,.int .i64 i.cfg.steps,.int .i64 i.cfg.bucket,.int .i64 i.cfg.chunk,.int .i64 i.cfg.window,.int .i64 i.cfg.cap,.slice (some ⟨bd,od,none⟩) i.data.length cd,.slice T i.start.length ct,.slice R i.draws.length cr] 29 (0,0)) ∧ w'.cell? ⟨bd,od + j * 2,none⟩ = some (.slice X1 n1 c1) ∧ w'.cell? ⟨bd,od + j * 2 + 1,none⟩ = some (.slice Y1 n2 c2)) wr.drew:=⟨hbx,p1,p2⟩
        refine HA.g (fun w':World => w'.heap[w.heap.size]? = some (.cells #[.slice A i.cfg.sizes.length c,.int .i64 i.cfg.shift,.int .i64 i.cfg.rate,.int .i64 i.cfg.mom,.int .i64 i.cfg.workers,.int .i64 i.cfg.batch,.int .i64 i.cfg.micros,.int .i64 i.cfg.steps,.int .i64 i.cfg.bucket,.int .i64 i.cfg.chunk,.int .i64 i.cfg.window,.int .i64 i.cfg.cap,.slice (some ⟨bd,od,none⟩) i.data.length cd,.slice T i.start.length ct,.slice R i.draws.length cr] 29 (0,0)) ∧ w'.cell? ⟨bd,od + j * 2,none⟩ = some (.slice X1 n1 c1) ∧ w'.cell? ⟨bd,od + j * 2 + 1,none⟩ = some (.slice Y1 n2 c2)) ?_
        refine HA.t ?_ [0,1,2,4,5,6,7,8,9,10,11,12,13,14,15] hSw ?_
        refine HA.o 3 (fun K hK => ?_)
        clear hbx
        have hnet:=Hnet.out wr.drew
        dsimp only [inpVals] at hnet
        go_simp
        refine hnet.mono ?_
        clear hnet
        rintro e w3 ⟨rfl,hb3⟩
        have hS3:=And.intro ((hb3.block _ hlx).trans hSw.1) (And.intro (cell_below hb3 hSw.2.1) (cell_below hb3 hSw.2.2))
        have HB3:=Lib.hid (show Below wr.heap.size wr w3 from (Below.refl _ wr).drew.trans hb3)
        clear hb3 hSw
        dsimp only
        refine hK.out _ _ hS3 (fun hSw => ?_)
        clear hK K hS3
        refine HA.o 16 (fun K hK => ?_)
        have hgr:=Hgr2.out w3 HB3.out
        rw [Hn1.out,Hn2.out] at hgr
        go_simp
        refine hgr.mono ?_
        clear hgr
        rintro e w4 ⟨A4,c4,rfl,hr4,hb4⟩
        have hS4:=And.intro ((hb4.block _ (lt_of_block hSw.1)).trans hSw.1) (And.intro (cell_below hb4 hSw.2.1) (cell_below hb4 hSw.2.2))
        have HB4:=Lib.hid (HB3.out.trans (hb4.mono HB3.out.size))
        have HR4:=Lib.hid hr4
        clear hb4 hSw hr4
        dsimp only
        refine hK.out _ _ hS4 (fun hSw => ?_)
        clear hK K hS4
        refine HA.o 17 (fun K hK => ?_)
        go_simp
        have hz4:=HB4.out.size
        have hs4:SlRd rVec0 1 (w4.alloc (.cells #[.slice As n cs,.slice A4 n c4] 26)) (some ⟨w4.heap.size,0,none⟩) [gradAcc i P (pickL i.data (idx.take k)),gradL i.cfg.sizes P i.cfg.shift x.1 x.2]:=
          vv_two w4 _ _ As A4 n cs c4 _ _ rfl rfl (by rw [gradAcc_len];exact Hn.out) Hgl.out hcb (Rd.own (own_below HO.out HB4.out)) HR4.out
        have hsum:=rsumv_any (some ⟨w4.heap.size,0,none⟩) [gradAcc i P (pickL i.data (idx.take k)),gradL i.cfg.sizes P i.cfg.shift x.1 x.2] 2 n _ _ hs4 (by simp) rfl (by rw [gradAcc_len];exact Hn.out)
        have hsum:Calls Tryz.prog 120 #[.slice (some ⟨w4.heap.size,0,none⟩) 2 2] (w4.alloc (.cells #[.slice As n cs,.slice A4 n c4] 26)) _:=hsum
        have Hsum:=Lib.hid hsum
        clear hs4 hsum
        refine hK.out _ _ ⟨blk_alloc hSw.1 _,cell_alloc hSw.2.1 _,cell_alloc hSw.2.2 _⟩ (fun hSw => ?_)
        clear hK K
        refine HA.o 18 (fun K hK => ?_)
        go_simp
        refine Hsum.out.mono ?_
        rintro e w5 ⟨v5,ok,rfl,hb5,hgood⟩
        obtain ⟨rfl,ho5⟩:=hgood (fun t y hy => by
          match t,hy with
          | 0,hy => injection hy with hy;rw [← hy,gradAcc_len];exact Hn.out
          | 1,hy => injection hy with hy;rw [← hy];exact Hgl.out)
        rw [sumR_two (by rw [gradAcc_len];exact Hn.out) (gradAcc_W64 _ _ _),← gradAcc_snoc,← Hps.out] at ho5
        have hS5:=And.intro ((hb5.block _ (lt_of_block hSw.1)).trans hSw.1) (And.intro (cell_below hb5 hSw.2.1) (cell_below hb5 hSw.2.2))
        have hb5':Below wr.heap.size wr w5:=(HB4.out.alloc hz4 _).trans (hb5.mono (by simp;omega))
        have HO5:=Lib.hid (own_base (base':=w.heap.size) ho5 (by simp;omega))
        have HB5:=Lib.hid (HBW.out.trans (hb5'.mono (by omega)))
        clear hb5 hb5' ho5 hgood hSw Hsum
        obtain ⟨A5,c5,rfl,_⟩:=own_form HO5.out
        dsimp only
        refine hK.out _ _ hS5 (fun hSw => ?_)
        clear hK K hS5
        refine HA.t ?_ [19,20,21,22] hSw ?_
        refine HA.d ?_
        clear hSw p1 p2
        go_wp2_with fail
        go_roundw
        case rel =>
          refine ⟨k + 1,hlt,by go_num,HO5.out,Lib.hid fun t ht => ?_,HB5.out⟩
          rcases Nat.lt_or_ge t k with h | h
          · exact Hall.out t h
          · obtain rfl:t = k:=by omega
            exact Hgd.out
        case measure => exact nx_m2 hlt
      · have hgi:nth idx k < 0 ∨ (i.data.length:Int) ≤ nth idx k:=by
          have hN:=HN.out
          unfold goodI at hgd;omega
        have hng:¬ allGood i idx:=fun h => hgd (by rw [← HN.out];exact h k (by rw [Hm.out];exact hlt))
        have Hng:=Lib.hid hng
        obtain ⟨z,hz⟩:∃ z,nth idx k = z:=⟨_,rfl⟩
        rw [hz] at px' hgi
        clear hng hgd hz
        by_cases hz0:z < 0
        · clear hgi
          go_wp2_with fail
          go_ret2
          exact ⟨HB.out,.inr ⟨Hng.out,rfl⟩⟩
        · have hz1:(i.data.length:Int) ≤ z:=by omega
          clear hgi
          go_wp2_with fail
          go_ret2
          exact ⟨HB.out,.inr ⟨Hng.out,rfl⟩⟩
    · obtain rfl:m = k:=by omega
      go_wp2_with fail
      go_ret2
      refine ⟨HB.out,.inl ⟨fun j hj => by rw [HN.out];exact Hall.out j (by rw [← Hm.out];exact hj),_,rfl,?_⟩⟩
      have:=HO.out
      rw [Hn.out]
      rwa [← Hm.out,List.take_length] at this
end Go.Proofs.YtaccfnffmbndhaaGreat
namespace Go.Proofs.YtaccfnffmbndhaaGreat
open Go.RowKit
set_option maxRecDepth 100000 in
theorem rnext_any (c i m:Nat) (A:Option Addr) (l:List Int) (w:World) (hA:Rd w A (nums .u64 l)) (hi:i < l.length) (hl:l.length ≤ 17592186043904) (hu:U64 l) (hm:1 ≤ m) (hm2:m ≤ 1048576) :
    Calls Tryz.prog 183 #[.agg #[.slice A l.length c,.int .i64 i],.int .i64 m] w fun e w' => e = .returned (.tuple #[.agg #[.slice A l.length c,.int .i64 ((i + 1:Nat):Int)],.int .i64 (nth l i % m),.bool true]) ∧ Below w.heap.size w w':=by
  obtain ⟨bA,oA,rfl,p⟩:=hA.num hi
  obtain ⟨x,hx⟩:∃ x,nth l i = x:=⟨_,rfl⟩
  have hxb:=hu i hi
  rw [hx] at p hxb ⊢
  obtain ⟨n,hn⟩:∃ n,l.length = n:=⟨_,rfl⟩
  rw [hn] at hi hl ⊢
  have hbA:bA < w.heap.size:=lt_of_cell p
  clear hn hx hu hA
  have hq2:¬ ((m:Int) < 1):=by omega
  have hii:(i:Int) < n:=by omega
  have hii':¬ ((n:Int) ≤ i):=by omega
  have hw:wrap64 (x % (m:Int)) = x % (m:Int):=by
    have h1:=Int.emod_nonneg x (show (m:Int) ≠ 0 by omega)
    have h2:=Int.emod_lt_of_pos x (show (0:Int) < (m:Int) by omega)
    generalize x % (m:Int) = y at h1 h2 ⊢
    unfold wrap64;omega
  have Hw:=Lib.hid hw;clear hw
  go_enter Tryz.func183,Tryz.ntmps183
  go_wp2_with fail
  go_region
  go_wp2_with fail
  have e3:=heap_alloc_new (w.alloc (.cells #[.slice (some ⟨bA,oA,none⟩) n c,.int .i64 ((i:Int) + 1)] 258)) (.cells #[.slice (some ⟨bA,oA,none⟩) n c,.int .i64 ((i:Int) + 1)] 258)
  rw [show (w.alloc (.cells #[.slice (some ⟨bA,oA,none⟩) n c,.int .i64 ((i:Int) + 1)] 258)).heap.size = w.heap.size + 1 by simp] at e3
  have hB:Below w.heap.size w ((w.alloc (.cells #[.slice (some ⟨bA,oA,none⟩) n c,.int .i64 ((i:Int) + 1)] 258)).alloc (.cells #[.slice (some ⟨bA,oA,none⟩) n c,.int .i64 ((i:Int) + 1)] 258)):=((Below.refl _ w).alloc (Nat.le_refl _) _).alloc (by simp) _
  obtain ⟨W9,hW9⟩:∃ W9,W9 = ((w.alloc (.cells #[.slice (some ⟨bA,oA,none⟩) n c,.int .i64 ((i:Int) + 1)] 258)).alloc (.cells #[.slice (some ⟨bA,oA,none⟩) n c,.int .i64 ((i:Int) + 1)] 258)).drew:=⟨_,rfl⟩
  have e4:W9.heap[w.heap.size + 1]? = some (.cells #[.slice (some ⟨bA,oA,none⟩) n c,.int .i64 ((i:Int) + 1)] 258 (0,0)):=by rw [hW9];exact e3
  have hB9:Below w.heap.size w W9:=by rw [hW9];exact hB.drew
  rw [← hW9]
  clear hW9 hB e3
  obtain ⟨⟨r0,r1⟩,rf⟩:=bx2 e4
  rw [Hw.out]
  exact bodyPost_ret (v:=.tuple #[.agg #[.slice (some ⟨bA,oA,none⟩) n c,.int .i64 ((i:Int) + 1)],.int .i64 (x % m),.bool true]) (by simp [results,Tryz.results183,go_sem,r0,r1]) rfl ⟨by rw [Int.natCast_add];rfl,hB9⟩
end Go.Proofs.YtaccfnffmbndhaaGreat
