/- The walk of Net.Trace. The walks of Net.Run, miss, Loss and Params. A region that draws its order, within a round: by the plain calculus. Matrix.Back. The matrix of all products of two columns, in plain lists. The gradient of a network, in plain lists. The reference's sums are the layers' values, in plain lists. The walk of sakiaref09.Trace. The walks of package draw: New, Left, Next. Slices of numbers that came in. The walks of package data: copies. The walks of package data: Clone, Pick. No condition. -/
import Derived.Test.YthamijnggdjaoaaGreatDoorT02
import Derived.Test.YthamijnggdjaoaaGreatDoorT01
import Derived.Deep.RegionHeld3
import Derived.Deep.DeepCutAuto
import Derived.Deep.RegionHeld
import Derived.IntWalk
import Derived.Test.YthamijnggdjaoaaGreatDoorProg
set_option linter.unusedSimpArgs false
set_option linter.unusedVariables false
namespace Go.Proofs.YthamijnggdjaoaaGreatDoor
open Go.RowKit
theorem trace_no (b:Nat) (sz ps:List Int) (q:Int) (A:Option Addr) (m c:Nat) (w:World) (h:NetAt 123 130 w b sz ps q) (hg:GoodSz sz) (hm:m ≠ szN sz 0) :
    Calls Tryz.prog 113 #[.pointer (some ⟨b,0,none⟩),.slice A m c] w fun e w' => e = .returned (.tuple #[.slice none 0 0,.bool false]) ∧ Below w.heap.size w w':=by
  obtain ⟨S,Ap,cp,Al,cl,rows,h0,h1,h2,h3,h4,h5,h6⟩:=h
  obtain ⟨⟨r0,r1,r2,r3⟩,rf⟩:=bx4 h0
  have hs:=shape_sizes S sz w h1 (by have:=hg.1.1.2;omega)
  have z0:=hg.1.at (k:=0) (by have:=hg.1.1.1;omega)
  have hlen:0 < sz.length:=by have:=hg.1.1.1;omega
  have hne:((m:Int) != (szN sz 0:Int)) = true:=by simp;omega
  have Hs:=Lib.hid hs;have Z0:=Lib.hid z0.2.2;clear hs h0 h1 h2 h3 h4 h5 h6 hg z0 hm
  go_enter Tryz.func113,Tryz.ntmps113
  go_wp2_with fail
  refine Hs.out.mono ?_
  rintro e w1 ⟨A1,c1,rfl,ho,hb⟩
  obtain ⟨g,c',hv,_,_⟩:=ho.form hlen
  simp only [Value.slice.injEq] at hv
  obtain ⟨rfl,_,rfl⟩:=hv
  have p0:=own_num ho hlen
  rw [Z0.out] at p0
  have Hb:=Lib.hid hb;clear hb ho r0 r1 r2 r3 rf
  go_wp2
  go_ret2
  exact ⟨rfl,Hb.out⟩
theorem own_made1 (w:World) (e:TypeId) (v:Value) (base:Nat) (hb:base ≤ w.heap.size):(w.alloc (.cells #[v] e)).ownsRow base e 1 (.slice (some ⟨w.heap.size,0,none⟩) 1 1) 1 [v]:=
  ⟨by simp,.inr ⟨w.heap.size,1,#[v],rfl,hb,heap_alloc_new w _,Nat.le_refl _,by unfold maxLen;omega,by simp,by simp⟩⟩
def TraceI (sz ps:List Int) (q:Int) (x:List Int) (P n₀:Nat) (k:Nat) (w0 w:World):Prop:=
  ∃ A c vals,w.heap[P]? = some (.cells #[.slice A (k + 1) c] 138 (0,0)) ∧ w.ownsRow n₀ 65 1 (.slice A (k + 1) c) (k + 1) vals ∧
    (∀ j,j ≤ k → ∃ Aj cj,vals[j]? = some (.slice Aj (szN sz j) cj) ∧ w.ownsRow n₀ 2 1 (.slice Aj (szN sz j) cj) (szN sz j) (nums .i64 (valL sz ps q x j))) ∧ Below n₀ w0 w
set_option maxRecDepth 100000 in
set_option maxHeartbeats 2000000 in
theorem trace_ok (b:Nat) (sz ps:List Int) (q:Int) (A:Option Addr) (x:List Int) (c:Nat) (w:World) (h:NetAt 123 130 w b sz ps q) (hg:GoodSz sz) (wp:W64 ps) (hA:Rd w A (nums .i64 x)) (hx:x.length = szN sz 0) (wx:W64 x) :
    Calls Tryz.prog 113 #[.pointer (some ⟨b,0,none⟩),.slice A x.length c] w fun e w' => ∃ A' c' vals,e = .returned (.tuple #[.slice A' sz.length c',.bool true]) ∧ Rd w' A' vals ∧ VecsAt w' vals sz.length (valL sz ps q x) ∧ sz.length ≤ c' ∧ Below w.heap.size w w':=by
  have hbl:=h.lt
  obtain ⟨S,Ap,cp,Al,cl,rows,h0,h1,h2,h3,h4,h5,h6⟩:=h
  obtain ⟨⟨r0,r1,r2,r3⟩,rf⟩:=bx4 h0
  have z0:=hg.1.at (k:=0) (by have:=hg.1.1.1;omega)
  have hs:=shape_sizes S sz w h1 (by have:=hg.1.1.2;omega)
  have hcl:=fun w' (k:Below w.heap.size w w') => vclone_any A x c w' (hA.below k) (by omega)
  obtain ⟨n,hn⟩:∃ n,sz.length - 1 = n:=⟨_,rfl⟩
  have hnl:sz.length = n + 1:=by have:=hg.1.1.1;omega
  have hnb:1 ≤ n ∧ n ≤ 15:=by have:=hg.1.1;omega
  obtain ⟨m,hm⟩:∃ m,szN sz 0 = m:=⟨_,rfl⟩
  rw [hn] at r3 h4 h6
  rw [hx,hm] at hcl ⊢
  have hlen:0 < sz.length:=by omega
  have hne:((m:Int) != (m:Int)) = false:=by simp
  have hmb:m ≤ 1048576:=by rw [← hm];exact z0.2.1
  rw [hm] at z0
  have Hs:=Lib.hid hs;have Z0:=Lib.hid z0.2.2;have Hcl:=Lib.hid hcl;have HG:=Lib.hid hg;have Hn:=Lib.hid hn;have Hnl:=Lib.hid hnl;have Hm:=Lib.hid hm;have H0:=Lib.hid h0;have H3:=Lib.hid h3;have H4:=Lib.hid h4;have H5:=Lib.hid h5;have H6:=Lib.hid h6;have WP:=Lib.hid wp;have WX:=Lib.hid wx;have Hx:=Lib.hid hx;have HA:=Lib.hid hA
  clear hs hcl h0 h1 h2 h3 h4 h5 h6 hg z0 hm hn hnl wp wx hx hA
  go_enter Tryz.func113,Tryz.ntmps113
  go_wp2_with fail
  refine Hs.out.mono ?_
  rintro e w1 ⟨A1,c1,rfl,ho,hb⟩
  obtain ⟨g,c',hv,_,_⟩:=ho.form hlen
  simp only [Value.slice.injEq] at hv
  obtain ⟨rfl,_,rfl⟩:=hv
  have p0:=own_num ho hlen
  rw [Z0.out] at p0
  have Hb:=Lib.hid hb;clear hb ho r0 r1 r2 r3 rf
  go_wp2_with fail
  refine (Hcl.out _ Hb.out).mono ?_
  rintro e w2 ⟨A2,c2,rfl,hc2,ho2,hb2⟩
  have hW2:=Hb.out.trans (hb2.mono Hb.out.size)
  have hN2:=(hW2.block b hbl).trans H0.out
  obtain ⟨⟨r0,r1,r2,r3⟩,rf⟩:=bx4 hN2
  have hbl2:=lt_of_block hN2
  have hx2:=Hx.out
  rw [Hm.out] at hx2
  have hw1s:=Hb.out.size
  have Ho2:=Lib.hid (own_base ho2 hw1s);have HW2:=Lib.hid hW2;have HN2:=Lib.hid hN2;clear ho2 hb2 hW2 hN2 hw1s
  rw [Hn.out] at r3
  go_wp2_with fail
  go_loopw [37] (fun i wr => ∃ k:Nat,k ≤ n ∧ i = .int .i64 k ∧ TraceI sz ps q x (w2.heap.size + 1) w.heap.size k w wr) (fun i _ => n - (intOf i).toNat)
  case atStart =>
    refine ⟨0,Nat.zero_le _,rfl,some ⟨w2.heap.size,0,none⟩,1,[.slice A2 m c2],?_,?_,?_,?_⟩
    · have:=heap_alloc_new (w2.alloc (.cells #[.slice A2 m c2] 65)) (.cells #[.slice (some ⟨w2.heap.size,0,none⟩) 1 1] 138)
      simpa using this
    · exact (own_made1 w2 65 (.slice A2 m c2) w.heap.size HW2.out.size).alloc _
    · intro j hj
      obtain rfl:j = 0:=by omega
      refine ⟨A2,c2,by rw [Hm.out];rfl,?_⟩
      rw [Hm.out]
      exact (Ho2.out.alloc _).alloc _
    · have hW2:=HW2.out
      have hz2:=HW2.out.size
      (focus (repeat' (first | (with_reducible exact Below.refl _ _) | (with_reducible assumption) | (with_reducible refine Below.setCell ?_ ?_ _) | (with_reducible refine Below.alloc ?_ ?_ _) | (with_reducible refine below_drewN ?_ _) | (with_reducible refine Below.drew ?_) | (with_reducible exact Nat.le_refl _) | omega | (simp;done) | (simp;omega))))
  case round =>
    obtain ⟨k,hk,rfl,Ao,co,vals,hP,ho,hv,hW⟩:=hrel
    have hkn:k < sz.length:=by have:=Hnl.out;omega
    have hNr:=(hW.block b hbl).trans H0.out
    obtain ⟨⟨r0,r1,r2,r3⟩,rf⟩:=bx4 hNr
    obtain ⟨p0,pf⟩:=bx1 hP
    obtain ⟨go,co',hvo,hgo,_⟩:=ho.form (by omega)
    simp only [Value.slice.injEq] at hvo
    obtain ⟨rfl,hvx,rfl⟩:=hvo
    clear hvx
    have hPl:=lt_of_block hP
    have hbr:b < wr.heap.size:=lt_of_block hNr
    have hz:=hW.size
    have HP:=Lib.hid hP;have Ho:=Lib.hid ho;have Hv:=Lib.hid hv;have HW:=Lib.hid hW;have HNr:=Lib.hid hNr
    clear hP ho hv hW hNr
    rw [Hn.out] at r3
    by_cases hlt:k < n
    · have hR:=HG.out.1
      have hk1:k + 1 < sz.length:=by have:=Hnl.out;omega
      have z0:=hR.at hkn
      have z1:=hR.at hk1
      have hmul:=HG.out.mul hk1
      obtain ⟨gl,ol,dl,Bl,el,hcs,hd,hrw,hrb⟩:=H6.out k hlt
      have hrl:(rowOf rows k).length = 4:=H5.out _ (by rw [rowOf_get (by rw [H4.out];exact hlt)];exact List.getElem_mem _)
      have hcl:∀ t,t < 4 → (List.flatten rows)[k * 4 + t]? = (rowOf rows k)[t]?:=fun t ht => flat_get H5.out k t (by rw [H4.out];exact hlt) ht
      have e0:=hcl 0 (by omega);have e1:=hcl 1 (by omega);have e2:=hcl 2 (by omega);have e3:=hcl 3 (by omega)
      rw [hcs] at e0 e1 e2 e3
      simp only [Nat.add_zero,List.getElem?_cons_zero,List.getElem?_cons_succ] at e0 e1 e2 e3
      obtain ⟨bl,oo,hAl,q0⟩:=H3.out _ _ e0
      obtain ⟨_,_,hAl1,q1⟩:=H3.out _ _ e1
      obtain ⟨_,_,hAl2,q2⟩:=H3.out _ _ e2
      obtain ⟨_,_,hAl3,q3⟩:=H3.out _ _ e3
      subst hAl
      injection hAl1 with hAl1;injection hAl1 with i1 i2 _;subst i1;subst i2
      injection hAl2 with hAl2;injection hAl2 with i1 i2 _;subst i1;subst i2
      injection hAl3 with hAl3;injection hAl3 with i1 i2 _;subst i1;subst i2
      have hbb:bl < w.heap.size:=lt_of_cell q0
      have q0r:=(HW.out.cell (p:=⟨bl,oo + k * 4,none⟩) hbb).trans q0
      have q1r:=(HW.out.cell (p:=⟨bl,oo + (k * 4 + 1),none⟩) hbb).trans q1
      have q2r:=(HW.out.cell (p:=⟨bl,oo + (k * 4 + 2),none⟩) hbb).trans q2
      have q3r:=(HW.out.cell (p:=⟨bl,oo + (k * 4 + 3),none⟩) hbb).trans q3
      rw [← Nat.add_assoc] at q1r q2r q3r
      obtain ⟨Aj,cj,hvj,hoj⟩:=Hv.out k (Nat.le_refl _)
      have pj:=(Rd.own Ho.out) k _ hvj
      obtain ⟨_,_,ej,pj⟩:=pj
      injection ej with ej;injection ej with i1 i2 _;subst i1;subst i2
      rw [Nat.zero_add] at pj
      have wv:=valL_W64 (sz:=sz) (ps:=ps) (q:=q) WX.out k
      have hvl:=valL_len (sz:=sz) (ps:=ps) (q:=q) Hx.out k
      have hml:=fun W (h:Below wr.heap.size wr W) => mmul_any (szN sz (k + 1)) (szN sz k) gl ol (szN sz (k + 1) * szN sz k) dl (wL sz ps k) Aj (valL sz ps q x k) cj q W ⟨z1.1,z1.2.1⟩ ⟨z0.1,z0.2.1⟩ rfl hd (by omega) (wL_len _ _ _) ((hrw.below HW.out).below h) (wL_W64 WP.out sz k) ((Rd.own hoj).below h) hvl wv
      obtain ⟨r,hr⟩:∃ r,szN sz (k + 1) = r:=⟨_,rfl⟩
      obtain ⟨c0,hc0⟩:∃ c0,szN sz k = c0:=⟨_,rfl⟩
      obtain ⟨nn,hnn⟩:∃ nn,szN sz (k + 1) * szN sz k = nn:=⟨_,rfl⟩
      rw [hnn] at hml q2r hmul hd
      rw [hr] at hml q0r q3r z1
      rw [hc0] at hml q1r z0
      have pjl:=pj
      rw [hc0] at pjl
      have hrbr:=hrb.below HW.out
      have Hml:=Lib.hid hml;have Hr:=Lib.hid hr;have Hc0:=Lib.hid hc0;have Hnn:=Lib.hid hnn;have Hrb:=Lib.hid hrbr;have Hvl:=Lib.hid hvl
      clear hml hr hc0 hnn hrb hrbr hrw hd q0 q1 q2 q3 e0 e1 e2 e3 hcl hrl hcs pj hvl hvj hoj
      go_wp2_with fail
      obtain ⟨V,hV⟩:∃ V,V = wr.alloc (.cells #[.int .i64 r,.int .i64 c0,.slice (some ⟨gl,ol,none⟩) nn dl,.slice Bl r el] 137):=⟨_,rfl⟩
      have hV9:V.heap[wr.heap.size]? = some (.cells #[.int .i64 r,.int .i64 c0,.slice (some ⟨gl,ol,none⟩) nn dl,.slice Bl r el] 137 (0,0)):=by rw [hV];exact heap_alloc_new wr _
      have hVb:Below wr.heap.size wr V:=by rw [hV];exact (Below.refl _ _).alloc (Nat.le_refl _) _
      rw [← hV]
      clear hV
      have v2:=cell_below hVb r2
      have v3:=cell_below hVb r3
      have vp:=cell_below hVb p0
      have vj:=cell_below hVb pjl
      obtain ⟨⟨y0,y1,y2,y3⟩,yf⟩:=bx4 hV9
      have hbV:b < V.heap.size:=lt_of_cell v2
      have hPV:w2.heap.size + 1 < V.heap.size:=lt_of_cell vp
      have h9V:wr.heap.size < V.heap.size:=lt_of_cell y0
      have hgV:go < V.heap.size:=lt_of_cell vj
      obtain ⟨k1,hk1e⟩:∃ k1,k + 1 = k1:=⟨_,rfl⟩
      have hkk:k < k1:=by omega
      rw [hk1e] at vp
      have Hk1:=Lib.hid hk1e;clear hk1e
      have HVb:=Lib.hid hVb;have HV9:=Lib.hid hV9;clear hVb hV9 r0 r1 r2 r3 rf p0 pf pjl q0r q1r q2r q3r
      go_region_held3 (fun w' => w'.cell? ⟨wr.heap.size,0,none⟩ = some (.int .i64 r) ∧ w'.cell? ⟨wr.heap.size,1,none⟩ = some (.int .i64 c0) ∧ w'.cell? ⟨wr.heap.size,2,none⟩ = some (.slice (some ⟨gl,ol,none⟩) nn dl) ∧ w'.cell? ⟨w2.heap.size + 1,0,none⟩ = some (.slice (some ⟨go,0,none⟩) k1 co) ∧ w'.cell? ⟨go,k,none⟩ = some (.slice Aj c0 cj) ∧ w'.cell? ⟨b,2,none⟩ = some (.int .i64 q)) (simp [go_sem, *])
        ((go_at_call 155;refine (Hml.out V.drew HVb.out.drew).mono ?_;rintro e w5 ⟨A5,c5,rfl,ho5,hb5⟩;have g0:=cell_below hb5 y0;have g1:=cell_below hb5 y1;have g2:=cell_below hb5 y2;have g3:=cell_below hb5 y3;have g4:=cell_below hb5 vp;have g5:=cell_below hb5 vj;have g6:=cell_below hb5 v2;have g7:=cell_below hb5 v3;have Ho5:=Lib.hid ho5;have Hb5:=Lib.hid hb5;clear ho5 hb5))
      go_wp2_with fail
      have hb05:Below wr.heap.size wr w5:=(HVb.out.drew).trans (Hb5.out.mono (by have:=HVb.out.size;simp;omega))
      have hne:∀ a b',A5 = some a → Bl = some b' → a.block ≠ b'.block:=fun a b' ha hb' => by
        obtain ⟨b1,o1,e1,hc1⟩:=Hrb.out.num (k:=0) (by rw [bL_len,Hr.out];omega)
        rw [hb'] at e1
        injection e1 with e1
        subst e1
        have l1:b1 < wr.heap.size:=lt_of_cell hc1
        have l2:=(Ho5.out.lt a.block (by rw [ha];rfl)).1
        have l3:=HVb.out.size
        simp at l2 ⊢
        omega
      refine (add_any _ A5 Bl _ (bL sz ps k) r c5 el w5 Ho5.out (Hrb.out.below hb05) (by rw [bL_len,Hr.out]) (by omega) hne).mono ?_
      rintro e w6 ⟨rfl,ho6,hk6⟩
      have hz6:addL (mulL (wL sz ps k) r c0 (valL sz ps q x k) q) (bL sz ps k) = zL sz ps q k (valL sz ps q x k):=by unfold zL;rw [Hr.out,Hc0.out]
      rw [hz6] at ho6
      have ho6:=own_base (base':=V.heap.size) ho6 (by simp)
      have hlo5:∀ i,(Value.slice A5 r c5).ownBlock = some i → V.heap.size ≤ i:=fun i hi => by have:=(Ho5.out.lt i hi).1;simpa using this
      have hb6:Below V.heap.size V w6:=((Below.refl _ V).drew.trans (Hb5.out.mono (by simp))).trans (hk6.toBelow (by have:=Hb5.out.size;simpa using this) hlo5)
      have u2:=(hb6.cell (p:=⟨b,2,none⟩) hbV).trans v2
      have u3:=(hb6.cell (p:=⟨b,3,none⟩) hbV).trans v3
      have up:=(hb6.cell (p:=⟨w2.heap.size + 1,0,none⟩) hPV).trans vp
      have Ho6:=Lib.hid ho6;have Hb6:=Lib.hid hb6;have Hlo5:=Lib.hid hlo5
      have hkw:IntKind.i64.wrap ((k:Int) + 1) = (k:Int) + 1:=IntWalk.i64_in _ (by omega)
      have Hkw:=Lib.hid hkw
      clear hkw ho6 hb6 hk6 hz6 hlo5 hne Ho5 Hb5 hb05 g0 g1 g2 g3 g4 g5 g6 g7 v2 v3 vp vj y0 y1 y2 y3 yf
      go_upto_if 67 with (fail)
      go_cut [] (fun wx => Below V.heap.size V wx ∧ wx.ownsRow V.heap.size 2 1 (.slice A5 r c5) r (nums .i64 (valL sz ps q x (k + 1))))
      case first =>
        by_cases hlast:k + 1 < n
        · have hvv:valL sz ps q x (k + 1) = reluL (zL sz ps q k (valL sz ps q x k)):=by
            have:=Hn.out
            show (if k + 1 < sz.length - 1 then _ else _) = _
            rw [if_pos (by omega)]
          have hzl:=zL_len sz ps q k (valL sz ps q x k)
          rw [Hr.out] at hzl
          obtain ⟨z,hz⟩:∃ z,zL sz ps q k (valL sz ps q x k) = z:=⟨_,rfl⟩
          rw [hz] at hzl hvv
          have ho7:=Ho6.out
          rw [hz] at ho7
          have hall:=mixed_all z (fun i => max (nth z i) 0)
          unfold reluL at hvv
          rw [← hall,hzl] at hvv
          have Hzl:=Lib.hid hzl;have Ho7:=Lib.hid ho7;have Hvv:=Lib.hid hvv;clear hall hzl hz hvv ho7 u2 u3 up
          go_wp2_with fail
          have hdec:decide ((k:Int) + 1 < n) = true:=decide_eq_true (by omega)
          rw [hdec]
          clear hlast hdec
          go_loopw [70] (fun i wx => ∃ j:Nat,j ≤ r ∧ i = .int .i64 j ∧ wx.ownsRow V.heap.size 2 1 (.slice A5 r c5) r (nums .i64 (mixed z j (fun i => max (nth z i) 0))) ∧ Below V.heap.size V wx) (fun i _ => r - (intOf i).toNat)
          case atStart => exact ⟨0,Nat.zero_le _,rfl,by rw [mixed_zero];exact Ho7.out,Hb6.out⟩
          case round =>
            obtain ⟨j,hj,rfl,hown,hb7⟩:=hrel
            by_cases hlt:j < r
            · obtain ⟨g7,d7,hv7,hg7,_⟩:=hown.form (by omega)
              simp only [Value.slice.injEq] at hv7
              obtain ⟨rfl,hx7,rfl⟩:=hv7
              clear hx7
              have hjz:j < z.length:=by rw [Hzl.out];exact hlt
              have p1:=own_num hown hlt
              rw [mixed_nth _ hjz,if_neg (by omega)] at p1
              have f1:=hown.frozenAt j
              have hst:=mixed_set (l:=z) (k:=j) (fun i => max (nth z i) 0) hjz
              have HO:=Lib.hid hown;have HB:=Lib.hid hb7;have Hst:=Lib.hid hst;clear hown hb7 hst hjz
              go_wp2_with fail
              refine (relu_any _ _).mono ?_
              rintro e w9 ⟨rfl,rfl⟩
              go_wp2_with fail
              go_roundw
              case rel => exact ⟨j + 1,by omega,by go_num,by rw [← Hst.out];exact own_put HO.out j _,HB.out.setCell (p:=⟨g7,j,none⟩) hg7 _⟩
              case measure => simp [intOf];omega
            · obtain rfl:j = r:=by omega
              have HO:=Lib.hid hown;have HB:=Lib.hid hb7;clear hown hb7
              go_wp2_with fail
              go_meet
              exact ⟨HB.out,by rw [Hvv.out];exact HO.out⟩
        · have hvv:valL sz ps q x (k + 1) = zL sz ps q k (valL sz ps q x k):=by
            have:=Hn.out
            show (if k + 1 < sz.length - 1 then _ else _) = _
            rw [if_neg (by omega)]
          have Hvv:=Lib.hid hvv;clear hvv
          go_wp2_with fail
          go_meet
          exact ⟨Hb6.out,by rw [Hvv.out];exact Ho6.out⟩
      case rest =>
        obtain ⟨hb7,ho7⟩:=hcut
        have hbr7:Below wr.heap.size wr wc:=HVb.out.trans (hb7.mono HVb.out.size)
        have hP7:=(hbr7.block _ hPl).trans HP.out
        have ho17:=own_below Ho.out hbr7
        have Hb7:=Lib.hid hb7;have Ho7:=Lib.hid ho7;have HP7:=Lib.hid hP7;have Ho17:=Lib.hid ho17;have Hbr7:=Lib.hid hbr7;clear hb7 ho7 hP7 ho17 hbr7 u2 u3 up
        have hwz:w.heap.size ≤ wc.heap.size:=by have:=Hbr7.out.size;omega
        have hwP:w.heap.size ≤ w2.heap.size + 1:=by have:=HW2.out.size;omega
        have htr:=trace1_any (w2.heap.size + 1) w.heap.size (some ⟨go,0,none⟩) A5 (k + 1) co r c5 vals wc HP7.out Ho17.out (by omega) hwz hwP
        have Htr:=Lib.hid htr;clear htr
        go_wp2_with fail
        refine Htr.out.mono ?_
        rintro e w8 ⟨⟨v8,rfl⟩,A8,c8,hP8,ho8,hk8⟩
        have hbw8:Below w.heap.size w w8:=(HW.out.trans (Hbr7.out.mono HW.out.size)).trans (hk8.toBelow hwz (fun i hi => by
          rcases hi with rfl | hi
          · exact hwP
          · exact (Ho17.out.lt i hi).1))
        have hkeep:∀ {m:Nat} {u:Value} {ys:List Value},wc.ownsRow w.heap.size 2 1 u m ys → w8.ownsRow w.heap.size 2 1 u m ys:=fun h => hk8.own h (fun i hi e => by
          rcases e with rfl | e
          · exact block_notrow HP7.out (by decide) h hi.symm
          · exact own_types Ho17.out h (by decide) i e hi)
        have hvl0:=Ho17.out.1
        go_wp2_with fail
        go_roundw
        case rel =>
          refine ⟨k + 1,by omega,by go_num,A8,c8,vals ++ [.slice A5 r c5],hP8,ho8,fun j hj => ?_,hbw8⟩
          rcases Nat.lt_or_ge j (k + 1) with hjk | hjk
          · obtain ⟨Aj,cj,h1,h2⟩:=Hv.out j (by omega)
            exact ⟨Aj,cj,by rw [List.getElem?_append_left (by omega)];exact h1,hkeep (own_below h2 Hbr7.out)⟩
          · obtain rfl:j = k + 1:=by omega
            refine ⟨A5,c5,?_,?_⟩
            · rw [List.getElem?_append_right (by omega),Hr.out]
              simp [show vals.length = k + 1 by omega]
            · rw [Hr.out]
              exact hkeep (own_base Ho7.out (by have:=HVb.out.size;omega))
        case measure => simp [intOf];omega
    · obtain rfl:k = n:=by omega
      have hnl:=Hnl.out
      have hva:VecsAt wr vals sz.length (valL sz ps q x):=by
        refine ⟨?_,fun j hj => ?_⟩
        · have:=Ho.out.1;omega
        · obtain ⟨Aj,cj,h1,h2⟩:=Hv.out j (by omega)
          have hvl:=valL_len (sz:=sz) (ps:=ps) (q:=q) Hx.out j
          obtain ⟨A',c',e,hc⟩:=own_form h2
          injection e with e1 e2 e3
          subst e1;subst e3
          rw [hvl]
          exact ⟨_,_,h1,hc,Rd.own h2⟩
      have hcc:sz.length ≤ co:=by
        obtain ⟨A',c',e,hc⟩:=own_form Ho.out
        injection e with e1 e2 e3
        omega
      have hro:=Rd.own Ho.out
      have Hro:=Lib.hid hro;have Hva:=Lib.hid hva;have Hcc:=Lib.hid hcc;clear hro hva hcc
      clear hnl
      go_wp2_with fail
      go_ret2
      exact ⟨some ⟨go,0,none⟩,co,vals,(by rw [Hnl.out];rfl),Hro.out,Hva.out,Hcc.out,HW.out⟩
end Go.Proofs.YthamijnggdjaoaaGreatDoor
namespace Go.Proofs.YthamijnggdjaoaaGreatDoor
open Go.RowKit
def missL (a y:List Int):List Int:=upTo a.length fun i => wrap64 (nth a i - nth y i)
theorem missL_len (a y:List Int):(missL a y).length = a.length:=upTo_len _ _
theorem missL_W64 (a y:List Int):W64 (missL a y):=upTo_W64 fun _ _ => wrap64_bd _
set_option maxRecDepth 100000 in
set_option maxHeartbeats 1000000 in
theorem miss_ok (b:Nat) (sz ps:List Int) (q:Int) (A B:Option Addr) (x y:List Int) (c d:Nat) (w:World) (h:NetAt 123 130 w b sz ps q) (hg:GoodSz sz) (wp:W64 ps) (hA:Rd w A (nums .i64 x)) (hx:x.length = szN sz 0) (wx:W64 x) (hB:Rd w B (nums .i64 y)) (hy:y.length = szN sz (sz.length - 1)) :
    Calls Tryz.prog 67 #[.pointer (some ⟨b,0,none⟩),.slice A x.length c,.slice B y.length d] w fun e w' => ∃ A' c' D dc vals,e = .returned (.tuple #[.slice A' sz.length c',.slice D y.length dc,.bool true]) ∧ Rd w' A' vals ∧ VecsAt w' vals sz.length (valL sz ps q x) ∧ sz.length ≤ c' ∧
      w'.ownsRow w.heap.size 2 1 (.slice D y.length dc) y.length (nums .i64 (missL (valL sz ps q x (sz.length - 1)) y)) ∧ Below w.heap.size w w':=by
  have ht:=trace_ok b sz ps q A x c w h hg wp hA hx wx
  have hv:=valL_len (sz:=sz) (ps:=ps) (q:=q) hx (sz.length - 1)
  have hl:=hg.1.1
  have hmb:=(hg.1.at (k:=sz.length - 1) (by omega)).2.1
  have hne:((y.length:Int) != (szN sz (sz.length - 1):Int)) = false:=by simp;omega
  obtain ⟨n,hn⟩:∃ n,sz.length = n:=⟨_,rfl⟩
  obtain ⟨m,hm⟩:∃ m,y.length = m:=⟨_,rfl⟩
  rw [hn] at ht hl hv hne hy hmb ⊢
  rw [← hy,hm] at hv hne hmb
  rw [hm]
  obtain ⟨a,ha⟩:∃ a,valL sz ps q x (n - 1) = a:=⟨_,rfl⟩
  have hall:=mixed_all a (fun i => wrap64 (nth a i - nth y i))
  rw [ha] at hv ⊢
  unfold missL
  rw [← hall,hv]
  clear hall
  have Ha:=Lib.hid ha;clear ha
  have Ht:=Lib.hid ht;have Hv:=Lib.hid hv;have HB:=Lib.hid hB;have Hm:=Lib.hid hm;clear ht h hg wp hA hx wx hn hv hm hB hy
  obtain ⟨hl1,hl2⟩:=hl
  go_enter Tryz.func67,Tryz.ntmps67
  go_wp2_with fail
  refine Ht.out.mono ?_
  rintro e w1 ⟨A',c',vals,rfl,hr,hva,hc,hb⟩
  obtain ⟨Aj,cj,e1,e2,e3⟩:=hva.2 (n - 1) (by omega)
  rw [Ha.out,Hv.out] at e1 e2
  rw [Ha.out] at e3
  have hrr:=hr
  obtain ⟨bo,oo,rfl,p0⟩:=hr _ _ e1
  have hw2:(n:Int) - 1 = ((n - 1:Nat):Int):=by omega
  have hw:IntKind.i64.wrap ((n:Int) - 1) = ((n - 1:Nat):Int):=by rw [IntWalk.i64_in _ (by omega)];omega
  have hi:((n - 1:Nat):Int) < n:=by omega
  have hi2:n - 1 < n:=by omega
  have hal:=Hv.out
  have hcl:=vclone_any Aj a cj w1 e3 (by omega)
  rw [hal] at hcl
  have Hcl:=Lib.hid hcl;have Hal:=Lib.hid hal;have Hb:=Lib.hid hb;have Hva:=Lib.hid hva;have Hrr:=Lib.hid hrr;have Hc:=Lib.hid hc;clear hr hrr hva e1 e2 e3 hb hcl hal hc
  rw [hw2] at hw
  go_wp2_with fail
  refine Hcl.out.mono ?_
  rintro e w2 ⟨D,dc,rfl,hdc,ho2,hb2⟩
  have hW2:=Hb.out.trans (hb2.mono Hb.out.size)
  have hbz:=Hb.out.size
  have Ho2c:=Lib.hid ho2
  have ho2:=own_base ho2 hbz
  have HW2:=Lib.hid hW2;have Ho2:=Lib.hid ho2;have Hb2:=Lib.hid hb2;clear hW2 ho2 hb2 p0 hw hw2 hi hi2 hne
  go_wp2_with fail
  go_loopw [42] (fun i wr => ∃ k:Nat,k ≤ m ∧ i = .int .i64 k ∧ wr.ownsRow w.heap.size 2 1 (.slice D m dc) m (nums .i64 (mixed a k (fun i => wrap64 (nth a i - nth y i)))) ∧ Keep (fun i => (Value.slice D m dc).ownBlock = some i) w2 wr) (fun i _ => m - (intOf i).toNat)
  case atStart => exact ⟨0,Nat.zero_le _,rfl,by rw [mixed_zero];exact Ho2.out,Keep.refl _ _⟩
  case round =>
    obtain ⟨k,hk,rfl,hown,hK⟩:=hrel
    by_cases hlt:k < m
    · obtain ⟨g7,d7,hv7,hg7,_⟩:=hown.form (by omega)
      simp only [Value.slice.injEq] at hv7
      obtain ⟨rfl,hx7,rfl⟩:=hv7
      clear hx7
      have hjz:k < a.length:=by rw [Hal.out];exact hlt
      have p1:=own_num hown hlt
      rw [mixed_nth _ hjz,if_neg (by omega)] at p1
      have f1:=hown.frozenAt k
      have hst:=mixed_set (l:=a) (k:=k) (fun i => wrap64 (nth a i - nth y i)) hjz
      obtain ⟨by0,oy,rfl,py⟩:=HB.out.num (show k < y.length by rw [Hm.out];exact hlt)
      have hby:by0 < w.heap.size:=lt_of_cell py
      have hne:g7 ≠ by0:=by omega
      have hbw:Below w.heap.size w wr:=HW2.out.trans (hK.toBelow HW2.out.size (fun i hi => (Ho2.out.lt i hi).1))
      have pyr:=(hbw.cell (p:=⟨by0,oy + k,none⟩) hby).trans py
      have HO:=Lib.hid hown;have HK:=Lib.hid hK;have Hst:=Lib.hid hst;clear hown hK hst hjz hbw py
      go_wp2_with fail
      have hki:(k:Int) < m:=by omega
      have hSw:(fun w':World => w'.cell? ⟨g7,k,none⟩ = some (.int .i64 (nth a k)) ∧ w'.cell? ⟨by0,oy + k,none⟩ = some (.int .i64 (nth y k))) wr.drew:=⟨p1,pyr⟩
      refine XA.g 11 (fun w':World => w'.cell? ⟨g7,k,none⟩ = some (.int .i64 (nth a k)) ∧ w'.cell? ⟨by0,oy + k,none⟩ = some (.int .i64 (nth y k))) ?_
      refine XA.t ?_ [0,1,2,3,4,5,6,7,8,9] hSw ?_
      refine XA.o 10 (fun K hK => ?_)
      go_simp
      refine (sub_any _ _ _).mono ?_
      rintro e w9 ⟨rfl,rfl⟩
      dsimp only
      refine hK.out _ _ hSw (fun hSw => ?_)
      clear hK K hSw
      refine XA.e ?_
      simp only [List.drop_succ_cons,List.drop_zero]
      go_wp2_with fail
      go_roundw
      case rel =>
        refine ⟨k + 1,by omega,by go_num,?_,?_⟩
        · rw [← Hst.out];exact own_put (own_drewN HO.out 1) k _
        · exact Keep.setCell (HK.out.drewN 1) ⟨g7,k,none⟩ (.inr rfl) _
      case measure => simp [intOf];omega
    · obtain rfl:k = m:=by omega
      have hb2r:Below w1.heap.size w1 wr:=Hb2.out.trans (hK.toBelow Hb2.out.size (fun i hi => (Ho2c.out.lt i hi).1))
      have HO:=Lib.hid hown;have HB2:=Lib.hid hb2r;clear hown hb2r hK
      go_wp2_with fail
      go_ret3
      exact ⟨_,_,_,_,vals,rfl,Hrr.out.below HB2.out,Hva.out.below HB2.out,Hc.out,HO.out,Hb.out.trans (HB2.out.mono Hb.out.size)⟩
def lossN (sz ps:List Int) (q:Int) (x y:List Int):Int:=dotL (missL (valL sz ps q x (sz.length - 1)) y) (missL (valL sz ps q x (sz.length - 1)) y) q
theorem loss_ok (b:Nat) (sz ps:List Int) (q:Int) (A B:Option Addr) (x y:List Int) (c d:Nat) (w:World) (h:NetAt 123 130 w b sz ps q) (hg:GoodSz sz) (wp:W64 ps) (hA:Rd w A (nums .i64 x)) (hx:x.length = szN sz 0) (wx:W64 x) (hB:Rd w B (nums .i64 y)) (hy:y.length = szN sz (sz.length - 1)) :
    Calls Tryz.prog 21 #[.pointer (some ⟨b,0,none⟩),.slice A x.length c,.slice B y.length d] w fun e w' => e = .returned (.tuple #[.int .i64 (lossN sz ps q x y),.bool true]) ∧ Below w.heap.size w w':=by
  have hm:=miss_ok b sz ps q A B x y c d w h hg wp hA hx wx hB hy
  have hml:(missL (valL sz ps q x (sz.length - 1)) y).length = y.length:=by rw [missL_len,valL_len hx,hy]
  have hmb:=(hg.1.at (k:=sz.length - 1) (by have:=hg.1.1;omega)).2.1
  rw [← hy] at hmb
  have hbl:=h.lt
  obtain ⟨S,Ap,cp,Al,cl,rows,h0,h1,h2,h3,h4,h5,h6⟩:=h
  unfold lossN
  obtain ⟨e,he⟩:∃ e,missL (valL sz ps q x (sz.length - 1)) y = e:=⟨_,rfl⟩
  have we:W64 e:=he ▸ missL_W64 _ _
  rw [he] at hm hml ⊢
  have Hm:=Lib.hid hm;have Hml:=Lib.hid hml;have H0:=Lib.hid h0;have WE:=Lib.hid we
  clear hm hml h0 h1 h2 h3 h4 h5 h6 he we hA hx wx hB hy wp hg
  go_enter Tryz.func21,Tryz.ntmps21
  go_wp2_with fail
  refine Hm.out.mono ?_
  rintro e9 w1 ⟨A',c',D,dc,vals,rfl,hr,hva,hc,ho,hb⟩
  have h1:=(hb.block b hbl).trans H0.out
  obtain ⟨⟨r0,r1,r2,r3⟩,rf⟩:=bx4 h1
  have hrd:=Rd.own ho
  have hd:=dot_any D D e e dc dc q w1 hrd hrd rfl (by rw [Hml.out];omega) WE.out WE.out
  rw [Hml.out] at hd
  have Hd:=Lib.hid hd;have Hb:=Lib.hid hb;clear hr hva hc ho hb h1 hrd hd
  go_wp2_with fail
  refine Hd.out.mono ?_
  rintro e9 w2 ⟨rfl,hb2⟩
  have Hb2:=Lib.hid hb2;clear hb2 r0 r1 r2 r3 rf
  go_wp2
  go_ret2
  exact ⟨rfl,Hb.out.trans (Hb2.out.mono Hb.out.size)⟩
end Go.Proofs.YthamijnggdjaoaaGreatDoor
namespace Go.Proofs.YthamijnggdjaoaaGreatDoor
open Go.RowKit Go.Shelf
theorem rows_inRound {l n:Nat} {P:Program} {row:String} {args:Array Value} {w:World} {R:Value → World → Prop} (h:Rows P row args w R):RowsIn (Fence.wide.inRound l) n P row args w R:=
  fun c cs _ => let ⟨v,w',r,s⟩:=h c cs;⟨v,w',r,(stepsIn_wide (P:=P)).2 s⟩
theorem oper_inRound {l n:Nat} {P:Program} {o:Oper} {a:Act} {w:World} {K:Act → World → Prop} {Q:Exit → Act → World → Prop} (hnd:∀ c,o.op ≠ .defer c) (h:o.wp P a w K Q):o.wpIn (Fence.wide.inRound l) n P a w K Q:=by
  unfold Oper.wp at h
  unfold Oper.wpIn
  refine ⟨fun _ _ => trivial,?_⟩
  rw [Oper.semAt_plain _ _ _ hnd]
  generalize (execOp a.eval o).run P w = r at *
  cases r with
  | ok x w' =>
    cases x <;> simp only [Oper.upon,Oper.uponIn] at h ⊢ <;>
      first
        | exact h
        | exact ⟨fun h' => (by cases h'),CallsIn.inRound l (callsIn_wide.2 h)⟩
        | exact ⟨fun h' => (by cases h'),rows_inRound h⟩
        | exact h.elim
  | halt x w' => cases x <;> simp only [Oper.upon,Oper.uponIn] at h ⊢ <;> exact h
theorem wpOp_inRound {l n:Nat} {P:Program} {ops:Array Oper} {Q:Exit → Act → World → Prop} (hnd:∀ (i:Nat) (o:Oper),ops[i]? = some o → ∀ c,o.op ≠ .defer c) (hno:¬ LetsOut Q) {i:Nat} {K:Act → World → Prop} {a:Act} {w:World}
    (h:wpOp P ops Q i K a w):wpOpIn (Fence.wide.inRound l) n P ops Q i K a w:=by
  unfold wpOp at h
  unfold wpOpIn
  split at h
  · rename_i hi;simp only [hi];exact h
  · rename_i o hi
    simp only [hi]
    split at h
    · rename_i hw
      rw [if_pos hw]
      rcases h with h | ⟨_,h⟩
      · exact oper_inRound (hnd i o hi) h
      · exact absurd h hno
    · rename_i hw
      rw [if_neg hw]
      exact ⟨fun _ _ => trivial,h⟩
theorem wpAny_inRound {l n:Nat} {P:Program} {md:Region.Mode} {ops:Array Oper} {Q:Exit → Act → World → Prop} (hnd:∀ (i:Nat) (o:Oper),ops[i]? = some o → ∀ c,o.op ≠ .defer c) (hno:¬ LetsOut Q):∀ (fuel:Nat) (listed:Array Bool) (a:Act) (w:World),
    wpAny P md ops Q fuel listed a w → wpAnyIn (Fence.wide.inRound l) n P md ops Q fuel listed a w
  | 0,_,_,_,h => h
  | fuel + 1,_,_,_,h => ⟨h.1,fun i hi => wpOpIn_mono (fun a' w' h' => wpAny_inRound hnd hno fuel _ a' w' h') (wpOp_inRound hnd hno (h.2 i hi))⟩
def Defers:Op → Bool
  | .defer _ => true
  | _ => false
theorem noDefer {ops:Array Oper} (h:ops.all (fun o => !Defers o.op) = true):∀ (i:Nat) (o:Oper),ops[i]? = some o → ∀ c,o.op ≠ .defer c:=fun i o ho c e => by
  have:=(Array.all_eq_true.1 h) i (Array.getElem?_eq_some_iff.1 ho).1
  rw [(Array.getElem?_eq_some_iff.1 ho).2,e] at this
  cases this
theorem region_inRound {l n:Nat} {P:Program} {ops:Array Oper} {Q:Exit → Act → World → Prop} (S:World → Prop) {id:Nat} {a:Act} {w:World} (hm:P.follows .mixedOrders = true) (hnd:ops.all (fun o => !Defers o.op) = true) (hno:¬ LetsOut Q)
    (h:wpAnyH P .any ops Q S ops.size (Array.replicate ops.size false) a w.drew):(Code.region id ops true).wpIn (Fence.wide.inRound l) n P Q a w:=
  wpIn_region_any hm (wpAny_inRound (noDefer hnd) hno _ _ _ _ (wpAny_of_held _ _ _ _ h))
end Go.Proofs.YthamijnggdjaoaaGreatDoor
namespace Go.Proofs.YthamijnggdjaoaaGreatDoor
open Go.RowKit Go.Shelf
attribute [local go_sem] Oper.semAt_some
theorem own_cells {W:World} {base:Nat} {e:TypeId} {size n c G:Nat} {xs:List Value} {o:Obj} (h:W.ownsRow base e size (.slice (some ⟨G,0,none⟩) n c) n xs) (ho:W.heap[G]? = some o):o.isCells = true:=by
  rcases h.2 with ⟨h0,_⟩ | ⟨g,cap,cur,hv,_,hgb,_⟩
  · cases h0
  · simp only [Value.slice.injEq,Option.some.injEq,Addr.mk.injEq] at hv
    rw [← hv.1.1,ho] at hgb
    cases hgb;rfl
def backF (ms:List Int) (c:Nat) (ys:List Int) (q:Int) (acc:List Int) (k:Nat):List Int:=addL acc (scaleL (mrow ms c k) (nth ys k) q)
def backL (ms:List Int) (r c:Nat) (ys:List Int) (q:Int):List Int:=(List.range r).foldl (backF ms c ys q) (List.replicate c 0)
theorem backF_len (ms:List Int) (c:Nat) (ys:List Int) (q:Int) (acc:List Int) (k:Nat):(backF ms c ys q acc k).length = acc.length:=upTo_len _ _
theorem back_fin (ms:List Int) (r c:Nat) (ys:List Int) (q:Int):((List.finRange r).foldl (fun acc k => backF ms c ys q acc k.1) (List.replicate c 0)) = backL ms r c ys q:=by
  unfold backL
  have h:List.range r = (List.finRange r).map (·.1):=List.ext_getElem (by simp) (by simp)
  rw [h,List.foldl_map]
theorem mscale_any (r c k:Nat) (g o:Nat) (ms:List Int) (y q:Int) (W:World) (hk:k < r) (hc:1 ≤ c ∧ c ≤ 1048576) (hms:ms.length = r * c)
    (hA:Rd W (some ⟨g,o,none⟩) (nums .i64 ms)) (wm:W64 ms) (hy:-9223372036854775808 ≤ y ∧ y ≤ 9223372036854775807) :
    Calls Tryz.prog 287 #[.slice (some ⟨g,o + k * c,none⟩) c c,.int .i64 y,.int .i64 q] W fun e w' => ∃ A' c',e = .returned (.slice A' c c') ∧ w'.ownsRow W.heap.size 2 1 (.slice A' c c') c (nums .i64 (scaleL (mrow ms c k) y q)) ∧ Below W.heap.size W w':=by
  have:=scale_any (some ⟨g,o + k * c,none⟩) (mrow ms c k) c y q W (mrow_rd hA hk hms) (by rw [mrow_len];omega) (mrow_W64 wm hk hms) hy
  rwa [mrow_len] at this
def BackI (r c:Nat) (g o nn d:Nat) (ms:List Int) (B:Option Addr) (ys:List Int) (e:Nat) (q:Int) (w:World) (G N M:Nat) (pre:List (Fin r)) (W:World):Prop:=
  (W.ownsRow w.heap.size 2 1 (.slice (some ⟨G,0,none⟩) c c) c (nums .i64 (pre.foldl (fun acc k => backF ms c ys q acc k.1) (List.replicate c 0))) ∧ Boxed W N 65 (.slice (some ⟨G,0,none⟩) c c) ∧ Boxed W (w.heap.size + 1) 65 (.slice B r e) ∧ Boxed W (w.heap.size + 1 + 1) 3 (.int .i64 q) ∧ W.heap[M]? = some (.cells #[.int .i64 r,.int .i64 c,.slice (some ⟨g,o,none⟩) nn d] 133 (0,0))) ∧ Below w.heap.size w W
theorem backI_own (r c:Nat) (g o nn d:Nat) (ms:List Int) (B:Option Addr) (ys:List Int) (e:Nat) (q:Int) (w:World) (G N M K:Nat) (hK:w.heap.size ≤ K):OwnFrom K (BackI r c g o nn d ms B ys e q w G N M):=by
  intro s W W' row hs hg hr
  obtain ⟨⟨h1,h2,h3,h4,h5⟩,h6⟩:=hs
  have k6:=ownFrom_below (β:=Unit) (Nat.le_refl _) hK () W W' row h6 hg hr
  exact ⟨⟨own_turn h1 hg hr,block_turn rfl h2 hg hr,block_turn rfl h3 hg hr,block_turn rfl h4 hg hr,block_turn rfl h5 hg hr⟩,k6⟩
set_option maxRecDepth 100000 in
set_option maxHeartbeats 2000000 in
theorem mback_any (r c:Nat) (g o nn d:Nat) (ms:List Int) (B:Option Addr) (ys:List Int) (e:Nat) (q:Int) (w:World) (hr:1 ≤ r ∧ r ≤ 1048576) (hc:1 ≤ c ∧ c ≤ 1048576) (hnn:nn = r * c) (hd:nn ≤ d) (hm:nn ≤ 17592186043904)
    (hms:ms.length = nn) (hA:Rd w (some ⟨g,o,none⟩) (nums .i64 ms)) (wm:W64 ms) (hB:Rd w B (nums .i64 ys)) (hyl:ys.length = r) (wy:W64 ys) :
    Calls Tryz.prog 258 #[.agg #[.int .i64 r,.int .i64 c,.slice (some ⟨g,o,none⟩) nn d],.slice B r e,.int .i64 q] w fun e w' => ∃ A' c',e = .returned (.tuple #[.slice A' c c',.bool true]) ∧ w'.ownsRow w.heap.size 2 1 (.slice A' c c') c (nums .i64 (backL ms r c ys q)) ∧ Below w.heap.size w w':=by
  have hrt:=fun w' => right_any r c (some ⟨g,o,none⟩) nn d w' hr hc hnn hm
  have hrw:=fun cs w' => rows_any cs w'
  have hmk:(8:Nat) * c ≤ 281474976710656:=by omega
  have Hmk:=Lib.hid hmk;clear hmk
  have Hrt:=Lib.hid hrt;have Hrw:=Lib.hid hrw;have Hnn:=Lib.hid hnn;have Hms:=Lib.hid hms;have Hyl:=Lib.hid hyl;have HA:=Lib.hid hA;have HB:=Lib.hid hB;have WM:=Lib.hid wm;have WY:=Lib.hid wy;clear hrt hrw hnn hms hyl hA hB wm wy
  refine (callsIn_wide (n:=3)).1 ?_
  refine callsIn_of_wp_marks Tryz.func258 rfl trivial ?_ rfl
  simp only [Tryz.ntmps258,List.size_toArray,List.length_cons,List.length_nil,Nat.reduceAdd,Nat.reduceSub,Array.replicate_succ,Array.replicate_zero,List.push_toArray,List.append_toArray,List.nil_append,List.cons_append]
  gi_wp2_with fail
  refine ⟨trivial,?_⟩
  refine (callsIn_wide.2 (Hrt.out _)).mono ?_
  rintro e w1 ⟨rfl,rfl⟩
  gi_wp2_with (gi_at_make;refine wpListIn_mk et_vec _ rfl (.tmp 22) (.tmp 22) rfl rfl c rfl rfl Hmk.out (by unfold maxLen;omega) ?_)
  intro w2 hown2 hb2
  rw [nums_rep] at hown2
  have hb02:Below w.heap.size w w2:=Below.trans (((((Below.refl _ w).alloc (Nat.le_refl _) _).alloc (by simp) _).alloc (by simp;omega) _).alloc (by simp;omega) _) (hb2.mono (by omega))
  have h3:w2.heap[w.heap.size]? = some (.cells #[.int .i64 r,.int .i64 c,.slice (some ⟨g,o,none⟩) nn d] 133 (0,0)):=by
    refine (hb2.block w.heap.size (by omega)).trans ?_
    refine (Below.heap_alloc _ _ _ (by first | (simp;done) | (simp;omega))).trans ((Below.heap_alloc _ _ _ (by first | (simp;done) | (simp;omega))).trans ((Below.heap_alloc _ _ _ (by simp)).trans (heap_alloc_new w _)))
  have h4:Boxed w2 (w.heap.size + 1) 65 (.slice B r e):=by
    refine (hb2.block (w.heap.size + 1) (by omega)).trans ?_
    refine (Below.heap_alloc _ _ _ (by first | (simp;done) | (simp;omega))).trans ((Below.heap_alloc _ _ _ (by simp)).trans ?_)
    have:=heap_alloc_new (w.alloc (.cells #[.int .i64 r,.int .i64 c,.slice (some ⟨g,o,none⟩) nn d] 133)) (.cells #[.slice B r e] 65)
    simpa using this
  have h5:Boxed w2 (w.heap.size + 1 + 1) 3 (.int .i64 q):=by
    refine (hb2.block (w.heap.size + 1 + 1) (by omega)).trans ?_
    refine (Below.heap_alloc _ _ _ (by simp)).trans ?_
    have:=heap_alloc_new ((w.alloc (.cells #[.int .i64 r,.int .i64 c,.slice (some ⟨g,o,none⟩) nn d] 133)).alloc (.cells #[.slice B r e] 65)) (.cells #[.int .i64 q] 3)
    simpa using this
  obtain ⟨G,hG⟩:∃ G,w.heap.size + 1 + 1 + 1 + 1 = G:=⟨_,rfl⟩
  rw [hG] at hown2 hb2 ⊢
  have Hown2:=Lib.hid hown2;have Hb02:=Lib.hid hb02;have HG:=Lib.hid hG;have H3:=Lib.hid h3;have H4:=Lib.hid h4;have H5:=Lib.hid h5
  obtain ⟨⟨m0,m1,m2⟩,mf⟩:=bx3 h3
  have hs2:w.heap.size < w2.heap.size:=lt_of_block h3
  clear hown2 hb2 hb02 hG h3 h4 h5
  gi_wp2_with fail
  refine ⟨trivial,?_⟩
  refine (callsIn_wide.2 (Hrw.out _ _)).mono ?_
  rintro e w1 ⟨rfl,rfl⟩
  gi_wp2_with fail
  obtain ⟨W0,hW0⟩:∃ W0,W0 = w2.alloc (.cells #[.slice (some ⟨G,0,none⟩) c c] 65):=⟨_,rfl⟩
  rw [← hW0]
  have hs0:W0.heap.size = w2.heap.size + 1:=by rw [hW0];simp
  have bO:Boxed W0 w2.heap.size 65 (.slice (some ⟨G,0,none⟩) c c):=by rw [hW0];exact Boxed.new w2 _ _
  have b4:Boxed W0 (w.heap.size + 1) 65 (.slice B r e):=by rw [hW0];exact H4.out.alloc _
  have b5:Boxed W0 (w.heap.size + 1 + 1) 3 (.int .i64 q):=by rw [hW0];exact H5.out.alloc _
  have r0:W0.ownsRow w.heap.size 2 1 (.slice (some ⟨G,0,none⟩) c c) c (nums .i64 (List.replicate c 0)):=by rw [hW0];exact own_base (Hown2.out.alloc _) (by have:=HG.out;omega)
  have hbel0:Below w.heap.size w W0:=by rw [hW0];exact Hb02.out.alloc (by omega) _
  have bM:(W0.alloc (.cells #[.int .i64 r,.int .i64 c,.slice (some ⟨g,o,none⟩) nn d] 133)).heap[W0.heap.size]? = some (.cells #[.int .i64 r,.int .i64 c,.slice (some ⟨g,o,none⟩) nn d] 133 (0,0)):=heap_alloc_new W0 _
  obtain ⟨N,hN⟩:∃ N,N = w2.heap.size:=⟨_,rfl⟩
  rw [← hN] at bO hs0 ⊢
  rw [← hs0]
  have HS0:=Lib.hid hs0;have HBl0:=Lib.hid hbel0;have HbM:=Lib.hid bM;have HbO:=Lib.hid bO;have Hb4:=Lib.hid b4;have Hb5:=Lib.hid b5;have Hr0:=Lib.hid r0;have HN:=Lib.hid hN;have HW0:=Lib.hid hW0
  clear hs0 hbel0 bM bO b4 b5 r0 hN hW0 m0 m1 m2 mf hs2
  have hI0:BackI r c g o nn d ms B ys e q w G N W0.heap.size [] (W0.alloc (.cells #[.int .i64 r,.int .i64 c,.slice (some ⟨g,o,none⟩) nn d] 133)):=⟨⟨Hr0.out.alloc _,HbO.out.alloc _,Hb4.out.alloc _,Hb5.out.alloc _,HbM.out⟩,HBl0.out.alloc (by have:=HBl0.out.size;omega) _⟩
  refine' wpIn_rangeFunc_ownG (F:=Fence.wide) (n:=3) rfl (by omega) (gf:=248) (lb:=#[.pointer (some ⟨W0.heap.size,0,none⟩)]) rfl trivial (enters_of Tryz.func248 (by kernel_rfl) rfl)
    (rows_stops _ W0.heap.size w.heap.size g o r c nn d hr.2 hc Hnn.out hd _ HbM.out) rowsKeep_t (rowsKeep_b (by have:=HBl0.out.size;simp;omega) (by simp)) (Below.refl _ _) (fun _ => rfl)
    (BackI r c g o nn d ms B ys e q w G N W0.heap.size)
    (fun _ _ _ => False)
    (backI_own r c g o nn d ms B ys e q w G N W0.heap.size _ (by have:=HBl0.out.size;simp;omega))
    (fun _ _ _ _ _ hs _ _ => hs)
    hI0
    _ ?assign ?body ?done ?stop
  case assign =>
    intro l x W K hK
    unfold rowEnc
    gi_wp2
    exact hK
  case body =>
    rintro l pre x W ⟨⟨hrow,hxO,hx4,hx5,hxM⟩,hBl⟩ hlt
    have hc4:=hx4.cell
    have hc5:=hx5.cell
    have hcO:=hxO.cell
    have Hrow:=Lib.hid hrow;have HO:=Lib.hid hxO;have HM:=Lib.hid hxM;have HBl:=Lib.hid hBl;have H4:=Lib.hid hx4;have H5:=Lib.hid hx5;have Hlt:=Lib.hid hlt;clear hrow hxM hBl hx4 hx5 hlt hxO
    have hGG:G < W.heap.size:=by
      obtain ⟨g6,d6,hv6,_,hg6⟩:=Hrow.out.form (by omega:0 < c)
      simp only [Value.slice.injEq,Option.some.injEq,Addr.mk.injEq] at hv6
      rw [hv6.1.1];exact hg6
    gi_wp2_with fail
    have hy1:x.1 < ys.length:=by rw [Hyl.out];exact x.2
    have hsc:=fun W' (k:Below W.heap.size W W') => mscale_any r c x.1 g o ms (nth ys x.1) q W' x.2 hc (Hms.out.trans Hnn.out) ((HA.out.below HBl.out).below k) WM.out (WY.out _ hy1)
    have hxr:(x.1:Int) < r:=by have:=x.2;omega
    obtain ⟨b2,o2,hBa,p2⟩:=(HB.out.below HBl.out).num hy1
    subst hBa
    have hGl:G < N:=by
      obtain ⟨g6,d6,hv6,_,hg6⟩:=Hown2.out.form (by omega:0 < c)
      simp only [Value.slice.injEq,Option.some.injEq,Addr.mk.injEq] at hv6
      have:=HN.out
      have h7:G < w2.heap.size:=by rw [hv6.1.1];exact hg6
      omega
    have hGN:¬ G = N:=by omega
    have hG1:¬ G = w.heap.size + 1:=by have:=HG.out;omega
    have hG2:¬ G = w.heap.size + 1 + 1:=by have:=HG.out;omega
    have hGb:¬ G = b2:=by
      obtain ⟨b3,o3,e3,p3⟩:=HB.out.num hy1
      have hb3:b3 < w.heap.size:=lt_of_cell p3
      simp only [Option.some.injEq,Addr.mk.injEq] at e3
      have:=HG.out
      omega
    have Hsc:=Lib.hid hsc;clear hsc hy1
    refine region_inRound (fun w' => w'.cell? ⟨N,0,none⟩ = some (.slice (some ⟨G,0,none⟩) c c) ∧ w'.cell? ⟨w.heap.size + 1,0,none⟩ = some (.slice (some ⟨b2,o2,none⟩) r e) ∧ w'.cell? ⟨w.heap.size + 1 + 1,0,none⟩ = some (.int .i64 q) ∧ w'.cell? ⟨b2,o2 + x.1,none⟩ = some (.int .i64 (nth ys x.1))) (by kernel_rfl) (by kernel_rfl) (by rintro ⟨_,_,h⟩;exact h) ?_
    have hSw:(fun w':World => w'.cell? ⟨N,0,none⟩ = some (.slice (some ⟨G,0,none⟩) c c) ∧ w'.cell? ⟨w.heap.size + 1,0,none⟩ = some (.slice (some ⟨b2,o2,none⟩) r e) ∧ w'.cell? ⟨w.heap.size + 1 + 1,0,none⟩ = some (.int .i64 q) ∧ w'.cell? ⟨b2,o2 + x.1,none⟩ = some (.int .i64 (nth ys x.1))) W.drew:=⟨hcO,hc4,hc5,p2⟩
    clear hcO hc4 hc5 p2
    refine wpAnyH_take (i:=0) (v:=?_) rfl (by kernel_rfl) (by kernel_rfl) (by kernel_rfl) (fun _ _ _ h => h) (Or.inl ⟨by rfl,?_⟩) hSw ?_
    rotate_left
    · intro w9 hS9;(try dsimp only at hS9);obtain ⟨s1,s2,s3,s4⟩:=hS9;go_simp;(try with_reducible rfl)
    simp only [List.getElem_toArray,List.getElem_cons_succ,List.getElem_cons_zero,Act.put,List.setIfInBounds_toArray,List.set_cons_zero,List.set_cons_succ]
    refine wpAnyH_take (i:=1) (v:=?_) rfl (by kernel_rfl) (by kernel_rfl) (by kernel_rfl) (fun _ _ _ h => h) (Or.inl ⟨by rfl,?_⟩) hSw ?_
    rotate_left
    · intro w9 hS9;(try dsimp only at hS9);obtain ⟨s1,s2,s3,s4⟩:=hS9;go_simp;(try with_reducible rfl)
    simp only [List.getElem_toArray,List.getElem_cons_succ,List.getElem_cons_zero,Act.put,List.setIfInBounds_toArray,List.set_cons_zero,List.set_cons_succ]
    refine wpAnyH_take (i:=2) (v:=?_) rfl (by kernel_rfl) (by kernel_rfl) (by kernel_rfl) (fun _ _ _ h => h) (Or.inl ⟨by rfl,?_⟩) hSw ?_
    rotate_left
    · intro w9 hS9;(try dsimp only at hS9);obtain ⟨s1,s2,s3,s4⟩:=hS9;go_simp;(try with_reducible rfl)
    simp only [List.getElem_toArray,List.getElem_cons_succ,List.getElem_cons_zero,Act.put,List.setIfInBounds_toArray,List.set_cons_zero,List.set_cons_succ]
    refine wpAnyH_take (i:=3) (v:=?_) rfl (by kernel_rfl) (by kernel_rfl) (by kernel_rfl) (fun _ _ _ h => h) (Or.inl ⟨by rfl,?_⟩) hSw ?_
    rotate_left
    · intro w9 hS9;(try dsimp only at hS9);obtain ⟨s1,s2,s3,s4⟩:=hS9;go_simp;(try with_reducible rfl)
    simp only [List.getElem_toArray,List.getElem_cons_succ,List.getElem_cons_zero,Act.put,List.setIfInBounds_toArray,List.set_cons_zero,List.set_cons_succ]
    refine wpAnyH_take (i:=4) (v:=?_) rfl (by kernel_rfl) (by kernel_rfl) (by kernel_rfl) (fun _ _ _ h => h) (Or.inl ⟨by rfl,?_⟩) hSw ?_
    rotate_left
    · intro w9 hS9;(try dsimp only at hS9);obtain ⟨s1,s2,s3,s4⟩:=hS9;go_simp;(try with_reducible rfl)
    simp only [List.getElem_toArray,List.getElem_cons_succ,List.getElem_cons_zero,Act.put,List.setIfInBounds_toArray,List.set_cons_zero,List.set_cons_succ]
    refine wpAnyH_take (i:=5) (v:=?_) rfl (by kernel_rfl) (by kernel_rfl) (by kernel_rfl) (fun _ _ _ h => h) (Or.inl ⟨by rfl,?_⟩) hSw ?_
    rotate_left
    · intro w9 hS9;(try dsimp only at hS9);obtain ⟨s1,s2,s3,s4⟩:=hS9;go_simp;(try with_reducible rfl)
    simp only [List.getElem_toArray,List.getElem_cons_succ,List.getElem_cons_zero,Act.put,List.setIfInBounds_toArray,List.set_cons_zero,List.set_cons_succ]
    refine wpAnyH_take (i:=6) (v:=?_) rfl (by kernel_rfl) (by kernel_rfl) (by kernel_rfl) (fun _ _ _ h => h) (Or.inl ⟨by rfl,?_⟩) hSw ?_
    rotate_left
    · intro w9 hS9;(try dsimp only at hS9);obtain ⟨s1,s2,s3,s4⟩:=hS9;go_simp;(try with_reducible rfl)
    simp only [List.getElem_toArray,List.getElem_cons_succ,List.getElem_cons_zero,Act.put,List.setIfInBounds_toArray,List.set_cons_zero,List.set_cons_succ]
    refine wpAnyH_ready (rs:=[7]) (by kernel_rfl) (by simp) ?_
    refine AllReadyH.cons rfl (fun K hK => ?_) AllReadyH.nil
    simp only [List.getElem_toArray,List.getElem_cons_succ,List.getElem_cons_zero]
    go_simp
    refine (Hsc.out _ ?_).mono ?_
    · exact (Below.refl _ W).drew
    rintro e w3 ⟨A',c',rfl,hown3,hb3⟩
    dsimp only
    refine hK.out _ _ ?_ (fun hS9 => ?_)
    · exact ⟨cell_below hb3 hSw.1,cell_below hb3 hSw.2.1,cell_below hb3 hSw.2.2.1,cell_below hb3 hSw.2.2.2⟩
    clear hK K
    have hr3:=own_below (w:=W.drew) Hrow.out hb3
    have hlt3:∀ a b,(some ⟨G,0,none⟩:Option Addr) = some a → A' = some b → a.block ≠ b.block:=fun a b ha hb => by
      cases ha;subst hb
      have h1:=(hown3.form (by omega:0 < c))
      obtain ⟨g5,d5,hv5,hg5,_⟩:=h1
      simp only [Value.slice.injEq,Option.some.injEq] at hv5
      rw [hv5.1]
      have h2:=Hrow.out.form (by omega:0 < c)
      obtain ⟨g6,d6,hv6,_,hg6⟩:=h2
      simp only [Value.slice.injEq,Option.some.injEq,Addr.mk.injEq] at hv6
      have h7:G < W.heap.size:=by rw [hv6.1.1];exact hg6
      show G ≠ g5
      have h8:W.heap.size ≤ g5:=hg5
      omega
    have hadd:=add_any w.heap.size (some ⟨G,0,none⟩) A' _ _ c c c' w3 hr3 (Rd.own hown3) (by unfold scaleL;rw [upTo_len,mrow_len]) (by omega) hlt3
    refine wpAnyH_ready (rs:=[8]) (by kernel_rfl) (by simp) ?_
    refine AllReadyH.cons rfl (fun K hK => ?_) AllReadyH.nil
    simp only [List.getElem_toArray,List.getElem_cons_succ,List.getElem_cons_zero,Act.put,List.setIfInBounds_toArray,List.set_cons_zero,List.set_cons_succ]
    have Hadd:=Lib.hid hadd;have Hr3:=Lib.hid hr3;have Hown3:=Lib.hid hown3;have Hb3:=Lib.hid hb3;clear hadd hr3 hown3 hb3 hlt3
    go_simp
    refine Hadd.out.mono ?_
    rintro e w4 ⟨rfl,hown4,hk4⟩
    dsimp only
    refine hK.out _ _ ?_ (fun hS8 => ?_)
    · exact ⟨hk4.cell hS9.1 (by simp [Value.ownBlock];exact hGN),hk4.cell hS9.2.1 (by simp [Value.ownBlock];exact hG1),hk4.cell hS9.2.2.1 (by simp [Value.ownBlock];exact hG2),hk4.cell hS9.2.2.2 (by simp [Value.ownBlock];exact hGb)⟩
    refine wpAnyH_done (by kernel_rfl) ?_ _
    have hKW:Keep (fun i => (Value.slice (some ⟨G,0,none⟩) c c).ownBlock = some i) W w4:=((Keep.refl _ W).drew.trans (Keep.below Hb3.out)).trans hk4
    have hGw:w.heap.size ≤ G:=by have:=HG.out;omega
    have hbW:Below w.heap.size W w4:=hKW.toBelow HBl.out.size (fun k hk => by simp [Value.ownBlock] at hk;omega)
    have hGM:¬ G = W0.heap.size:=by have:=HS0.out;omega
    have hM4:=(hKW.block _ (lt_of_block HM.out) (by simp [Value.ownBlock];exact hGM)).trans HM.out
    refine ⟨(others_keep hKW fun k o hk ho => ?_).from _,⟨hbW,fun _ => hM4.trans HM.out.symm⟩,⟨⟨?_,?_,?_,?_,hM4⟩,HBl.out.trans hbW⟩⟩
    · simp only [Value.ownBlock,Option.some.injEq] at hk
      subst hk
      exact own_cells Hrow.out ho
    · rw [List.foldl_append];exact hown4
    · exact (hKW.block _ (lt_of_block HO.out) (by simp [Value.ownBlock];exact hGN)).trans HO.out
    · exact (hKW.block _ (lt_of_block H4.out) (by simp [Value.ownBlock];exact hG1)).trans H4.out
    · exact (hKW.block _ (lt_of_block H5.out) (by simp [Value.ownBlock];exact hG2)).trans H5.out
  case done =>
    rintro D zs W hD rfl ⟨⟨hrow,hxO,hx4,hx5,hxM⟩,hBl⟩ hK
    have hc:=hxO.cell
    gi_wp2
    refine ⟨by simp,.inl ⟨_,_,rfl,run_takeDeferred hK,?_⟩⟩
    rw [back_fin] at hrow
    refine ⟨.tuple #[.slice (some ⟨G,0,none⟩) c c,.bool true],by simp [results,Tryz.results258,go_sem],_,_,rfl,ownsRow_putObj hrow _ hK rfl,hBl.trans (belowK_b (w:=w) (Nat.le_refl _) W D _ _ (by have:=HBl0.out.size;simp at hD;omega) hK rfl rfl)⟩
  case stop =>
    rintro D c pre W _ _ h _
    exact h.elim
end Go.Proofs.YthamijnggdjaoaaGreatDoor
namespace Go.Proofs.YthamijnggdjaoaaGreatDoor
open Go.RowKit
def outV (c:Nat) (ys xs:List Int) (q:Int) (i:Nat):Int:=mulQ (nth ys (i / c)) (nth xs (i % c)) q
def outerL (r c:Nat) (ys xs:List Int) (q:Int):List Int:=upTo (r * c) (outV c ys xs q)
def outS (r c:Nat) (ys xs:List Int) (q:Int) (pre:List Nat) (x j:Nat):List Int:=upTo (r * c) fun i => if i / c ∈ pre ∨ (i / c = x ∧ i % c < j) then outV c ys xs q i else 0
theorem outS_len (r c:Nat) (ys xs:List Int) (q:Int) (pre:List Nat) (x j:Nat):(outS r c ys xs q pre x j).length = r * c:=upTo_len _ _
theorem outS_zero (r c:Nat) (ys xs:List Int) (q:Int) (x:Nat):List.replicate (r * c) 0 = outS r c ys xs q [] x 0:=
  eq_upTo (by simp) fun k hk => by
    rw [nth_eq _ _ (by simpa using hk)]
    simp
theorem outS_set {r c:Nat} {ys xs:List Int} {q:Int} {pre:List Nat} {x j:Nat} (hx:x < r) (hj:j < c):(outS r c ys xs q pre x j).set (x * c + j) (mulQ (nth ys x) (nth xs j) q) = outS r c ys xs q pre x (j + 1):=by
  have hroom:x * c + j < r * c:=by
    have:=Nat.mul_le_mul_right c (show x + 1 ≤ r by omega)
    rw [Nat.succ_mul] at this
    omega
  have hd:(x * c + j) / c = x:=by rw [Nat.add_comm,Nat.add_mul_div_right _ _ (by omega),Nat.div_eq_of_lt hj,Nat.zero_add]
  have hmd:(x * c + j) % c = j:=by rw [Nat.add_comm,Nat.add_mul_mod_self_right,Nat.mod_eq_of_lt hj]
  refine ext_nth (by rw [List.length_set,outS_len,outS_len]) fun i hi => ?_
  rw [List.length_set,outS_len] at hi
  rw [nth_set,outS_len]
  unfold outS
  rw [upTo_nth _ hi,upTo_nth _ hi]
  by_cases h:i = x * c + j
  · subst h
    rw [if_pos ⟨rfl,hroom⟩,if_pos (.inr ⟨hd,by omega⟩)]
    unfold outV
    rw [hd,hmd]
  · rw [if_neg (fun hh => h hh.1)]
    have hne:¬ (i / c = x ∧ i % c = j):=fun hh => h (by rw [← hh.1,← hh.2,Nat.mul_comm];exact (Nat.div_add_mod i c).symm)
    by_cases h1:i / c ∈ pre ∨ (i / c = x ∧ i % c < j)
    · rw [if_pos h1,if_pos (h1.imp id fun hh => ⟨hh.1,by omega⟩)]
    · rw [if_neg h1,if_neg]
      rintro (h2 | ⟨h2,h3⟩)
      · exact h1 (.inl h2)
      · exact h1 (.inr ⟨h2,by
          rcases Nat.lt_or_ge (i % c) j with h4 | h4
          · exact h4
          · exact absurd ⟨h2,by omega⟩ hne⟩)
theorem outS_all {r c:Nat} {ys xs:List Int} {q:Int} {pre:List Nat} {x:Nat} (hc:1 ≤ c) (y:Nat):outS r c ys xs q pre x c = outS r c ys xs q (pre ++ [x]) y 0:=by
  unfold outS
  refine upTo_congr fun i hi => ?_
  have hm:i % c < c:=Nat.mod_lt _ (by omega)
  by_cases h1:i / c ∈ pre ∨ (i / c = x ∧ i % c < c)
  · rw [if_pos h1,if_pos]
    rcases h1 with h | ⟨h,_⟩
    · exact .inl (List.mem_append.2 (.inl h))
    · exact .inl (List.mem_append.2 (.inr (by simp [h])))
  · rw [if_neg h1,if_neg]
    rintro (h2 | ⟨_,h3⟩)
    · rcases List.mem_append.1 h2 with h | h
      · exact h1 (.inl h)
      · exact h1 (.inr ⟨by simpa using h,hm⟩)
    · omega
theorem outS_start {r c:Nat} {ys xs:List Int} {q:Int} {pre:List Nat} (x y:Nat):outS r c ys xs q pre x 0 = outS r c ys xs q pre y 0:=by
  unfold outS
  exact upTo_congr fun i hi => by simp
theorem outS_done {r c:Nat} {ys xs:List Int} {q:Int} (hc:1 ≤ c) (y:Nat):outS r c ys xs q (List.range r) y 0 = outerL r c ys xs q:=by
  unfold outS outerL
  refine upTo_congr fun i hi => ?_
  rw [if_pos]
  refine .inl (List.mem_range.2 ?_)
  exact (Nat.div_lt_iff_lt_mul (by omega)).2 hi
end Go.Proofs.YthamijnggdjaoaaGreatDoor
namespace Go.Proofs.YthamijnggdjaoaaGreatDoor
open Go.RowKit
def gateL (v d:List Int):List Int:=upTo d.length fun i => if 0 < nth v i then nth d i else 0
theorem gateL_len (v d:List Int):(gateL v d).length = d.length:=upTo_len _ _
theorem gateL_W64 {v d:List Int} (h:W64 d):W64 (gateL v d):=upTo_W64 fun k hk => by
  split
  · exact h k hk
  · omega
theorem backL_len (ms:List Int) (r c:Nat) (ys:List Int) (q:Int):(backL ms r c ys q).length = c:=by
  unfold backL
  have:∀ (l:List Nat) (acc:List Int),acc.length = c → (l.foldl (backF ms c ys q) acc).length = c:=by
    intro l
    induction l with
    | nil => intro acc h;exact h
    | cons a l ih => intro acc h;exact ih _ (by rw [backF_len];exact h)
  exact this _ _ (by simp)
theorem backL_W64 (ms:List Int) (r c:Nat) (ys:List Int) (q:Int):W64 (backL ms r c ys q):=by
  unfold backL
  have:∀ (l:List Nat) (acc:List Int),W64 acc → W64 (l.foldl (backF ms c ys q) acc):=by
    intro l
    induction l with
    | nil => intro acc h;exact h
    | cons a l ih => intro acc h;exact ih _ (addL_W64 _ _)
  exact this _ _ (fun k hk => by rw [nth_eq _ _ hk];simp)
def errD (sz ps:List Int) (q:Int) (x y:List Int):Nat → List Int
  | 0 => missL (valL sz ps q x (sz.length - 1)) y
  | j + 1 => gateL (valL sz ps q x (sz.length - 2 - j)) (backL (wL sz ps (sz.length - 2 - j)) (szN sz (sz.length - 1 - j)) (szN sz (sz.length - 2 - j)) (errD sz ps q x y j) q)
def gradT (sz ps:List Int) (q:Int) (x y:List Int):Nat → List Int
  | 0 => []
  | j + 1 => outerL (szN sz (sz.length - 1 - j)) (szN sz (sz.length - 2 - j)) (errD sz ps q x y j) (valL sz ps q x (sz.length - 2 - j)) q ++ (errD sz ps q x y j ++ gradT sz ps q x y j)
def gradL (sz ps:List Int) (q:Int) (x y:List Int):List Int:=gradT sz ps q x y (sz.length - 1)
theorem outerL_len (r c:Nat) (ys xs:List Int) (q:Int):(outerL r c ys xs q).length = r * c:=upTo_len _ _
theorem errD_len {sz ps:List Int} {q:Int} {x y:List Int} (hx:x.length = szN sz 0) (j:Nat):(errD sz ps q x y j).length = szN sz (sz.length - 1 - j):=by
  cases j with
  | zero => show (missL _ _).length = _;rw [missL_len,valL_len hx];rfl
  | succ j => show (gateL _ _).length = _;rw [gateL_len,backL_len,show sz.length - 1 - (j + 1) = sz.length - 2 - j by omega]
theorem errD_W64 (sz ps:List Int) (q:Int) (x y:List Int) (j:Nat):W64 (errD sz ps q x y j):=by
  cases j with
  | zero => exact missL_W64 _ _
  | succ j => exact gateL_W64 (backL_W64 _ _ _ _ _)
end Go.Proofs.YthamijnggdjaoaaGreatDoor
namespace Go.Proofs.YthamijnggdjaoaaGreatDoor
open Go.RowKit
theorem nth_bL {sz ps:List Int} {k r:Nat} (h:r < szN sz (k + 1)):nth (bL sz ps k) r = nth ps (midN sz k + r):=upTo_nth _ h
theorem nth_wL {sz ps:List Int} {k r c:Nat} (hr:r < szN sz (k + 1)) (hc:c < szN sz k):nth (wL sz ps k) (r * szN sz k + c) = nth ps (cntN sz k + r * szN sz k + c):=by
  unfold wL
  rw [upTo_nth _ (by have:=Nat.mul_le_mul_right (szN sz k) (show r + 1 ≤ szN sz (k + 1) by omega);rw [Nat.succ_mul] at this;omega),Nat.add_assoc]
theorem sumN_eq {sz ps:List Int} {q:Int} {k r:Nat} {v:List Int} (wp:W64 ps) (hr:r < szN sz (k + 1)):∀ c,c ≤ szN sz k → sumN sz ps q k r v c = wrap64 (dotN (mrow (wL sz ps k) (szN sz k) r) v q c + nth (bL sz ps k) r):=by
  intro c
  induction c with
  | zero =>
    intro _
    have h:=wp.nth (midN sz k + r)
    rw [sumN,dotN,nth_bL hr,Int.zero_add,wrap64_id h.1 h.2]
  | succ c ih =>
    intro hc
    rw [sumN,dotN,ih (by omega),show nth (mrow (wL sz ps k) (szN sz k) r) c = nth (wL sz ps k) (r * szN sz k + c) from upTo_nth _ (by omega),nth_wL hr (by omega),wrap64_add,wrap64_add]
    congr 1
    omega
theorem sumN_zL {sz ps:List Int} {q:Int} {k r:Nat} {v:List Int} (wp:W64 ps) (hr:r < szN sz (k + 1)) (hv:v.length = szN sz k):sumN sz ps q k r v v.length = nth (zL sz ps q k v) r:=by
  rw [hv,sumN_eq wp hr _ (Nat.le_refl _)]
  unfold zL addL
  rw [upTo_nth _ (by rw [mulL_len];exact hr)]
  unfold mulL
  rw [upTo_nth _ hr]
  unfold dotL
  rw [mrow_len]
theorem val_step {sz ps:List Int} {q:Int} {x:List Int} {k r:Nat} (wp:W64 ps) (hx:x.length = szN sz 0) (hr:r < szN sz (k + 1)) :
    nth (valL sz ps q x (k + 1)) r = if k + 1 < sz.length - 1 then (if 0 < sumN sz ps q k r (valL sz ps q x k) (valL sz ps q x k).length then sumN sz ps q k r (valL sz ps q x k) (valL sz ps q x k).length else 0) else sumN sz ps q k r (valL sz ps q x k) (valL sz ps q x k).length:=by
  rw [sumN_zL wp hr (valL_len hx k)]
  rw [valL]
  split
  · unfold reluL
    rw [upTo_nth _ (by rw [zL_len];exact hr)]
    split
    · omega
    · omega
  · rfl
def esumN (sz ps:List Int) (q:Int) (k c:Nat) (e:List Int):Nat → Int
  | 0 => 0
  | r + 1 => wrap64 (esumN sz ps q k c e r + mulQ (nth ps (cntN sz k + r * szN sz k + c)) (nth e r) q)
theorem foldl_range_succ {α:Type} (f:α → Nat → α) (a:α) (n:Nat):(List.range (n + 1)).foldl f a = f ((List.range n).foldl f a) n:=by rw [List.range_succ,List.foldl_append];rfl
theorem backN {ms:List Int} {c:Nat} {ys:List Int} {q:Int} (r:Nat):((List.range r).foldl (backF ms c ys q) (List.replicate c 0)).length = c:=by
  induction r with
  | zero => simp
  | succ r ih => rw [foldl_range_succ,backF_len,ih]
theorem esumN_eq {sz ps:List Int} {q:Int} {k c:Nat} {e:List Int} (hc:c < szN sz k):∀ r,r ≤ szN sz (k + 1) → esumN sz ps q k c e r = nth ((List.range r).foldl (backF (wL sz ps k) (szN sz k) e q) (List.replicate (szN sz k) 0)) c:=by
  intro r
  induction r with
  | zero =>
    intro _
    rw [esumN,List.range_zero,List.foldl_nil,nth_eq _ _ (by simpa using hc)]
    simp
  | succ r ih =>
    intro hr
    rw [esumN,ih (by omega),foldl_range_succ]
    unfold backF addL
    rw [upTo_nth _ (by have:=backN (ms:=wL sz ps k) (c:=szN sz k) (ys:=e) (q:=q) r;unfold backF addL at this;omega)]
    congr 2
    unfold scaleL
    rw [upTo_nth _ (by rw [mrow_len];exact hc),show nth (mrow (wL sz ps k) (szN sz k) r) c = nth (wL sz ps k) (r * szN sz k + c) from upTo_nth _ hc,nth_wL (by omega) hc]
theorem err_step {sz ps:List Int} {q:Int} {x y:List Int} {j c:Nat} (hx:x.length = szN sz 0) (hj:j + 2 ≤ sz.length) (hc:c < szN sz (sz.length - 2 - j)) :
    nth (errD sz ps q x y (j + 1)) c = if 0 < nth (valL sz ps q x (sz.length - 2 - j)) c then esumN sz ps q (sz.length - 2 - j) c (errD sz ps q x y j) (errD sz ps q x y j).length else 0:=by
  have hl:(errD sz ps q x y j).length = szN sz (sz.length - 2 - j + 1):=by rw [errD_len hx,show sz.length - 1 - j = sz.length - 2 - j + 1 by omega]
  rw [hl,esumN_eq hc _ (Nat.le_refl _)]
  rw [errD]
  unfold gateL
  rw [upTo_nth _ (by rw [backL_len];exact hc)]
  unfold backL
  rw [show sz.length - 1 - j = sz.length - 2 - j + 1 by omega]
end Go.Proofs.YthamijnggdjaoaaGreatDoor
namespace Go.Proofs.YthamijnggdjaoaaGreatDoor
open Go.RowKit
theorem et_i64s:ElemT Tryz.prog 26 2 (.int .i64 0) 1 8:=⟨Tryz.underlying26,info_parts (by kernel_rfl),rfl,by decide⟩
theorem et_vvs:ElemT Tryz.prog 205 26 (.slice none 0 0) 1 24:=⟨Tryz.underlying205,info_parts (by kernel_rfl),rfl,by decide⟩
def RTraceI (sz ps:List Int) (q:Int) (x:List Int) (X:Option Addr) (cx n₀:Nat) (BX:Obj) (k:Nat) (v:Value) (w0 w:World):Prop:=
  ∃ A c vals,v = .slice A (k + 1) c ∧ w.ownsRow n₀ 26 1 (.slice A (k + 1) c) (k + 1) vals ∧ vals[0]? = some (.slice X (szN sz 0) cx) ∧
    (∀ j,1 ≤ j → j ≤ k → ∃ Aj cj,vals[j]? = some (.slice Aj (szN sz j) cj) ∧ w.ownsRow n₀ 2 1 (.slice Aj (szN sz j) cj) (szN sz j) (nums .i64 (valL sz ps q x j))) ∧ w.heap[n₀]? = some BX ∧ Below n₀ w0 w
set_option maxRecDepth 100000 in
set_option maxHeartbeats 2000000 in
theorem rtrace_any (As Ap X:Option Addr) (sz ps x:List Int) (cs cp cx:Nat) (q:Int) (w:World) (h:RNet w As Ap sz ps cs) (hX:Rd w X (nums .i64 x)) (hx:x.length = szN sz 0) (wx:W64 x) (hcx:x.length ≤ cx) :
    Calls Tryz.prog 125 #[.agg #[.slice As sz.length cs,.slice Ap ps.length cp,.int .i64 q],.slice X x.length cx] w fun e w' => ∃ A' c' vals,e = .returned (.slice A' sz.length c') ∧ Rd w' A' vals ∧ VecsAt w' vals sz.length (valL sz ps q x) ∧ sz.length ≤ c' ∧ Below w.heap.size w w':=by
  have hg:=h.hg
  have hl16:=hg.1.1
  have hsu:=fun k r V v cv w' (hb:Below w.heap.size w w') (hk:k + 1 < sz.length) (hr:r < szN sz (k + 1)) (hV:Rd w' V (nums .i64 v)) (hv:v.length = szN sz k) (wv:W64 v) => rsum_any As Ap sz ps cs cp k r q V v cv w' (h.below hb) hk hr hV hv wv
  have hla:=fun w' => rlast_any As Ap sz.length ps.length cs cp q w' (by omega)
  obtain ⟨b,o,rfl,p00⟩:=h.hA.num (show 0 < sz.length by omega)
  have hbl:b < w.heap.size:=lt_of_cell p00
  have hsz:=h.hA
  have wps:=h.wp
  obtain ⟨m,hm⟩:∃ m,ps.length = m:=⟨_,rfl⟩
  obtain ⟨n,hn⟩:∃ n,sz.length - 1 = n:=⟨_,rfl⟩
  obtain ⟨L,hL⟩:∃ L,sz.length = L:=⟨_,rfl⟩
  obtain ⟨x0,hx0⟩:∃ x0,x.length = x0:=⟨_,rfl⟩
  rw [hL] at hn
  rw [hL,hm] at hsu hla
  rw [hn] at hla
  rw [hL] at hl16 ⊢
  rw [hm,hx0]
  rw [hx0] at hcx
  have hLn:L = n + 1:=by omega
  have Hsu:=Lib.hid hsu;have Hla:=Lib.hid hla;have HG:=Lib.hid hg;have Hsz:=Lib.hid hsz;have WP:=Lib.hid wps;have HX:=Lib.hid hX;have Hx:=Lib.hid hx;have WX:=Lib.hid wx;have HL:=Lib.hid hL;have Hx0:=Lib.hid hx0;have HLn:=Lib.hid hLn;have Hn:=Lib.hid hn
  clear hsu hla hg hsz wps hX hx wx hL hx0 h p00 hm hLn hn
  go_enter Tryz.func125,Tryz.ntmps125
  go_wp2_with fail
  go_loopw [5,6] (fun v i wr => ∃ k:Nat,k ≤ n ∧ i = .int .i64 k ∧ RTraceI sz ps q x X cx w.heap.size (.cells #[.slice (some ⟨b,o,none⟩) L cs,.slice Ap m cp,.int .i64 q] 165 (0,0)) k v w wr) (fun _ i _ => n - (intOf i).toNat)
  case atStart =>
    refine ⟨0,Nat.zero_le _,rfl,some ⟨w.heap.size + 1,0,none⟩,1,[.slice X x0 cx],rfl,?_,?_,fun j h1 h2 => by omega,?_,?_⟩
    · have:=own_made1 (w.alloc (.cells #[.slice (some ⟨b,o,none⟩) L cs,.slice Ap m cp,.int .i64 q] 165)) 26 (.slice X x0 cx) w.heap.size (by simp)
      simpa using this
    · rw [← Hx.out,Hx0.out];rfl
    · exact (Below.heap_alloc _ _ _ (by simp)).trans (heap_alloc_new w _)
    · (focus (repeat' (first | (with_reducible exact Below.refl _ _) | (with_reducible assumption) | (with_reducible refine Below.setCell ?_ ?_ _) | (with_reducible refine Below.alloc ?_ ?_ _) | (with_reducible refine below_drewN ?_ _) | (with_reducible refine Below.drew ?_) | (with_reducible exact Nat.le_refl _) | omega | (simp;done) | (simp;omega))))
  case round =>
    obtain ⟨wq,rfl⟩:∃ wq:World,wq = wr:=⟨_,rfl⟩
    obtain ⟨k,hk,rfl,Ao,co,vals,rfl,ho,hv0,hv,hbx,hW⟩:=hrel
    obtain ⟨⟨y0,y1,y2⟩,yf⟩:=bx3 hbx
    have hbxl:=lt_of_block hbx
    have hz:=hW.size
    have Ho:=Lib.hid ho;have Hv0:=Lib.hid hv0;have Hv:=Lib.hid hv;have Hbx:=Lib.hid hbx;have HW:=Lib.hid hW
    clear ho hv0 hv hbx hW
    by_cases hlt:k < n
    · have hR:=HG.out.1
      have hk1:k + 1 < sz.length:=by have:=HLn.out;have:=HL.out;omega
      have z1:=hR.at hk1
      have hlb:=hR.1.2
      have p1:=(Hsz.out.num hk1)
      obtain ⟨_,_,e',p1⟩:=p1
      injection e' with e';injection e' with e1 e2 _;subst e1;subst e2
      have p1r:=(HW.out.cell (p:=⟨b,o + (k + 1),none⟩) hbl).trans p1
      rw [z1.2.2] at p1r
      obtain ⟨go,co',hvo,hgo,_⟩:=Ho.out.form (by omega)
      simp only [Value.slice.injEq] at hvo
      obtain ⟨rfl,hvx,rfl⟩:=hvo
      clear hvx
      have hcur:∃ Ak ck,vals[k]? = some (.slice Ak (szN sz k) ck) ∧ Rd wq Ak (nums .i64 (valL sz ps q x k)):=by
        rcases Nat.eq_zero_or_pos k with rfl | hpos
        · exact ⟨X,cx,Hv0.out,HX.out.below HW.out⟩
        · obtain ⟨Aj,cj,h1,h2⟩:=Hv.out k hpos (Nat.le_refl _)
          exact ⟨Aj,cj,h1,Rd.own h2⟩
      obtain ⟨Ak,ck,hvk,hrk⟩:=hcur
      obtain ⟨_,_,ek,pk⟩:=(Rd.own Ho.out) k _ hvk
      injection ek with ek;injection ek with i1 i2 _;subst i1;subst i2
      rw [Nat.zero_add] at pk
      have hvl:=valL_len (sz:=sz) (ps:=ps) (q:=q) Hx.out k
      have wvl:=valL_W64 (sz:=sz) (ps:=ps) (q:=q) WX.out k
      have hst:=fun r (hr:r < szN sz (k + 1)) => val_step (sz:=sz) (ps:=ps) (q:=q) (x:=x) (k:=k) (r:=r) WP.out Hx.out hr
      have hL2:=HL.out
      have hsk:=fun r (hr:r < szN sz (k + 1)) w' (hb:Below wq.heap.size wq w') => Hsu.out k r Ak (valL sz ps q x k) ck w' (HW.out.trans (hb.mono HW.out.size)) (by omega) hr (hrk.below hb) hvl wvl
      rw [hvl] at hsk hst
      rw [hL2] at hst
      rw [Hn.out] at hst
      obtain ⟨r1,hr1⟩:∃ r1,szN sz (k + 1) = r1:=⟨_,rfl⟩
      obtain ⟨c0,hc0⟩:∃ c0,szN sz k = c0:=⟨_,rfl⟩
      have hvn:=valL_len (sz:=sz) (ps:=ps) (q:=q) Hx.out (k + 1)
      rw [hr1] at hsk hst p1r z1 hvn
      rw [hc0] at hsk hst pk
      have Hsk:=Lib.hid hsk;have Hst:=Lib.hid hst;have Hr1:=Lib.hid hr1;have Hc0:=Lib.hid hc0;have Hvn:=Lib.hid hvn
      clear hsk hst hr1 hc0 hvk hrk hvl p1 hvn hL2
      have hkL:(k:Int) + 1 < L:=by have:=HLn.out;omega
      have hwk:IntKind.i64.wrap ((k:Int) + 1) = (k:Int) + 1:=IntWalk.i64_in _ (by omega)
      have Hwk:=Lib.hid hwk;clear hwk
      go_wp2_with fail
      refine (Hla.out wq).mono ?_
      rintro e w3 ⟨rfl,hb3⟩
      have y0:=cell_below hb3 y0
      have pk:=cell_below hb3 pk
      have hgo3:go < w3.heap.size:=lt_of_cell pk
      have hbx3:w.heap.size < w3.heap.size:=lt_of_cell y0
      have Hb3:=Lib.hid hb3;clear hb3
      go_wp2_with fail
      go_loopw [7,8] (fun v i wx => ∃ r:Nat,r ≤ r1 ∧ i = .int .i64 r ∧ wx.ownsRow w3.heap.size 2 1 v r (nums .i64 ((valL sz ps q x (k + 1)).take r)) ∧ Below w3.heap.size w3 wx) (fun _ i _ => r1 - (intOf i).toNat)
      case atStart => exact ⟨0,Nat.zero_le _,rfl,World.ownsRow_nil _ _ _ _,Below.refl _ _⟩
      case round =>
        obtain ⟨wo,rfl⟩:∃ wo:World,wo = wr:=⟨_,rfl⟩
        obtain ⟨r,hr,rfl,hown,hbx⟩:=hrel
        obtain ⟨Al,cl,rfl,hcl⟩:=own_form hown
        have hb3x:Below wq.heap.size wq wo:=Hb3.out.trans (hbx.mono Hb3.out.size)
        have x0:=(hbx.cell (p:=⟨w.heap.size,0,none⟩) hbx3).trans y0
        have x1:=(hb3x.cell (p:=⟨w.heap.size,1,none⟩) hbxl).trans y1
        have x2:=(hb3x.cell (p:=⟨w.heap.size,2,none⟩) hbxl).trans y2
        have p1x:=(hb3x.cell (p:=⟨b,o + (k + 1),none⟩) (show b < _ by omega)).trans p1r
        have pkx:=(hbx.cell (p:=⟨go,k,none⟩) hgo3).trans pk
        have hxl:w.heap.size < wo.heap.size:=lt_of_cell x0
        have hgox:go < wo.heap.size:=lt_of_cell pkx
        have hz3:w3.heap.size ≤ wo.heap.size:=hbx.size
        have Hown:=Lib.hid hown;have Hbx3:=Lib.hid hbx;have Hb3x:=Lib.hid hb3x;clear hown hbx hb3x hcl
        have hwk:=Hwk.out
        have hwk2:(0:Int) ≤ (k:Int) + 1:=by omega
        have hwk3:((k:Int) + 1).toNat = k + 1:=by omega
        by_cases hlr:r < r1
        · have hsk:=Hsk.out r hlr
          have Hsk2:=Lib.hid hsk;clear hsk
          go_wp2_with fail
          have hkk:k < k + 1:=Nat.lt_succ_self k
          have hkk2:(k:Int) < (k:Int) + 1:=by omega
          have hSw:(fun w':World => w'.cell? ⟨w.heap.size,0,none⟩ = some (.slice (some ⟨b,o,none⟩) L cs) ∧ w'.cell? ⟨w.heap.size,1,none⟩ = some (.slice Ap m cp) ∧ w'.cell? ⟨w.heap.size,2,none⟩ = some (.int .i64 q) ∧ w'.cell? ⟨go,k,none⟩ = some (.slice Ak c0 ck)) wo.drew:=⟨x0,x1,x2,pkx⟩
          refine HA.g (fun w':World => w'.cell? ⟨w.heap.size,0,none⟩ = some (.slice (some ⟨b,o,none⟩) L cs) ∧ w'.cell? ⟨w.heap.size,1,none⟩ = some (.slice Ap m cp) ∧ w'.cell? ⟨w.heap.size,2,none⟩ = some (.int .i64 q) ∧ w'.cell? ⟨go,k,none⟩ = some (.slice Ak c0 ck)) ?_
          refine HA.t ?_ [0,1,2,3,4,5,6] hSw ?_
          refine HA.o 7 (fun K hK => ?_)
          go_simp
          refine (Hsk2.out _ Hb3x.out.drew).mono ?_
          rintro e w5 ⟨rfl,hb5⟩
          have hS5:=And.intro (cell_below hb5 x0) (And.intro (cell_below hb5 x1) (And.intro (cell_below hb5 x2) (cell_below hb5 pkx)))
          have g0:=cell_below hb5 x0
          have hb35:=Hbx3.out.trans (((Below.refl wo.heap.size wo).drew.trans hb5).mono hz3)
          have hown5:=own_below Hown.out ((Below.refl wo.heap.size wo).drew.trans hb5)
          have hz5:=hb5.size
          simp only [World.size_drew] at hz5
          have Hb35:=Lib.hid hb35;have Hown5:=Lib.hid hown5;clear hb5 hb35 hown5 hSw hkk hkk2
          dsimp only
          refine hK.out _ _ hS5 (fun hSw => ?_)
          clear hK K hS5
          refine HA.t ?_ [8] hSw ?_
          refine HA.d ?_
          have g1:=hSw.2.1
          have g2:=hSw.2.2.1
          clear hSw
          go_wp2_with fail
          refine (Hla.out _).mono ?_
          rintro e w6 ⟨rfl,hb6⟩
          have hst:=Hst.out r hlr
          have hb36:=Hb35.out.trans (hb6.mono Hb35.out.size)
          have hown6:=own_below Hown5.out hb6
          have hz6:=hb6.size
          have h36:=hb36.size
          have Hb36:=Lib.hid hb36;have Hown6:=Lib.hid hown6;clear hb6 hb36 hown6 g0 g1 g2 x0 x1 x2
          have hln:r < (valL sz ps q x (k + 1)).length:=by rw [Hvn.out];exact hlr
          have htk:=take_succ_nth _ r hln
          have Htk:=Lib.hid htk;clear htk hln
          by_cases hlast:k + 1 < n
          · have hla2:((k:Int) + 1 < n):=by omega
            have hdec:decide ((k:Int) + 1 < n) = true:=decide_eq_true (by omega)
            rw [if_pos hlast] at hst
            have Hst2:=Lib.hid hst;clear hst hlast
            go_wp2_with fail
            refine (rgate_any _ _ _).mono ?_
            rintro e w7 ⟨rfl,rfl⟩
            rw [← Hst2.out]
            go_wp2_with (at_builtin;refine wpList_push et_i64s w6 rfl (.tmp 44) (.tmp 46) rfl w3.heap.size (.slice Al r cl) r _ rfl Hown6.out [.int .i64 (nth (valL sz ps q x (k + 1)) r)] rfl rfl (by simp [Value.oneCell']) (by omega) (by unfold maxLen;omega) (by omega) ?_)
            intro g7 c7 w7 ho7 hb7 hg7
            have hB7:=Hb36.out.trans hb7
            have HO7:=Lib.hid ho7;have HB7:=Lib.hid hB7;clear ho7 hb7 hg7 hB7
            go_wp2_with fail
            go_roundw
            case rel => exact ⟨r + 1,by omega,by go_num,by rw [Htk.out,nums_append];exact HO7.out,HB7.out⟩
            case measure => simp [intOf];omega
          · have hla2:¬ ((k:Int) + 1 < n):=by omega
            have hdec:decide ((k:Int) + 1 < n) = false:=decide_eq_false (by omega)
            rw [if_neg hlast] at hst
            have Hst2:=Lib.hid hst;clear hst hlast
            go_wp2_with (at_builtin;refine wpList_push et_i64s w6 rfl (.tmp 44) (.tmp 46) rfl w3.heap.size (.slice Al r cl) r _ rfl Hown6.out [.int .i64 (sumN sz ps q k r (valL sz ps q x k) c0)] rfl rfl (by simp [Value.oneCell']) (by omega) (by unfold maxLen;omega) (by omega) ?_)
            rw [← Hst2.out]
            intro g7 c7 w7 ho7 hb7 hg7
            have hB7:=Hb36.out.trans hb7
            have HO7:=Lib.hid ho7;have HB7:=Lib.hid hB7;clear ho7 hb7 hg7 hB7
            go_wp2_with fail
            go_roundw
            case rel => exact ⟨r + 1,by omega,by go_num,by rw [Htk.out,nums_append];exact HO7.out,HB7.out⟩
            case measure => simp [intOf];omega
        · obtain rfl:r = r1:=by omega
          have hoo:=own_below Ho.out Hb3x.out
          have Hoo:=Lib.hid hoo;clear hoo
          go_wp2_with (at_builtin;refine wpList_push et_vvs wo rfl (.tmp 48) (.tmp 50) rfl w.heap.size (.slice (some ⟨go,0,none⟩) (k + 1) co) (k + 1) vals rfl Hoo.out [.slice Al r cl] rfl rfl (by simp [Value.oneCell']) (by omega) (by unfold maxLen;omega) (by omega) ?_)
          intro g7 c7 w7 ho7 hb7 hg7
          have hvl:=Ho.out.1
          have hkeep:∀ {mm:Nat} {u:Value} {ys:List Value} {b0:Nat},wo.ownsRow b0 2 1 u mm ys → w7.ownsRow b0 2 1 u mm ys:=fun h => h.kept hg7 (by
            rename_i u _ _
            cases hu:u.ownBlock with
            | none => exact .inl rfl
            | some i => exact .inr fun e9 => own_types Hoo.out h (by decide) i e9.symm hu)
          have hbx7:=(hg7.block _ hxl (block_notrow ((Hb3x.out.block _ hbxl).trans Hbx.out) (by decide) Hoo.out)).trans ((Hb3x.out.block _ hbxl).trans Hbx.out)
          have hB7:=(HW.out.trans (Hb3x.out.mono HW.out.size)).trans hb7
          have HO7:=Lib.hid ho7;have HB7:=Lib.hid hB7;have HX7:=Lib.hid hbx7;clear ho7 hb7 hg7 hB7 hbx7
          go_wp2_with fail
          go_roundw
          case rel =>
            refine ⟨k + 1,by omega,by go_num,some ⟨g7,0,none⟩,c7,vals ++ [.slice Al r cl],rfl,HO7.out,?_,fun j h1 h2 => ?_,HX7.out,HB7.out⟩
            · rw [List.getElem?_append_left (by omega)];exact Hv0.out
            · rcases Nat.lt_or_ge j (k + 1) with hjk | hjk
              · obtain ⟨Aj,cj,e1,e2⟩:=Hv.out j h1 (by omega)
                exact ⟨Aj,cj,by rw [List.getElem?_append_left (by omega)];exact e1,hkeep (own_below e2 Hb3x.out)⟩
              · obtain rfl:j = k + 1:=by omega
                refine ⟨Al,cl,?_,?_⟩
                · rw [List.getElem?_append_right (by omega),Hr1.out]
                  simp [show vals.length = k + 1 by omega]
                · have:=hkeep Hown.out
                  rw [List.take_of_length_le (by rw [Hvn.out];exact Nat.le_refl _)] at this
                  rw [Hr1.out]
                  exact own_base this (by have:=Hb3.out.size;omega)
          case measure => simp [intOf];omega
    · obtain rfl:k = n:=by omega
      have hLk:=HLn.out
      have hva:VecsAt wq vals sz.length (valL sz ps q x):=by
        refine ⟨?_,fun j hj => ?_⟩
        · have:=Ho.out.1;have:=HL.out;omega
        · have hvl:=valL_len (sz:=sz) (ps:=ps) (q:=q) Hx.out j
          rcases Nat.eq_zero_or_pos j with rfl | hpos
          · refine ⟨X,cx,?_,?_,HX.out.below HW.out⟩
            · rw [hvl];exact Hv0.out
            · show x.length ≤ cx
              rw [Hx0.out];exact hcx
          · obtain ⟨Aj,cj,h1,h2⟩:=Hv.out j hpos (by have:=HL.out;omega)
            obtain ⟨A',c',e,hc⟩:=own_form h2
            injection e with e1 e2 e3
            subst e1;subst e3
            rw [hvl]
            exact ⟨_,_,h1,hc,Rd.own h2⟩
      have hcc:L ≤ co:=by
        obtain ⟨A',c',e,hc⟩:=own_form Ho.out
        injection e with e1 e2 e3
        omega
      have hro:=Rd.own Ho.out
      have Hro:=Lib.hid hro;have Hva:=Lib.hid hva;have Hcc:=Lib.hid hcc;have HLk:=Lib.hid hLk;clear hro hva hcc hLk
      go_wp2_with fail
      refine (Hla.out wq).mono ?_
      rintro e w3 ⟨rfl,hb3⟩
      have Hb3:=Lib.hid hb3;clear hb3
      go_wp2_with fail
      go_ret
      refine ⟨Ao,co,vals,by rw [HLk.out];rfl,Hro.out.below Hb3.out,?_,Hcc.out,HW.out.trans (Hb3.out.mono HW.out.size)⟩
      have:=Hva.out.below Hb3.out
      rwa [HL.out] at this
end Go.Proofs.YthamijnggdjaoaaGreatDoor
namespace Go.Proofs.YthamijnggdjaoaaGreatDoor
open Go.RowKit
theorem et_u64s:ElemT Tryz.prog 27 76 (.int .u64 0) 1 8:=⟨Tryz.underlying27,info_parts (by kernel_rfl),rfl,by decide⟩
theorem uclone_any (A:Option Addr) (zs:List Int) (c:Nat) (w:World) (hA:Rd w A (nums .u64 zs)) (hl:zs.length ≤ 17592186043904) :
    Calls Tryz.prog 251 #[.slice A zs.length c] w fun e w' => ∃ v,e = .returned v ∧ w'.ownsRow w.heap.size 76 1 v zs.length (nums .u64 zs) ∧ Below w.heap.size w w':=by
  have q:=fun (w:World) => Lib.run_eql_slice_nil (P:=Tryz.prog) w 27 76 A zs.length c 0 0 Tryz.underlying27
  cases A with
  | none =>
    have hz:zs = []:=by
      cases zs with
      | nil => rfl
      | cons z l => obtain ⟨b,o,h,_⟩:=hA 0 _ rfl;cases h
    subst hz
    clear q
    have q:=fun (w:World) => Lib.run_eql_slice_nil (P:=Tryz.prog) w 27 76 none 0 c 0 0 Tryz.underlying27
    simp only [Option.isNone_none] at q
    rw [List.length_nil]
    go_enter Tryz.func251,Tryz.ntmps251
    go_wp2
    go_ret
    exact ⟨_,rfl,World.ownsRow_nil _ _ _ _,Below.refl _ _⟩
  | some a =>
    go_enter Tryz.func251,Tryz.ntmps251
    go_wp2_with (at_builtin;refine wpList_app et_u64s _ rfl (.tmp 5) (.tmp 6) rfl w.heap.size _ 0 [] rfl (own_empty w 76 1) _ zs.length c (nums .u64 zs) rfl (hA.alloc _) (by rw [nums_length];omega) (nums_cell _ _) (by omega) (by unfold maxLen;omega) (by simp) ?_)
    intro A' c' w1 hown hb _ _
    have hb1:=((Below.refl _ w).alloc (Nat.le_refl _) (.cells #[] 76)).trans hb
    have Hown:=Lib.hid hown;have Hb1:=Lib.hid hb1;clear hown hb hb1
    go_wp2
    go_ret
    exact ⟨_,rfl,Hown.out,Hb1.out⟩
def U64 (l:List Int):Prop:=∀ k,k < l.length → 0 ≤ nth l k ∧ nth l k ≤ 18446744073709551615
theorem Keep.below2 {S:Nat → Prop} {w w1 w2:World} (h:Keep S w w1) (hb:Below w.heap.size w1 w2):Keep S w w2:=
  ⟨hb.os.trans h.os,hb.tape.trans h.tape,hb.output.trans h.output,Nat.le_trans h.size hb.size,fun k hk hn => (hb.block k hk).trans (h.block k hk hn)⟩
structure StreamAt (w:World) (b:Nat) (A:Option Addr) (c:Nat) (l:List Int) (i:Nat):Prop where
  blk:w.heap[b]? = some (.cells #[.slice A l.length c,.int .i64 (i:Int)] 400 (0,0))
  rd:Rd w A (nums .u64 l)
  ne:∀ a,A = some a → a.block ≠ b
theorem StreamAt.lt {w:World} {b c i:Nat} {A:Option Addr} {l:List Int} (h:StreamAt w b A c l i):b < w.heap.size:=lt_of_block h.blk
theorem StreamAt.below {w w':World} {b c i:Nat} {A:Option Addr} {l:List Int} (h:StreamAt w b A c l i) (hb:Below w.heap.size w w'):StreamAt w' b A c l i:=
  ⟨(hb.block b h.lt).trans h.blk,h.rd.below hb,h.ne⟩
theorem StreamAt.drewN {w:World} {b c i:Nat} {A:Option Addr} {l:List Int} (h:StreamAt w b A c l i) (n:Nat):StreamAt (w.drewN n) b A c l i:=⟨h.blk,h.rd.drewN n,h.ne⟩
theorem dnew_any (A:Option Addr) (l:List Int) (c:Nat) (w:World) (hA:Rd w A (nums .u64 l)) (hl:l.length ≤ 17592186043904) :
    Calls Tryz.prog 217 #[.slice A l.length c] w fun e w' => ∃ b A' c',e = .returned (.pointer (some ⟨b,0,none⟩)) ∧ StreamAt w' b A' c' l 0 ∧ (∀ a,A' = some a → w.heap.size ≤ a.block) ∧ w.heap.size ≤ b ∧ Below w.heap.size w w':=by
  have hc:=uclone_any A l c w hA hl
  have Hc:=Lib.hid hc;clear hc hA
  go_enter Tryz.func217,Tryz.ntmps217
  go_wp2_with fail
  refine Hc.out.mono ?_
  rintro e w1 ⟨v,rfl,ho,hb⟩
  obtain ⟨A',c',rfl,_⟩:=own_form ho
  have hlt:=ho.lt
  have Ho:=Lib.hid ho;have Hb:=Lib.hid hb;have Hlt:=Lib.hid hlt;clear ho hb hlt
  go_wp2
  go_ret
  have hA':∀ a,A' = some a → w.heap.size ≤ a.block ∧ a.block < w1.heap.size:=fun a ha => by
    subst ha
    rcases Ho.out.2 with ⟨hn,_⟩ | ⟨g,cap,cur,hv,_⟩
    · cases hn
    · simp only [Value.slice.injEq,Option.some.injEq] at hv
      obtain ⟨rfl,_,_⟩:=hv
      exact Hlt.out g rfl
  exact ⟨_,A',c',rfl,⟨heap_alloc_new w1 _,(Rd.own Ho.out).alloc _,fun a ha hab => by have:=(hA' a ha).2;omega⟩,fun a ha => (hA' a ha).1,Hb.out.size,Hb.out.alloc Hb.out.size _⟩
theorem stream_left (b c i:Nat) (A:Option Addr) (l:List Int) (w:World) (h:StreamAt w b A c l i) (hi:i ≤ l.length) (hl:l.length ≤ 17592186043904) :
    Calls Tryz.prog 281 #[.pointer (some ⟨b,0,none⟩)] w fun e w' => e = .returned (.int .i64 ((l.length - i:Nat):Int)) ∧ ∃ d,w' = w.drewN d:=by
  obtain ⟨h1,h2,h3⟩:=h
  obtain ⟨n,hn⟩:∃ n,l.length = n:=⟨_,rfl⟩
  rw [hn] at h1 hi hl ⊢
  obtain ⟨⟨x0,x1⟩,xf⟩:=bx2 h1
  have hb:=lt_of_block h1
  clear h1 h2 h3 hn
  go_enter Tryz.func281,Tryz.ntmps281
  go_wp2_with fail
  go_quiet (fail)
  go_wp2_with fail
  go_ret
  exact ⟨ret_int (by omega),_,rfl⟩
theorem stream_next (b c i m:Nat) (A:Option Addr) (l:List Int) (w:World) (h:StreamAt w b A c l i) (hi:i < l.length) (hl:l.length ≤ 17592186043904) (hu:U64 l) (hm:1 ≤ m) (hm2:m ≤ 1048576) :
    Calls Tryz.prog 283 #[.pointer (some ⟨b,0,none⟩),.int .i64 m] w fun e w' => e = .returned (.tuple #[.int .i64 (nth l i % m),.bool true]) ∧ StreamAt w' b A c l (i + 1) ∧ Keep (fun j => j = b) w w':=by
  have hle:=stream_left b c i A l w h (by omega) hl
  obtain ⟨h1,h2,h3⟩:=h
  obtain ⟨bA,oA,rfl,p⟩:=h2.num hi
  obtain ⟨x,hx⟩:∃ x,nth l i = x:=⟨_,rfl⟩
  have hxb:=hu i hi
  rw [hx] at p hxb ⊢
  obtain ⟨n,hn⟩:∃ n,l.length = n:=⟨_,rfl⟩
  have H1:=Lib.hid h1;have H2:=Lib.hid h2;have H3:=Lib.hid h3;have Hn:=Lib.hid hn
  rw [hn] at h1 hi hl hle
  obtain ⟨⟨x0,x1⟩,xf⟩:=bx2 h1
  have hb:=lt_of_block h1
  have Hle:=Lib.hid hle;clear h1 h2 h3 hn hx hle hu
  have hq1:(((n - i:Nat):Int) == 0) = false:=by rw [beq_eq_false_iff_ne];omega
  have hq2:¬ ((m:Int) < 1):=by omega
  have hii:(i:Int) < n:=by omega
  have hw:wrap64 (x % (m:Int)) = x % (m:Int):=by
    have h1:=Int.emod_nonneg x (show (m:Int) ≠ 0 by omega)
    have h2:=Int.emod_lt_of_pos x (show (0:Int) < (m:Int) by omega)
    generalize x % (m:Int) = y at h1 h2 ⊢
    unfold wrap64;omega
  have Hw:=Lib.hid hw;clear hw
  go_enter Tryz.func283,Tryz.ntmps283
  go_wp2_with fail
  refine Hle.out.mono ?_
  rintro e w' ⟨rfl,d,rfl⟩
  go_wp2_with fail
  go_quiet (fail)
  go_wp2_with fail
  go_ret2
  have hK:Keep (fun j => j = b) w ((w.drewN (d + nq)).setCell ⟨b,1,none⟩ (.int .i64 ((i:Int) + 1))):=Keep.setCell (S:=fun j => j = b) ((Keep.refl _ w).drewN _) ⟨b,1,none⟩ (.inr rfl) _
  refine ⟨by rw [Hw.out];rfl,⟨?_,hK.rd H2.out (fun a ha => H3.out a ha),H3.out⟩,hK⟩
  have:=heap_setCell_same (w.drewN (d + nq)) b 1 _ _ (.int .i64 ((i:Int) + 1)) H1.out
  simpa using this
end Go.Proofs.YthamijnggdjaoaaGreatDoor
namespace Go.Proofs.YthamijnggdjaoaaGreatDoor
open Go.RowKit Go.ChangeShapes Go.WideShapes Go.ChangeAt
theorem opens_i:Opens Tryz.prog 3 1 (rInt .i64):=opens_int Tryz.underlying3 (by kernel_rfl)
theorem opens_i64s:Opens Tryz.prog 26 1 (rNums .i64):=opens_nums Tryz.underlying26 Tryz.underlying2 (by kernel_rfl) (by kernel_rfl) (by kernel_rfl)
theorem opens_ints:Opens Tryz.prog 22 1 (rNums .i64):=opens_nums Tryz.underlying22 Tryz.underlying3 (by kernel_rfl) (by kernel_rfl) (by kernel_rfl)
set_option maxRecDepth 100000 in
theorem wf_W64 {l:List Int} (h:∀ z ∈ l,(Lit.int .i64 z).wf = true):W64 l:=fun k hk => by
  have:=h _ (nth_mem hk)
  simpa [Lit.wf,IntKind.min,IntKind.max,IntKind.signed,IntKind.bits] using this
end Go.Proofs.YthamijnggdjaoaaGreatDoor
namespace Go.Proofs.YthamijnggdjaoaaGreatDoor
open Go.RowKit
theorem et_exs:ElemT Tryz.prog 25 72 (.agg #[.slice none 0 0,.slice none 0 0]) 2 48:=⟨Tryz.underlying25,info_parts (by kernel_rfl),rfl,by decide⟩
abbrev Ex:=List Int × List Int
structure NumsRd (w:World) (A:Option Addr) (l:List Int) (c:Nat):Prop where
  hc:l.length ≤ c
  hl:l.length ≤ 17592186043904
  hr:Rd w A (nums .i64 l)
  hw:W64 l
theorem NumsRd.below {w w':World} {A:Option Addr} {l:List Int} {c:Nat} (h:NumsRd w A l c) (hb:Below w.heap.size w w'):NumsRd w' A l c:=⟨h.hc,h.hl,h.hr.below hb,h.hw⟩
def rEx:Reader Ex:=fun w cs e => ∃ A c B d,cs = [.slice A e.1.length c,.slice B e.2.length d] ∧ NumsRd w A e.1 c ∧ NumsRd w B e.2 d
theorem stays_ex:Stays rEx:=fun hb ⟨A,c,B,d,h1,h2,h3⟩ => ⟨A,c,B,d,h1,h2.below hb,h3.below hb⟩
def ExOwn (w:World) (base:Nat) (cs:List Value) (e:Ex):Prop:=∃ u v,cs = [u,v] ∧ w.ownsRow base 2 1 u e.1.length (nums .i64 e.1) ∧ w.ownsRow base 2 1 v e.2.length (nums .i64 e.2) ∧
  e.1.length ≤ 17592186043904 ∧ e.2.length ≤ 17592186043904 ∧ W64 e.1 ∧ W64 e.2
theorem ExOwn.rd {w:World} {base:Nat} {cs:List Value} {e:Ex} (h:ExOwn w base cs e):rEx w cs e:=by
  obtain ⟨u,v,rfl,h1,h2,h3,h4,h5,h6⟩:=h
  obtain ⟨A,c,rfl,hc⟩:=own_form h1
  obtain ⟨B,d,rfl,hd⟩:=own_form h2
  exact ⟨A,c,B,d,rfl,⟨hc,h3,Rd.own h1,h5⟩,⟨hd,h4,Rd.own h2,h6⟩⟩
theorem ExOwn.below {w w':World} {base:Nat} {cs:List Value} {e:Ex} (h:ExOwn w base cs e) (hb:Below w.heap.size w w'):ExOwn w' base cs e:=by
  obtain ⟨u,v,rfl,h1,h2,h3⟩:=h
  exact ⟨u,v,rfl,own_below h1 hb,own_below h2 hb,h3⟩
theorem ExOwn.base {w:World} {base base':Nat} {cs:List Value} {e:Ex} (h:ExOwn w base cs e) (hb:base' ≤ base):ExOwn w base' cs e:=by
  obtain ⟨u,v,rfl,h1,h2,h3⟩:=h
  exact ⟨u,v,rfl,own_base h1 hb,own_base h2 hb,h3⟩
theorem own_pushed {W W':World} {e' e size' size n m:Nat} {v u:Value} {xs ys:List Value} {base base':Nat} (hu:W.ownsRow base' e' size' u m ys) (hv:W.ownsRow base e size v n xs) (hg:W.grownBy W' v.ownBlock) (h1:e ≠ e'):W'.ownsRow base' e' size' u m ys:=by
  refine hu.kept hg ?_
  cases hub:u.ownBlock with
  | none => exact .inl rfl
  | some k => exact .inr fun e9 => own_types hv hu h1 k e9.symm hub
theorem ExOwn.pushed {W W':World} {e size n:Nat} {v:Value} {xs:List Value} {base base':Nat} {cs:List Value} {x:Ex} (h:ExOwn W base' cs x) (hv:W.ownsRow base e size v n xs) (hg:W.grownBy W' v.ownBlock) (h1:e ≠ 2):ExOwn W' base' cs x:=by
  obtain ⟨u,v',rfl,k1,k2,k3⟩:=h
  exact ⟨u,v',rfl,own_pushed k1 hv hg h1,own_pushed k2 hv hg h1,k3⟩
theorem lclone_any (A:Option Addr) (zs:List Int) (c:Nat) (w:World) (hA:Rd w A (nums .i64 zs)) (hl:zs.length ≤ 17592186043904) :
    Calls Tryz.prog 255 #[.slice A zs.length c] w fun e w' => ∃ v,e = .returned v ∧ w'.ownsRow w.heap.size 2 1 v zs.length (nums .i64 zs) ∧ Below w.heap.size w w':=by
  have q:=fun (w:World) => Lib.run_eql_slice_nil (P:=Tryz.prog) w 26 2 A zs.length c 0 0 Tryz.underlying26
  cases A with
  | none =>
    have hz:zs = []:=by
      cases zs with
      | nil => rfl
      | cons z l => obtain ⟨b,o,h,_⟩:=hA 0 _ rfl;cases h
    subst hz
    clear q
    have q:=fun (w:World) => Lib.run_eql_slice_nil (P:=Tryz.prog) w 26 2 none 0 c 0 0 Tryz.underlying26
    simp only [Option.isNone_none] at q
    rw [List.length_nil]
    go_enter Tryz.func255,Tryz.ntmps255
    go_wp2
    go_ret
    exact ⟨_,rfl,World.ownsRow_nil _ _ _ _,Below.refl _ _⟩
  | some a =>
    go_enter Tryz.func255,Tryz.ntmps255
    go_wp2_with (at_builtin;refine wpList_app et_i64s _ rfl (.tmp 5) (.tmp 6) rfl w.heap.size _ 0 [] rfl (own_empty w 2 1) _ zs.length c (nums .i64 zs) rfl (hA.alloc _) (by rw [nums_length];omega) (nums_cell _ _) (by omega) (by unfold maxLen;omega) (by simp) ?_)
    intro A' c' w1 hown hb _ _
    have hb1:=((Below.refl _ w).alloc (Nat.le_refl _) (.cells #[] 2)).trans hb
    have Hown:=Lib.hid hown;have Hb1:=Lib.hid hb1;clear hown hb hb1
    go_wp2
    go_ret
    exact ⟨_,rfl,Hown.out,Hb1.out⟩
set_option maxRecDepth 100000 in
set_option maxHeartbeats 1000000 in
theorem copied_any (cs:List Value) (x:Ex) (w:World) (h:rEx w cs x) :
    Calls Tryz.prog 223 #[.agg cs.toArray] w fun e w' => ∃ us:List Value,e = .returned (.agg us.toArray) ∧ ExOwn w' w.heap.size us x ∧ Below w.heap.size w w':=by
  obtain ⟨A,c,B,d,rfl,h1,h2⟩:=h
  obtain ⟨x,y⟩:=x
  dsimp only at h1 h2 ⊢
  have hcx:=fun w' (k:Below w.heap.size w w') => lclone_any A x c w' (h1.hr.below k) h1.hl
  have hcy:=fun w' (k:Below w.heap.size w w') => lclone_any B y d w' (h2.hr.below k) h2.hl
  have H1:=Lib.hid h1;have H2:=Lib.hid h2
  obtain ⟨n,hn⟩:∃ n,x.length = n:=⟨_,rfl⟩
  obtain ⟨m,hm⟩:∃ m,y.length = m:=⟨_,rfl⟩
  rw [hn] at hcx ⊢
  rw [hm] at hcy ⊢
  have Hcx:=Lib.hid hcx;have Hcy:=Lib.hid hcy;have Hn:=Lib.hid hn;have Hm:=Lib.hid hm
  clear hcx hcy hn hm h1 h2
  go_enter Tryz.func223,Tryz.ntmps223
  go_wp2_with fail
  have hz:=heap_alloc_new (w.alloc (.cells #[.slice A n c,.slice B m d] 72)) (.cells #[.slice none 0 0,.slice none 0 0] 72)
  rw [show (w.alloc (.cells #[.slice A n c,.slice B m d] 72)).heap.size = w.heap.size + 1 by simp] at hz
  have hy:=(Below.heap_alloc (w.alloc (.cells #[.slice A n c,.slice B m d] 72)) (.cells #[.slice none 0 0,.slice none 0 0] 72) w.heap.size (by simp)).trans (heap_alloc_new w _)
  have hB0:Below w.heap.size w ((w.alloc (.cells #[.slice A n c,.slice B m d] 72)).alloc (.cells #[.slice none 0 0,.slice none 0 0] 72)):=((Below.refl _ w).alloc (Nat.le_refl _) _).alloc (by simp) _
  have hs0:((w.alloc (.cells #[.slice A n c,.slice B m d] 72)).alloc (.cells #[.slice none 0 0,.slice none 0 0] 72)).heap.size = w.heap.size + 2:=by simp
  obtain ⟨W0,hW0⟩:∃ W0,W0 = (w.alloc (.cells #[.slice A n c,.slice B m d] 72)).alloc (.cells #[.slice none 0 0,.slice none 0 0] 72):=⟨_,rfl⟩
  rw [← hW0] at hz hy hB0 hs0 ⊢
  obtain ⟨⟨y0,y1⟩,yf⟩:=bx2 hy
  have Hz:=Lib.hid hz;have HB0:=Lib.hid hB0;have Hs0:=Lib.hid hs0
  clear hz hy hB0 hs0 hW0
  have hSw:(fun w':World => w'.cell? ⟨w.heap.size,0,none⟩ = some (.slice A n c) ∧ w'.cell? ⟨w.heap.size,1,none⟩ = some (.slice B m d)) W0.drew:=⟨y0,y1⟩
  refine XA.g 7 (fun w':World => w'.cell? ⟨w.heap.size,0,none⟩ = some (.slice A n c) ∧ w'.cell? ⟨w.heap.size,1,none⟩ = some (.slice B m d)) ?_
  refine XA.t ?_ [0,1,3,4] hSw ?_
  refine XA.o 2 (fun K hK => ?_)
  go_simp
  refine (Hcx.out _ HB0.out.drew).mono ?_
  rintro e w1 ⟨u,rfl,hou,hb1⟩
  obtain ⟨A1,c1,rfl,_⟩:=own_form hou
  have hS1:=And.intro (cell_below hb1 hSw.1) (cell_below hb1 hSw.2)
  have hz1:=(hb1.block (w.heap.size + 1) (by simp [Hs0.out])).trans Hz.out
  have hB1:=HB0.out.drew.trans (hb1.mono (by simp [Hs0.out]))
  have hs1:=hb1.size
  simp only [World.size_drew,Hs0.out] at hs1
  have hou:=own_base (base':=w.heap.size) hou (by simp [Hs0.out])
  have Hou:=Lib.hid hou;have Hz1:=Lib.hid hz1;have HB1:=Lib.hid hB1;clear hou hz1 hB1 hb1 hSw
  dsimp only
  refine hK.out _ _ hS1 (fun hSw => ?_)
  clear hK K hS1
  refine XA.o 5 (fun K hK => ?_)
  go_simp
  refine (Hcy.out _ HB1.out).mono ?_
  rintro e w2 ⟨v,rfl,hov,hb2⟩
  obtain ⟨A2,c2,rfl,_⟩:=own_form hov
  have hS2:=And.intro (cell_below hb2 hSw.1) (cell_below hb2 hSw.2)
  have hz2:=(hb2.block (w.heap.size + 1) (by omega)).trans Hz1.out
  have hB2:=HB1.out.trans (hb2.mono HB1.out.size)
  have hs2:=hb2.size
  have hov:=own_base (base':=w.heap.size) hov HB1.out.size
  have hou2:=own_below Hou.out hb2
  obtain ⟨⟨z0,z1⟩,zf⟩:=bx2 hz2
  have l2:w.heap.size + 1 < w2.heap.size:=lt_of_block hz2
  have Hov:=Lib.hid hov;have Hou2:=Lib.hid hou2;have Hz2:=Lib.hid hz2;have HB2:=Lib.hid hB2;clear hov hou2 hz2 hB2 hb2 hSw
  dsimp only
  refine hK.out _ _ hS2 (fun hSw => ?_)
  clear hK K hS2
  refine XA.t ?_ [6] hSw ?_
  refine XA.e ?_
  clear hSw
  simp only [List.drop_succ_cons,List.drop_zero]
  go_wp2_with fail
  have e1:=heap_setCell_same w2 (w.heap.size + 1) 0 _ _ (.slice A1 n c1) Hz2.out
  have e2:=heap_setCell_same _ (w.heap.size + 1) 1 _ _ (.slice A2 m c2) e1
  have e3:((w2.setCell ⟨w.heap.size + 1,0,none⟩ (.slice A1 n c1)).setCell ⟨w.heap.size + 1,1,none⟩ (.slice A2 m c2)).heap[w.heap.size + 1]? = some (.cells #[(.slice A1 n c1),(.slice A2 m c2)] 72 (0,0)):=by simpa using e2
  have hk:Keep (fun j => j = w.heap.size + 1) w2 ((w2.setCell ⟨w.heap.size + 1,0,none⟩ (.slice A1 n c1)).setCell ⟨w.heap.size + 1,1,none⟩ (.slice A2 m c2)):=Keep.setCell (S:=fun j => j = w.heap.size + 1) (Keep.setCell (S:=fun j => j = w.heap.size + 1) (Keep.refl _ _) ⟨w.heap.size + 1,0,none⟩ (.inr rfl) _) ⟨w.heap.size + 1,1,none⟩ (.inr rfl) _
  obtain ⟨W9,hW9⟩:∃ W9,W9 = (w2.setCell ⟨w.heap.size + 1,0,none⟩ (.slice A1 n c1)).setCell ⟨w.heap.size + 1,1,none⟩ (.slice A2 m c2):=⟨_,rfl⟩
  rw [← hW9] at e3 hk ⊢
  obtain ⟨⟨x0,x1⟩,xf⟩:=bx2 e3
  have hu9:=hk.own Hou2.out (fun j hj e => block_notrow Hz2.out (by decide) Hou2.out (by rw [hj,e]))
  have hv9:=hk.own Hov.out (fun j hj e => block_notrow Hz2.out (by decide) Hov.out (by rw [hj,e]))
  have hb9:Below w.heap.size w W9:=HB2.out.trans (hk.toBelow (by omega) (fun j hj => by omega))
  have e1n:=H1.out;have e2n:=H2.out
  exact bodyPost_ret (v:=.agg #[(.slice A1 n c1),(.slice A2 m c2)]) (by simp [results,Tryz.results223,go_sem,x0,x1]) rfl ⟨[(.slice A1 n c1),(.slice A2 m c2)],rfl,⟨_,_,rfl,by rw [Hn.out];exact hu9,by rw [Hm.out];exact hv9,e1n.hl,e2n.hl,e1n.hw,e2n.hw⟩,hb9⟩
end Go.Proofs.YthamijnggdjaoaaGreatDoor
namespace Go.Proofs.YthamijnggdjaoaaGreatDoor
open Go.RowKit
theorem ex_cells {w:World} {A:Option Addr} {l:List Ex} (h:SlRd rEx 2 w A l) {j:Nat} {x:Ex} (hx:l[j]? = some x) :
    ∃ b o A1 c1 A2 c2,A = some ⟨b,o,none⟩ ∧ b < w.heap.size ∧ w.cell? ⟨b,o + j * 2,none⟩ = some (.slice A1 x.1.length c1) ∧ w.cell? ⟨b,o + j * 2 + 1,none⟩ = some (.slice A2 x.2.length c2) ∧ NumsRd w A1 x.1 c1 ∧ NumsRd w A2 x.2 c2:=by
  obtain ⟨b,o,cs,rfl,hb,hl,⟨A1,c1,A2,c2,rfl,k1,k2⟩,h0,ht⟩:=h.get (by decide) hx
  exact ⟨b,o,A1,c1,A2,c2,rfl,hb,h0,ht 1 (by decide),k1,k2⟩
def MapI (w wr:World) (l:List Ex) (k:Nat) (v:Value):Prop:=∃ rows,wr.ownsRow w.heap.size 72 2 v k (List.flatten rows) ∧ rows.length = k ∧ (∀ r ∈ rows,r.length = 2) ∧
  (∀ j x,j < k → l[j]? = some x → ExOwn wr w.heap.size (rowOf rows j) x) ∧ Below w.heap.size w wr
theorem MapI.zero (w:World) (l:List Ex):MapI w w l 0 (.slice none 0 0):=⟨[],World.ownsRow_nil _ _ _ _,rfl,by simp,fun j x h => by omega,Below.refl _ _⟩
theorem MapI.form {w wr:World} {l:List Ex} {k:Nat} {v:Value} (h:MapI w wr l k v):∃ A c,v = .slice A k c:=by
  obtain ⟨rows,h1,_⟩:=h
  obtain ⟨A,c,e,_⟩:=own_form h1
  exact ⟨A,c,e⟩
theorem MapI.b {w wr:World} {l:List Ex} {k:Nat} {v:Value} (h:MapI w wr l k v):Below w.heap.size w wr:=by
  obtain ⟨rows,_,_,_,_,h⟩:=h
  exact h
theorem MapI.below {w wr w':World} {l:List Ex} {k:Nat} {v:Value} (h:MapI w wr l k v) (hb:Below wr.heap.size wr w'):MapI w w' l k v:=by
  obtain ⟨rows,h1,h2,h3,h4,h5⟩:=h
  exact ⟨rows,own_below h1 hb,h2,h3,fun j x hj hx => (h4 j x hj hx).below hb,h5.trans (hb.mono h5.size)⟩
theorem MapI.done {w wr:World} {l:List Ex} {A:Option Addr} {n c:Nat} (h:MapI w wr l n (.slice A n c)) (hn:l.length = n):SlRd rEx 2 wr A l:=by
  obtain ⟨rows,h1,h2,h3,h4,h5⟩:=h
  exact ⟨rows,Rd.own h1,by omega,h3,fun j x hx => (h4 j x (by have:=(List.getElem?_eq_some_iff.1 hx).1;omega) hx).rd⟩
theorem MapI.doneT {w wr:World} {l:List Ex} {A:Option Addr} {n c:Nat} (h:MapI w wr l n (.slice A n c)) (hn:l.length = n):SlRd rEx 2 (topW w.heap.size wr) A l:=by
  obtain ⟨rows,h1,h2,h3,h4,h5⟩:=h
  exact ⟨rows,Rd.own (own_top h1 (Nat.le_refl _)),by omega,h3,fun j x hx => by
    obtain ⟨u,v,e,k1,k2,k3⟩:=h4 j x (by have:=(List.getElem?_eq_some_iff.1 hx).1;omega) hx
    exact ExOwn.rd ⟨u,v,e,own_top k1 (Nat.le_refl _),own_top k2 (Nat.le_refl _),k3⟩⟩
theorem MapI.push {w W3 w6:World} {l:List Ex} {k:Nat} {v v':Value} {u1 u2:Value} {x:Ex} {rows:List (List Value)} (h1:W3.ownsRow w.heap.size 72 2 v k (List.flatten rows)) (h2:rows.length = k) (h3:∀ r ∈ rows,r.length = 2) (h4:∀ j x,j < k → l[j]? = some x → ExOwn W3 w.heap.size (rowOf rows j) x) (h5:Below w.heap.size w W3)
    (hx:l[k]? = some x) (hu:ExOwn W3 w.heap.size [u1,u2] x) (ho:w6.ownsRow w.heap.size 72 2 v' (k + 1) (List.flatten rows ++ [u1,u2])) (hb:Below w.heap.size W3 w6) (hg:W3.grownBy w6 v.ownBlock):MapI w w6 l (k + 1) v':=by
  refine ⟨rows ++ [[u1,u2]],by rw [List.flatten_append,List.flatten_cons,List.flatten_nil,List.append_nil];exact ho,by simp [h2],?_,?_,h5.trans hb⟩
  · intro r hr
    rcases List.mem_append.1 hr with hr | hr
    · exact h3 r hr
    · rw [List.mem_singleton.1 hr];rfl
  · intro j y hj hy
    rcases Nat.lt_or_ge j k with h | h
    · have e:rowOf (rows ++ [[u1,u2]]) j = rowOf rows j:=by simp [rowOf,List.getElem?_append_left (show j < rows.length by omega)]
      rw [e];exact (h4 j y h hy).pushed h1 hg (by decide)
    · obtain rfl:j = k:=by omega
      rw [hx] at hy
      injection hy with hy
      subst hy
      have e:rowOf (rows ++ [[u1,u2]]) j = [u1,u2]:=by rw [← h2];simp [rowOf]
      rw [e];exact hu.pushed h1 hg (by decide)
def ExRet (w:World) (x:Ex) (e:Ending) (w':World):Prop:=∃ A1 c1 A2 c2,e = .returned (.tuple #[.agg #[.slice A1 x.1.length c1,.slice A2 x.2.length c2],.bool true]) ∧ ExOwn w' w.heap.size [.slice A1 x.1.length c1,.slice A2 x.2.length c2] x ∧ Below w.heap.size w w'
theorem copied_at (A:Option Addr) (c:Nat) (B:Option Addr) (d:Nat) (x:Ex) (w:World) (h1:NumsRd w A x.1 c) (h2:NumsRd w B x.2 d) :
    Calls Tryz.prog 223 #[.agg #[.slice A x.1.length c,.slice B x.2.length d]] w fun e w' => ∃ A1 c1 A2 c2,e = .returned (.agg #[.slice A1 x.1.length c1,.slice A2 x.2.length c2]) ∧ ExOwn w' w.heap.size [.slice A1 x.1.length c1,.slice A2 x.2.length c2] x ∧ Below w.heap.size w w':=by
  refine (copied_any [.slice A x.1.length c,.slice B x.2.length d] x w ⟨A,c,B,d,rfl,h1,h2⟩).mono ?_
  rintro e w' ⟨us,rfl,⟨u,v,rfl,h3,h4,h5⟩,hb⟩
  obtain ⟨A1,c1,rfl,_⟩:=own_form h3
  obtain ⟨A2,c2,rfl,_⟩:=own_form h4
  exact ⟨A1,c1,A2,c2,rfl,⟨_,_,rfl,h3,h4,h5⟩,hb⟩
theorem copied_nm (n m:Nat) (A:Option Addr) (c:Nat) (B:Option Addr) (d:Nat) (x:Ex) (w:World) (hn:x.1.length = n) (hm:x.2.length = m) (h1:NumsRd w A x.1 c) (h2:NumsRd w B x.2 d) :
    Calls Tryz.prog 223 #[.agg #[.slice A n c,.slice B m d]] w fun e w' => ∃ A1 c1 A2 c2,e = .returned (.agg #[.slice A1 n c1,.slice A2 m c2]) ∧ ExOwn w' w.heap.size [.slice A1 n c1,.slice A2 m c2] x ∧ Below w.heap.size w w':=by
  subst hn;subst hm;exact copied_at A c B d x w h1 h2
set_option maxRecDepth 100000 in
theorem clone1_any (A:Option Addr) (c:Nat) (B:Option Addr) (d:Nat) (x:Ex) (w:World) (h1:NumsRd w A x.1 c) (h2:NumsRd w B x.2 d) :
    Calls Tryz.prog 222 #[.agg #[.slice A x.1.length c,.slice B x.2.length d]] w (ExRet w x):=by
  have hco:=fun n m (hn:x.1.length = n) (hm:x.2.length = m) w' (k:Below w.heap.size w w') => copied_nm n m A c B d x w' hn hm (h1.below k) (h2.below k)
  unfold ExRet
  obtain ⟨n,hn⟩:∃ n,x.1.length = n:=⟨_,rfl⟩
  obtain ⟨m,hm⟩:∃ m,x.2.length = m:=⟨_,rfl⟩
  have hco:=hco n m hn hm
  rw [hn,hm]
  have Hco:=Lib.hid hco;clear hco hn hm h1 h2
  go_enter Tryz.func222,Tryz.ntmps222
  go_wp2_with fail
  refine (Hco.out _ ?_).mono ?_
  · (focus (repeat' (first | (with_reducible exact Below.refl _ _) | (with_reducible assumption) | (with_reducible refine Below.setCell ?_ ?_ _) | (with_reducible refine Below.alloc ?_ ?_ _) | (with_reducible refine below_drewN ?_ _) | (with_reducible refine Below.drew ?_) | (with_reducible exact Nat.le_refl _) | omega | (simp;done) | (simp;omega))))
  rintro e w1 ⟨A1,c1,A2,c2,rfl,ho,hb1⟩
  have hz:w1.heap[w.heap.size + 1]? = some (.cells #[.slice none 0 0,.slice none 0 0] 72 (0,0)):=(hb1.block (w.heap.size + 1) (by simp)).trans (by rw [← show (w.alloc (.cells #[.slice A n c,.slice B m d] 72)).heap.size = w.heap.size + 1 by simp];exact heap_alloc_new (w.alloc (.cells #[.slice A n c,.slice B m d] 72)) (.cells #[.slice none 0 0,.slice none 0 0] 72))
  have hB1:Below w.heap.size w w1:=(((Below.refl _ w).alloc (Nat.le_refl _) _).alloc (by simp) _).trans (hb1.mono (by first | omega | (simp;done) | (simp;omega)))
  have ho1:=ho.base (base':=w.heap.size) (by first | omega | (simp;done) | (simp;omega))
  have lz:=lt_of_block hz
  obtain ⟨⟨z0,z1⟩,zf⟩:=bx2 hz
  have Hz:=Lib.hid hz;have HB1:=Lib.hid hB1;have Ho1:=Lib.hid ho1;clear hz hB1 ho1 hb1 ho
  go_wp2_with fail
  have e1:=heap_setCell_same w1 (w.heap.size + 1) 0 _ _ (.slice A1 n c1) Hz.out
  have e2:=heap_setCell_same _ (w.heap.size + 1) 1 _ _ (.slice A2 m c2) e1
  have e3:((w1.setCell ⟨w.heap.size + 1,0,none⟩ (.slice A1 n c1)).setCell ⟨w.heap.size + 1,1,none⟩ (.slice A2 m c2)).heap[w.heap.size + 1]? = some (.cells #[.slice A1 n c1,.slice A2 m c2] 72 (0,0)):=by simpa using e2
  have hk:Keep (fun j => j = w.heap.size + 1) w1 ((w1.setCell ⟨w.heap.size + 1,0,none⟩ (.slice A1 n c1)).setCell ⟨w.heap.size + 1,1,none⟩ (.slice A2 m c2)):=Keep.setCell (S:=fun j => j = w.heap.size + 1) (Keep.setCell (S:=fun j => j = w.heap.size + 1) (Keep.refl _ _) ⟨w.heap.size + 1,0,none⟩ (.inr rfl) _) ⟨w.heap.size + 1,1,none⟩ (.inr rfl) _
  obtain ⟨W9,hW9⟩:∃ W9,W9 = (w1.setCell ⟨w.heap.size + 1,0,none⟩ (.slice A1 n c1)).setCell ⟨w.heap.size + 1,1,none⟩ (.slice A2 m c2):=⟨_,rfl⟩
  rw [← hW9] at e3 hk ⊢
  obtain ⟨⟨x0,x1⟩,xf⟩:=bx2 e3
  have ho9:ExOwn W9 w.heap.size [.slice A1 n c1,.slice A2 m c2] x:=by
    obtain ⟨u,v,e,k1,k2,k3⟩:=Ho1.out
    exact ⟨u,v,e,hk.own k1 (fun j hj e => block_notrow Hz.out (by decide) k1 (by rw [hj,e])),hk.own k2 (fun j hj e => block_notrow Hz.out (by decide) k2 (by rw [hj,e])),k3⟩
  exact bodyPost_ret (v:=.tuple #[.agg #[.slice A1 n c1,.slice A2 m c2],.bool true]) (by simp [results,Tryz.results222,go_sem,x0,x1]) rfl ⟨A1,c1,A2,c2,rfl,ho9,HB1.out.trans (hk.toBelow HB1.out.size (fun j hj => by omega))⟩
set_option maxRecDepth 100000 in
set_option maxHeartbeats 1000000 in
theorem mapex_any (A:Option Addr) (l:List Ex) (c:Nat) (w:World) (h:SlRd rEx 2 w A l) (hl:l.length ≤ 1048576) :
    Calls Tryz.prog 221 #[.slice A l.length c,.func (.func 222) #[] #[]] w fun e w' => ∃ v,e = .returned (.tuple #[v,.bool true]) ∧ MapI w w' l l.length v:=by
  obtain ⟨n,hn⟩:∃ n,l.length = n:=⟨_,rfl⟩
  rw [hn] at hl ⊢
  have H:=Lib.hid h;have Hn:=Lib.hid hn;clear h hn
  go_enter Tryz.func221,Tryz.ntmps221
  go_wp2_with fail
  go_loopw [6,13] (fun v i wr => ∃ k:Nat,k ≤ n ∧ i = .int .i64 k ∧ MapI w wr l k v) (fun _ i _ => n - (intOf i).toNat)
  case atStart => exact ⟨0,Nat.zero_le _,rfl,MapI.zero w l⟩
  case round =>
    obtain ⟨k,hk,rfl,hM⟩:=hrel
    obtain ⟨Al,cl,rfl⟩:=hM.form
    by_cases hlt:k < n
    · obtain ⟨x,hx⟩:∃ x,l[k]? = some x:=⟨_,List.getElem?_eq_getElem (by rw [Hn.out];exact hlt)⟩
      have hb:=hM.b
      obtain ⟨b,o,A1,c1,A2,c2,rfl,hbl,p1,p2,r1,r2⟩:=ex_cells (H.out.below stays_ex hb) hx
      have hcl:=fun w' (q:Below wr.heap.size wr w') => clone1_any A1 c1 A2 c2 x w' (r1.below q) (r2.below q)
      unfold ExRet at hcl
      obtain ⟨n1,hn1⟩:∃ n1,x.1.length = n1:=⟨_,rfl⟩
      obtain ⟨n2,hn2⟩:∃ n2,x.2.length = n2:=⟨_,rfl⟩
      rw [hn1] at p1 hcl;rw [hn2] at p2 hcl
      have Hcl:=Lib.hid hcl;have HM:=Lib.hid hM;have Hx:=Lib.hid hx
      clear hcl hM hx r1 r2 hn1 hn2 hb
      go_wp2_with fail
      refine (Hcl.out _ ?_).mono ?_
      · (focus (repeat' (first | (with_reducible exact Below.refl _ _) | (with_reducible assumption) | (with_reducible refine Below.setCell ?_ ?_ _) | (with_reducible refine Below.alloc ?_ ?_ _) | (with_reducible refine below_drewN ?_ _) | (with_reducible refine Below.drew ?_) | (with_reducible exact Nat.le_refl _) | omega | (simp;done) | (simp;omega))))
      rintro e w3 ⟨B1,d1,B2,d2,rfl,ho,hb3⟩
      have hb3':Below wr.heap.size wr w3:=((Below.refl _ wr).alloc (Nat.le_refl _) _).trans (hb3.mono (by first | omega | (simp;done) | (simp;omega)))
      have hM3:=(HM.out.below hb3').below ((Below.refl _ _).alloc (Nat.le_refl _) (.cells #[.slice B1 n1 d1,.slice B2 n2 d2] 72))
      have ho3:=(ho.base (base':=w.heap.size) (by have:=HM.out.b.size;first | omega | (simp;done) | (simp;omega))).below ((Below.refl _ _).alloc (Nat.le_refl _) (.cells #[.slice B1 n1 d1,.slice B2 n2 d2] 72))
      have HM3:=Lib.hid hM3;have Ho3:=Lib.hid ho3;clear hM3 ho3 ho hb3 hb3' p1 p2
      obtain ⟨rows,h1,h2,h3,h4,h5⟩:=HM3.out
      have R1:=Lib.hid h1;have R2:=Lib.hid h2;have R3:=Lib.hid h3;have R4:=Lib.hid h4;have R5:=Lib.hid h5;clear h1 h2 h3 h4 h5
      have hsz9:=Lib.hid (show (w3.alloc (.cells #[.slice B1 n1 d1,.slice B2 n2 d2] 72)).heap.size = w3.heap.size + 1 by simp)
      go_wp2_with (at_builtin;refine wpList_push et_exs _ rfl (.tmp 25) (.tmp 27) rfl w.heap.size (.slice Al k cl) k _ rfl R1.out [.slice B1 n1 d1,.slice B2 n2 d2] (congrArg (fun b:Nat => Value.slice (some ⟨b,0,none⟩) 1 1) hsz9.out.symm) rfl (by simp [Value.oneCell']) (by omega) (by unfold maxLen;omega) R5.out.size ?_)
      intro g6 c6 w6 ho6 hb6 hg6
      have hM6:=MapI.push R1.out R2.out R3.out R4.out R5.out Hx.out Ho3.out ho6 hb6 hg6
      have HM6:=Lib.hid hM6
      clear ho6 hb6 hg6 hM6
      go_wp2_with fail
      go_roundw
      case rel => exact ⟨k + 1,by omega,by go_num,HM6.out⟩
      case measure => simp [intOf];omega
    · obtain rfl:n = k:=by omega
      have HM:=Lib.hid hM;clear hM
      go_wp2_with fail
      go_ret2
      exact ⟨_,rfl,HM.out⟩
theorem tops_ex:Tops rEx:=fun ⟨A1,c1,A2,c2,e,k1,k2⟩ hv => ⟨A1,c1,A2,c2,e,⟨k1.hc,k1.hl,top_rd k1.hr hv,k1.hw⟩,⟨k2.hc,k2.hl,top_rd k2.hr hv,k2.hw⟩⟩
theorem dclone_anyT (A:Option Addr) (l:List Ex) (c:Nat) (w:World) (h:SlRd rEx 2 w A l) (hl:l.length ≤ 1048576) :
    Calls Tryz.prog 175 #[.slice A l.length c] w fun e w' => ∃ A' c',e = .returned (.slice A' l.length c') ∧ SlRd rEx 2 (topW w.heap.size w') A' l ∧ Below w.heap.size w w':=by
  have hm:=mapex_any A l c w h hl
  obtain ⟨n,hn⟩:∃ n,l.length = n:=⟨_,rfl⟩
  rw [hn] at hm ⊢
  have Hm:=Lib.hid hm;have Hn:=Lib.hid hn;clear hm hn h
  go_enter Tryz.func175,Tryz.ntmps175
  go_wp2_with fail
  refine Hm.out.mono ?_
  rintro e w1 ⟨v,rfl,hM⟩
  obtain ⟨A',c',rfl⟩:=hM.form
  have HM:=Lib.hid hM;clear hM
  go_wp2
  go_ret
  exact ⟨_,_,rfl,HM.out.doneT Hn.out,HM.out.b⟩
def pickL (l:List Ex) (idx:List Int):List Ex:=idx.map fun i => l.getD i.toNat ([],[])
theorem pickL_len (l:List Ex) (idx:List Int):(pickL l idx).length = idx.length:=by simp [pickL]
theorem pickL_at (l:List Ex) (idx:List Int) {k:Nat} (h:k < idx.length):(pickL l idx)[k]? = some (l.getD (nth idx k).toNat ([],[])):=by simp [pickL,nth_eq _ _ h,h]
set_option maxRecDepth 100000 in
theorem pick1_bad (P n c:Nat) (A:Option Addr) (i:Int) (w:World) (hP:w.heap[P]? = some (.cells #[.slice A n c] 25 (0,0))) (hi:i < 0 ∨ (n:Int) ≤ i) :
    Calls Tryz.prog 285 #[.int .i64 i,.pointer (some ⟨P,0,none⟩)] w fun e w' => e = .returned (.tuple #[.agg #[.slice none 0 0,.slice none 0 0],.bool false]) ∧ Below w.heap.size w w':=by
  obtain ⟨p0,pf⟩:=bx1 hP
  have hPl:=lt_of_block hP
  clear hP
  rcases Int.lt_or_le i 0 with h0 | h0
  · have h0':i < 0:=h0
    clear hi
    go_enter Tryz.func285,Tryz.ntmps285
    go_wp2_with fail
    have e3:=heap_alloc_new w (.cells #[.slice none 0 0,.slice none 0 0] 72)
    obtain ⟨W9,hW9⟩:∃ W9,W9 = w.alloc (.cells #[.slice none 0 0,.slice none 0 0] 72):=⟨_,rfl⟩
    have hb:Below w.heap.size w W9:=by rw [hW9];exact (Below.refl _ _).alloc (Nat.le_refl _) _
    rw [← hW9] at e3 ⊢
    obtain ⟨⟨x0,x1⟩,xf⟩:=bx2 e3
    exact bodyPost_ret (v:=.tuple #[.agg #[.slice none 0 0,.slice none 0 0],.bool false]) (by simp [results,Tryz.results285,go_sem,x0,x1]) rfl ⟨rfl,hb⟩
  · have h1:(n:Int) ≤ i:=by omega
    have h2:¬ i < 0:=by omega
    clear hi
    go_enter Tryz.func285,Tryz.ntmps285
    go_wp2_with fail
    have e3:=heap_alloc_new w (.cells #[.slice none 0 0,.slice none 0 0] 72)
    obtain ⟨W9,hW9⟩:∃ W9,W9 = w.alloc (.cells #[.slice none 0 0,.slice none 0 0] 72):=⟨_,rfl⟩
    have hb:Below w.heap.size w W9:=by rw [hW9];exact (Below.refl _ _).alloc (Nat.le_refl _) _
    rw [← hW9] at e3 ⊢
    obtain ⟨⟨x0,x1⟩,xf⟩:=bx2 e3
    exact bodyPost_ret (v:=.tuple #[.agg #[.slice none 0 0,.slice none 0 0],.bool false]) (by simp [results,Tryz.results285,go_sem,x0,x1]) rfl ⟨rfl,hb⟩
set_option maxRecDepth 100000 in
theorem pick1_good (P c j:Nat) (A:Option Addr) (l:List Ex) (x:Ex) (w:World) (hP:w.heap[P]? = some (.cells #[.slice A l.length c] 25 (0,0))) (h:SlRd rEx 2 w A l) (hx:l[j]? = some x) :
    Calls Tryz.prog 285 #[.int .i64 j,.pointer (some ⟨P,0,none⟩)] w (ExRet w x):=by
  have hj:=(List.getElem?_eq_some_iff.1 hx).1
  obtain ⟨b,o,A1,c1,A2,c2,rfl,hbl,p1,p2,r1,r2⟩:=ex_cells h hx
  have hco:=fun n m (hn:x.1.length = n) (hm:x.2.length = m) w' (k:Below w.heap.size w w') => copied_nm n m A1 c1 A2 c2 x w' hn hm (r1.below k) (r2.below k)
  unfold ExRet
  obtain ⟨n,hn⟩:∃ n,x.1.length = n:=⟨_,rfl⟩
  obtain ⟨m,hm⟩:∃ m,x.2.length = m:=⟨_,rfl⟩
  have hco:=hco n m hn hm
  rw [hn] at p1;rw [hm] at p2
  rw [hn,hm]
  obtain ⟨N,hN⟩:∃ N,l.length = N:=⟨_,rfl⟩
  rw [hN] at hP hj
  obtain ⟨p0,pf⟩:=bx1 hP
  have hPl:=lt_of_block hP
  have hji:(j:Int) < N:=by omega
  have hj0:¬ ((j:Int) < 0):=by omega
  have hj1:¬ ((N:Int) ≤ j):=by omega
  have Hco:=Lib.hid hco;clear hco hn hm r1 r2 hx h hN hP
  go_enter Tryz.func285,Tryz.ntmps285
  go_wp2_with fail
  refine (Hco.out _ ?_).mono ?_
  · (focus (repeat' (first | (with_reducible exact Below.refl _ _) | (with_reducible assumption) | (with_reducible refine Below.setCell ?_ ?_ _) | (with_reducible refine Below.alloc ?_ ?_ _) | (with_reducible refine below_drewN ?_ _) | (with_reducible refine Below.drew ?_) | (with_reducible exact Nat.le_refl _) | omega | (simp;done) | (simp;omega))))
  rintro e w1 ⟨B1,d1,B2,d2,rfl,ho,hb1⟩
  have hz:w1.heap[w.heap.size]? = some (.cells #[.slice none 0 0,.slice none 0 0] 72 (0,0)):=(hb1.block w.heap.size (by simp)).trans (heap_alloc_new w _)
  have hB1:Below w.heap.size w w1:=((Below.refl _ w).alloc (Nat.le_refl _) _).trans (hb1.mono (by first | omega | (simp;done) | (simp;omega)))
  have ho1:=ho.base (base':=w.heap.size) (by first | omega | (simp;done) | (simp;omega))
  have lz:=lt_of_block hz
  obtain ⟨⟨z0,z1⟩,zf⟩:=bx2 hz
  have Hz:=Lib.hid hz;have HB1:=Lib.hid hB1;have Ho1:=Lib.hid ho1;clear hz hB1 ho1 hb1 ho p0 pf p1 p2
  go_wp2_with fail
  have e1:=heap_setCell_same w1 w.heap.size 0 _ _ (.slice B1 n d1) Hz.out
  have e2:=heap_setCell_same _ w.heap.size 1 _ _ (.slice B2 m d2) e1
  have e3:((w1.setCell ⟨w.heap.size,0,none⟩ (.slice B1 n d1)).setCell ⟨w.heap.size,1,none⟩ (.slice B2 m d2)).heap[w.heap.size]? = some (.cells #[.slice B1 n d1,.slice B2 m d2] 72 (0,0)):=by simpa using e2
  have hk:Keep (fun j => j = w.heap.size) w1 ((w1.setCell ⟨w.heap.size,0,none⟩ (.slice B1 n d1)).setCell ⟨w.heap.size,1,none⟩ (.slice B2 m d2)):=Keep.setCell (S:=fun j => j = w.heap.size) (Keep.setCell (S:=fun j => j = w.heap.size) (Keep.refl _ _) ⟨w.heap.size,0,none⟩ (.inr rfl) _) ⟨w.heap.size,1,none⟩ (.inr rfl) _
  obtain ⟨W9,hW9⟩:∃ W9,W9 = (w1.setCell ⟨w.heap.size,0,none⟩ (.slice B1 n d1)).setCell ⟨w.heap.size,1,none⟩ (.slice B2 m d2):=⟨_,rfl⟩
  rw [← hW9] at e3 hk ⊢
  obtain ⟨⟨x0,x1⟩,xf⟩:=bx2 e3
  have ho9:ExOwn W9 w.heap.size [.slice B1 n d1,.slice B2 m d2] x:=by
    obtain ⟨u,v,e,k1,k2,k3⟩:=Ho1.out
    exact ⟨u,v,e,hk.own k1 (fun j hj e => block_notrow Hz.out (by decide) k1 (by rw [hj,e])),hk.own k2 (fun j hj e => block_notrow Hz.out (by decide) k2 (by rw [hj,e])),k3⟩
  exact bodyPost_ret (v:=.tuple #[.agg #[.slice B1 n d1,.slice B2 m d2],.bool true]) (by simp [results,Tryz.results285,go_sem,x0,x1]) rfl ⟨B1,d1,B2,d2,rfl,ho9,HB1.out.trans (hk.toBelow HB1.out.size (fun j hj => by omega))⟩
end Go.Proofs.YthamijnggdjaoaaGreatDoor
