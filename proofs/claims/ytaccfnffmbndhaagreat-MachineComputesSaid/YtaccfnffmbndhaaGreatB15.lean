/- The walks of sakiaref09: the small functions. The closure of Net.Trace: one vector more. The walk of Net.Trace. No condition. -/
import Derived.Test.YtaccfnffmbndhaaGreatB11
import Derived.Test.YtaccfnffmbndhaaGreatB13
import Derived.Test.YtaccfnffmbndhaaGreatB14
import Derived.Test.YtaccfnffmbndhaaGreatB05
import Derived.Test.YtaccfnffmbndhaaGreatB04
import Derived.Test.YtaccfnffmbndhaaGreatB03
import Derived.Deep.RegionHeld3
import Derived.Deep.DeepCutAuto
set_option linter.unusedSimpArgs false
set_option linter.unusedVariables false
namespace Go.Proofs.YtaccfnffmbndhaaGreat
open Go.RowKit
structure RNet (w:World) (As Ap:Option Addr) (sz ps:List Int) (cs:Nat):Prop where
  hA:Rd w As (nums .i64 sz)
  hP:Rd w Ap (nums .i64 ps)
  hg:GoodSz sz
  hl:ps.length = cntN sz (sz.length - 1)
  hc:sz.length ≤ cs
  wp:W64 ps
theorem RNet.below {w w':World} {As Ap:Option Addr} {sz ps:List Int} {cs:Nat} (h:RNet w As Ap sz ps cs) (hb:Below w.heap.size w w'):RNet w' As Ap sz ps cs:=⟨h.hA.below hb,h.hP.below hb,h.hg,h.hl,h.hc,h.wp⟩
theorem rlast_any (As Ap:Option Addr) (n m cs cp:Nat) (q:Int) (w:World) (hn:1 ≤ n ∧ n ≤ 1000):Calls Tryz.prog 158 #[.agg #[.slice As n cs,.slice Ap m cp,.int .i64 q]] w fun e w' => e = .returned (.int .i64 ((n - 1:Nat):Int)) ∧ Below w.heap.size w w':=by
  obtain ⟨h1,h2⟩:=hn
  have hw:IntKind.i64.wrap ((n:Int) - 1) = ((n - 1:Nat):Int):=by rw [IntWalk.i64_in _ (by omega)];omega
  have hw2:(n:Int) - 1 = ((n - 1:Nat):Int):=by omega
  rw [hw2] at hw
  go_enter Tryz.func158,Tryz.ntmps158
  go_wp2
  go_ret
  refine ⟨by first | rfl | (rw [hw2];rfl),?_⟩
  (focus (repeat' (first | (with_reducible exact Below.refl _ _) | (with_reducible assumption) | (with_reducible refine Below.setCell ?_ ?_ _) | (with_reducible refine Below.alloc ?_ ?_ _) | (with_reducible refine below_drewN ?_ _) | (with_reducible refine Below.drew ?_) | (with_reducible exact Nat.le_refl _) | omega | (simp;done) | (simp;omega))))
set_option maxHeartbeats 400000 in
theorem rweight_any (As Ap:Option Addr) (sz ps:List Int) (cs cp k r c:Nat) (q:Int) (w:World) (h:RNet w As Ap sz ps cs) (hk:k + 1 < sz.length) (hr:r < szN sz (k + 1)) (hc:c < szN sz k) :
    Calls Tryz.prog 186 #[.agg #[.slice As sz.length cs,.slice Ap ps.length cp,.int .i64 q],.int .i64 k,.int .i64 r,.int .i64 c] w fun e w' => e = .returned (.int .i64 (nth ps (cntN sz k + r * szN sz k + c))) ∧ Below w.heap.size w w':=by
  have hR:=h.hg.1
  have hl16:=hR.1.2
  have z0:=hR.at (k:=k) (by omega)
  have hmul:=h.hg.mul hk
  have hin:cntN sz k + r * szN sz k + c < ps.length:=by
    have h1:=midN_eq sz k
    have h2:=cntN_mono sz (show k + 1 ≤ sz.length - 1 by omega)
    have h3:r * szN sz k + szN sz k ≤ szN sz (k + 1) * szN sz k:=by
      have:=Nat.mul_le_mul_right (szN sz k) (show r + 1 ≤ szN sz (k + 1) by omega)
      rwa [Nat.succ_mul] at this
    have h4:=h.hl
    unfold midN at h1
    omega
  have hwt:=fun w' (hb:Below w.heap.size w w') => rweights_any As sz k cs w' (h.hA.below hb) hR hk h.hc
  have hpl:ps.length ≤ 1048576:=by rw [h.hl];exact h.hg.2
  obtain ⟨b,o,rfl,p0⟩:=h.hA.num (show k < sz.length by omega)
  obtain ⟨b2,o2,rfl,p2⟩:=h.hP.num hin
  have hrc:r * szN sz k ≤ szN sz (k + 1) * szN sz k:=Nat.mul_le_mul_right _ (by omega)
  rw [z0.2.2] at p0
  obtain ⟨a,ha⟩:∃ a,szN sz k = a:=⟨_,rfl⟩
  obtain ⟨N,hN⟩:∃ N,cntN sz k = N:=⟨_,rfl⟩
  obtain ⟨n,hn⟩:∃ n,sz.length = n:=⟨_,rfl⟩
  obtain ⟨m,hm⟩:∃ m,ps.length = m:=⟨_,rfl⟩
  rw [ha] at p0 p2 hin hc hrc z0 ⊢
  rw [hN] at p2 hin hwt ⊢
  rw [hn] at hwt hk hl16 ⊢
  rw [hm] at hin hpl ⊢
  obtain ⟨ra,hra⟩:∃ ra,r * a = ra:=⟨_,rfl⟩
  rw [hra] at p2 hin hrc ⊢
  have hbl:b < w.heap.size:=lt_of_cell p0
  have hbl2:b2 < w.heap.size:=lt_of_cell p2
  have hpp:(r:Int) * (a:Int) = (ra:Int):=by rw [← hra];push_cast;rfl
  have Hwt:=Lib.hid hwt
  clear hwt h hR hmul hrc z0 hn hm hN ha hra hr
  have hw1:IntKind.i64.wrap ((r:Int) * (a:Int)) = (ra:Int):=by rw [hpp];exact IntWalk.i64_in _ (by omega)
  have hw2:IntKind.i64.wrap ((N:Int) + (ra:Int)) = (N:Int) + ra:=IntWalk.i64_in _ (by omega)
  have hw3:IntKind.i64.wrap ((N:Int) + (ra:Int) + (c:Int)) = (N:Int) + ra + c:=IntWalk.i64_in _ (by omega)
  have hi1:(0:Int) ≤ (N:Int) + ra + c:=by omega
  have hi2:(N:Int) + ra + c < m:=by omega
  have hi3:((N:Int) + ra + c).toNat = N + ra + c:=by omega
  have hi4:(k:Int) < n:=by omega
  have hi5:k < n:=by omega
  have hfd:=rrng_lo
  clear hpp
  go_enter Tryz.func186,Tryz.ntmps186
  go_wp2_with fail
  go_region_held3 (fun w' => w'.cell? ⟨w.heap.size,0,none⟩ = some (.slice (some ⟨b,o,none⟩) n cs) ∧ w'.cell? ⟨w.heap.size,1,none⟩ = some (.slice (some ⟨b2,o2,none⟩) m cp) ∧ w'.cell? ⟨b,o + k,none⟩ = some (.int .i64 a) ∧ w'.cell? ⟨b2,o2 + (N + ra + c),none⟩ = some (.int .i64 (nth ps (N + ra + c)))) (simp [go_sem,World.cell?_alloc_past, *])
    ((go_at_call 204;refine (Hwt.out _ ?_).mono ?_;(focus ((focus (repeat' (first | (with_reducible exact Below.refl _ _) | (with_reducible assumption) | (with_reducible refine Below.setCell ?_ ?_ _) | (with_reducible refine Below.alloc ?_ ?_ _) | (with_reducible refine below_drewN ?_ _) | (with_reducible refine Below.drew ?_) | (with_reducible exact Nat.le_refl _) | omega | (simp;done) | (simp;omega))));done));rintro e w1 ⟨rfl,hb1⟩;have hB1:Below w.heap.size w w1:=Below.trans (by (focus (repeat' (first | (with_reducible exact Below.refl _ _) | (with_reducible assumption) | (with_reducible refine Below.setCell ?_ ?_ _) | (with_reducible refine Below.alloc ?_ ?_ _) | (with_reducible refine below_drewN ?_ _) | (with_reducible refine Below.drew ?_) | (with_reducible exact Nat.le_refl _) | omega | (simp;done) | (simp;omega))))) (hb1.mono (by simp));have g0:=cell_below hb1 (cell_of_row _ w.heap.size 0 _ _ _ (heap_alloc_new w (.cells #[.slice (some ⟨b,o,none⟩) n cs,.slice (some ⟨b2,o2,none⟩) m cp,.int .i64 q] 214)));have g1:=cell_below hb1 (cell_of_row _ w.heap.size 1 _ _ _ (heap_alloc_new w (.cells #[.slice (some ⟨b,o,none⟩) n cs,.slice (some ⟨b2,o2,none⟩) m cp,.int .i64 q] 214)));have g2:=(hB1.cell (p:=⟨b,o + k,none⟩) hbl).trans p0;have g3:=(hB1.cell (p:=⟨b2,o2 + (N + ra + c),none⟩) hbl2).trans p2;have HB1:=Lib.hid hB1;clear hb1 hB1))
  go_wp2_with fail
  go_ret
  exact ⟨rfl,HB1.out⟩
set_option maxHeartbeats 400000 in
theorem rbias_any (As Ap:Option Addr) (sz ps:List Int) (cs cp k r:Nat) (q:Int) (w:World) (h:RNet w As Ap sz ps cs) (hk:k + 1 < sz.length) (hr:r < szN sz (k + 1)) :
    Calls Tryz.prog 203 #[.agg #[.slice As sz.length cs,.slice Ap ps.length cp,.int .i64 q],.int .i64 k,.int .i64 r] w fun e w' => e = .returned (.int .i64 (nth ps (midN sz k + r))) ∧ Below w.heap.size w w':=by
  have hR:=h.hg.1
  have hl16:=hR.1.2
  have hin:midN sz k + r < ps.length:=by
    have h1:=midN_eq sz k
    have h2:=cntN_mono sz (show k + 1 ≤ sz.length - 1 by omega)
    have h4:=h.hl
    omega
  have hbi:=fun w' (hb:Below w.heap.size w w') => rbiases_any As sz k cs w' (h.hA.below hb) hR hk h.hc
  have hpl:ps.length ≤ 1048576:=by rw [h.hl];exact h.hg.2
  obtain ⟨b,o,rfl,p0⟩:=h.hA.num (show k < sz.length by omega)
  obtain ⟨b2,o2,rfl,p2⟩:=h.hP.num hin
  obtain ⟨M,hM⟩:∃ M,midN sz k = M:=⟨_,rfl⟩
  obtain ⟨n,hn⟩:∃ n,sz.length = n:=⟨_,rfl⟩
  obtain ⟨m,hm⟩:∃ m,ps.length = m:=⟨_,rfl⟩
  rw [hM] at p2 hin hbi ⊢
  rw [hn] at hbi hk hl16 ⊢
  rw [hm] at hin hpl ⊢
  have hbl2:b2 < w.heap.size:=lt_of_cell p2
  have Hbi:=Lib.hid hbi
  clear hbi h hR hn hm hM hr p0
  have hw2:IntKind.i64.wrap ((M:Int) + (r:Int)) = (M:Int) + r:=IntWalk.i64_in _ (by omega)
  have hi1:(0:Int) ≤ (M:Int) + r:=by omega
  have hi2:(M:Int) + r < m:=by omega
  have hi3:((M:Int) + r).toNat = M + r:=by omega
  have hfd:=rrng_lo
  go_enter Tryz.func203,Tryz.ntmps203
  go_wp2_with fail
  go_region_held3 (fun w' => w'.cell? ⟨w.heap.size,0,none⟩ = some (.slice (some ⟨b,o,none⟩) n cs) ∧ w'.cell? ⟨w.heap.size,1,none⟩ = some (.slice (some ⟨b2,o2,none⟩) m cp) ∧ w'.cell? ⟨b2,o2 + (M + r),none⟩ = some (.int .i64 (nth ps (M + r)))) (simp [go_sem,World.cell?_alloc_past, *])
    ((go_at_call 223;refine (Hbi.out _ ?_).mono ?_;(focus ((focus (repeat' (first | (with_reducible exact Below.refl _ _) | (with_reducible assumption) | (with_reducible refine Below.setCell ?_ ?_ _) | (with_reducible refine Below.alloc ?_ ?_ _) | (with_reducible refine below_drewN ?_ _) | (with_reducible refine Below.drew ?_) | (with_reducible exact Nat.le_refl _) | omega | (simp;done) | (simp;omega))));done));rintro e w1 ⟨rfl,hb1⟩;have hB1:Below w.heap.size w w1:=Below.trans (by (focus (repeat' (first | (with_reducible exact Below.refl _ _) | (with_reducible assumption) | (with_reducible refine Below.setCell ?_ ?_ _) | (with_reducible refine Below.alloc ?_ ?_ _) | (with_reducible refine below_drewN ?_ _) | (with_reducible refine Below.drew ?_) | (with_reducible exact Nat.le_refl _) | omega | (simp;done) | (simp;omega))))) (hb1.mono (by simp));have g0:=cell_below hb1 (cell_of_row _ w.heap.size 0 _ _ _ (heap_alloc_new w (.cells #[.slice (some ⟨b,o,none⟩) n cs,.slice (some ⟨b2,o2,none⟩) m cp,.int .i64 q] 214)));have g1:=cell_below hb1 (cell_of_row _ w.heap.size 1 _ _ _ (heap_alloc_new w (.cells #[.slice (some ⟨b,o,none⟩) n cs,.slice (some ⟨b2,o2,none⟩) m cp,.int .i64 q] 214)));have g3:=(hB1.cell (p:=⟨b2,o2 + (M + r),none⟩) hbl2).trans p2;have HB1:=Lib.hid hB1;clear hb1 hB1))
  go_wp2_with fail
  go_ret
  exact ⟨rfl,HB1.out⟩
def sumN (sz ps:List Int) (q:Int) (k r:Nat) (v:List Int):Nat → Int
  | 0 => nth ps (midN sz k + r)
  | c + 1 => wrap64 (sumN sz ps q k r v c + mulQ (nth ps (cntN sz k + r * szN sz k + c)) (nth v c) q)
set_option maxHeartbeats 1000000 in
theorem rsum_any (As Ap:Option Addr) (sz ps:List Int) (cs cp k r:Nat) (q:Int) (V:Option Addr) (v:List Int) (cv:Nat) (w:World) (h:RNet w As Ap sz ps cs) (hk:k + 1 < sz.length) (hr:r < szN sz (k + 1)) (hV:Rd w V (nums .i64 v)) (hv:v.length = szN sz k) (wv:W64 v) :
    Calls Tryz.prog 184 #[.agg #[.slice As sz.length cs,.slice Ap ps.length cp,.int .i64 q],.int .i64 k,.int .i64 r,.slice V v.length cv] w fun e w' => e = .returned (.int .i64 (sumN sz ps q k r v v.length)) ∧ Below w.heap.size w w':=by
  have hbi:=fun w' (hb:Below w.heap.size w w') => rbias_any As Ap sz ps cs cp k r q w' (h.below hb) hk hr
  have hwe:=fun c (hc:c < szN sz k) w' (hb:Below w.heap.size w w') => rweight_any As Ap sz ps cs cp k r c q w' (h.below hb) hk hr hc
  have hvb:v.length ≤ 1048576:=by rw [hv];exact (h.hg.1.at (k:=k) (by omega)).2.1
  obtain ⟨n,hn⟩:∃ n,sz.length = n:=⟨_,rfl⟩
  obtain ⟨m,hm⟩:∃ m,ps.length = m:=⟨_,rfl⟩
  obtain ⟨x,hx⟩:∃ x,v.length = x:=⟨_,rfl⟩
  rw [hn,hm] at hbi hwe ⊢
  rw [hx] at hvb ⊢
  have Hbi:=Lib.hid hbi;have Hwe:=Lib.hid hwe;have HV:=Lib.hid hV;have Hv:=Lib.hid hv;have Hx:=Lib.hid hx;have WV:=Lib.hid wv;have WP:=Lib.hid h.wp
  clear hbi hwe hV hv hx wv h hn hm hr hk
  go_enter Tryz.func184,Tryz.ntmps184
  go_wp2_with fail
  refine (Hbi.out _ ?_).mono ?_
  · (focus (repeat' (first | (with_reducible exact Below.refl _ _) | (with_reducible assumption) | (with_reducible refine Below.setCell ?_ ?_ _) | (with_reducible refine Below.alloc ?_ ?_ _) | (with_reducible refine below_drewN ?_ _) | (with_reducible refine Below.drew ?_) | (with_reducible exact Nat.le_refl _) | omega | (simp;done) | (simp;omega))))
  rintro e w1 ⟨rfl,hb1⟩
  have hbx:=(hb1.block w.heap.size (by simp)).trans (heap_alloc_new w (.cells #[.slice As n cs,.slice Ap m cp,.int .i64 q] 214))
  have hB1:Below w.heap.size w w1:=((Below.refl _ w).alloc (Nat.le_refl _) _).trans (hb1.mono (by simp))
  have Hbx:=Lib.hid hbx;have HB1:=Lib.hid hB1;clear hb1 hbx hB1
  go_wp2_with fail
  go_loopw [9,10] (fun s i wr => ∃ c:Nat,c ≤ x ∧ i = .int .i64 c ∧ s = .int .i64 (sumN sz ps q k r v c) ∧ wr.heap[w.heap.size]? = some (.cells #[.slice As n cs,.slice Ap m cp,.int .i64 q] 214 (0,0)) ∧ Below w.heap.size w wr) (fun _ i _ => x - (intOf i).toNat)
  case atStart => exact ⟨0,Nat.zero_le _,rfl,rfl,Hbx.out,HB1.out⟩
  case round =>
    obtain ⟨c,hc,rfl,rfl,hbx,hW⟩:=hrel
    by_cases hlt:c < x
    · obtain ⟨bv,ov,rfl,pv⟩:=HV.out.num (show c < v.length by rw [Hx.out];exact hlt)
      have hbv:bv < w.heap.size:=lt_of_cell pv
      have pvr:=(hW.cell (p:=⟨bv,ov + c,none⟩) hbv).trans pv
      obtain ⟨⟨x0,x1,x2⟩,xf⟩:=bx3 hbx
      have hbxl:=lt_of_block hbx
      have hbvr:bv < wr.heap.size:=by have:=hW.size;omega
      have hwe:=Hwe.out c (by have:=Hv.out;have:=Hx.out;omega)
      have hmu:=fun w' => refMul (nth ps (cntN sz k + r * szN sz k + c)) (nth v c) q w' (WP.out.nth _) (WV.out.nth _)
      have Hwk:=Lib.hid hwe;have Hmu:=Lib.hid hmu;have HW:=Lib.hid hW;have Hbx:=Lib.hid hbx
      clear hwe hmu hW hbx pv
      have hci:(c:Int) < x:=by omega
      go_wp2_with fail
      go_region_held3 (fun w' => w'.cell? ⟨w.heap.size,0,none⟩ = some (.slice As n cs) ∧ w'.cell? ⟨w.heap.size,1,none⟩ = some (.slice Ap m cp) ∧ w'.cell? ⟨w.heap.size,2,none⟩ = some (.int .i64 q) ∧ w'.cell? ⟨bv,ov + c,none⟩ = some (.int .i64 (nth v c))) (simp [go_sem, *])
        ((first | (go_at_call 186;refine (Hwk.out wr.drew HW.out.drew).mono ?_;rintro e w3 ⟨rfl,hb3⟩;have g0:=cell_below hb3 x0;have g1:=cell_below hb3 x1;have g2:=cell_below hb3 x2;have g3:=cell_below hb3 pvr;have hb30:=(hb3.block w.heap.size hbxl).trans Hbx.out;have hB3:=HW.out.trans (((Below.refl wr.heap.size wr).drew.trans hb3).mono HW.out.size);have Hb30:=Lib.hid hb30;have HB3:=Lib.hid hB3;clear hb3 hb30 hB3) | (go_at_call 128;refine (Hmu.out _).mono ?_;rintro e w4 ⟨rfl,rfl⟩)))
      go_wp2_with fail
      go_roundw
      case rel => exact ⟨c + 1,by omega,by go_num,by rw [IntKind.wrap_i64,sumN,wrap64],Hb30.out,HB3.out⟩
      case measure => simp [intOf];omega
    · obtain rfl:c = x:=by omega
      have HW:=Lib.hid hW;clear hW hbx
      go_wp2_with fail
      go_ret
      exact ⟨rfl,HW.out⟩
end Go.Proofs.YtaccfnffmbndhaaGreat
namespace Go.Proofs.YtaccfnffmbndhaaGreat
open Go.RowKit
theorem et_vecs:ElemT Tryz.prog 289 64 (.slice none 0 0) 1 24:=⟨Tryz.underlying289,info_parts (by kernel_rfl),rfl,by decide⟩
theorem trace1_any (P base:Nat) (A B:Option Addr) (n c m d:Nat) (xs:List Value) (w:World) (hP:w.heap[P]? = some (.cells #[.slice A n c] 289 (0,0))) (ho:w.ownsRow base 64 1 (.slice A n c) n xs) (hn:n ≤ 1000000) (hbase:base ≤ w.heap.size) (hPb:base ≤ P) :
    Calls Tryz.prog 214 #[.slice B m d,.pointer (some ⟨P,0,none⟩)] w fun e w' => (∃ v,e = .returned v) ∧ ∃ A' c',w'.heap[P]? = some (.cells #[.slice A' (n + 1) c'] 289 (0,0)) ∧ w'.ownsRow base 64 1 (.slice A' (n + 1) c') (n + 1) (xs ++ [.slice B m d]) ∧
      Keep (fun i => i = P ∨ (Value.slice A n c).ownBlock = some i) w w':=by
  obtain ⟨p0,pf⟩:=bx1 hP
  have hPl:=lt_of_block hP
  have HP:=Lib.hid hP;have HO:=Lib.hid ho;clear hP ho
  go_enter Tryz.func214,Tryz.ntmps214
  go_wp2_with (at_builtin;refine wpList_push et_vecs w rfl (.tmp 3) (.tmp 5) rfl base (.slice A n c) n xs rfl HO.out [.slice B m d] rfl rfl (by simp [Value.oneCell']) (by omega) (by unfold maxLen;omega) hbase ?_)
  intro g c' w1 ho1 hb1 hg1
  have hP1:=(hg1.block P hPl (block_notrow HP.out (by decide) HO.out)).trans HP.out
  have hg1:Keep (fun i => i = P ∨ (Value.slice A n c).ownBlock = some i) w w1:=(Keep.refl _ w).grown hg1 (fun k hk => .inr (.inr hk))
  obtain ⟨q0,qf⟩:=bx1 hP1
  have HP1:=Lib.hid hP1;have HO1:=Lib.hid ho1;have HG:=Lib.hid hg1;clear hP1 ho1 hb1 hg1
  go_wp2_with fail
  have h9:=heap_setCell_same w1 P 0 _ _ (.slice (some ⟨g,0,none⟩) (n + 1) c') HP1.out
  have k9:Keep (fun i => i = P) w1 (w1.setCell ⟨P,0,none⟩ (.slice (some ⟨g,0,none⟩) (n + 1) c')):=Keep.setCell (S:=fun i => i = P) (Keep.refl _ _) ⟨P,0,none⟩ (.inr rfl) _
  have o9:=k9.own HO1.out (fun i hi e => block_notrow HP1.out (by decide) HO1.out (by rw [hi,e]))
  have g9:=HG.out.setCell ⟨P,0,none⟩ (.inr (.inl rfl)) (.slice (some ⟨g,0,none⟩) (n + 1) c')
  go_end0
  exact ⟨⟨_,rfl⟩,_,_,h9,o9,g9⟩
end Go.Proofs.YtaccfnffmbndhaaGreat
namespace Go.Proofs.YtaccfnffmbndhaaGreat
open Go.RowKit
theorem trace_no (b:Nat) (sz ps:List Int) (q:Int) (A:Option Addr) (m c:Nat) (w:World) (h:NetAt 186 280 w b sz ps q) (hg:GoodSz sz) (hm:m ≠ szN sz 0) :
    Calls Tryz.prog 196 #[.pointer (some ⟨b,0,none⟩),.slice A m c] w fun e w' => e = .returned (.tuple #[.slice none 0 0,.bool false]) ∧ Below w.heap.size w w':=by
  obtain ⟨S,Ap,cp,Al,cl,rows,h0,h1,h2,h3,h4,h5,h6⟩:=h
  obtain ⟨⟨r0,r1,r2,r3⟩,rf⟩:=bx4 h0
  have hs:=shape_sizes S sz w h1 (by have:=hg.1.1.2;omega)
  have z0:=hg.1.at (k:=0) (by have:=hg.1.1.1;omega)
  have hlen:0 < sz.length:=by have:=hg.1.1.1;omega
  have hne:((m:Int) != (szN sz 0:Int)) = true:=by simp;omega
  have Hs:=Lib.hid hs;have Z0:=Lib.hid z0.2.2;clear hs h0 h1 h2 h3 h4 h5 h6 hg z0 hm
  go_enter Tryz.func196,Tryz.ntmps196
  go_wp2_with fail
  refine Hs.out.mono ?_
  rintro e w1 ⟨A1,c1,rfl,ho,hb⟩
  obtain ⟨g,c',hv,_,_⟩:=ho.form hlen
  simp only [Value.slice.injEq] at hv
  obtain ⟨rfl,_,rfl⟩:=hv
  have p0:=own_num ho hlen
  rw [Z0.out] at p0
  have Hb:=Lib.hid hb;clear hb ho r0 r1 r2 r3 rf
  go_wp2
  go_ret2
  exact ⟨rfl,Hb.out⟩
theorem own_made1 (w:World) (e:TypeId) (v:Value) (base:Nat) (hb:base ≤ w.heap.size):(w.alloc (.cells #[v] e)).ownsRow base e 1 (.slice (some ⟨w.heap.size,0,none⟩) 1 1) 1 [v]:=
  ⟨by simp,.inr ⟨w.heap.size,1,#[v],rfl,hb,heap_alloc_new w _,Nat.le_refl _,by unfold maxLen;omega,by simp,by simp⟩⟩
def TraceI (sz ps:List Int) (q:Int) (x:List Int) (P n₀:Nat) (k:Nat) (w0 w:World):Prop:=
  ∃ A c vals,w.heap[P]? = some (.cells #[.slice A (k + 1) c] 289 (0,0)) ∧ w.ownsRow n₀ 64 1 (.slice A (k + 1) c) (k + 1) vals ∧
    (∀ j,j ≤ k → ∃ Aj cj,vals[j]? = some (.slice Aj (szN sz j) cj) ∧ w.ownsRow n₀ 2 1 (.slice Aj (szN sz j) cj) (szN sz j) (nums .i64 (valL sz ps q x j))) ∧ Below n₀ w0 w
set_option maxRecDepth 100000 in
set_option maxHeartbeats 2000000 in
theorem trace_ok (b:Nat) (sz ps:List Int) (q:Int) (A:Option Addr) (x:List Int) (c:Nat) (w:World) (h:NetAt 186 280 w b sz ps q) (hg:GoodSz sz) (wp:W64 ps) (hA:Rd w A (nums .i64 x)) (hx:x.length = szN sz 0) (wx:W64 x) :
    Calls Tryz.prog 196 #[.pointer (some ⟨b,0,none⟩),.slice A x.length c] w fun e w' => ∃ A' c' vals,e = .returned (.tuple #[.slice A' sz.length c',.bool true]) ∧ Rd w' A' vals ∧ VecsAt w' vals sz.length (valL sz ps q x) ∧ sz.length ≤ c' ∧ Below w.heap.size w w':=by
  have hbl:=h.lt
  obtain ⟨S,Ap,cp,Al,cl,rows,h0,h1,h2,h3,h4,h5,h6⟩:=h
  obtain ⟨⟨r0,r1,r2,r3⟩,rf⟩:=bx4 h0
  have z0:=hg.1.at (k:=0) (by have:=hg.1.1.1;omega)
  have hs:=shape_sizes S sz w h1 (by have:=hg.1.1.2;omega)
  have hcl:=fun w' (k:Below w.heap.size w w') => vclone_any A x c w' (hA.below k) (by omega)
  obtain ⟨n,hn⟩:∃ n,sz.length - 1 = n:=⟨_,rfl⟩
  have hnl:sz.length = n + 1:=by have:=hg.1.1.1;omega
  have hnb:1 ≤ n ∧ n ≤ 15:=by have:=hg.1.1;omega
  obtain ⟨m,hm⟩:∃ m,szN sz 0 = m:=⟨_,rfl⟩
  rw [hn] at r3 h4 h6
  rw [hx,hm] at hcl ⊢
  have hlen:0 < sz.length:=by omega
  have hne:((m:Int) != (m:Int)) = false:=by simp
  have hmb:m ≤ 1048576:=by rw [← hm];exact z0.2.1
  rw [hm] at z0
  have Hs:=Lib.hid hs;have Z0:=Lib.hid z0.2.2;have Hcl:=Lib.hid hcl;have HG:=Lib.hid hg;have Hn:=Lib.hid hn;have Hnl:=Lib.hid hnl;have Hm:=Lib.hid hm;have H0:=Lib.hid h0;have H3:=Lib.hid h3;have H4:=Lib.hid h4;have H5:=Lib.hid h5;have H6:=Lib.hid h6;have WP:=Lib.hid wp;have WX:=Lib.hid wx;have Hx:=Lib.hid hx;have HA:=Lib.hid hA
  clear hs hcl h0 h1 h2 h3 h4 h5 h6 hg z0 hm hn hnl wp wx hx hA
  go_enter Tryz.func196,Tryz.ntmps196
  go_wp2_with fail
  refine Hs.out.mono ?_
  rintro e w1 ⟨A1,c1,rfl,ho,hb⟩
  obtain ⟨g,c',hv,_,_⟩:=ho.form hlen
  simp only [Value.slice.injEq] at hv
  obtain ⟨rfl,_,rfl⟩:=hv
  have p0:=own_num ho hlen
  rw [Z0.out] at p0
  have Hb:=Lib.hid hb;clear hb ho r0 r1 r2 r3 rf
  go_wp2_with fail
  refine (Hcl.out _ Hb.out).mono ?_
  rintro e w2 ⟨A2,c2,rfl,hc2,ho2,hb2⟩
  have hW2:=Hb.out.trans (hb2.mono Hb.out.size)
  have hN2:=(hW2.block b hbl).trans H0.out
  obtain ⟨⟨r0,r1,r2,r3⟩,rf⟩:=bx4 hN2
  have hbl2:=lt_of_block hN2
  have hx2:=Hx.out
  rw [Hm.out] at hx2
  have hw1s:=Hb.out.size
  have Ho2:=Lib.hid (own_base ho2 hw1s);have HW2:=Lib.hid hW2;have HN2:=Lib.hid hN2;clear ho2 hb2 hW2 hN2 hw1s
  rw [Hn.out] at r3
  go_wp2_with fail
  go_loopw [37] (fun i wr => ∃ k:Nat,k ≤ n ∧ i = .int .i64 k ∧ TraceI sz ps q x (w2.heap.size + 1) w.heap.size k w wr) (fun i _ => n - (intOf i).toNat)
  case atStart =>
    refine ⟨0,Nat.zero_le _,rfl,some ⟨w2.heap.size,0,none⟩,1,[.slice A2 m c2],?_,?_,?_,?_⟩
    · have:=heap_alloc_new (w2.alloc (.cells #[.slice A2 m c2] 64)) (.cells #[.slice (some ⟨w2.heap.size,0,none⟩) 1 1] 289)
      simpa using this
    · exact (own_made1 w2 64 (.slice A2 m c2) w.heap.size HW2.out.size).alloc _
    · intro j hj
      obtain rfl:j = 0:=by omega
      refine ⟨A2,c2,by rw [Hm.out];rfl,?_⟩
      rw [Hm.out]
      exact (Ho2.out.alloc _).alloc _
    · have hW2:=HW2.out
      have hz2:=HW2.out.size
      (focus (repeat' (first | (with_reducible exact Below.refl _ _) | (with_reducible assumption) | (with_reducible refine Below.setCell ?_ ?_ _) | (with_reducible refine Below.alloc ?_ ?_ _) | (with_reducible refine below_drewN ?_ _) | (with_reducible refine Below.drew ?_) | (with_reducible exact Nat.le_refl _) | omega | (simp;done) | (simp;omega))))
  case round =>
    obtain ⟨k,hk,rfl,Ao,co,vals,hP,ho,hv,hW⟩:=hrel
    have hkn:k < sz.length:=by have:=Hnl.out;omega
    have hNr:=(hW.block b hbl).trans H0.out
    obtain ⟨⟨r0,r1,r2,r3⟩,rf⟩:=bx4 hNr
    obtain ⟨p0,pf⟩:=bx1 hP
    obtain ⟨go,co',hvo,hgo,_⟩:=ho.form (by omega)
    simp only [Value.slice.injEq] at hvo
    obtain ⟨rfl,hvx,rfl⟩:=hvo
    clear hvx
    have hPl:=lt_of_block hP
    have hbr:b < wr.heap.size:=lt_of_block hNr
    have hz:=hW.size
    have HP:=Lib.hid hP;have Ho:=Lib.hid ho;have Hv:=Lib.hid hv;have HW:=Lib.hid hW;have HNr:=Lib.hid hNr
    clear hP ho hv hW hNr
    rw [Hn.out] at r3
    by_cases hlt:k < n
    · have hR:=HG.out.1
      have hk1:k + 1 < sz.length:=by have:=Hnl.out;omega
      have z0:=hR.at hkn
      have z1:=hR.at hk1
      have hmul:=HG.out.mul hk1
      obtain ⟨gl,ol,dl,Bl,el,hcs,hd,hrw,hrb⟩:=H6.out k hlt
      have hrl:(rowOf rows k).length = 4:=H5.out _ (by rw [rowOf_get (by rw [H4.out];exact hlt)];exact List.getElem_mem _)
      have hcl:∀ t,t < 4 → (List.flatten rows)[k * 4 + t]? = (rowOf rows k)[t]?:=fun t ht => flat_get H5.out k t (by rw [H4.out];exact hlt) ht
      have e0:=hcl 0 (by omega);have e1:=hcl 1 (by omega);have e2:=hcl 2 (by omega);have e3:=hcl 3 (by omega)
      rw [hcs] at e0 e1 e2 e3
      simp only [Nat.add_zero,List.getElem?_cons_zero,List.getElem?_cons_succ] at e0 e1 e2 e3
      obtain ⟨bl,oo,hAl,q0⟩:=H3.out _ _ e0
      obtain ⟨_,_,hAl1,q1⟩:=H3.out _ _ e1
      obtain ⟨_,_,hAl2,q2⟩:=H3.out _ _ e2
      obtain ⟨_,_,hAl3,q3⟩:=H3.out _ _ e3
      subst hAl
      injection hAl1 with hAl1;injection hAl1 with i1 i2 _;subst i1;subst i2
      injection hAl2 with hAl2;injection hAl2 with i1 i2 _;subst i1;subst i2
      injection hAl3 with hAl3;injection hAl3 with i1 i2 _;subst i1;subst i2
      have hbb:bl < w.heap.size:=lt_of_cell q0
      have q0r:=(HW.out.cell (p:=⟨bl,oo + k * 4,none⟩) hbb).trans q0
      have q1r:=(HW.out.cell (p:=⟨bl,oo + (k * 4 + 1),none⟩) hbb).trans q1
      have q2r:=(HW.out.cell (p:=⟨bl,oo + (k * 4 + 2),none⟩) hbb).trans q2
      have q3r:=(HW.out.cell (p:=⟨bl,oo + (k * 4 + 3),none⟩) hbb).trans q3
      rw [← Nat.add_assoc] at q1r q2r q3r
      obtain ⟨Aj,cj,hvj,hoj⟩:=Hv.out k (Nat.le_refl _)
      have pj:=(Rd.own Ho.out) k _ hvj
      obtain ⟨_,_,ej,pj⟩:=pj
      injection ej with ej;injection ej with i1 i2 _;subst i1;subst i2
      rw [Nat.zero_add] at pj
      have wv:=valL_W64 (sz:=sz) (ps:=ps) (q:=q) WX.out k
      have hvl:=valL_len (sz:=sz) (ps:=ps) (q:=q) Hx.out k
      have hml:=fun W (h:Below wr.heap.size wr W) => mmul_any (szN sz (k + 1)) (szN sz k) gl ol (szN sz (k + 1) * szN sz k) dl (wL sz ps k) Aj (valL sz ps q x k) cj q W ⟨z1.1,z1.2.1⟩ ⟨z0.1,z0.2.1⟩ rfl hd (by omega) (wL_len _ _ _) ((hrw.below HW.out).below h) (wL_W64 WP.out sz k) ((Rd.own hoj).below h) hvl wv
      obtain ⟨r,hr⟩:∃ r,szN sz (k + 1) = r:=⟨_,rfl⟩
      obtain ⟨c0,hc0⟩:∃ c0,szN sz k = c0:=⟨_,rfl⟩
      obtain ⟨nn,hnn⟩:∃ nn,szN sz (k + 1) * szN sz k = nn:=⟨_,rfl⟩
      rw [hnn] at hml q2r hmul hd
      rw [hr] at hml q0r q3r z1
      rw [hc0] at hml q1r z0
      have pjl:=pj
      rw [hc0] at pjl
      have hrbr:=hrb.below HW.out
      have Hml:=Lib.hid hml;have Hr:=Lib.hid hr;have Hc0:=Lib.hid hc0;have Hnn:=Lib.hid hnn;have Hrb:=Lib.hid hrbr;have Hvl:=Lib.hid hvl
      clear hml hr hc0 hnn hrb hrbr hrw hd q0 q1 q2 q3 e0 e1 e2 e3 hcl hrl hcs pj hvl hvj hoj
      go_wp2_with fail
      obtain ⟨V,hV⟩:∃ V,V = wr.alloc (.cells #[.int .i64 r,.int .i64 c0,.slice (some ⟨gl,ol,none⟩) nn dl,.slice Bl r el] 286):=⟨_,rfl⟩
      have hV9:V.heap[wr.heap.size]? = some (.cells #[.int .i64 r,.int .i64 c0,.slice (some ⟨gl,ol,none⟩) nn dl,.slice Bl r el] 286 (0,0)):=by rw [hV];exact heap_alloc_new wr _
      have hVb:Below wr.heap.size wr V:=by rw [hV];exact (Below.refl _ _).alloc (Nat.le_refl _) _
      rw [← hV]
      clear hV
      have v2:=cell_below hVb r2
      have v3:=cell_below hVb r3
      have vp:=cell_below hVb p0
      have vj:=cell_below hVb pjl
      obtain ⟨⟨y0,y1,y2,y3⟩,yf⟩:=bx4 hV9
      have hbV:b < V.heap.size:=lt_of_cell v2
      have hPV:w2.heap.size + 1 < V.heap.size:=lt_of_cell vp
      have h9V:wr.heap.size < V.heap.size:=lt_of_cell y0
      have hgV:go < V.heap.size:=lt_of_cell vj
      obtain ⟨k1,hk1e⟩:∃ k1,k + 1 = k1:=⟨_,rfl⟩
      have hkk:k < k1:=by omega
      rw [hk1e] at vp
      have Hk1:=Lib.hid hk1e;clear hk1e
      have HVb:=Lib.hid hVb;have HV9:=Lib.hid hV9;clear hVb hV9 r0 r1 r2 r3 rf p0 pf pjl q0r q1r q2r q3r
      go_region_held3 (fun w' => w'.cell? ⟨wr.heap.size,0,none⟩ = some (.int .i64 r) ∧ w'.cell? ⟨wr.heap.size,1,none⟩ = some (.int .i64 c0) ∧ w'.cell? ⟨wr.heap.size,2,none⟩ = some (.slice (some ⟨gl,ol,none⟩) nn dl) ∧ w'.cell? ⟨w2.heap.size + 1,0,none⟩ = some (.slice (some ⟨go,0,none⟩) k1 co) ∧ w'.cell? ⟨go,k,none⟩ = some (.slice Aj c0 cj) ∧ w'.cell? ⟨b,2,none⟩ = some (.int .i64 q)) (simp [go_sem, *])
        ((go_at_call 215;refine (Hml.out V.drew HVb.out.drew).mono ?_;rintro e w5 ⟨A5,c5,rfl,ho5,hb5⟩;have g0:=cell_below hb5 y0;have g1:=cell_below hb5 y1;have g2:=cell_below hb5 y2;have g3:=cell_below hb5 y3;have g4:=cell_below hb5 vp;have g5:=cell_below hb5 vj;have g6:=cell_below hb5 v2;have g7:=cell_below hb5 v3;have Ho5:=Lib.hid ho5;have Hb5:=Lib.hid hb5;clear ho5 hb5))
      go_wp2_with fail
      have hb05:Below wr.heap.size wr w5:=(HVb.out.drew).trans (Hb5.out.mono (by have:=HVb.out.size;simp;omega))
      have hne:∀ a b',A5 = some a → Bl = some b' → a.block ≠ b'.block:=fun a b' ha hb' => by
        obtain ⟨b1,o1,e1,hc1⟩:=Hrb.out.num (k:=0) (by rw [bL_len,Hr.out];omega)
        rw [hb'] at e1
        injection e1 with e1
        subst e1
        have l1:b1 < wr.heap.size:=lt_of_cell hc1
        have l2:=(Ho5.out.lt a.block (by rw [ha];rfl)).1
        have l3:=HVb.out.size
        simp at l2 ⊢
        omega
      refine (add_any _ A5 Bl _ (bL sz ps k) r c5 el w5 Ho5.out (Hrb.out.below hb05) (by rw [bL_len,Hr.out]) (by omega) hne).mono ?_
      rintro e w6 ⟨rfl,ho6,hk6⟩
      have hz6:addL (mulL (wL sz ps k) r c0 (valL sz ps q x k) q) (bL sz ps k) = zL sz ps q k (valL sz ps q x k):=by unfold zL;rw [Hr.out,Hc0.out]
      rw [hz6] at ho6
      have ho6:=own_base (base':=V.heap.size) ho6 (by simp)
      have hlo5:∀ i,(Value.slice A5 r c5).ownBlock = some i → V.heap.size ≤ i:=fun i hi => by have:=(Ho5.out.lt i hi).1;simpa using this
      have hb6:Below V.heap.size V w6:=((Below.refl _ V).drew.trans (Hb5.out.mono (by simp))).trans (hk6.toBelow (by have:=Hb5.out.size;simpa using this) hlo5)
      have u2:=(hb6.cell (p:=⟨b,2,none⟩) hbV).trans v2
      have u3:=(hb6.cell (p:=⟨b,3,none⟩) hbV).trans v3
      have up:=(hb6.cell (p:=⟨w2.heap.size + 1,0,none⟩) hPV).trans vp
      have Ho6:=Lib.hid ho6;have Hb6:=Lib.hid hb6;have Hlo5:=Lib.hid hlo5
      have hkw:IntKind.i64.wrap ((k:Int) + 1) = (k:Int) + 1:=IntWalk.i64_in _ (by omega)
      have Hkw:=Lib.hid hkw
      clear hkw ho6 hb6 hk6 hz6 hlo5 hne Ho5 Hb5 hb05 g0 g1 g2 g3 g4 g5 g6 g7 v2 v3 vp vj y0 y1 y2 y3 yf
      go_upto_if 67 with (fail)
      go_cut [] (fun wx => Below V.heap.size V wx ∧ wx.ownsRow V.heap.size 2 1 (.slice A5 r c5) r (nums .i64 (valL sz ps q x (k + 1))))
      case first =>
        by_cases hlast:k + 1 < n
        · have hvv:valL sz ps q x (k + 1) = reluL (zL sz ps q k (valL sz ps q x k)):=by
            have:=Hn.out
            show (if k + 1 < sz.length - 1 then _ else _) = _
            rw [if_pos (by omega)]
          have hzl:=zL_len sz ps q k (valL sz ps q x k)
          rw [Hr.out] at hzl
          obtain ⟨z,hz⟩:∃ z,zL sz ps q k (valL sz ps q x k) = z:=⟨_,rfl⟩
          rw [hz] at hzl hvv
          have ho7:=Ho6.out
          rw [hz] at ho7
          have hall:=mixed_all z (fun i => max (nth z i) 0)
          unfold reluL at hvv
          rw [← hall,hzl] at hvv
          have Hzl:=Lib.hid hzl;have Ho7:=Lib.hid ho7;have Hvv:=Lib.hid hvv;clear hall hzl hz hvv ho7 u2 u3 up
          go_wp2_with fail
          have hdec:decide ((k:Int) + 1 < n) = true:=decide_eq_true (by omega)
          rw [hdec]
          clear hlast hdec
          go_loopw [70] (fun i wx => ∃ j:Nat,j ≤ r ∧ i = .int .i64 j ∧ wx.ownsRow V.heap.size 2 1 (.slice A5 r c5) r (nums .i64 (mixed z j (fun i => max (nth z i) 0))) ∧ Below V.heap.size V wx) (fun i _ => r - (intOf i).toNat)
          case atStart => exact ⟨0,Nat.zero_le _,rfl,by rw [mixed_zero];exact Ho7.out,Hb6.out⟩
          case round =>
            obtain ⟨j,hj,rfl,hown,hb7⟩:=hrel
            by_cases hlt:j < r
            · obtain ⟨g7,d7,hv7,hg7,_⟩:=hown.form (by omega)
              simp only [Value.slice.injEq] at hv7
              obtain ⟨rfl,hx7,rfl⟩:=hv7
              clear hx7
              have hjz:j < z.length:=by rw [Hzl.out];exact hlt
              have p1:=own_num hown hlt
              rw [mixed_nth _ hjz,if_neg (by omega)] at p1
              have f1:=hown.frozenAt j
              have hst:=mixed_set (l:=z) (k:=j) (fun i => max (nth z i) 0) hjz
              have HO:=Lib.hid hown;have HB:=Lib.hid hb7;have Hst:=Lib.hid hst;clear hown hb7 hst hjz
              go_wp2_with fail
              refine (relu_any _ _).mono ?_
              rintro e w9 ⟨rfl,rfl⟩
              go_wp2_with fail
              go_roundw
              case rel => exact ⟨j + 1,by omega,by go_num,by rw [← Hst.out];exact own_put HO.out j _,HB.out.setCell (p:=⟨g7,j,none⟩) hg7 _⟩
              case measure => simp [intOf];omega
            · obtain rfl:j = r:=by omega
              have HO:=Lib.hid hown;have HB:=Lib.hid hb7;clear hown hb7
              go_wp2_with fail
              go_meet
              exact ⟨HB.out,by rw [Hvv.out];exact HO.out⟩
        · have hvv:valL sz ps q x (k + 1) = zL sz ps q k (valL sz ps q x k):=by
            have:=Hn.out
            show (if k + 1 < sz.length - 1 then _ else _) = _
            rw [if_neg (by omega)]
          have Hvv:=Lib.hid hvv;clear hvv
          go_wp2_with fail
          go_meet
          exact ⟨Hb6.out,by rw [Hvv.out];exact Ho6.out⟩
      case rest =>
        obtain ⟨hb7,ho7⟩:=hcut
        have hbr7:Below wr.heap.size wr wc:=HVb.out.trans (hb7.mono HVb.out.size)
        have hP7:=(hbr7.block _ hPl).trans HP.out
        have ho17:=own_below Ho.out hbr7
        have Hb7:=Lib.hid hb7;have Ho7:=Lib.hid ho7;have HP7:=Lib.hid hP7;have Ho17:=Lib.hid ho17;have Hbr7:=Lib.hid hbr7;clear hb7 ho7 hP7 ho17 hbr7 u2 u3 up
        have hwz:w.heap.size ≤ wc.heap.size:=by have:=Hbr7.out.size;omega
        have hwP:w.heap.size ≤ w2.heap.size + 1:=by have:=HW2.out.size;omega
        have htr:=trace1_any (w2.heap.size + 1) w.heap.size (some ⟨go,0,none⟩) A5 (k + 1) co r c5 vals wc HP7.out Ho17.out (by omega) hwz hwP
        have Htr:=Lib.hid htr;clear htr
        go_wp2_with fail
        refine Htr.out.mono ?_
        rintro e w8 ⟨⟨v8,rfl⟩,A8,c8,hP8,ho8,hk8⟩
        have hbw8:Below w.heap.size w w8:=(HW.out.trans (Hbr7.out.mono HW.out.size)).trans (hk8.toBelow hwz (fun i hi => by
          rcases hi with rfl | hi
          · exact hwP
          · exact (Ho17.out.lt i hi).1))
        have hkeep:∀ {m:Nat} {u:Value} {ys:List Value},wc.ownsRow w.heap.size 2 1 u m ys → w8.ownsRow w.heap.size 2 1 u m ys:=fun h => hk8.own h (fun i hi e => by
          rcases e with rfl | e
          · exact block_notrow HP7.out (by decide) h hi.symm
          · exact own_types Ho17.out h (by decide) i e hi)
        have hvl0:=Ho17.out.1
        go_wp2_with fail
        go_roundw
        case rel =>
          refine ⟨k + 1,by omega,by go_num,A8,c8,vals ++ [.slice A5 r c5],hP8,ho8,fun j hj => ?_,hbw8⟩
          rcases Nat.lt_or_ge j (k + 1) with hjk | hjk
          · obtain ⟨Aj,cj,h1,h2⟩:=Hv.out j (by omega)
            exact ⟨Aj,cj,by rw [List.getElem?_append_left (by omega)];exact h1,hkeep (own_below h2 Hbr7.out)⟩
          · obtain rfl:j = k + 1:=by omega
            refine ⟨A5,c5,?_,?_⟩
            · rw [List.getElem?_append_right (by omega),Hr.out]
              simp [show vals.length = k + 1 by omega]
            · rw [Hr.out]
              exact hkeep (own_base Ho7.out (by have:=HVb.out.size;omega))
        case measure => simp [intOf];omega
    · obtain rfl:k = n:=by omega
      have hnl:=Hnl.out
      have hva:VecsAt wr vals sz.length (valL sz ps q x):=by
        refine ⟨?_,fun j hj => ?_⟩
        · have:=Ho.out.1;omega
        · obtain ⟨Aj,cj,h1,h2⟩:=Hv.out j (by omega)
          have hvl:=valL_len (sz:=sz) (ps:=ps) (q:=q) Hx.out j
          obtain ⟨A',c',e,hc⟩:=own_form h2
          injection e with e1 e2 e3
          subst e1;subst e3
          rw [hvl]
          exact ⟨_,_,h1,hc,Rd.own h2⟩
      have hcc:sz.length ≤ co:=by
        obtain ⟨A',c',e,hc⟩:=own_form Ho.out
        injection e with e1 e2 e3
        omega
      have hro:=Rd.own Ho.out
      have Hro:=Lib.hid hro;have Hva:=Lib.hid hva;have Hcc:=Lib.hid hcc;clear hro hva hcc
      clear hnl
      go_wp2_with fail
      go_ret2
      exact ⟨some ⟨go,0,none⟩,co,vals,(by rw [Hnl.out];rfl),Hro.out,Hva.out,Hcc.out,HW.out⟩
end Go.Proofs.YtaccfnffmbndhaaGreat
