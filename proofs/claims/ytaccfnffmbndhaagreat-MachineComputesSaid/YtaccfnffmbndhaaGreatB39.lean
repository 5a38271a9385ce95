/- The walk of net.New. No condition. -/
import Derived.Test.YtaccfnffmbndhaaGreatB04
import Derived.Test.YtaccfnffmbndhaaGreatB05
import Derived.Test.YtaccfnffmbndhaaGreatB13
import Derived.Test.YtaccfnffmbndhaaGreatB36
import Derived.Test.YtaccfnffmbndhaaGreatB14
import Derived.Deep.DeepCutAuto
set_option linter.unusedSimpArgs false
set_option linter.unusedVariables false
namespace Go.Proofs.YtaccfnffmbndhaaGreat
open Go.RowKit
theorem et_links:ElemT Tryz.prog 278 286 (.agg #[.int .i64 0,.int .i64 0,.slice none 0 0,.slice none 0 0]) 4 64:=⟨Tryz.underlying278,info_parts (by kernel_rfl),rfl,by decide⟩
theorem own_num' {w:World} {base n g c:Nat} {xs:List Int} {e:TypeId} (h:w.ownsRow base e 1 (.slice (some ⟨g,0,none⟩) n c) n (nums .i64 xs)) {k:Nat} (hk:k < n):w.cell? ⟨g,k,none⟩ = some (.int .i64 (nth xs k)):=own_num h hk
def NetI (sz ps:List Int) (q:Int) (S gp cp b b0:Nat) (As:Option Addr) (cs:Nat) (k:Nat) (w0 w:World):Prop:=
  ∃ Al cl rows,w.heap[b]? = some (.cells #[.pointer (some ⟨S,0,none⟩),.slice (some ⟨gp,0,none⟩) ps.length cp,.int .i64 q,.slice Al k cl] 280 (0,0)) ∧
    w.ownsRow b 286 4 (.slice Al k cl) k (List.flatten rows) ∧ rows.length = k ∧ (∀ r ∈ rows,r.length = 4) ∧
    w.ownsRow b0 2 1 (.slice (some ⟨gp,0,none⟩) ps.length cp) ps.length (nums .i64 ps) ∧
    (∀ j,j < k → ∃ g d,rowOf rows j = [.int .i64 (szN sz (j + 1):Int),.int .i64 (szN sz j:Int),.slice (some ⟨g,0,none⟩) (szN sz (j + 1) * szN sz j) d,.slice (some ⟨gp,midN sz j,none⟩) (szN sz (j + 1)) (cp - midN sz j)] ∧
      szN sz (j + 1) * szN sz j ≤ d ∧ w.ownsRow b0 2 1 (.slice (some ⟨g,0,none⟩) (szN sz (j + 1) * szN sz j) d) (szN sz (j + 1) * szN sz j) (nums .i64 (wL sz ps j))) ∧
    w.ownsRow b 3 1 (.slice As sz.length cs) sz.length (nums .i64 sz) ∧ Below b w0 w
def NetP (w:World) (base b:Nat) (ps:List Int):Prop:=∃ s Ap cp q l,w.heap[b]? = some (.cells #[s,.slice Ap ps.length cp,q,l] 280 (0,0)) ∧ w.ownsRow base 2 1 (.slice Ap ps.length cp) ps.length (nums .i64 ps) ∧ base ≤ b
def NetO (w:World) (base b S:Nat) (sz ps:List Int) (q:Int):Prop:=∃ g cp Al cl rows,
  w.heap[b]? = some (.cells #[.pointer (some ⟨S,0,none⟩),.slice (some ⟨g,0,none⟩) ps.length cp,.int .i64 q,.slice Al (sz.length - 1) cl] 280 (0,0)) ∧ base ≤ b ∧
    w.ownsRow base 2 1 (.slice (some ⟨g,0,none⟩) ps.length cp) ps.length (nums .i64 ps) ∧ w.ownsRow base 286 4 (.slice Al (sz.length - 1) cl) (sz.length - 1) (List.flatten rows) ∧ rows.length = sz.length - 1 ∧ (∀ r ∈ rows,r.length = 4) ∧
    ∀ j,j < sz.length - 1 → ∃ g9 d,rowOf rows j = [.int .i64 (szN sz (j + 1):Int),.int .i64 (szN sz j:Int),.slice (some ⟨g9,0,none⟩) (szN sz (j + 1) * szN sz j) d,.slice (some ⟨g,midN sz j,none⟩) (szN sz (j + 1)) (cp - midN sz j)] ∧
      szN sz (j + 1) * szN sz j ≤ d ∧ w.ownsRow base 2 1 (.slice (some ⟨g9,0,none⟩) (szN sz (j + 1) * szN sz j) d) (szN sz (j + 1) * szN sz j) (nums .i64 (wL sz ps j))
theorem NetO.keep {w w':World} {base b S0:Nat} {sz ps:List Int} {q:Int} (h:NetO w base b S0 sz ps q) {S:Nat → Prop} (k:Keep S w w') (hS:∀ j,S j → j < base):NetO w' base b S0 sz ps q:=by
  obtain ⟨g,cp,Al,cl,rows,h0,h1,h2,h3,h4,h5,h6⟩:=h
  have hno:∀ {e' size n m:Nat} {v:Value} {xs:List Value},w.ownsRow base e' size v n xs → w'.ownsRow base e' size v n xs:=fun hr => k.own hr (fun i hi hs => by have:=hS i hs;have:=(hr.lt i hi).1;omega)
  exact ⟨g,cp,Al,cl,rows,(k.block b (lt_of_block h0) (fun hs => by have:=hS b hs;omega)).trans h0,h1,k.own h2 (fun i hi hs => by have:=hS i hs;have:=(h2.lt i hi).1;omega),k.own h3 (fun i hi hs => by have:=hS i hs;have:=(h3.lt i hi).1;omega),h4,h5,fun j hj => by
    obtain ⟨g9,d,e1,e2,e3⟩:=h6 j hj
    exact ⟨g9,d,e1,e2,k.own e3 (fun i hi hs => by have:=hS i hs;have:=(e3.lt i hi).1;omega)⟩⟩
theorem NetO.below {w w':World} {base b S0:Nat} {sz ps:List Int} {q:Int} (h:NetO w base b S0 sz ps q) (hb:Below w.heap.size w w'):NetO w' base b S0 sz ps q:=h.keep (S:=fun _ => False) (Keep.below hb) (fun _ h => h.elim)
theorem NetO.at {w:World} {base b S:Nat} {sz ps:List Int} {q:Int} (h:NetO w base b S sz ps q) (hS:ShapeAt 186 w S sz) (hg:GoodSz sz) (hl:ps.length = cntN sz (sz.length - 1)):NetAt 186 280 w b sz ps q:=by
  obtain ⟨g,cp,Al,cl,rows,h0,h1,h2,h3,h4,h5,h6⟩:=h
  refine ⟨S,some ⟨g,0,none⟩,cp,Al,cl,rows,h0,hS,Rd.own h2,Rd.own h3,h4,h5,fun j hj => ?_⟩
  obtain ⟨g9,d9,h91,h92,h93⟩:=h6 j hj
  have hroom:=Nat.le_trans (cntN_mono sz (show j + 1 ≤ sz.length - 1 by omega)) (Nat.le_of_eq hl.symm)
  have hnext:=midN_eq sz j
  have hb0:bL sz ps j = (ps.drop (midN sz j)).take (szN sz (j + 1)):=(eq_upTo (by rw [List.length_take,List.length_drop];omega) fun i hi => by rw [nth_take hi,nth_drop]).symm
  refine ⟨g9,0,d9,some ⟨g,midN sz j,none⟩,cp - midN sz j,h91,h92,Rd.own h93,?_⟩
  have:=((Rd.own h2).drop (midN sz j)).take (szN sz (j + 1))
  rwa [Nat.zero_add,nums_drop,nums_take,← hb0] at this
set_option maxRecDepth 100000 in
set_option maxHeartbeats 2000000 in
theorem net_new_own (S:Nat) (sz ps:List Int) (A:Option Addr) (c:Nat) (q:Int) (w:World) (hS:ShapeAt 186 w S sz) (hg:GoodSz sz) (hq:0 ≤ q ∧ q ≤ 62) (hl:ps.length = cntN sz (sz.length - 1)) (hA:Rd w A (nums .i64 ps)) :
    Calls Tryz.prog 145 #[.pointer (some ⟨S,0,none⟩),.slice A ps.length c,.int .i64 q] w fun e w' => ∃ b,e = .returned (.tuple #[.pointer (some ⟨b,0,none⟩),.bool true]) ∧ NetAt 186 280 w' b sz ps q ∧ NetP w' w.heap.size b ps ∧ NetO w' w.heap.size b S sz ps q ∧ Below w.heap.size w w':=by
  obtain ⟨q1,q2⟩:=hq
  have hc:=shape_count S sz w hS
  have hcl:=vclone_any A ps c w hA (by have:=hg.2;omega)
  have hsi:=fun w' (k:Below w.heap.size w w') => shape_sizes S sz w' (hS.below k) (by have:=hg.1.1.2;omega)
  have hlk:=fun w' (k:Below w.heap.size w w') => shape_links S sz w' (hS.below k)
  have hwt:=fun j w' (k:Below w.heap.size w w') => shape_weights S sz j w' (hS.below k) (by have:=hg.1.1.2;omega)
  have hbi:=fun j w' (k:Below w.heap.size w w') => shape_biases S sz j w' (hS.below k) (by have:=hg.1.1.2;omega)
  rw [← hl] at hc
  obtain ⟨n,hn⟩:∃ n,sz.length - 1 = n:=⟨_,rfl⟩
  obtain ⟨N,hN⟩:∃ N,ps.length = N:=⟨_,rfl⟩
  rw [hn] at hlk hwt hbi hl
  rw [hN] at hc hcl hl ⊢
  have hnn:1 ≤ n ∧ n ≤ 15:=by have:=hg.1.1;omega
  have hNb:N ≤ 1048576:=by have:=hg.2;rw [hn] at this;omega
  have Hc:=Lib.hid hc;have Hcl:=Lib.hid hcl;have Hsi:=Lib.hid hsi;have Hlk:=Lib.hid hlk;have Hwt:=Lib.hid hwt;have Hbi:=Lib.hid hbi;have HG:=Lib.hid hg;have Hn:=Lib.hid hn;have HN:=Lib.hid hN;have HS:=Lib.hid hS;have HAz:=Lib.hid hA;have Hl:=Lib.hid hl
  clear hc hcl hsi hlk hwt hbi hg hn hN hS hA hl
  go_enter Tryz.func145,Tryz.ntmps145
  go_wp2_with fail
  refine Hc.out.mono ?_
  rintro e w' ⟨rfl,rfl⟩
  go_wp2_with fail
  refine Hcl.out.mono ?_
  rintro e w1 ⟨A',cp,rfl,hcp,hown,hb⟩
  have Hown:=Lib.hid hown;have Hb:=Lib.hid hb;have Hcp:=Lib.hid hcp;clear hown hb hcp
  go_wp2_with fail
  refine (Hsi.out _ ?_).mono ?_
  · have hb:=Hb.out
    have hbz:=hb.size
    (focus (repeat' (first | (with_reducible exact Below.refl _ _) | (with_reducible assumption) | (with_reducible refine Below.setCell ?_ ?_ _) | (with_reducible refine Below.alloc ?_ ?_ _) | (with_reducible refine below_drewN ?_ _) | (with_reducible refine Below.drew ?_) | (with_reducible exact Nat.le_refl _) | omega | (simp;done) | (simp;omega))))
  rintro e w2 ⟨As,cs,rfl,hos,hb2⟩
  have Hos:=Lib.hid hos;have Hb2:=Lib.hid hb2;clear hos hb2
  go_wp2_with fail
  refine (Hlk.out _ ?_).mono ?_
  · have hb:=Hb.out
    have hb2:=Hb2.out
    exact hb.trans ((((Below.refl _ w1).alloc (Nat.le_refl _) _).trans (hb2.mono (by simp))).mono hb.size)
  rintro e w' ⟨rfl,rfl⟩
  go_wp2_with fail
  have hNpos:1 ≤ N:=by
    have h0:=Hl.out
    have h1:=(HG.out.1.at (k:=1) (by have:=HG.out.1.1;omega)).1
    have h2:=cntN_mono sz (show 1 ≤ n by omega)
    have h3:midN sz 0 + szN sz 1 = cntN sz 1:=midN_eq sz 0
    omega
  obtain ⟨gp,cp',hvp,hgp,_⟩:=Hown.out.form (by omega)
  simp only [Value.slice.injEq] at hvp
  obtain ⟨rfl,hvx,rfl⟩:=hvp
  clear hvx
  go_loopw [42] (fun i wr => ∃ k:Nat,k ≤ n ∧ i = .int .i64 k ∧ NetI sz ps q S gp cp w1.heap.size w.heap.size As cs k w1 wr) (fun i _ => n - (intOf i).toNat)
  case atStart =>
    have hb2:=Hb2.out
    have hk:Below w1.heap.size w1 w2:=((Below.refl _ w1).alloc (Nat.le_refl _) _).trans (hb2.mono (by simp))
    have hnb:=(hb2.block w1.heap.size (by simp)).trans (heap_alloc_new w1 _)
    refine ⟨0,Nat.zero_le _,rfl,none,0,[],?_,World.ownsRow_nil _ _ _ _,rfl,by simp,?_,fun j hj => by omega,own_base Hos.out (by simp),hk⟩
    · rw [HN.out];exact hnb
    · rw [HN.out];exact own_below Hown.out hk
  case round =>
    obtain ⟨k,hk,rfl,Al,cl,rows,hN0,hol,hr1,hr2,hop,hrow,hoz,hW⟩:=hrel
    rw [HN.out] at hN0 hop
    obtain ⟨⟨x0,x1,x2,x3⟩,xf⟩:=bx4 hN0
    have hbl:=lt_of_block hN0
    have hbw:Below w.heap.size w wr:=Hb.out.trans (hW.mono Hb.out.size)
    have HN0:=Lib.hid hN0;have Hol:=Lib.hid hol;have Hr1:=Lib.hid hr1;have Hr2:=Lib.hid hr2;have Hop:=Lib.hid hop;have Hrow:=Lib.hid hrow;have Hoz:=Lib.hid hoz;have HW:=Lib.hid hW;have Hbw:=Lib.hid hbw
    clear hN0 hol hr1 hr2 hop hrow hoz hW hbw
    by_cases hlt:k < n
    · have hR:=HG.out.1
      have hk1:k + 1 < sz.length:=by have:=Hn.out;have:=hR.1;omega
      have z0:=hR.at (k:=k) (by omega)
      have z1:=hR.at hk1
      have hmul:=HG.out.mul hk1
      have hpos:1 ≤ szN sz (k + 1) * szN sz k:=Nat.mul_pos z1.1 z0.1
      have hmid:midN sz k = cntN sz k + szN sz (k + 1) * szN sz k:=rfl
      have hnext:=midN_eq sz k
      have hroom:=Nat.le_trans (cntN_mono sz (show k + 1 ≤ n by omega)) (Nat.le_of_eq Hl.out.symm)
      have hwtk:=Hwt.out k
      have hbik:=Hbi.out k
      have hw0:wL sz ps k = (ps.drop (cntN sz k)).take (szN sz (k + 1) * szN sz k):=(eq_upTo (by rw [List.length_take,List.length_drop];have:=HN.out;omega) fun i hi => by rw [nth_take hi,nth_drop]).symm
      have hb0:bL sz ps k = (ps.drop (midN sz k)).take (szN sz (k + 1)):=(eq_upTo (by rw [List.length_take,List.length_drop];have:=HN.out;omega) fun i hi => by rw [nth_take hi,nth_drop]).symm
      obtain ⟨g5,c5,hv5,hg5,_⟩:=Hoz.out.form (by omega)
      simp only [Value.slice.injEq] at hv5
      obtain ⟨rfl,hx5,rfl⟩:=hv5
      clear hx5
      have p0:=own_num' Hoz.out (show k < sz.length by omega)
      have p1:=own_num' Hoz.out hk1
      rw [z0.2.2] at p0
      rw [z1.2.2] at p1
      rw [hmid,← hnext,hmid] at hbik
      rw [hmid] at hwtk hb0
      have hrdp:=Rd.own Hop.out
      obtain ⟨lo,hlo⟩:∃ lo,cntN sz k = lo:=⟨_,rfl⟩
      obtain ⟨r,hr⟩:∃ r,szN sz (k + 1) = r:=⟨_,rfl⟩
      obtain ⟨c0,hc0⟩:∃ c0,szN sz k = c0:=⟨_,rfl⟩
      obtain ⟨nn,hnn⟩:∃ nn,r * c0 = nn:=⟨_,rfl⟩
      rw [← hnext,hmid] at hroom
      rw [hlo,hr,hc0,hnn] at hbik hwtk hroom
      rw [hr,hc0,hnn] at hpos hmul
      rw [hr] at p1 z1
      rw [hc0] at p0 z0
      rw [hlo,hr,hc0,hnn] at hw0 hb0
      have hrw:Rd wr (some ⟨gp,lo,none⟩) (nums .i64 (wL sz ps k)):=by
        have:=(hrdp.drop lo).take nn
        rwa [Nat.zero_add,nums_drop,nums_take,← hw0] at this
      have hwl:(wL sz ps k).length = nn:=by rw [wL_len,hr,hc0,hnn]
      have hof:=fun W (h:Below wr.heap.size wr W) => of_any r c0 (some ⟨gp,lo,none⟩) (wL sz ps k) (cp - lo) W ⟨z1.1,z1.2.1⟩ ⟨z0.1,z0.2.1⟩ (hwl.trans hnn.symm) (by omega) (hrw.below h)
      rw [hwl] at hof
      have Hwtk:=Lib.hid hwtk;have Hbik:=Lib.hid hbik;have Hof:=Lib.hid hof;have Hlo:=Lib.hid hlo;have Hr:=Lib.hid hr;have Hc0:=Lib.hid hc0;have Hnn:=Lib.hid hnn;have Hb0:=Lib.hid hb0
      have hcp2:=Hcp.out
      clear hwtk hbik hof hmid hnext hw0 hb0 hlo hr hc0 hnn hrdp hrw hwl
      go_wp2_with fail
      refine (Hwtk.out _ Hbw.out (by omega)).mono ?_
      rintro e w3 ⟨rfl,hb3⟩
      have Hb3:=Lib.hid hb3;clear hb3
      go_wp2_with fail
      refine (Hbik.out _ (Hbw.out.trans (Hb3.out.mono Hbw.out.size)) (by omega)).mono ?_
      rintro e w4 ⟨rfl,hb4⟩
      have hb34:=Hb3.out.trans (hb4.mono Hb3.out.size)
      have x1':=(hb34.cell (p:=⟨w1.heap.size,1,none⟩) hbl).trans x1
      have p0':=(hb34.cell (p:=⟨g5,k,none⟩) (lt_of_cell p0)).trans p0
      have p1':=(hb34.cell (p:=⟨g5,k + 1,none⟩) (lt_of_cell p1)).trans p1
      have hbl4:w1.heap.size < w4.heap.size:=by have:=hb34.size;omega
      have hg54:g5 < w4.heap.size:=lt_of_cell p0'
      have Hb34:=Lib.hid hb34;clear hb34 hb4 Hb3 x0 x1 x2 x3 xf p0 p1
      have hki:(k:Int) + 1 < sz.length:=by omega
      have hc1:¬ (cp = lo):=by omega
      have hc2:lo + nn ≤ cp:=by omega
      go_wp2_with fail
      go_cut [13,14] (fun v _ wx => ∃ M A d,v = .pointer (some ⟨M,0,none⟩) ∧ wx.heap[M]? = some (.cells #[.int .i64 r,.int .i64 c0,.slice A nn d] 282 (0,0)) ∧ nn ≤ d ∧ wx.ownsRow w4.heap.size 2 1 (.slice A nn d) nn (nums .i64 (wL sz ps k)) ∧ w4.heap.size + 2 ≤ wx.heap.size ∧
        Below (w4.heap.size + 2) ((w4.alloc (.cells #[.int .i64 lo,.int .i64 ((lo:Int) + nn)] 52)).alloc (.cells #[.int .i64 ((lo:Int) + nn),.int .i64 ((lo:Int) + nn + r)] 52)) wx)
      case first =>
        have hSw:(fun w':World => w'.cell? ⟨g5,k + 1,none⟩ = some (.int .i64 r) ∧ w'.cell? ⟨g5,k,none⟩ = some (.int .i64 c0) ∧ w'.cell? ⟨w1.heap.size,1,none⟩ = some (.slice (some ⟨gp,0,none⟩) N cp) ∧ w'.cell? ⟨w4.heap.size,0,none⟩ = some (.int .i64 lo) ∧ w'.cell? ⟨w4.heap.size,1,none⟩ = some (.int .i64 ((lo:Int) + nn))) ((w4.alloc (.cells #[.int .i64 lo,.int .i64 ((lo:Int) + nn)] 52)).alloc (.cells #[.int .i64 ((lo:Int) + nn),.int .i64 ((lo:Int) + nn + r)] 52)).drew:=
          ⟨cell_alloc (cell_alloc p1' _) _,cell_alloc (cell_alloc p0' _) _,cell_alloc (cell_alloc x1' _) _,cell_alloc (cell_of_row _ w4.heap.size 0 _ _ _ (heap_alloc_new w4 _)) _,cell_alloc (cell_of_row _ w4.heap.size 1 _ _ _ (heap_alloc_new w4 _)) _⟩
        have hg0:Below wr.heap.size wr ((w4.alloc (.cells #[.int .i64 lo,.int .i64 ((lo:Int) + nn)] 52)).alloc (.cells #[.int .i64 ((lo:Int) + nn),.int .i64 ((lo:Int) + nn + r)] 52)).drew:=
          (((Hb34.out.alloc (by have:=Hb34.out.size;omega) _).alloc (by have:=Hb34.out.size;simp;omega) _)).drew
        have Hg0:=Lib.hid hg0;clear hg0
        have hkl:k < sz.length:=by omega
        have hw1:IntKind.i64.wrap ((k:Int) + 1) = (k:Int) + 1:=IntWalk.i64_in _ (by omega)
        have hw2:(0:Int) ≤ (k:Int) + 1:=by omega
        have hw3:((k:Int) + 1).toNat = k + 1:=by omega
        have hw4:((lo:Int) + nn).toNat = lo + nn:=by omega
        have hw5:(0:Int) ≤ (lo:Int) + nn:=by omega
        have hw6:(lo:Int) + nn ≤ cp:=by omega
        have hw7:(lo:Int) ≤ (lo:Int) + nn:=by omega
        refine wp_region_X 23 (fun w':World => w'.cell? ⟨g5,k + 1,none⟩ = some (.int .i64 r) ∧ w'.cell? ⟨g5,k,none⟩ = some (.int .i64 c0) ∧ w'.cell? ⟨w1.heap.size,1,none⟩ = some (.slice (some ⟨gp,0,none⟩) N cp) ∧ w'.cell? ⟨w4.heap.size,0,none⟩ = some (.int .i64 lo) ∧ w'.cell? ⟨w4.heap.size,1,none⟩ = some (.int .i64 ((lo:Int) + nn))) (by kernel_rfl) ?_
        refine wpAnyX_take (i:=0) (v:=?_) rfl (by kernel_rfl) (by decide) (by kernel_rfl) (by kernel_rfl) (by kernel_rfl) (by kernel_rfl) (fun _ _ _ h => h) (Or.inl ⟨by rfl,?_⟩) hSw ?_
        rotate_left
        · intro w9 hS9;(try dsimp only at hS9);obtain ⟨s1,s2,s3,s4,s5⟩:=hS9;go_simp;(try with_reducible rfl)
        simp only [List.getElem_toArray,List.getElem_cons_succ,List.getElem_cons_zero,Act.put,List.setIfInBounds_toArray,List.set_cons_zero,List.set_cons_succ]
        refine wpAnyX_take (i:=1) (v:=?_) rfl (by kernel_rfl) (by decide) (by kernel_rfl) (by kernel_rfl) (by kernel_rfl) (by kernel_rfl) (fun _ _ _ h => h) (Or.inl ⟨by rfl,?_⟩) hSw ?_
        rotate_left
        · intro w9 hS9;(try dsimp only at hS9);obtain ⟨s1,s2,s3,s4,s5⟩:=hS9;go_simp;(try with_reducible rfl)
        simp only [List.getElem_toArray,List.getElem_cons_succ,List.getElem_cons_zero,Act.put,List.setIfInBounds_toArray,List.set_cons_zero,List.set_cons_succ]
        refine wpAnyX_take (i:=2) (v:=?_) rfl (by kernel_rfl) (by decide) (by kernel_rfl) (by kernel_rfl) (by kernel_rfl) (by kernel_rfl) (fun _ _ _ h => h) (Or.inl ⟨by rfl,?_⟩) hSw ?_
        rotate_left
        · intro w9 hS9;(try dsimp only at hS9);obtain ⟨s1,s2,s3,s4,s5⟩:=hS9;go_simp;(try with_reducible rfl)
        simp only [List.getElem_toArray,List.getElem_cons_succ,List.getElem_cons_zero,Act.put,List.setIfInBounds_toArray,List.set_cons_zero,List.set_cons_succ]
        refine wpAnyX_take (i:=3) (v:=?_) rfl (by kernel_rfl) (by decide) (by kernel_rfl) (by kernel_rfl) (by kernel_rfl) (by kernel_rfl) (fun _ _ _ h => h) (Or.inl ⟨by rfl,?_⟩) hSw ?_
        rotate_left
        · intro w9 hS9;(try dsimp only at hS9);obtain ⟨s1,s2,s3,s4,s5⟩:=hS9;go_simp;(try with_reducible rfl)
        simp only [List.getElem_toArray,List.getElem_cons_succ,List.getElem_cons_zero,Act.put,List.setIfInBounds_toArray,List.set_cons_zero,List.set_cons_succ]
        refine wpAnyX_take (i:=4) (v:=?_) rfl (by kernel_rfl) (by decide) (by kernel_rfl) (by kernel_rfl) (by kernel_rfl) (by kernel_rfl) (fun _ _ _ h => h) (Or.inl ⟨by rfl,?_⟩) hSw ?_
        rotate_left
        · intro w9 hS9;(try dsimp only at hS9);obtain ⟨s1,s2,s3,s4,s5⟩:=hS9;go_simp;(try with_reducible rfl)
        simp only [List.getElem_toArray,List.getElem_cons_succ,List.getElem_cons_zero,Act.put,List.setIfInBounds_toArray,List.set_cons_zero,List.set_cons_succ]
        refine wpAnyX_take (i:=5) (v:=?_) rfl (by kernel_rfl) (by decide) (by kernel_rfl) (by kernel_rfl) (by kernel_rfl) (by kernel_rfl) (fun _ _ _ h => h) (Or.inl ⟨by rfl,?_⟩) hSw ?_
        rotate_left
        · intro w9 hS9;(try dsimp only at hS9);obtain ⟨s1,s2,s3,s4,s5⟩:=hS9;go_simp;(try with_reducible rfl)
        simp only [List.getElem_toArray,List.getElem_cons_succ,List.getElem_cons_zero,Act.put,List.setIfInBounds_toArray,List.set_cons_zero,List.set_cons_succ]
        refine wpAnyX_take (i:=6) (v:=?_) rfl (by kernel_rfl) (by decide) (by kernel_rfl) (by kernel_rfl) (by kernel_rfl) (by kernel_rfl) (fun _ _ _ h => h) (Or.inl ⟨by rfl,?_⟩) hSw ?_
        rotate_left
        · intro w9 hS9;(try dsimp only at hS9);obtain ⟨s1,s2,s3,s4,s5⟩:=hS9;go_simp;(try with_reducible rfl)
        simp only [List.getElem_toArray,List.getElem_cons_succ,List.getElem_cons_zero,Act.put,List.setIfInBounds_toArray,List.set_cons_zero,List.set_cons_succ]
        refine wpAnyX_take (i:=7) (v:=?_) rfl (by kernel_rfl) (by decide) (by kernel_rfl) (by kernel_rfl) (by kernel_rfl) (by kernel_rfl) (fun _ _ _ h => h) (Or.inl ⟨by rfl,?_⟩) hSw ?_
        rotate_left
        · intro w9 hS9;(try dsimp only at hS9);obtain ⟨s1,s2,s3,s4,s5⟩:=hS9;go_simp;(try with_reducible rfl)
        simp only [List.getElem_toArray,List.getElem_cons_succ,List.getElem_cons_zero,Act.put,List.setIfInBounds_toArray,List.set_cons_zero,List.set_cons_succ]
        refine wpAnyX_take (i:=8) (v:=?_) rfl (by kernel_rfl) (by decide) (by kernel_rfl) (by kernel_rfl) (by kernel_rfl) (by kernel_rfl) (fun _ _ _ h => h) (Or.inl ⟨by rfl,?_⟩) hSw ?_
        rotate_left
        · intro w9 hS9;(try dsimp only at hS9);obtain ⟨s1,s2,s3,s4,s5⟩:=hS9;go_simp;(try with_reducible rfl)
        simp only [List.getElem_toArray,List.getElem_cons_succ,List.getElem_cons_zero,Act.put,List.setIfInBounds_toArray,List.set_cons_zero,List.set_cons_succ]
        refine wpAnyX_take (i:=9) (v:=?_) rfl (by kernel_rfl) (by decide) (by kernel_rfl) (by kernel_rfl) (by kernel_rfl) (by kernel_rfl) (fun _ _ _ h => h) (Or.inl ⟨by rfl,?_⟩) hSw ?_
        rotate_left
        · intro w9 hS9;(try dsimp only at hS9);obtain ⟨s1,s2,s3,s4,s5⟩:=hS9;go_simp;(try with_reducible rfl)
        simp only [List.getElem_toArray,List.getElem_cons_succ,List.getElem_cons_zero,Act.put,List.setIfInBounds_toArray,List.set_cons_zero,List.set_cons_succ]
        refine wpAnyX_take (i:=10) (v:=?_) rfl (by kernel_rfl) (by decide) (by kernel_rfl) (by kernel_rfl) (by kernel_rfl) (by kernel_rfl) (fun _ _ _ h => h) (Or.inl ⟨by rfl,?_⟩) hSw ?_
        rotate_left
        · intro w9 hS9;(try dsimp only at hS9);obtain ⟨s1,s2,s3,s4,s5⟩:=hS9;go_simp;(try with_reducible rfl)
        simp only [List.getElem_toArray,List.getElem_cons_succ,List.getElem_cons_zero,Act.put,List.setIfInBounds_toArray,List.set_cons_zero,List.set_cons_succ]
        refine wpAnyX_take (i:=11) (v:=?_) rfl (by kernel_rfl) (by decide) (by kernel_rfl) (by kernel_rfl) (by kernel_rfl) (by kernel_rfl) (fun _ _ _ h => h) (Or.inl ⟨by rfl,?_⟩) hSw ?_
        rotate_left
        · intro w9 hS9;(try dsimp only at hS9);obtain ⟨s1,s2,s3,s4,s5⟩:=hS9;go_simp;(try with_reducible rfl)
        simp only [List.getElem_toArray,List.getElem_cons_succ,List.getElem_cons_zero,Act.put,List.setIfInBounds_toArray,List.set_cons_zero,List.set_cons_succ]
        refine wpAnyX_take (i:=12) (v:=?_) rfl (by kernel_rfl) (by decide) (by kernel_rfl) (by kernel_rfl) (by kernel_rfl) (by kernel_rfl) (fun _ _ _ h => h) (Or.inl ⟨by rfl,?_⟩) hSw ?_
        rotate_left
        · intro w9 hS9;(try dsimp only at hS9);obtain ⟨s1,s2,s3,s4,s5⟩:=hS9;go_simp;(try with_reducible rfl)
        simp only [List.getElem_toArray,List.getElem_cons_succ,List.getElem_cons_zero,Act.put,List.setIfInBounds_toArray,List.set_cons_zero,List.set_cons_succ]
        refine wpAnyX_take (i:=13) (v:=?_) rfl (by kernel_rfl) (by decide) (by kernel_rfl) (by kernel_rfl) (by kernel_rfl) (by kernel_rfl) (fun _ _ _ h => h) (Or.inl ⟨by rfl,?_⟩) hSw ?_
        rotate_left
        · intro w9 hS9;(try dsimp only at hS9);obtain ⟨s1,s2,s3,s4,s5⟩:=hS9;go_simp;(try with_reducible rfl)
        simp only [List.getElem_toArray,List.getElem_cons_succ,List.getElem_cons_zero,Act.put,List.setIfInBounds_toArray,List.set_cons_zero,List.set_cons_succ]
        refine wpAnyX_take (i:=14) (v:=?_) rfl (by kernel_rfl) (by decide) (by kernel_rfl) (by kernel_rfl) (by kernel_rfl) (by kernel_rfl) (fun _ _ _ h => h) (Or.inl ⟨by rfl,?_⟩) hSw ?_
        rotate_left
        · intro w9 hS9;(try dsimp only at hS9);obtain ⟨s1,s2,s3,s4,s5⟩:=hS9;go_simp;(try with_reducible rfl)
        simp only [List.getElem_toArray,List.getElem_cons_succ,List.getElem_cons_zero,Act.put,List.setIfInBounds_toArray,List.set_cons_zero,List.set_cons_succ]
        refine wpAnyX_take (i:=15) (v:=?_) rfl (by kernel_rfl) (by decide) (by kernel_rfl) (by kernel_rfl) (by kernel_rfl) (by kernel_rfl) (fun _ _ _ h => h) (Or.inl ⟨by rfl,?_⟩) hSw ?_
        rotate_left
        · intro w9 hS9;(try dsimp only at hS9);obtain ⟨s1,s2,s3,s4,s5⟩:=hS9;go_simp;(try with_reducible rfl)
        simp only [List.getElem_toArray,List.getElem_cons_succ,List.getElem_cons_zero,Act.put,List.setIfInBounds_toArray,List.set_cons_zero,List.set_cons_succ]
        refine wpAnyX_take (i:=16) (v:=?_) rfl (by kernel_rfl) (by decide) (by kernel_rfl) (by kernel_rfl) (by kernel_rfl) (by kernel_rfl) (fun _ _ _ h => h) (Or.inl ⟨by rfl,?_⟩) hSw ?_
        rotate_left
        · intro w9 hS9;(try dsimp only at hS9);obtain ⟨s1,s2,s3,s4,s5⟩:=hS9;go_simp;(try with_reducible rfl)
        simp only [List.getElem_toArray,List.getElem_cons_succ,List.getElem_cons_zero,Act.put,List.setIfInBounds_toArray,List.set_cons_zero,List.set_cons_succ]
        refine wpAnyX_take (i:=17) (v:=?_) rfl (by kernel_rfl) (by decide) (by kernel_rfl) (by kernel_rfl) (by kernel_rfl) (by kernel_rfl) (fun _ _ _ h => h) (Or.inl ⟨by rfl,?_⟩) hSw ?_
        rotate_left
        · intro w9 hS9;(try dsimp only at hS9);obtain ⟨s1,s2,s3,s4,s5⟩:=hS9;go_simp;(try with_reducible rfl)
        simp only [List.getElem_toArray,List.getElem_cons_succ,List.getElem_cons_zero,Act.put,List.setIfInBounds_toArray,List.set_cons_zero,List.set_cons_succ]
        refine wpAnyX_ready (rs:=[18,22]) (by kernel_rfl) (by simp) ?_
        refine AllReadyX.cons rfl (fun K hK => ?_) (AllReadyX.cons rfl (fun K hK => ?_) AllReadyX.nil)
        · simp only [List.getElem_toArray,List.getElem_cons_succ,List.getElem_cons_zero]
          go_simp
          refine (Hof.out _ Hg0.out).mono ?_
          rintro e w6 ⟨A6,d6,rfl,hd6,ho6,hb6⟩
          have hS6:=And.intro (cell_below hb6 hSw.1) (And.intro (cell_below hb6 hSw.2.1) (And.intro (cell_below hb6 hSw.2.2.1) (And.intro (cell_below hb6 hSw.2.2.2.1) (cell_below hb6 hSw.2.2.2.2))))
          have Hd6:=Lib.hid hd6;have Ho6:=Lib.hid ho6;have Hb6:=Lib.hid hb6;clear hd6 ho6 hb6 hSw
          dsimp only
          refine hK.out _ _ hS6 (fun hSw => ?_)
          clear hK K hS6
          refine wpAnyX_take (i:=19) (v:=?_) rfl (by kernel_rfl) (by decide) (by kernel_rfl) (by kernel_rfl) (by kernel_rfl) (by kernel_rfl) (fun _ _ _ h => h) (Or.inl ⟨by rfl,?_⟩) hSw ?_
          rotate_left
          · intro w9 hS9;(try dsimp only at hS9);obtain ⟨s1,s2,s3,s4,s5⟩:=hS9;go_simp;(try with_reducible rfl)
          simp only [List.getElem_toArray,List.getElem_cons_succ,List.getElem_cons_zero,Act.put,List.setIfInBounds_toArray,List.set_cons_zero,List.set_cons_succ]
          refine wpAnyX_take (i:=20) (v:=?_) rfl (by kernel_rfl) (by decide) (by kernel_rfl) (by kernel_rfl) (by kernel_rfl) (by kernel_rfl) (fun _ _ _ h => h) (Or.inl ⟨by rfl,?_⟩) hSw ?_
          rotate_left
          · intro w9 hS9;(try dsimp only at hS9);obtain ⟨s1,s2,s3,s4,s5⟩:=hS9;go_simp;(try with_reducible rfl)
          simp only [List.getElem_toArray,List.getElem_cons_succ,List.getElem_cons_zero,Act.put,List.setIfInBounds_toArray,List.set_cons_zero,List.set_cons_succ]
          refine wpAnyX_take0 (i:=21) (v:=?_) rfl (by decide) (by kernel_rfl) (by kernel_rfl) (by kernel_rfl) (fun _ _ _ h => h) (Or.inl ⟨by rfl,?_⟩) hSw ?_
          rotate_left
          · intro w9 _;go_simp;(try with_reducible rfl)
          simp only [List.getElem_toArray,List.getElem_cons_succ,List.getElem_cons_zero,Act.put,List.setIfInBounds_toArray,List.set_cons_zero,List.set_cons_succ]
          refine wpAnyX_ready (rs:=[22]) (by kernel_rfl) (by simp) ?_
          refine AllReadyX.cons rfl (fun K hK => ?_) AllReadyX.nil
          simp only [List.getElem_toArray,List.getElem_cons_succ,List.getElem_cons_zero]
          go_simp
          refine hK.out _ _ ⟨cell_alloc hSw.1 _,cell_alloc hSw.2.1 _,cell_alloc hSw.2.2.1 _,cell_alloc hSw.2.2.2.1 _,cell_alloc hSw.2.2.2.2 _⟩ (fun hSw => ?_)
          clear hK K hSw
          refine wpAnyX_tail (by rfl) (by kernel_rfl) ?_
          simp only [List.drop_succ_cons,List.drop_zero]
          go_wp2_with fail
          go_meet
          have hz6:=Hb6.out.size
          simp at hz6
          refine ⟨w6.heap.size,A6,d6,rfl,heap_alloc_new w6 _,Hd6.out,own_base (Ho6.out.alloc _) (by first | omega | (simp;done) | (simp;omega)),(by first | omega | (simp;done) | (simp;omega)),?_⟩
          exact (((Below.refl _ _).drew).trans (Hb6.out.mono (by first | omega | (simp;done) | (simp;omega)))).alloc (by first | omega | (simp;done) | (simp;omega)) _
        · simp only [List.getElem_toArray,List.getElem_cons_succ,List.getElem_cons_zero]
          go_simp
          refine hK.out _ _ ⟨cell_alloc hSw.1 _,cell_alloc hSw.2.1 _,cell_alloc hSw.2.2.1 _,cell_alloc hSw.2.2.2.1 _,cell_alloc hSw.2.2.2.2 _⟩ (fun hSw => ?_)
          clear hK K
          refine wpAnyX_ready (rs:=[18]) (by kernel_rfl) (by simp) ?_
          refine AllReadyX.cons rfl (fun K hK => ?_) AllReadyX.nil
          simp only [List.getElem_toArray,List.getElem_cons_succ,List.getElem_cons_zero]
          go_simp
          refine (Hof.out _ (Hg0.out.alloc Hg0.out.size _)).mono ?_
          rintro e w6 ⟨A6,d6,rfl,hd6,ho6,hb6⟩
          have hS6:=And.intro (cell_below hb6 hSw.1) (And.intro (cell_below hb6 hSw.2.1) (And.intro (cell_below hb6 hSw.2.2.1) (And.intro (cell_below hb6 hSw.2.2.2.1) (cell_below hb6 hSw.2.2.2.2))))
          have hM6:=(hb6.block _ (by simp)).trans (heap_alloc_new _ _)
          simp only [World.size_alloc,World.size_drew] at hM6
          obtain ⟨⟨m0,m1,m2⟩,mf⟩:=bx3 hM6
          have hMl:=lt_of_block hM6
          have Hd6:=Lib.hid hd6;have Ho6:=Lib.hid ho6;have Hb6:=Lib.hid hb6;have HM6:=Lib.hid hM6;clear hd6 ho6 hb6 hSw hM6
          dsimp only
          refine hK.out _ _ hS6 (fun hSw => ?_)
          clear hK K hS6
          refine wpAnyX_take (i:=19) (v:=?_) rfl (by kernel_rfl) (by decide) (by kernel_rfl) (by kernel_rfl) (by kernel_rfl) (by kernel_rfl) (fun _ _ _ h => h) (Or.inl ⟨by rfl,?_⟩) hSw ?_
          rotate_left
          · intro w9 hS9;(try dsimp only at hS9);obtain ⟨s1,s2,s3,s4,s5⟩:=hS9;go_simp;(try with_reducible rfl)
          simp only [List.getElem_toArray,List.getElem_cons_succ,List.getElem_cons_zero,Act.put,List.setIfInBounds_toArray,List.set_cons_zero,List.set_cons_succ]
          refine wpAnyX_take (i:=20) (v:=?_) rfl (by kernel_rfl) (by decide) (by kernel_rfl) (by kernel_rfl) (by kernel_rfl) (by kernel_rfl) (fun _ _ _ h => h) (Or.inl ⟨by rfl,?_⟩) hSw ?_
          rotate_left
          · intro w9 hS9;(try dsimp only at hS9);obtain ⟨s1,s2,s3,s4,s5⟩:=hS9;go_simp;(try with_reducible rfl)
          simp only [List.getElem_toArray,List.getElem_cons_succ,List.getElem_cons_zero,Act.put,List.setIfInBounds_toArray,List.set_cons_zero,List.set_cons_succ]
          refine wpAnyX_take0 (i:=21) (v:=?_) rfl (by decide) (by kernel_rfl) (by kernel_rfl) (by kernel_rfl) (fun _ _ _ h => h) (Or.inl ⟨by rfl,?_⟩) hSw ?_
          rotate_left
          · intro w9 _;go_simp;(try with_reducible rfl)
          simp only [List.getElem_toArray,List.getElem_cons_succ,List.getElem_cons_zero,Act.put,List.setIfInBounds_toArray,List.set_cons_zero,List.set_cons_succ]
          clear hSw
          refine wpAnyX_tail (by rfl) (by kernel_rfl) ?_
          simp only [List.drop_succ_cons,List.drop_zero]
          go_wp2_with fail
          go_meet
          have hz6:=Hb6.out.size
          simp at hz6
          have k3:=box3_keep (w:=w6) (b:=w4.heap.size + 1 + 1) (.int .i64 r) (.int .i64 c0) (.slice A6 nn d6)
          have hz7:=k3.size
          refine ⟨w4.heap.size + 1 + 1,A6,d6,rfl,box3_set _ _ _ HM6.out,Hd6.out,own_base (k3.own Ho6.out (fun i hi e => block_notrow HM6.out (by decide) Ho6.out (by rw [hi,e]))) (by first | omega | (simp;done) | (simp;omega)),by omega,?_⟩
          exact ((((Below.refl _ _).drew).alloc (by first | omega | (simp;done) | (simp;omega)) _).trans (Hb6.out.mono (by first | omega | (simp;done) | (simp;omega)))).trans (k3.toBelow (by first | omega | (simp;done) | (simp;omega)) (fun i hi => by omega))
      case rest =>
        obtain ⟨M,A6,d6,rfl,hM,hd6,ho6,hsz,hBW⟩:=hcut
        have hWb:Below w4.heap.size w4 ((w4.alloc (.cells #[.int .i64 lo,.int .i64 ((lo:Int) + nn)] 52)).alloc (.cells #[.int .i64 ((lo:Int) + nn),.int .i64 ((lo:Int) + nn + r)] 52)):=((Below.refl _ _).alloc (Nat.le_refl _) _).alloc (by simp) _
        have hW12:((w4.alloc (.cells #[.int .i64 lo,.int .i64 ((lo:Int) + nn)] 52)).alloc (.cells #[.int .i64 ((lo:Int) + nn),.int .i64 ((lo:Int) + nn + r)] 52)).heap[w4.heap.size + 1]? = some (.cells #[.int .i64 ((lo:Int) + nn),.int .i64 ((lo:Int) + nn + r)] 52 (0,0)):=by
          have:=heap_alloc_new (w4.alloc (.cells #[.int .i64 lo,.int .i64 ((lo:Int) + nn)] 52)) (.cells #[.int .i64 ((lo:Int) + nn),.int .i64 ((lo:Int) + nn + r)] 52)
          simpa using this
        have h12:=(hBW.block (w4.heap.size + 1) (by omega)).trans hW12
        have hbc:Below w4.heap.size w4 wc:=hWb.trans (hBW.mono (by omega))
        have hrc:=Hb34.out.trans (hbc.mono Hb34.out.size)
        have hNc:=(hrc.block _ (lt_of_block HN0.out)).trans HN0.out
        have holc:=own_below Hol.out hrc
        have hopc:=own_below Hop.out hrc
        have hozc:=own_below Hoz.out hrc
        obtain ⟨⟨n0,n1,n2,n3⟩,nf⟩:=bx4 hNc
        obtain ⟨⟨m0,m1,m2⟩,mf⟩:=bx3 hM
        obtain ⟨⟨t0,t1⟩,tf⟩:=bx2 h12
        have H12c:=Lib.hid h12;have Hrc:=Lib.hid hrc;have HNc:=Lib.hid hNc;have Holc:=Lib.hid holc;have Hopc:=Lib.hid hopc;have Hozc:=Lib.hid hozc;have HMc:=Lib.hid hM;have Ho6:=Lib.hid ho6;have Hd6:=Lib.hid hd6
        clear hrc hNc holc hopc hozc hM ho6 hd6 hbc hWb hW12 h12 hBW x1' p0' p1'
        have hlc:w1.heap.size < wc.heap.size:=lt_of_block HNc.out
        go_wp2_with fail
        have hSw:(fun w':World => w'.cell? ⟨w1.heap.size,3,none⟩ = some (.slice Al k cl) ∧ w'.cell? ⟨M,0,none⟩ = some (.int .i64 r) ∧ w'.cell? ⟨M,1,none⟩ = some (.int .i64 c0) ∧ w'.cell? ⟨M,2,none⟩ = some (.slice A6 nn d6) ∧ w'.cell? ⟨w1.heap.size,1,none⟩ = some (.slice (some ⟨gp,0,none⟩) N cp) ∧ w'.cell? ⟨w4.heap.size + 1,0,none⟩ = some (.int .i64 ((lo:Int) + nn)) ∧ w'.cell? ⟨w4.heap.size + 1,1,none⟩ = some (.int .i64 ((lo:Int) + nn + r))) wc.drew:=⟨n3,m0,m1,m2,n1,t0,t1⟩
        have hq1:¬ (cp = lo + nn):=by omega
        have hq2:(lo:Int) + nn + r ≤ cp:=by omega
        have hq3:(lo:Int) + nn ≤ (lo:Int) + nn + r:=by omega
        have hq4:((lo:Int) + nn + r).toNat = lo + nn + r:=by omega
        have hq5:((lo:Int) + nn).toNat = lo + nn:=by omega
        have hq6:(0:Int) ≤ (lo:Int) + nn:=by omega
        have hq7:(0:Int) ≤ (lo:Int) + nn + r:=by omega
        refine XA.g 18 (fun w':World => w'.cell? ⟨w1.heap.size,3,none⟩ = some (.slice Al k cl) ∧ w'.cell? ⟨M,0,none⟩ = some (.int .i64 r) ∧ w'.cell? ⟨M,1,none⟩ = some (.int .i64 c0) ∧ w'.cell? ⟨M,2,none⟩ = some (.slice A6 nn d6) ∧ w'.cell? ⟨w1.heap.size,1,none⟩ = some (.slice (some ⟨gp,0,none⟩) N cp) ∧ w'.cell? ⟨w4.heap.size + 1,0,none⟩ = some (.int .i64 ((lo:Int) + nn)) ∧ w'.cell? ⟨w4.heap.size + 1,1,none⟩ = some (.int .i64 ((lo:Int) + nn + r))) ?_
        refine XA.t ?_ [0,1,2,3,4,5,6,7,8,9,10,11,12,13,14,15] hSw ?_
        refine XA.o 16 (fun K hK => ?_)
        go_simp
        refine hK.out _ _ ⟨cell_alloc hSw.1 _,cell_alloc hSw.2.1 _,cell_alloc hSw.2.2.1 _,cell_alloc hSw.2.2.2.1 _,cell_alloc hSw.2.2.2.2.1 _,cell_alloc hSw.2.2.2.2.2.1 _,cell_alloc hSw.2.2.2.2.2.2 _⟩ (fun hSw => ?_)
        clear hK K
        refine XA.o 17 (fun K hK => ?_)
        refine step_appX et_links (.tmp 77) (.tmp 89) rfl rfl w1.heap.size (.slice Al k cl) k (List.flatten rows) rfl (own_drewN (Holc.out.alloc _) 1) (some ⟨wc.heap.size,0,none⟩) 1 1 [.int .i64 r,.int .i64 c0,.slice A6 nn d6,.slice (some ⟨gp,lo + nn,none⟩) r (cp - (lo + nn))] rfl (rd_newN wc _ _ _ rfl) rfl (by simp [Value.oneCell']) (by omega) (by unfold maxLen;omega) (by simp;omega) ?_
        intro A7 c7 w7 ho7 hb7 hg7 hv7
        have hg7:=grown_undrew hg7
        have hN7:=block_grown (o:=.cells #[.int .i64 r,.int .i64 c0,.slice A6 nn d6,.slice (some ⟨gp,lo + nn,none⟩) r (cp - (lo + nn))] 286 (0,0)) HNc.out (by decide) Holc.out hg7
        have i0:=cell_of_row w7 _ 3 _ _ _ hN7
        have i1:=cell_of_row w7 _ 1 _ _ _ hN7
        have i3:=frozen_of_row w7 _ 3 _ _ hN7
        have hM7:=block_grown (o:=.cells #[.int .i64 r,.int .i64 c0,.slice A6 nn d6,.slice (some ⟨gp,lo + nn,none⟩) r (cp - (lo + nn))] 286 (0,0)) HMc.out (by decide) Holc.out hg7
        have H12:=block_grown (o:=.cells #[.int .i64 r,.int .i64 c0,.slice A6 nn d6,.slice (some ⟨gp,lo + nn,none⟩) r (cp - (lo + nn))] 286 (0,0)) H12c.out (by decide) Holc.out hg7
        have i4:=cell_of_row w7 _ 0 _ _ _ hM7
        have i5:=cell_of_row w7 _ 1 _ _ _ hM7
        have i6:=cell_of_row w7 _ 2 _ _ _ hM7
        have i7:=cell_of_row w7 _ 0 _ _ _ H12
        have i8:=cell_of_row w7 _ 1 _ _ _ H12
        have HO7:=Lib.hid ho7;have HN7:=Lib.hid hN7;have Hg7:=Lib.hid hg7;have Hb7:=Lib.hid hb7;clear ho7 hN7 hg7 hv7 hb7 hM7 H12
        dsimp only
        refine hK.out _ _ ⟨i0,i4,i5,i6,i1,i7,i8⟩ (fun hSw => ?_)
        clear hK K hSw
        refine XA.e ?_
        simp only [List.drop_succ_cons,List.drop_zero]
        go_wp2_with fail
        have hN8:=heap_setCell_same w7 w1.heap.size 3 _ _ (.slice A7 (k + 1) c7) HN7.out
        have hk8:Keep (fun i => i = w1.heap.size) w7 (w7.setCell ⟨w1.heap.size,3,none⟩ (.slice A7 (k + 1) c7)):=Keep.setCell (S:=fun i => i = w1.heap.size) (Keep.refl _ _) ⟨w1.heap.size,3,none⟩ (.inr rfl) _
        have ho8:=hk8.own HO7.out (fun i hi e => block_notrow HN7.out (by decide) HO7.out (by rw [hi,e]))
        have hW8:Below w1.heap.size w1 (w7.setCell ⟨w1.heap.size,3,none⟩ (.slice A7 (k + 1) c7)):=
          (((HW.out.trans (Hrc.out.mono HW.out.size)).alloc (by omega) _).drew.trans Hb7.out).setCell (by simp) _
        have hpast:∀ {b':Nat} {u:Value} {m:Nat} {ys:List Value} {e':TypeId},wc.ownsRow b' e' 1 u m ys → 286 ≠ e' → 280 ≠ e' → (w7.setCell ⟨w1.heap.size,3,none⟩ (.slice A7 (k + 1) c7)).ownsRow b' e' 1 u m ys:=fun h h1 h2 => own_past h Holc.out Hg7.out HN7.out h1 h2
        go_roundw
        case rel =>
          refine ⟨k + 1,by omega,by go_num,A7,c7,rows ++ [[.int .i64 r,.int .i64 c0,.slice A6 nn d6,.slice (some ⟨gp,lo + nn,none⟩) r (cp - (lo + nn))]],?_,?_,by simp [Hr1.out],?_,?_,?_,hpast Hozc.out (by decide) (by decide),hW8⟩
          · rw [HN.out];exact hN8
          · rw [List.flatten_append,List.flatten_cons,List.flatten_nil,List.append_nil];exact ho8
          · intro x hx
            rcases List.mem_append.1 hx with hx | hx
            · exact Hr2.out x hx
            · rw [List.mem_singleton.1 hx];rfl
          · rw [HN.out];exact hpast Hopc.out (by decide) (by decide)
          · intro j hj
            rcases Nat.lt_or_ge j k with hjk | hjk
            · obtain ⟨g9,d9,h91,h92,h93⟩:=Hrow.out j hjk
              refine ⟨g9,d9,?_,h92,hpast (own_below h93 Hrc.out) (by decide) (by decide)⟩
              rw [← h91]
              simp [rowOf,List.getElem?_append_left (show j < rows.length by rw [Hr1.out];exact hjk)]
            · obtain rfl:j = k:=by omega
              obtain ⟨g9,d9,hv9,hg9,_⟩:=Ho6.out.form (by omega)
              simp only [Value.slice.injEq] at hv9
              obtain ⟨rfl,_,rfl⟩:=hv9
              have e1:=Hr.out;have e2:=Hc0.out;have e3:=Hlo.out;have e4:=Hnn.out
              refine ⟨g9,d6,?_,?_,?_⟩
              · have e5:midN sz j = lo + nn:=by unfold midN;rw [e1,e2,e3,e4]
                rw [e5,e1,e2,e4]
                have:=Hr1.out
                simp [rowOf,← this]
              · rw [e1,e2,e4];exact Hd6.out
              · rw [e1,e2,e4];exact own_base (hpast Ho6.out (by decide) (by decide)) (by have:=Hb.out.size;omega)
        case measure => simp [intOf];omega
    · obtain rfl:k = n:=by omega
      have hsh:NetAt 186 280 wr w1.heap.size sz ps q:=by
        refine ⟨S,some ⟨gp,0,none⟩,cp,Al,cl,rows,?_,HS.out.below Hbw.out,Rd.own Hop.out,Rd.own Hol.out,?_,Hr2.out,?_⟩
        · rw [HN.out,Hn.out];exact HN0.out
        · rw [Hn.out];exact Hr1.out
        · intro j hj
          rw [Hn.out] at hj
          obtain ⟨g9,d9,h91,h92,h93⟩:=Hrow.out j hj
          have hR:=HG.out.1
          have hk1:j + 1 < sz.length:=by have:=Hn.out;have:=hR.1;omega
          have hroom:=Nat.le_trans (cntN_mono sz (show j + 1 ≤ k by omega)) (Nat.le_of_eq Hl.out.symm)
          have hnext:=midN_eq sz j
          have hb0:bL sz ps j = (ps.drop (midN sz j)).take (szN sz (j + 1)):=(eq_upTo (by rw [List.length_take,List.length_drop];have:=HN.out;omega) fun i hi => by rw [nth_take hi,nth_drop]).symm
          refine ⟨g9,0,d9,some ⟨gp,midN sz j,none⟩,cp - midN sz j,h91,h92,Rd.own h93,?_⟩
          have:=((Rd.own Hop.out).drop (midN sz j)).take (szN sz (j + 1))
          rwa [Nat.zero_add,nums_drop,nums_take,← hb0] at this
      have hnp:NetP wr w.heap.size w1.heap.size ps:=by unfold NetP;rw [HN.out];exact ⟨_,_,_,_,_,HN0.out,Hop.out,Hb.out.size⟩
      have hno:NetO wr w.heap.size w1.heap.size S sz ps q:=by
        unfold NetO
        rw [HN.out,Hn.out]
        exact ⟨gp,cp,Al,cl,rows,HN0.out,Hb.out.size,Hop.out,own_base Hol.out Hb.out.size,Hr1.out,Hr2.out,Hrow.out⟩
      have Hsh:=Lib.hid hsh;have Hnp:=Lib.hid hnp;have Hno:=Lib.hid hno;clear hsh hnp hno
      go_wp2_with fail
      go_ret2
      exact ⟨_,rfl,Hsh.out,Hnp.out,Hno.out,Hbw.out⟩
end Go.Proofs.YtaccfnffmbndhaaGreat
