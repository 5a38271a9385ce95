/- The walks of Net.Run, miss, Loss and Params. Matrix.Back. The matrix of all products of two columns, in plain lists. The gradient of a network, in plain lists. The reference's sums are the layers' values, in plain lists. No condition. -/
import Derived.Test.YtaccfnffmbndhaaGreatB04
import Derived.Test.YtaccfnffmbndhaaGreatB15
import Derived.Test.YtaccfnffmbndhaaGreatB14
import Derived.Test.YtaccfnffmbndhaaGreatB07
import Derived.Test.YtaccfnffmbndhaaGreatB02
set_option linter.unusedSimpArgs false
set_option linter.unusedVariables false
namespace Go.Proofs.YtaccfnffmbndhaaGreat
open Go.RowKit
def missL (a y:List Int):List Int:=upTo a.length fun i => wrap64 (nth a i - nth y i)
theorem missL_len (a y:List Int):(missL a y).length = a.length:=upTo_len _ _
theorem missL_W64 (a y:List Int):W64 (missL a y):=upTo_W64 fun _ _ => wrap64_bd _
set_option maxRecDepth 100000 in
set_option maxHeartbeats 1000000 in
theorem miss_ok (b:Nat) (sz ps:List Int) (q:Int) (A B:Option Addr) (x y:List Int) (c d:Nat) (w:World) (h:NetAt 186 280 w b sz ps q) (hg:GoodSz sz) (wp:W64 ps) (hA:Rd w A (nums .i64 x)) (hx:x.length = szN sz 0) (wx:W64 x) (hB:Rd w B (nums .i64 y)) (hy:y.length = szN sz (sz.length - 1)) :
    Calls Tryz.prog 177 #[.pointer (some ⟨b,0,none⟩),.slice A x.length c,.slice B y.length d] w fun e w' => ∃ A' c' D dc vals,e = .returned (.tuple #[.slice A' sz.length c',.slice D y.length dc,.bool true]) ∧ Rd w' A' vals ∧ VecsAt w' vals sz.length (valL sz ps q x) ∧ sz.length ≤ c' ∧
      w'.ownsRow w.heap.size 2 1 (.slice D y.length dc) y.length (nums .i64 (missL (valL sz ps q x (sz.length - 1)) y)) ∧ Below w.heap.size w w':=by
  have ht:=trace_ok b sz ps q A x c w h hg wp hA hx wx
  have hv:=valL_len (sz:=sz) (ps:=ps) (q:=q) hx (sz.length - 1)
  have hl:=hg.1.1
  have hmb:=(hg.1.at (k:=sz.length - 1) (by omega)).2.1
  have hne:((y.length:Int) != (szN sz (sz.length - 1):Int)) = false:=by simp;omega
  obtain ⟨n,hn⟩:∃ n,sz.length = n:=⟨_,rfl⟩
  obtain ⟨m,hm⟩:∃ m,y.length = m:=⟨_,rfl⟩
  rw [hn] at ht hl hv hne hy hmb ⊢
  rw [← hy,hm] at hv hne hmb
  rw [hm]
  obtain ⟨a,ha⟩:∃ a,valL sz ps q x (n - 1) = a:=⟨_,rfl⟩
  have hall:=mixed_all a (fun i => wrap64 (nth a i - nth y i))
  rw [ha] at hv ⊢
  unfold missL
  rw [← hall,hv]
  clear hall
  have Ha:=Lib.hid ha;clear ha
  have Ht:=Lib.hid ht;have Hv:=Lib.hid hv;have HB:=Lib.hid hB;have Hm:=Lib.hid hm;clear ht h hg wp hA hx wx hn hv hm hB hy
  obtain ⟨hl1,hl2⟩:=hl
  go_enter Tryz.func177,Tryz.ntmps177
  go_wp2_with fail
  refine Ht.out.mono ?_
  rintro e w1 ⟨A',c',vals,rfl,hr,hva,hc,hb⟩
  obtain ⟨Aj,cj,e1,e2,e3⟩:=hva.2 (n - 1) (by omega)
  rw [Ha.out,Hv.out] at e1 e2
  rw [Ha.out] at e3
  have hrr:=hr
  obtain ⟨bo,oo,rfl,p0⟩:=hr _ _ e1
  have hw2:(n:Int) - 1 = ((n - 1:Nat):Int):=by omega
  have hw:IntKind.i64.wrap ((n:Int) - 1) = ((n - 1:Nat):Int):=by rw [IntWalk.i64_in _ (by omega)];omega
  have hi:((n - 1:Nat):Int) < n:=by omega
  have hi2:n - 1 < n:=by omega
  have hal:=Hv.out
  have hcl:=vclone_any Aj a cj w1 e3 (by omega)
  rw [hal] at hcl
  have Hcl:=Lib.hid hcl;have Hal:=Lib.hid hal;have Hb:=Lib.hid hb;have Hva:=Lib.hid hva;have Hrr:=Lib.hid hrr;have Hc:=Lib.hid hc;clear hr hrr hva e1 e2 e3 hb hcl hal hc
  rw [hw2] at hw
  go_wp2_with fail
  refine Hcl.out.mono ?_
  rintro e w2 ⟨D,dc,rfl,hdc,ho2,hb2⟩
  have hW2:=Hb.out.trans (hb2.mono Hb.out.size)
  have hbz:=Hb.out.size
  have Ho2c:=Lib.hid ho2
  have ho2:=own_base ho2 hbz
  have HW2:=Lib.hid hW2;have Ho2:=Lib.hid ho2;have Hb2:=Lib.hid hb2;clear hW2 ho2 hb2 p0 hw hw2 hi hi2 hne
  go_wp2_with fail
  go_loopw [42] (fun i wr => ∃ k:Nat,k ≤ m ∧ i = .int .i64 k ∧ wr.ownsRow w.heap.size 2 1 (.slice D m dc) m (nums .i64 (mixed a k (fun i => wrap64 (nth a i - nth y i)))) ∧ Keep (fun i => (Value.slice D m dc).ownBlock = some i) w2 wr) (fun i _ => m - (intOf i).toNat)
  case atStart => exact ⟨0,Nat.zero_le _,rfl,by rw [mixed_zero];exact Ho2.out,Keep.refl _ _⟩
  case round =>
    obtain ⟨k,hk,rfl,hown,hK⟩:=hrel
    by_cases hlt:k < m
    · obtain ⟨g7,d7,hv7,hg7,_⟩:=hown.form (by omega)
      simp only [Value.slice.injEq] at hv7
      obtain ⟨rfl,hx7,rfl⟩:=hv7
      clear hx7
      have hjz:k < a.length:=by rw [Hal.out];exact hlt
      have p1:=own_num hown hlt
      rw [mixed_nth _ hjz,if_neg (by omega)] at p1
      have f1:=hown.frozenAt k
      have hst:=mixed_set (l:=a) (k:=k) (fun i => wrap64 (nth a i - nth y i)) hjz
      obtain ⟨by0,oy,rfl,py⟩:=HB.out.num (show k < y.length by rw [Hm.out];exact hlt)
      have hby:by0 < w.heap.size:=lt_of_cell py
      have hne:g7 ≠ by0:=by omega
      have hbw:Below w.heap.size w wr:=HW2.out.trans (hK.toBelow HW2.out.size (fun i hi => (Ho2.out.lt i hi).1))
      have pyr:=(hbw.cell (p:=⟨by0,oy + k,none⟩) hby).trans py
      have HO:=Lib.hid hown;have HK:=Lib.hid hK;have Hst:=Lib.hid hst;clear hown hK hst hjz hbw py
      go_wp2_with fail
      have hki:(k:Int) < m:=by omega
      have hSw:(fun w':World => w'.cell? ⟨g7,k,none⟩ = some (.int .i64 (nth a k)) ∧ w'.cell? ⟨by0,oy + k,none⟩ = some (.int .i64 (nth y k))) wr.drew:=⟨p1,pyr⟩
      refine XA.g 11 (fun w':World => w'.cell? ⟨g7,k,none⟩ = some (.int .i64 (nth a k)) ∧ w'.cell? ⟨by0,oy + k,none⟩ = some (.int .i64 (nth y k))) ?_
      refine XA.t ?_ [0,1,2,3,4,5,6,7,8,9] hSw ?_
      refine XA.o 10 (fun K hK => ?_)
      go_simp
      refine (sub_any _ _ _).mono ?_
      rintro e w9 ⟨rfl,rfl⟩
      dsimp only
      refine hK.out _ _ hSw (fun hSw => ?_)
      clear hK K hSw
      refine XA.e ?_
      simp only [List.drop_succ_cons,List.drop_zero]
      go_wp2_with fail
      go_roundw
      case rel =>
        refine ⟨k + 1,by omega,by go_num,?_,?_⟩
        · rw [← Hst.out];exact own_put (own_drewN HO.out 1) k _
        · exact Keep.setCell (HK.out.drewN 1) ⟨g7,k,none⟩ (.inr rfl) _
      case measure => simp [intOf];omega
    · obtain rfl:k = m:=by omega
      have hb2r:Below w1.heap.size w1 wr:=Hb2.out.trans (hK.toBelow Hb2.out.size (fun i hi => (Ho2c.out.lt i hi).1))
      have HO:=Lib.hid hown;have HB2:=Lib.hid hb2r;clear hown hb2r hK
      go_wp2_with fail
      go_ret3
      exact ⟨_,_,_,_,vals,rfl,Hrr.out.below HB2.out,Hva.out.below HB2.out,Hc.out,HO.out,Hb.out.trans (HB2.out.mono Hb.out.size)⟩
end Go.Proofs.YtaccfnffmbndhaaGreat
namespace Go.Proofs.YtaccfnffmbndhaaGreat
open Go.RowKit Go.Shelf
attribute [local go_sem] Oper.semAt_some
theorem own_cells {W:World} {base:Nat} {e:TypeId} {size n c G:Nat} {xs:List Value} {o:Obj} (h:W.ownsRow base e size (.slice (some ⟨G,0,none⟩) n c) n xs) (ho:W.heap[G]? = some o):o.isCells = true:=by
  rcases h.2 with ⟨h0,_⟩ | ⟨g,cap,cur,hv,_,hgb,_⟩
  · cases h0
  · simp only [Value.slice.injEq,Option.some.injEq,Addr.mk.injEq] at hv
    rw [← hv.1.1,ho] at hgb
    cases hgb;rfl
def backF (ms:List Int) (c:Nat) (ys:List Int) (q:Int) (acc:List Int) (k:Nat):List Int:=addL acc (scaleL (mrow ms c k) (nth ys k) q)
def backL (ms:List Int) (r c:Nat) (ys:List Int) (q:Int):List Int:=(List.range r).foldl (backF ms c ys q) (List.replicate c 0)
theorem backF_len (ms:List Int) (c:Nat) (ys:List Int) (q:Int) (acc:List Int) (k:Nat):(backF ms c ys q acc k).length = acc.length:=upTo_len _ _
theorem back_fin (ms:List Int) (r c:Nat) (ys:List Int) (q:Int):((List.finRange r).foldl (fun acc k => backF ms c ys q acc k.1) (List.replicate c 0)) = backL ms r c ys q:=by
  unfold backL
  have h:List.range r = (List.finRange r).map (·.1):=List.ext_getElem (by simp) (by simp)
  rw [h,List.foldl_map]
theorem mscale_any (r c k:Nat) (g o:Nat) (ms:List Int) (y q:Int) (W:World) (hk:k < r) (hc:1 ≤ c ∧ c ≤ 1048576) (hms:ms.length = r * c)
    (hA:Rd W (some ⟨g,o,none⟩) (nums .i64 ms)) (wm:W64 ms) (hy:-9223372036854775808 ≤ y ∧ y ≤ 9223372036854775807) :
    Calls Tryz.prog 201 #[.slice (some ⟨g,o + k * c,none⟩) c c,.int .i64 y,.int .i64 q] W fun e w' => ∃ A' c',e = .returned (.slice A' c c') ∧ w'.ownsRow W.heap.size 2 1 (.slice A' c c') c (nums .i64 (scaleL (mrow ms c k) y q)) ∧ Below W.heap.size W w':=by
  have:=scale_any (some ⟨g,o + k * c,none⟩) (mrow ms c k) c y q W (mrow_rd hA hk hms) (by rw [mrow_len];omega) (mrow_W64 wm hk hms) hy
  rwa [mrow_len] at this
def BackI (r c:Nat) (g o nn d:Nat) (ms:List Int) (B:Option Addr) (ys:List Int) (e:Nat) (q:Int) (w:World) (G N M:Nat) (pre:List (Fin r)) (W:World):Prop:=
  (W.ownsRow w.heap.size 2 1 (.slice (some ⟨G,0,none⟩) c c) c (nums .i64 (pre.foldl (fun acc k => backF ms c ys q acc k.1) (List.replicate c 0))) ∧ Boxed W N 64 (.slice (some ⟨G,0,none⟩) c c) ∧ Boxed W (w.heap.size + 1) 64 (.slice B r e) ∧ Boxed W (w.heap.size + 1 + 1) 3 (.int .i64 q) ∧ W.heap[M]? = some (.cells #[.int .i64 r,.int .i64 c,.slice (some ⟨g,o,none⟩) nn d] 282 (0,0))) ∧ Below w.heap.size w W
theorem backI_own (r c:Nat) (g o nn d:Nat) (ms:List Int) (B:Option Addr) (ys:List Int) (e:Nat) (q:Int) (w:World) (G N M K:Nat) (hK:w.heap.size ≤ K):OwnFrom K (BackI r c g o nn d ms B ys e q w G N M):=by
  intro s W W' row hs hg hr
  obtain ⟨⟨h1,h2,h3,h4,h5⟩,h6⟩:=hs
  have k6:=ownFrom_below (β:=Unit) (Nat.le_refl _) hK () W W' row h6 hg hr
  exact ⟨⟨own_turn h1 hg hr,block_turn rfl h2 hg hr,block_turn rfl h3 hg hr,block_turn rfl h4 hg hr,block_turn rfl h5 hg hr⟩,k6⟩
set_option maxRecDepth 100000 in
set_option maxHeartbeats 2000000 in
theorem mback_any (r c:Nat) (g o nn d:Nat) (ms:List Int) (B:Option Addr) (ys:List Int) (e:Nat) (q:Int) (w:World) (hr:1 ≤ r ∧ r ≤ 1048576) (hc:1 ≤ c ∧ c ≤ 1048576) (hnn:nn = r * c) (hd:nn ≤ d) (hm:nn ≤ 17592186043904)
    (hms:ms.length = nn) (hA:Rd w (some ⟨g,o,none⟩) (nums .i64 ms)) (wm:W64 ms) (hB:Rd w B (nums .i64 ys)) (hyl:ys.length = r) (wy:W64 ys) :
    Calls Tryz.prog 179 #[.agg #[.int .i64 r,.int .i64 c,.slice (some ⟨g,o,none⟩) nn d],.slice B r e,.int .i64 q] w fun e w' => ∃ A' c',e = .returned (.tuple #[.slice A' c c',.bool true]) ∧ w'.ownsRow w.heap.size 2 1 (.slice A' c c') c (nums .i64 (backL ms r c ys q)) ∧ Below w.heap.size w w':=by
  have hrt:=fun w' => right_any r c (some ⟨g,o,none⟩) nn d w' hr hc hnn hm
  have hrw:=fun cs w' => rows_any cs w'
  have hmk:(8:Nat) * c ≤ 281474976710656:=by omega
  have Hmk:=Lib.hid hmk;clear hmk
  have Hrt:=Lib.hid hrt;have Hrw:=Lib.hid hrw;have Hnn:=Lib.hid hnn;have Hms:=Lib.hid hms;have Hyl:=Lib.hid hyl;have HA:=Lib.hid hA;have HB:=Lib.hid hB;have WM:=Lib.hid wm;have WY:=Lib.hid wy;clear hrt hrw hnn hms hyl hA hB wm wy
  refine (callsIn_wide (n:=3)).1 ?_
  refine callsIn_of_wp_marks Tryz.func179 rfl trivial ?_ rfl
  simp only [Tryz.ntmps179,List.size_toArray,List.length_cons,List.length_nil,Nat.reduceAdd,Nat.reduceSub,Array.replicate_succ,Array.replicate_zero,List.push_toArray,List.append_toArray,List.nil_append,List.cons_append]
  gi_wp2_with fail
  refine ⟨trivial,?_⟩
  refine (callsIn_wide.2 (Hrt.out _)).mono ?_
  rintro e w1 ⟨rfl,rfl⟩
  gi_wp2_with (gi_at_make;refine wpListIn_mk et_vec _ rfl (.tmp 22) (.tmp 22) rfl rfl c rfl rfl Hmk.out (by unfold maxLen;omega) ?_)
  intro w2 hown2 hb2
  rw [nums_rep] at hown2
  have hb02:Below w.heap.size w w2:=Below.trans (((((Below.refl _ w).alloc (Nat.le_refl _) _).alloc (by simp) _).alloc (by simp;omega) _).alloc (by simp;omega) _) (hb2.mono (by omega))
  have h3:w2.heap[w.heap.size]? = some (.cells #[.int .i64 r,.int .i64 c,.slice (some ⟨g,o,none⟩) nn d] 282 (0,0)):=by
    refine (hb2.block w.heap.size (by omega)).trans ?_
    refine (Below.heap_alloc _ _ _ (by first | (simp;done) | (simp;omega))).trans ((Below.heap_alloc _ _ _ (by first | (simp;done) | (simp;omega))).trans ((Below.heap_alloc _ _ _ (by simp)).trans (heap_alloc_new w _)))
  have h4:Boxed w2 (w.heap.size + 1) 64 (.slice B r e):=by
    refine (hb2.block (w.heap.size + 1) (by omega)).trans ?_
    refine (Below.heap_alloc _ _ _ (by first | (simp;done) | (simp;omega))).trans ((Below.heap_alloc _ _ _ (by simp)).trans ?_)
    have:=heap_alloc_new (w.alloc (.cells #[.int .i64 r,.int .i64 c,.slice (some ⟨g,o,none⟩) nn d] 282)) (.cells #[.slice B r e] 64)
    simpa using this
  have h5:Boxed w2 (w.heap.size + 1 + 1) 3 (.int .i64 q):=by
    refine (hb2.block (w.heap.size + 1 + 1) (by omega)).trans ?_
    refine (Below.heap_alloc _ _ _ (by simp)).trans ?_
    have:=heap_alloc_new ((w.alloc (.cells #[.int .i64 r,.int .i64 c,.slice (some ⟨g,o,none⟩) nn d] 282)).alloc (.cells #[.slice B r e] 64)) (.cells #[.int .i64 q] 3)
    simpa using this
  obtain ⟨G,hG⟩:∃ G,w.heap.size + 1 + 1 + 1 + 1 = G:=⟨_,rfl⟩
  rw [hG] at hown2 hb2 ⊢
  have Hown2:=Lib.hid hown2;have Hb02:=Lib.hid hb02;have HG:=Lib.hid hG;have H3:=Lib.hid h3;have H4:=Lib.hid h4;have H5:=Lib.hid h5
  obtain ⟨⟨m0,m1,m2⟩,mf⟩:=bx3 h3
  have hs2:w.heap.size < w2.heap.size:=lt_of_block h3
  clear hown2 hb2 hb02 hG h3 h4 h5
  gi_wp2_with fail
  refine ⟨trivial,?_⟩
  refine (callsIn_wide.2 (Hrw.out _ _)).mono ?_
  rintro e w1 ⟨rfl,rfl⟩
  gi_wp2_with fail
  obtain ⟨W0,hW0⟩:∃ W0,W0 = w2.alloc (.cells #[.slice (some ⟨G,0,none⟩) c c] 64):=⟨_,rfl⟩
  rw [← hW0]
  have hs0:W0.heap.size = w2.heap.size + 1:=by rw [hW0];simp
  have bO:Boxed W0 w2.heap.size 64 (.slice (some ⟨G,0,none⟩) c c):=by rw [hW0];exact Boxed.new w2 _ _
  have b4:Boxed W0 (w.heap.size + 1) 64 (.slice B r e):=by rw [hW0];exact H4.out.alloc _
  have b5:Boxed W0 (w.heap.size + 1 + 1) 3 (.int .i64 q):=by rw [hW0];exact H5.out.alloc _
  have r0:W0.ownsRow w.heap.size 2 1 (.slice (some ⟨G,0,none⟩) c c) c (nums .i64 (List.replicate c 0)):=by rw [hW0];exact own_base (Hown2.out.alloc _) (by have:=HG.out;omega)
  have hbel0:Below w.heap.size w W0:=by rw [hW0];exact Hb02.out.alloc (by omega) _
  have bM:(W0.alloc (.cells #[.int .i64 r,.int .i64 c,.slice (some ⟨g,o,none⟩) nn d] 282)).heap[W0.heap.size]? = some (.cells #[.int .i64 r,.int .i64 c,.slice (some ⟨g,o,none⟩) nn d] 282 (0,0)):=heap_alloc_new W0 _
  obtain ⟨N,hN⟩:∃ N,N = w2.heap.size:=⟨_,rfl⟩
  rw [← hN] at bO hs0 ⊢
  rw [← hs0]
  have HS0:=Lib.hid hs0;have HBl0:=Lib.hid hbel0;have HbM:=Lib.hid bM;have HbO:=Lib.hid bO;have Hb4:=Lib.hid b4;have Hb5:=Lib.hid b5;have Hr0:=Lib.hid r0;have HN:=Lib.hid hN;have HW0:=Lib.hid hW0
  clear hs0 hbel0 bM bO b4 b5 r0 hN hW0 m0 m1 m2 mf hs2
  have hI0:BackI r c g o nn d ms B ys e q w G N W0.heap.size [] (W0.alloc (.cells #[.int .i64 r,.int .i64 c,.slice (some ⟨g,o,none⟩) nn d] 282)):=⟨⟨Hr0.out.alloc _,HbO.out.alloc _,Hb4.out.alloc _,Hb5.out.alloc _,HbM.out⟩,HBl0.out.alloc (by have:=HBl0.out.size;omega) _⟩
  refine' wpIn_rangeFunc_ownG (F:=Fence.wide) (n:=3) rfl (by omega) (gf:=217) (lb:=#[.pointer (some ⟨W0.heap.size,0,none⟩)]) rfl trivial (enters_of Tryz.func217 (by kernel_rfl) rfl)
    (rows_stops _ W0.heap.size w.heap.size g o r c nn d hr.2 hc Hnn.out hd _ HbM.out) rowsKeep_t (rowsKeep_b (by have:=HBl0.out.size;simp;omega) (by simp)) (Below.refl _ _) (fun _ => rfl)
    (BackI r c g o nn d ms B ys e q w G N W0.heap.size)
    (fun _ _ _ => False)
    (backI_own r c g o nn d ms B ys e q w G N W0.heap.size _ (by have:=HBl0.out.size;simp;omega))
    (fun _ _ _ _ _ hs _ _ => hs)
    hI0
    _ ?assign ?body ?done ?stop
  case assign =>
    intro l x W K hK
    unfold rowEnc
    gi_wp2
    exact hK
  case body =>
    rintro l pre x W ⟨⟨hrow,hxO,hx4,hx5,hxM⟩,hBl⟩ hlt
    have hc4:=hx4.cell
    have hc5:=hx5.cell
    have hcO:=hxO.cell
    have Hrow:=Lib.hid hrow;have HO:=Lib.hid hxO;have HM:=Lib.hid hxM;have HBl:=Lib.hid hBl;have H4:=Lib.hid hx4;have H5:=Lib.hid hx5;have Hlt:=Lib.hid hlt;clear hrow hxM hBl hx4 hx5 hlt hxO
    have hGG:G < W.heap.size:=by
      obtain ⟨g6,d6,hv6,_,hg6⟩:=Hrow.out.form (by omega:0 < c)
      simp only [Value.slice.injEq,Option.some.injEq,Addr.mk.injEq] at hv6
      rw [hv6.1.1];exact hg6
    gi_wp2_with fail
    have hy1:x.1 < ys.length:=by rw [Hyl.out];exact x.2
    have hsc:=fun W' (k:Below W.heap.size W W') => mscale_any r c x.1 g o ms (nth ys x.1) q W' x.2 hc (Hms.out.trans Hnn.out) ((HA.out.below HBl.out).below k) WM.out (WY.out _ hy1)
    have hxr:(x.1:Int) < r:=by have:=x.2;omega
    obtain ⟨b2,o2,hBa,p2⟩:=(HB.out.below HBl.out).num hy1
    subst hBa
    have hGl:G < N:=by
      obtain ⟨g6,d6,hv6,_,hg6⟩:=Hown2.out.form (by omega:0 < c)
      simp only [Value.slice.injEq,Option.some.injEq,Addr.mk.injEq] at hv6
      have:=HN.out
      have h7:G < w2.heap.size:=by rw [hv6.1.1];exact hg6
      omega
    have hGN:¬ G = N:=by omega
    have hG1:¬ G = w.heap.size + 1:=by have:=HG.out;omega
    have hG2:¬ G = w.heap.size + 1 + 1:=by have:=HG.out;omega
    have hGb:¬ G = b2:=by
      obtain ⟨b3,o3,e3,p3⟩:=HB.out.num hy1
      have hb3:b3 < w.heap.size:=lt_of_cell p3
      simp only [Option.some.injEq,Addr.mk.injEq] at e3
      have:=HG.out
      omega
    have Hsc:=Lib.hid hsc;clear hsc hy1
    refine region_inRound (fun w' => w'.cell? ⟨N,0,none⟩ = some (.slice (some ⟨G,0,none⟩) c c) ∧ w'.cell? ⟨w.heap.size + 1,0,none⟩ = some (.slice (some ⟨b2,o2,none⟩) r e) ∧ w'.cell? ⟨w.heap.size + 1 + 1,0,none⟩ = some (.int .i64 q) ∧ w'.cell? ⟨b2,o2 + x.1,none⟩ = some (.int .i64 (nth ys x.1))) (by kernel_rfl) (by kernel_rfl) (by rintro ⟨_,_,h⟩;exact h) ?_
    have hSw:(fun w':World => w'.cell? ⟨N,0,none⟩ = some (.slice (some ⟨G,0,none⟩) c c) ∧ w'.cell? ⟨w.heap.size + 1,0,none⟩ = some (.slice (some ⟨b2,o2,none⟩) r e) ∧ w'.cell? ⟨w.heap.size + 1 + 1,0,none⟩ = some (.int .i64 q) ∧ w'.cell? ⟨b2,o2 + x.1,none⟩ = some (.int .i64 (nth ys x.1))) W.drew:=⟨hcO,hc4,hc5,p2⟩
    clear hcO hc4 hc5 p2
    refine wpAnyH_take (i:=0) (v:=?_) rfl (by kernel_rfl) (by kernel_rfl) (by kernel_rfl) (fun _ _ _ h => h) (Or.inl ⟨by rfl,?_⟩) hSw ?_
    rotate_left
    · intro w9 hS9;(try dsimp only at hS9);obtain ⟨s1,s2,s3,s4⟩:=hS9;go_simp;(try with_reducible rfl)
    simp only [List.getElem_toArray,List.getElem_cons_succ,List.getElem_cons_zero,Act.put,List.setIfInBounds_toArray,List.set_cons_zero,List.set_cons_succ]
    refine wpAnyH_take (i:=1) (v:=?_) rfl (by kernel_rfl) (by kernel_rfl) (by kernel_rfl) (fun _ _ _ h => h) (Or.inl ⟨by rfl,?_⟩) hSw ?_
    rotate_left
    · intro w9 hS9;(try dsimp only at hS9);obtain ⟨s1,s2,s3,s4⟩:=hS9;go_simp;(try with_reducible rfl)
    simp only [List.getElem_toArray,List.getElem_cons_succ,List.getElem_cons_zero,Act.put,List.setIfInBounds_toArray,List.set_cons_zero,List.set_cons_succ]
    refine wpAnyH_take (i:=2) (v:=?_) rfl (by kernel_rfl) (by kernel_rfl) (by kernel_rfl) (fun _ _ _ h => h) (Or.inl ⟨by rfl,?_⟩) hSw ?_
    rotate_left
    · intro w9 hS9;(try dsimp only at hS9);obtain ⟨s1,s2,s3,s4⟩:=hS9;go_simp;(try with_reducible rfl)
    simp only [List.getElem_toArray,List.getElem_cons_succ,List.getElem_cons_zero,Act.put,List.setIfInBounds_toArray,List.set_cons_zero,List.set_cons_succ]
    refine wpAnyH_take (i:=3) (v:=?_) rfl (by kernel_rfl) (by kernel_rfl) (by kernel_rfl) (fun _ _ _ h => h) (Or.inl ⟨by rfl,?_⟩) hSw ?_
    rotate_left
    · intro w9 hS9;(try dsimp only at hS9);obtain ⟨s1,s2,s3,s4⟩:=hS9;go_simp;(try with_reducible rfl)
    simp only [List.getElem_toArray,List.getElem_cons_succ,List.getElem_cons_zero,Act.put,List.setIfInBounds_toArray,List.set_cons_zero,List.set_cons_succ]
    refine wpAnyH_take (i:=4) (v:=?_) rfl (by kernel_rfl) (by kernel_rfl) (by kernel_rfl) (fun _ _ _ h => h) (Or.inl ⟨by rfl,?_⟩) hSw ?_
    rotate_left
    · intro w9 hS9;(try dsimp only at hS9);obtain ⟨s1,s2,s3,s4⟩:=hS9;go_simp;(try with_reducible rfl)
    simp only [List.getElem_toArray,List.getElem_cons_succ,List.getElem_cons_zero,Act.put,List.setIfInBounds_toArray,List.set_cons_zero,List.set_cons_succ]
    refine wpAnyH_take (i:=5) (v:=?_) rfl (by kernel_rfl) (by kernel_rfl) (by kernel_rfl) (fun _ _ _ h => h) (Or.inl ⟨by rfl,?_⟩) hSw ?_
    rotate_left
    · intro w9 hS9;(try dsimp only at hS9);obtain ⟨s1,s2,s3,s4⟩:=hS9;go_simp;(try with_reducible rfl)
    simp only [List.getElem_toArray,List.getElem_cons_succ,List.getElem_cons_zero,Act.put,List.setIfInBounds_toArray,List.set_cons_zero,List.set_cons_succ]
    refine wpAnyH_take (i:=6) (v:=?_) rfl (by kernel_rfl) (by kernel_rfl) (by kernel_rfl) (fun _ _ _ h => h) (Or.inl ⟨by rfl,?_⟩) hSw ?_
    rotate_left
    · intro w9 hS9;(try dsimp only at hS9);obtain ⟨s1,s2,s3,s4⟩:=hS9;go_simp;(try with_reducible rfl)
    simp only [List.getElem_toArray,List.getElem_cons_succ,List.getElem_cons_zero,Act.put,List.setIfInBounds_toArray,List.set_cons_zero,List.set_cons_succ]
    refine wpAnyH_ready (rs:=[7]) (by kernel_rfl) (by simp) ?_
    refine AllReadyH.cons rfl (fun K hK => ?_) AllReadyH.nil
    simp only [List.getElem_toArray,List.getElem_cons_succ,List.getElem_cons_zero]
    go_simp
    refine (Hsc.out _ ?_).mono ?_
    · exact (Below.refl _ W).drew
    rintro e w3 ⟨A',c',rfl,hown3,hb3⟩
    dsimp only
    refine hK.out _ _ ?_ (fun hS9 => ?_)
    · exact ⟨cell_below hb3 hSw.1,cell_below hb3 hSw.2.1,cell_below hb3 hSw.2.2.1,cell_below hb3 hSw.2.2.2⟩
    clear hK K
    have hr3:=own_below (w:=W.drew) Hrow.out hb3
    have hlt3:∀ a b,(some ⟨G,0,none⟩:Option Addr) = some a → A' = some b → a.block ≠ b.block:=fun a b ha hb => by
      cases ha;subst hb
      have h1:=(hown3.form (by omega:0 < c))
      obtain ⟨g5,d5,hv5,hg5,_⟩:=h1
      simp only [Value.slice.injEq,Option.some.injEq] at hv5
      rw [hv5.1]
      have h2:=Hrow.out.form (by omega:0 < c)
      obtain ⟨g6,d6,hv6,_,hg6⟩:=h2
      simp only [Value.slice.injEq,Option.some.injEq,Addr.mk.injEq] at hv6
      have h7:G < W.heap.size:=by rw [hv6.1.1];exact hg6
      show G ≠ g5
      have h8:W.heap.size ≤ g5:=hg5
      omega
    have hadd:=add_any w.heap.size (some ⟨G,0,none⟩) A' _ _ c c c' w3 hr3 (Rd.own hown3) (by unfold scaleL;rw [upTo_len,mrow_len]) (by omega) hlt3
    refine wpAnyH_ready (rs:=[8]) (by kernel_rfl) (by simp) ?_
    refine AllReadyH.cons rfl (fun K hK => ?_) AllReadyH.nil
    simp only [List.getElem_toArray,List.getElem_cons_succ,List.getElem_cons_zero,Act.put,List.setIfInBounds_toArray,List.set_cons_zero,List.set_cons_succ]
    have Hadd:=Lib.hid hadd;have Hr3:=Lib.hid hr3;have Hown3:=Lib.hid hown3;have Hb3:=Lib.hid hb3;clear hadd hr3 hown3 hb3 hlt3
    go_simp
    refine Hadd.out.mono ?_
    rintro e w4 ⟨rfl,hown4,hk4⟩
    dsimp only
    refine hK.out _ _ ?_ (fun hS8 => ?_)
    · exact ⟨hk4.cell hS9.1 (by simp [Value.ownBlock];exact hGN),hk4.cell hS9.2.1 (by simp [Value.ownBlock];exact hG1),hk4.cell hS9.2.2.1 (by simp [Value.ownBlock];exact hG2),hk4.cell hS9.2.2.2 (by simp [Value.ownBlock];exact hGb)⟩
    refine wpAnyH_done (by kernel_rfl) ?_ _
    have hKW:Keep (fun i => (Value.slice (some ⟨G,0,none⟩) c c).ownBlock = some i) W w4:=((Keep.refl _ W).drew.trans (Keep.below Hb3.out)).trans hk4
    have hGw:w.heap.size ≤ G:=by have:=HG.out;omega
    have hbW:Below w.heap.size W w4:=hKW.toBelow HBl.out.size (fun k hk => by simp [Value.ownBlock] at hk;omega)
    have hGM:¬ G = W0.heap.size:=by have:=HS0.out;omega
    have hM4:=(hKW.block _ (lt_of_block HM.out) (by simp [Value.ownBlock];exact hGM)).trans HM.out
    refine ⟨(others_keep hKW fun k o hk ho => ?_).from _,⟨hbW,fun _ => hM4.trans HM.out.symm⟩,⟨⟨?_,?_,?_,?_,hM4⟩,HBl.out.trans hbW⟩⟩
    · simp only [Value.ownBlock,Option.some.injEq] at hk
      subst hk
      exact own_cells Hrow.out ho
    · rw [List.foldl_append];exact hown4
    · exact (hKW.block _ (lt_of_block HO.out) (by simp [Value.ownBlock];exact hGN)).trans HO.out
    · exact (hKW.block _ (lt_of_block H4.out) (by simp [Value.ownBlock];exact hG1)).trans H4.out
    · exact (hKW.block _ (lt_of_block H5.out) (by simp [Value.ownBlock];exact hG2)).trans H5.out
  case done =>
    rintro D zs W hD rfl ⟨⟨hrow,hxO,hx4,hx5,hxM⟩,hBl⟩ hK
    have hc:=hxO.cell
    gi_wp2
    refine ⟨by simp,.inl ⟨_,_,rfl,run_takeDeferred hK,?_⟩⟩
    rw [back_fin] at hrow
    refine ⟨.tuple #[.slice (some ⟨G,0,none⟩) c c,.bool true],by simp [results,Tryz.results179,go_sem],_,_,rfl,ownsRow_putObj hrow _ hK rfl,hBl.trans (belowK_b (w:=w) (Nat.le_refl _) W D _ _ (by have:=HBl0.out.size;simp at hD;omega) hK rfl rfl)⟩
  case stop =>
    rintro D c pre W _ _ h _
    exact h.elim
end Go.Proofs.YtaccfnffmbndhaaGreat
namespace Go.Proofs.YtaccfnffmbndhaaGreat
open Go.RowKit
def outV (c:Nat) (ys xs:List Int) (q:Int) (i:Nat):Int:=mulQ (nth ys (i / c)) (nth xs (i % c)) q
def outerL (r c:Nat) (ys xs:List Int) (q:Int):List Int:=upTo (r * c) (outV c ys xs q)
def outS (r c:Nat) (ys xs:List Int) (q:Int) (pre:List Nat) (x j:Nat):List Int:=upTo (r * c) fun i => if i / c ∈ pre ∨ (i / c = x ∧ i % c < j) then outV c ys xs q i else 0
theorem outS_len (r c:Nat) (ys xs:List Int) (q:Int) (pre:List Nat) (x j:Nat):(outS r c ys xs q pre x j).length = r * c:=upTo_len _ _
theorem outS_zero (r c:Nat) (ys xs:List Int) (q:Int) (x:Nat):List.replicate (r * c) 0 = outS r c ys xs q [] x 0:=
  eq_upTo (by simp) fun k hk => by
    rw [nth_eq _ _ (by simpa using hk)]
    simp
theorem outS_set {r c:Nat} {ys xs:List Int} {q:Int} {pre:List Nat} {x j:Nat} (hx:x < r) (hj:j < c):(outS r c ys xs q pre x j).set (x * c + j) (mulQ (nth ys x) (nth xs j) q) = outS r c ys xs q pre x (j + 1):=by
  have hroom:x * c + j < r * c:=by
    have:=Nat.mul_le_mul_right c (show x + 1 ≤ r by omega)
    rw [Nat.succ_mul] at this
    omega
  have hd:(x * c + j) / c = x:=by rw [Nat.add_comm,Nat.add_mul_div_right _ _ (by omega),Nat.div_eq_of_lt hj,Nat.zero_add]
  have hmd:(x * c + j) % c = j:=by rw [Nat.add_comm,Nat.add_mul_mod_self_right,Nat.mod_eq_of_lt hj]
  refine ext_nth (by rw [List.length_set,outS_len,outS_len]) fun i hi => ?_
  rw [List.length_set,outS_len] at hi
  rw [nth_set,outS_len]
  unfold outS
  rw [upTo_nth _ hi,upTo_nth _ hi]
  by_cases h:i = x * c + j
  · subst h
    rw [if_pos ⟨rfl,hroom⟩,if_pos (.inr ⟨hd,by omega⟩)]
    unfold outV
    rw [hd,hmd]
  · rw [if_neg (fun hh => h hh.1)]
    have hne:¬ (i / c = x ∧ i % c = j):=fun hh => h (by rw [← hh.1,← hh.2,Nat.mul_comm];exact (Nat.div_add_mod i c).symm)
    by_cases h1:i / c ∈ pre ∨ (i / c = x ∧ i % c < j)
    · rw [if_pos h1,if_pos (h1.imp id fun hh => ⟨hh.1,by omega⟩)]
    · rw [if_neg h1,if_neg]
      rintro (h2 | ⟨h2,h3⟩)
      · exact h1 (.inl h2)
      · exact h1 (.inr ⟨h2,by
          rcases Nat.lt_or_ge (i % c) j with h4 | h4
          · exact h4
          · exact absurd ⟨h2,by omega⟩ hne⟩)
theorem outS_all {r c:Nat} {ys xs:List Int} {q:Int} {pre:List Nat} {x:Nat} (hc:1 ≤ c) (y:Nat):outS r c ys xs q pre x c = outS r c ys xs q (pre ++ [x]) y 0:=by
  unfold outS
  refine upTo_congr fun i hi => ?_
  have hm:i % c < c:=Nat.mod_lt _ (by omega)
  by_cases h1:i / c ∈ pre ∨ (i / c = x ∧ i % c < c)
  · rw [if_pos h1,if_pos]
    rcases h1 with h | ⟨h,_⟩
    · exact .inl (List.mem_append.2 (.inl h))
    · exact .inl (List.mem_append.2 (.inr (by simp [h])))
  · rw [if_neg h1,if_neg]
    rintro (h2 | ⟨_,h3⟩)
    · rcases List.mem_append.1 h2 with h | h
      · exact h1 (.inl h)
      · exact h1 (.inr ⟨by simpa using h,hm⟩)
    · omega
theorem outS_start {r c:Nat} {ys xs:List Int} {q:Int} {pre:List Nat} (x y:Nat):outS r c ys xs q pre x 0 = outS r c ys xs q pre y 0:=by
  unfold outS
  exact upTo_congr fun i hi => by simp
theorem outS_done {r c:Nat} {ys xs:List Int} {q:Int} (hc:1 ≤ c) (y:Nat):outS r c ys xs q (List.range r) y 0 = outerL r c ys xs q:=by
  unfold outS outerL
  refine upTo_congr fun i hi => ?_
  rw [if_pos]
  refine .inl (List.mem_range.2 ?_)
  exact (Nat.div_lt_iff_lt_mul (by omega)).2 hi
end Go.Proofs.YtaccfnffmbndhaaGreat
namespace Go.Proofs.YtaccfnffmbndhaaGreat
open Go.RowKit
def gateL (v d:List Int):List Int:=upTo d.length fun i => if 0 < nth v i then nth d i else 0
theorem gateL_len (v d:List Int):(gateL v d).length = d.length:=upTo_len _ _
theorem gateL_W64 {v d:List Int} (h:W64 d):W64 (gateL v d):=upTo_W64 fun k hk => by
  split
  · exact h k hk
  · omega
theorem backL_len (ms:List Int) (r c:Nat) (ys:List Int) (q:Int):(backL ms r c ys q).length = c:=by
  unfold backL
  have:∀ (l:List Nat) (acc:List Int),acc.length = c → (l.foldl (backF ms c ys q) acc).length = c:=by
    intro l
    induction l with
    | nil => intro acc h;exact h
    | cons a l ih => intro acc h;exact ih _ (by rw [backF_len];exact h)
  exact this _ _ (by simp)
theorem backL_W64 (ms:List Int) (r c:Nat) (ys:List Int) (q:Int):W64 (backL ms r c ys q):=by
  unfold backL
  have:∀ (l:List Nat) (acc:List Int),W64 acc → W64 (l.foldl (backF ms c ys q) acc):=by
    intro l
    induction l with
    | nil => intro acc h;exact h
    | cons a l ih => intro acc h;exact ih _ (addL_W64 _ _)
  exact this _ _ (fun k hk => by rw [nth_eq _ _ hk];simp)
def errD (sz ps:List Int) (q:Int) (x y:List Int):Nat → List Int
  | 0 => missL (valL sz ps q x (sz.length - 1)) y
  | j + 1 => gateL (valL sz ps q x (sz.length - 2 - j)) (backL (wL sz ps (sz.length - 2 - j)) (szN sz (sz.length - 1 - j)) (szN sz (sz.length - 2 - j)) (errD sz ps q x y j) q)
def gradT (sz ps:List Int) (q:Int) (x y:List Int):Nat → List Int
  | 0 => []
  | j + 1 => outerL (szN sz (sz.length - 1 - j)) (szN sz (sz.length - 2 - j)) (errD sz ps q x y j) (valL sz ps q x (sz.length - 2 - j)) q ++ (errD sz ps q x y j ++ gradT sz ps q x y j)
def gradL (sz ps:List Int) (q:Int) (x y:List Int):List Int:=gradT sz ps q x y (sz.length - 1)
theorem outerL_len (r c:Nat) (ys xs:List Int) (q:Int):(outerL r c ys xs q).length = r * c:=upTo_len _ _
theorem errD_len {sz ps:List Int} {q:Int} {x y:List Int} (hx:x.length = szN sz 0) (j:Nat):(errD sz ps q x y j).length = szN sz (sz.length - 1 - j):=by
  cases j with
  | zero => show (missL _ _).length = _;rw [missL_len,valL_len hx];rfl
  | succ j => show (gateL _ _).length = _;rw [gateL_len,backL_len,show sz.length - 1 - (j + 1) = sz.length - 2 - j by omega]
theorem errD_W64 (sz ps:List Int) (q:Int) (x y:List Int) (j:Nat):W64 (errD sz ps q x y j):=by
  cases j with
  | zero => exact missL_W64 _ _
  | succ j => exact gateL_W64 (backL_W64 _ _ _ _ _)
end Go.Proofs.YtaccfnffmbndhaaGreat
namespace Go.Proofs.YtaccfnffmbndhaaGreat
open Go.RowKit
theorem nth_bL {sz ps:List Int} {k r:Nat} (h:r < szN sz (k + 1)):nth (bL sz ps k) r = nth ps (midN sz k + r):=upTo_nth _ h
theorem nth_wL {sz ps:List Int} {k r c:Nat} (hr:r < szN sz (k + 1)) (hc:c < szN sz k):nth (wL sz ps k) (r * szN sz k + c) = nth ps (cntN sz k + r * szN sz k + c):=by
  unfold wL
  rw [upTo_nth _ (by have:=Nat.mul_le_mul_right (szN sz k) (show r + 1 ≤ szN sz (k + 1) by omega);rw [Nat.succ_mul] at this;omega),Nat.add_assoc]
theorem sumN_eq {sz ps:List Int} {q:Int} {k r:Nat} {v:List Int} (wp:W64 ps) (hr:r < szN sz (k + 1)):∀ c,c ≤ szN sz k → sumN sz ps q k r v c = wrap64 (dotN (mrow (wL sz ps k) (szN sz k) r) v q c + nth (bL sz ps k) r):=by
  intro c
  induction c with
  | zero =>
    intro _
    have h:=wp.nth (midN sz k + r)
    rw [sumN,dotN,nth_bL hr,Int.zero_add,wrap64_id h.1 h.2]
  | succ c ih =>
    intro hc
    rw [sumN,dotN,ih (by omega),show nth (mrow (wL sz ps k) (szN sz k) r) c = nth (wL sz ps k) (r * szN sz k + c) from upTo_nth _ (by omega),nth_wL hr (by omega),wrap64_add,wrap64_add]
    congr 1
    omega
theorem sumN_zL {sz ps:List Int} {q:Int} {k r:Nat} {v:List Int} (wp:W64 ps) (hr:r < szN sz (k + 1)) (hv:v.length = szN sz k):sumN sz ps q k r v v.length = nth (zL sz ps q k v) r:=by
  rw [hv,sumN_eq wp hr _ (Nat.le_refl _)]
  unfold zL addL
  rw [upTo_nth _ (by rw [mulL_len];exact hr)]
  unfold mulL
  rw [upTo_nth _ hr]
  unfold dotL
  rw [mrow_len]
theorem val_step {sz ps:List Int} {q:Int} {x:List Int} {k r:Nat} (wp:W64 ps) (hx:x.length = szN sz 0) (hr:r < szN sz (k + 1)) :
    nth (valL sz ps q x (k + 1)) r = if k + 1 < sz.length - 1 then (if 0 < sumN sz ps q k r (valL sz ps q x k) (valL sz ps q x k).length then sumN sz ps q k r (valL sz ps q x k) (valL sz ps q x k).length else 0) else sumN sz ps q k r (valL sz ps q x k) (valL sz ps q x k).length:=by
  rw [sumN_zL wp hr (valL_len hx k)]
  rw [valL]
  split
  · unfold reluL
    rw [upTo_nth _ (by rw [zL_len];exact hr)]
    split
    · omega
    · omega
  · rfl
def esumN (sz ps:List Int) (q:Int) (k c:Nat) (e:List Int):Nat → Int
  | 0 => 0
  | r + 1 => wrap64 (esumN sz ps q k c e r + mulQ (nth ps (cntN sz k + r * szN sz k + c)) (nth e r) q)
theorem foldl_range_succ {α:Type} (f:α → Nat → α) (a:α) (n:Nat):(List.range (n + 1)).foldl f a = f ((List.range n).foldl f a) n:=by rw [List.range_succ,List.foldl_append];rfl
theorem backN {ms:List Int} {c:Nat} {ys:List Int} {q:Int} (r:Nat):((List.range r).foldl (backF ms c ys q) (List.replicate c 0)).length = c:=by
  induction r with
  | zero => simp
  | succ r ih => rw [foldl_range_succ,backF_len,ih]
theorem esumN_eq {sz ps:List Int} {q:Int} {k c:Nat} {e:List Int} (hc:c < szN sz k):∀ r,r ≤ szN sz (k + 1) → esumN sz ps q k c e r = nth ((List.range r).foldl (backF (wL sz ps k) (szN sz k) e q) (List.replicate (szN sz k) 0)) c:=by
  intro r
  induction r with
  | zero =>
    intro _
    rw [esumN,List.range_zero,List.foldl_nil,nth_eq _ _ (by simpa using hc)]
    simp
  | succ r ih =>
    intro hr
    rw [esumN,ih (by omega),foldl_range_succ]
    unfold backF addL
    rw [upTo_nth _ (by have:=backN (ms:=wL sz ps k) (c:=szN sz k) (ys:=e) (q:=q) r;unfold backF addL at this;omega)]
    congr 2
    unfold scaleL
    rw [upTo_nth _ (by rw [mrow_len];exact hc),show nth (mrow (wL sz ps k) (szN sz k) r) c = nth (wL sz ps k) (r * szN sz k + c) from upTo_nth _ hc,nth_wL (by omega) hc]
theorem err_step {sz ps:List Int} {q:Int} {x y:List Int} {j c:Nat} (hx:x.length = szN sz 0) (hj:j + 2 ≤ sz.length) (hc:c < szN sz (sz.length - 2 - j)) :
    nth (errD sz ps q x y (j + 1)) c = if 0 < nth (valL sz ps q x (sz.length - 2 - j)) c then esumN sz ps q (sz.length - 2 - j) c (errD sz ps q x y j) (errD sz ps q x y j).length else 0:=by
  have hl:(errD sz ps q x y j).length = szN sz (sz.length - 2 - j + 1):=by rw [errD_len hx,show sz.length - 1 - j = sz.length - 2 - j + 1 by omega]
  rw [hl,esumN_eq hc _ (Nat.le_refl _)]
  rw [errD]
  unfold gateL
  rw [upTo_nth _ (by rw [backL_len];exact hc)]
  unfold backL
  rw [show sz.length - 1 - j = sz.length - 2 - j + 1 by omega]
end Go.Proofs.YtaccfnffmbndhaaGreat
