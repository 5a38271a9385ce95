/- mat.Outer. 'copy(out[i:j], xs)', out a row that is known whole: all other blocks stay. No condition. -/
import Derived.Test.YtaccfnffmbndhaaGreatB16
import Derived.Test.YtaccfnffmbndhaaGreatB36
import Derived.Test.YtaccfnffmbndhaaGreatB01
import Derived.Laws.CopyOwn
set_option linter.unusedSimpArgs false
set_option linter.unusedVariables false
namespace Go.Proofs.YtaccfnffmbndhaaGreat
open Go.RowKit Go.Shelf
attribute [local go_sem] Oper.semAt_some
def OutI (r c:Nat) (ys xs:List Int) (A B:Option Addr) (nn d e:Nat) (q:Int) (w:World) (G N M:Nat) (pre:List (Fin r)) (W:World):Prop:=
  (W.ownsRow w.heap.size 2 1 (.slice (some ⟨G,0,none⟩) nn nn) nn (nums .i64 (outS r c ys xs q (pre.map (·.1)) 0 0)) ∧ Boxed W w.heap.size 64 (.slice A r d) ∧ Boxed W (w.heap.size + 1) 64 (.slice B c e) ∧ Boxed W (w.heap.size + 1 + 1) 3 (.int .i64 q) ∧
    W.heap[w.heap.size + 1 + 1 + 1]? = some (.cells #[.int .i64 0,.int .i64 0,.slice none 0 0] 282 (0,0)) ∧ W.heap[N]? = some (.cells #[.int .i64 r,.int .i64 c,.slice (some ⟨G,0,none⟩) nn nn] 282 (0,0)) ∧
    W.heap[M]? = some (.cells #[.int .i64 r,.int .i64 c,.slice (some ⟨G,0,none⟩) nn nn] 282 (0,0))) ∧ Below w.heap.size w W
theorem outI_own (r c:Nat) (ys xs:List Int) (A B:Option Addr) (nn d e:Nat) (q:Int) (w:World) (G N M K:Nat) (hK:w.heap.size ≤ K):OwnFrom K (OutI r c ys xs A B nn d e q w G N M):=by
  intro s W W' row hs hg hr
  obtain ⟨⟨h1,h2,h3,h4,h5,h7,h8⟩,h6⟩:=hs
  have k6:=ownFrom_below (β:=Unit) (Nat.le_refl _) hK () W W' row h6 hg hr
  exact ⟨⟨own_turn h1 hg hr,block_turn rfl h2 hg hr,block_turn rfl h3 hg hr,block_turn rfl h4 hg hr,block_turn rfl h5 hg hr,block_turn rfl h7 hg hr,block_turn rfl h8 hg hr⟩,k6⟩
set_option maxRecDepth 100000 in
set_option maxHeartbeats 2000000 in
theorem outer_any (r c:Nat) (A B:Option Addr) (ys xs:List Int) (d e:Nat) (q:Int) (w:World) (hr:1 ≤ r ∧ r ≤ 1048576) (hc:1 ≤ c ∧ c ≤ 1048576) (hm:r * c ≤ 1048576)
    (hA:Rd w A (nums .i64 ys)) (wy:W64 ys) (hyl:ys.length = r) (hB:Rd w B (nums .i64 xs)) (hxl:xs.length = c) (wx:W64 xs) :
    Calls Tryz.prog 178 #[.slice A r d,.slice B c e,.int .i64 q] w fun e w' => ∃ A',e = .returned (.agg #[.int .i64 r,.int .i64 c,.slice A' (r * c) (r * c)]) ∧ w'.ownsRow w.heap.size 2 1 (.slice A' (r * c) (r * c)) (r * c) (nums .i64 (outerL r c ys xs q)) ∧ Below w.heap.size w w':=by
  obtain ⟨nn,hnn⟩:∃ nn,r * c = nn:=⟨_,rfl⟩
  have hpos:1 ≤ nn:=by rw [← hnn];exact Nat.mul_pos hr.1 hc.1
  have hnw:=fun w' => mnew_any r c w' hr hc hm
  have hrt:=fun A' w' => right_any r c A' nn nn w' hr hc hnn.symm (by omega)
  have hrw:=fun cs w' => rows_any cs w'
  rw [hnn] at hnw hm ⊢
  have Hnw:=Lib.hid hnw
  have Hrt:=Lib.hid hrt;have Hrw:=Lib.hid hrw;have Hnn:=Lib.hid hnn;have Hxl:=Lib.hid hxl;have Hyl:=Lib.hid hyl;have HA:=Lib.hid hA;have HB:=Lib.hid hB;have WX:=Lib.hid wx;have WY:=Lib.hid wy;clear hnw hrt hrw hnn hxl hyl hA hB wx wy
  refine (callsIn_wide (n:=3)).1 ?_
  refine callsIn_of_wp_marks Tryz.func178 rfl trivial ?_ rfl
  simp only [Tryz.ntmps178,List.size_toArray,List.length_cons,List.length_nil,Nat.reduceAdd,Nat.reduceSub,Array.replicate_succ,Array.replicate_zero,List.push_toArray,List.append_toArray,List.nil_append,List.cons_append]
  gi_wp2_with fail
  refine ⟨trivial,?_⟩
  refine (callsIn_wide.2 (Hnw.out _)).mono ?_
  rintro e w1 ⟨A',rfl,hown1,hb1⟩
  have hb01:Below w.heap.size w w1:=Below.trans (((((Below.refl _ w).alloc (Nat.le_refl _) _).alloc (by simp) _).alloc (by simp;omega) _).alloc (by simp;omega) _) (hb1.mono (by first | (simp;done) | (simp;omega)))
  have h2:Boxed w1 w.heap.size 64 (.slice A r d):=by
    refine (hb1.block w.heap.size (by first | (simp;done) | (simp;omega))).trans ?_
    refine (Below.heap_alloc _ _ _ (by first | (simp;done) | (simp;omega))).trans ((Below.heap_alloc _ _ _ (by first | (simp;done) | (simp;omega))).trans ((Below.heap_alloc _ _ _ (by simp)).trans (heap_alloc_new w _)))
  have h3:Boxed w1 (w.heap.size + 1) 64 (.slice B c e):=by
    refine (hb1.block (w.heap.size + 1) (by first | (simp;done) | (simp;omega))).trans ?_
    refine (Below.heap_alloc _ _ _ (by first | (simp;done) | (simp;omega))).trans ((Below.heap_alloc _ _ _ (by simp)).trans ?_)
    have:=heap_alloc_new (w.alloc (.cells #[.slice A r d] 64)) (.cells #[.slice B c e] 64)
    simpa using this
  have h4:Boxed w1 (w.heap.size + 1 + 1) 3 (.int .i64 q):=by
    refine (hb1.block (w.heap.size + 1 + 1) (by first | (simp;done) | (simp;omega))).trans ?_
    refine (Below.heap_alloc _ _ _ (by simp)).trans ?_
    have:=heap_alloc_new ((w.alloc (.cells #[.slice A r d] 64)).alloc (.cells #[.slice B c e] 64)) (.cells #[.int .i64 q] 3)
    simpa using this
  have h5:w1.heap[w.heap.size + 1 + 1 + 1]? = some (.cells #[.int .i64 0,.int .i64 0,.slice none 0 0] 282 (0,0)):=by
    refine (hb1.block (w.heap.size + 1 + 1 + 1) (by simp)).trans ?_
    have:=heap_alloc_new (((w.alloc (.cells #[.slice A r d] 64)).alloc (.cells #[.slice B c e] 64)).alloc (.cells #[.int .i64 q] 3)) (.cells #[.int .i64 0,.int .i64 0,.slice none 0 0] 282)
    simpa using this
  obtain ⟨G,dG,hvG,hG,hGl⟩:=hown1.form (by omega)
  simp only [Value.slice.injEq] at hvG
  obtain ⟨rfl,_,rfl⟩:=hvG
  have hG4:w.heap.size + 1 + 1 + 1 + 1 ≤ G:=by simpa using hG
  have hown1:=own_base hown1 (base':=w.heap.size) (by first | (simp;done) | (simp;omega))
  have Hown1:=Lib.hid hown1;have Hb01:=Lib.hid hb01;have H2:=Lib.hid h2;have H3:=Lib.hid h3;have H4:=Lib.hid h4;have H5:=Lib.hid h5;have HG4:=Lib.hid hG4;have HGl:=Lib.hid hGl;clear hown1 hb01 h2 h3 h4 h5 hG4 hGl hG hb1
  gi_wp2_with fail
  refine ⟨trivial,?_⟩
  refine (callsIn_wide.2 (Hrt.out _ _)).mono ?_
  rintro e w2 ⟨rfl,rfl⟩
  gi_wp2_with fail
  refine ⟨trivial,?_⟩
  refine (callsIn_wide.2 (Hrw.out _ _)).mono ?_
  rintro e w3 ⟨rfl,rfl⟩
  gi_wp2_with fail
  obtain ⟨W0,hW0⟩:∃ W0,W0 = (w1.alloc (.cells #[.int .i64 r,.int .i64 c,.slice (some ⟨G,0,none⟩) nn nn] 282)).alloc (.cells #[.int .i64 r,.int .i64 c,.slice (some ⟨G,0,none⟩) nn nn] 282):=⟨_,rfl⟩
  rw [← hW0]
  have hs0:W0.heap.size = w1.heap.size + 1 + 1:=by rw [hW0];simp
  have bN:W0.heap[w1.heap.size]? = some (.cells #[.int .i64 r,.int .i64 c,.slice (some ⟨G,0,none⟩) nn nn] 282 (0,0)):=by
    rw [hW0];exact (Below.heap_alloc _ _ _ (by simp)).trans (heap_alloc_new w1 _)
  have bM:(W0.alloc (.cells #[.int .i64 r,.int .i64 c,.slice (some ⟨G,0,none⟩) nn nn] 282)).heap[W0.heap.size]? = some (.cells #[.int .i64 r,.int .i64 c,.slice (some ⟨G,0,none⟩) nn nn] 282 (0,0)):=heap_alloc_new W0 _
  have hl:∀ b o,w1.heap[b]? = some o → (W0.alloc (.cells #[.int .i64 r,.int .i64 c,.slice (some ⟨G,0,none⟩) nn nn] 282)).heap[b]? = some o:=fun b o h => by
    have hb:=lt_of_block h
    rw [hW0];exact (Below.heap_alloc _ _ _ (by simp;omega)).trans ((Below.heap_alloc _ _ _ (by simp;omega)).trans ((Below.heap_alloc _ _ _ hb).trans h))
  have hbel0:Below w.heap.size w W0:=by rw [hW0];exact (Hb01.out.alloc Hb01.out.size _).alloc (by have:=Hb01.out.size;simp;omega) _
  have r0:W0.ownsRow w.heap.size 2 1 (.slice (some ⟨G,0,none⟩) nn nn) nn (nums .i64 (List.replicate nn 0)):=by rw [hW0];exact (Hown1.out.alloc _).alloc _
  rw [← Hnn.out,outS_zero r c ys xs q 0,Hnn.out] at r0
  obtain ⟨N,hN⟩:∃ N,N = w1.heap.size:=⟨_,rfl⟩
  rw [← hN] at bN hs0 ⊢
  rw [← hs0]
  have hI0:OutI r c ys xs A B nn d e q w G N W0.heap.size [] (W0.alloc (.cells #[.int .i64 r,.int .i64 c,.slice (some ⟨G,0,none⟩) nn nn] 282)):=⟨⟨r0.alloc _,hl _ _ H2.out,hl _ _ H3.out,hl _ _ H4.out,hl _ _ H5.out,(Below.heap_alloc W0 _ _ (lt_of_block bN)).trans bN,bM⟩,hbel0.alloc hbel0.size _⟩
  have HS0:=Lib.hid hs0;have HBl0:=Lib.hid hbel0;have HbM:=Lib.hid bM;have HN:=Lib.hid hN;have HI0:=Lib.hid hI0
  clear hs0 hbel0 bM bN r0 hN hW0 hl hI0
  refine' wpIn_rangeFunc_ownG (F:=Fence.wide) (n:=3) rfl (by omega) (gf:=217) (lb:=#[.pointer (some ⟨W0.heap.size,0,none⟩)]) rfl trivial (enters_of Tryz.func217 (by kernel_rfl) rfl)
    (rows_stops _ W0.heap.size w.heap.size G 0 r c nn nn hr.2 hc Hnn.out.symm (Nat.le_refl _) _ HbM.out) rowsKeep_t (rowsKeep_b (by have:=HBl0.out.size;simp;omega) (by simp)) (Below.refl _ _) (fun _ => rfl)
    (OutI r c ys xs A B nn d e q w G N W0.heap.size)
    (fun _ _ _ => False)
    (outI_own r c ys xs A B nn d e q w G N W0.heap.size _ (by have:=HBl0.out.size;simp;omega))
    (fun _ _ _ _ _ hs _ _ => hs)
    HI0.out
    _ ?assign ?body ?done ?stop
  case assign =>
    intro l x W K hK
    unfold rowEnc
    gi_wp2
    exact hK
  case body =>
    rintro l pre x W ⟨⟨hrow,hx2,hx3,hx4,hx5,hxN,hxM⟩,hBl⟩ hlt
    have hrow:W.ownsRow w.heap.size 2 1 (.slice (some ⟨G,0,none⟩) nn nn) nn (nums .i64 (outS r c ys xs q (pre.map (·.1)) x.1 0)):=by rw [outS_start x.1 0];exact hrow
    have Hrow:=Lib.hid hrow;have H2:=Lib.hid hx2;have H3:=Lib.hid hx3;have H4:=Lib.hid hx4;have H5:=Lib.hid hx5;have HxN:=Lib.hid hxN;have HxM:=Lib.hid hxM;have HBl:=Lib.hid hBl;have Hlt:=Lib.hid hlt
    clear hrow hx2 hx3 hx4 hx5 hxN hxM hBl hlt
    gi_wp2_with fail
    gi_loopw [26] (fun i wr => ∃ j:Nat,j ≤ c ∧ i = .int .i64 j ∧ wr.ownsRow w.heap.size 2 1 (.slice (some ⟨G,0,none⟩) nn nn) nn (nums .i64 (outS r c ys xs q (pre.map (·.1)) x.1 j)) ∧ Keep (fun i => i = G) W wr) (fun i _ => c - (intOf i).toNat)
    case atStart => exact ⟨0,Nat.zero_le _,rfl,Hrow.out,Keep.refl _ _⟩
    case round =>
      obtain ⟨j,hj,rfl,hown,hK⟩:=hrel
      by_cases hlt:j < c
      · have hy1:x.1 < ys.length:=by rw [Hyl.out];exact x.2
        have hx1:j < xs.length:=by rw [Hxl.out];exact hlt
        have hg4:=HG4.out
        obtain ⟨b1,o1,hA1,p1w⟩:=HA.out.num hy1
        obtain ⟨b2,o2,hB1,p2w⟩:=HB.out.num hx1
        have l1:b1 < w.heap.size:=lt_of_cell p1w
        have l2:b2 < w.heap.size:=lt_of_cell p2w
        subst hA1;subst hB1
        have hk:∀ b v,b ≠ G → ∀ o,W.cell? ⟨b,o,none⟩ = some v → wr.cell? ⟨b,o,none⟩ = some v:=fun b v hb o h => hK.cell h hb
        have hSw:(fun w':World => w'.cell? ⟨w.heap.size,0,none⟩ = some (.slice (some ⟨b1,o1,none⟩) r d) ∧ w'.cell? ⟨w.heap.size + 1,0,none⟩ = some (.slice (some ⟨b2,o2,none⟩) c e) ∧ w'.cell? ⟨w.heap.size + 1 + 1,0,none⟩ = some (.int .i64 q) ∧ w'.cell? ⟨b1,o1 + x.1,none⟩ = some (.int .i64 (nth ys x.1)) ∧ w'.cell? ⟨b2,o2 + j,none⟩ = some (.int .i64 (nth xs j))) wr.drew:=⟨hk _ _ (by omega) _ (Boxed.cell H2.out),hk _ _ (by omega) _ (Boxed.cell H3.out),hk _ _ (by omega) _ (Boxed.cell H4.out),hk _ _ (by omega) _ ((HBl.out.cell (p:=⟨b1,o1 + x.1,none⟩) l1).trans p1w),hk _ _ (by omega) _ ((HBl.out.cell (p:=⟨b2,o2 + j,none⟩) l2).trans p2w)⟩
        have hxr:(x.1:Int) < r:=by have:=x.2;omega
        have hroom:x.1 * c + j < nn:=by rw [← Hnn.out];have:=mrow_room (c:=c) x.2;omega
        have hmm:=fun w' => fixMul (nth ys x.1) (nth xs j) q w' (WY.out _ hy1) (WX.out _ hx1)
        have Hmm:=Lib.hid hmm;have Hown:=Lib.hid hown;have HK:=Lib.hid hK;have Hroom:=Lib.hid hroom;clear hmm hown hK hk hroom hy1 hx1 p1w p2w
        gi_wp2_with fail
        refine region_inRound (fun w':World => w'.cell? ⟨w.heap.size,0,none⟩ = some (.slice (some ⟨b1,o1,none⟩) r d) ∧ w'.cell? ⟨w.heap.size + 1,0,none⟩ = some (.slice (some ⟨b2,o2,none⟩) c e) ∧ w'.cell? ⟨w.heap.size + 1 + 1,0,none⟩ = some (.int .i64 q) ∧ w'.cell? ⟨b1,o1 + x.1,none⟩ = some (.int .i64 (nth ys x.1)) ∧ w'.cell? ⟨b2,o2 + j,none⟩ = some (.int .i64 (nth xs j))) (by kernel_rfl) (by kernel_rfl) (by rintro ⟨_,_,h⟩;exact h) ?_
        refine wpAnyH_take (i:=0) (v:=?_) rfl (by kernel_rfl) (by kernel_rfl) (by kernel_rfl) (fun _ _ _ h => h) (Or.inl ⟨by rfl,?_⟩) hSw ?_
        rotate_left
        · intro w9 hS9;(try dsimp only at hS9);obtain ⟨s1,s2,s3,s4,s5⟩:=hS9;go_simp;(try with_reducible rfl)
        simp only [List.getElem_toArray,List.getElem_cons_succ,List.getElem_cons_zero,Act.put,List.setIfInBounds_toArray,List.set_cons_zero,List.set_cons_succ]
        refine wpAnyH_take (i:=1) (v:=?_) rfl (by kernel_rfl) (by kernel_rfl) (by kernel_rfl) (fun _ _ _ h => h) (Or.inl ⟨by rfl,?_⟩) hSw ?_
        rotate_left
        · intro w9 hS9;(try dsimp only at hS9);obtain ⟨s1,s2,s3,s4,s5⟩:=hS9;go_simp;(try with_reducible rfl)
        simp only [List.getElem_toArray,List.getElem_cons_succ,List.getElem_cons_zero,Act.put,List.setIfInBounds_toArray,List.set_cons_zero,List.set_cons_succ]
        refine wpAnyH_take (i:=2) (v:=?_) rfl (by kernel_rfl) (by kernel_rfl) (by kernel_rfl) (fun _ _ _ h => h) (Or.inl ⟨by rfl,?_⟩) hSw ?_
        rotate_left
        · intro w9 hS9;(try dsimp only at hS9);obtain ⟨s1,s2,s3,s4,s5⟩:=hS9;go_simp;(try with_reducible rfl)
        simp only [List.getElem_toArray,List.getElem_cons_succ,List.getElem_cons_zero,Act.put,List.setIfInBounds_toArray,List.set_cons_zero,List.set_cons_succ]
        refine wpAnyH_take (i:=3) (v:=?_) rfl (by kernel_rfl) (by kernel_rfl) (by kernel_rfl) (fun _ _ _ h => h) (Or.inl ⟨by rfl,?_⟩) hSw ?_
        rotate_left
        · intro w9 hS9;(try dsimp only at hS9);obtain ⟨s1,s2,s3,s4,s5⟩:=hS9;go_simp;(try with_reducible rfl)
        simp only [List.getElem_toArray,List.getElem_cons_succ,List.getElem_cons_zero,Act.put,List.setIfInBounds_toArray,List.set_cons_zero,List.set_cons_succ]
        refine wpAnyH_take (i:=4) (v:=?_) rfl (by kernel_rfl) (by kernel_rfl) (by kernel_rfl) (fun _ _ _ h => h) (Or.inl ⟨by rfl,?_⟩) hSw ?_
        rotate_left
        · intro w9 hS9;(try dsimp only at hS9);obtain ⟨s1,s2,s3,s4,s5⟩:=hS9;go_simp;(try with_reducible rfl)
        simp only [List.getElem_toArray,List.getElem_cons_succ,List.getElem_cons_zero,Act.put,List.setIfInBounds_toArray,List.set_cons_zero,List.set_cons_succ]
        refine wpAnyH_take (i:=5) (v:=?_) rfl (by kernel_rfl) (by kernel_rfl) (by kernel_rfl) (fun _ _ _ h => h) (Or.inl ⟨by rfl,?_⟩) hSw ?_
        rotate_left
        · intro w9 hS9;(try dsimp only at hS9);obtain ⟨s1,s2,s3,s4,s5⟩:=hS9;go_simp;(try with_reducible rfl)
        simp only [List.getElem_toArray,List.getElem_cons_succ,List.getElem_cons_zero,Act.put,List.setIfInBounds_toArray,List.set_cons_zero,List.set_cons_succ]
        refine wpAnyH_take (i:=6) (v:=?_) rfl (by kernel_rfl) (by kernel_rfl) (by kernel_rfl) (fun _ _ _ h => h) (Or.inl ⟨by rfl,?_⟩) hSw ?_
        rotate_left
        · intro w9 hS9;(try dsimp only at hS9);obtain ⟨s1,s2,s3,s4,s5⟩:=hS9;go_simp;(try with_reducible rfl)
        simp only [List.getElem_toArray,List.getElem_cons_succ,List.getElem_cons_zero,Act.put,List.setIfInBounds_toArray,List.set_cons_zero,List.set_cons_succ]
        refine wpAnyH_take (i:=7) (v:=?_) rfl (by kernel_rfl) (by kernel_rfl) (by kernel_rfl) (fun _ _ _ h => h) (Or.inl ⟨by rfl,?_⟩) hSw ?_
        rotate_left
        · intro w9 hS9;(try dsimp only at hS9);obtain ⟨s1,s2,s3,s4,s5⟩:=hS9;go_simp;(try with_reducible rfl)
        simp only [List.getElem_toArray,List.getElem_cons_succ,List.getElem_cons_zero,Act.put,List.setIfInBounds_toArray,List.set_cons_zero,List.set_cons_succ]
        refine wpAnyH_take (i:=8) (v:=?_) rfl (by kernel_rfl) (by kernel_rfl) (by kernel_rfl) (fun _ _ _ h => h) (Or.inl ⟨by rfl,?_⟩) hSw ?_
        rotate_left
        · intro w9 hS9;(try dsimp only at hS9);obtain ⟨s1,s2,s3,s4,s5⟩:=hS9;go_simp;(try with_reducible rfl)
        simp only [List.getElem_toArray,List.getElem_cons_succ,List.getElem_cons_zero,Act.put,List.setIfInBounds_toArray,List.set_cons_zero,List.set_cons_succ]
        refine wpAnyH_take (i:=9) (v:=?_) rfl (by kernel_rfl) (by kernel_rfl) (by kernel_rfl) (fun _ _ _ h => h) (Or.inl ⟨by rfl,?_⟩) hSw ?_
        rotate_left
        · intro w9 hS9;(try dsimp only at hS9);obtain ⟨s1,s2,s3,s4,s5⟩:=hS9;go_simp;(try with_reducible rfl)
        simp only [List.getElem_toArray,List.getElem_cons_succ,List.getElem_cons_zero,Act.put,List.setIfInBounds_toArray,List.set_cons_zero,List.set_cons_succ]
        refine wpAnyH_take (i:=10) (v:=?_) rfl (by kernel_rfl) (by kernel_rfl) (by kernel_rfl) (fun _ _ _ h => h) (Or.inl ⟨by rfl,?_⟩) hSw ?_
        rotate_left
        · intro w9 hS9;(try dsimp only at hS9);obtain ⟨s1,s2,s3,s4,s5⟩:=hS9;go_simp;(try with_reducible rfl)
        simp only [List.getElem_toArray,List.getElem_cons_succ,List.getElem_cons_zero,Act.put,List.setIfInBounds_toArray,List.set_cons_zero,List.set_cons_succ]
        refine wpAnyH_ready (rs:=[11]) (by kernel_rfl) (by simp) ?_
        refine AllReadyH.cons rfl (fun K hK => ?_) AllReadyH.nil
        simp only [List.getElem_toArray,List.getElem_cons_succ,List.getElem_cons_zero]
        go_simp
        refine (Hmm.out _).mono ?_
        rintro e w3 ⟨rfl,hb3⟩
        dsimp only
        have hS3:(fun w':World => w'.cell? ⟨w.heap.size,0,none⟩ = some (.slice (some ⟨b1,o1,none⟩) r d) ∧ w'.cell? ⟨w.heap.size + 1,0,none⟩ = some (.slice (some ⟨b2,o2,none⟩) c e) ∧ w'.cell? ⟨w.heap.size + 1 + 1,0,none⟩ = some (.int .i64 q) ∧ w'.cell? ⟨b1,o1 + x.1,none⟩ = some (.int .i64 (nth ys x.1)) ∧ w'.cell? ⟨b2,o2 + j,none⟩ = some (.int .i64 (nth xs j))) w3:=⟨cell_below hb3 hSw.1,cell_below hb3 hSw.2.1,cell_below hb3 hSw.2.2.1,cell_below hb3 hSw.2.2.2.1,cell_below hb3 hSw.2.2.2.2⟩
        refine hK.out _ _ hS3 (fun _ => ?_)
        clear hK K hSw
        have hSw:=hS3
        clear hS3
        have hown3:=own_below (w:=wr.drew) Hown.out hb3
        have hG3:∃ u,w3.cell? ⟨G,x.1 * c + j,none⟩ = some u:=⟨_,own_num hown3 Hroom.out⟩
        obtain ⟨u3,p3⟩:=hG3
        have f3:=hown3.frozenAt (x.1 * c + j)
        have Hown3:=Lib.hid hown3;have Hb3:=Lib.hid hb3;clear hown3 hb3
        refine wpAnyH_take (i:=12) (v:=?_) rfl (by kernel_rfl) (by kernel_rfl) (by kernel_rfl) (fun _ _ _ h => h) (Or.inl ⟨by rfl,?_⟩) hSw ?_
        rotate_left
        · intro w9 hS9;(try dsimp only at hS9);obtain ⟨s1,s2,s3,s4,s5⟩:=hS9;go_simp;(try with_reducible rfl)
        simp only [List.getElem_toArray,List.getElem_cons_succ,List.getElem_cons_zero,Act.put,List.setIfInBounds_toArray,List.set_cons_zero,List.set_cons_succ]
        refine wpAnyH_ready (rs:=[13]) (by kernel_rfl) (by simp) ?_
        refine AllReadyH.cons rfl (fun K hK => ?_) AllReadyH.nil
        simp only [List.getElem_toArray,List.getElem_cons_succ,List.getElem_cons_zero]
        go_simp
        refine hK.out _ _ ?_ (fun _ => ?_)
        · obtain ⟨s1,s2,s3,s4,s5⟩:=hSw
          exact ⟨(World.cell?_setCell_far _ _ _ _ (show G ≠ w.heap.size by omega)).trans s1,(World.cell?_setCell_far _ _ _ _ (show G ≠ w.heap.size + 1 by omega)).trans s2,(World.cell?_setCell_far _ _ _ _ (show G ≠ w.heap.size + 1 + 1 by omega)).trans s3,(World.cell?_setCell_far _ _ _ _ (show G ≠ b1 by omega)).trans s4,(World.cell?_setCell_far _ _ _ _ (show G ≠ b2 by omega)).trans s5⟩
        refine wpAnyH_done (by kernel_rfl) ?_ _
        clear hSw p3 f3 hK K
        gi_wp2_with fail
        refine ⟨⟨j + 1,by omega,by go_num,?_,?_⟩,by simp [intOf];omega⟩
        · rw [← outS_set x.2 hlt]
          exact own_put Hown3.out _ _
        · exact Keep.setCell (HK.out.drew.trans (Keep.below Hb3.out)) ⟨G,_,none⟩ (.inr rfl) _
      · obtain rfl:j = c:=by omega
        gi_wp2_with fail
        have hf1:=HG4.out
        have hf2:=HGl.out
        have hf3:=HS0.out
        have hf4:=HN.out
        have hbW:Below w.heap.size W wr:=hK.toBelow HBl.out.size (fun k hk => by omega)
        have hM4:=(hK.block _ (lt_of_block HxM.out) (by omega)).trans HxM.out
        refine ⟨(others_keep hK fun k o hk ho => ?_).from _,⟨hbW,fun _ => hM4.trans HxM.out.symm⟩,⟨⟨?_,?_,?_,?_,?_,?_,hM4⟩,HBl.out.trans hbW⟩⟩
        · subst hk
          exact own_cells Hrow.out ho
        · rw [List.map_append,List.map_singleton,← outS_all hc.1];exact hown
        · exact (hK.block _ (lt_of_block H2.out) (by omega)).trans H2.out
        · exact (hK.block _ (lt_of_block H3.out) (by omega)).trans H3.out
        · exact (hK.block _ (lt_of_block H4.out) (by omega)).trans H4.out
        · exact (hK.block _ (lt_of_block H5.out) (by omega)).trans H5.out
        · exact (hK.block _ (lt_of_block HxN.out) (by omega)).trans HxN.out
  case done =>
    rintro D zs W hD rfl ⟨⟨hrow,hx2,hx3,hx4,hx5,hxN,hxM⟩,hBl⟩ hK
    obtain ⟨⟨n0,n1,n2⟩,nf⟩:=bx3 hxN
    obtain ⟨⟨m0,m1,m2⟩,mf⟩:=bx3 hx5
    gi_wp2
    have hfin:(List.finRange r).map (·.1) = List.range r:=List.ext_getElem (by simp) (by simp)
    rw [hfin,outS_done hc.1] at hrow
    have h3:=box3_set (.int .i64 r) (.int .i64 c) (.slice (some ⟨G,0,none⟩) nn nn) hx5
    have k3:=box3_keep (w:=W) (b:=w.heap.size + 1 + 1 + 1) (.int .i64 r) (.int .i64 c) (.slice (some ⟨G,0,none⟩) nn nn)
    have hf1:=HG4.out
    have hf2:=HGl.out
    have hf3:=HS0.out
    have hf4:=HN.out
    simp only [World.size_alloc] at hD
    obtain ⟨W3,hW3⟩:∃ W3,W3 = (((W.setCell ⟨w.heap.size + 1 + 1 + 1,0,none⟩ (.int .i64 r)).setCell ⟨w.heap.size + 1 + 1 + 1,1,none⟩ (.int .i64 c)).setCell ⟨w.heap.size + 1 + 1 + 1,2,none⟩ (.slice (some ⟨G,0,none⟩) nn nn)):=⟨_,rfl⟩
    rw [← hW3] at h3 k3 ⊢
    clear hW3
    have hK3:W3.heap[D]? = some (.deferred (some [])):=(k3.block D (lt_of_block hK) (by omega)).trans hK
    refine ⟨by simp,.inl ⟨_,_,rfl,run_takeDeferred hK3,?_⟩⟩
    have h4:(W3.putObj D (.deferred none)).heap[w.heap.size + 1 + 1 + 1]? = some (.cells #[.int .i64 r,.int .i64 c,.slice (some ⟨G,0,none⟩) nn nn] 282 (0,0)):=(World.putObj_heap_other (by omega)).trans h3
    have hown3:=ownsRow_putObj (k3.own hrow (fun k hk e => by simp [Value.ownBlock] at hk;omega)) (.deferred none) hK3 rfl
    have hbel3:Below w.heap.size w (W3.putObj D (.deferred none)):=(hBl.trans (k3.toBelow hBl.size (fun k hk => by omega))).trans (belowK_b (w:=w) (Nat.le_refl _) W3 D _ _ (by omega) hK3 rfl rfl)
    obtain ⟨W4,hW4⟩:∃ W4,W4 = W3.putObj D (.deferred none):=⟨_,rfl⟩
    rw [← hW4] at h4 hown3 hbel3 ⊢
    clear hW4 hf1 hf2 hf3 hf4 hfin
    obtain ⟨⟨q0,q1,q2⟩,qf⟩:=bx3 h4
    refine ⟨.agg #[.int .i64 r,.int .i64 c,.slice (some ⟨G,0,none⟩) nn nn],by simp [results,Tryz.results178,go_sem,q0,q1,q2],_,rfl,hown3,hbel3⟩
  case stop =>
    rintro D c pre W _ _ h _
    exact h.elim
end Go.Proofs.YtaccfnffmbndhaaGreat
namespace Go.Proofs.YtaccfnffmbndhaaGreat
open Go.RowKit
theorem wpList_copyK {P:Program} {w:World} {ops:Array Oper} {rest:List Oper} {o:Oper} {a:Act} {Q:Exit → Act → World → Prop} (hgd:o.guard = none) (d s:Operand) (dT sT:TypeId)
    (ho:o.op = .call { callee:=.builtin .copy,args:=#[d,s],argTypes:=#[dT,sT] }) (elem:TypeId) (hu:P.underlying dT = some (.slice elem)) (hsz:(P.info? elem).map (·.size) = some 1)
    (dp sp:Option Addr) (n dCap sCap:Nat) (hd:a.eval d = .slice dp n dCap) (hs:a.eval s = .slice sp n sCap)
    (g off:Nat) (cur:List Value) (t:TypeId) (hg:w.heap[g]? = some (.cells cur.toArray t (0,0))) (cs:List Value) (hn:cs.length = n) (hdp:0 < n → dp = some ⟨g,off,none⟩) (hr:Rd w sp cs)
    (hfit:off + cs.length ≤ cur.length) (h1:∀ v ∈ cs,v.oneCell' = true)
    (h:∀ w',Hid (w'.heap[g]? = some (.cells (splice cur off cs).toArray t (0,0))) → Keep (fun i => i = g) w w' → wpList P ops Q rest (a.put o.dst (goInt cs.length)) w') :
    wpList P ops Q (o :: rest) a w:=by
  by_cases h0:cs.length = 0
  · obtain rfl:cs = []:=List.eq_nil_of_length_eq_zero h0
    refine wpList_copy_nothing hgd d s dT sT ho elem hu hsz dp sp n dCap n sCap hd hs (by simp at hn;subst hn;rfl) ?_
    exact h w (show _ = _ by simpa [splice] using hg) (Keep.refl _ _)
  · obtain rfl:=hdp (by omega)
    have hx:∃ ad,sp = some ad ∧ ∀ j v,cs[j]? = some v → w.cell? (ad.add j) = some v:=by
      obtain ⟨b,o',hsp,_⟩:=hr 0 cs[0] (List.getElem?_eq_getElem (by omega))
      refine ⟨_,hsp,fun j v hv => ?_⟩
      obtain ⟨b2,o2,e,hc⟩:=hr j v hv
      rw [hsp] at e
      injection e with e
      injection e with e1 e2 _
      subst e1;subst e2
      rw [Addr.add_lit]
      exact hc
    obtain ⟨ad,rfl,hsrc⟩:=hx
    refine wpList_copy_own hgd d s dT sT ho elem hu hsz g off n dCap ad n sCap hd hs cur.toArray t hg cs (by rw [hn];exact (Nat.min_self n).symm) hsrc (by simpa using hfit) h1 ?_
    exact h _ (show _ = _ by simpa [splice] using setRow_heap w g _ _ t _ hg) ⟨rfl,rfl,rfl,by simp [World.setRow],fun k hk hn => setRow_other w g k _ hn⟩
theorem step_copyK {P:Program} {w:World} {ops:Array Oper} {tm:Array Value} {o:Oper} {a:Act} {K:Act → World → Prop} {Q:Exit → Act → World → Prop} {E:Prop} (d s:Operand) (dT sT:TypeId) (hgd:o.guard = none)
    (ho:o.op = .call { callee:=.builtin .copy,args:=#[d,s],argTypes:=#[dT,sT] }) (elem:TypeId) (hu:P.underlying dT = some (.slice elem)) (hsz:(P.info? elem).map (·.size) = some 1)
    (dp sp:Option Addr) (n dCap sCap:Nat) (hd:a.eval d = .slice dp n dCap) (hs:a.eval s = .slice sp n sCap)
    (g off:Nat) (cur:List Value) (t:TypeId) (hg:w.heap[g]? = some (.cells cur.toArray t (0,0))) (cs:List Value) (hn:cs.length = n) (hdp:0 < n → dp = some ⟨g,off,none⟩) (hr:Rd w sp cs)
    (hfit:off + cs.length ≤ cur.length) (h1:∀ v ∈ cs,v.oneCell' = true)
    (h:∀ w',Hid (w'.heap[g]? = some (.cells (splice cur off cs).toArray t (0,0))) → Keep (fun i => i = g) w w' → K (a.put o.dst (goInt cs.length)) w') :
    if Region.wanted o (yielded ops tm) = true then Oper.wp P o a w K Q else E:=by
  rw [if_pos (by simp [Region.wanted,hgd])]
  by_cases h0:cs.length = 0
  · obtain rfl:cs = []:=List.eq_nil_of_length_eq_zero h0
    have hrun:=run_copy_none (P:=P) w dT sT o.type elem dp sp n dCap n sCap hu hsz (by simp at hn;subst hn;rfl)
    unfold Oper.wp
    simp [execOp,ho,resolve,invoke,builtin,hd,hs,hrun,Result.andThen]
    exact h w (show _ = _ by simpa [splice] using hg) (Keep.refl _ _)
  · obtain rfl:=hdp (by omega)
    have hx:∃ ad,sp = some ad ∧ ∀ j v,cs[j]? = some v → w.cell? (ad.add j) = some v:=by
      obtain ⟨b,o',hsp,_⟩:=hr 0 cs[0] (List.getElem?_eq_getElem (by omega))
      refine ⟨_,hsp,fun j v hv => ?_⟩
      obtain ⟨b2,o2,e,hc⟩:=hr j v hv
      rw [hsp] at e
      injection e with e
      injection e with e1 e2 _
      subst e1;subst e2
      rw [Addr.add_lit]
      exact hc
    obtain ⟨ad,rfl,hsrc⟩:=hx
    have hrun:=run_copy_row (P:=P) w dT sT o.type elem g off n dCap ad n sCap cur.toArray t cs hu hsz hg (by rw [hn];exact (Nat.min_self n).symm) hsrc (by simpa using hfit) h1
    unfold Oper.wp
    simp [execOp,ho,resolve,invoke,builtin,hd,hs,hrun,Result.andThen]
    exact h _ (show _ = _ by simpa [splice] using setRow_heap w g _ _ t _ hg) ⟨rfl,rfl,rfl,by simp [World.setRow],fun k hk hn => setRow_other w g k _ hn⟩
theorem own_full {w:World} {base:Nat} {e:TypeId} {g n:Nat} {xs:List Value} (h:w.ownsRow base e 1 (.slice (some ⟨g,0,none⟩) n n) n xs):w.heap[g]? = some (.cells xs.toArray e (0,0)):=by
  rcases h.2 with ⟨h0,_⟩ | ⟨g',cap,cur,hv,_,hg,_,_,hs,ht⟩
  · cases h0
  · simp only [Value.slice.injEq,Option.some.injEq,Addr.mk.injEq,and_true,true_and] at hv
    obtain ⟨rfl,rfl⟩:=hv
    rw [Nat.mul_one] at hs ht
    have:cur = xs.toArray:=by
      rw [← ht,List.take_of_length_le (by simp [hs])]
    rw [← this]
    exact hg
theorem nums_splice (q:IntKind) (a b:List Int) (off:Nat):splice (nums q a) off (nums q b) = nums q (splice a off b):=by
  unfold splice
  rw [nums_take,nums_length,nums_drop,← nums_append,← nums_append]
theorem full_own {w:World} {base:Nat} {e:TypeId} {g:Nat} {xs:List Value} (h:w.heap[g]? = some (.cells xs.toArray e (0,0))) (hb:base ≤ g) (hm:xs.length ≤ maxLen):w.ownsRow base e 1 (.slice (some ⟨g,0,none⟩) xs.length xs.length) xs.length xs:=
  ⟨by simp,.inr ⟨g,xs.length,xs.toArray,rfl,hb,h,Nat.le_refl _,hm,by simp,by simp⟩⟩
theorem splice2_drop {o W D:List Int} {lo:Nat} (h:lo + W.length + D.length ≤ o.length):(splice (splice o lo W) (lo + W.length) D).drop lo = W ++ (D ++ o.drop (lo + W.length + D.length)):=by
  have e0:splice o lo W = (o.take lo ++ W) ++ o.drop (lo + W.length):=by unfold splice;rw [List.append_assoc]
  have l1:(o.take lo ++ W).length = lo + W.length:=by rw [List.length_append,List.length_take];omega
  have e1:(splice o lo W).take (lo + W.length) = o.take lo ++ W:=by rw [e0,← l1,List.take_left]
  have e2:(splice o lo W).drop (lo + W.length + D.length) = o.drop (lo + W.length + D.length):=by
    rw [e0,List.drop_append,l1,List.drop_of_length_le (by rw [l1];omega),List.nil_append,List.drop_drop]
    congr 1
    omega
  have e3:splice (splice o lo W) (lo + W.length) D = o.take lo ++ (W ++ (D ++ o.drop (lo + W.length + D.length))):=by
    show (splice o lo W).take (lo + W.length) ++ (D ++ (splice o lo W).drop (lo + W.length + D.length)) = _
    rw [e1,e2,List.append_assoc]
  have l2:(o.take lo).length = lo:=by rw [List.length_take];omega
  rw [e3]
  conv => lhs;rw [← l2]
  rw [l2,List.drop_append_of_le_length (by rw [l2];exact Nat.le_refl _),List.drop_of_length_le (by rw [l2];exact Nat.le_refl _),List.nil_append]
end Go.Proofs.YtaccfnffmbndhaaGreat
