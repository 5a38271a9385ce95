/- The walk of sampler.New. What an input is, and its code. No condition. -/
import Derived.Test.YtaccfnffmbndhaaGreatB02
import Derived.Test.YtaccfnffmbndhaaGreatB19
import Derived.Deep.DeepCutAuto
import Derived.Test.YtaccfnffmbndhaaGreatB11
import Derived.Test.YtaccfnffmbndhaaGreatB18
set_option linter.unusedSimpArgs false
set_option linter.unusedVariables false
namespace Go.Proofs.YtaccfnffmbndhaaGreat
open Go.RowKit
def epN (n batch steps:Nat):Nat:=cntQ steps (n / batch)
def SampAt (w:World) (S n batch steps:Nat) (l:List Int):Prop:=
  ∃ Ab cb Ao co vs,w.heap[S]? = some (.cells #[.int .i64 batch,.int .i64 steps,.slice Ab (n / batch) cb,.slice Ao (epN n batch steps) co] 190 (0,0)) ∧
    Rd w Ab (blkVals (n - n % batch) batch (n / batch)) ∧ Rd w Ao vs ∧ vs.length = epN n batch steps ∧
    ∀ j,j < epN n batch steps → ∃ A' c',vs[j]? = some (.slice A' n c') ∧ n ≤ c' ∧ Rd w A' (nums .i64 (permN l n (j * (n - 1))))
theorem top_samp {B:Nat} {u v:World} {S n batch steps:Nat} {l:List Int} (h:SampAt (topW B u) S n batch steps l) (hv:Agr B u v):SampAt v S n batch steps l:=by
  obtain ⟨Ab,cb,Ao,co,vs,h1,h2,h3,h4,h5⟩:=h
  exact ⟨Ab,cb,Ao,co,vs,top_heap h1 hv,top_rd h2 hv,top_rd h3 hv,h4,fun j hj => by
    obtain ⟨A',c',k1,k2,k3⟩:=h5 j hj
    exact ⟨A',c',k1,k2,top_rd k3 hv⟩⟩
theorem SampAt.below {w w':World} {S n batch steps:Nat} {l:List Int} (h:SampAt w S n batch steps l) (hb:Below w.heap.size w w'):SampAt w' S n batch steps l:=by
  obtain ⟨Ab,cb,Ao,co,vs,h1,h2,h3,h4,h5⟩:=h
  exact ⟨Ab,cb,Ao,co,vs,(hb.block _ (lt_of_block h1)).trans h1,h2.below hb,h3.below hb,h4,fun j hj => by
    obtain ⟨A',c',k1,k2,k3⟩:=h5 j hj
    exact ⟨A',c',k1,k2,k3.below hb⟩⟩
def SampI (W0 wr:World) (S n b c k:Nat) (A:Option Addr) (l:List Int) (x0 x1 x2:Value):Prop:=
  ∃ Ao co vs,wr.heap[S]? = some (.cells #[x0,x1,x2,.slice Ao k co] 190 (0,0)) ∧ wr.ownsRow W0.heap.size 22 1 (.slice Ao k co) k vs ∧
    (∀ j,j < k → ∃ A' c',vs[j]? = some (.slice A' n c') ∧ n ≤ c' ∧ wr.ownsRow W0.heap.size 3 1 (.slice A' n c') n (nums .i64 (permN l n (j * (n - 1))))) ∧
    wr.heap[b]? = some (.cells #[.slice A l.length c,.int .i64 ((k * (n - 1):Nat):Int)] 235 (0,0)) ∧ Keep (fun j => j = b ∨ j = S) W0 wr
set_option maxRecDepth 100000 in
set_option maxHeartbeats 2000000 in
theorem sampler_newT (A:Option Addr) (l:List Int) (c n batch steps:Nat) (w:World) (hA:Rd w A (nums .u64 l)) (hl:l.length ≤ 1048576) (hu:U64 l) (hb:1 ≤ batch) (hbn:batch ≤ n) (hn:n ≤ 1048576) (hst:steps ≤ 1048576) (hd:epN n batch steps * (n - 1) ≤ l.length) :
    Calls Tryz.prog 44 #[.int .i64 n,.int .i64 batch,.int .i64 steps,.slice A l.length c] w fun e w' => ∃ S,e = .returned (.tuple #[.pointer (some ⟨S,0,none⟩),.int .i64 0]) ∧ SampAt (topW w.heap.size w') S n batch steps l ∧ w.heap.size ≤ S ∧ Below w.heap.size w w':=by
  have hq1:¬ ((n:Int) < 1):=by omega
  have hq2:¬ ((1048576:Int) < n):=by omega
  have hq3:¬ ((steps:Int) < 0):=by omega
  have hq4:¬ ((1048576:Int) < steps):=by omega
  have hq5:¬ ((batch:Int) < 1):=by omega
  have hq6:¬ ((n:Int) < batch):=by omega
  obtain ⟨N,hN⟩:∃ N,l.length = N:=⟨_,rfl⟩
  have hbl:=fun w' => blocks_any (n - n % batch) batch w' (by omega) hb (by omega)
  rw [cntQ_whole n batch hb hbn] at hbl
  obtain ⟨nb,hnb⟩:∃ nb,n / batch = nb:=⟨_,rfl⟩
  have hnb1:1 ≤ nb:=by rw [← hnb];exact Nat.div_pos hbn hb
  have hnb2:nb ≤ n:=by rw [← hnb];exact Nat.div_le_self _ _
  obtain ⟨r,hr⟩:∃ r,n % batch = r:=⟨_,rfl⟩
  have hrn:r ≤ n:=by rw [← hr];exact Nat.mod_le _ _
  rw [hr,hnb] at hbl
  have htm:(n:Int).tmod (batch:Int) = (r:Int):=by rw [← hr];rfl
  have hem:(n:Int) % (batch:Int) = (r:Int):=by rw [← hr];rfl
  have hw0:IntKind.i64.wrap (r:Int) = (r:Int):=IntWalk.i64_in _ (by omega)
  have hw1:IntKind.i64.wrap ((n:Int) - (r:Int)) = ((n - r:Nat):Int):=by rw [IntWalk.i64_in _ (by omega)];omega
  have hb0:¬ (batch = 0):=by omega
  have HA:=Lib.hid hA;have Hu:=Lib.hid hu;have Hd:=Lib.hid hd;have HN:=Lib.hid hN;have Hbl:=Lib.hid hbl;have Hnb:=Lib.hid hnb;have Hr:=Lib.hid hr
  rw [hN] at hl ⊢
  clear hA hu hd hN hbl hnb hr
  go_enter Tryz.func44,Tryz.ntmps44
  go_wp2_with fail
  go_cut [10] (fun v wx => ∃ P2 S Ab cb,v = .pointer (some ⟨P2,0,none⟩) ∧ wx.heap[P2]? = some (.cells #[.pointer (some ⟨S,0,none⟩)] 112 (0,0)) ∧ wx.heap[S]? = some (.cells #[.int .i64 batch,.int .i64 steps,.slice Ab nb cb,.slice none 0 0] 190 (0,0)) ∧
    wx.ownsRow (w.heap.size + 1) 52 2 (.slice Ab nb cb) nb (blkVals (n - r) batch nb) ∧ w.heap.size + 1 ≤ P2 ∧ w.heap.size + 1 ≤ S ∧ Below (w.heap.size + 1) (w.alloc (.cells #[.int .i64 n] 3)) wx)
  case first =>
    have hc0:=cell_of_row (w.alloc (.cells #[.int .i64 n] 3)) w.heap.size 0 _ _ _ (heap_alloc_new w _)
    have hSw:(fun w':World => w'.cell? ⟨w.heap.size,0,none⟩ = some (.int .i64 n)) (w.alloc (.cells #[.int .i64 n] 3)).drew:=hc0
    refine wp_region_X 12 (fun w':World => w'.cell? ⟨w.heap.size,0,none⟩ = some (.int .i64 n)) (by kernel_rfl) ?_
    refine wpAnyX_take (i:=0) (v:=?_) rfl (by kernel_rfl) (by decide) (by kernel_rfl) (by kernel_rfl) (by kernel_rfl) (by kernel_rfl) (fun _ _ _ h => h) (Or.inl ⟨by rfl,?_⟩) hSw ?_
    rotate_left
    · intro w9 hS9;(try dsimp only at hS9);have s1:=hS9;go_simp;(try with_reducible rfl)
    simp only [List.getElem_toArray,List.getElem_cons_succ,List.getElem_cons_zero,Act.put,List.setIfInBounds_toArray,List.set_cons_zero,List.set_cons_succ]
    refine wpAnyX_take (i:=1) (v:=?_) rfl (by kernel_rfl) (by decide) (by kernel_rfl) (by kernel_rfl) (by kernel_rfl) (by kernel_rfl) (fun _ _ _ h => h) (Or.inl ⟨by rfl,?_⟩) hSw ?_
    rotate_left
    · intro w9 hS9;(try dsimp only at hS9);have s1:=hS9;go_simp;(try with_reducible rfl)
    simp only [List.getElem_toArray,List.getElem_cons_succ,List.getElem_cons_zero,Act.put,List.setIfInBounds_toArray,List.set_cons_zero,List.set_cons_succ]
    refine wpAnyX_take (i:=2) (v:=?_) rfl (by kernel_rfl) (by decide) (by kernel_rfl) (by kernel_rfl) (by kernel_rfl) (by kernel_rfl) (fun _ _ _ h => h) (Or.inl ⟨by rfl,?_⟩) hSw ?_
    rotate_left
    · intro w9 hS9;(try dsimp only at hS9);have s1:=hS9;go_simp;(try with_reducible rfl)
    simp only [List.getElem_toArray,List.getElem_cons_succ,List.getElem_cons_zero,Act.put,List.setIfInBounds_toArray,List.set_cons_zero,List.set_cons_succ]
    refine wpAnyX_take (i:=3) (v:=?_) rfl (by kernel_rfl) (by decide) (by kernel_rfl) (by kernel_rfl) (by kernel_rfl) (by kernel_rfl) (fun _ _ _ h => h) (Or.inl ⟨by rfl,?_⟩) hSw ?_
    rotate_left
    · intro w9 hS9;(try dsimp only at hS9);have s1:=hS9;go_simp;(try with_reducible rfl)
    simp only [List.getElem_toArray,List.getElem_cons_succ,List.getElem_cons_zero,Act.put,List.setIfInBounds_toArray,List.set_cons_zero,List.set_cons_succ]
    refine wpAnyX_take (i:=4) (v:=?_) rfl (by kernel_rfl) (by decide) (by kernel_rfl) (by kernel_rfl) (by kernel_rfl) (by kernel_rfl) (fun _ _ _ h => h) (Or.inl ⟨by rfl,?_⟩) hSw ?_
    rotate_left
    · intro w9 hS9;(try dsimp only at hS9);have s1:=hS9;go_simp;(try with_reducible rfl)
    simp only [List.getElem_toArray,List.getElem_cons_succ,List.getElem_cons_zero,Act.put,List.setIfInBounds_toArray,List.set_cons_zero,List.set_cons_succ]
    refine wpAnyX_take (i:=5) (v:=?_) rfl (by kernel_rfl) (by decide) (by kernel_rfl) (by kernel_rfl) (by kernel_rfl) (by kernel_rfl) (fun _ _ _ h => h) (Or.inl ⟨by rfl,?_⟩) hSw ?_
    rotate_left
    · intro w9 hS9;(try dsimp only at hS9);have s1:=hS9;go_simp;(try with_reducible rfl)
    simp only [List.getElem_toArray,List.getElem_cons_succ,List.getElem_cons_zero,Act.put,List.setIfInBounds_toArray,List.set_cons_zero,List.set_cons_succ]
    refine wpAnyX_take (i:=6) (v:=?_) rfl (by kernel_rfl) (by decide) (by kernel_rfl) (by kernel_rfl) (by kernel_rfl) (by kernel_rfl) (fun _ _ _ h => h) (Or.inl ⟨by rfl,?_⟩) hSw ?_
    rotate_left
    · intro w9 hS9;(try dsimp only at hS9);have s1:=hS9;go_simp;(try with_reducible rfl)
    simp only [List.getElem_toArray,List.getElem_cons_succ,List.getElem_cons_zero,Act.put,List.setIfInBounds_toArray,List.set_cons_zero,List.set_cons_succ]
    refine wpAnyX_take (i:=7) (v:=?_) rfl (by kernel_rfl) (by decide) (by kernel_rfl) (by kernel_rfl) (by kernel_rfl) (by kernel_rfl) (fun _ _ _ h => h) (Or.inl ⟨by rfl,?_⟩) hSw ?_
    rotate_left
    · intro w9 hS9;(try dsimp only at hS9);have s1:=hS9;go_simp;(try with_reducible rfl)
    simp only [List.getElem_toArray,List.getElem_cons_succ,List.getElem_cons_zero,Act.put,List.setIfInBounds_toArray,List.set_cons_zero,List.set_cons_succ]
    refine wpAnyX_ready (rs:=[8,11]) (by kernel_rfl) (by simp) ?_
    refine AllReadyX.cons rfl (fun K hK => ?_) (AllReadyX.cons rfl (fun K hK => ?_) AllReadyX.nil)
    · simp only [List.getElem_toArray,List.getElem_cons_succ,List.getElem_cons_zero]
      go_simp
      refine (Hbl.out _).mono ?_
      rintro e w2 ⟨v,rfl,ho,hb2⟩
      obtain ⟨Ab,cb,rfl,_⟩:=own_form ho
      have hS2:=cell_below hb2 hSw
      simp only [World.size_drew,World.size_alloc] at ho hb2
      have Ho:=Lib.hid ho;have Hb2:=Lib.hid hb2;clear ho hb2 hSw
      dsimp only
      refine hK.out _ _ hS2 (fun hSw => ?_)
      clear hK K hS2
      refine wpAnyX_take (i:=9) (v:=?_) rfl (by kernel_rfl) (by decide) (by kernel_rfl) (by kernel_rfl) (by kernel_rfl) (by kernel_rfl) (fun _ _ _ h => h) (Or.inl ⟨by rfl,?_⟩) hSw ?_
      rotate_left
      · intro w9 hS9;(try dsimp only at hS9);have s1:=hS9;go_simp;(try with_reducible rfl)
      simp only [List.getElem_toArray,List.getElem_cons_succ,List.getElem_cons_zero,Act.put,List.setIfInBounds_toArray,List.set_cons_zero,List.set_cons_succ]
      refine wpAnyX_ready (rs:=[10,11]) (by kernel_rfl) (by simp) ?_
      refine AllReadyX.cons rfl (fun K hK => ?_) (AllReadyX.cons rfl (fun K hK => ?_) AllReadyX.nil)
      · simp only [List.getElem_toArray,List.getElem_cons_succ,List.getElem_cons_zero]
        go_simp
        refine hK.out _ _ (cell_alloc hSw _) (fun hSw => ?_)
        clear hK K
        refine wpAnyX_ready (rs:=[11]) (by kernel_rfl) (by simp) ?_
        refine AllReadyX.cons rfl (fun K hK => ?_) AllReadyX.nil
        simp only [List.getElem_toArray,List.getElem_cons_succ,List.getElem_cons_zero]
        go_simp
        refine hK.out _ _ (cell_alloc hSw _) (fun hSw => ?_)
        clear hK K hSw
        refine wpAnyX_tail (by rfl) (by kernel_rfl) ?_
        simp only [List.drop_succ_cons,List.drop_zero]
        go_wp2_with fail
        go_meet
        have hz2:=Hb2.out.size
        simp at hz2
        refine ⟨w2.heap.size + 1,w2.heap.size,Ab,cb,rfl,?_,?_,(Ho.out.alloc _).alloc _,by omega,by omega,?_⟩
        · have:=heap_alloc_new (w2.alloc (.cells #[.int .i64 batch,.int .i64 steps,.slice Ab nb cb,.slice none 0 0] 190)) (.cells #[.pointer (some ⟨w2.heap.size,0,none⟩)] 112)
          simpa using this
        · exact (Below.heap_alloc _ _ _ (by simp)).trans (heap_alloc_new w2 _)
        · exact ((((Below.refl _ _).drew).trans Hb2.out).alloc (by omega) _).alloc (by simp;omega) _
      · simp only [List.getElem_toArray,List.getElem_cons_succ,List.getElem_cons_zero]
        go_simp
        refine hK.out _ _ (cell_alloc hSw _) (fun hSw => ?_)
        clear hK K
        refine wpAnyX_ready (rs:=[10]) (by kernel_rfl) (by simp) ?_
        refine AllReadyX.cons rfl (fun K hK => ?_) AllReadyX.nil
        simp only [List.getElem_toArray,List.getElem_cons_succ,List.getElem_cons_zero]
        go_simp
        refine hK.out _ _ (cell_alloc hSw _) (fun hSw => ?_)
        clear hK K hSw
        refine wpAnyX_tail (by rfl) (by kernel_rfl) ?_
        simp only [List.drop_succ_cons,List.drop_zero]
        go_wp2_with fail
        go_meet
        have hz2:=Hb2.out.size
        simp at hz2
        refine ⟨w2.heap.size,w2.heap.size + 1,Ab,cb,rfl,?_,?_,(Ho.out.alloc _).alloc _,by omega,by omega,?_⟩
        · exact (Below.heap_alloc _ _ _ (by simp)).trans (heap_alloc_new w2 _)
        · have:=heap_alloc_new (w2.alloc (.cells #[.pointer (some ⟨w2.heap.size + 1,0,none⟩)] 112)) (.cells #[.int .i64 batch,.int .i64 steps,.slice Ab nb cb,.slice none 0 0] 190)
          simpa using this
        · exact ((((Below.refl _ _).drew).trans Hb2.out).alloc (by omega) _).alloc (by simp;omega) _
    · simp only [List.getElem_toArray,List.getElem_cons_succ,List.getElem_cons_zero]
      go_simp
      refine hK.out _ _ (cell_alloc hSw _) (fun hSw => ?_)
      clear hK K
      refine wpAnyX_ready (rs:=[8]) (by kernel_rfl) (by simp) ?_
      refine AllReadyX.cons rfl (fun K hK => ?_) AllReadyX.nil
      simp only [List.getElem_toArray,List.getElem_cons_succ,List.getElem_cons_zero]
      go_simp
      refine (Hbl.out _).mono ?_
      rintro e w2 ⟨v,rfl,ho,hb2⟩
      have hP2:w2.heap[w.heap.size + 1]? = some (.cells #[.pointer none] 112 (0,0)):=(hb2.block (w.heap.size + 1) (by simp)).trans (by rw [← show (w.alloc (.cells #[.int .i64 n] 3)).heap.size = w.heap.size + 1 by simp];exact heap_alloc_new _ _)
      obtain ⟨t0,tf⟩:=bx1 hP2
      have hPl:=lt_of_block hP2
      have HP2:=Lib.hid hP2;clear hP2
      obtain ⟨Ab,cb,rfl,_⟩:=own_form ho
      have hS2:=cell_below hb2 hSw
      simp only [World.size_drew,World.size_alloc] at ho hb2
      have Ho:=Lib.hid ho;have Hb2:=Lib.hid hb2;clear ho hb2 hSw
      dsimp only
      refine hK.out _ _ hS2 (fun hSw => ?_)
      clear hK K hS2
      refine wpAnyX_take (i:=9) (v:=?_) rfl (by kernel_rfl) (by decide) (by kernel_rfl) (by kernel_rfl) (by kernel_rfl) (by kernel_rfl) (fun _ _ _ h => h) (Or.inl ⟨by rfl,?_⟩) hSw ?_
      rotate_left
      · intro w9 hS9;(try dsimp only at hS9);have s1:=hS9;go_simp;(try with_reducible rfl)
      simp only [List.getElem_toArray,List.getElem_cons_succ,List.getElem_cons_zero,Act.put,List.setIfInBounds_toArray,List.set_cons_zero,List.set_cons_succ]
      refine wpAnyX_ready (rs:=[10]) (by kernel_rfl) (by simp) ?_
      refine AllReadyX.cons rfl (fun K hK => ?_) AllReadyX.nil
      simp only [List.getElem_toArray,List.getElem_cons_succ,List.getElem_cons_zero]
      go_simp
      refine hK.out _ _ (cell_alloc hSw _) (fun hSw => ?_)
      clear hK K hSw
      refine wpAnyX_tail (by rfl) (by kernel_rfl) ?_
      simp only [List.drop_succ_cons,List.drop_zero]
      go_wp2_with fail
      go_meet
      have hz2:=Hb2.out.size
      simp at hz2
      have hk:Keep (fun j => j = w.heap.size + 1) w2 (w2.setCell ⟨w.heap.size + 1,0,none⟩ (.pointer (some ⟨w2.heap.size,0,none⟩))):=Keep.setCell (S:=fun j => j = w.heap.size + 1) (Keep.refl _ _) ⟨w.heap.size + 1,0,none⟩ (.inr rfl) _
      have h0:Below (w.heap.size + 1) (w.alloc (.cells #[.int .i64 n] 3)) w2:=((Below.refl _ _).alloc (by simp) _).drew.trans (Hb2.out.mono (by omega))
      refine ⟨w.heap.size + 1,w2.heap.size,Ab,cb,rfl,?_,?_,?_,by omega,by omega,?_⟩
      · exact (Below.heap_alloc _ _ _ (by simpa using hPl)).trans (heap_setCell_same w2 (w.heap.size + 1) 0 _ _ _ HP2.out)
      · have:=heap_alloc_new (w2.setCell ⟨w.heap.size + 1,0,none⟩ (.pointer (some ⟨w2.heap.size,0,none⟩))) (.cells #[.int .i64 batch,.int .i64 steps,.slice Ab nb cb,.slice none 0 0] 190)
        rwa [show (w2.setCell ⟨w.heap.size + 1,0,none⟩ (.pointer (some ⟨w2.heap.size,0,none⟩))).heap.size = w2.heap.size by simp] at this
      · exact own_base ((hk.own Ho.out (fun j hj e => block_notrow HP2.out (by decide) Ho.out (by rw [hj,e]))).alloc _) (by omega)
      · exact (h0.trans (hk.toBelow (by omega) (fun j hj => by omega))).alloc (by simp;omega) _
  case rest =>
    obtain ⟨P2,S,Ab,cb,rfl,hP2,hS,hob,hl2,hlS,hbc⟩:=hcut
    have hbw:Below w.heap.size w wc:=((Below.refl _ w).alloc (Nat.le_refl _) _).trans (hbc.mono (by omega))
    have hNb:=(hbc.block w.heap.size (by omega)).trans (heap_alloc_new w (.cells #[.int .i64 n] 3))
    have hdn:=dnew_any A l c wc (HA.out.below hbw) (by have:=HN.out;omega)
    rw [HN.out] at hdn
    have HP2:=Lib.hid hP2;have HS:=Lib.hid hS;have Hob:=Lib.hid hob;have Hbw:=Lib.hid hbw;have HNb:=Lib.hid hNb;have Hdn:=Lib.hid hdn
    clear hP2 hS hob hbw hNb hdn hbc
    go_wp2_with fail
    refine Hdn.out.mono ?_
    rintro e w3 ⟨b,A3,c3,rfl,hst3,hA3,hb3,hB3⟩
    have hP3:=(hB3.block _ (lt_of_block HP2.out)).trans HP2.out
    have hS3:=(hB3.block _ (lt_of_block HS.out)).trans HS.out
    have hN3:=(hB3.block _ (lt_of_block HNb.out)).trans HNb.out
    have hob3:=own_below Hob.out hB3
    have hbw3:=Hbw.out.trans (hB3.mono Hbw.out.size)
    have hz3:=hB3.size
    obtain ⟨t0,tf⟩:=bx1 hP3
    obtain ⟨⟨y0,y1,y2,y3⟩,yf⟩:=bx4 hS3
    have l1:=lt_of_block hP3
    have l2:=lt_of_block hS3
    have HP3:=Lib.hid hP3;have HS3:=Lib.hid hS3;have HN3:=Lib.hid hN3;have Hob3:=Lib.hid hob3;have Hbw3:=Lib.hid hbw3;have Hst3:=Lib.hid hst3;have HA3:=Lib.hid hA3
    clear hP3 hS3 hN3 hob3 hbw3 hst3 hA3 hB3
    go_wp2_with fail
    have he:epN n batch steps = cntQ steps nb:=by unfold epN;rw [Hnb.out]
    have hec:=cntQ_le steps nb
    have hd:=Hd.out
    rw [he] at hd
    rw [HN.out] at hd
    obtain ⟨E,hE⟩:∃ E,cntQ steps nb = E:=⟨_,rfl⟩
    rw [hE] at he hec hd
    have hco:=count_any steps nb (w3.alloc (.cells #[.pointer (some ⟨b,0,none⟩)] 191)) hst hnb1 (by omega)
    rw [hE] at hco
    have He:=Lib.hid he;have Hd2:=Lib.hid hd;have Hco:=Lib.hid hco
    clear he hd hco hE
    refine Hco.out.mono ?_
    rintro e w' ⟨rfl,rfl⟩
    obtain ⟨W0,hW0⟩:∃ W0,W0 = w3.alloc (.cells #[.pointer (some ⟨b,0,none⟩)] 191):=⟨_,rfl⟩
    have hP1:W0.heap[w3.heap.size]? = some (.cells #[.pointer (some ⟨b,0,none⟩)] 191 (0,0)):=by rw [hW0];exact heap_alloc_new w3 _
    have hB0:Below w3.heap.size w3 W0:=by rw [hW0];exact (Below.refl _ _).alloc (Nat.le_refl _) _
    have hz0:w3.heap.size < W0.heap.size:=lt_of_block hP1
    have hS0:=(hB0.block _ l2).trans HS3.out
    have hP20:=(hB0.block _ l1).trans HP3.out
    have hN0:=(hB0.block _ (lt_of_block HN3.out)).trans HN3.out
    have hob0:=own_below Hob3.out hB0
    have hst0:=Hst3.out.below hB0
    have hbw0:=Hbw3.out.trans (hB0.mono Hbw3.out.size)
    rw [← hW0]
    have hNl:=lt_of_block hN0
    have hbl:=hst0.lt
    have hbS:b ≠ S:=fun e => by
      have h1:=hst0.blk;rw [e,hS0] at h1;simp at h1
    have hNot:∀ {x t},W0.heap[x]? = some (.cells #[t] 3 (0,0)) ∨ W0.heap[x]? = some (.cells #[t] 191 (0,0)) ∨ W0.heap[x]? = some (.cells #[t] 112 (0,0)) → ¬ (x = b ∨ x = S):=fun h => by
      rintro (rfl | rfl)
      · have h1:=hst0.blk;rcases h with h | h | h <;> (rw [h1] at h;simp at h)
      · rcases h with h | h | h <;> (rw [hS0] at h;simp at h)
    have hnN:=hNot (.inl hN0)
    have hnP1:=hNot (.inr (.inl hP1))
    have hnP2:=hNot (.inr (.inr hP20))
    have hobl:=hob0.lt
    have hAl:∀ a,A3 = some a → ¬ (a.block = b ∨ a.block = S):=fun a ha => by
      rintro (h | h)
      · exact hst0.ne a ha h
      · have:=HA3.out a ha;have:=lt_of_block HS.out;omega
    have hHob:∀ j,(Value.slice Ab nb cb).ownBlock = some j → ¬ (j = b ∨ j = S):=fun j hj => by
      rintro (rfl | rfl)
      · exact block_notrow hst0.blk (by decide) hob0 hj.symm
      · exact block_notrow hS0 (by decide) hob0 hj.symm
    have HP1:=Lib.hid hP1;have HS0:=Lib.hid hS0;have HP20:=Lib.hid hP20;have HN0:=Lib.hid hN0;have Hob0:=Lib.hid hob0;have Hst0:=Lib.hid hst0;have Hbw0:=Lib.hid hbw0;have HnN:=Lib.hid hnN;have HnP1:=Lib.hid hnP1;have HnP2:=Lib.hid hnP2;have HAl:=Lib.hid hAl;have HHob:=Lib.hid hHob;have HbS:=Lib.hid hbS
    clear hP1 hS0 hP20 hN0 hob0 hst0 hbw0 hnN hnP1 hnP2 hAl hHob hbS hNot hobl hB0 hW0 Hco HP3 HS3 HN3 Hob3 Hst3 t0 tf y0 y1 y2 y3 yf
    go_wp2_with fail
    go_loopw [57] (fun x wr => ∃ k:Nat,k ≤ E ∧ x = .int .i64 k ∧ SampI W0 wr S n b c3 k A3 l (.int .i64 batch) (.int .i64 steps) (.slice Ab nb cb)) (fun x _ => E - (intOf x).toNat)
    case atStart =>
      refine ⟨0,Nat.zero_le _,rfl,none,0,[],HS0.out,World.ownsRow_nil _ _ _ _,fun j hj => by omega,?_,Keep.refl _ _⟩
      rw [Nat.zero_mul];exact Hst0.out.blk
    case round =>
      obtain ⟨k,hk,rfl,Ao,co,vs,hS,hor,hrows,hbk,hK⟩:=hrel
      by_cases hlt:k < E
      · have hki:k * (n - 1) + (n - 1) ≤ N:=by
          have h1:(k + 1) * (n - 1) ≤ E * (n - 1):=Nat.mul_le_mul_right _ hlt
          rw [Nat.succ_mul] at h1
          have:=Hd2.out
          omega
        have hst:StreamAt wr b A3 c3 l (k * (n - 1)):=⟨hbk,hK.rd Hst0.out.rd (fun a ha e => HAl.out a ha e),Hst0.out.ne⟩
        have hep:=epoch_any w.heap.size w3.heap.size P2 S n b c3 (k * (n - 1)) k W0.heap.size A3 l Ao co (.int .i64 batch) (.int .i64 steps) (.slice Ab nb cb) vs wr
          ((hK.block _ hNl HnN.out).trans HN0.out) ((hK.block _ hz0 HnP1.out).trans HP1.out) ((hK.block _ (by omega) HnP2.out).trans HP20.out) hS hst hor hK.size (by omega) (by omega) hn (by rw [HN.out];exact hki) (by rw [HN.out];exact hl) Hu.out
        have Hep:=Lib.hid hep;have Hrows:=Lib.hid hrows;have HK:=Lib.hid hK
        clear hep hrows hK hst hS hor hbk
        go_wp2_with fail
        refine Hep.out.mono ?_
        rintro e w5 ⟨rfl,A1,c1,Ao',co',hS5,hor5,hc1,ho5,hb5,hall5,hK5⟩
        have hK5':Keep (fun j => j = b ∨ j = S) W0 w5:=⟨hK5.os.trans HK.out.os,hK5.tape.trans HK.out.tape,hK5.output.trans HK.out.output,Nat.le_trans HK.out.size hK5.size,fun j hj hn => (hK5.block j (Nat.lt_of_lt_of_le hj HK.out.size) (fun h => by
          rcases h with h | h | h
          · exact hn (.inl h)
          · exact hn (.inr h)
          · omega)).trans (HK.out.block j hj hn)⟩
        have hrows5:∀ j,j < k + 1 → ∃ A' c',(vs ++ [Value.slice A1 n c1])[j]? = some (.slice A' n c') ∧ n ≤ c' ∧ w5.ownsRow W0.heap.size 3 1 (.slice A' n c') n (nums .i64 (permN l n (j * (n - 1)))):=fun j hj => by
          have hvl:vs.length = k:=by have:=hor5.1;simp at this;omega
          rcases Nat.lt_or_ge j k with h | h
          · obtain ⟨A',c',k1,k2,k3⟩:=Hrows.out j h
            exact ⟨A',c',by rw [List.getElem?_append_left (by omega)];exact k1,k2,hall5 _ _ _ _ k3⟩
          · obtain rfl:j = k:=by omega
            exact ⟨A1,c1,by rw [List.getElem?_append_right (by omega),hvl];simp,hc1,ho5⟩
        have hS5':SampI W0 w5 S n b c3 (k + 1) A3 l (.int .i64 batch) (.int .i64 steps) (.slice Ab nb cb):=⟨Ao',co',_,hS5,hor5,hrows5,by rw [Nat.succ_mul];exact hb5,hK5'⟩
        have HS5:=Lib.hid hS5';clear hS5' hS5 hor5 hc1 ho5 hb5 hall5 hK5 hK5' hrows5
        go_wp2_with fail
        go_roundw
        case rel => exact ⟨k + 1,by omega,by go_num,HS5.out⟩
        case measure => simp [intOf];omega
      · obtain rfl:E = k:=by omega
        have hP2:=(hK.block _ (by omega) HnP2.out).trans HP20.out
        have hW0:=Hbw0.out.size
        have hfin:SampAt (topW w.heap.size wr) S n batch steps l ∧ w.heap.size ≤ S:=by
          refine ⟨?_,by omega⟩
          refine ⟨Ab,cb,Ao,co,vs,?_,?_,Rd.own (own_top hor hW0),?_,?_⟩
          · rw [He.out,Hnb.out,top_blk (by omega)];exact hS
          · rw [Hr.out,Hnb.out];exact Rd.own (own_top (hK.own Hob0.out HHob.out) (by omega))
          · have:=hor.1;rw [He.out];omega
          · intro j hj
            rw [He.out] at hj
            obtain ⟨A',c',k1,k2,k3⟩:=hrows j hj
            exact ⟨A',c',k1,k2,Rd.own (own_top k3 hW0)⟩
        have hbf:Below w.heap.size w wr:=Hbw0.out.trans (hK.toBelow Hbw0.out.size (fun j hj => by have:=hb3;have:=Hbw.out.size;rcases hj with h | h <;> omega))
        obtain ⟨t0,tf⟩:=bx1 hP2
        have Hfin:=Lib.hid hfin;have Hbf:=Lib.hid hbf
        clear hfin hbf hS hor hrows hbk hK hP2
        go_wp2_with fail
        go_ret2
        exact ⟨S,rfl,Hfin.out.1,Hfin.out.2,Hbf.out⟩
end Go.Proofs.YtaccfnffmbndhaaGreat
namespace Go.Proofs.YtaccfnffmbndhaaGreat
open Go.RowKit
structure Inp where
  cfg:Cfg
  data:List Ex
  start:List Int
  draws:List Int
def needN (n b st:Nat):Nat:=epN n b st * (n - 1)
theorem epN_le (n b st:Nat):epN n b st ≤ st:=cntQ_le _ _
theorem needN_le {n b st:Nat} (hn:n ≤ 1048576) (hs:st ≤ 1048576):needN n b st ≤ 1099511627776:=by
  have h1:=epN_le n b st
  have h2:epN n b st * (n - 1) ≤ 1048576 * 1048576:=Nat.mul_le_mul (by omega) (by omega)
  unfold needN
  omega
def inN (i:Inp):Nat:=szN i.cfg.sizes 0
def outN (i:Inp):Nat:=szN i.cfg.sizes (i.cfg.sizes.length - 1)
def cnt (i:Inp):Nat:=cntN i.cfg.sizes (i.cfg.sizes.length - 1)
def batchB (i:Inp):Bool:=decide (i.cfg.batch ≤ i.data.length ∧ i.data.length ≤ 1048576)
def fitB (i:Inp):Bool:=decide (∀ x ∈ i.data,fitEx (inN i) (outN i) x)
def shapeB (i:Inp):Bool:=fitB i && decide (i.start.length = cnt i)
def drawsB (i:Inp):Bool:=decide (needN i.data.length i.cfg.batch.toNat i.cfg.steps.toNat ≤ i.draws.length)
noncomputable def inCode (i:Inp):Int:=if cfgCode i.cfg ≠ 0 then cfgCode i.cfg else if batchB i = false then 7 else if shapeB i = false then 5 else if drawsB i = false then 8 else 0
theorem in_c {i:Inp} (h:cfgCode i.cfg ≠ 0):inCode i = cfgCode i.cfg:=by unfold inCode;rw [if_pos h]
theorem in_7 {i:Inp} (h0:cfgCode i.cfg = 0) (h:batchB i = false):inCode i = 7:=by unfold inCode;rw [if_neg (by simp [h0]),if_pos h]
theorem in_5 {i:Inp} (h0:cfgCode i.cfg = 0) (h1:batchB i = true) (h:shapeB i = false):inCode i = 5:=by unfold inCode;rw [if_neg (by simp [h0]),if_neg (by simp [h1]),if_pos h]
theorem in_8 {i:Inp} (h0:cfgCode i.cfg = 0) (h1:batchB i = true) (h2:shapeB i = true) (h:drawsB i = false):inCode i = 8:=by unfold inCode;rw [if_neg (by simp [h0]),if_neg (by simp [h1]),if_neg (by simp [h2]),if_pos h]
theorem in_0 {i:Inp} (h0:cfgCode i.cfg = 0) (h1:batchB i = true) (h2:shapeB i = true) (h:drawsB i = true):inCode i = 0:=by unfold inCode;rw [if_neg (by simp [h0]),if_neg (by simp [h1]),if_neg (by simp [h2]),if_neg (by simp [h])]
structure GoodIn (i:Inp):Prop where
  c:GoodCfg i.cfg
  b:i.cfg.batch ≤ i.data.length ∧ i.data.length ≤ 1048576
  f:∀ x ∈ i.data,fitEx (inN i) (outN i) x
  s:i.start.length = cnt i
  d:needN i.data.length i.cfg.batch.toNat i.cfg.steps.toNat ≤ i.draws.length
theorem in_good {i:Inp}:inCode i = 0 ↔ GoodIn i:=by
  constructor
  · intro h
    by_cases h0:cfgCode i.cfg = 0
    · cases h1:batchB i with
      | false => rw [in_7 h0 h1] at h;omega
      | true =>
        cases h2:shapeB i with
        | false => rw [in_5 h0 h1 h2] at h;omega
        | true =>
          cases h3:drawsB i with
          | false => rw [in_8 h0 h1 h2 h3] at h;omega
          | true =>
            simp only [shapeB,Bool.and_eq_true] at h2
            exact ⟨cfg_good.1 h0,of_decide_eq_true h1,of_decide_eq_true h2.1,of_decide_eq_true h2.2,of_decide_eq_true h3⟩
    · rw [in_c h0] at h;exact absurd h h0
  · intro h
    refine in_0 (cfg_good.2 h.c) (decide_eq_true h.b) ?_ (decide_eq_true h.d)
    simp only [shapeB,Bool.and_eq_true]
    exact ⟨decide_eq_true h.f,decide_eq_true h.s⟩
end Go.Proofs.YtaccfnffmbndhaaGreat
