/- The reference's ring: Segment, chunks, Round. The reference's plan: Buckets and Job; appending items. No condition. -/
import Derived.Test.YtaccfnffmbndhaaGreatB27
import Derived.Test.YtaccfnffmbndhaaGreatB09
import Derived.Test.YtaccfnffmbndhaaGreatB10
set_option linter.unusedSimpArgs false
set_option linter.unusedVariables false
namespace Go.Proofs.YtaccfnffmbndhaaGreat
open Go.RowKit
theorem et_ract:ElemT Tryz.prog 217 134 (.agg #[.bool false,.bool false,.int .i64 0,.int .i64 0,.int .i64 0,.int .i64 0,.int .i64 0,.int .i64 0,.int .i64 0]) 9 64:=⟨Tryz.underlying217,info_parts (by kernel_rfl),rfl,by decide⟩
set_option maxRecDepth 100000 in
theorem rseg_out (st bk lo hi W c x ph r:Nat) (w:World) (h1:1 ≤ W) (h2:W ≤ 1048576) (hx:x < W) (hp:ph < 2) (hr:r + 1 < W) :
    Calls Tryz.prog 160 #[.agg #[.int .i64 (st:Nat),.int .i64 (bk:Nat),.int .i64 (lo:Nat),.int .i64 (hi:Nat),.int .i64 (W:Nat),.int .i64 (c:Nat)],.int .i64 x,.int .i64 ph,.int .i64 r,.bool true] w fun e w' => e = .returned (.tuple #[.int .i64 (segOut W x ph r:Nat),.bool true]) ∧ Below w.heap.size w w':=by
  obtain ⟨s,hs⟩:∃ s,x + (2 * W + ph - r) = s:=⟨_,rfl⟩
  have e1:(x:Int) - r + ph + 2 * W = (s:Int):=by omega
  have e0:segOut W x ph r = s % W:=by unfold segOut;rw [← hs]
  rw [e0]
  have hm1:(s:Int).tmod (W:Int) = ((s % W:Nat):Int):=rfl
  have hm2:(s:Int) % (W:Int) = ((s % W:Nat):Int):=rfl
  have hk0:¬ (W = 0):=by omega
  have f1:¬ ((W:Int) ≤ x):=by omega
  have f2:¬ (1 < (ph:Int)):=by omega
  have f3:¬ ((W:Int) - 2 < (r:Int)):=by omega
  obtain ⟨q,hq⟩:∃ q,s % W = q:=⟨_,rfl⟩
  rw [hq] at hm1 hm2 ⊢
  obtain ⟨W0,hW0⟩:∃ W0,w.alloc (.cells #[.int .i64 (st:Nat),.int .i64 (bk:Nat),.int .i64 (lo:Nat),.int .i64 (hi:Nat),.int .i64 (W:Nat),.int .i64 (c:Nat)] 220) = W0:=⟨_,rfl⟩
  have h0:W0.heap[w.heap.size]? = some (.cells #[.int .i64 (st:Nat),.int .i64 (bk:Nat),.int .i64 (lo:Nat),.int .i64 (hi:Nat),.int .i64 (W:Nat),.int .i64 (c:Nat)] 220 (0,0)):=by rw [← hW0];exact heap_alloc_new w _
  have hB0:Below w.heap.size w W0:=by rw [← hW0];exact (br w).alloc (Nat.le_refl _) _
  have t0:=fun w' q => bx6 (sb h0 w' q)
  have HW0:=Lib.hid hW0;have HB0:=Lib.hid hB0
  have q0:=br W0
  clear hW0 h0 hB0 hs hq e0
  go_enter Tryz.func160,Tryz.ntmps160
  go_wp2_with fail
  try rw [HW0.out]
  try go_wp2_with fail
  go_ret2
  exact ⟨rfl,HB0.out⟩
set_option maxRecDepth 100000 in
theorem rseg_in (st bk lo hi W c x ph r:Nat) (w:World) (h1:1 ≤ W) (h2:W ≤ 1048576) (hx:x < W) (hp:ph < 2) (hr:r + 1 < W) :
    Calls Tryz.prog 160 #[.agg #[.int .i64 (st:Nat),.int .i64 (bk:Nat),.int .i64 (lo:Nat),.int .i64 (hi:Nat),.int .i64 (W:Nat),.int .i64 (c:Nat)],.int .i64 x,.int .i64 ph,.int .i64 r,.bool false] w fun e w' => e = .returned (.tuple #[.int .i64 (segIn W x ph r:Nat),.bool true]) ∧ Below w.heap.size w w':=by
  obtain ⟨s,hs⟩:∃ s,x + (2 * W + ph - r - 1) = s:=⟨_,rfl⟩
  have e1:(x:Int) - r + ph - 1 + 2 * W = (s:Int):=by omega
  have e0:segIn W x ph r = s % W:=by unfold segIn;rw [← hs]
  rw [e0]
  have hm1:(s:Int).tmod (W:Int) = ((s % W:Nat):Int):=rfl
  have hm2:(s:Int) % (W:Int) = ((s % W:Nat):Int):=rfl
  have hk0:¬ (W = 0):=by omega
  have f1:¬ ((W:Int) ≤ x):=by omega
  have f2:¬ (1 < (ph:Int)):=by omega
  have f3:¬ ((W:Int) - 2 < (r:Int)):=by omega
  obtain ⟨q,hq⟩:∃ q,s % W = q:=⟨_,rfl⟩
  rw [hq] at hm1 hm2 ⊢
  obtain ⟨W0,hW0⟩:∃ W0,w.alloc (.cells #[.int .i64 (st:Nat),.int .i64 (bk:Nat),.int .i64 (lo:Nat),.int .i64 (hi:Nat),.int .i64 (W:Nat),.int .i64 (c:Nat)] 220) = W0:=⟨_,rfl⟩
  have h0:W0.heap[w.heap.size]? = some (.cells #[.int .i64 (st:Nat),.int .i64 (bk:Nat),.int .i64 (lo:Nat),.int .i64 (hi:Nat),.int .i64 (W:Nat),.int .i64 (c:Nat)] 220 (0,0)):=by rw [← hW0];exact heap_alloc_new w _
  have hB0:Below w.heap.size w W0:=by rw [← hW0];exact (br w).alloc (Nat.le_refl _) _
  have t0:=fun w' q => bx6 (sb h0 w' q)
  have HW0:=Lib.hid hW0;have HB0:=Lib.hid hB0
  have q0:=br W0
  clear hW0 h0 hB0 hs hq e0
  go_enter Tryz.func160,Tryz.ntmps160
  go_wp2_with fail
  try rw [HW0.out]
  try go_wp2_with fail
  go_ret2
  exact ⟨rfl,HB0.out⟩
theorem segR_le {b:Rg} {k:Nat} (h1:1 ≤ k) (hb:b.1 ≤ b.2):∀ r ∈ segR b k,r.1 ≤ r.2 ∧ r.2 ≤ b.2:=by
  intro r hr
  simp only [segR,shR,evenR,List.map_map,List.mem_map,List.mem_range,Function.comp] at hr
  obtain ⟨i,hi,rfl⟩:=hr
  have c:=bdN_le (b.2 - b.1) k (i + 1) h1 (by omega)
  have d:=bdN_mono (b.2 - b.1) k (show i ≤ i + 1 by omega)
  exact ⟨by simp only;omega,by simp only;omega⟩
set_option maxRecDepth 100000 in
theorem rch_any (st bk lo hi W c s:Nat) (w:World) (h1:1 ≤ W) (h2:W ≤ 1048576) (hs:s < W) (h3:lo ≤ hi) (h4:hi ≤ 1048576) (h5:1 ≤ c) (h6:c ≤ 1048576) :
    Calls Tryz.prog 161 #[.agg #[.int .i64 (st:Nat),.int .i64 (bk:Nat),.int .i64 (lo:Nat),.int .i64 (hi:Nat),.int .i64 (W:Nat),.int .i64 (c:Nat)],.int .i64 s] w fun e w' => ∃ v,e = .returned v ∧ w'.ownsRow w.heap.size 132 2 v (chR (rgAt (segR (lo,hi) W) s) c).length (rgVals (chR (rgAt (segR (lo,hi) W) s) c)) ∧ Below w.heap.size w w':=by
  obtain ⟨W0,hW0⟩:∃ W0,w.alloc (.cells #[.int .i64 (st:Nat),.int .i64 (bk:Nat),.int .i64 (lo:Nat),.int .i64 (hi:Nat),.int .i64 (W:Nat),.int .i64 (c:Nat)] 220) = W0:=⟨_,rfl⟩
  have h0:W0.heap[w.heap.size]? = some (.cells #[.int .i64 (st:Nat),.int .i64 (bk:Nat),.int .i64 (lo:Nat),.int .i64 (hi:Nat),.int .i64 (W:Nat),.int .i64 (c:Nat)] 220 (0,0)):=by rw [← hW0];exact heap_alloc_new w _
  have hB0:Below w.heap.size w W0:=by rw [← hW0];exact (br w).alloc (Nat.le_refl _) _
  have t0:=fun w' q => bx6 (sb h0 w' q)
  have hse:=segR_le (b:=(lo,hi)) h1 h3
  have hsl:=segR_len (lo,hi) W
  have hsI:(s:Int) < W:=by omega
  have HW0:=Lib.hid hW0;have HB0:=Lib.hid hB0
  have q0:=br W0
  clear hW0 h0 hB0
  go_enter Tryz.func161,Tryz.ntmps161
  go_wp2_with fail
  rw [HW0.out]
  refine HA.g (fun w':World => Below W0.heap.size W0 w') ?_
  refine HA.t ?_ [0,1,2,3,5,8,9] q0.drew ?_
  refine HA.c 4 (rsegs_any lo hi W _ h1 h2 h3 h4) ?_
  rintro e w2 ⟨v2,rfl,o2,k2⟩
  have q2:=bt q0.drew k2
  obtain ⟨g,c2,rfl,_⟩:=o2.form (by omega)
  have pc:=rg_cell o2 hs
  have hin:=hse (rgAt (segR (lo,hi) W) s) (by rw [rgAt_eq _ _ (by rw [hsl];exact hs)];exact List.getElem_mem _)
  try dsimp only at hin
  obtain ⟨b1,b2,hbb⟩:∃ b1 b2,rgAt (segR (lo,hi) W) s = (b1,b2):=⟨_,_,rfl⟩
  rw [hbb] at pc hin
  try dsimp only at pc hin
  obtain ⟨d0,d1⟩:=pc
  refine ⟨_,rfl,q2,fun _ => ?_⟩
  refine HA.v 6 w2 (.pointer (some ⟨g,s * 2,none⟩)) q2 ?_
  refine HA.v 7 w2 (.agg #[.int .i64 (b1:Nat),.int .i64 (b2:Nat)]) q2 ?_
  refine HA.c 10 (rchks_any b1 b2 c w2 h5 h6 hin.1 (by omega)) ?_
  rintro e w4 ⟨v4,rfl,o4,k4⟩
  have q4:=bt q2 k4
  refine ⟨_,rfl,q4,fun _ => ?_⟩
  refine HA.t ?_ [11] q4 ?_
  refine HA.d ?_
  have hB:=Lib.hid (HB0.out.trans (q4.mono HB0.out.size))
  rw [← hbb] at o4
  have O4:=Lib.hid (own_base (base':=w.heap.size) o4 (Nat.le_trans HB0.out.size q2.size))
  clear o4 o2 k2 k4 q2 q4 t0
  go_wp2_with fail
  go_ret
  exact ⟨_,rfl,O4.out,hB.out⟩
set_option maxRecDepth 100000 in
set_option maxHeartbeats 2000000 in
theorem rround_any (st bk lo hi W c x ph r:Nat) (w:World) (h1:1 ≤ W) (h2:W ≤ 1048576) (hx:x < W) (hp:ph < 2) (hr:r + 1 < W) (h3:lo ≤ hi) (h4:hi ≤ 1048576) (h5:1 ≤ c) (h6:c ≤ 1048576) :
    Calls Tryz.prog 125 #[.agg #[.int .i64 (st:Nat),.int .i64 (bk:Nat),.int .i64 (lo:Nat),.int .i64 (hi:Nat),.int .i64 (W:Nat),.int .i64 (c:Nat)],.int .i64 x,.int .i64 ph,.int .i64 r] w fun e w' => ∃ v,e = .returned v ∧ w'.ownsRow w.heap.size 134 9 v (roundL st bk (lo,hi) W c x ph r).length (acnVals (roundL st bk (lo,hi) W c x ph r)) ∧ Below w.heap.size w w':=by
  obtain ⟨W0,hW0⟩:∃ W0,w.alloc (.cells #[.int .i64 (st:Nat),.int .i64 (bk:Nat),.int .i64 (lo:Nat),.int .i64 (hi:Nat),.int .i64 (W:Nat),.int .i64 (c:Nat)] 220) = W0:=⟨_,rfl⟩
  have h0:W0.heap[w.heap.size]? = some (.cells #[.int .i64 (st:Nat),.int .i64 (bk:Nat),.int .i64 (lo:Nat),.int .i64 (hi:Nat),.int .i64 (W:Nat),.int .i64 (c:Nat)] 220 (0,0)):=by rw [← hW0];exact heap_alloc_new w _
  have hB0:Below w.heap.size w W0:=by rw [← hW0];exact (br w).alloc (Nat.le_refl _) _
  have t0:=fun w' q => bx6 (sb h0 w' q)
  have HW0:=Lib.hid hW0;have HB0:=Lib.hid hB0;have H0:=Lib.hid h0
  have q0:=br W0
  clear hW0 h0 hB0
  go_enter Tryz.func125,Tryz.ntmps125
  go_wp2_with fail
  rw [HW0.out]
  refine (rseg_out st bk lo hi W c x ph r W0 h1 h2 hx hp hr).mono ?_
  rintro e w1 ⟨rfl,k1⟩
  have q1:=bt q0 k1
  go_wp2_with fail
  refine (rseg_in st bk lo hi W c x ph r w1 h1 h2 hx hp hr).mono ?_
  rintro e w2 ⟨rfl,k2⟩
  have q2:=bt q1 k2
  have hso:segOut W x ph r < W:=Nat.mod_lt _ h1
  have hsi:segIn W x ph r < W:=Nat.mod_lt _ h1
  go_wp2_with fail
  refine (rch_any st bk lo hi W c _ w2 h1 h2 hso h3 h4 h5 h6).mono ?_
  rintro e w3 ⟨v3,rfl,o3,k3⟩
  have q3:=bt q2 k3
  obtain ⟨A3,c3,rfl,_⟩:=own_form o3
  go_wp2_with fail
  refine (rch_any st bk lo hi W c _ w3 h1 h2 hsi h3 h4 h5 h6).mono ?_
  rintro e w4 ⟨v4,rfl,o4,k4⟩
  have q4:=bt q3 k4
  obtain ⟨A4,c4,rfl,_⟩:=own_form o4
  have o3':=own_below o3 k4
  have hXl:(chR (rgAt (segR (lo,hi) W) (segOut W x ph r)) c).length ≤ 1048576:=chR_le h1 h3 h4
  have hYl:(chR (rgAt (segR (lo,hi) W) (segIn W x ph r)) c).length ≤ 1048576:=chR_le h1 h3 h4
  have HR:Hid (roundL st bk (lo,hi) W c x ph r = pairUp (chR (rgAt (segR (lo,hi) W) (segOut W x ph r)) c) (chR (rgAt (segR (lo,hi) W) (segIn W x ph r)) c) (fun i s => (⟨true,false,st,bk,ph,r,i,s⟩:Acn)) (fun i s => (⟨false,ph == 0,st,bk,ph,r,i,s⟩:Acn))):=Lib.hid rfl
  obtain ⟨X,hX⟩:∃ X,chR (rgAt (segR (lo,hi) W) (segOut W x ph r)) c = X:=⟨_,rfl⟩
  obtain ⟨Y,hY⟩:∃ Y,chR (rgAt (segR (lo,hi) W) (segIn W x ph r)) c = Y:=⟨_,rfl⟩
  rw [hX] at o3' hXl HR ⊢
  rw [hY] at o4 hYl HR ⊢
  obtain ⟨so,hso0⟩:∃ so,segOut W x ph r = so:=⟨_,rfl⟩
  obtain ⟨si,hsi0⟩:∃ si,segIn W x ph r = si:=⟨_,rfl⟩
  rw [hso0] at hso ⊢
  rw [hsi0] at hsi ⊢
  obtain ⟨M,hM⟩:∃ M:Nat,max X.length Y.length = M:=⟨_,rfl⟩
  have O3:=Lib.hid o3';have O4:=Lib.hid o4;have Q4:=Lib.hid q4;have HM:=Lib.hid hM
  clear o3 o3' o4 q0 q1 q2 q3 q4 k1 k2 k3 k4 hX hY hso0 hsi0 hM t0
  go_wp2_with fail
  go_loopw [15,16] (fun v y wr => ∃ m:Nat,m ≤ M ∧ y = .int .i64 m ∧ wr.ownsRow w4.heap.size 134 9 v (pairK X Y (fun i s => (⟨true,false,st,bk,ph,r,i,s⟩:Acn)) (fun i s => (⟨false,ph == 0,st,bk,ph,r,i,s⟩:Acn)) m).length (acnVals (pairK X Y (fun i s => (⟨true,false,st,bk,ph,r,i,s⟩:Acn)) (fun i s => (⟨false,ph == 0,st,bk,ph,r,i,s⟩:Acn)) m)) ∧ Below w4.heap.size w4 wr) (fun _ y _ => M - (intOf y).toNat)
  case atStart => exact ⟨0,Nat.zero_le _,rfl,World.ownsRow_nil _ _ _ _,Below.refl _ _⟩
  case round =>
    obtain ⟨m,hm,rfl,ho,q⟩:=hrel
    have hl0:=pairK_le X Y (fun i s => (⟨true,false,st,bk,ph,r,i,s⟩:Acn)) (fun i s => (⟨false,ph == 0,st,bk,ph,r,i,s⟩:Acn)) m
    have hMl:M ≤ 1048576:=by have:=HM.out;omega
    obtain ⟨Av,cv,rfl,_⟩:=own_form ho
    obtain ⟨v,hv⟩:∃ v,Value.slice Av (pairK X Y (fun i s => (⟨true,false,st,bk,ph,r,i,s⟩:Acn)) (fun i s => (⟨false,ph == 0,st,bk,ph,r,i,s⟩:Acn)) m).length cv = v:=⟨_,rfl⟩
    rw [hv] at ho ⊢
    clear hv
    have hpe:((ph:Int) == 0) = (ph == 0):=by rw [Bool.eq_iff_iff];simp
    have hw1:IntKind.i64.wrap ((m:Int) + 1) = ((m + 1:Nat):Int):=by rw [IntWalk.i64_in _ (by omega)];push_cast;rfl
    have uJ:=fun w' (q':Below wr.heap.size wr w') => bx6 (sb H0.out w' (bt Q4.out (q.trans (q'.mono q.size))))
    obtain ⟨Wt,hWt⟩:∃ Wt,wr.alloc (.cells #[.int .i64 (st:Nat),.int .i64 (bk:Nat),.int .i64 (ph:Nat),.int .i64 (r:Nat),.int .i64 (m:Nat)] 50) = Wt:=⟨_,rfl⟩
    have gT:Wt.heap[wr.heap.size]? = some (.cells #[.int .i64 (st:Nat),.int .i64 (bk:Nat),.int .i64 (ph:Nat),.int .i64 (r:Nat),.int .i64 (m:Nat)] 50 (0,0)):=by rw [← hWt];exact heap_alloc_new wr _
    have kt:Below wr.heap.size wr Wt:=by rw [← hWt];exact (br wr).alloc (Nat.le_refl _) _
    have qr:=br wr
    have Ho:=Lib.hid ho;have HT:=Lib.hid gT;have HQ:=Lib.hid q;have HQt:=Lib.hid (q.trans (kt.mono q.size));have Ho':=Lib.hid (own_below ho kt);have HWt:=Lib.hid hWt
    clear ho q gT kt hWt
    by_cases h1:m < X.length
    · have h1i:(m:Int) < X.length:=by omega
      obtain ⟨gx,rfl⟩:∃ gx,A3 = some ⟨gx,0,none⟩:=by
        obtain ⟨g,e,hv,_⟩:=O3.out.form (by omega)
        simp only [Value.slice.injEq] at hv
        exact ⟨g,hv.1⟩
      have px:=rg_cell O3.out h1
      have hxa:rgAt X m = ((rgAt X m).1,(rgAt X m).2):=rfl
      obtain ⟨b1,hb1⟩:∃ b,(rgAt X m).1 = b:=⟨_,rfl⟩
      obtain ⟨b2,hb2⟩:∃ b,(rgAt X m).2 = b:=⟨_,rfl⟩
      rw [hb1,hb2] at px hxa
      have CX0:=Lib.hid px.1;have CX1:=Lib.hid px.2;have HXa:=Lib.hid hxa
      clear px hb1 hb2 hxa
      by_cases h2:m < Y.length
      · have h2i:(m:Int) < Y.length:=by omega
        obtain ⟨gy,rfl⟩:∃ gy,A4 = some ⟨gy,0,none⟩:=by
          obtain ⟨g,e,hv,_⟩:=O4.out.form (by omega)
          simp only [Value.slice.injEq] at hv
          exact ⟨g,hv.1⟩
        have py:=rg_cell O4.out h2
        have hya:rgAt Y m = ((rgAt Y m).1,(rgAt Y m).2):=rfl
        obtain ⟨b3,hb3⟩:∃ b,(rgAt Y m).1 = b:=⟨_,rfl⟩
        obtain ⟨b4,hb4⟩:∃ b,(rgAt Y m).2 = b:=⟨_,rfl⟩
        rw [hb3,hb4] at py hya
        have CY0:=Lib.hid py.1;have CY1:=Lib.hid py.2;have HYa:=Lib.hid hya
        clear py hb3 hb4 hya
        go_wp2_with fail
        rw [HWt.out]
        clear uJ qr
        have kT5:=fun w' (q:Keep (fun j => v.ownBlock = some j) Wt w') => (q.block _ (lt_of_block HT.out) (fun e => block_notrow HT.out (by decide) Ho'.out e.symm)).trans HT.out
        have tT5:=fun w' q => bx5 (kT5 w' q)
        have nb5:∀ g,g < w4.heap.size → ¬ v.ownBlock = some g:=fun g hg e => by
          have h:=(Ho'.out.lt g e).1
          omega
        have d05:=fun w' (q:Keep (fun j => v.ownBlock = some j) Wt w') => q.cell (cell_below HQt.out CX0.out) (nb5 _ (lt_of_cell CX0.out))
        have d15:=fun w' (q:Keep (fun j => v.ownBlock = some j) Wt w') => q.cell (cell_below HQt.out CX1.out) (nb5 _ (lt_of_cell CX1.out))
        have q05:Keep (fun j => v.ownBlock = some j) Wt Wt.drew:=(Keep.refl _ _).drew
        have HkT5:=Lib.hid kT5
        clear kT5 nb5
        refine HA.g (fun w':World => Keep (fun j => v.ownBlock = some j) Wt w') ?_
        refine HA.t ?_ [0,1,2,3,4,5,6] q05 ?_
        obtain ⟨a5,ha5⟩:∃ a:Acn,a = ⟨true,false,st,bk,ph,r,m,(b1,b2)⟩:=⟨_,rfl⟩
        refine HA.v 7 (Wt.drew.alloc (.cells (acnCells a5).toArray 134)) (.slice (some ⟨Wt.heap.size,0,none⟩) 1 1) (q05.alloc _) ?_ (he:=by subst ha5;go_simp;simp [acnCells,hpe];try rfl)
        refine HA.o 8 (fun K' hK => ?_)
        have hO5:=(Ho'.out.drew).alloc (.cells (acnCells a5).toArray 134)
        have hbs5:=HQt.out.size
        refine step_appX et_ract (.tmp 66) (.tmp 73) rfl rfl w4.heap.size v _ _ rfl hO5 (some ⟨Wt.heap.size,0,none⟩) 1 1 (acnCells a5) rfl (fun k u hu => ⟨_,_,rfl,by rw [Nat.zero_add,cell_of_row _ Wt.heap.size k (acnCells a5).toArray 134 (0,0) (heap_alloc_new Wt.drew _)];simpa using hu⟩) rfl (by simp [acnCells,Value.oneCell']) (by omega) (by unfold maxLen;omega) (by simp;omega) ?_
        intro A5 c5 w5 ho5 hb5 hg5 _
        have q5:Keep (fun j => v.ownBlock = some j) Wt w5:=(q05.alloc _).grown hg5 (fun k hk => .inr hk)
        refine hK.out _ _ q5 fun _ => ?_
        refine HA.t ?_ [9] q5 ?_
        refine HA.d ?_
        try simp only [Exit.then]
        have O5:=Lib.hid ho5;have T5:=Lib.hid (HkT5.out w5 q5);have Q5:=Lib.hid (HQt.out.trans (q5.toBelow HQt.out.size (fun j hj => (Ho'.out.lt j hj).1)));have Ha5:=Lib.hid ha5
        clear ho5 hb5 hg5 tT5 d05 d15 q05 q5 hK K' hO5 ha5 HkT5 hbs5
        go_wp2_with fail
        obtain ⟨v5,hv5⟩:∃ v,Value.slice A5 ((pairK X Y (fun i s => (⟨true,false,st,bk,ph,r,i,s⟩:Acn)) (fun i s => (⟨false,ph == 0,st,bk,ph,r,i,s⟩:Acn)) m).length + 1) c5 = v:=⟨_,rfl⟩
        rw [hv5] at O5 ⊢
        clear hv5
        have kT6:=fun w' (q:Keep (fun j => v5.ownBlock = some j) w5 w') => (q.block _ (lt_of_block T5.out) (fun e => block_notrow T5.out (by decide) O5.out e.symm)).trans T5.out
        have tT6:=fun w' q => bx5 (kT6 w' q)
        have nb6:∀ g,g < w4.heap.size → ¬ v5.ownBlock = some g:=fun g hg e => by
          have h:=(O5.out.lt g e).1
          omega
        have d06:=fun w' (q:Keep (fun j => v5.ownBlock = some j) w5 w') => q.cell (cell_below Q5.out CY0.out) (nb6 _ (lt_of_cell CY0.out))
        have d16:=fun w' (q:Keep (fun j => v5.ownBlock = some j) w5 w') => q.cell (cell_below Q5.out CY1.out) (nb6 _ (lt_of_cell CY1.out))
        have q06:Keep (fun j => v5.ownBlock = some j) w5 w5.drew:=(Keep.refl _ _).drew
        have HkT6:=Lib.hid kT6
        clear kT6 nb6
        refine HA.g (fun w':World => Keep (fun j => v5.ownBlock = some j) w5 w') ?_
        refine HA.t ?_ [0,1,2,3,4,5,6,7,8] q06 ?_
        obtain ⟨a6,ha6⟩:∃ a:Acn,a = ⟨false,ph == 0,st,bk,ph,r,m,(b3,b4)⟩:=⟨_,rfl⟩
        refine HA.v 9 (w5.drew.alloc (.cells (acnCells a6).toArray 134)) (.slice (some ⟨w5.heap.size,0,none⟩) 1 1) (q06.alloc _) ?_ (he:=by subst ha6;go_simp;simp [acnCells,hpe];try rfl)
        refine HA.o 10 (fun K' hK => ?_)
        have hO6:=(O5.out.drew).alloc (.cells (acnCells a6).toArray 134)
        have hbs6:=Q5.out.size
        refine step_appX et_ract (.tmp 79) (.tmp 88) rfl rfl w4.heap.size v5 _ _ rfl hO6 (some ⟨w5.heap.size,0,none⟩) 1 1 (acnCells a6) rfl (fun k u hu => ⟨_,_,rfl,by rw [Nat.zero_add,cell_of_row _ w5.heap.size k (acnCells a6).toArray 134 (0,0) (heap_alloc_new w5.drew _)];simpa using hu⟩) rfl (by simp [acnCells,Value.oneCell']) (by omega) (by unfold maxLen;omega) (by simp;omega) ?_
        intro A6 c6 w6 ho6 hb6 hg6 _
        have q6:Keep (fun j => v5.ownBlock = some j) w5 w6:=(q06.alloc _).grown hg6 (fun k hk => .inr hk)
        refine hK.out _ _ q6 fun _ => ?_
        refine HA.t ?_ [11] q6 ?_
        refine HA.d ?_
        try simp only [Exit.then]
        have O6:=Lib.hid ho6;have T6:=Lib.hid (HkT6.out w6 q6);have Q6:=Lib.hid (Q5.out.trans (q6.toBelow Q5.out.size (fun j hj => (O5.out.lt j hj).1)));have Ha6:=Lib.hid ha6
        clear ho6 hb6 hg6 tT6 d06 d16 q06 q6 hK K' hO6 ha6 HkT6 hbs6
        go_wp2_with fail
        go_roundw
        case rel => exact ⟨m + 1,by have:=HM.out;omega,by go_num,by rw [← pairK_add];simp only [actAdd,h1,h2,if_true,if_false,Bool.not_true,Bool.not_false,Bool.false_and,Bool.true_and];have:=O6.out;rw [Ha5.out,Ha6.out] at this;simpa [acnVals,HXa.out,HYa.out,List.length_append] using this,Q6.out⟩
        case measure => have:=HM.out;simp [intOf];omega
      · have h2i:¬ ((m:Int) < Y.length):=by omega
        go_wp2_with fail
        rw [HWt.out]
        clear uJ qr
        have kT5:=fun w' (q:Keep (fun j => v.ownBlock = some j) Wt w') => (q.block _ (lt_of_block HT.out) (fun e => block_notrow HT.out (by decide) Ho'.out e.symm)).trans HT.out
        have tT5:=fun w' q => bx5 (kT5 w' q)
        have nb5:∀ g,g < w4.heap.size → ¬ v.ownBlock = some g:=fun g hg e => by
          have h:=(Ho'.out.lt g e).1
          omega
        have d05:=fun w' (q:Keep (fun j => v.ownBlock = some j) Wt w') => q.cell (cell_below HQt.out CX0.out) (nb5 _ (lt_of_cell CX0.out))
        have d15:=fun w' (q:Keep (fun j => v.ownBlock = some j) Wt w') => q.cell (cell_below HQt.out CX1.out) (nb5 _ (lt_of_cell CX1.out))
        have q05:Keep (fun j => v.ownBlock = some j) Wt Wt.drew:=(Keep.refl _ _).drew
        have HkT5:=Lib.hid kT5
        clear kT5 nb5
        refine HA.g (fun w':World => Keep (fun j => v.ownBlock = some j) Wt w') ?_
        refine HA.t ?_ [0,1,2,3,4,5,6] q05 ?_
        obtain ⟨a5,ha5⟩:∃ a:Acn,a = ⟨true,false,st,bk,ph,r,m,(b1,b2)⟩:=⟨_,rfl⟩
        refine HA.v 7 (Wt.drew.alloc (.cells (acnCells a5).toArray 134)) (.slice (some ⟨Wt.heap.size,0,none⟩) 1 1) (q05.alloc _) ?_ (he:=by subst ha5;go_simp;simp [acnCells,hpe];try rfl)
        refine HA.o 8 (fun K' hK => ?_)
        have hO5:=(Ho'.out.drew).alloc (.cells (acnCells a5).toArray 134)
        have hbs5:=HQt.out.size
        refine step_appX et_ract (.tmp 66) (.tmp 73) rfl rfl w4.heap.size v _ _ rfl hO5 (some ⟨Wt.heap.size,0,none⟩) 1 1 (acnCells a5) rfl (fun k u hu => ⟨_,_,rfl,by rw [Nat.zero_add,cell_of_row _ Wt.heap.size k (acnCells a5).toArray 134 (0,0) (heap_alloc_new Wt.drew _)];simpa using hu⟩) rfl (by simp [acnCells,Value.oneCell']) (by omega) (by unfold maxLen;omega) (by simp;omega) ?_
        intro A5 c5 w5 ho5 hb5 hg5 _
        have q5:Keep (fun j => v.ownBlock = some j) Wt w5:=(q05.alloc _).grown hg5 (fun k hk => .inr hk)
        refine hK.out _ _ q5 fun _ => ?_
        refine HA.t ?_ [9] q5 ?_
        refine HA.d ?_
        try simp only [Exit.then]
        have O5:=Lib.hid ho5;have T5:=Lib.hid (HkT5.out w5 q5);have Q5:=Lib.hid (HQt.out.trans (q5.toBelow HQt.out.size (fun j hj => (Ho'.out.lt j hj).1)));have Ha5:=Lib.hid ha5
        clear ho5 hb5 hg5 tT5 d05 d15 q05 q5 hK K' hO5 ha5 HkT5 hbs5
        go_wp2_with fail
        go_roundw
        case rel => exact ⟨m + 1,by have:=HM.out;omega,by go_num,by rw [← pairK_add];simp only [actAdd,h1,h2,if_true,if_false,Bool.not_true,Bool.not_false,Bool.false_and,Bool.true_and];have:=O5.out;rw [Ha5.out] at this;simpa [acnVals,HXa.out,List.length_append] using this,Q5.out⟩
        case measure => have:=HM.out;simp [intOf];omega
    · have h1i:¬ ((m:Int) < X.length):=by omega
      by_cases h2:m < Y.length
      · have h2i:(m:Int) < Y.length:=by omega
        obtain ⟨gy,rfl⟩:∃ gy,A4 = some ⟨gy,0,none⟩:=by
          obtain ⟨g,e,hv,_⟩:=O4.out.form (by omega)
          simp only [Value.slice.injEq] at hv
          exact ⟨g,hv.1⟩
        have py:=rg_cell O4.out h2
        have hya:rgAt Y m = ((rgAt Y m).1,(rgAt Y m).2):=rfl
        obtain ⟨b3,hb3⟩:∃ b,(rgAt Y m).1 = b:=⟨_,rfl⟩
        obtain ⟨b4,hb4⟩:∃ b,(rgAt Y m).2 = b:=⟨_,rfl⟩
        rw [hb3,hb4] at py hya
        have CY0:=Lib.hid py.1;have CY1:=Lib.hid py.2;have HYa:=Lib.hid hya
        clear py hb3 hb4 hya
        go_wp2_with fail
        rw [HWt.out]
        clear uJ qr
        have kT6:=fun w' (q:Keep (fun j => v.ownBlock = some j) Wt w') => (q.block _ (lt_of_block HT.out) (fun e => block_notrow HT.out (by decide) Ho'.out e.symm)).trans HT.out
        have tT6:=fun w' q => bx5 (kT6 w' q)
        have nb6:∀ g,g < w4.heap.size → ¬ v.ownBlock = some g:=fun g hg e => by
          have h:=(Ho'.out.lt g e).1
          omega
        have d06:=fun w' (q:Keep (fun j => v.ownBlock = some j) Wt w') => q.cell (cell_below HQt.out CY0.out) (nb6 _ (lt_of_cell CY0.out))
        have d16:=fun w' (q:Keep (fun j => v.ownBlock = some j) Wt w') => q.cell (cell_below HQt.out CY1.out) (nb6 _ (lt_of_cell CY1.out))
        have q06:Keep (fun j => v.ownBlock = some j) Wt Wt.drew:=(Keep.refl _ _).drew
        have HkT6:=Lib.hid kT6
        clear kT6 nb6
        refine HA.g (fun w':World => Keep (fun j => v.ownBlock = some j) Wt w') ?_
        refine HA.t ?_ [0,1,2,3,4,5,6,7,8] q06 ?_
        obtain ⟨a6,ha6⟩:∃ a:Acn,a = ⟨false,ph == 0,st,bk,ph,r,m,(b3,b4)⟩:=⟨_,rfl⟩
        refine HA.v 9 (Wt.drew.alloc (.cells (acnCells a6).toArray 134)) (.slice (some ⟨Wt.heap.size,0,none⟩) 1 1) (q06.alloc _) ?_ (he:=by subst ha6;go_simp;simp [acnCells,hpe];try rfl)
        refine HA.o 10 (fun K' hK => ?_)
        have hO6:=(Ho'.out.drew).alloc (.cells (acnCells a6).toArray 134)
        have hbs6:=HQt.out.size
        refine step_appX et_ract (.tmp 79) (.tmp 88) rfl rfl w4.heap.size v _ _ rfl hO6 (some ⟨Wt.heap.size,0,none⟩) 1 1 (acnCells a6) rfl (fun k u hu => ⟨_,_,rfl,by rw [Nat.zero_add,cell_of_row _ Wt.heap.size k (acnCells a6).toArray 134 (0,0) (heap_alloc_new Wt.drew _)];simpa using hu⟩) rfl (by simp [acnCells,Value.oneCell']) (by omega) (by unfold maxLen;omega) (by simp;omega) ?_
        intro A6 c6 w6 ho6 hb6 hg6 _
        have q6:Keep (fun j => v.ownBlock = some j) Wt w6:=(q06.alloc _).grown hg6 (fun k hk => .inr hk)
        refine hK.out _ _ q6 fun _ => ?_
        refine HA.t ?_ [11] q6 ?_
        refine HA.d ?_
        try simp only [Exit.then]
        have O6:=Lib.hid ho6;have T6:=Lib.hid (HkT6.out w6 q6);have Q6:=Lib.hid (HQt.out.trans (q6.toBelow HQt.out.size (fun j hj => (Ho'.out.lt j hj).1)));have Ha6:=Lib.hid ha6
        clear ho6 hb6 hg6 tT6 d06 d16 q06 q6 hK K' hO6 ha6 HkT6 hbs6
        go_wp2_with fail
        go_roundw
        case rel => exact ⟨m + 1,by have:=HM.out;omega,by go_num,by rw [← pairK_add];simp only [actAdd,h1,h2,if_true,if_false,Bool.not_true,Bool.not_false,Bool.false_and,Bool.true_and];have:=O6.out;rw [Ha6.out] at this;simpa [acnVals,HYa.out,List.length_append] using this,Q6.out⟩
        case measure => have:=HM.out;simp [intOf];omega
      · have h2i:¬ ((m:Int) < Y.length):=by omega
        have hme:m = M:=by have:=HM.out;omega
        have hb:=own_base (base':=w.heap.size) Ho.out (Nat.le_trans HB0.out.size Q4.out.size)
        have hre:roundL st bk (lo,hi) W c x ph r = pairK X Y (fun i s => (⟨true,false,st,bk,ph,r,i,s⟩:Acn)) (fun i s => (⟨false,ph == 0,st,bk,ph,r,i,s⟩:Acn)) m:=by
          rw [HR.out,hme,← HM.out];rfl
        rw [← hre] at hb
        have Hb:=Lib.hid hb;have Hq:=Lib.hid (HB0.out.trans ((bt Q4.out (HQ.out)).mono HB0.out.size))
        clear hb hre uJ
        go_wp2_with fail
        go_ret
        exact ⟨_,rfl,Hb.out,Hq.out⟩
end Go.Proofs.YtaccfnffmbndhaaGreat
namespace Go.Proofs.YtaccfnffmbndhaaGreat
open Go.RowKit
theorem et_ritems:ElemT Tryz.prog 41 136 (.agg #[.int .i64 0,.int .i64 0,.int .i64 0,.bool false,.bool false,.int .i64 0,.int .i64 0,.int .i64 0,.int .i64 0,.int .i64 0,.int .i64 0,.int .i64 0]) 12 88:=⟨Tryz.underlying41,info_parts (by kernel_rfl),rfl,by decide⟩
def ApdV (w:World) (v:Value) (w':World) (v':Value):Prop:=Keep (fun j => v.ownBlock = some j) w w' ∧ (v'.ownBlock = v.ownBlock ∨ ∀ k,v'.ownBlock = some k → w.heap.size ≤ k)
theorem ApdV.trans {a b c:World} {v v' v'':Value} (h:ApdV a v b v') (k:ApdV b v' c v''):ApdV a v c v'':=by
  refine ⟨⟨k.1.os.trans h.1.os,k.1.tape.trans h.1.tape,k.1.output.trans h.1.output,Nat.le_trans h.1.size k.1.size,fun j hj hn => (k.1.block j (Nat.lt_of_lt_of_le hj h.1.size) fun hS => ?_).trans (h.1.block j hj hn)⟩,?_⟩
  · rcases h.2 with h2 | h2
    · exact hn (h2 ▸ hS)
    · have:=h2 j hS;omega
  · rcases k.2 with k2 | k2
    · rw [k2];exact h.2
    · exact .inr fun j hj => Nat.le_trans h.1.size (k2 j hj)
theorem ApdV.below {b c:World} {v:Value} (h:Below b.heap.size b c):ApdV b v c v:=⟨Keep.below h,.inl rfl⟩
theorem ApdV.refl (w:World) (v:Value):ApdV w v w v:=⟨Keep.refl _ _,.inl rfl⟩
theorem wpList_pushN {P:Program} {t e:TypeId} {z:Value} {size bytes:Nat} (T:ElemT P t e z size bytes) (w:World) {ops:Array Oper} {rest:List Oper} {o:Oper} {a:Act} {Q:Exit → Act → World → Prop}
    (hgd:o.guard = none) (s x:Operand) (ho:o.op = .call { callee:=.builtin .append,args:=#[s,x],argTypes:=#[t,t] })
    (base:Nat) (v:Value) (n:Nat) (xs:List Value) (hs:a.eval s = v) (hown:w.ownsRow base e size v n xs)
    (us:List Value) (hx:a.eval x = .slice (some ⟨w.heap.size,0,none⟩) 1 1) (hus:us.length = size) (h1:∀ u ∈ us,u.oneCell' = true)
    (hb:(n + 1) * bytes ≤ 140737488355328) (h63:n + 1 ≤ maxLen) (hbase:base ≤ w.heap.size)
    (h:∀ A' c' w',w'.ownsRow base e size (.slice A' (n + 1) c') (n + 1) (xs ++ us) → ApdV w v w' (.slice A' (n + 1) c') →
      wpList P ops Q rest (a.put o.dst (.slice A' (n + 1) c')) w'):wpList P ops Q (o :: rest) a (w.alloc (.cells us.toArray e)):=by
  refine wpList_app T (w:=w.alloc (.cells us.toArray e)) hgd s x ho base v n xs hs (hown.alloc _) (some ⟨w.heap.size,0,none⟩) 1 1 us hx (rd_newN w us e w.heap.size rfl) (by omega) h1 hb h63 (by simp;omega) ?_
  intro A' c' w' h2 _ hg hn
  refine h A' c' w' h2 ⟨((Keep.refl _ w).alloc _).grown hg (fun k hk => .inr hk),?_⟩
  rcases hn with hn | hn
  · exact .inl hn
  · exact .inr fun k hk => by rw [hn] at hk;simp at hk;omega
theorem ss6 {w:World} {b:Nat} {t:TypeId} {z0 z1 z2 z3 z4 z5 v0 v1 v2 v3 v4 v5:Value} (h:w.heap[b]? = some (.cells #[z0,z1,z2,z3,z4,z5] t (0,0))) :
    ((((((w.setCell ⟨b,0,none⟩ v0).setCell ⟨b,1,none⟩ v1).setCell ⟨b,2,none⟩ v2).setCell ⟨b,3,none⟩ v3).setCell ⟨b,4,none⟩ v4).setCell ⟨b,5,none⟩ v5).heap[b]? = some (.cells #[v0,v1,v2,v3,v4,v5] t (0,0)):=
  ss (ss (ss3 (ss h rfl) rfl) rfl) (by simp)
set_option maxRecDepth 100000 in
theorem rbuk_any (p:Pln) (a0 a1 a2 a3 a5 a6 a7 a10 a11:Value) (w:World) (hp:PlnOk p) (hbu:p.bu ≤ 1048576) :
    Calls Tryz.prog 73 #[.agg #[a0,a1,a2,a3,.int .i64 (p.W:Nat),a5,a6,a7,.int .i64 (p.bu:Nat),.int .i64 (p.ck:Nat),a10,a11,.int .i64 (p.n:Nat)]] w fun e w' => ∃ v,e = .returned v ∧ w'.ownsRow w.heap.size 132 2 v p.buks.length (rgVals p.buks) ∧ Below w.heap.size w w':=by
  obtain ⟨W0,hW0⟩:∃ W0,w.alloc (.cells #[a0,a1,a2,a3,.int .i64 (p.W:Nat),a5,a6,a7,.int .i64 (p.bu:Nat),.int .i64 (p.ck:Nat),a10,a11,.int .i64 (p.n:Nat)] 79) = W0:=⟨_,rfl⟩
  have hB0:Below w.heap.size w W0:=by rw [← hW0];exact (br w).alloc (Nat.le_refl _) _
  have hb:=rbucks_any p.n p.bu W0 (by have:=hp.n;omega) hp.bu hbu
  have HW0:=Lib.hid hW0;have HB0:=Lib.hid hB0;have Hb:=Lib.hid hb
  clear hW0 hB0 hb
  go_enter Tryz.func73,Tryz.ntmps73
  go_wp2_with fail
  rw [HW0.out]
  refine Hb.out.mono ?_
  rintro e w1 ⟨v,rfl,o1,k1⟩
  have O1:=Lib.hid (own_base (base':=w.heap.size) o1 HB0.out.size);have K1:=Lib.hid (HB0.out.trans (k1.mono HB0.out.size))
  clear o1 k1
  go_wp2_with fail
  go_ret
  exact ⟨_,rfl,O1.out,K1.out⟩
set_option maxRecDepth 100000 in
theorem rjob_any (p:Pln) (a0 a1 a2 a3 a5 a6 a7 a10 a11:Value) (st j:Nat) (w:World) (hp:PlnOk p) (hbu:p.bu ≤ 1048576) (hj:j < p.buks.length) :
    Calls Tryz.prog 126 #[.agg #[a0,a1,a2,a3,.int .i64 (p.W:Nat),a5,a6,a7,.int .i64 (p.bu:Nat),.int .i64 (p.ck:Nat),a10,a11,.int .i64 (p.n:Nat)],.int .i64 (st:Nat),.int .i64 (j:Nat)] w fun e w' => e = .returned (.agg #[.int .i64 (st:Nat),.int .i64 (j:Nat),.int .i64 ((rgAt p.buks j).1:Nat),.int .i64 ((rgAt p.buks j).2:Nat),.int .i64 (p.W:Nat),.int .i64 (p.ck:Nat)]) ∧ Below w.heap.size w w':=by
  obtain ⟨W0,hW0⟩:∃ W0,(w.alloc (.cells #[a0,a1,a2,a3,.int .i64 (p.W:Nat),a5,a6,a7,.int .i64 (p.bu:Nat),.int .i64 (p.ck:Nat),a10,a11,.int .i64 (p.n:Nat)] 79)).alloc (.cells #[.int .i64 0,.int .i64 0,.int .i64 0,.int .i64 0,.int .i64 0,.int .i64 0] 220) = W0:=⟨_,rfl⟩
  have g0:W0.heap[w.heap.size]? = some (.cells #[a0,a1,a2,a3,.int .i64 (p.W:Nat),a5,a6,a7,.int .i64 (p.bu:Nat),.int .i64 (p.ck:Nat),a10,a11,.int .i64 (p.n:Nat)] 79 (0,0)):=by
    rw [← hW0,Below.heap_alloc _ _ _ (by simp)];exact heap_alloc_new w _
  have g1:W0.heap[w.heap.size + 1]? = some (.cells #[.int .i64 0,.int .i64 0,.int .i64 0,.int .i64 0,.int .i64 0,.int .i64 0] 220 (0,0)):=by
    rw [← hW0];have:=heap_alloc_new (w.alloc (.cells #[a0,a1,a2,a3,.int .i64 (p.W:Nat),a5,a6,a7,.int .i64 (p.bu:Nat),.int .i64 (p.ck:Nat),a10,a11,.int .i64 (p.n:Nat)] 79)) (.cells #[.int .i64 0,.int .i64 0,.int .i64 0,.int .i64 0,.int .i64 0,.int .i64 0] 220);simpa using this
  have hB0:Below w.heap.size w W0:=by rw [← hW0];exact ((br w).alloc (Nat.le_refl _) _).alloc (by simp) _
  have t0:=fun w' (q:Keep (fun j => j = w.heap.size + 1) W0 w') => bx13 ((q.block _ (lt_of_block g0) (by omega)).trans g0)
  have hjI:(j:Int) < p.buks.length:=by omega
  have HW0:=Lib.hid hW0;have HB0:=Lib.hid hB0;have G1:=Lib.hid g1
  have q0:Keep (fun j => j = w.heap.size + 1) W0 W0.drew:=(Keep.refl _ _).drew
  clear hW0 g0 g1 hB0
  go_enter Tryz.func126,Tryz.ntmps126
  go_wp2_with fail
  rw [HW0.out]
  refine HA.g (fun w':World => Keep (fun j => j = w.heap.size + 1) W0 w') ?_
  refine HA.t ?_ [0,1,2,4,7,8,9,10,11,12] q0 ?_
  refine HA.c 3 (rbuk_any p a0 a1 a2 a3 a5 a6 a7 a10 a11 _ hp hbu) ?_
  rintro e w2 ⟨v2,rfl,o2,k2⟩
  have b2:=bt (br W0).drew k2
  have q2:Keep (fun j => j = w.heap.size + 1) W0 w2:=Keep.below b2
  obtain ⟨g,c2,rfl,_⟩:=o2.form (by omega)
  obtain ⟨d0,d1⟩:=rg_cell o2 hj
  obtain ⟨b1,hb1⟩:∃ b,(rgAt p.buks j).1 = b:=⟨_,rfl⟩
  obtain ⟨e2,hb2⟩:∃ b,(rgAt p.buks j).2 = b:=⟨_,rfl⟩
  rw [hb1] at d0
  rw [hb2] at d1
  refine ⟨_,rfl,q2,fun _ => ?_⟩
  refine HA.v 5 w2 (.pointer (some ⟨g,j * 2,none⟩)) q2 ?_
  refine HA.v 6 w2 (.agg #[.int .i64 (b1:Nat),.int .i64 (e2:Nat)]) q2 ?_
  refine HA.v 13 w2 (.agg #[.int .i64 (st:Nat),.int .i64 (j:Nat),.int .i64 (b1:Nat),.int .i64 (e2:Nat),.int .i64 (p.W:Nat),.int .i64 (p.ck:Nat)]) q2 ?_
  have h2:=sb G1.out w2 b2
  have u2:=bx6 h2
  have e6:=ss6 (v0:=.int .i64 (st:Nat)) (v1:=.int .i64 (j:Nat)) (v2:=.int .i64 (b1:Nat)) (v3:=.int .i64 (e2:Nat)) (v4:=.int .i64 (p.W:Nat)) (v5:=.int .i64 (p.ck:Nat)) h2
  have hl2:=lt_of_block h2
  obtain ⟨W9,hW9⟩:∃ W9,((((((w2.setCell ⟨w.heap.size + 1,0,none⟩ (.int .i64 (st:Nat))).setCell ⟨w.heap.size + 1,1,none⟩ (.int .i64 (j:Nat))).setCell ⟨w.heap.size + 1,2,none⟩ (.int .i64 (b1:Nat))).setCell ⟨w.heap.size + 1,3,none⟩ (.int .i64 (e2:Nat))).setCell ⟨w.heap.size + 1,4,none⟩ (.int .i64 (p.W:Nat))).setCell ⟨w.heap.size + 1,5,none⟩ (.int .i64 (p.ck:Nat))) = W9:=⟨_,rfl⟩
  have k9:Keep (fun j => j = w.heap.size + 1) w2 W9:=by rw [← hW9];exact Keep.setCell (S:=fun j => j = w.heap.size + 1) (Keep.setCell (S:=fun j => j = w.heap.size + 1) (Keep.setCell (S:=fun j => j = w.heap.size + 1) (Keep.setCell (S:=fun j => j = w.heap.size + 1) (Keep.setCell (S:=fun j => j = w.heap.size + 1) (Keep.setCell (S:=fun j => j = w.heap.size + 1) (Keep.refl _ _) _ (.inr rfl) _) _ (.inr rfl) _) _ (.inr rfl) _) _ (.inr rfl) _) _ (.inr rfl) _) _ (.inr rfl) _
  refine HA.s 14 W9 (q2.trans k9) ?_ (he:=by subst hW9;go_simp)
  refine HA.d ?_
  rw [hW9] at e6
  have E6:=Lib.hid e6
  have HB:=Lib.hid (HB0.out.trans ((q2.trans k9).toBelow (B:=w.heap.size) HB0.out.size (fun j hj => by omega)))
  obtain ⟨⟨r0,r1,r2,r3,r4,r5⟩,rf⟩:=bx6 e6
  have hl9:=lt_of_block e6
  have Hb1:=Lib.hid hb1;have Hb2:=Lib.hid hb2
  clear e6 h2 u2 hl2 q0 q2 b2 k9 k2 t0 o2 d0 d1 hb1 hb2
  go_wp2_with fail
  rw [Hb1.out,Hb2.out]
  exact bodyPost_ret (v:=.agg #[.int .i64 (st:Nat),.int .i64 (j:Nat),.int .i64 (b1:Nat),.int .i64 (e2:Nat),.int .i64 (p.W:Nat),.int .i64 (p.ck:Nat)]) (by simp [results,Tryz.results126,go_sem,r0,r1,r2,r3,r4,r5]) rfl ⟨rfl,HB.out⟩
end Go.Proofs.YtaccfnffmbndhaaGreat
