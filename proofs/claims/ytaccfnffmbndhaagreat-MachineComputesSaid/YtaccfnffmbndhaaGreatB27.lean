/- The reference's Even, shifted, Buckets, Segments, Chunks. The reference's shifted, Buckets, Segments, Chunks. No condition. -/
import Derived.Test.YtaccfnffmbndhaaGreatB26
set_option linter.unusedSimpArgs false
set_option linter.unusedVariables false
namespace Go.Proofs.YtaccfnffmbndhaaGreat
open Go.RowKit
def szs (k m:Nat):List Int:=(List.range k).map fun i => (szE k m i:Int)
theorem szs_len (k m:Nat):(szs k m).length = k:=by simp [szs]
theorem szs_nth {k m i:Nat} (h:i < k):nth (szs k m) i = (szE k m i:Int):=by rw [nth_eq _ _ (by rw [szs_len];exact h)];simp [szs]
theorem szs_zero (k:Nat):List.replicate k (0:Int) = szs k 0:=by
  refine List.ext_getElem (by simp [szs_len]) fun i h1 h2 => ?_
  simp [szs,szE_zero]
theorem szs_succ {k m:Nat} (hk:0 < k):(szs k m).set (m % k) ((szE k m (m % k):Int) + 1) = szs k (m + 1):=by
  refine List.ext_getElem (by simp [szs_len]) fun i h1 h2 => ?_
  have hi:i < k:=by simpa [szs_len] using h1
  rw [List.getElem_set]
  have h3:=szE_succ (m:=m) hi
  by_cases h:m % k = i
  · subst h
    rw [if_pos rfl]
    simp only [szs,List.getElem_map,List.getElem_range]
    rw [h3,if_pos rfl]
    push_cast;rfl
  · rw [if_neg h]
    simp only [szs,List.getElem_map,List.getElem_range]
    rw [h3,if_neg (fun e => h e.symm),Nat.add_zero]
theorem szE_le (k m i:Nat):szE k m i ≤ m + 1:=by
  unfold szE
  have:=Nat.div_le_self m k
  split <;> omega
def evK (n k m:Nat):List Rg:=(List.range m).map fun i => (bdN n k i,bdN n k (i + 1))
theorem evK_succ (n k m:Nat):evK n k (m + 1) = evK n k m ++ [(bdN n k m,bdN n k m + szE k n m)]:=by
  rw [← bdN_succ];exact evenR_succ n k m
set_option maxRecDepth 100000 in
set_option maxHeartbeats 1000000 in
theorem reven_any (n k:Nat) (w:World) (h1:1 ≤ k) (h2:k ≤ 1048576) (h3:n ≤ 1048576) :
    Calls Tryz.prog 153 #[.int .i64 n,.int .i64 k] w fun e w' => ∃ v,e = .returned v ∧ w'.ownsRow w.heap.size 132 2 v k (rgVals (evenR n k)) ∧ Below w.heap.size w w':=by
  have hq1:¬ ((n:Int) < 0):=by omega
  have hq2:¬ ((k:Int) < 1):=by omega
  have hk0:¬ (k = 0):=by omega
  obtain ⟨W0,hrun,o0,hB0⟩:=run_mk et_ints w rfl k (by omega) (by unfold maxLen;omega)
  rw [nums_rep,szs_zero] at o0
  have HB0:=Lib.hid hB0;have O0:=Lib.hid o0
  clear hB0 o0
  go_enter Tryz.func153,Tryz.ntmps153
  go_wp2_with fail
  clear hrun
  go_loopw [6] (fun y wr => ∃ m:Nat,m ≤ n ∧ y = .int .i64 m ∧ wr.ownsRow w.heap.size 3 1 (.slice (some ⟨w.heap.size,0,none⟩) k k) k (nums .i64 (szs k m)) ∧ Below w.heap.size w wr) (fun y _ => n - (intOf y).toNat)
  case atStart => exact ⟨0,Nat.zero_le _,rfl,O0.out,HB0.out⟩
  case round =>
    obtain ⟨m,hm,rfl,ho,hb⟩:=hrel
    by_cases hlt:m < n
    · have hmi:(m:Int) < n:=by omega
      have hr1:(m:Int).tmod (k:Int) = ((m % k:Nat):Int):=rfl
      have hr2:(m:Int) % (k:Int) = ((m % k:Nat):Int):=rfl
      have hrk:m % k < k:=Nat.mod_lt _ h1
      have hsu:=szs_succ (m:=m) h1
      have hc:=ho.cellAt (m % k) (by omega)
      rw [nums_get _ _ _ (by rw [szs_len];exact hrk),szs_nth hrk] at hc
      have hsl:=szE_le k m (m % k)
      have hf:=fun j => ho.frozenAt j
      obtain ⟨r,hr⟩:∃ r,m % k = r:=⟨_,rfl⟩
      rw [hr] at hr1 hr2 hrk hsu hc hsl
      have hrkI:(r:Int) < k:=by omega
      obtain ⟨s,hs⟩:∃ s,szE k m r = s:=⟨_,rfl⟩
      rw [hs] at hsu hc hsl
      have hw1:IntKind.i64.wrap ((m:Int) + 1) = ((m + 1:Nat):Int):=by rw [IntWalk.i64_in _ (by omega)];push_cast;rfl
      have hst:=(ho.stored r (.int .i64 ((s:Int) + 1))).1
      rw [nums_set,hsu] at hst
      have hkp:=Keep.setCell (S:=fun j => j = w.heap.size) (Keep.refl _ wr) ⟨w.heap.size,r,none⟩ (.inr rfl) (.int .i64 ((s:Int) + 1))
      have Hst:=Lib.hid hst;have Hb:=Lib.hid (hb.trans (hkp.toBelow hb.size (fun j hj => by omega)))
      clear ho hb hr hs hsu hst hkp
      go_wp2_with fail
      go_roundw
      case rel => exact ⟨m + 1,by omega,by go_num,Hst.out,Hb.out⟩
      case measure => simp [intOf];omega
    · have hmi:¬ ((m:Int) < n):=by omega
      obtain rfl:n = m:=by omega
      have Ho:=Lib.hid ho;have Hb:=Lib.hid hb
      clear ho hb
      go_wp2_with fail
      obtain ⟨w2,rfl⟩:∃ w2:World,w2 = wr:=⟨_,rfl⟩
      go_loopw [7,8,9] (fun v z y wr => ∃ m:Nat,m ≤ k ∧ y = .int .i64 m ∧ z = .int .i64 (bdN n k m:Nat) ∧ wr.ownsRow w2.heap.size 132 2 v m (rgVals (evK n k m)) ∧ Below w2.heap.size w2 wr) (fun _ _ y _ => k - (intOf y).toNat)
      case atStart => exact ⟨0,Nat.zero_le _,rfl,by simp [bdN],World.ownsRow_nil _ _ _ _,Below.refl _ _⟩
      case round =>
        obtain ⟨m,hm,rfl,rfl,ho2,q⟩:=hrel
        by_cases hlt:m < k
        · have hmi:(m:Int) < k:=by omega
          have hw1:IntKind.i64.wrap ((m:Int) + 1) = ((m + 1:Nat):Int):=by rw [IntWalk.i64_in _ (by omega)];push_cast;rfl
          have hc:=Ho.out.cellAt m (by omega)
          rw [nums_get _ _ _ (by rw [szs_len];exact hlt),szs_nth hlt] at hc
          have hsl:=szE_le k n m
          have hbl:=bdN_le n k m h1 hm
          have hbl2:=bdN_le n k (m + 1) h1 hlt
          have hsu:=evK_succ n k m
          have hbs:=bdN_succ n k m
          obtain ⟨s,hs⟩:∃ s,szE k n m = s:=⟨_,rfl⟩
          rw [hs] at hc hsl hsu hbs
          have hc1:=cell_below q hc
          obtain ⟨b,hb⟩:∃ b,bdN n k m = b:=⟨_,rfl⟩
          rw [hb] at hbl hsu hbs ⊢
          obtain ⟨A,c,rfl,_⟩:=own_form ho2
          have Ho2:=Lib.hid ho2;have Hq:=Lib.hid q;have Hsu:=Lib.hid hsu;have Hbs:=Lib.hid hbs
          have hsz:=q.size
          have hlc:=lt_of_cell hc1
          have d2:=fun w' (q':Below wr.heap.size wr w') => cell_below q' hc1
          have Hc:=Lib.hid hc
          clear ho2 q hsu hbs hb hs hc
          go_wp2_with (at_builtin;refine wpList_push et_r4s _ rfl (.tmp 36) (.tmp 45) rfl w2.heap.size (.slice A m c) m _ rfl Ho2.out [.int .i64 (b:Nat),.int .i64 ((b:Int) + s)] rfl rfl (nums_cell .i64 [_,_]) (by omega) (by unfold maxLen;omega) hsz ?_)
          intro g6 c6 w6 ho6 hb6 hg6
          have HO6:=Lib.hid ho6;have HB6:=Lib.hid (Hq.out.trans hb6)
          have d6:=cell_below (Hq.out.trans hb6) Hc.out
          clear ho6 hb6 hg6
          go_wp2_with fail
          go_roundw
          case rel => exact ⟨m + 1,by omega,by go_num,by rw [Hbs.out];push_cast;rfl,by rw [Hsu.out,rgVals_app];exact HO6.out,HB6.out⟩
          case measure => simp [intOf];omega
        · have hmi:¬ ((m:Int) < k):=by omega
          obtain rfl:k = m:=by omega
          have Ho2:=Lib.hid (own_base (base':=w.heap.size) ho2 Hb.out.size);have Hq:=Lib.hid (Hb.out.trans (q.mono Hb.out.size))
          clear ho2 q
          go_wp2_with fail
          go_ret
          exact ⟨_,rfl,Ho2.out,Hq.out⟩
end Go.Proofs.YtaccfnffmbndhaaGreat
namespace Go.Proofs.YtaccfnffmbndhaaGreat
open Go.RowKit
theorem shR_take {d:Nat} {l:List Rg} {m:Nat} (h:m < l.length):shR d (l.take (m + 1)) = shR d (l.take m) ++ [((rgAt l m).1 + d,(rgAt l m).2 + d)]:=by
  rw [List.take_succ_eq_append_getElem h,rgAt_eq _ _ h,shR,List.map_append];rfl
set_option maxRecDepth 100000 in
set_option maxHeartbeats 1000000 in
theorem rsh15_any (A:Option Addr) (l:List Rg) (n c d:Nat) (w:World) (hA:Rd w A (rgVals l)) (hn:l.length = n) (h1:n ≤ 1048576) (h2:d ≤ 1048576) (h3:∀ r ∈ l,r.1 ≤ 1048576 ∧ r.2 ≤ 1048576) :
    Calls Tryz.prog 205 #[.slice A n c,.int .i64 d] w fun e w' => ∃ v,e = .returned v ∧ w'.ownsRow w.heap.size 132 2 v n (rgVals (shR d l)) ∧ Below w.heap.size w w':=by
  have HAr:=Lib.hid hA;have H3:=Lib.hid h3;have Hn:=Lib.hid hn
  clear hA h3 hn
  go_enter Tryz.func205,Tryz.ntmps205
  go_wp2_with fail
  go_loopw [5,6] (fun v y wr => ∃ m:Nat,m ≤ n ∧ y = .int .i64 m ∧ wr.ownsRow w.heap.size 132 2 v m (rgVals (shR d (l.take m))) ∧ Below w.heap.size w wr) (fun _ y _ => n - (intOf y).toNat)
  case atStart => exact ⟨0,Nat.zero_le _,rfl,World.ownsRow_nil _ _ _ _,Below.refl _ _⟩
  case round =>
    obtain ⟨m,hm,rfl,ho,q⟩:=hrel
    by_cases hlt:m < n
    · have hmi:(m:Int) < n:=by omega
      have hw1:IntKind.i64.wrap ((m:Int) + 1) = ((m + 1:Nat):Int):=by rw [IntWalk.i64_in _ (by omega)];push_cast;rfl
      obtain ⟨Av,cv,rfl,_⟩:=own_form ho
      obtain ⟨v,hv⟩:∃ v,Value.slice Av m cv = v:=⟨_,rfl⟩
      rw [hv] at ho ⊢
      have hml:m < l.length:=by rw [Hn.out];exact hlt
      have hrv:=rgVals_get hml
      obtain ⟨bb,bo,rfl,cb0⟩:=HAr.out _ _ hrv.1
      obtain ⟨bb',bo',e',cb1⟩:=HAr.out _ _ hrv.2
      obtain ⟨rfl,rfl⟩:bb' = bb ∧ bo' = bo:=by simpa using e'.symm
      rw [← Nat.add_assoc] at cb1
      have hin:=H3.out (rgAt l m) (by rw [rgAt_eq _ _ hml];exact List.getElem_mem _)
      have htk:=shR_take (d:=d) hml
      obtain ⟨b1,b2,hbb⟩:∃ b1 b2,rgAt l m = (b1,b2):=⟨_,_,rfl⟩
      rw [hbb] at cb0 cb1 hin htk
      dsimp only at cb0 cb1 hin htk
      have hbw:=lt_of_cell cb0
      have nb:¬ v.ownBlock = some bb':=fun e => by have:=(ho.lt _ e).1;simp only at hbw;omega
      have d0:=fun w' (q':Keep (fun j => v.ownBlock = some j) wr w') => q'.cell (cell_below q cb0) nb
      have d1:=fun w' (q':Keep (fun j => v.ownBlock = some j) wr w') => q'.cell (cell_below q cb1) nb
      have w1:IntKind.i64.wrap ((b1:Int) + d) = (b1:Int) + d:=IntWalk.i64_in _ (by omega)
      have w2:IntKind.i64.wrap ((b2:Int) + d) = (b2:Int) + d:=IntWalk.i64_in _ (by omega)
      have hsz:=q.size
      have Ho:=Lib.hid ho;have Hq:=Lib.hid q;have Htk:=Lib.hid htk
      have q0:Keep (fun j => v.ownBlock = some j) wr wr.drew:=(Keep.refl _ _).drew
      clear ho q htk hbb hrv e' cb0 cb1 nb hbw
      go_wp2_with fail
      refine HA.g (fun w':World => Keep (fun j => v.ownBlock = some j) wr w') ?_
      refine HA.t ?_ [0,1,2,3,4,5,6,7,8,9,10,11,12,13,14,15] q0 ?_
      refine HA.v 16 (wr.drew.alloc (.cells #[.int .i64 ((b1:Int) + d),.int .i64 ((b2:Int) + d)] 132)) (.slice (some ⟨wr.heap.size,0,none⟩) 1 1) (q0.alloc _) ?_
      refine HA.o 17 (fun K' hK => ?_)
      have hO:=(Ho.out.drew).alloc (.cells #[.int .i64 ((b1:Int) + d),.int .i64 ((b2:Int) + d)] 132)
      refine step_appX et_r4s (.tmp 13) (.tmp 29) rfl rfl w.heap.size v m _ rfl hO (some ⟨wr.heap.size,0,none⟩) 1 1 [.int .i64 ((b1:Int) + d),.int .i64 ((b2:Int) + d)] rfl (fun k u hu => ⟨_,_,rfl,by rw [Nat.zero_add,cell_of_row _ wr.heap.size k _ 132 (0,0) (heap_alloc_new wr.drew _)];simpa using hu⟩) rfl (by simp [Value.oneCell']) (by omega) (by unfold maxLen;omega) (by simp;omega) ?_
      intro A5 c5 w5 ho5 hb5 hg5 _
      have q5:Keep (fun j => v.ownBlock = some j) wr w5:=(q0.alloc _).grown hg5 (fun k hk => .inr hk)
      refine hK.out _ _ q5 fun _ => ?_
      refine HA.t ?_ [18] q5 ?_
      refine HA.d ?_
      have O5:=Lib.hid ho5;have Q5:=Lib.hid (Hq.out.trans (q5.toBelow hsz (fun j hj => (Ho.out.lt j hj).1)))
      clear ho5 hb5 hg5 d0 d1 w1 w2 q0 q5 hK K' hO
      go_wp2_with fail
      go_roundw
      case rel => exact ⟨m + 1,by omega,by go_num,by rw [Htk.out,rgVals_app];simpa [rgVals] using O5.out,Q5.out⟩
      case measure => simp [intOf];omega
    · have hmi:¬ ((m:Int) < n):=by omega
      obtain rfl:n = m:=by omega
      rw [List.take_of_length_le (by rw [Hn.out];exact Nat.le_refl _)] at ho
      have Ho:=Lib.hid ho;have Hb:=Lib.hid q
      clear ho q
      go_wp2_with fail
      go_ret
      exact ⟨_,rfl,Ho.out,Hb.out⟩
theorem rev_take {l:List Rg} {m:Nat} (h:m < l.length):l.reverse.take (m + 1) = l.reverse.take m ++ [rgAt l (l.length - 1 - m)]:=by
  rw [List.take_succ_eq_append_getElem (by simpa using h),List.getElem_reverse,← rgAt_eq l _ (by omega)]
set_option maxRecDepth 100000 in
set_option maxHeartbeats 1000000 in
theorem rbucks_any (n s:Nat) (w:World) (hn:n ≤ 1048576) (hs:1 ≤ s) (hs2:s ≤ 1048576) :
    Calls Tryz.prog 123 #[.int .i64 n,.int .i64 s] w fun e w' => ∃ v,e = .returned v ∧ w'.ownsRow w.heap.size 132 2 v (bukR n s).length (rgVals (bukR n s)) ∧ Below w.heap.size w w':=by
  have hb:=rblk_any n s w hn hs hs2
  have hbk:bukR n s = (blkR n s).reverse:=rfl
  have hbl:(bukR n s).length = (blkR n s).length:=by rw [hbk,List.length_reverse]
  rw [hbl]
  have hcl:=cntQ_le n s
  rw [← blkR_len] at hcl
  obtain ⟨l,hl⟩:∃ l,blkR n s = l:=⟨_,rfl⟩
  rw [hl] at hb hbk hcl ⊢
  obtain ⟨N,hN⟩:∃ N,l.length = N:=⟨_,rfl⟩
  rw [hN] at hb hcl ⊢
  rw [hbk]
  have Hb:=Lib.hid hb;have HN:=Lib.hid hN
  clear hb hbk hbl hl hN
  go_enter Tryz.func123,Tryz.ntmps123
  go_wp2_with fail
  refine Hb.out.mono ?_
  rintro e w1 ⟨v1,rfl,o1,k1⟩
  obtain ⟨A,c,rfl,_⟩:=own_form o1
  have O1:=Lib.hid o1;have K1:=Lib.hid k1
  clear o1 k1
  go_wp2_with fail
  go_loopw [6,7] (fun v y wr => ∃ m:Nat,m ≤ N ∧ y = .int .i64 ((N:Int) - 1 - m) ∧ wr.ownsRow w1.heap.size 132 2 v m (rgVals (l.reverse.take m)) ∧ Below w1.heap.size w1 wr) (fun _ y _ => (intOf y + 1).toNat)
  case atStart => exact ⟨0,Nat.zero_le _,by go_num,World.ownsRow_nil _ _ _ _,Below.refl _ _⟩
  case round =>
    obtain ⟨m,hm,rfl,ho,q⟩:=hrel
    by_cases hlt:m < N
    · obtain ⟨j,hj⟩:∃ j,N - 1 - m = j:=⟨_,rfl⟩
      have hji:(N:Int) - 1 - m = (j:Int):=by omega
      have hj0:(0:Int) ≤ (j:Int):=by omega
      have hjN:j < N:=by omega
      have hjNI:(j:Int) < N:=by omega
      rw [hji]
      have htk:=rev_take (l:=l) (m:=m) (by rw [HN.out];exact hlt)
      rw [HN.out,hj] at htk
      obtain ⟨g,rfl⟩:∃ g,A = some ⟨g,0,none⟩:=by
        obtain ⟨g,e,hv,_⟩:=O1.out.form (by omega)
        simp only [Value.slice.injEq] at hv
        exact ⟨g,hv.1⟩
      have pc:=rg_cell O1.out hjN
      obtain ⟨b1,b2,hbb⟩:∃ b1 b2,rgAt l j = (b1,b2):=⟨_,_,rfl⟩
      rw [hbb] at pc htk
      have c0:=cell_below q pc.1
      have c1:=cell_below q pc.2
      dsimp only at c0 c1
      obtain ⟨Av,cv,rfl,_⟩:=own_form ho
      have Ho:=Lib.hid ho;have Hq:=Lib.hid q;have Htk:=Lib.hid htk;have Hj:=Lib.hid hj;have Hji:=Lib.hid hji
      have hsz:=q.size
      have hw1:IntKind.i64.wrap ((j:Int) - 1) = (j:Int) - 1:=IntWalk.i64_in _ (by omega)
      clear ho q htk hj hbb pc hji
      go_wp2_with (at_builtin;refine wpList_push et_r4s _ rfl (.tmp 18) (.tmp 23) rfl w1.heap.size (.slice Av m cv) m _ rfl Ho.out [.int .i64 (b1:Nat),.int .i64 (b2:Nat)] rfl rfl (nums_cell .i64 [_,_]) (by omega) (by unfold maxLen;omega) hsz ?_)
      intro g6 c6 w6 ho6 hb6 hg6
      have HO6:=Lib.hid ho6;have HB6:=Lib.hid (Hq.out.trans hb6)
      clear ho6 hb6 hg6
      go_wp2_with fail
      go_roundw
      case rel => exact ⟨m + 1,by omega,by have:=Hji.out;go_num,by rw [Htk.out,rgVals_app];exact HO6.out,HB6.out⟩
      case measure => have:=Hji.out;simp [intOf]
    · have hji:¬ ((0:Int) ≤ (N:Int) - 1 - m):=by omega
      obtain rfl:N = m:=by omega
      rw [List.take_of_length_le (by rw [List.length_reverse,HN.out];exact Nat.le_refl _)] at ho
      have Ho:=Lib.hid (own_base (base':=w.heap.size) ho K1.out.size);have Hq:=Lib.hid (K1.out.trans (q.mono K1.out.size))
      clear ho q
      go_wp2_with fail
      go_ret
      exact ⟨_,rfl,Ho.out,Hq.out⟩
set_option maxRecDepth 100000 in
theorem rsegs_any (lo hi k:Nat) (w:World) (h1:1 ≤ k) (h2:k ≤ 1048576) (h3:lo ≤ hi) (h4:hi ≤ 1048576) :
    Calls Tryz.prog 188 #[.agg #[.int .i64 lo,.int .i64 hi],.int .i64 k] w fun e w' => ∃ v,e = .returned v ∧ w'.ownsRow w.heap.size 132 2 v k (rgVals (segR (lo,hi) k)) ∧ Below w.heap.size w w':=by
  obtain ⟨W0,hW0⟩:∃ W0,w.alloc (.cells #[.int .i64 lo,.int .i64 hi] 132) = W0:=⟨_,rfl⟩
  have h0:W0.heap[w.heap.size]? = some (.cells #[.int .i64 lo,.int .i64 hi] 132 (0,0)):=by rw [← hW0];exact heap_alloc_new w _
  have hB0:Below w.heap.size w W0:=by rw [← hW0];exact (br w).alloc (Nat.le_refl _) _
  have t0:=fun w' q => bx2 (sb h0 w' q)
  have HW0:=Lib.hid hW0;have HB0:=Lib.hid hB0
  clear hW0 h0 hB0
  have Hsh:Hid (segR (lo,hi) k = shR lo (evenR (hi - lo) k)):=Lib.hid rfl
  have hsb:(hi:Int) - lo = ((hi - lo:Nat):Int):=by omega
  have hwr:IntKind.i64.wrap ((hi - lo:Nat):Int) = ((hi - lo:Nat):Int):=IntWalk.i64_in _ (by omega)
  go_enter Tryz.func188,Tryz.ntmps188
  have q0:=br W0
  go_wp2_with fail
  rw [HW0.out]
  refine HA.g (fun w':World => Below W0.heap.size W0 w') ?_
  refine HA.t ?_ [0,1,2,3,4,5,7,8] q0.drew ?_
  refine HA.c 6 (reven_any (hi - lo) k _ h1 h2 (by omega)) ?_
  rintro e w2 ⟨v2,rfl,o2,k2⟩
  obtain ⟨A,c,rfl,_⟩:=own_form o2
  have q2:=bt q0.drew k2
  refine ⟨_,rfl,q2,fun _ => ?_⟩
  refine HA.c 9 (rsh15_any A (evenR (hi - lo) k) k c lo w2 (Rd.own o2) (evenR_len _ _) h2 (by omega) (evenR_in h1 (by omega))) ?_
  rintro e w4 ⟨v4,rfl,o4,k4⟩
  have q4:=bt q2 k4
  refine ⟨_,rfl,q4,fun _ => ?_⟩
  refine HA.t ?_ [10] q4 ?_
  refine HA.d ?_
  have hB:=Lib.hid (HB0.out.trans (q4.mono HB0.out.size))
  rw [← Hsh.out] at o4
  have O4:=Lib.hid (own_base (base':=w.heap.size) o4 (Nat.le_trans HB0.out.size q2.size))
  clear o4 o2 k2 k4 q2 q4 t0
  go_wp2_with fail
  go_ret
  exact ⟨_,rfl,O4.out,hB.out⟩
set_option maxRecDepth 100000 in
theorem rchks_any (lo hi k:Nat) (w:World) (h1:1 ≤ k) (h2:k ≤ 1048576) (h3:lo ≤ hi) (h4:hi ≤ 1048576) :
    Calls Tryz.prog 187 #[.agg #[.int .i64 lo,.int .i64 hi],.int .i64 k] w fun e w' => ∃ v,e = .returned v ∧ w'.ownsRow w.heap.size 132 2 v (chR (lo,hi) k).length (rgVals (chR (lo,hi) k)) ∧ Below w.heap.size w w':=by
  obtain ⟨W0,hW0⟩:∃ W0,w.alloc (.cells #[.int .i64 lo,.int .i64 hi] 132) = W0:=⟨_,rfl⟩
  have h0:W0.heap[w.heap.size]? = some (.cells #[.int .i64 lo,.int .i64 hi] 132 (0,0)):=by rw [← hW0];exact heap_alloc_new w _
  have hB0:Below w.heap.size w W0:=by rw [← hW0];exact (br w).alloc (Nat.le_refl _) _
  have t0:=fun w' q => bx2 (sb h0 w' q)
  have HW0:=Lib.hid hW0;have HB0:=Lib.hid hB0
  clear hW0 h0 hB0
  have Hsh:Hid (chR (lo,hi) k = shR lo (blkR (hi - lo) k)):=Lib.hid rfl
  have hsb:(hi:Int) - lo = ((hi - lo:Nat):Int):=by omega
  have hwr:IntKind.i64.wrap ((hi - lo:Nat):Int) = ((hi - lo:Nat):Int):=IntWalk.i64_in _ (by omega)
  have hcl:=cntQ_le (hi - lo) k
  rw [← blkR_len] at hcl
  go_enter Tryz.func187,Tryz.ntmps187
  have q0:=br W0
  go_wp2_with fail
  rw [HW0.out]
  refine HA.g (fun w':World => Below W0.heap.size W0 w') ?_
  refine HA.t ?_ [0,1,2,3,4,5,7,8] q0.drew ?_
  refine HA.c 6 (rblk_any (hi - lo) k _ (by omega) h1 h2) ?_
  rintro e w2 ⟨v2,rfl,o2,k2⟩
  obtain ⟨A,c,rfl,_⟩:=own_form o2
  have q2:=bt q0.drew k2
  refine ⟨_,rfl,q2,fun _ => ?_⟩
  refine HA.c 9 (rsh15_any A (blkR (hi - lo) k) _ c lo w2 (Rd.own o2) rfl (by omega) (by omega) (blkR_in (by omega))) ?_
  rintro e w4 ⟨v4,rfl,o4,k4⟩
  have q4:=bt q2 k4
  refine ⟨_,rfl,q4,fun _ => ?_⟩
  refine HA.t ?_ [10] q4 ?_
  refine HA.d ?_
  have hB:=Lib.hid (HB0.out.trans (q4.mono HB0.out.size))
  have hle:(chR (lo,hi) k).length = (blkR (hi - lo) k).length:=by rw [Hsh.out,shR_len]
  rw [← Hsh.out,← hle] at o4
  have O4:=Lib.hid (own_base (base':=w.heap.size) o4 (Nat.le_trans HB0.out.size q2.size))
  clear o4 o2 k2 k4 q2 q4 t0
  go_wp2_with fail
  go_ret
  exact ⟨_,rfl,O4.out,hB.out⟩
end Go.Proofs.YtaccfnffmbndhaaGreat
