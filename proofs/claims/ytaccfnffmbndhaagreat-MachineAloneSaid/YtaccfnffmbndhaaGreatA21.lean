/- fixp.Sum: a range over an iterator over a slice. Steps of the parameters, in plain lists. The walks of package sgd: update. 'make' as an equation of the walk. No condition. -/
import Derived.Test.YtaccfnffmbndhaaGreatA08
import Derived.Test.YtaccfnffmbndhaaGreatA03
import Derived.Test.YtaccfnffmbndhaaGreatA02
import Derived.Deep.RegionHeld3
import Derived.Test.YtaccfnffmbndhaaGreatA05
import Derived.Test.YtaccfnffmbndhaaGreatA01
set_option linter.unusedSimpArgs false
set_option linter.unusedVariables false
namespace Go.Proofs.YtaccfnffmbndhaaGreat
open Go.RowKit Go.Shelf
attribute [local go_sem] Oper.semAt_some
def sumW (l:List Int):Int:=l.foldl (fun a x => wrap64 (a + x)) 0
theorem sumW_snoc (l:List Int) (x:Int):sumW (l ++ [x]) = wrap64 (sumW l + x):=by simp [sumW]
def valEnc (zs:List Int) {m:Nat} (k:Fin m):Array Value:=#[.int .i64 (nth zs k.1)]
theorem val_fin {zs:List Int} {m:Nat} (h:zs.length = m):((List.finRange m).map fun k => nth zs k.1) = zs:=by
  refine ext_nth (by simp [h]) fun k hk => ?_
  rw [nth_eq _ _ hk]
  simp
theorem ownFrom_blk {β:Type} (B b:Nat) (o:List β → Obj) (ho:∀ p,(o p).isCells = true):OwnFrom B (fun (p:List β) W => W.heap[b]? = some (o p)):=fun p W W' row hs hg hr => ownFrom_block (β:=List β) B b (o p) (ho p) p W W' row hs hg hr
set_option maxRecDepth 100000 in
set_option maxHeartbeats 2000000 in
theorem vals1_in (n l Bm n₀ m d:Nat) (A:Option Addr) (zs:List Int) (hzl:zs.length = m) (hm:m ≤ 1048576) (hB0:Bm < n₀) (hA0:∀ a,A = some a → a.block < n₀) (J Jx:List (Fin m) → World → Prop)
    (hY:∀ pre x W,J pre W → pre.length < m → YieldAt Fence.wide (n - 1) Tryz.prog l (valEnc zs x) W fun e W' =>
      (e = .returned (.bool true) ∧ J (pre ++ [x]) W' ∧ RowsKeep n₀ Bm W W') ∨ (e = .returned (.bool false) ∧ Jx (pre ++ [x]) W'))
    (W:World) (hBm:W.heap[Bm]? = some (.cells #[.slice A m d] 26 (0,0))) (hA:Rd W A (nums .i64 zs)) (h0:J [] W) :
    CallsIn Fence.wide n Tryz.prog 229 #[.func (.yield l) #[] #[],.pointer (some ⟨Bm,0,none⟩)] W fun e W' => (∃ v,e = .returned v) ∧
      ((∃ ys,ys = List.finRange m ∧ J ys W') ∨ (∃ pre,True ∧ Jx pre W')):=by
  obtain ⟨e0,ef⟩:=bx1 hBm
  have HBm:=Lib.hid hBm;have HA:=Lib.hid hA;have Hzl:=Lib.hid hzl;have HA0:=Lib.hid hA0;clear hBm hA hzl hA0
  refine callsIn_of_wp Tryz.func229 rfl trivial ?_ rfl
  simp only [Tryz.ntmps229,List.size_toArray,List.length_cons,List.length_nil,Nat.reduceAdd,Nat.reduceSub,Array.replicate_succ,Array.replicate_zero,List.push_toArray,List.append_toArray,List.nil_append,List.cons_append]
  gi_wp2
  gi_loopw [7] (fun i wr => ∃ k:Nat,k ≤ m ∧ i = .int .i64 k ∧ J ((List.finRange m).take k) wr ∧ Rd wr A (nums .i64 zs))
    (fun i _ => m - (intOf i).toNat)
  case atStart => exact ⟨0,Nat.zero_le _,rfl,h0,HA.out⟩
  case round =>
    obtain ⟨k,hk,rfl,hJs,hAk⟩:=hrel
    clear e0 ef
    by_cases hlt:k < m
    · have hlen:((List.finRange m).take k).length < m:=by simp;omega
      have HAk:=Lib.hid hAk
      obtain ⟨b,o,rfl,p⟩:=hAk.num (show k < zs.length by rw [Hzl.out];exact hlt)
      obtain ⟨fn,tmps,assign,body,hy,hR⟩:=hY _ ⟨k,hlt⟩ wr hJs hlen
      unfold valEnc at hy
      dsimp only at hy
      clear hAk hJs
      gi_wp2
      refine ⟨(fun h => by cases h),?_⟩
      refine hR.mono ?_
      rintro e w5 (⟨rfl,hJ5,hk5⟩ | ⟨rfl,hJx5⟩)
      · have hA5:=HAk.out.belowB hk5.1 HA0.out
        have HA5:=Lib.hid hA5;have HJ5:=Lib.hid hJ5;clear hA5 hJ5 hk5 p
        gi_wp2
        go_roundw
        case rel => exact ⟨k + 1,by omega,by go_num,by rw [finTake hlt];exact HJ5.out,HA5.out⟩
        case measure => simp [intOf];omega
      · gi_wp2
        refine bodyPost_ret (results_none rfl _ _ _) rfl ?_
        exact ⟨⟨_,rfl⟩,.inr ⟨_,trivial,hJx5⟩⟩
    · obtain rfl:k = m:=by omega
      have hall:(List.finRange k).take k = List.finRange k:=List.take_of_length_le (by simp)
      rw [hall] at hJs
      have HJs:=Lib.hid hJs;clear hJs hall hAk
      gi_wp2
      go_end0
      exact ⟨⟨_,rfl⟩,.inl ⟨_,rfl,HJs.out⟩⟩
theorem vals_stops (n Bm n₀ m d:Nat) (A:Option Addr) (zs:List Int) (hzl:zs.length = m) (hm:m ≤ 1048576) (hB0:Bm < n₀) (hA0:∀ a,A = some a → a.block < n₀) (w:World)
    (hBm:w.heap[Bm]? = some (.cells #[.slice A m d] 26 (0,0))) (hA:Rd w A (nums .i64 zs)) :
    SeqStopsK Fence.wide n Tryz.prog 229 #[.pointer (some ⟨Bm,0,none⟩)] (valEnc zs (m:=m)) (RowsKeep n₀ Bm) (fun ys => ys = List.finRange m) (fun _ => True) m w:=fun l J Jx W hW _ _ hY h0 =>
  vals1_in n l Bm n₀ m d A zs hzl hm hB0 hA0 J Jx hY W ((hW.block _ (lt_of_block hBm)).trans hBm) (hA.below hW) h0
set_option maxRecDepth 100000 in
set_option maxHeartbeats 2000000 in
theorem total_any (Bm m d:Nat) (A:Option Addr) (zs:List Int) (w:World) (hBm:w.heap[Bm]? = some (.cells #[.slice A m d] 26 (0,0))) (hA:Rd w A (nums .i64 zs)) (hzl:zs.length = m) (hm:m ≤ 1048576) (hA0:∀ a,A = some a → a.block < w.heap.size) :
    Calls Tryz.prog 221 #[.func (.func 229) #[] #[.pointer (some ⟨Bm,0,none⟩)]] w fun e w' => e = .returned (.int .i64 (sumW zs)) ∧ Below w.heap.size w w':=by
  have hBl:=lt_of_block hBm
  have hst:=vals_stops 2 Bm w.heap.size m d A zs hzl hm hBl hA0 (w.alloc (.cells #[.int .i64 0] 2)) ((Below.heap_alloc w _ _ hBl).trans hBm) (hA.alloc _)
  have Hst:=Lib.hid hst;have Hzl:=Lib.hid hzl;clear hst hBm hA hzl hA0
  refine (callsIn_wide (n:=3)).1 ?_
  refine callsIn_of_wp_marks Tryz.func221 rfl trivial ?_ rfl
  simp only [Tryz.ntmps221,List.size_toArray,List.length_cons,List.length_nil,Nat.reduceAdd,Nat.reduceSub,Array.replicate_succ,Array.replicate_zero,List.push_toArray,List.append_toArray,List.nil_append,List.cons_append]
  gi_wp2_with fail
  refine' wpIn_rangeFunc_ownG (F:=Fence.wide) (n:=3) rfl (by omega) (gf:=229) (lb:=#[.pointer (some ⟨Bm,0,none⟩)]) rfl trivial (enters_of Tryz.func229 (by kernel_rfl) rfl)
    Hst.out rowsKeep_t (rowsKeep_b (by simp) (by simp;omega)) (Below.refl _ _) (fun _ => rfl)
    (fun (pre:List (Fin m)) W => (W.heap[w.heap.size]? = some (.cells #[.int .i64 (sumW (pre.map fun k => nth zs k.1))] 2 (0,0))) ∧ Below w.heap.size w W)
    (fun _ _ _ => False)
    (OwnFrom.and (ownFrom_blk _ _ (fun pre:List (Fin m) => .cells #[.int .i64 (sumW (pre.map fun k => nth zs k.1))] 2 (0,0)) (fun _ => rfl)) (ownFrom_below (Nat.le_refl _) (by simp)))
    (fun _ _ _ _ _ hs _ _ => hs)
    ⟨heap_alloc_new w _,(Below.refl _ w).alloc (Nat.le_refl _) _⟩
    _ ?assign ?body ?done ?stop
  case assign =>
    intro l x W K hK
    unfold valEnc
    gi_wp2
    exact hK
  case body =>
    rintro l pre x W ⟨hS,hBlw⟩ hlt
    obtain ⟨sv,hsv⟩:∃ sv,sumW (pre.map fun k => nth zs k.1) = sv:=⟨_,rfl⟩
    obtain ⟨xv,hxv⟩:∃ xv,nth zs x.1 = xv:=⟨_,rfl⟩
    rw [hsv] at hS
    obtain ⟨p0,pf⟩:=bx1 hS
    have hSl:=lt_of_block hS
    have HS:=Lib.hid hS;have HB:=Lib.hid hBlw;have Hsv:=Lib.hid hsv;have Hxv:=Lib.hid hxv;clear hS hBlw hlt hsv
    simp only [hxv]
    clear hxv
    gi_wp2_with fail
    have hk:Keep (fun j => j = w.heap.size) W (W.setCell ⟨w.heap.size,0,none⟩ (.int .i64 (wrap64 (sv + xv)))):=Keep.setCell (S:=fun j => j = w.heap.size) (Keep.refl _ _) ⟨w.heap.size,0,none⟩ (.inr rfl) _
    have hb:Below w.heap.size W (W.setCell ⟨w.heap.size,0,none⟩ (.int .i64 (wrap64 (sv + xv)))):=hk.toBelow HB.out.size (fun j hj => by omega)
    refine ⟨(others_keep hk (fun k o hs hk' => by rw [hs,HS.out] at hk';injection hk' with e;subst e;rfl)).from _,⟨hb,fun h => hk.block Bm h (by omega)⟩,?_,HB.out.trans hb⟩
    rw [List.map_append,List.map_cons,List.map_nil,sumW_snoc,Hsv.out,Hxv.out]
    exact heap_setCell_same W w.heap.size 0 _ _ _ HS.out
  case done =>
    rintro D ys W hD rfl ⟨hS,hBlw⟩ hK
    rw [val_fin Hzl.out] at hS
    obtain ⟨p0,pf⟩:=bx1 hS
    gi_wp2
    refine ⟨by simp,.inl ⟨_,_,rfl,run_takeDeferred hK,?_⟩⟩
    exact ⟨.int .i64 (sumW zs),by simp [results,Tryz.results221,go_sem],rfl,hBlw.trans (belowK_b (w:=w) (Nat.le_refl _) W D _ _ (by simp at hD;omega) hK rfl rfl)⟩
  case stop =>
    rintro D c pre W _ _ h _
    exact h.elim
theorem vals_any (A:Option Addr) (m d:Nat) (w:World) :
    Calls Tryz.prog 222 #[.slice A m d] w fun e w' => e = .returned (.func (.func 229) #[] #[.pointer (some ⟨w.heap.size,0,none⟩)]) ∧ w' = w.alloc (.cells #[.slice A m d] 26):=by
  go_enter Tryz.func222,Tryz.ntmps222
  go_wp2
  go_ret
  exact ⟨rfl,rfl⟩
theorem fsum_any (A:Option Addr) (m d:Nat) (zs:List Int) (w:World) (hA:Rd w A (nums .i64 zs)) (hzl:zs.length = m) (hm:m ≤ 1048576) (hA0:∀ a,A = some a → a.block < w.heap.size) :
    Calls Tryz.prog 202 #[.slice A m d] w fun e w' => e = .returned (.int .i64 (sumW zs)) ∧ Below w.heap.size w w':=by
  have ht:=total_any w.heap.size m d A zs (w.alloc (.cells #[.slice A m d] 26)) (heap_alloc_new w _) (hA.alloc _) hzl hm (fun a ha => by have:=hA0 a ha;simp;omega)
  have Ht:=Lib.hid ht;clear ht hA hzl hA0
  go_enter Tryz.func202,Tryz.ntmps202
  go_wp2_with fail
  refine (vals_any A m d w).mono ?_
  rintro e w1 ⟨rfl,rfl⟩
  go_wp2_with fail
  refine Ht.out.mono ?_
  rintro e w2 ⟨rfl,hb⟩
  have Hb:=Lib.hid (((Below.refl _ w).alloc (Nat.le_refl _) _).trans (hb.mono (by simp)));clear hb
  go_wp2
  go_ret
  exact ⟨rfl,Hb.out⟩
end Go.Proofs.YtaccfnffmbndhaaGreat
namespace Go.Proofs.YtaccfnffmbndhaaGreat
open Go.RowKit
theorem sumW_two (a b:Int):sumW [a,b] = wrap64 (a + b):=by
  show wrap64 (wrap64 (0 + a) + b) = wrap64 (a + b)
  unfold wrap64
  omega
def stepM (mo q m g:Int):Int:=wrap64 (mulQ mo m q + g)
def stepP (ra q p m:Int):Int:=wrap64 (p - mulQ ra m q)
def apM (mo q:Int) (ms g:List Int) (lo k:Nat):List Int:=upTo ms.length fun j => if lo ≤ j ∧ j < lo + k then stepM mo q (nth ms j) (nth g (j - lo)) else nth ms j
def apP (ra mo q:Int) (ps ms g:List Int) (lo k:Nat):List Int:=upTo ps.length fun j => if lo ≤ j ∧ j < lo + k then stepP ra q (nth ps j) (stepM mo q (nth ms j) (nth g (j - lo))) else nth ps j
theorem apM_zero (mo q:Int) (ms g:List Int) (lo:Nat):apM mo q ms g lo 0 = ms:=(eq_upTo rfl fun k _ => by rw [if_neg (by omega)]).symm
theorem apP_zero (ra mo q:Int) (ps ms g:List Int) (lo:Nat):apP ra mo q ps ms g lo 0 = ps:=(eq_upTo rfl fun k _ => by rw [if_neg (by omega)]).symm
theorem apM_len (mo q:Int) (ms g:List Int) (lo k:Nat):(apM mo q ms g lo k).length = ms.length:=upTo_len _ _
theorem apP_len (ra mo q:Int) (ps ms g:List Int) (lo k:Nat):(apP ra mo q ps ms g lo k).length = ps.length:=upTo_len _ _
theorem apM_at (mo q:Int) (ms g:List Int) (lo k:Nat) (h:lo + k < ms.length):nth (apM mo q ms g lo k) (lo + k) = nth ms (lo + k):=by
  unfold apM;rw [upTo_nth _ h,if_neg (by omega)]
theorem apP_at (ra mo q:Int) (ps ms g:List Int) (lo k:Nat) (h:lo + k < ps.length):nth (apP ra mo q ps ms g lo k) (lo + k) = nth ps (lo + k):=by
  unfold apP;rw [upTo_nth _ h,if_neg (by omega)]
theorem apM_set (mo q:Int) (ms g:List Int) (lo k:Nat) (h:lo + k < ms.length):(apM mo q ms g lo k).set (lo + k) (stepM mo q (nth ms (lo + k)) (nth g k)) = apM mo q ms g lo (k + 1):=by
  refine ext_nth (by simp [apM_len]) fun j hj => ?_
  rw [List.length_set,apM_len] at hj
  rw [nth_set,apM_len]
  unfold apM
  rw [upTo_nth _ hj,upTo_nth _ hj]
  by_cases h1:j = lo + k
  · subst h1
    rw [if_pos ⟨rfl,h⟩,if_pos (by omega),show lo + k - lo = k by omega]
  · rw [if_neg (by omega)]
    by_cases h2:lo ≤ j ∧ j < lo + k
    · rw [if_pos h2,if_pos (by omega)]
    · rw [if_neg h2,if_neg (by omega)]
theorem apP_set (ra mo q:Int) (ps ms g:List Int) (lo k:Nat) (h:lo + k < ps.length):(apP ra mo q ps ms g lo k).set (lo + k) (stepP ra q (nth ps (lo + k)) (stepM mo q (nth ms (lo + k)) (nth g k))) = apP ra mo q ps ms g lo (k + 1):=by
  refine ext_nth (by simp [apP_len]) fun j hj => ?_
  rw [List.length_set,apP_len] at hj
  rw [nth_set,apP_len]
  unfold apP
  rw [upTo_nth _ hj,upTo_nth _ hj]
  by_cases h1:j = lo + k
  · subst h1
    rw [if_pos ⟨rfl,h⟩,if_pos (by omega),show lo + k - lo = k by omega]
  · rw [if_neg (by omega)]
    by_cases h2:lo ≤ j ∧ j < lo + k
    · rw [if_pos h2,if_pos (by omega)]
    · rw [if_neg h2,if_neg (by omega)]
theorem apM_W64 {mo q:Int} {ms g:List Int} {lo k:Nat} (h:W64 ms):W64 (apM mo q ms g lo k):=upTo_W64 fun j hj => by
  split
  · exact wrap64_bd _
  · exact h j hj
def nextM (mo q:Int) (ms g:List Int):List Int:=upTo ms.length fun j => stepM mo q (nth ms j) (nth g j)
def nextP (ra mo q:Int) (ps ms g:List Int):List Int:=upTo ps.length fun j => stepP ra q (nth ps j) (stepM mo q (nth ms j) (nth g j))
theorem apM_all (mo q:Int) (ms g:List Int):apM mo q ms g 0 ms.length = nextM mo q ms g:=upTo_congr fun k hk => by rw [if_pos (by omega),Nat.sub_zero]
theorem apP_all (ra mo q:Int) (ps ms g:List Int):apP ra mo q ps ms g 0 ps.length = nextP ra mo q ps ms g:=upTo_congr fun k hk => by rw [if_pos (by omega),Nat.sub_zero]
theorem nextM_len (mo q:Int) (ms g:List Int):(nextM mo q ms g).length = ms.length:=upTo_len _ _
theorem nextP_len (ra mo q:Int) (ps ms g:List Int):(nextP ra mo q ps ms g).length = ps.length:=upTo_len _ _
theorem nextM_W64 (mo q:Int) (ms g:List Int):W64 (nextM mo q ms g):=upTo_W64 fun _ _ => wrap64_bd _
theorem nextP_W64 (ra mo q:Int) (ps ms g:List Int):W64 (nextP ra mo q ps ms g):=upTo_W64 fun _ _ => wrap64_bd _
end Go.Proofs.YtaccfnffmbndhaaGreat
namespace Go.Proofs.YtaccfnffmbndhaaGreat
open Go.RowKit
theorem rsize_any (lo hi:Nat) (w:World) (h:lo ≤ hi) (hh:hi ≤ 17592186043904):Calls Tryz.prog 181 #[.agg #[.int .i64 lo,.int .i64 hi]] w fun e w' => e = .returned (.int .i64 ((hi - lo:Nat):Int)) ∧ Below w.heap.size w w':=by
  have h1:(0:Int) ≤ (hi:Int) - lo:=by omega
  have h2:max ((hi:Int) - lo) 0 = ((hi - lo:Nat):Int):=by omega
  have H2:=Lib.hid h2;clear h2
  go_enter Tryz.func181,Tryz.ntmps181
  go_wp2
  all_goals
    go_ret
    exact ⟨ret_int (by have:=H2.out;omega),(Below.refl _ w).alloc (Nat.le_refl _) _⟩
set_option maxRecDepth 100000 in
set_option maxHeartbeats 1600000 in
theorem update_any (ra mo q g:Int) (base n i gp cp gm cm:Nat) (ps ms:List Int) (w:World) (hp:w.ownsRow base 2 1 (.slice (some ⟨gp,0,none⟩) n cp) n (nums .i64 ps)) (hm:w.ownsRow base 2 1 (.slice (some ⟨gm,0,none⟩) n cm) n (nums .i64 ms)) (hne:gp ≠ gm) (hi:i < n)
    (wr:-9223372036854775808 ≤ ra ∧ ra ≤ 9223372036854775807) (wo:-9223372036854775808 ≤ mo ∧ mo ≤ 9223372036854775807) (wm:W64 ms) :
    Calls Tryz.prog 182 #[.agg #[.int .i64 ra,.int .i64 mo,.int .i64 q],.pointer (some ⟨gp,i,none⟩),.pointer (some ⟨gm,i,none⟩),.int .i64 g] w fun e w' => e = .returned (.tuple #[]) ∧
      w'.ownsRow base 2 1 (.slice (some ⟨gp,0,none⟩) n cp) n (nums .i64 (ps.set i (stepP ra q (nth ps i) (stepM mo q (nth ms i) g)))) ∧ w'.ownsRow base 2 1 (.slice (some ⟨gm,0,none⟩) n cm) n (nums .i64 (ms.set i (stepM mo q (nth ms i) g))) ∧ Keep (fun j => j = gp ∨ j = gm) w w':=by
  have hml:=own_len hm
  have p1:=own_num hp hi
  have p2:=own_num hm hi
  have f1:=hp.frozenAt i
  have f2:=hm.frozenAt i
  have l1:=(hp.lt gp rfl).2
  have l2:=(hm.lt gm rfl).2
  have hmu:=fun w' => fixMul mo (nth ms i) q w' wo (wm i (by omega))
  have hpu:=fun m' w' (h:-9223372036854775808 ≤ m' ∧ m' ≤ 9223372036854775807) => fixMul ra m' q w' wr h
  obtain ⟨m0,hm0⟩:∃ m0,nth ms i = m0:=⟨_,rfl⟩
  obtain ⟨p0,hp0⟩:∃ p0,nth ps i = p0:=⟨_,rfl⟩
  rw [hm0] at p2 hmu ⊢
  rw [hp0] at p1 ⊢
  obtain ⟨m1,hm1⟩:∃ m1,stepM mo q m0 g = m1:=⟨_,rfl⟩
  have wm1:-9223372036854775808 ≤ m1 ∧ m1 ≤ 9223372036854775807:=by rw [← hm1];exact wrap64_bd _
  obtain ⟨mu,hmu'⟩:∃ mu,mulQ mo m0 q = mu:=⟨_,rfl⟩
  have hsm:sumW [mu,g] = m1:=by rw [sumW_two,← hm1,← hmu'];rfl
  rw [hm1]
  rw [hmu'] at hmu
  have hpu:=fun w' => hpu m1 w' wm1
  obtain ⟨pu,hpu'⟩:∃ pu,mulQ ra m1 q = pu:=⟨_,rfl⟩
  rw [hpu'] at hpu
  obtain ⟨p9,hp9⟩:∃ p9,stepP ra q p0 m1 = p9:=⟨_,rfl⟩
  have hsub:wrap64 (p0 - pu) = p9:=by rw [← hp9,← hpu'];rfl
  rw [hp9]
  have hsb:=fun w' => sub_any p0 pu w'
  rw [hsub] at hsb
  have hfs:=fun A w' (hA:Rd w' A (nums .i64 [mu,g])) ha => fsum_any A 2 2 [mu,g] w' hA rfl (by omega) ha
  rw [hsm] at hfs
  have Hmu:=Lib.hid hmu;have Hpu:=Lib.hid hpu;have Hsb:=Lib.hid hsb;have Hfs:=Lib.hid hfs;have HP:=Lib.hid hp;have HM:=Lib.hid hm;have Hp0:=Lib.hid hp0;have Hne:=Lib.hid hne
  clear hmu hpu hsb hfs hp hm hm0 hp0 hm1 hmu' hsm hpu' hp9 hsub wr wo wm hml wm1
  go_enter Tryz.func182,Tryz.ntmps182
  go_wp2_with fail
  have hz:=heap_alloc_new w (.cells #[.int .i64 ra,.int .i64 mo,.int .i64 q] 123)
  have hB0:Below w.heap.size w (w.alloc (.cells #[.int .i64 ra,.int .i64 mo,.int .i64 q] 123)):=(Below.refl _ w).alloc (Nat.le_refl _) _
  obtain ⟨W0,hW0⟩:∃ W0,W0 = w.alloc (.cells #[.int .i64 ra,.int .i64 mo,.int .i64 q] 123):=⟨_,rfl⟩
  rw [← hW0] at hz hB0 ⊢
  clear hW0
  have q1:=cell_below hB0 p1
  have q2:=cell_below hB0 p2
  obtain ⟨⟨y0,y1,y2⟩,yf⟩:=bx3 hz
  have hp0':=own_below HP.out hB0
  have hm0':=own_below HM.out hB0
  have hzl:=lt_of_block hz
  have HZ:=Lib.hid hz;have HB0:=Lib.hid hB0;have HP0:=Lib.hid hp0';have HM0:=Lib.hid hm0'
  clear hz hB0 hp0' hm0' p1 p2 f1 f2
  have hSw:(fun w':World => w'.cell? ⟨w.heap.size,1,none⟩ = some (.int .i64 mo) ∧ w'.cell? ⟨w.heap.size,2,none⟩ = some (.int .i64 q) ∧ w'.cell? ⟨gm,i,none⟩ = some (.int .i64 m0)) W0.drew:=⟨y1,y2,q2⟩
  refine XA.g 12 (fun w':World => w'.cell? ⟨w.heap.size,1,none⟩ = some (.int .i64 mo) ∧ w'.cell? ⟨w.heap.size,2,none⟩ = some (.int .i64 q) ∧ w'.cell? ⟨gm,i,none⟩ = some (.int .i64 m0)) ?_
  refine XA.t ?_ [0,1,2,3,4,5,6,7,9] hSw ?_
  refine XA.o 8 (fun K hK => ?_)
  go_simp
  refine (Hmu.out _).mono ?_
  rintro e w1 ⟨rfl,hb1⟩
  have hSa:=And.intro (cell_below hb1 hSw.1) (And.intro (cell_below hb1 hSw.2.1) (cell_below hb1 hSw.2.2))
  have HBa:=Lib.hid ((Below.refl W0.heap.size W0).drew.trans hb1);clear hb1 hSw
  dsimp only
  refine hK.out _ _ hSa (fun hSw => ?_)
  clear hK K hSa
  refine XA.o 10 (fun K hK => ?_)
  go_simp
  refine hK.out _ _ ⟨cell_alloc hSw.1 _,cell_alloc hSw.2.1 _,cell_alloc hSw.2.2 _⟩ (fun hSw => ?_)
  clear hK K
  refine XA.o 11 (fun K hK => ?_)
  go_simp
  refine (Hfs.out _ _ ?_ ?_).mono ?_
  · exact rd_newN _ [.int .i64 mu,.int .i64 g] 2 _ (by simp)
  · intro a ha;injection ha with ha;subst ha;simp
  rintro e w2 ⟨rfl,hb1⟩
  have hS1:=And.intro (cell_below hb1 hSw.1) (And.intro (cell_below hb1 hSw.2.1) (cell_below hb1 hSw.2.2))
  have hB1:Below W0.heap.size W0 w2:=(HBa.out.alloc HBa.out.size _).trans (hb1.mono (by have:=HBa.out.size;simp;omega))
  have hp1:=own_below HP0.out hB1
  have hm1:=own_below HM0.out hB1
  have q1':=cell_below hB1 q1
  have g1:=hm1.frozenAt i
  have g2:=hp1.frozenAt i
  have hz1:=(hB1.block _ hzl).trans HZ.out
  have hs1:=hB1.size
  have HP1:=Lib.hid hp1;have HM1:=Lib.hid hm1;have HB1:=Lib.hid hB1;have HZ1:=Lib.hid hz1
  clear hp1 hm1 hB1 hb1 hz1 hSw y0 y1 y2 yf q1 q2
  dsimp only
  refine hK.out _ _ hS1 (fun hSw => ?_)
  clear hK K
  have q3:=hS1.2.2
  refine XA.e ?_
  clear hSw hS1
  simp only [List.drop_succ_cons,List.drop_zero]
  go_wp2_with fail
  have hK2:Keep (fun j => j = gm) w2 (w2.setCell ⟨gm,i,none⟩ (.int .i64 m1)):=Keep.setCell (S:=fun j => j = gm) (Keep.refl _ _) ⟨gm,i,none⟩ (.inr rfl) _
  have hm2:=own_put HM1.out i m1
  have hno1:∀ j,(Value.slice (some ⟨gp,0,none⟩) n cp).ownBlock = some j → ¬ j = gm:=fun j hj e => by
    have h1:gp = j:=by simpa [Value.ownBlock] using hj
    exact Hne.out (by omega)
  have hno2:∀ j,(Value.slice (some ⟨gm,0,none⟩) n cm).ownBlock = some j → ¬ j = gp:=fun j hj e => by
    have h1:gm = j:=by simpa [Value.ownBlock] using hj
    exact Hne.out (by omega)
  have hp2:=hK2.own HP1.out hno1
  have Hno2:=Lib.hid hno2;clear hno1 hno2
  have hz2:=(hK2.block _ (by have:=HB1.out.size;omega) (by omega)).trans HZ1.out
  obtain ⟨V,hV⟩:∃ V,V = w2.setCell ⟨gm,i,none⟩ (.int .i64 m1):=⟨_,rfl⟩
  rw [← hV] at hK2 hm2 hp2 hz2 ⊢
  clear hV q1' q3 g1 g2
  have r1:=own_num hp2 hi
  have r2:=own_num hm2 hi
  have hml:=own_len HM.out
  rw [nth_set,if_pos ⟨rfl,by omega⟩] at r2
  rw [Hp0.out] at r1
  obtain ⟨⟨y0,y1,y2⟩,yf⟩:=bx3 hz2
  have hzl2:=lt_of_block hz2
  have HK2:=Lib.hid hK2;have HM2:=Lib.hid hm2;have HP2:=Lib.hid hp2;have HZ2:=Lib.hid hz2
  clear hK2 hm2 hp2 hz2 hml
  have hSw:(fun w':World => w'.cell? ⟨w.heap.size,0,none⟩ = some (.int .i64 ra) ∧ w'.cell? ⟨w.heap.size,2,none⟩ = some (.int .i64 q) ∧ w'.cell? ⟨gp,i,none⟩ = some (.int .i64 p0) ∧ w'.cell? ⟨gm,i,none⟩ = some (.int .i64 m1)) V.drew:=⟨y0,y2,r1,r2⟩
  refine XA.g 13 (fun w':World => w'.cell? ⟨w.heap.size,0,none⟩ = some (.int .i64 ra) ∧ w'.cell? ⟨w.heap.size,2,none⟩ = some (.int .i64 q) ∧ w'.cell? ⟨gp,i,none⟩ = some (.int .i64 p0) ∧ w'.cell? ⟨gm,i,none⟩ = some (.int .i64 m1)) ?_
  refine XA.t ?_ [0,1,2,3,4,5,6,7,8,9,10] hSw ?_
  refine XA.o 11 (fun K hK => ?_)
  go_simp
  refine (Hpu.out _).mono ?_
  rintro e w3 ⟨rfl,hb3⟩
  have hS3:=And.intro (cell_below hb3 hSw.1) (And.intro (cell_below hb3 hSw.2.1) (And.intro (cell_below hb3 hSw.2.2.1) (cell_below hb3 hSw.2.2.2)))
  have hB3:Below V.heap.size V w3:=(Below.refl V.heap.size V).drew.trans hb3
  have hp3:=own_below HP2.out hB3
  have hm3:=own_below HM2.out hB3
  have g2:=hp3.frozenAt i
  have q3:=hS3.2.2.1
  have HB3:=Lib.hid hB3;have HP3:=Lib.hid hp3;have HM3:=Lib.hid hm3;clear hb3 hB3 hp3 hm3 hSw
  dsimp only
  refine hK.out _ _ hS3 (fun hSw => ?_)
  clear hK K hS3
  refine XA.o 12 (fun K hK => ?_)
  go_simp
  refine (Hsb.out _).mono ?_
  rintro e w4 ⟨rfl,rfl⟩
  dsimp only
  refine hK.out _ _ hSw (fun hSw => ?_)
  clear hK K
  refine XA.e ?_
  clear hSw y0 y1 y2 yf r1 r2
  simp only [List.drop_succ_cons,List.drop_zero]
  go_wp2_with fail
  go_end0
  have hK4:Keep (fun j => j = gp) w3 (w3.setCell ⟨gp,i,none⟩ (.int .i64 p9)):=Keep.setCell (S:=fun j => j = gp) (Keep.refl _ _) ⟨gp,i,none⟩ (.inr rfl) _
  refine ⟨rfl,own_put HP3.out i p9,hK4.own HM3.out Hno2.out,?_⟩
  have k1:Keep (fun j => j = gp ∨ j = gm) w W0:=Keep.below HB0.out
  have k2:Keep (fun j => j = gp ∨ j = gm) W0 w2:=Keep.below HB1.out
  have k3:Keep (fun j => j = gp ∨ j = gm) w2 V:=HK2.out.mono (fun _ _ h => .inr h)
  have k4:Keep (fun j => j = gp ∨ j = gm) V w3:=Keep.below HB3.out
  exact (((k1.trans k2).trans k3).trans k4).trans (hK4.mono (fun _ _ h => .inl h))
set_option maxRecDepth 100000 in
set_option maxHeartbeats 1600000 in
theorem apply_any (ra mo q:Int) (base n lo m c1 c2 cg:Nat) (A B G:Option Addr) (ps ms g:List Int) (w:World) (hp:w.ownsRow base 2 1 (.slice A n c1) n (nums .i64 ps)) (hm:w.ownsRow base 2 1 (.slice B n c2) n (nums .i64 ms)) (hne:∀ i,(Value.slice A n c1).ownBlock = some i → (Value.slice B n c2).ownBlock ≠ some i)
    (hG:Rd w G (nums .i64 g)) (hgl:g.length = m) (hlo:lo + m ≤ n) (hn:n ≤ 1048576) (hGP:∀ a,G = some a → (Value.slice A n c1).ownBlock ≠ some a.block) (hGM:∀ a,G = some a → (Value.slice B n c2).ownBlock ≠ some a.block)
    (wr:-9223372036854775808 ≤ ra ∧ ra ≤ 9223372036854775807) (wo:-9223372036854775808 ≤ mo ∧ mo ≤ 9223372036854775807) (wm:W64 ms) :
    Calls Tryz.prog 150 #[.agg #[.int .i64 ra,.int .i64 mo,.int .i64 q],.agg #[.slice A n c1,.slice B n c2],.agg #[.int .i64 lo,.int .i64 ((lo + m:Nat):Int)],.slice G m cg] w fun e w' => e = .returned (.bool true) ∧
      w'.ownsRow base 2 1 (.slice A n c1) n (nums .i64 (apP ra mo q ps ms g lo m)) ∧ w'.ownsRow base 2 1 (.slice B n c2) n (nums .i64 (apM mo q ms g lo m)) ∧ Keep (fun j => (Value.slice A n c1).ownBlock = some j ∨ (Value.slice B n c2).ownBlock = some j) w w':=by
  have hpl:=own_len hp
  have hml:=own_len hm
  have hrs:=fun w' => rsize_any lo (lo + m) w' (by omega) (by omega)
  rw [Nat.add_sub_cancel_left] at hrs
  obtain ⟨hi,hhi⟩:∃ hi,lo + m = hi:=⟨_,rfl⟩
  rw [hhi] at hrs ⊢
  have hh1:lo ≤ hi:=by omega
  have hh2:hi ≤ n:=by omega
  have hq1:((n:Int) != (n:Int)) = false:=by simp
  have hq2:((m:Int) != (m:Int)) = false:=by simp
  have hq3:¬ ((n:Int) < (hi:Int)):=by omega
  have hq4:¬ ((hi:Int) < lo):=by omega
  have hlt1:=hp.lt
  have hlt2:=hm.lt
  have Hrs:=Lib.hid hrs;have HP:=Lib.hid hp;have HM:=Lib.hid hm;have Hne:=Lib.hid hne;have HG:=Lib.hid hG;have Hgl:=Lib.hid hgl;have HGP:=Lib.hid hGP;have HGM:=Lib.hid hGM;have Hpl:=Lib.hid hpl;have Hml:=Lib.hid hml;have Wr:=Lib.hid wr;have Wo:=Lib.hid wo;have Wm:=Lib.hid wm;have Hlt1:=Lib.hid hlt1;have Hlt2:=Lib.hid hlt2
  clear hrs hp hm hne hG hgl hGP hGM hpl hml wr wo wm hlt1 hlt2 hhi
  go_enter Tryz.func150,Tryz.ntmps150
  go_wp2_with fail
  have hs0:(((w.alloc (.cells #[.int .i64 ra,.int .i64 mo,.int .i64 q] 123)).alloc (.cells #[.slice A n c1,.slice B n c2] 68)).alloc (.cells #[.int .i64 lo,.int .i64 hi] 52)).heap.size = w.heap.size + 3:=by simp
  have hB0:Below w.heap.size w (((w.alloc (.cells #[.int .i64 ra,.int .i64 mo,.int .i64 q] 123)).alloc (.cells #[.slice A n c1,.slice B n c2] 68)).alloc (.cells #[.int .i64 lo,.int .i64 hi] 52)):=(((Below.refl _ w).alloc (Nat.le_refl _) _).alloc (by simp) _).alloc (by simp;omega) _
  have hb0:=(Below.heap_alloc ((w.alloc (.cells #[.int .i64 ra,.int .i64 mo,.int .i64 q] 123)).alloc (.cells #[.slice A n c1,.slice B n c2] 68)) (.cells #[.int .i64 lo,.int .i64 hi] 52) w.heap.size (by simp;omega)).trans ((Below.heap_alloc (w.alloc (.cells #[.int .i64 ra,.int .i64 mo,.int .i64 q] 123)) (.cells #[.slice A n c1,.slice B n c2] 68) w.heap.size (by simp)).trans (heap_alloc_new w _))
  have hb1:=heap_alloc_new (w.alloc (.cells #[.int .i64 ra,.int .i64 mo,.int .i64 q] 123)) (.cells #[.slice A n c1,.slice B n c2] 68)
  rw [show (w.alloc (.cells #[.int .i64 ra,.int .i64 mo,.int .i64 q] 123)).heap.size = w.heap.size + 1 by simp] at hb1
  have hb1:=(Below.heap_alloc ((w.alloc (.cells #[.int .i64 ra,.int .i64 mo,.int .i64 q] 123)).alloc (.cells #[.slice A n c1,.slice B n c2] 68)) (.cells #[.int .i64 lo,.int .i64 hi] 52) (w.heap.size + 1) (by simp)).trans hb1
  have hb2:=heap_alloc_new ((w.alloc (.cells #[.int .i64 ra,.int .i64 mo,.int .i64 q] 123)).alloc (.cells #[.slice A n c1,.slice B n c2] 68)) (.cells #[.int .i64 lo,.int .i64 hi] 52)
  rw [show ((w.alloc (.cells #[.int .i64 ra,.int .i64 mo,.int .i64 q] 123)).alloc (.cells #[.slice A n c1,.slice B n c2] 68)).heap.size = w.heap.size + 1 + 1 by simp] at hb2
  obtain ⟨W0,hW0⟩:∃ W0,W0 = ((w.alloc (.cells #[.int .i64 ra,.int .i64 mo,.int .i64 q] 123)).alloc (.cells #[.slice A n c1,.slice B n c2] 68)).alloc (.cells #[.int .i64 lo,.int .i64 hi] 52):=⟨_,rfl⟩
  rw [← hW0] at hs0 hB0 hb0 hb1 hb2 ⊢
  have HS0:=Lib.hid hs0;have HB0:=Lib.hid hB0;have Hb0:=Lib.hid hb0;have Hb1:=Lib.hid hb1;have Hb2:=Lib.hid hb2
  clear hs0 hB0 hb0 hb1 hb2 hW0
  refine (Hrs.out _).mono ?_
  rintro e w1 ⟨rfl,k1⟩
  have hx2:=(k1.block _ (lt_of_block Hb2.out)).trans Hb2.out
  have hl2:=lt_of_block hx2
  obtain ⟨⟨x0,x1⟩,xf⟩:=bx2 hx2
  have K1:=Lib.hid k1;clear k1 hx2
  go_wp2_with fail
  refine (Hrs.out _).mono ?_
  rintro e w2 ⟨rfl,k2⟩
  have K2:=Lib.hid (K1.out.trans (k2.mono K1.out.size));clear k2 x0 x1 xf hl2
  have hc2:=HB0.out.trans (K2.out.mono HB0.out.size)
  have hp2:=own_below (own_below HP.out HB0.out) K2.out
  have hm2:=own_below (own_below HM.out HB0.out) K2.out
  have hg2:=(HG.out.below HB0.out).below K2.out
  have hx0:=(K2.out.block _ (lt_of_block Hb0.out)).trans Hb0.out
  have hx1:=(K2.out.block _ (lt_of_block Hb1.out)).trans Hb1.out
  have hx2:=(K2.out.block _ (lt_of_block Hb2.out)).trans Hb2.out
  have HC2:=Lib.hid hc2;have HP2:=Lib.hid hp2;have HM2:=Lib.hid hm2;have HG2:=Lib.hid hg2;have HX0:=Lib.hid hx0;have HX1:=Lib.hid hx1;have HX2:=Lib.hid hx2
  clear hc2 hp2 hm2 hg2 hx0 hx1 hx2
  go_wp2_with fail
  go_loopw [46] (fun x wr => ∃ k:Nat,k ≤ m ∧ x = .int .i64 k ∧ wr.ownsRow base 2 1 (.slice A n c1) n (nums .i64 (apP ra mo q ps ms g lo k)) ∧ wr.ownsRow base 2 1 (.slice B n c2) n (nums .i64 (apM mo q ms g lo k)) ∧ Keep (fun j => (Value.slice A n c1).ownBlock = some j ∨ (Value.slice B n c2).ownBlock = some j) w2 wr) (fun x _ => m - (intOf x).toNat)
  case atStart => exact ⟨0,Nat.zero_le _,rfl,by rw [apP_zero];exact HP2.out,by rw [apM_zero];exact HM2.out,Keep.refl _ _⟩
  case round =>
    obtain ⟨k,hk,rfl,hpk,hmk,hK⟩:=hrel
    by_cases hlt:k < m
    · have hG:=hK.rd HG2.out (fun a ha => by
        rintro (h | h)
        · exact HGP.out a ha h
        · exact HGM.out a ha h)
      obtain ⟨bG,oG,rfl,pg⟩:=hG.num (show k < g.length by rw [Hgl.out];exact hlt)
      obtain ⟨gk,hgk⟩:∃ gk,nth g k = gk:=⟨_,rfl⟩
      rw [hgk] at pg
      have hnb:∀ j,w.heap.size ≤ j → ¬ ((Value.slice A n c1).ownBlock = some j ∨ (Value.slice B n c2).ownBlock = some j):=fun j hj => by
        rintro (h | h)
        · have:=(Hlt1.out j h).2;omega
        · have:=(Hlt2.out j h).2;omega
      have hx0:=(hK.block _ (lt_of_block HX0.out) (hnb _ (Nat.le_refl _))).trans HX0.out
      have hx1:=(hK.block _ (lt_of_block HX1.out) (hnb _ (by omega))).trans HX1.out
      have hx2:=(hK.block _ (lt_of_block HX2.out) (hnb _ (by omega))).trans HX2.out
      obtain ⟨gp,e1,hv1,_,_⟩:=hpk.form (by omega)
      obtain ⟨gm,e2,hv2,_,_⟩:=hmk.form (by omega)
      simp only [Value.slice.injEq] at hv1 hv2
      obtain ⟨rfl,_,rfl⟩:=hv1
      obtain ⟨rfl,_,rfl⟩:=hv2
      have hgne:gp ≠ gm:=fun e => Hne.out gp rfl (by rw [e];rfl)
      have hup:=update_any ra mo q gk base n (lo + k) gp c1 gm c2 (apP ra mo q ps ms g lo k) (apM mo q ms g lo k) wr.drew (own_drewN hpk 1) (own_drewN hmk 1) hgne (by omega) Wr.out Wo.out (apM_W64 Wm.out)
      rw [apP_at ra mo q ps ms g lo k (by have:=Hpl.out;omega),apM_at mo q ms g lo k (by have:=Hml.out;omega),← hgk,apP_set ra mo q ps ms g lo k (by have:=Hpl.out;omega),apM_set mo q ms g lo k (by have:=Hml.out;omega),hgk] at hup
      obtain ⟨⟨y0,y1,y2⟩,yf⟩:=bx3 hx0
      obtain ⟨⟨z0,z1⟩,zf⟩:=bx2 hx1
      obtain ⟨⟨t0,t1⟩,tf⟩:=bx2 hx2
      have hki:(k:Int) < m:=by omega
      have hw1:IntKind.i64.wrap ((lo:Int) + (k:Int)) = (lo:Int) + k:=IntWalk.i64_in _ (by omega)
      have hw2:(0:Int) ≤ (lo:Int) + k:=by omega
      have hw3:(lo:Int) + k < n:=by omega
      have hw4:((lo:Int) + k).toNat = lo + k:=by omega
      have HK:=Lib.hid hK;have Hup:=Lib.hid hup;have HGK:=Lib.hid hgk
      clear hK hup hpk hmk hG hx0 hx1 hx2 hnb hgk hgne
      go_wp2_with fail
      have hSw:(fun w':World => w'.cell? ⟨w.heap.size,0,none⟩ = some (.int .i64 ra) ∧ w'.cell? ⟨w.heap.size,1,none⟩ = some (.int .i64 mo) ∧ w'.cell? ⟨w.heap.size,2,none⟩ = some (.int .i64 q) ∧ w'.cell? ⟨w.heap.size + 1,0,none⟩ = some (.slice (some ⟨gp,0,none⟩) n c1) ∧ w'.cell? ⟨w.heap.size + 1,1,none⟩ = some (.slice (some ⟨gm,0,none⟩) n c2) ∧ w'.cell? ⟨w.heap.size + 1 + 1,0,none⟩ = some (.int .i64 lo) ∧ w'.cell? ⟨bG,oG + k,none⟩ = some (.int .i64 gk)) wr.drew:=⟨y0,y1,y2,z0,z1,t0,pg⟩
      have hgb1:gp < w.heap.size:=(Hlt1.out gp rfl).2
      have hgb2:gm < w.heap.size:=(Hlt2.out gm rfl).2
      have hgb3:¬ (bG = gp ∨ bG = gm):=by
        rintro (h | h)
        · exact HGP.out _ rfl (by rw [h];rfl)
        · exact HGM.out _ rfl (by rw [h];rfl)
      refine HA.g (fun w':World => w'.cell? ⟨w.heap.size,0,none⟩ = some (.int .i64 ra) ∧ w'.cell? ⟨w.heap.size,1,none⟩ = some (.int .i64 mo) ∧ w'.cell? ⟨w.heap.size,2,none⟩ = some (.int .i64 q) ∧ w'.cell? ⟨w.heap.size + 1,0,none⟩ = some (.slice (some ⟨gp,0,none⟩) n c1) ∧ w'.cell? ⟨w.heap.size + 1,1,none⟩ = some (.slice (some ⟨gm,0,none⟩) n c2) ∧ w'.cell? ⟨w.heap.size + 1 + 1,0,none⟩ = some (.int .i64 lo) ∧ w'.cell? ⟨bG,oG + k,none⟩ = some (.int .i64 gk)) ?_
      refine HA.t ?_ [0,1,2,3,4,5,6,7,8,9,10,11,12,13,14,15,16,17,18] hSw ?_
      clear hw1 hw4
      refine HA.o 19 (fun K hK => ?_)
      go_simp
      refine Hup.out.mono ?_
      rintro e w5 ⟨rfl,hp5,hm5,hK5⟩
      have hS5:=And.intro (hK5.cell hSw.1 (by simp;omega)) (And.intro (hK5.cell hSw.2.1 (by simp;omega)) (And.intro (hK5.cell hSw.2.2.1 (by simp;omega)) (And.intro (hK5.cell hSw.2.2.2.1 (by simp;omega)) (And.intro (hK5.cell hSw.2.2.2.2.1 (by simp;omega)) (And.intro (hK5.cell hSw.2.2.2.2.2.1 (by simp;omega)) (hK5.cell hSw.2.2.2.2.2.2 hgb3))))))
      have hk6:Keep (fun j => (Value.slice (some ⟨gp,0,none⟩) n c1).ownBlock = some j ∨ (Value.slice (some ⟨gm,0,none⟩) n c2).ownBlock = some j) w2 w5:=HK.out.trans ((Keep.refl _ wr).drew.trans (hK5.mono (fun j _ h => by
        rcases h with rfl | rfl
        · exact .inl rfl
        · exact .inr rfl)))
      have HP5:=Lib.hid hp5;have HM5:=Lib.hid hm5;have HK6:=Lib.hid hk6;clear hp5 hm5 hK5 hk6 hSw hgb3
      dsimp only
      refine hK.out _ _ hS5 (fun hSw => ?_)
      clear hK K hS5 hSw y0 y1 y2 yf z0 z1 zf t0 t1 tf pg
      refine HA.d ?_
      go_wp2_with fail
      go_roundw
      case rel => exact ⟨k + 1,by omega,by go_num,HP5.out,HM5.out,HK6.out⟩
      case measure => simp [intOf];omega
    · obtain rfl:m = k:=by omega
      have hkf:Keep (fun j => (Value.slice A n c1).ownBlock = some j ∨ (Value.slice B n c2).ownBlock = some j) w wr:=(Keep.below HC2.out).trans hK
      have HP9:=Lib.hid hpk;have HM9:=Lib.hid hmk;have HKf:=Lib.hid hkf;clear hpk hmk hkf hK
      go_wp2_with fail
      go_ret
      exact ⟨rfl,HP9.out,HM9.out,HKf.out⟩
end Go.Proofs.YtaccfnffmbndhaaGreat
namespace Go.Proofs.YtaccfnffmbndhaaGreat
open Go.RowKit
theorem run_mk {P:Program} {t e:TypeId} {z:Value} {bytes:Nat} (T:ElemT P t e z 1 bytes) (w:World) (hzc:z.cells = #[z]) (n:Nat) (b2:bytes * n ≤ 281474976710656) (b3:n ≤ maxLen) :
    ∃ w',Sem.run P (Instr.makeSlice t (.int .i64 (n:Int)) (.int .i64 (n:Int))) w = .ok (.slice (some ⟨w.heap.size,0,none⟩) n n) w' ∧ w'.ownsRow w.heap.size e 1 (.slice (some ⟨w.heap.size,0,none⟩) n n) n (List.replicate n z) ∧ Below w.heap.size w w':=by
  obtain ⟨i,hi,hz0,hz1,hz2⟩:=T.info
  obtain ⟨w',hrun,r1,r2⟩:=run_make_full (P:=P) w w.heap.size t e i z 1 T.und hi hz0 hz1 .i64 .i64 n (by rw [hz2];exact b2) b3 (Nat.le_refl _)
  rw [hzc,Nat.mul_one,toList_madeCells_one] at r1
  exact ⟨w',hrun,r1,⟨r2.os,r2.tape,r2.output,r2.size,fun k hk => r2.block k hk (by simp)⟩⟩
end Go.Proofs.YtaccfnffmbndhaaGreat
