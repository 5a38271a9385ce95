/- The reference's micro-batches. The reference's Clone of numbers. A part of a gradient is changed: plainly, and by vec.Add at a part of a row. The reference's gradient of which a part is changed. A machine does a computing item. What the reference's Do computes, in the program's words. No condition. -/
import Derived.Test.YtaccfnffmbndhaaGreatB36
import Derived.Test.YtaccfnffmbndhaaGreatB27
import Derived.Test.YtaccfnffmbndhaaGreatB30
import Derived.Test.YtaccfnffmbndhaaGreatB17
import Derived.Test.YtaccfnffmbndhaaGreatB14
import Derived.Test.YtaccfnffmbndhaaGreatB37
import Derived.Test.YtaccfnffmbndhaaGreatB41
import Derived.Lib.SliceRun
set_option linter.unusedSimpArgs false
set_option linter.unusedVariables false
namespace Go.Proofs.YtaccfnffmbndhaaGreat
open Go.RowKit
theorem rt_samp:RowTy Tryz.prog 159 4:=⟨⟨_,Tryz.underlying159,rfl⟩,by kernel_rfl⟩
set_option maxRecDepth 100000 in
set_option maxHeartbeats 1000000 in
theorem rpiece_any (A:Option Addr) (l:List Int) (c k i:Nat) (w:World) (hA:Rd w A (nums .i64 l)) (hc:l.length ≤ c) (hl:l.length ≤ 1048576) (hn:0 < l.length) (hk:1 ≤ k) (hk2:k ≤ 1048576) (hi:i < k) :
    Calls Tryz.prog 117 #[.slice A l.length c,.int .i64 i,.int .i64 k] w (PcIs (pieceL l k i) (pieceL l k i).length w):=by
  have hev:=reven_any l.length k w hk hk2 hl
  obtain ⟨b,o,rfl,_⟩:=hA.num hn
  have hlen:=pieceL_len l hk hi
  have hp:pieceL l k i = (l.drop (bdN l.length k i)).take (bdN l.length k (i + 1) - bdN l.length k i):=rfl
  have h1:=bdN_mono l.length k (Nat.le_succ i)
  have h2:=bdN_le l.length k (i + 1) hk hi
  have hg:=rgVals_get (l:=evenR l.length k) (j:=i) (by rw [evenR_len];exact hi)
  have hr:rgAt (evenR l.length k) i = (bdN l.length k i,bdN l.length k (i + 1)):=by
    rw [rgAt_eq _ _ (by rw [evenR_len];exact hi)];simp [evenR]
  rw [hr] at hg
  rw [hlen]
  obtain ⟨P,hP⟩:∃ P,pieceL l k i = P:=⟨_,rfl⟩
  obtain ⟨lo,hlo⟩:∃ lo,bdN l.length k i = lo:=⟨_,rfl⟩
  obtain ⟨hi',hhi⟩:∃ hi',bdN l.length k (i + 1) = hi':=⟨_,rfl⟩
  simp only [Nat.succ_eq_add_one] at h1
  rw [hP] at hp ⊢
  rw [hlo,hhi] at hp h1 hg ⊢
  rw [hhi] at h2
  obtain ⟨V,hV⟩:∃ V,rgVals (evenR l.length k) = V:=⟨_,rfl⟩
  rw [hV] at hev hg
  obtain ⟨n,hn'⟩:∃ n,l.length = n:=⟨_,rfl⟩
  rw [hn'] at hev hc hl hn h2 ⊢
  have hii:(i:Int) < k:=by omega
  have hi0:¬ (i:Int) < 0:=by omega
  have Hev:=Lib.hid hev;have HAr:=Lib.hid hA;have HG:=Lib.hid hg;have HP:=Lib.hid hp
  clear hev hA hg hp hr hlen hP hlo hhi hn' hV
  go_enter Tryz.func117,Tryz.ntmps117
  go_wp2_with fail
  refine Hev.out.mono ?_
  rintro e w1 ⟨v,rfl,ov,k1⟩
  obtain ⟨g,cv,rfl,_⟩:=ov.form (by omega)
  have c0:=ov.cellAt (i * 2) (by omega)
  have c1:=ov.cellAt (i * 2 + 1) (by omega)
  rw [HG.out.1] at c0
  rw [HG.out.2] at c1
  have lg:=(ov.lt g rfl).2
  have t0:∀ w',Below w1.heap.size w1 w' → w'.cell? ⟨g,i * 2,none⟩ = some (.int .i64 (lo:Nat)):=fun w' q => cell_below q c0
  have t1:∀ w',Below w1.heap.size w1 w' → w'.cell? ⟨g,i * 2 + 1,none⟩ = some (.int .i64 (hi':Nat)):=fun w' q => cell_below q c1
  have K1:=Lib.hid k1
  have q1:=(br w1).drew
  have hlh:(lo:Int) ≤ hi':=by omega
  have hhc:(hi':Int) ≤ c:=by omega
  have hlh':lo ≤ hi':=by omega
  have hhc':hi' ≤ c:=by omega
  have hge:¬ (k:Int) ≤ i:=by omega
  clear ov k1 c0 c1
  go_upto_region 4 with (fail)
  by_cases hcl:c = lo
  · subst hcl
    obtain rfl:hi' = c:=by omega
    refine HA.g (fun w':World => Below w1.heap.size w1 w') ?_
    refine HA.t ?_ [0,1,2,3,4,5,6,7,8,9,10,11,12] q1 ?_
    refine HA.d ?_
    have HF:=Lib.hid (K1.out.trans (q1.mono K1.out.size))
    clear q1 t0 t1
    go_wp2_with fail
    go_ret
    refine ⟨some ⟨b,o,none⟩,0,by rw [Nat.sub_self];rfl,by omega,?_,HF.out⟩
    rw [HP.out,Nat.sub_self,List.take_zero]
    exact Rd.nil _ _
  · refine HA.g (fun w':World => Below w1.heap.size w1 w') ?_
    refine HA.t ?_ [0,1,2,3,4,5,6,7,8,9,10,11,12] q1 ?_
    refine HA.d ?_
    have HF:=Lib.hid (K1.out.trans (q1.mono K1.out.size))
    clear q1 t0 t1
    go_wp2_with fail
    go_ret
    refine ⟨_,_,rfl,by omega,?_,HF.out⟩
    have:=((HAr.out.below HF.out).drop lo).take (hi' - lo)
    rwa [nums_drop,nums_take,← HP.out] at this
set_option maxRecDepth 100000 in
set_option maxHeartbeats 1000000 in
theorem rshard_any (n b steps t W x E c:Nat) (A:Option Addr) (l:List Int) (w:World) (hA:SlRd rVec 1 w A (ordersN l n E)) (hE:E = epN n b steps) (hb:1 ≤ b) (hbn:b ≤ n) (hn:n ≤ 1048576) (hst:steps ≤ 1048576) (ht:t < steps) (hW:1 ≤ W) (hWb:W ≤ b) (hx:x < W) :
    Calls Tryz.prog 118 #[.agg #[.int .i64 n,.int .i64 b,.int .i64 steps,.slice A E c],.int .i64 t,.int .i64 x,.int .i64 W] w (PcIs (pieceL (batchN l n b t) W x) (pieceL (batchN l n b t) W x).length w):=by
  have hbl:=batchN_len l (t:=t) (Nat.div_pos hbn hb)
  have hbt:=fun w' (q:Below w.heap.size w w') => rbatch_any n b steps t E c A l w' (hA.below stays_vec q) hb hbn hn hst ht hE
  obtain ⟨B,hB⟩:∃ B,batchN l n b t = B:=⟨_,rfl⟩
  rw [hB] at hbl hbt ⊢
  have hpp:=fun A c w' (hA:Rd w' A (nums .i64 B)) (hc:B.length ≤ c) => rpiece_any A B c W x w' hA hc (by omega) (by omega) hW (by omega) hx
  obtain ⟨Q,hQ⟩:∃ Q,pieceL B W x = Q:=⟨_,rfl⟩
  rw [hQ] at hpp ⊢
  rw [hbl] at hpp
  obtain ⟨qn,hqn⟩:∃ qn,Q.length = qn:=⟨_,rfl⟩
  rw [hqn] at hpp ⊢
  have g0:=heap_alloc_new w (.cells #[.int .i64 n,.int .i64 b,.int .i64 steps,.slice A E c] 159)
  have b0:=(br w).alloc (Nat.le_refl _) (.cells #[.int .i64 n,.int .i64 b,.int .i64 steps,.slice A E c] 159)
  have Hbt:=Lib.hid (hbt _ b0);have Hpp:=Lib.hid hpp;have G0:=Lib.hid g0;have B0:=Lib.hid b0
  clear hbt hpp g0 b0 hA hqn hQ hB hbl hE
  go_enter Tryz.func118,Tryz.ntmps118
  go_wp2_with (refine wpl_load #[.int .i64 n,.int .i64 b,.int .i64 steps,.slice A E c] (b:=w.heap.size) G0.out rt_samp rfl rfl rfl rfl ?_)
  refine Hbt.out.mono ?_
  rintro e w1 ⟨A1,c1,rfl,hc1,r1,k1⟩
  have H1:=Lib.hid (Hpp.out A1 c1 w1 r1 hc1);have K1:=Lib.hid (B0.out.trans (k1.mono B0.out.size))
  clear hc1 r1 k1
  go_wp2_with fail
  refine H1.out.mono ?_
  rintro e w2 ⟨A2,c2,rfl,hc2,r2,k2⟩
  have HF:=Lib.hid (⟨A2,c2,rfl,hc2,r2,bt K1.out k2⟩:PcIs Q qn w (.returned (.slice A2 qn c2)) w2)
  clear hc2 r2 k2
  go_wp2_with fail
  go_ret
  exact HF.out
set_option maxRecDepth 100000 in
set_option maxHeartbeats 1000000 in
theorem rmicro_any (n b steps t W x mi a E c:Nat) (A:Option Addr) (l:List Int) (w:World) (hA:SlRd rVec 1 w A (ordersN l n E)) (hE:E = epN n b steps) (hb:1 ≤ b) (hbn:b ≤ n) (hn:n ≤ 1048576) (hst:steps ≤ 1048576) (ht:t < steps) (hW:1 ≤ W) (hWb:W ≤ b) (hx:x < W) (hm:1 ≤ mi) (hm2:mi ≤ 1048576) (ha:a < mi) :
    Calls Tryz.prog 69 #[.agg #[.int .i64 n,.int .i64 b,.int .i64 steps,.slice A E c],.int .i64 t,.int .i64 x,.int .i64 W,.int .i64 a,.int .i64 mi] w (PcIs (microN (batchN l n b t) W x mi a) (microN (batchN l n b t) W x mi a).length w):=by
  have hnb:1 ≤ n / b:=Nat.div_pos hbn hb
  have hbl:=batchN_len l (t:=t) hnb
  have hsh:=fun w' (q:Below w.heap.size w w') => rshard_any n b steps t W x E c A l w' (hA.below stays_vec q) hE hb hbn hn hst ht hW hWb hx
  obtain ⟨B,hB⟩:∃ B,batchN l n b t = B:=⟨_,rfl⟩
  rw [hB] at hbl hsh ⊢
  have hP:=pieceL_len B hW hx
  have hge:bdN B.length W x + 1 ≤ bdN B.length W (x + 1):=by
    rw [bdN_succ]
    have:1 ≤ B.length / W:=Nat.div_pos (by omega) (by omega)
    unfold szE
    omega
  obtain ⟨Q,hQ⟩:∃ Q,pieceL B W x = Q:=⟨_,rfl⟩
  have hmi:microN B W x mi a = pieceL Q mi a:=by unfold microN;rw [hQ]
  rw [hQ] at hP hsh
  have hQb:Q.length ≤ 1048576:=by have:=bdN_le B.length W (x + 1) hW hx;omega
  have hpm:=fun A c w' (hA:Rd w' A (nums .i64 Q)) (hc:Q.length ≤ c) => rpiece_any A Q c mi a w' hA hc hQb (by omega) hm hm2 ha
  rw [hmi]
  obtain ⟨M,hM⟩:∃ M,pieceL Q mi a = M:=⟨_,rfl⟩
  rw [hM] at hpm ⊢
  obtain ⟨qn,hqn⟩:∃ qn,Q.length = qn:=⟨_,rfl⟩
  rw [hqn] at hsh hpm
  obtain ⟨mn,hmn⟩:∃ mn,M.length = mn:=⟨_,rfl⟩
  rw [hmn] at hpm ⊢
  have g0:=heap_alloc_new w (.cells #[.int .i64 n,.int .i64 b,.int .i64 steps,.slice A E c] 159)
  have b0:=(br w).alloc (Nat.le_refl _) (.cells #[.int .i64 n,.int .i64 b,.int .i64 steps,.slice A E c] 159)
  have Hsh:=Lib.hid (hsh _ b0);have Hpm:=Lib.hid hpm;have G0:=Lib.hid g0;have B0:=Lib.hid b0
  clear hpm hsh g0 b0 hA hE hmn hqn hM hmi hQ hB hQb hge hP hbl
  go_enter Tryz.func69,Tryz.ntmps69
  go_wp2_with (refine wpl_load #[.int .i64 n,.int .i64 b,.int .i64 steps,.slice A E c] (b:=w.heap.size) G0.out rt_samp rfl rfl rfl rfl ?_)
  refine Hsh.out.mono ?_
  rintro e w1 ⟨A1,c1,rfl,hc1,r1,k1⟩
  have H1:=Lib.hid (Hpm.out A1 c1 w1 r1 hc1);have K1:=Lib.hid (B0.out.trans (k1.mono B0.out.size))
  clear hc1 r1 k1
  go_wp2_with fail
  refine H1.out.mono ?_
  rintro e w2 ⟨A2,c2,rfl,hc2,r2,k2⟩
  have HF:=Lib.hid (⟨A2,c2,rfl,hc2,r2,bt K1.out k2⟩:PcIs M mn w (.returned (.slice A2 mn c2)) w2)
  clear hc2 r2 k2
  go_wp2_with fail
  go_ret
  exact HF.out
end Go.Proofs.YtaccfnffmbndhaaGreat
namespace Go.Proofs.YtaccfnffmbndhaaGreat
open Go.RowKit
theorem rclone_any (A:Option Addr) (zs:List Int) (c:Nat) (w:World) (hA:Rd w A (nums .i64 zs)) (hl:zs.length ≤ 17592186043904) :
    Calls Tryz.prog 11 #[.slice A zs.length c] w fun e w' => ∃ A' c',e = .returned (.slice A' zs.length c') ∧ w'.ownsRow w.heap.size 2 1 (.slice A' zs.length c') zs.length (nums .i64 zs) ∧ Below w.heap.size w w':=by
  go_enter Tryz.func11,Tryz.ntmps11
  go_wp2_with (at_builtin;refine wpList_app et_i64s _ rfl (.tmp 3) (.tmp 4) rfl w.heap.size _ 0 [] rfl (own_empty w 2 1) A zs.length c (nums .i64 zs) rfl (hA.alloc _) (by rw [nums_length];omega) (nums_cell _ _) (by omega) (by unfold maxLen;omega) (by simp) ?_)
  intro A' c' w1 hown hb _ _
  have hb1:=((Below.refl _ w).alloc (Nat.le_refl _) (.cells #[] 2)).trans hb
  have Hown:=Lib.hid hown;have Hb1:=Lib.hid hb1;clear hown hb hb1
  go_wp2
  go_ret
  exact ⟨_,_,rfl,Hown.out,Hb1.out⟩
end Go.Proofs.YtaccfnffmbndhaaGreat
namespace Go.Proofs.YtaccfnffmbndhaaGreat
open Go.RowKit
def chgN (G:List Int) (lo:Nat) (v:List Int) (add:Bool) (k:Nat):List Int:=upTo G.length fun j => if lo ≤ j ∧ j < lo + k then (if add then wrap64 (nth G j + nth v (j - lo)) else nth v (j - lo)) else nth G j
def chgG (G:List Int) (lo:Nat) (v:List Int) (add:Bool):List Int:=chgN G lo v add v.length
section
variable (G:List Int) (lo:Nat) (v:List Int) (add:Bool)
theorem chgN_len (k:Nat):(chgN G lo v add k).length = G.length:=upTo_len _ _
theorem chgN_zero:chgN G lo v add 0 = G:=(eq_upTo rfl fun k _ => by rw [if_neg (by omega)]).symm
theorem chgN_nth {k j:Nat} (hj:j < G.length):nth (chgN G lo v add k) j = if lo ≤ j ∧ j < lo + k then (if add then wrap64 (nth G j + nth v (j - lo)) else nth v (j - lo)) else nth G j:=upTo_nth _ hj
theorem chgN_set {k:Nat} (hk:lo + k < G.length):(chgN G lo v add k).set (lo + k) (if add then wrap64 (nth G (lo + k) + nth v k) else nth v k) = chgN G lo v add (k + 1):=by
  refine ext_nth (by simp [chgN_len]) fun j hj => ?_
  rw [List.length_set,chgN_len] at hj
  rw [nth_set,chgN_nth _ _ _ _ hj,chgN_nth _ _ _ _ hj,chgN_len]
  by_cases h1:j = lo + k
  · subst h1
    rw [if_pos (show lo + k = lo + k ∧ lo + k < G.length from And.intro rfl hk),if_pos (show lo ≤ lo + k ∧ lo + k < lo + (k + 1) by omega),Nat.add_sub_cancel_left]
  · rw [if_neg (show ¬ (j = lo + k ∧ lo + k < G.length) from fun h => h1 h.1)]
    by_cases h2:lo ≤ j ∧ j < lo + k
    · rw [if_pos h2,if_pos (show lo ≤ j ∧ j < lo + (k + 1) by omega)]
    · rw [if_neg h2,if_neg (show ¬ (lo ≤ j ∧ j < lo + (k + 1)) by omega)]
end
theorem chgG_all {G v:List Int} (h:v.length = G.length):chgG G 0 v true = addL G v:=by
  unfold chgG chgN addL
  refine upTo_congr fun k hk => ?_
  rw [if_pos (show 0 ≤ k ∧ k < 0 + v.length by omega),if_pos rfl,Nat.sub_zero]
end Go.Proofs.YtaccfnffmbndhaaGreat
namespace Go.Proofs.YtaccfnffmbndhaaGreat
open Go.RowKit
set_option maxRecDepth 100000 in
set_option maxHeartbeats 1000000 in
theorem rchg_any (A B:Option Addr) (G v:List Int) (n m cg cv lo:Nat) (add:Bool) (w:World) (hA:Rd w A (nums .i64 G)) (hB:Rd w B (nums .i64 v)) (hn:G.length = n) (hm:v.length = m) (hb:n ≤ 1048576) (hlo:lo + m ≤ n) :
    Calls Tryz.prog 72 #[.slice A n cg,.int .i64 (lo:Nat),.slice B m cv,.bool add] w fun e w' => ∃ A' c',e = .returned (.slice A' n c') ∧ w'.ownsRow w.heap.size 2 1 (.slice A' n c') n (nums .i64 (chgG G lo v add)) ∧ Below w.heap.size w w':=by
  have hcl:=rclone_any A G cg w hA (by omega)
  rw [hn] at hcl
  unfold chgG
  rw [hm]
  have Hcl:=Lib.hid hcl;have HB:=Lib.hid hB;have Hn:=Lib.hid hn;have Hm:=Lib.hid hm
  clear hcl hA hB hn hm
  go_enter Tryz.func72,Tryz.ntmps72
  go_wp2_with fail
  refine Hcl.out.mono ?_
  rintro e w1 ⟨A1,c1,rfl,o1,k1⟩
  have HB1:=Lib.hid (HB.out.below k1);have O1:=Lib.hid o1;have K1:=Lib.hid k1
  clear o1 k1
  go_wp2_with fail
  go_loopw [10] (fun z wr => ∃ k:Nat,k ≤ m ∧ z = .int .i64 k ∧ wr.ownsRow w.heap.size 2 1 (.slice A1 n c1) n (nums .i64 (chgN G lo v add k)) ∧ Keep (fun j => (Value.slice A1 n c1).ownBlock = some j) w1 wr) (fun z _ => m - (intOf z).toNat)
  case atStart => exact ⟨0,Nat.zero_le _,rfl,by rw [chgN_zero];exact O1.out,Keep.refl _ _⟩
  case round =>
    obtain ⟨k,hk,rfl,o,qk⟩:=hrel
    by_cases hlt:k < m
    · obtain ⟨g,d,hv,hg,hgl⟩:=o.form (by omega)
      simp only [Value.slice.injEq] at hv
      obtain ⟨rfl,hx1,rfl⟩:=hv
      clear hx1
      have hkx:lo + k < G.length:=by rw [Hn.out];omega
      have p1:=own_num o (show lo + k < n by omega)
      rw [chgN_nth _ _ _ _ hkx,if_neg (by omega)] at p1
      have f1:=o.frozenAt (lo + k)
      have hBr:=HB1.out
      obtain ⟨b2,o2,rfl,p0⟩:=hBr.num (show k < v.length by rw [Hm.out];exact hlt)
      have hgb:b2 ≠ g:=fun e => by
        have h1:w.heap.size ≤ g:=(O1.out.lt g rfl).1
        obtain ⟨b3,o3,e3,p3⟩:=HB.out.num (show k < v.length by rw [Hm.out];exact hlt)
        have h3:b3 < w.heap.size:=lt_of_cell p3
        cases e3
        omega
      have p2:wr.cell? ⟨b2,o2 + k,none⟩ = some (.int .i64 (nth v k)):=qk.cell p0 (by simp [Value.ownBlock];exact fun e => hgb e.symm)
      have hst:=chgN_set G lo v add hkx
      have hki:(k:Int) < m:=by omega
      obtain ⟨j,hj⟩:∃ j,lo + k = j:=⟨_,rfl⟩
      rw [hj] at p1 f1 hst hkx
      have hjj:(lo:Int) + k = (j:Int):=by omega
      have hjn:j < n:=by omega
      have hji:(j:Int) < n:=by omega
      have hj0:¬ (j:Int) < 0:=by omega
      have hwj:IntKind.i64.wrap (j:Int) = j:=IntWalk.i64_in _ (by omega)
      have hwk:IntKind.i64.wrap ((k:Int) + 1) = ((k + 1:Nat):Int):=by rw [IntWalk.i64_in _ (by omega)];push_cast;rfl
      have HK:=Lib.hid qk;have HO2:=Lib.hid o;have Hst:=Lib.hid hst
      clear qk o hst hkx p0 hBr
      cases add with
      | true =>
        rw [if_pos rfl] at Hst
        go_upto_region 6 with (fail)
        refine XA.g 16 (fun w':World => w'.cell? ⟨g,j,none⟩ = some (.int .i64 (nth G j)) ∧ w'.cell? ⟨b2,o2 + k,none⟩ = some (.int .i64 (nth v k))) ?_
        refine XA.t ?_ [0,1,2,3,4,5,6,7,8,9,10,11,12,13,14,15] ⟨p1,p2⟩ ?_
        refine XA.e ?_
        simp only [List.drop_succ_cons,List.drop_zero]
        go_wp2_with fail
        go_roundw
        case rel =>
          refine ⟨k + 1,by omega,by go_num,?_,?_⟩
          · rw [← Hst.out];exact own_put (own_drewN HO2.out 1) j _
          · exact Keep.setCell (HK.out.drewN 1) ⟨g,j,none⟩ (.inr rfl) _
        case measure => simp [intOf];omega
      | false =>
        rw [if_neg (by decide)] at Hst
        go_wp2_with fail
        go_roundw
        case rel =>
          refine ⟨k + 1,by omega,by go_num,?_,?_⟩
          · rw [← Hst.out];exact own_put HO2.out j _
          · exact Keep.setCell HK.out ⟨g,j,none⟩ (.inr rfl) _
        case measure => simp [intOf];omega
    · obtain rfl:k = m:=by omega
      have hki:¬ (k:Int) < k:=by omega
      have HO:=Lib.hid o;have HK:=Lib.hid (K1.out.trans (qk.toBelow K1.out.size (fun j hj => (O1.out.lt j hj).1)))
      clear o qk
      go_wp2_with fail
      go_ret
      exact ⟨_,_,rfl,HO.out,HK.out⟩
end Go.Proofs.YtaccfnffmbndhaaGreat
namespace Go.Proofs.YtaccfnffmbndhaaGreat
open Go.RowKit
theorem MachAt.setG {H:Nat → Prop} {w w':World} {b x:Nat} {i:Inp} {a:MAd} {m:Mst} (h:MachAt H w b i x a m) (hn:∀ k,Mut b a k → ¬ H k) (hk:Keep (fun k => k = a.bg) w w') (G:List Int)
    (oG:w'.ownsRow 0 2 1 (.slice (some ⟨a.bg,0,none⟩) i.start.length a.cg) i.start.length (nums .i64 G)) (wG:G.length = i.start.length ∧ W64 G):MachAt H w' b i x a { m with G:=G }:=by
  have he:Ext (hideW (mutH H b a) w) (hideW (mutH H b a) w'):=ext_step (hk.mono fun k _ e => .inl (.inr (.inr (.inr (.inl e))))) (fun k _ hS => hS)
  have hb:=(hk.block b (lt_of_block h.blk) (fun e => block_notrow h.blk (by decide) h.oG (by rw [e];rfl))).trans h.blk
  have ho:∀ {v:Value} {e size n xs},(∀ j,v.ownBlock = some j → j ≠ a.bg) → w.ownsRow 0 e size v n xs → w'.ownsRow 0 e size v n xs:=fun hne ho => hk.own ho (fun j hj e => hne j hj e)
  have ht:∀ {v:Value} {e:TypeId} {size n:Nat} {xs:List Value},e ≠ 2 → w.ownsRow 0 e size v n xs → ∀ j,v.ownBlock = some j → j ≠ a.bg:=fun hne ho j hj e => by
    rcases h.oG.2 with ⟨e',_⟩ | ⟨r',_,_,e',_,hg,_⟩
    · cases e'
    · simp only [Value.slice.injEq,Option.some.injEq,Addr.mk.injEq] at e'
      obtain ⟨⟨e1,_⟩,_⟩:=e'
      exact block_notrow hg (Ne.symm hne) ho (by rw [hj,e,e1])
  obtain ⟨a0,a1,a2,a3,a5,a11,hp⟩:=h.pl
  obtain ⟨rows,r1,r2,r3,r4⟩:=h.re
  exact ⟨hb,ext_shape h.sh he,ext_sl exts_ex h.ex he,ext_samp h.sa he,⟨a0,a1,a2,a3,a5,a11,ext_plan hp he⟩,ext_rd h.bu he,ext_rd h.it he,⟨rows,ho (ht (by decide) r1) r1,r2,r3,fun j x hx => exts_ex (r4 j x hx) he⟩,
    ho (fun j hj => by cases hj;exact h.dj.2.1) h.oP,ho (fun j hj => by cases hj;exact h.dj.2.2) h.oM,oG,ho (ht (by decide) h.oO) h.oO,h.dj,fun k _ hm => hn k hm,h.wP,h.wM,wG,h.ox,h.xw⟩
theorem itemsL_one {p:Pln} {x st:Nat} {y:Itm} (h:y ∈ itemsL p x st) (hk:y.kind = 1):y.n < p.mi:=by
  unfold itemsL at h
  simp only [List.mem_append,List.mem_map,List.mem_flatMap,List.mem_singleton,List.mem_range] at h
  rcases h with (⟨k,hk',rfl⟩ | ⟨g,_,h⟩) | rfl
  · exact hk'
  · unfold groupL at h
    simp only [List.mem_append,List.mem_map,List.mem_flatMap] at h
    rcases h with (⟨_,_,rfl⟩ | ⟨_,_,_,_,_,_,h⟩) | ⟨_,_,rfl⟩
    · cases hk
    · unfold roundI at h
      obtain ⟨c,_,rfl⟩:=List.mem_map.1 h
      unfold itemOf at hk
      split at hk <;> cases hk
    · cases hk
  · cases hk
theorem cur_mem {i:Inp} {x st nx:Nat} {y:Itm} (h:(curL i x st)[nx]? = some y):st < i.cfg.steps.toNat ∧ y ∈ itemsL (plnI i) x st:=by
  unfold curL at h
  by_cases hc:st < i.cfg.steps.toNat
  · rw [if_pos hc] at h;exact ⟨hc,List.mem_of_getElem? h⟩
  · rw [if_neg hc] at h;simp at h
theorem gradOn_W64 (i:Inp) (P G:List Int) (hG:W64 G):∀ l:List Ex,W64 (gradOn i P G l):=by
  intro l
  induction l generalizing G with
  | nil => exact hG
  | cons e l ih => exact ih _ (addL_W64 _ _)
theorem gradOn_len {i:Inp} {P:List Int} {n:Nat} (l:List Ex):∀ G:List Int,G.length = n → (gradOn i P G l).length = n:=by
  induction l with
  | nil => intro G hG;exact hG
  | cons e l ih => intro G hG;exact ih _ (by rw [addL_len];exact hG)
theorem Keep.sub {S S':Nat → Prop} {w w':World} (h:Keep S w w') (hs:∀ k,S k → S' k):Keep S' w w':=h.mono fun k _ hk => hs k hk
set_option maxRecDepth 100000 in
theorem mdo_comp {H:Nat → Prop} {w:World} {b x:Nat} {i:Inp} {a:MAd} {m:Mst} (h:MachAt H w b i x a m) (hn:∀ k,Mut b a k → ¬ H k) (hnew:∀ k,w.heap.size ≤ k → ¬ H k) (hs:SmIn i) {y:Itm} (hy:(curL i x m.st)[m.nx]? = some y) (hk:y.kind = 1) (u v:Option Addr) :
    Calls Tryz.prog 17 #[.pointer (some ⟨b,0,none⟩),.pointer u,.pointer v] w fun e w' => e = .returned (.int .i64 0) ∧ DidM H (fun _ => False) b i x a m (fun _ m1 => m1 = { m with G:=gradOn i m.P m.G (pickL i.data (micE i x m.st y.n)) }) w w':=by
  obtain ⟨h1,h2⟩:=cur_mem hy
  have h3:=itemsL_one h2 hk
  have hst:=cur_st hy
  refine (mdo_any h hn hnew (G:=fun _ => False) (fun _ h => h.elim) hs hy u v 110 (fun w' => by rw [hk];kernel_rfl) (fun args w => by kernel_rfl) (fun _ => False) (fun _ m1 => m1 = { m with G:=gradOn i m.P m.G (pickL i.data (micE i x m.st y.n)) }) (fun _ _ _ h _ => h) (fun w' q => ?_)).mono ?_
  · have h':=h.below q hn
    refine (mcomp_any h' hs y (.pointer u) (.pointer v) rfl rfl (by rw [hst];exact h1) h3).mono ?_
    rintro e w'' ⟨rfl,hkp,ho⟩
    rw [hst] at ho
    exact .inl ⟨rfl,a,_,h'.setG hn hkp _ ho ⟨gradOn_len _ _ h.wG.1,gradOn_W64 _ _ _ h.wG.2 _⟩,rfl,rfl,hkp.sub (fun k e => .inl (.inr (.inr (.inr (.inl e))))),fun k hm => .inl hm,rfl⟩
  · rintro e w' (⟨rfl,hd⟩ | ⟨C,_,hF,_⟩)
    · exact ⟨rfl,hd⟩
    · exact hF.elim
end Go.Proofs.YtaccfnffmbndhaaGreat
namespace Go.Proofs.YtaccfnffmbndhaaGreat
open Go.RowKit
theorem addL_assoc {a b c:List Int} (h:b.length = a.length):addL (addL a b) c = addL a (addL b c):=by
  have e:(addL a b).length = a.length:=addL_len _ _
  unfold addL at e ⊢
  rw [e]
  refine upTo_congr fun k hk => ?_
  rw [upTo_nth _ hk,upTo_nth _ (by omega)]
  unfold wrap64;omega
theorem addL_zeroR {a:List Int} (h:W64 a) (n:Nat):addL a (List.replicate n 0) = a:=by
  refine (eq_upTo rfl fun k hk => ?_).symm
  have e:nth (List.replicate n (0:Int)) k = 0:=by
    simp only [nth,List.getD_eq_getElem?_getD,List.getElem?_replicate]
    split <;> rfl
  have:=h k hk
  rw [e,Int.add_zero]
  unfold wrap64;omega
theorem mic_len {i:Inp} (hg:GoodIn i) (x st a:Nat):(micE i x st a).length ≤ 1048576:=by
  have h0:=batchN_len i.draws (n:=i.data.length) (b:=i.cfg.batch.toNat) (t:=st) (Nat.div_pos (by have:=hg.b.1;omega) (by have:=hg.c.ba;have:=hg.c.w;omega))
  have h1:∀ (l:List Int) (k j:Nat),(pieceL l k j).length ≤ l.length:=fun l k j => by simp only [pieceL,List.length_take,List.length_drop];omega
  have h2:=h1 (pieceL (batchN i.draws i.data.length i.cfg.batch.toNat st) i.cfg.workers.toNat x) i.cfg.micros.toNat a
  have h3:=h1 (batchN i.draws i.data.length i.cfg.batch.toNat st) i.cfg.workers.toNat x
  have:=hg.c.ba
  unfold micE microN
  omega
theorem gradOn_acc {i:Inp} {P G:List Int} (hG:W64 G) (hl:G.length = cnt i) (l:List Ex):gradOn i P G l = addL G (gradAcc i P l):=by
  have key:∀ (l:List Ex) (A:List Int),A.length = G.length → gradOn i P (addL G A) l = addL G (l.foldl (fun a x => addL a (gradL i.cfg.sizes P i.cfg.shift x.1 x.2)) A):=by
    intro l
    induction l with
    | nil => intro A _;rfl
    | cons x l ih =>
      intro A hA
      show gradOn i P (addL (addL G A) _) l = _
      rw [addL_assoc hA,List.foldl_cons]
      exact ih _ (by rw [addL_len];exact hA)
  have:=key l (List.replicate (cnt i) 0) (by rw [List.length_replicate,hl])
  rw [addL_zeroR hG] at this
  exact this
end Go.Proofs.YtaccfnffmbndhaaGreat
