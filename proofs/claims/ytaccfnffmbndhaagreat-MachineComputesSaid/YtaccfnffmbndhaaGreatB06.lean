/- The walks of part.Even and Range.Size. slices.Reverse at ranges; bucket.Buckets and Groups. Loops over iterators: what serves each of them. bucket.later: ranges that begin later, as an iterator. No condition. -/
import Derived.Test.YtaccfnffmbndhaaGreatB03
import Derived.Test.YtaccfnffmbndhaaGreatB05
import Derived.Test.YtaccfnffmbndhaaGreatB04
import Derived.Maps.AppendAt
import Derived.RangeFuncNested
import Derived.RangeFuncBound
import Derived.RangeFuncCalls
import Derived.RangeFuncLeaves
import Derived.RangeFuncBox
import Derived.Shelf.Abstract
import Derived.WalkKit
import Derived.OwnWalkIn
import Derived.TacticsInMore
import Derived.LoopNIn
import Derived.LoopIn
set_option linter.unusedSimpArgs false
set_option linter.unusedVariables false
namespace Go.Proofs.YtaccfnffmbndhaaGreat
open Go.RowKit
theorem rgsize_any (a b:Nat) (w:World) (ha:a ≤ 1048576) (hb:b ≤ 1048576) :
    Calls Tryz.prog 181 #[.agg #[.int .i64 a,.int .i64 b]] w fun e w' => e = .returned (.int .i64 ((b - a:Nat):Int)) ∧ Below w.heap.size w w':=by
  have hB:Below w.heap.size w (w.alloc (.cells #[.int .i64 a,.int .i64 b] 52)):=(br w).alloc (Nat.le_refl _) _
  by_cases h:a ≤ b
  · have h1:¬ ((b:Int) - a < 0):=by omega
    have h2:((b - a:Nat):Int) = (b:Int) - a:=by omega
    rw [h2]
    clear h2
    go_enter Tryz.func181,Tryz.ntmps181
    go_wp2
    go_ret
    exact ⟨ret_int (by first | rfl | omega | (simp;omega)),hB⟩
  · have h1:(b:Int) - a < 0:=by omega
    have h2:((b - a:Nat):Int) = 0:=by omega
    rw [h2]
    clear h2
    go_enter Tryz.func181,Tryz.ntmps181
    go_wp2
    go_ret
    exact ⟨ret_int (by first | rfl | omega | (simp;omega)),hB⟩
set_option maxRecDepth 100000 in
theorem bound_any (i n k bn bk:Nat) (w:World) (hn:w.heap[bn]? = some (.cells #[.int .i64 n] 3 (0,0))) (hk:w.heap[bk]? = some (.cells #[.int .i64 k] 3 (0,0))) (h1:1 ≤ k) (h2:k ≤ 1048576) (h3:n ≤ 1048576) (hi:i ≤ k) :
    Calls Tryz.prog 213 #[.int .i64 i,.pointer (some ⟨bn,0,none⟩),.pointer (some ⟨bk,0,none⟩)] w fun e w' => e = .returned (.int .i64 (bdN n k i:Int)) ∧ Below w.heap.size w w':=by
  have tn:=fun w' q => bx1 (sb hn w' q)
  have tk:=fun w' q => bx1 (sb hk w' q)
  have q0:=br w
  have hk0:¬ (k = 0):=by omega
  have hq1:(n:Int).tdiv (k:Int) = ((n / k:Nat):Int):=rfl
  have hq2:(n:Int) / (k:Int) = ((n / k:Nat):Int):=rfl
  have hr1:(n:Int).tmod (k:Int) = ((n % k:Nat):Int):=rfl
  have hr2:(n:Int) % (k:Int) = ((n % k:Nat):Int):=rfl
  have hle:=bdN_le n k i (by omega) hi
  have hdef:bdN n k i = i * (n / k) + min i (n % k):=rfl
  have hql:n / k ≤ n:=Nat.div_le_self _ _
  obtain ⟨q,hq⟩:∃ q,n / k = q:=⟨_,rfl⟩
  obtain ⟨r,hr⟩:∃ r,n % k = r:=⟨_,rfl⟩
  obtain ⟨p,hp⟩:∃ p,i * q = p:=⟨_,rfl⟩
  have hm:(i:Int) * (q:Int) = (p:Int):=by rw [← hp];push_cast;rfl
  rw [hq] at hq1 hq2 hdef hql
  rw [hr] at hr1 hr2 hdef
  rw [hp] at hdef
  have hpl:p ≤ 1048576:=by omega
  have hw1:IntKind.i64.wrap (p:Int) = p:=IntWalk.i64_in _ (by omega)
  have hw2:IntKind.i64.wrap (q:Int) = q:=IntWalk.i64_in _ (by omega)
  obtain ⟨d,hd⟩:∃ d,bdN n k i = d:=⟨_,rfl⟩
  rw [hd] at hle hdef ⊢
  have Hdef:=Lib.hid hdef
  clear hn hk hq hr hp hd hdef hle
  go_enter Tryz.func213,Tryz.ntmps213
  go_wp2_with fail
  refine HA.g (fun w':World => Below w.heap.size w w') ?_
  refine HA.t ?_ [0,1,2,3,4,5,6,7,8] q0.drew ?_
  obtain ⟨mn,hmn⟩:∃ mn:Nat,min i r = mn:=⟨_,rfl⟩
  have hmin:(if r < i then (r:Int) else (i:Int)) = (mn:Int):=by rw [← hmn];split <;> omega
  have hw3:IntKind.i64.wrap ((p:Int) + (mn:Int)) = (p:Int) + mn:=IntWalk.i64_in _ (by omega)
  refine HA.t ?_ [9] q0.drew ?_
  refine HA.t ?_ [10,11] q0.drew ?_
  refine HA.d ?_
  have hB:=q0.drew
  have hdd:=Lib.hid (show (p:Int) + mn = (d:Int) by have:=Hdef.out;omega)
  clear hmn hmin hw1 hw2 hw3 hq1 hq2 hr1 hr2 hm
  go_wp2_with fail
  go_ret
  exact ⟨ret_int hdd.out,hB⟩
set_option maxRecDepth 100000 in
theorem even_any (n k:Nat) (w:World) (h1:1 ≤ k) (h2:k ≤ 1048576) (h3:n ≤ 1048576) :
    Calls Tryz.prog 195 #[.int .i64 n,.int .i64 k] w fun e w' => ∃ v,e = .returned v ∧ w'.ownsRow w.heap.size 52 2 v k (rgVals (evenR n k)) ∧ Below w.heap.size w w':=by
  have hq1:¬ ((n:Int) < 0):=by omega
  have hq2:¬ ((k:Int) < 1):=by omega
  obtain ⟨W0,hW0⟩:∃ W0,(w.alloc (.cells #[.int .i64 n] 3)).alloc (.cells #[.int .i64 k] 3) = W0:=⟨_,rfl⟩
  have hn:W0.heap[w.heap.size]? = some (.cells #[.int .i64 n] 3 (0,0)):=by
    rw [← hW0,Below.heap_alloc _ _ _ (by simp)];exact heap_alloc_new w _
  have hk:W0.heap[w.heap.size + 1]? = some (.cells #[.int .i64 k] 3 (0,0)):=by
    rw [← hW0];have:=heap_alloc_new (w.alloc (.cells #[.int .i64 n] 3)) (.cells #[.int .i64 k] 3);simpa using this
  have hs0:W0.heap.size = w.heap.size + 1 + 1:=by rw [← hW0];simp
  have hB0:Below w.heap.size w W0:=by rw [← hW0];exact ((br w).alloc (Nat.le_refl _) _).alloc (by simp) _
  have tn:=fun w' q => bx1 (sb hn w' q)
  have tk:=fun w' q => bx1 (sb hk w' q)
  have hbd:=fun i w' (q:Below W0.heap.size W0 w') (hi:i ≤ k) => bound_any i n k w.heap.size (w.heap.size + 1) w' (sb hn w' q) (sb hk w' q) h1 h2 h3 hi
  have hle:=fun i (hi:i ≤ k) => bdN_le n k i (by omega) hi
  have HW0:=Lib.hid hW0;have Hbd:=Lib.hid hbd;have Hle:=Lib.hid hle;have Hs0:=Lib.hid hs0;have HB0:=Lib.hid hB0
  clear hW0 hn hk hbd hle hs0 hB0
  go_enter Tryz.func195,Tryz.ntmps195
  have q0:=br W0
  go_wp2_with fail
  rw [HW0.out]
  go_loopw [6,16] (fun v x wr => ∃ m:Nat,m ≤ k ∧ x = .int .i64 m ∧ wr.ownsRow W0.heap.size 52 2 v m (rgVals ((List.range m).map fun i => (bdN n k i,bdN n k (i + 1)))) ∧ Below W0.heap.size W0 wr) (fun _ x _ => k - (intOf x).toNat)
  case atStart => exact ⟨0,Nat.zero_le _,rfl,World.ownsRow_nil _ _ _ _,q0⟩
  case round =>
    obtain ⟨m,hm,rfl,ho,q⟩:=hrel
    by_cases hlt:m < k
    · have hmi:(m:Int) < k:=by omega
      obtain ⟨A,c,rfl,_⟩:=own_form ho
      have Ho:=Lib.hid ho
      clear ho
      go_wp2_with fail
      refine (Hbd.out m wr q (by omega)).mono ?_
      rintro e w1 ⟨rfl,k1⟩
      have q1:=bt q k1
      have O1:=Lib.hid (own_below Ho.out k1)
      have hw1:IntKind.i64.wrap ((m:Int) + 1) = ((m + 1:Nat):Int):=by rw [IntWalk.i64_in _ (by omega)];push_cast;rfl
      clear k1 q
      go_wp2_with fail
      have hb2:=Hbd.out (m + 1) w1 q1 (by omega)
      rw [show ((m + 1:Nat):Int) = (m:Int) + 1 from by omega] at hb2
      refine hb2.mono ?_
      rintro e w2 ⟨rfl,k2⟩
      have q2:=bt q1 k2
      have O2:=Lib.hid (own_below O1.out k2)
      have hsz:=q2.size
      clear hb2 k2 q1 O1 Ho
      go_wp2_with (at_builtin;refine wpList_push et_rngs _ rfl (.tmp 19) (.tmp 28) rfl W0.heap.size (.slice A m c) m _ rfl O2.out [.int .i64 (bdN n k m:Nat),.int .i64 (bdN n k (m + 1):Nat)] rfl rfl (nums_cell .i64 [_,_]) (by omega) (by unfold maxLen;omega) hsz ?_)
      intro g6 c6 w6 ho6 hb6 hg6
      have HO6:=Lib.hid ho6
      have q6:=q2.trans hb6
      clear ho6 hb6 hg6 q2
      go_wp2_with fail
      go_roundw
      case rel => exact ⟨m + 1,by omega,by go_num,by rw [evenR_succ,rgVals_app];exact HO6.out,q6⟩
      case measure => simp [intOf];omega
    · obtain rfl:k = m:=by omega
      have Ho:=Lib.hid (own_base (base':=w.heap.size) ho (by have:=Hs0.out;omega))
      have hB:=HB0.out.trans (q.mono HB0.out.size)
      have HB:=Lib.hid hB
      clear ho hB
      go_wp2_with fail
      go_ret
      exact ⟨_,rfl,Ho.out,HB.out⟩
end Go.Proofs.YtaccfnffmbndhaaGreat
namespace Go.Proofs.YtaccfnffmbndhaaGreat
open Go.RowKit
theorem rgAt_eq (l:List Rg) (j:Nat) (h:j < l.length):rgAt l j = l[j]:=by simp [rgAt,List.getD,h]
theorem rgVals_get {l:List Rg} {j:Nat} (h:j < l.length):(rgVals l)[j * 2]? = some (.int .i64 ((rgAt l j).1:Int)) ∧ (rgVals l)[j * 2 + 1]? = some (.int .i64 ((rgAt l j).2:Int)):=rgVals_at (by rw [rgAt_eq l j h];simp [h])
theorem rgVals_set:∀ (l:List Rg) (j:Nat) (r:Rg),((rgVals l).set (j * 2) (.int .i64 (r.1:Int))).set (j * 2 + 1) (.int .i64 (r.2:Int)) = rgVals (l.set j r)
  | [],_,_ => rfl
  | x :: l,0,r => rfl
  | x :: l,j + 1,r => by
    have ih:=rgVals_set l j r
    have e:∀ y (m:List Rg),rgVals (y :: m) = .int .i64 (y.1:Int) :: .int .i64 (y.2:Int) :: rgVals m:=fun y m => by simp [rgVals]
    rw [e,List.set_cons_succ,e,← ih,show (j + 1) * 2 = j * 2 + 1 + 1 by omega,show j * 2 + 1 + 1 + 1 = (j * 2 + 1) + 1 + 1 by omega]
    simp only [List.set_cons_succ]
theorem rg_put {w:World} {base n g c:Nat} {l:List Rg} {e:TypeId} (h:w.ownsRow base e 2 (.slice (some ⟨g,0,none⟩) n c) n (rgVals l)) (j:Nat) (r:Rg) :
    ((w.setCell ⟨g,j * 2,none⟩ (.int .i64 (r.1:Int))).setCell ⟨g,j * 2 + 1,none⟩ (.int .i64 (r.2:Int))).ownsRow base e 2 (.slice (some ⟨g,0,none⟩) n c) n (rgVals (l.set j r)):=by
  have:=((h.stored (j * 2) (.int .i64 (r.1:Int))).1.stored (j * 2 + 1) (.int .i64 (r.2:Int))).1
  rwa [rgVals_set] at this
theorem rg_cell {w:World} {base n g c:Nat} {l:List Rg} {e:TypeId} (h:w.ownsRow base e 2 (.slice (some ⟨g,0,none⟩) n c) n (rgVals l)) {j:Nat} (hj:j < n) :
    w.cell? ⟨g,j * 2,none⟩ = some (.int .i64 ((rgAt l j).1:Int)) ∧ w.cell? ⟨g,j * 2 + 1,none⟩ = some (.int .i64 ((rgAt l j).2:Int)):=by
  have hl:=h.1
  rw [rgVals_len] at hl
  have:=rgVals_get (l:=l) (j:=j) (by omega)
  exact ⟨by rw [h.cellAt _ (by omega)];exact this.1,by rw [h.cellAt _ (by omega)];exact this.2⟩
def revG (l:List Rg) (k:Nat):List Rg:=(List.range l.length).map fun t => if t < k ∨ l.length - 1 - t < k then rgAt l (l.length - 1 - t) else rgAt l t
theorem revG_len (l:List Rg) (k:Nat):(revG l k).length = l.length:=by simp [revG]
theorem revG_at {l:List Rg} {k t:Nat} (h:t < l.length):rgAt (revG l k) t = if t < k ∨ l.length - 1 - t < k then rgAt l (l.length - 1 - t) else rgAt l t:=by
  rw [rgAt_eq _ _ (by rw [revG_len];exact h)];simp [revG]
theorem rg_ext {a b:List Rg} (h:a.length = b.length) (hn:∀ k,k < a.length → rgAt a k = rgAt b k):a = b:=List.ext_getElem h fun k h1 h2 => by
  have:=hn k h1;rwa [rgAt_eq _ _ h1,rgAt_eq _ _ h2] at this
theorem revG_zero (l:List Rg):revG l 0 = l:=rg_ext (revG_len l 0) fun k hk => by
  rw [revG_len] at hk;rw [revG_at hk,if_neg (by omega)]
theorem rgAt_set {l:List Rg} {i j:Nat} {r:Rg} (hi:i < l.length):rgAt (l.set j r) i = if j = i then r else rgAt l i:=by
  rw [rgAt_eq _ _ (by simpa using hi),List.getElem_set,rgAt_eq _ _ hi]
theorem revG_step {l:List Rg} {k:Nat} (h:2 * k + 1 < l.length):((revG l k).set k (rgAt (revG l k) (l.length - 1 - k))).set (l.length - 1 - k) (rgAt (revG l k) k) = revG l (k + 1):=by
  refine rg_ext (by simp [revG_len]) fun t ht => ?_
  have ht':t < l.length:=by simpa [revG_len] using ht
  rw [rgAt_set (by simpa [revG_len] using ht'),rgAt_set (by rw [revG_len];exact ht'),revG_at ht',revG_at (by omega),revG_at (by omega),revG_at ht']
  by_cases h1:l.length - 1 - k = t
  · subst h1
    rw [if_pos rfl,if_neg (by omega),if_pos (by omega),show l.length - 1 - (l.length - 1 - k) = k by omega]
  · rw [if_neg h1]
    by_cases h2:k = t
    · subst h2
      rw [if_pos rfl,if_neg (by omega),if_pos (by omega)]
    · rw [if_neg h2]
      by_cases h3:t < k ∨ l.length - 1 - t < k
      · rw [if_pos h3,if_pos (by omega)]
      · rw [if_neg h3,if_neg (by omega)]
theorem revG_all {l:List Rg} {k:Nat} (h:l.length ≤ 2 * k + 1):revG l k = l.reverse:=by
  refine rg_ext (by simp [revG_len]) fun t ht => ?_
  have ht':t < l.length:=by simpa [revG_len] using ht
  rw [revG_at ht',rgAt_eq l.reverse t (by simpa using ht'),List.getElem_reverse,← rgAt_eq l _ (by omega)]
  by_cases h1:t < k ∨ l.length - 1 - t < k
  · rw [if_pos h1]
  · rw [if_neg h1,show l.length - 1 - t = t by omega]
set_option maxRecDepth 100000 in
theorem revr_any (A:Option Addr) (l:List Rg) (n c base:Nat) (w:World) (ho:w.ownsRow base 52 2 (.slice A n c) n (rgVals l)) (hn:l.length = n) (hl:n ≤ 1048576) :
    Calls Tryz.prog 142 #[.slice A n c] w fun e w' => e = .returned (.tuple #[]) ∧ w'.ownsRow base 52 2 (.slice A n c) n (rgVals l.reverse) ∧ Keep (fun j => (Value.slice A n c).ownBlock = some j) w w':=by
  have h0:w.ownsRow base 52 2 (.slice A n c) n (rgVals (revG l 0)):=by rw [revG_zero];exact ho
  have hst:=fun k (h:2 * k + 1 < n) => revG_step (l:=l) (k:=k) (by omega)
  have hall:=fun k (h:n ≤ 2 * k + 1) => revG_all (l:=l) (k:=k) (by omega)
  rw [hn] at hst
  have H0:=Lib.hid h0;have Hst:=Lib.hid hst;have Hall:=Lib.hid hall;have Hn:=Lib.hid hn
  clear ho h0 hst hall hn
  go_enter Tryz.func142,Tryz.ntmps142
  go_wp2_with fail
  go_loopw [2,3] (fun i j wr => ∃ k:Nat,2 * k ≤ n + 1 ∧ i = .int .i64 k ∧ j = .int .i64 ((n:Int) - 1 - k) ∧ wr.ownsRow base 52 2 (.slice A n c) n (rgVals (revG l k)) ∧ Keep (fun j => (Value.slice A n c).ownBlock = some j) w wr) (fun i _ _ => n - (intOf i).toNat)
  case atStart => exact ⟨0,by omega,rfl,by go_num,H0.out,Keep.refl _ _⟩
  case round =>
    obtain ⟨k,hk,rfl,rfl,hr,hK⟩:=hrel
    by_cases hlt:2 * k + 1 < n
    · obtain ⟨g,rfl⟩:∃ g,A = some ⟨g,0,none⟩:=by
        obtain ⟨g,e,hv,_⟩:=hr.form (by omega)
        simp only [Value.slice.injEq] at hv
        exact ⟨g,hv.1⟩
      have p1:=rg_cell hr (show k < n by omega)
      have p2:=rg_cell hr (show n - 1 - k < n by omega)
      have f1:=fun j => hr.frozenAt j
      have hkl:(k:Int) < (n:Int) - 1 - k:=by omega
      have hj:(n:Int) - 1 - k = ((n - 1 - k:Nat):Int):=by omega
      have hjn:n - 1 - k < n:=by omega
      have hkn:k < n:=by omega
      have hjk:n - 1 - k ≠ k:=by omega
      have hjk2:¬ ((n - 1 - k) * 2 = k * 2) ∧ ¬ ((n - 1 - k) * 2 = k * 2 + 1) ∧ ¬ ((n - 1 - k) * 2 + 1 = k * 2) ∧ ¬ ((n - 1 - k) * 2 + 1 = k * 2 + 1):=by omega
      obtain ⟨r1,hr1⟩:∃ r,rgAt (revG l k) k = r:=⟨_,rfl⟩
      obtain ⟨r2,hr2⟩:∃ r,rgAt (revG l k) (n - 1 - k) = r:=⟨_,rfl⟩
      obtain ⟨j,hjj⟩:∃ j,n - 1 - k = j:=⟨_,rfl⟩
      have hs:=Hst.out k hlt
      rw [hr1,hr2] at hs
      rw [hr1] at p1
      rw [hr2] at p2
      rw [hjj] at p2 hj hjn hjk hjk2 hs
      rw [hj] at hkl ⊢
      have Hr:=Lib.hid hr;have HK:=Lib.hid hK;have Hj:=Lib.hid hj;have Hs:=Lib.hid hs
      clear hr hK hj hjj hs hr1 hr2
      go_wp2_with fail
      refine XA.g 13 (fun w':World => (w'.cell? ⟨g,k * 2,none⟩ = some (.int .i64 (r1.1:Int)) ∧ w'.cell? ⟨g,k * 2 + 1,none⟩ = some (.int .i64 (r1.2:Int))) ∧ (w'.cell? ⟨g,j * 2,none⟩ = some (.int .i64 (r2.1:Int)) ∧ w'.cell? ⟨g,j * 2 + 1,none⟩ = some (.int .i64 (r2.2:Int)))) ?_
      refine XA.t0 ?_ [0,1,2,3,4,5,6,8,9,10] ⟨p1,p2⟩ ?_
      refine XA.t ?_ [7,11] ⟨p1,p2⟩ ?_
      refine XA.t0 ?_ [12] ⟨p1,p2⟩ ?_
      refine XA.e ?_
      simp only [List.drop_succ_cons,List.drop_zero]
      go_wp2_with fail
      go_roundw
      case rel => exact ⟨k + 1,by omega,by go_num,by have:=Hj.out;go_num,by rw [← Hs.out];exact rg_put (rg_put Hr.out k r2) j r1,Keep.setCell (S:=fun j => (Value.slice (some ⟨g,0,none⟩) n c).ownBlock = some j) (Keep.setCell (S:=fun j => (Value.slice (some ⟨g,0,none⟩) n c).ownBlock = some j) (Keep.setCell (S:=fun j => (Value.slice (some ⟨g,0,none⟩) n c).ownBlock = some j) (Keep.setCell (S:=fun j => (Value.slice (some ⟨g,0,none⟩) n c).ownBlock = some j) HK.out.drew ⟨g,k * 2,none⟩ (.inr rfl) _) ⟨g,k * 2 + 1,none⟩ (.inr rfl) _) ⟨g,j * 2,none⟩ (.inr rfl) _) ⟨g,j * 2 + 1,none⟩ (.inr rfl) _⟩
      case measure => simp [intOf];omega
    · have hkl:¬ ((k:Int) < (n:Int) - 1 - k):=by omega
      have hr2:=Hall.out k (by omega)
      rw [hr2] at hr
      have Hr:=Lib.hid hr;have HK:=Lib.hid hK
      clear hr hK hr2
      go_wp2_with fail
      go_end0
      exact ⟨rfl,Hr.out,HK.out⟩
theorem buckets_any (n s:Nat) (w:World) (hn:n ≤ 1048576) (hs:1 ≤ s) (hs2:s ≤ 1048576) :
    Calls Tryz.prog 99 #[.int .i64 n,.int .i64 s] w fun e w' => ∃ v,e = .returned v ∧ w'.ownsRow w.heap.size 52 2 v (bukR n s).length (rgVals (bukR n s)) ∧ Below w.heap.size w w':=by
  have hb:=blocks_any n s w hn hs hs2
  have hl:=cntQ_le n s
  rw [← blkR_vals,← blkR_len] at hb
  have hbl:=bukR_len n s
  rw [blkR_len] at hb
  rw [hbl]
  have hrv:=fun (A:Option Addr) c base w' (ho:w'.ownsRow base 52 2 (.slice A (cntQ n s) c) (cntQ n s) (rgVals (blkR n s))) => revr_any A (blkR n s) (cntQ n s) c base w' ho (blkR_len n s) (by omega)
  have Hb:=Lib.hid hb;have Hrv:=Lib.hid hrv
  clear hb hrv hbl hl
  go_enter Tryz.func99,Tryz.ntmps99
  go_wp2_with fail
  refine Hb.out.mono ?_
  rintro e w1 ⟨v,rfl,o1,k1⟩
  obtain ⟨A,c,rfl,_⟩:=own_form o1
  have O1:=Lib.hid o1
  clear o1
  go_wp2_with fail
  refine (Hrv.out A c _ w1 O1.out).mono ?_
  rintro e w2 ⟨rfl,o2,k2⟩
  have hB:=k1.trans (k2.toBelow k1.size (fun j hj => (O1.out.lt j hj).1))
  have O2:=Lib.hid o2
  clear o2 k1 k2 O1
  go_wp2_with fail
  go_ret
  exact ⟨_,rfl,O2.out,hB⟩
theorem groups_any (n s:Nat) (w:World) (hn:n ≤ 1048576) (hs:1 ≤ s) (hs2:s ≤ 1048576) :
    Calls Tryz.prog 100 #[.int .i64 n,.int .i64 s] w fun e w' => ∃ v,e = .returned v ∧ w'.ownsRow w.heap.size 52 2 v (blkR n s).length (rgVals (blkR n s)) ∧ Below w.heap.size w w':=by
  have hb:=blocks_any n s w hn hs hs2
  rw [← blkR_vals,← blkR_len] at hb
  have Hb:=Lib.hid hb
  clear hb
  go_enter Tryz.func100,Tryz.ntmps100
  go_wp2_with fail
  refine Hb.out.mono ?_
  rintro e w1 ⟨v,rfl,o1,k1⟩
  have O1:=Lib.hid o1
  clear o1
  go_wp2_with fail
  go_ret
  exact ⟨_,rfl,O1.out,k1⟩
end Go.Proofs.YtaccfnffmbndhaaGreat
namespace Go.Proofs.YtaccfnffmbndhaaGreat
open Go.RowKit Go.Shelf
theorem grown_none {w w':World} (h:Below w.heap.size w w'):w.grownBy w' none:=⟨h.os,h.tape,h.output,h.size,fun k hk _ => h.block k hk⟩
theorem ownFrom_block {β:Type} (B b:Nat) (o:Obj) (ho:o.isCells = true):OwnFrom B (fun (_:β) W => W.heap[b]? = some o):=fun _ W W' row hs hg hr =>
  (hg.block b (lt_of_block hs) fun e => by
    obtain ⟨o',h,hc⟩:=(hr b e.symm).2
    rw [hs] at h
    cases h
    rw [ho] at hc
    cases hc).trans hs
theorem wpListIn_push {F:Fence} {m:Nat} {P:Program} {t e:TypeId} {z:Value} {size bytes:Nat} (T:ElemT P t e z size bytes) (W:World) {ops:Array Oper} {rest:List Oper} {o:Oper} {a:Act} {Q:Exit → Act → World → Prop}
    (hgd:o.guard = none) (s x:Operand) (ho:o.op = .call { callee:=.builtin .append,args:=#[s,x],argTypes:=#[t,t] })
    (n₀ B:Nat) (v:Value) (n:Nat) (xs:List Value) (hs:a.eval s = v) (hbx:Boxed W B t v) (hte:t ≠ e) (hown:W.ownsRow n₀ e size v n xs)
    (us:List Value) (hx:a.eval x = .slice (some ⟨W.heap.size,0,none⟩) 1 1) (hus:us.length = size) (h1:∀ u ∈ us,u.oneCell' = true)
    (hb:(n + 1) * bytes ≤ 140737488355328) (h63:n + 1 ≤ maxLen) (hbase:n₀ ≤ W.heap.size) (hB:n₀ ≤ B)
    (h:∀ g c w1,Boxed w1 B t v → Boxed (w1.setCell ⟨B,0,none⟩ (.slice (some ⟨g,0,none⟩) (n + 1) c)) B t (.slice (some ⟨g,0,none⟩) (n + 1) c) →
      (w1.setCell ⟨B,0,none⟩ (.slice (some ⟨g,0,none⟩) (n + 1) c)).ownsRow n₀ e size (.slice (some ⟨g,0,none⟩) (n + 1) c) (n + 1) (xs ++ us) →
      KeepsOthers W (w1.setCell ⟨B,0,none⟩ (.slice (some ⟨g,0,none⟩) (n + 1) c)) → Below n₀ W (w1.setCell ⟨B,0,none⟩ (.slice (some ⟨g,0,none⟩) (n + 1) c)) →
      (∀ b cs t' sg,b ≠ B → t' ≠ e → W.heap[b]? = some (.cells cs t' sg) → (w1.setCell ⟨B,0,none⟩ (.slice (some ⟨g,0,none⟩) (n + 1) c)).heap[b]? = some (.cells cs t' sg)) →
      wpListIn F m P ops Q rest (a.put o.dst (.slice (some ⟨g,0,none⟩) (n + 1) c)) w1):wpListIn F m P ops Q (o :: rest) a (W.alloc (.cells us.toArray e)):=by
  obtain ⟨i,hi,hz0,hz1,hz2⟩:=T.info
  refine wpListIn_append_own (W.alloc (.cells us.toArray e)) hgd s x t ho n₀ e i z size bytes T.und hi hz0 hz1 hz2 T.zs T.pos v n xs hs (hown.alloc _) ⟨W.heap.size,0,none⟩ 1 1 us hx (by simpa using hus) ?_ h1 h63 hb
    (by simp;omega) ?_
  · intro j u hu
    rw [Addr.add_lit,Nat.zero_add,cell_of_row _ W.heap.size j us.toArray e (0,0) (heap_alloc_new W _)]
    simpa using hu
  · intro v' w1 hown' hg _
    obtain ⟨g,c,rfl⟩:=ownsRow_succ hown'
    obtain ⟨k1,k2,k3,k4,k5⟩:=hbx.appended hte hown hbase hB hown' hg
    refine h g c w1 k1 k2 k3 k4 k5 fun b cs t' sg hbB hte' hbk => ?_
    have h0:(W.alloc (.cells us.toArray e)).heap[b]? = some (.cells cs t' sg):=(Below.heap_alloc W _ b (lt_of_block hbk)).trans hbk
    have h1:w1.heap[b]? = some (.cells cs t' sg):=(hg.block b (lt_of_block h0) (block_notrow h0 hte' (hown.alloc _))).trans h0
    exact (Below.heap_setCell w1 _ _ b (fun e => hbB e)).trans h1
theorem own_turn {W W':World} {B base:Nat} {e:TypeId} {size n:Nat} {v:Value} {xs:List Value} {row:Option Nat} (h:W.ownsRow base e size v n xs) (hg:W.grownBy W' row) (hr:∀ r,row = some r → B ≤ r ∧ ∃ o:Obj,W.heap[r]? = some o ∧ o.isCells = false):W'.ownsRow base e size v n xs:=by
  refine h.kept hg ?_
  rcases h.2 with ⟨rfl,_⟩ | ⟨g,cap,cur,rfl,_,hgb,_⟩
  · exact .inl rfl
  · refine .inr fun e' => ?_
    obtain ⟨o,ho,hc⟩:=(hr g (by simpa [Value.ownBlock] using e'.symm)).2
    rw [hgb] at ho;cases ho;cases hc
theorem block_turn {W W':World} {B b:Nat} {o:Obj} (ho:o.isCells = true) {row:Option Nat} (h:W.heap[b]? = some o) (hg:W.grownBy W' row) (hr:∀ r,row = some r → B ≤ r ∧ ∃ o:Obj,W.heap[r]? = some o ∧ o.isCells = false):W'.heap[b]? = some o:=
  (hg.block b (lt_of_block h) fun e => by
    obtain ⟨o',h',hc⟩:=(hr b e.symm).2
    rw [h] at h'
    cases h'
    rw [ho] at hc
    cases hc).trans h
theorem others_keep {S:Nat → Prop} {W W':World} (h:Keep S W W') (hS:∀ k o,S k → W.heap[k]? = some o → o.isCells = true):KeepsOthers W W':=
  ⟨h.size,fun k o hk ho => (h.block k (lt_of_block hk) fun hs => by rw [hS k o hs hk] at ho;cases ho).trans hk⟩
theorem wpListIn_mk {F:Fence} {m:Nat} {P:Program} {t e:TypeId} {z:Value} {bytes:Nat} (T:ElemT P t e z 1 bytes) (w:World) {ops:Array Oper} {rest:List Oper} {o:Oper} {a:Act} {Q:Exit → Act → World → Prop}
    (hg:o.guard = none) (l c:Operand) (hop:o.op = Op.makeSlice t l c) (hzc:z.cells = #[z])
    (n:Nat) (hl:a.eval l = .int .i64 (n:Int)) (hc:a.eval c = .int .i64 (n:Int)) (b2:bytes * n ≤ 281474976710656) (b3:n ≤ maxLen)
    (hK:∀ w',w'.ownsRow w.heap.size e 1 (.slice (some ⟨w.heap.size,0,none⟩) n n) n (List.replicate n z) → Below w.heap.size w w' →
      wpListIn F m P ops Q rest (a.put o.dst (.slice (some ⟨w.heap.size,0,none⟩) n n)) w'):wpListIn F m P ops Q (o :: rest) a w:=by
  obtain ⟨i,hi,hz0,hz1,hz2⟩:=T.info
  refine wpListIn_plain hg fun K hK' => ?_
  obtain ⟨w',hrun,r1,r2⟩:=run_make_full (P:=P) w w.heap.size t e i z 1 T.und hi hz0 hz1 .i64 .i64 n (by rw [hz2];exact b2) b3 (Nat.le_refl _)
  rw [hzc,Nat.mul_one,toList_madeCells_one] at r1
  unfold Oper.wpIn
  refine ⟨by simp [Oper.about,hop],?_⟩
  rw [Oper.semAt_plain F _ _ (by rw [hop];intro c hc';cases hc')]
  simp [execOp,hop,hl,hc,hrun,Result.andThen]
  exact hK' _ _ (hK w' r1 ⟨r2.os,r2.tape,r2.output,r2.size,fun k hk => r2.block k hk (by simp)⟩)
end Go.Proofs.YtaccfnffmbndhaaGreat
namespace Go.Proofs.YtaccfnffmbndhaaGreat
open Go.RowKit Go.Shelf
attribute [local go_sem] Oper.semAt_some
theorem run_store_func (P:Program) (w:World) (a:Addr) (fn:Fn) (fi ca:Array Value) (m:Mode):(store a (.func fn fi ca) m).run P w = stored P w a (.func fn fi ca) m:=run_store P w a _ m rfl
attribute [local go_sem] run_store_func
structure LatAt (w:World) (L S B:Nat) (A:Option Addr) (rs:List Rg) (c d:Nat) (tf:TypeId):Prop where
  l:w.heap[L]? = some (.cells #[.slice A rs.length c] 120 (0,0))
  s:w.heap[S]? = some (.cells #[.func (.func 225) #[] #[.pointer (some ⟨B,0,none⟩)]] tf (0,0))
  b:w.heap[B]? = some (.cells #[.int .i64 d] 3 (0,0))
  r:Rd w A (rgVals rs)
theorem LatAt.below {w w':World} {L S B:Nat} {A:Option Addr} {rs:List Rg} {c d:Nat} {tf:TypeId} (h:LatAt w L S B A rs c d tf) (hb:Below w.heap.size w w'):LatAt w' L S B A rs c d tf:=
  ⟨sb h.l _ hb,sb h.s _ hb,sb h.b _ hb,h.r.below hb⟩
set_option maxRecDepth 100000 in
theorem later1_any (lo hi d B:Nat) (w:World) (hB:w.heap[B]? = some (.cells #[.int .i64 d] 3 (0,0))) (h1:lo ≤ 1048576) (h2:hi ≤ 1048576) (h3:d ≤ 1048576) :
    Calls Tryz.prog 225 #[.agg #[.int .i64 lo,.int .i64 hi],.pointer (some ⟨B,0,none⟩)] w fun e w' => e = .returned (.agg #[.int .i64 ((lo + d:Nat):Int),.int .i64 ((hi + d:Nat):Int)]) ∧ Below w.heap.size w w':=by
  have hb:=bx1 hB
  have hl:=lt_of_block hB
  have e1:((lo + d:Nat):Int) = (lo:Int) + d:=by omega
  have e2:((hi + d:Nat):Int) = (hi:Int) + d:=by omega
  rw [e1,e2]
  clear e1 e2 hB
  go_enter Tryz.func225,Tryz.ntmps225
  go_wp2_with fail
  have e1:=heap_alloc_new (w.alloc (.cells #[.int .i64 lo,.int .i64 hi] 52)) (.cells #[.int .i64 ((lo:Int) + d),.int .i64 ((hi:Int) + d)] 52)
  obtain ⟨W9,hW9⟩:∃ W9,W9 = (w.alloc (.cells #[.int .i64 lo,.int .i64 hi] 52)).alloc (.cells #[.int .i64 ((lo:Int) + d),.int .i64 ((hi:Int) + d)] 52):=⟨_,rfl⟩
  have hbW:Below w.heap.size w W9:=by rw [hW9];exact ((Below.refl _ w).alloc (Nat.le_refl _) _).alloc (by simp) _
  rw [← hW9,World.size_alloc] at e1
  rw [← hW9]
  have x:=bx2 e1
  exact bodyPost_ret (v:=.agg #[.int .i64 ((lo:Int) + d),.int .i64 ((hi:Int) + d)]) (by simp [results,Tryz.results225,go_sem,x]) rfl ⟨rfl,hbW⟩
def rgEnc (r:Rg):Array Value:=#[.agg #[.int .i64 (r.1:Int),.int .i64 (r.2:Int)]]
theorem take_snoc {α:Type} {l:List α} {k:Nat} {x:α} (h:l[k]? = some x):l.take (k + 1) = l.take k ++ [x]:=by
  rw [List.take_add_one,h];rfl
set_option maxRecDepth 100000 in
theorem later_any (A:Option Addr) (rs:List Rg) (c d:Nat) (w:World) (hr:Rd w A (rgVals rs)) :
    Calls Tryz.prog 210 #[.slice A rs.length c,.int .i64 d] w fun e w' => ∃ L S B,e = .returned (.func (.func 226) #[] #[.pointer (some ⟨L,0,none⟩),.pointer (some ⟨S,0,none⟩)]) ∧ LatAt w' L S B A rs c d 335 ∧ (w.heap.size ≤ L ∧ w.heap.size ≤ S ∧ w.heap.size ≤ B) ∧ Below w.heap.size w w':=by
  obtain ⟨n,hn⟩:∃ n,n = rs.length:=⟨_,rfl⟩
  rw [← hn]
  have Hn:=Lib.hid hn
  have Hr:=Lib.hid hr
  clear hn hr
  go_enter Tryz.func210,Tryz.ntmps210
  go_wp2_with fail
  have a1:=heap_alloc_new w (.cells #[.slice A n c] 120)
  have b1:Below w.heap.size w (w.alloc (.cells #[.slice A n c] 120)):=(Below.refl _ w).alloc (Nat.le_refl _) _
  have s1:=World.size_alloc w (.cells #[.slice A n c] 120)
  generalize w.alloc (.cells #[.slice A n c] 120) = W1 at *
  have a2:=heap_alloc_new W1 (.cells #[.int .i64 d] 3)
  have b2:Below W1.heap.size W1 (W1.alloc (.cells #[.int .i64 d] 3)):=(Below.refl _ W1).alloc (Nat.le_refl _) _
  have s2:=World.size_alloc W1 (.cells #[.int .i64 d] 3)
  generalize W1.alloc (.cells #[.int .i64 d] 3) = W2 at *
  have a3:=heap_alloc_new W2 (.cells #[.func (.func 225) #[] #[.pointer (some ⟨w.heap.size + 1,0,none⟩)]] 335)
  have b3:Below W2.heap.size W2 (W2.alloc (.cells #[.func (.func 225) #[] #[.pointer (some ⟨w.heap.size + 1,0,none⟩)]] 335)):=(Below.refl _ W2).alloc (Nat.le_refl _) _
  generalize W2.alloc (.cells #[.func (.func 225) #[] #[.pointer (some ⟨w.heap.size + 1,0,none⟩)]] 335) = W3 at *
  have b13:=b2.trans (b3.mono b2.size)
  have hbW:=b1.trans (b13.mono b1.size)
  rw [s2,s1] at a3
  rw [s1] at a2
  exact bodyPost_ret (v:=.func (.func 226) #[] #[.pointer (some ⟨w.heap.size,0,none⟩),.pointer (some ⟨w.heap.size + 1 + 1,0,none⟩)]) (by simp [results,Tryz.results210,go_sem]) rfl
    ⟨w.heap.size,w.heap.size + 1 + 1,w.heap.size + 1,rfl,⟨by rw [← Hn.out];exact sb a1 _ b13,a3,sb a2 _ b3,Hr.out.below hbW⟩,⟨Nat.le_refl _,by omega,by omega⟩,hbW⟩
set_option maxRecDepth 100000 in
set_option maxHeartbeats 2000000 in
theorem later2_in (n l L S B:Nat) (A:Option Addr) (rs:List Rg) (c d:Nat) (Kp:World → World → Prop) (hKp:∀ W W',LatAt W L S B A rs c d 335 → Kp W W' → LatAt W' L S B A rs c d 335) (hlen:rs.length ≤ 1048576) (hd:d ≤ 1048576) (hrs:∀ r ∈ rs,r.1 ≤ 1048576 ∧ r.2 ≤ 1048576)
    (J Jx:List Rg → World → Prop) (Bx:Nat) (hJ:AbidesFrom Bx J)
    (hY:∀ pre x W,J pre W → x ∈ shR d rs → pre.length < rs.length → YieldAt Fence.wide (n - 1) Tryz.prog l (rgEnc x) W fun e W' =>
      (e = .returned (.bool true) ∧ J (pre ++ [x]) W' ∧ Kp W W') ∨ (e = .returned (.bool false) ∧ Jx (pre ++ [x]) W'))
    (W:World) (hA:LatAt W L S B A rs c d 335) (h0:J [] W) :
    CallsIn Fence.wide n Tryz.prog 226 #[.func (.yield l) #[] #[],.pointer (some ⟨L,0,none⟩),.pointer (some ⟨S,0,none⟩)] W fun e W' => (∃ v,e = .returned v) ∧
      ((∃ ys,ys = shR d rs ∧ J ys W') ∨ (∃ pre,True ∧ Jx pre W')):=by
  have xL:=bx1 hA.l
  obtain ⟨nn,hnn⟩:∃ nn,nn = rs.length:=⟨_,rfl⟩
  rw [← hnn] at hY hlen xL
  have Hnn:=Lib.hid hnn;have HA:=Lib.hid hA;have HK:=Lib.hid hKp
  clear hnn hA hKp
  refine callsIn_of_wp Tryz.func226 rfl trivial ?_ rfl
  simp only [Tryz.ntmps226,List.size_toArray,List.length_cons,List.length_nil,Nat.reduceAdd,Nat.reduceSub,Array.replicate_succ,Array.replicate_zero,List.push_toArray,List.append_toArray,List.nil_append,List.cons_append]
  gi_wp2
  gi_loopw [8] (fun i wr => ∃ k:Nat,k ≤ nn ∧ i = .int .i64 k ∧ J ((shR d rs).take k) wr ∧ LatAt wr L S B A rs c d 335) (fun i _ => nn - (intOf i).toNat)
  case atStart => exact ⟨0,Nat.zero_le _,rfl,h0,HA.out⟩
  case round =>
    obtain ⟨k,hk,rfl,hJs,hL⟩:=hrel
    clear xL h0 HA W
    by_cases hlt:k < nn
    · obtain ⟨r,hr⟩:∃ r,rs[k]? = some r:=⟨_,List.getElem?_eq_getElem (by rw [← Hnn.out];exact hlt)⟩
      have hr2:=hrs r (List.mem_of_getElem? hr)
      have hrv:=rgVals_at hr
      obtain ⟨g,o,rfl,c0⟩:=hL.r _ _ hrv.1
      obtain ⟨g',o',e',c1⟩:=hL.r _ _ hrv.2
      obtain ⟨rfl,rfl⟩:g' = g ∧ o' = o:=by simpa using e'.symm
      rw [← Nat.add_assoc] at c1
      have xS:=bx1 hL.s
      have lS:=lt_of_cell xS.1
      have HJs:=Lib.hid hJs;have Hr:=Lib.hid hr
      have HL:=Lib.hid hL
      clear hJs hr hrv e' hL
      have hlen:((shR d rs).take k).length < nn:=by rw [List.length_take,shR_len];omega
      have hx:(shR d rs)[k]? = some (r.1 + d,r.2 + d):=by simp [shR,Hr.out]
      have Hx:=Lib.hid hx
      have qa:Below wr.heap.size wr (wr.alloc (.cells #[.int .i64 (r.1:Int),.int .i64 (r.2:Int)] 52)):=(Below.refl _ wr).alloc (Nat.le_refl _) _
      clear hx
      gi_wp2_with fail
      refine ⟨trivial,(fun h => by cases h),?_⟩
      refine (callsIn_wide.2 (later1_any r.1 r.2 d B _ (HL.out.below qa).b hr2.1 hr2.2 hd)).mono ?_
      rintro e w3 ⟨rfl,hb3⟩
      have q13:=qa.trans (hb3.mono qa.size)
      have hJ3:=hJ _ _ _ none HJs.out (grown_none q13) (fun _ h => by cases h)
      obtain ⟨fn,tmps,assign,body,hy,hR⟩:=hY _ (r.1 + d,r.2 + d) w3 hJ3 (List.mem_of_getElem? Hx.out) hlen
      unfold rgEnc at hy
      dsimp only at hy
      rw [Int.natCast_add,Int.natCast_add] at hy
      have HL3:=Lib.hid (HL.out.below q13)
      clear hJ3 hb3 q13 qa xS lS c0 c1
      gi_wp2
      refine ⟨(fun h => by cases h),?_⟩
      refine hR.mono ?_
      rintro e w5 (⟨rfl,hJ5,hk5⟩ | ⟨rfl,hJx5⟩)
      · have HJ5:=Lib.hid hJ5;have HK5:=Lib.hid hk5;clear hJ5 hk5
        gi_wp2
        go_roundw
        case rel => exact ⟨k + 1,by omega,by go_num,by rw [take_snoc Hx.out];exact HJ5.out,HK.out _ _ HL3.out HK5.out⟩
        case measure => simp [intOf];omega
      · gi_wp2
        refine bodyPost_ret (results_none rfl _ _ _) rfl ?_
        exact ⟨⟨_,rfl⟩,.inr ⟨_,trivial,hJx5⟩⟩
    · obtain rfl:k = nn:=by omega
      have hall:(shR d rs).take k = shR d rs:=List.take_of_length_le (by rw [shR_len,Hnn.out];exact Nat.le_refl _)
      rw [hall] at hJs
      have HJs:=Lib.hid hJs;clear hJs hall
      gi_wp2
      go_end0
      exact ⟨⟨_,rfl⟩,.inl ⟨_,rfl,HJs.out⟩⟩
structure Kd (n₁ n₂:Nat) (W W':World):Prop where
  size:W.heap.size ≤ W'.heap.size
  block:∀ k,n₁ ≤ k → k < n₂ → W'.heap[k]? = W.heap[k]?
theorem Kd.trans {n₁ n₂:Nat} {A B C:World} (h:Kd n₁ n₂ A B) (k:Kd n₁ n₂ B C):Kd n₁ n₂ A C:=⟨Nat.le_trans h.size k.size,fun j h1 h2 => (k.block j h1 h2).trans (h.block j h1 h2)⟩
theorem kd_b {n₁ n₂:Nat} {w:World} (hn:n₂ ≤ w.heap.size) (W:World) (l:Nat) (o o':Obj) (hl:w.heap.size ≤ l) (h:W.heap[l]? = some o) (h1:o.isCells = false) (h2:o.isWalk = false):Kd n₁ n₂ W (W.putObj l o'):=
  ⟨(belowK_b hn W l o o' hl h h1 h2).size,fun k _ hk => (belowK_b hn W l o o' hl h h1 h2).block k hk⟩
theorem kd_below {n₁ n₂:Nat} {W W':World} (h:Below n₂ W W'):Kd n₁ n₂ W W':=⟨h.size,fun k _ hk => h.block k hk⟩
structure LatB (n₁ n₂ L S B:Nat) (A:Option Addr):Prop where
  l:n₁ ≤ L ∧ L < n₂
  s:n₁ ≤ S ∧ S < n₂
  b:n₁ ≤ B ∧ B < n₂
  a:∀ x,A = some x → n₁ ≤ x.block ∧ x.block < n₂
theorem LatAt.kd {n₁ n₂:Nat} {W W':World} {L S B:Nat} {A:Option Addr} {rs:List Rg} {c d:Nat} {tf:TypeId} (h:LatAt W L S B A rs c d tf) (hb:LatB n₁ n₂ L S B A) (k:Kd n₁ n₂ W W'):LatAt W' L S B A rs c d tf:=
  ⟨(k.block _ hb.l.1 hb.l.2).trans h.l,(k.block _ hb.s.1 hb.s.2).trans h.s,(k.block _ hb.b.1 hb.b.2).trans h.b,fun j x hx => by
    obtain ⟨b,o,e,hc⟩:=h.r j x hx
    refine ⟨b,o,e,?_⟩
    have:=hb.a _ e
    rw [World.cell?] at hc ⊢
    rw [k.block b this.1 this.2]
    exact hc⟩
theorem later_stops (n n₁ n₂ L S B:Nat) (A:Option Addr) (rs:List Rg) (c d:Nat) (w:World) (hA:LatAt w L S B A rs c d 335) (hB:LatB n₁ n₂ L S B A) (hlen:rs.length ≤ 1048576) (hd:d ≤ 1048576) (hrs:∀ r ∈ rs,r.1 ≤ 1048576 ∧ r.2 ≤ 1048576) :
    SeqStopsK Fence.wide n Tryz.prog 226 #[.pointer (some ⟨L,0,none⟩),.pointer (some ⟨S,0,none⟩)] rgEnc (Kd n₁ n₂) (fun ys => ys = shR d rs) (fun _ => True) rs.length w:=fun l J Jx W hW hJ _ hY h0 =>
  later2_in n l L S B A rs c d (Kd n₁ n₂) (fun _ _ h k => h.kd hB k) hlen hd hrs J Jx _ hJ (fun pre x W h _ => hY pre x W h) W (hA.below hW) h0
theorem own_at {w:World} {base:Nat} {e:TypeId} {size n c:Nat} {A:Option Addr} {xs:List Value} (h:w.ownsRow base e size (.slice A n c) n xs):∀ x,A = some x → base ≤ x.block ∧ x.block < w.heap.size:=fun x hx => by
  rcases h.2 with ⟨hv,_⟩ | ⟨g,cap,cur,hv,hb,hg,_⟩
  · simp only [Value.slice.injEq] at hv;rw [hx] at hv;cases hv.1
  · simp only [Value.slice.injEq] at hv;rw [hx] at hv;cases hv.1;exact ⟨hb,lt_of_block hg⟩
end Go.Proofs.YtaccfnffmbndhaaGreat
