/- The walks of part.Even and Range.Size. slices.Reverse at ranges; bucket.Buckets and Groups. The examples of a micro-batch. Worlds of which some blocks are hidden: what is read there stays when the hidden blocks change. No condition. -/
import Derived.Test.YtaccfnffmbndhaaGreatA08
import Derived.Test.YtaccfnffmbndhaaGreatA05
import Derived.Test.YtaccfnffmbndhaaGreatA03
import Derived.Test.YtaccfnffmbndhaaGreatA04
import Derived.Test.YtaccfnffmbndhaaGreatA02
set_option linter.unusedSimpArgs false
set_option linter.unusedVariables false
namespace Go.Proofs.YtaccfnffmbndhaaGreat
open Go.RowKit
theorem rgsize_any (a b:Nat) (w:World) (ha:a ≤ 1048576) (hb:b ≤ 1048576) :
    Calls Tryz.prog 181 #[.agg #[.int .i64 a,.int .i64 b]] w fun e w' => e = .returned (.int .i64 ((b - a:Nat):Int)) ∧ Below w.heap.size w w':=by
  have hB:Below w.heap.size w (w.alloc (.cells #[.int .i64 a,.int .i64 b] 52)):=(br w).alloc (Nat.le_refl _) _
  by_cases h:a ≤ b
  · have h1:¬ ((b:Int) - a < 0):=by omega
    have h2:((b - a:Nat):Int) = (b:Int) - a:=by omega
    rw [h2]
    clear h2
    go_enter Tryz.func181,Tryz.ntmps181
    go_wp2
    go_ret
    exact ⟨ret_int (by first | rfl | omega | (simp;omega)),hB⟩
  · have h1:(b:Int) - a < 0:=by omega
    have h2:((b - a:Nat):Int) = 0:=by omega
    rw [h2]
    clear h2
    go_enter Tryz.func181,Tryz.ntmps181
    go_wp2
    go_ret
    exact ⟨ret_int (by first | rfl | omega | (simp;omega)),hB⟩
set_option maxRecDepth 100000 in
theorem bound_any (i n k bn bk:Nat) (w:World) (hn:w.heap[bn]? = some (.cells #[.int .i64 n] 3 (0,0))) (hk:w.heap[bk]? = some (.cells #[.int .i64 k] 3 (0,0))) (h1:1 ≤ k) (h2:k ≤ 1048576) (h3:n ≤ 1048576) (hi:i ≤ k) :
    Calls Tryz.prog 213 #[.int .i64 i,.pointer (some ⟨bn,0,none⟩),.pointer (some ⟨bk,0,none⟩)] w fun e w' => e = .returned (.int .i64 (bdN n k i:Int)) ∧ Below w.heap.size w w':=by
  have tn:=fun w' q => bx1 (sb hn w' q)
  have tk:=fun w' q => bx1 (sb hk w' q)
  have q0:=br w
  have hk0:¬ (k = 0):=by omega
  have hq1:(n:Int).tdiv (k:Int) = ((n / k:Nat):Int):=rfl
  have hq2:(n:Int) / (k:Int) = ((n / k:Nat):Int):=rfl
  have hr1:(n:Int).tmod (k:Int) = ((n % k:Nat):Int):=rfl
  have hr2:(n:Int) % (k:Int) = ((n % k:Nat):Int):=rfl
  have hle:=bdN_le n k i (by omega) hi
  have hdef:bdN n k i = i * (n / k) + min i (n % k):=rfl
  have hql:n / k ≤ n:=Nat.div_le_self _ _
  obtain ⟨q,hq⟩:∃ q,n / k = q:=⟨_,rfl⟩
  obtain ⟨r,hr⟩:∃ r,n % k = r:=⟨_,rfl⟩
  obtain ⟨p,hp⟩:∃ p,i * q = p:=⟨_,rfl⟩
  have hm:(i:Int) * (q:Int) = (p:Int):=by rw [← hp];push_cast;rfl
  rw [hq] at hq1 hq2 hdef hql
  rw [hr] at hr1 hr2 hdef
  rw [hp] at hdef
  have hpl:p ≤ 1048576:=by omega
  have hw1:IntKind.i64.wrap (p:Int) = p:=IntWalk.i64_in _ (by omega)
  have hw2:IntKind.i64.wrap (q:Int) = q:=IntWalk.i64_in _ (by omega)
  obtain ⟨d,hd⟩:∃ d,bdN n k i = d:=⟨_,rfl⟩
  rw [hd] at hle hdef ⊢
  have Hdef:=Lib.hid hdef
  clear hn hk hq hr hp hd hdef hle
  go_enter Tryz.func213,Tryz.ntmps213
  go_wp2_with fail
  refine HA.g (fun w':World => Below w.heap.size w w') ?_
  refine HA.t ?_ [0,1,2,3,4,5,6,7,8] q0.drew ?_
  obtain ⟨mn,hmn⟩:∃ mn:Nat,min i r = mn:=⟨_,rfl⟩
  have hmin:(if r < i then (r:Int) else (i:Int)) = (mn:Int):=by rw [← hmn];split <;> omega
  have hw3:IntKind.i64.wrap ((p:Int) + (mn:Int)) = (p:Int) + mn:=IntWalk.i64_in _ (by omega)
  refine HA.t ?_ [9] q0.drew ?_
  refine HA.t ?_ [10,11] q0.drew ?_
  refine HA.d ?_
  have hB:=q0.drew
  have hdd:=Lib.hid (show (p:Int) + mn = (d:Int) by have:=Hdef.out;omega)
  clear hmn hmin hw1 hw2 hw3 hq1 hq2 hr1 hr2 hm
  go_wp2_with fail
  go_ret
  exact ⟨ret_int hdd.out,hB⟩
set_option maxRecDepth 100000 in
theorem even_any (n k:Nat) (w:World) (h1:1 ≤ k) (h2:k ≤ 1048576) (h3:n ≤ 1048576) :
    Calls Tryz.prog 195 #[.int .i64 n,.int .i64 k] w fun e w' => ∃ v,e = .returned v ∧ w'.ownsRow w.heap.size 52 2 v k (rgVals (evenR n k)) ∧ Below w.heap.size w w':=by
  have hq1:¬ ((n:Int) < 0):=by omega
  have hq2:¬ ((k:Int) < 1):=by omega
  obtain ⟨W0,hW0⟩:∃ W0,(w.alloc (.cells #[.int .i64 n] 3)).alloc (.cells #[.int .i64 k] 3) = W0:=⟨_,rfl⟩
  have hn:W0.heap[w.heap.size]? = some (.cells #[.int .i64 n] 3 (0,0)):=by
    rw [← hW0,Below.heap_alloc _ _ _ (by simp)];exact heap_alloc_new w _
  have hk:W0.heap[w.heap.size + 1]? = some (.cells #[.int .i64 k] 3 (0,0)):=by
    rw [← hW0];have:=heap_alloc_new (w.alloc (.cells #[.int .i64 n] 3)) (.cells #[.int .i64 k] 3);simpa using this
  have hs0:W0.heap.size = w.heap.size + 1 + 1:=by rw [← hW0];simp
  have hB0:Below w.heap.size w W0:=by rw [← hW0];exact ((br w).alloc (Nat.le_refl _) _).alloc (by simp) _
  have tn:=fun w' q => bx1 (sb hn w' q)
  have tk:=fun w' q => bx1 (sb hk w' q)
  have hbd:=fun i w' (q:Below W0.heap.size W0 w') (hi:i ≤ k) => bound_any i n k w.heap.size (w.heap.size + 1) w' (sb hn w' q) (sb hk w' q) h1 h2 h3 hi
  have hle:=fun i (hi:i ≤ k) => bdN_le n k i (by omega) hi
  have HW0:=Lib.hid hW0;have Hbd:=Lib.hid hbd;have Hle:=Lib.hid hle;have Hs0:=Lib.hid hs0;have HB0:=Lib.hid hB0
  clear hW0 hn hk hbd hle hs0 hB0
  go_enter Tryz.func195,Tryz.ntmps195
  have q0:=br W0
  go_wp2_with fail
  rw [HW0.out]
  go_loopw [6,16] (fun v x wr => ∃ m:Nat,m ≤ k ∧ x = .int .i64 m ∧ wr.ownsRow W0.heap.size 52 2 v m (rgVals ((List.range m).map fun i => (bdN n k i,bdN n k (i + 1)))) ∧ Below W0.heap.size W0 wr) (fun _ x _ => k - (intOf x).toNat)
  case atStart => exact ⟨0,Nat.zero_le _,rfl,World.ownsRow_nil _ _ _ _,q0⟩
  case round =>
    obtain ⟨m,hm,rfl,ho,q⟩:=hrel
    by_cases hlt:m < k
    · have hmi:(m:Int) < k:=by omega
      obtain ⟨A,c,rfl,_⟩:=own_form ho
      have Ho:=Lib.hid ho
      clear ho
      go_wp2_with fail
      refine (Hbd.out m wr q (by omega)).mono ?_
      rintro e w1 ⟨rfl,k1⟩
      have q1:=bt q k1
      have O1:=Lib.hid (own_below Ho.out k1)
      have hw1:IntKind.i64.wrap ((m:Int) + 1) = ((m + 1:Nat):Int):=by rw [IntWalk.i64_in _ (by omega)];push_cast;rfl
      clear k1 q
      go_wp2_with fail
      have hb2:=Hbd.out (m + 1) w1 q1 (by omega)
      rw [show ((m + 1:Nat):Int) = (m:Int) + 1 from by omega] at hb2
      refine hb2.mono ?_
      rintro e w2 ⟨rfl,k2⟩
      have q2:=bt q1 k2
      have O2:=Lib.hid (own_below O1.out k2)
      have hsz:=q2.size
      clear hb2 k2 q1 O1 Ho
      go_wp2_with (at_builtin;refine wpList_push et_rngs _ rfl (.tmp 19) (.tmp 28) rfl W0.heap.size (.slice A m c) m _ rfl O2.out [.int .i64 (bdN n k m:Nat),.int .i64 (bdN n k (m + 1):Nat)] rfl rfl (nums_cell .i64 [_,_]) (by omega) (by unfold maxLen;omega) hsz ?_)
      intro g6 c6 w6 ho6 hb6 hg6
      have HO6:=Lib.hid ho6
      have q6:=q2.trans hb6
      clear ho6 hb6 hg6 q2
      go_wp2_with fail
      go_roundw
      case rel => exact ⟨m + 1,by omega,by go_num,by rw [evenR_succ,rgVals_app];exact HO6.out,q6⟩
      case measure => simp [intOf];omega
    · obtain rfl:k = m:=by omega
      have Ho:=Lib.hid (own_base (base':=w.heap.size) ho (by have:=Hs0.out;omega))
      have hB:=HB0.out.trans (q.mono HB0.out.size)
      have HB:=Lib.hid hB
      clear ho hB
      go_wp2_with fail
      go_ret
      exact ⟨_,rfl,Ho.out,HB.out⟩
end Go.Proofs.YtaccfnffmbndhaaGreat
namespace Go.Proofs.YtaccfnffmbndhaaGreat
open Go.RowKit
theorem rgAt_eq (l:List Rg) (j:Nat) (h:j < l.length):rgAt l j = l[j]:=by simp [rgAt,List.getD,h]
theorem rgVals_get {l:List Rg} {j:Nat} (h:j < l.length):(rgVals l)[j * 2]? = some (.int .i64 ((rgAt l j).1:Int)) ∧ (rgVals l)[j * 2 + 1]? = some (.int .i64 ((rgAt l j).2:Int)):=rgVals_at (by rw [rgAt_eq l j h];simp [h])
theorem rgVals_set:∀ (l:List Rg) (j:Nat) (r:Rg),((rgVals l).set (j * 2) (.int .i64 (r.1:Int))).set (j * 2 + 1) (.int .i64 (r.2:Int)) = rgVals (l.set j r)
  | [],_,_ => rfl
  | x :: l,0,r => rfl
  | x :: l,j + 1,r => by
    have ih:=rgVals_set l j r
    have e:∀ y (m:List Rg),rgVals (y :: m) = .int .i64 (y.1:Int) :: .int .i64 (y.2:Int) :: rgVals m:=fun y m => by simp [rgVals]
    rw [e,List.set_cons_succ,e,← ih,show (j + 1) * 2 = j * 2 + 1 + 1 by omega,show j * 2 + 1 + 1 + 1 = (j * 2 + 1) + 1 + 1 by omega]
    simp only [List.set_cons_succ]
theorem rg_put {w:World} {base n g c:Nat} {l:List Rg} {e:TypeId} (h:w.ownsRow base e 2 (.slice (some ⟨g,0,none⟩) n c) n (rgVals l)) (j:Nat) (r:Rg) :
    ((w.setCell ⟨g,j * 2,none⟩ (.int .i64 (r.1:Int))).setCell ⟨g,j * 2 + 1,none⟩ (.int .i64 (r.2:Int))).ownsRow base e 2 (.slice (some ⟨g,0,none⟩) n c) n (rgVals (l.set j r)):=by
  have:=((h.stored (j * 2) (.int .i64 (r.1:Int))).1.stored (j * 2 + 1) (.int .i64 (r.2:Int))).1
  rwa [rgVals_set] at this
theorem rg_cell {w:World} {base n g c:Nat} {l:List Rg} {e:TypeId} (h:w.ownsRow base e 2 (.slice (some ⟨g,0,none⟩) n c) n (rgVals l)) {j:Nat} (hj:j < n) :
    w.cell? ⟨g,j * 2,none⟩ = some (.int .i64 ((rgAt l j).1:Int)) ∧ w.cell? ⟨g,j * 2 + 1,none⟩ = some (.int .i64 ((rgAt l j).2:Int)):=by
  have hl:=h.1
  rw [rgVals_len] at hl
  have:=rgVals_get (l:=l) (j:=j) (by omega)
  exact ⟨by rw [h.cellAt _ (by omega)];exact this.1,by rw [h.cellAt _ (by omega)];exact this.2⟩
def revG (l:List Rg) (k:Nat):List Rg:=(List.range l.length).map fun t => if t < k ∨ l.length - 1 - t < k then rgAt l (l.length - 1 - t) else rgAt l t
theorem revG_len (l:List Rg) (k:Nat):(revG l k).length = l.length:=by simp [revG]
theorem revG_at {l:List Rg} {k t:Nat} (h:t < l.length):rgAt (revG l k) t = if t < k ∨ l.length - 1 - t < k then rgAt l (l.length - 1 - t) else rgAt l t:=by
  rw [rgAt_eq _ _ (by rw [revG_len];exact h)];simp [revG]
theorem rg_ext {a b:List Rg} (h:a.length = b.length) (hn:∀ k,k < a.length → rgAt a k = rgAt b k):a = b:=List.ext_getElem h fun k h1 h2 => by
  have:=hn k h1;rwa [rgAt_eq _ _ h1,rgAt_eq _ _ h2] at this
theorem revG_zero (l:List Rg):revG l 0 = l:=rg_ext (revG_len l 0) fun k hk => by
  rw [revG_len] at hk;rw [revG_at hk,if_neg (by omega)]
theorem rgAt_set {l:List Rg} {i j:Nat} {r:Rg} (hi:i < l.length):rgAt (l.set j r) i = if j = i then r else rgAt l i:=by
  rw [rgAt_eq _ _ (by simpa using hi),List.getElem_set,rgAt_eq _ _ hi]
theorem revG_step {l:List Rg} {k:Nat} (h:2 * k + 1 < l.length):((revG l k).set k (rgAt (revG l k) (l.length - 1 - k))).set (l.length - 1 - k) (rgAt (revG l k) k) = revG l (k + 1):=by
  refine rg_ext (by simp [revG_len]) fun t ht => ?_
  have ht':t < l.length:=by simpa [revG_len] using ht
  rw [rgAt_set (by simpa [revG_len] using ht'),rgAt_set (by rw [revG_len];exact ht'),revG_at ht',revG_at (by omega),revG_at (by omega),revG_at ht']
  by_cases h1:l.length - 1 - k = t
  · subst h1
    rw [if_pos rfl,if_neg (by omega),if_pos (by omega),show l.length - 1 - (l.length - 1 - k) = k by omega]
  · rw [if_neg h1]
    by_cases h2:k = t
    · subst h2
      rw [if_pos rfl,if_neg (by omega),if_pos (by omega)]
    · rw [if_neg h2]
      by_cases h3:t < k ∨ l.length - 1 - t < k
      · rw [if_pos h3,if_pos (by omega)]
      · rw [if_neg h3,if_neg (by omega)]
theorem revG_all {l:List Rg} {k:Nat} (h:l.length ≤ 2 * k + 1):revG l k = l.reverse:=by
  refine rg_ext (by simp [revG_len]) fun t ht => ?_
  have ht':t < l.length:=by simpa [revG_len] using ht
  rw [revG_at ht',rgAt_eq l.reverse t (by simpa using ht'),List.getElem_reverse,← rgAt_eq l _ (by omega)]
  by_cases h1:t < k ∨ l.length - 1 - t < k
  · rw [if_pos h1]
  · rw [if_neg h1,show l.length - 1 - t = t by omega]
set_option maxRecDepth 100000 in
theorem revr_any (A:Option Addr) (l:List Rg) (n c base:Nat) (w:World) (ho:w.ownsRow base 52 2 (.slice A n c) n (rgVals l)) (hn:l.length = n) (hl:n ≤ 1048576) :
    Calls Tryz.prog 142 #[.slice A n c] w fun e w' => e = .returned (.tuple #[]) ∧ w'.ownsRow base 52 2 (.slice A n c) n (rgVals l.reverse) ∧ Keep (fun j => (Value.slice A n c).ownBlock = some j) w w':=by
  have h0:w.ownsRow base 52 2 (.slice A n c) n (rgVals (revG l 0)):=by rw [revG_zero];exact ho
  have hst:=fun k (h:2 * k + 1 < n) => revG_step (l:=l) (k:=k) (by omega)
  have hall:=fun k (h:n ≤ 2 * k + 1) => revG_all (l:=l) (k:=k) (by omega)
  rw [hn] at hst
  have H0:=Lib.hid h0;have Hst:=Lib.hid hst;have Hall:=Lib.hid hall;have Hn:=Lib.hid hn
  clear ho h0 hst hall hn
  go_enter Tryz.func142,Tryz.ntmps142
  go_wp2_with fail
  go_loopw [2,3] (fun i j wr => ∃ k:Nat,2 * k ≤ n + 1 ∧ i = .int .i64 k ∧ j = .int .i64 ((n:Int) - 1 - k) ∧ wr.ownsRow base 52 2 (.slice A n c) n (rgVals (revG l k)) ∧ Keep (fun j => (Value.slice A n c).ownBlock = some j) w wr) (fun i _ _ => n - (intOf i).toNat)
  case atStart => exact ⟨0,by omega,rfl,by go_num,H0.out,Keep.refl _ _⟩
  case round =>
    obtain ⟨k,hk,rfl,rfl,hr,hK⟩:=hrel
    by_cases hlt:2 * k + 1 < n
    · obtain ⟨g,rfl⟩:∃ g,A = some ⟨g,0,none⟩:=by
        obtain ⟨g,e,hv,_⟩:=hr.form (by omega)
        simp only [Value.slice.injEq] at hv
        exact ⟨g,hv.1⟩
      have p1:=rg_cell hr (show k < n by omega)
      have p2:=rg_cell hr (show n - 1 - k < n by omega)
      have f1:=fun j => hr.frozenAt j
      have hkl:(k:Int) < (n:Int) - 1 - k:=by omega
      have hj:(n:Int) - 1 - k = ((n - 1 - k:Nat):Int):=by omega
      have hjn:n - 1 - k < n:=by omega
      have hkn:k < n:=by omega
      have hjk:n - 1 - k ≠ k:=by omega
      have hjk2:¬ ((n - 1 - k) * 2 = k * 2) ∧ ¬ ((n - 1 - k) * 2 = k * 2 + 1) ∧ ¬ ((n - 1 - k) * 2 + 1 = k * 2) ∧ ¬ ((n - 1 - k) * 2 + 1 = k * 2 + 1):=by omega
      obtain ⟨r1,hr1⟩:∃ r,rgAt (revG l k) k = r:=⟨_,rfl⟩
      obtain ⟨r2,hr2⟩:∃ r,rgAt (revG l k) (n - 1 - k) = r:=⟨_,rfl⟩
      obtain ⟨j,hjj⟩:∃ j,n - 1 - k = j:=⟨_,rfl⟩
      have hs:=Hst.out k hlt
      rw [hr1,hr2] at hs
      rw [hr1] at p1
      rw [hr2] at p2
      rw [hjj] at p2 hj hjn hjk hjk2 hs
      rw [hj] at hkl ⊢
      have Hr:=Lib.hid hr;have HK:=Lib.hid hK;have Hj:=Lib.hid hj;have Hs:=Lib.hid hs
      clear hr hK hj hjj hs hr1 hr2
      go_wp2_with fail
      refine XA.g 13 (fun w':World => (w'.cell? ⟨g,k * 2,none⟩ = some (.int .i64 (r1.1:Int)) ∧ w'.cell? ⟨g,k * 2 + 1,none⟩ = some (.int .i64 (r1.2:Int))) ∧ (w'.cell? ⟨g,j * 2,none⟩ = some (.int .i64 (r2.1:Int)) ∧ w'.cell? ⟨g,j * 2 + 1,none⟩ = some (.int .i64 (r2.2:Int)))) ?_
      refine XA.t0 ?_ [0,1,2,3,4,5,6,8,9,10] ⟨p1,p2⟩ ?_
      refine XA.t ?_ [7,11] ⟨p1,p2⟩ ?_
      refine XA.t0 ?_ [12] ⟨p1,p2⟩ ?_
      refine XA.e ?_
      simp only [List.drop_succ_cons,List.drop_zero]
      go_wp2_with fail
      go_roundw
      case rel => exact ⟨k + 1,by omega,by go_num,by have:=Hj.out;go_num,by rw [← Hs.out];exact rg_put (rg_put Hr.out k r2) j r1,Keep.setCell (S:=fun j => (Value.slice (some ⟨g,0,none⟩) n c).ownBlock = some j) (Keep.setCell (S:=fun j => (Value.slice (some ⟨g,0,none⟩) n c).ownBlock = some j) (Keep.setCell (S:=fun j => (Value.slice (some ⟨g,0,none⟩) n c).ownBlock = some j) (Keep.setCell (S:=fun j => (Value.slice (some ⟨g,0,none⟩) n c).ownBlock = some j) HK.out.drew ⟨g,k * 2,none⟩ (.inr rfl) _) ⟨g,k * 2 + 1,none⟩ (.inr rfl) _) ⟨g,j * 2,none⟩ (.inr rfl) _) ⟨g,j * 2 + 1,none⟩ (.inr rfl) _⟩
      case measure => simp [intOf];omega
    · have hkl:¬ ((k:Int) < (n:Int) - 1 - k):=by omega
      have hr2:=Hall.out k (by omega)
      rw [hr2] at hr
      have Hr:=Lib.hid hr;have HK:=Lib.hid hK
      clear hr hK hr2
      go_wp2_with fail
      go_end0
      exact ⟨rfl,Hr.out,HK.out⟩
theorem buckets_any (n s:Nat) (w:World) (hn:n ≤ 1048576) (hs:1 ≤ s) (hs2:s ≤ 1048576) :
    Calls Tryz.prog 99 #[.int .i64 n,.int .i64 s] w fun e w' => ∃ v,e = .returned v ∧ w'.ownsRow w.heap.size 52 2 v (bukR n s).length (rgVals (bukR n s)) ∧ Below w.heap.size w w':=by
  have hb:=blocks_any n s w hn hs hs2
  have hl:=cntQ_le n s
  rw [← blkR_vals,← blkR_len] at hb
  have hbl:=bukR_len n s
  rw [blkR_len] at hb
  rw [hbl]
  have hrv:=fun (A:Option Addr) c base w' (ho:w'.ownsRow base 52 2 (.slice A (cntQ n s) c) (cntQ n s) (rgVals (blkR n s))) => revr_any A (blkR n s) (cntQ n s) c base w' ho (blkR_len n s) (by omega)
  have Hb:=Lib.hid hb;have Hrv:=Lib.hid hrv
  clear hb hrv hbl hl
  go_enter Tryz.func99,Tryz.ntmps99
  go_wp2_with fail
  refine Hb.out.mono ?_
  rintro e w1 ⟨v,rfl,o1,k1⟩
  obtain ⟨A,c,rfl,_⟩:=own_form o1
  have O1:=Lib.hid o1
  clear o1
  go_wp2_with fail
  refine (Hrv.out A c _ w1 O1.out).mono ?_
  rintro e w2 ⟨rfl,o2,k2⟩
  have hB:=k1.trans (k2.toBelow k1.size (fun j hj => (O1.out.lt j hj).1))
  have O2:=Lib.hid o2
  clear o2 k1 k2 O1
  go_wp2_with fail
  go_ret
  exact ⟨_,rfl,O2.out,hB⟩
theorem groups_any (n s:Nat) (w:World) (hn:n ≤ 1048576) (hs:1 ≤ s) (hs2:s ≤ 1048576) :
    Calls Tryz.prog 100 #[.int .i64 n,.int .i64 s] w fun e w' => ∃ v,e = .returned v ∧ w'.ownsRow w.heap.size 52 2 v (blkR n s).length (rgVals (blkR n s)) ∧ Below w.heap.size w w':=by
  have hb:=blocks_any n s w hn hs hs2
  rw [← blkR_vals,← blkR_len] at hb
  have Hb:=Lib.hid hb
  clear hb
  go_enter Tryz.func100,Tryz.ntmps100
  go_wp2_with fail
  refine Hb.out.mono ?_
  rintro e w1 ⟨v,rfl,o1,k1⟩
  have O1:=Lib.hid o1
  clear o1
  go_wp2_with fail
  go_ret
  exact ⟨_,rfl,O1.out,k1⟩
end Go.Proofs.YtaccfnffmbndhaaGreat
namespace Go.Proofs.YtaccfnffmbndhaaGreat
open Go.RowKit
set_option maxRecDepth 100000 in
theorem sviewc_any (S n b steps t:Nat) (l:List Int) (w:World) (h:SampAt w S n b steps l) (hb:1 ≤ b) (hn:n ≤ 1048576) (hnb:1 ≤ n / b) (hst:steps ≤ 1048576) (ht:t < steps) :
    Calls Tryz.prog 175 #[.pointer (some ⟨S,0,none⟩),.int .i64 t] w fun e w' => ∃ A c,e = .returned (.slice A b c) ∧ b ≤ c ∧ Rd w' A (nums .i64 (batchN l n b t)) ∧ Below w.heap.size w w':=by
  have hep:=sepoch_any S n b steps t l w h hn hnb hst ht
  obtain ⟨Ab,cb,Ao,co,vs,h1,h2,h3,h4,h5⟩:=h
  have hle:=Nat.div_le_self n b
  have he:=epoch_lt (n:=n) (b:=b) ht
  have hm:=Nat.mod_lt t hnb
  have hwh:=whole_le n b _ hm
  have hmn:=whole_min n b _ hb hm
  have hb2:=blkVals_at (n - n % b) b hm
  rw [hmn] at hb2
  obtain ⟨A1,c1,k1,k2,k3⟩:=h5 _ he
  have hbt:batchN l n b t = ((permN l n ((t / (n / b)) * (n - 1))).drop (t % (n / b) * b)).take b:=rfl
  rw [hbt]
  have hel:epN n b steps ≤ steps:=cntQ_le _ _
  obtain ⟨pl,hpl⟩:∃ pl,permN l n ((t / (n / b)) * (n - 1)) = pl:=⟨_,rfl⟩
  have hpn:pl.length = n:=by rw [← hpl];exact permN_len _ _ _
  rw [hpl] at k3 ⊢
  obtain ⟨E,hE⟩:∃ E,epN n b steps = E:=⟨_,rfl⟩
  rw [hE] at he h1 h4 hel
  obtain ⟨e0,he0⟩:∃ e0,t / (n / b) = e0:=⟨_,rfl⟩
  obtain ⟨p0,hp0⟩:∃ p0,t % (n / b) = p0:=⟨_,rfl⟩
  rw [he0] at hep he k1
  rw [hp0] at hep hm hwh hb2 ⊢
  obtain ⟨nb,hnb'⟩:∃ nb,n / b = nb:=⟨_,rfl⟩
  rw [hnb'] at h1 h2 hnb hm hle hb2
  obtain ⟨lo,hlo⟩:∃ lo,p0 * b = lo:=⟨_,rfl⟩
  rw [hlo] at hwh hb2 ⊢
  obtain ⟨bb,ob,rfl,q0⟩:=h2 _ _ hb2.1
  obtain ⟨_,_,e2,q1⟩:=h2 _ _ hb2.2
  injection e2 with e2;injection e2 with i1 i2 _;subst i1;subst i2
  obtain ⟨bo,oo,rfl,q2⟩:=h3 _ _ k1
  obtain ⟨bg,og,rfl,q3⟩:=k3.num (show 0 < pl.length by omega)
  rw [← Nat.add_assoc] at q1
  have hm2:(p0:Int) < nb:=by omega
  have he2:(e0:Int) < E:=by omega
  have hl1:(lo:Int) ≤ ((lo + b:Nat):Int):=by omega
  have hl2:((lo + b:Nat):Int) ≤ c1:=by omega
  have hl3:lo ≤ lo + b:=by omega
  have hl4:lo + b ≤ c1:=by omega
  have hl5:¬ (c1 = lo):=by omega
  have b1:bo < w.heap.size:=lt_of_cell q2
  have b2:bb < w.heap.size:=lt_of_cell q0
  obtain ⟨⟨r0,r1,r2,r3⟩,rf⟩:=bx4 h1
  have b3:S < w.heap.size:=lt_of_block h1
  have H1:=Lib.hid h1;have Hep:=Lib.hid hep;have K3:=Lib.hid k3
  clear hep k3 h1 h2 h3 h4 h5 hE he0 hp0 hnb' hlo hpl hpn hb2 k1 q3 hmn hbt
  go_enter Tryz.func175,Tryz.ntmps175
  go_wp2_with fail
  refine Hep.out.mono ?_
  rintro e w' ⟨rfl,d,rfl⟩
  have hb1:Below w.heap.size w (w.drewN d):=below_drewN (Below.refl _ _) d
  have hz1:(w.drewN d).heap.size = w.heap.size:=by simp
  generalize w.drewN d = w1 at hb1 hz1 ⊢
  have q0':=cell_below hb1 q0
  have q1':=cell_below hb1 q1
  have q2':=cell_below hb1 q2
  have H1_:=(hb1.block _ b3).trans H1.out
  obtain ⟨⟨y0,y1,y2,y3⟩,yf⟩:=bx4 H1_
  rw [← hz1] at b1 b2 b3
  have Hb1:=Lib.hid hb1;have Hz1:=Lib.hid hz1
  clear q0 q1 q2 r0 r1 r2 r3 rf hb1 hz1 H1_
  go_wp2_with fail
  have hl6:(lo:Int) + b ≤ c1:=by omega
  have hl7:((lo:Int) + b).toNat = lo + b:=by omega
  have hl8:(0:Int) ≤ (lo:Int) + b:=by omega
  have hl9:(lo:Int) ≤ (lo:Int) + b:=by omega
  have hl0:lo + b - lo = b:=by omega
  have hlx:¬ (lo + b = lo):=by omega
  go_quiet (fail)
  go_wp2_with fail
  go_ret
  refine ⟨_,_,rfl,Nat.le_refl _,?_,below_drewN (Hb1.out.alloc (by have:=Hz1.out;omega) _) _⟩
  have:=((((K3.out.below Hb1.out).alloc (.cells #[.int .i64 (lo:Int),.int .i64 ((lo:Int) + b)] 52)).drewN nq).drop lo).take b
  rwa [nums_drop,nums_take] at this
def pieceL (l:List Int) (k i:Nat):List Int:=(l.drop (bdN l.length k i)).take (bdN l.length k (i + 1) - bdN l.length k i)
theorem pieceL_len (l:List Int) {k i:Nat} (hk:1 ≤ k) (hi:i < k):(pieceL l k i).length = bdN l.length k (i + 1) - bdN l.length k i:=by
  have h1:=bdN_le l.length k (i + 1) hk hi
  simp only [pieceL,List.length_take,List.length_drop]
  omega
def microN (l:List Int) (W x mi a:Nat):List Int:=pieceL (pieceL l W x) mi a
def PcIs (L:List Int) (m:Nat) (w:World) (e:Ending) (w':World):Prop:=∃ A' c',e = .returned (.slice A' m c') ∧ m ≤ c' ∧ Rd w' A' (nums .i64 L) ∧ Below w.heap.size w w'
set_option maxRecDepth 100000 in
theorem piece_any (A:Option Addr) (l:List Int) (c k i:Nat) (w:World) (hA:Rd w A (nums .i64 l)) (hc:l.length ≤ c) (hl:l.length ≤ 1048576) (hn:0 < l.length) (hk:1 ≤ k) (hk2:k ≤ 1048576) (hi:i < k) :
    Calls Tryz.prog 176 #[.slice A l.length c,.int .i64 i,.int .i64 k] w (PcIs (pieceL l k i) (pieceL l k i).length w):=by
  have hev:=even_any l.length k w hk hk2 hl
  obtain ⟨b,o,rfl,_⟩:=hA.num hn
  have hlen:=pieceL_len l hk hi
  have hp:pieceL l k i = (l.drop (bdN l.length k i)).take (bdN l.length k (i + 1) - bdN l.length k i):=rfl
  have h1:=bdN_mono l.length k (Nat.le_succ i)
  have h2:=bdN_le l.length k (i + 1) hk hi
  have hg:=rgVals_get (l:=evenR l.length k) (j:=i) (by rw [evenR_len];exact hi)
  have hr:rgAt (evenR l.length k) i = (bdN l.length k i,bdN l.length k (i + 1)):=by
    rw [rgAt_eq _ _ (by rw [evenR_len];exact hi)];simp [evenR]
  rw [hr] at hg
  rw [hlen]
  obtain ⟨P,hP⟩:∃ P,pieceL l k i = P:=⟨_,rfl⟩
  obtain ⟨lo,hlo⟩:∃ lo,bdN l.length k i = lo:=⟨_,rfl⟩
  obtain ⟨hi',hhi⟩:∃ hi',bdN l.length k (i + 1) = hi':=⟨_,rfl⟩
  simp only [Nat.succ_eq_add_one] at h1
  rw [hP] at hp ⊢
  rw [hlo,hhi] at hp h1 hg ⊢
  rw [hhi] at h2
  obtain ⟨V,hV⟩:∃ V,rgVals (evenR l.length k) = V:=⟨_,rfl⟩
  rw [hV] at hev hg
  obtain ⟨n,hn'⟩:∃ n,l.length = n:=⟨_,rfl⟩
  rw [hn'] at hev hc hl hn h2 ⊢
  have hii:(i:Int) < k:=by omega
  have hi0:¬ (i:Int) < 0:=by omega
  have Hev:=Lib.hid hev;have HA:=Lib.hid hA;have HG:=Lib.hid hg;have HP:=Lib.hid hp
  clear hev hA hg hp hr hlen hP hlo hhi hn' hV
  go_enter Tryz.func176,Tryz.ntmps176
  go_wp2_with fail
  refine Hev.out.mono ?_
  rintro e w1 ⟨v,rfl,ov,k1⟩
  obtain ⟨g,cv,rfl,_⟩:=ov.form (by omega)
  have c0:=ov.cellAt (i * 2) (by omega)
  have c1:=ov.cellAt (i * 2 + 1) (by omega)
  rw [HG.out.1] at c0
  rw [HG.out.2] at c1
  have lg:=(ov.lt g rfl).2
  have K1:=Lib.hid k1
  clear ov k1
  by_cases hz:hi' = lo
  · subst hz
    go_wp2_with fail
    go_ret
    refine ⟨_,0,by rw [Nat.sub_self];rfl,by omega,?_,K1.out.alloc K1.out.size _⟩
    rw [HP.out,Nat.sub_self,List.take_zero]
    exact Rd.nil _ _
  · have hz1:¬ (hi':Int) = lo:=by omega
    have hz2:¬ hi' - lo = 0:=by omega
    go_wp2_with fail
    go_ret
    refine ⟨_,_,rfl,Nat.le_refl _,?_,K1.out.alloc K1.out.size _⟩
    have:=(((HA.out.below K1.out).alloc (.cells #[.int .i64 (lo:Int),.int .i64 (hi':Int)] 52)).drop lo).take (hi' - lo)
    rwa [nums_drop,nums_take,← HP.out] at this
set_option maxRecDepth 100000 in
theorem micro_any (S n b steps t W x mi a:Nat) (l:List Int) (w:World) (h:SampAt w S n b steps l) (hb:1 ≤ b) (hbn:b ≤ n) (hn:n ≤ 1048576) (hst:steps ≤ 1048576) (ht:t < steps) (hW:1 ≤ W) (hWb:W ≤ b) (hx:x < W) (hm:1 ≤ mi) (hm2:mi ≤ 1048576) (ha:a < mi) :
    Calls Tryz.prog 147 #[.pointer (some ⟨S,0,none⟩),.int .i64 t,.int .i64 x,.int .i64 W,.int .i64 a,.int .i64 mi] w (PcIs (microN (batchN l n b t) W x mi a) (microN (batchN l n b t) W x mi a).length w):=by
  have hnb:1 ≤ n / b:=Nat.div_pos hbn hb
  have hbl:=batchN_len l (t:=t) hnb
  have hv:=fun w' (q:Below w.heap.size w w') => sviewc_any S n b steps t l w' (h.below q) hb hn hnb hst ht
  obtain ⟨B,hB⟩:∃ B,batchN l n b t = B:=⟨_,rfl⟩
  rw [hB] at hbl hv ⊢
  have hP:=pieceL_len B hW hx
  have hge:bdN B.length W x + 1 ≤ bdN B.length W (x + 1):=by
    rw [bdN_succ]
    have:1 ≤ B.length / W:=Nat.div_pos (by omega) (by omega)
    unfold szE
    omega
  have hpp:=fun A c w' (hA:Rd w' A (nums .i64 B)) (hc:B.length ≤ c) => piece_any A B c W x w' hA hc (by omega) (by omega) hW (by omega) hx
  obtain ⟨Q,hQ⟩:∃ Q,pieceL B W x = Q:=⟨_,rfl⟩
  have hmi:microN B W x mi a = pieceL Q mi a:=by unfold microN;rw [hQ]
  rw [hQ] at hP hpp
  have hQb:Q.length ≤ 1048576:=by have:=bdN_le B.length W (x + 1) hW hx;omega
  have hpm:=fun A c w' (hA:Rd w' A (nums .i64 Q)) (hc:Q.length ≤ c) => piece_any A Q c mi a w' hA hc hQb (by omega) hm hm2 ha
  have hMl:=pieceL_len Q hm ha
  have hMb:=bdN_le Q.length mi (a + 1) hm ha
  rw [hmi]
  obtain ⟨M,hM⟩:∃ M,pieceL Q mi a = M:=⟨_,rfl⟩
  rw [hM] at hpm hMl ⊢
  have hic:=fun A c w' (hA:Rd w' A (nums .i64 M)) => iclone_any A M c w' hA (by omega)
  rw [hbl] at hpp
  obtain ⟨qn,hqn⟩:∃ qn,Q.length = qn:=⟨_,rfl⟩
  rw [hqn] at hpp hpm
  obtain ⟨mn,hmn⟩:∃ mn,M.length = mn:=⟨_,rfl⟩
  rw [hmn] at hpm hic ⊢
  have Hv:=Lib.hid hv;have Hpp:=Lib.hid hpp;have Hpm:=Lib.hid hpm;have Hic:=Lib.hid hic
  clear hv hpp hpm hic h hMl hMb hP hge hbl hQb hmn hqn hM hmi hQ hB
  go_enter Tryz.func147,Tryz.ntmps147
  go_wp2_with fail
  refine (Hv.out w (br w)).mono ?_
  rintro e w1 ⟨A1,c1,rfl,hc1,r1,k1⟩
  have H1:=Lib.hid (Hpp.out A1 c1 w1 r1 hc1);have K1:=Lib.hid k1
  clear hc1 r1 k1
  go_wp2_with fail
  refine H1.out.mono ?_
  rintro e w2 ⟨A2,c2,rfl,hc2,r2,k2⟩
  have H2:=Lib.hid (Hpm.out A2 c2 w2 r2 hc2);have K2:=Lib.hid (bt K1.out k2)
  clear hc2 r2 k2
  go_wp2_with fail
  refine H2.out.mono ?_
  rintro e w3 ⟨A3,c3,rfl,hc3,r3,k3⟩
  have H3:=Lib.hid (Hic.out A3 c3 w3 r3);have K3:=Lib.hid (bt K2.out k3)
  clear hc3 r3 k3
  go_wp2_with fail
  refine H3.out.mono ?_
  rintro e w4 ⟨v,rfl,o4,k4⟩
  obtain ⟨A4,c4,rfl,hc4⟩:=own_form o4
  have HP:=Lib.hid (⟨A4,c4,rfl,hc4,Rd.own o4,bt K3.out k4⟩:PcIs M mn w (.returned (.slice A4 mn c4)) w4)
  clear o4 k4 hc4
  go_wp2_with fail
  go_ret
  exact HP.out
end Go.Proofs.YtaccfnffmbndhaaGreat
namespace Go.Proofs.YtaccfnffmbndhaaGreat
open Go.RowKit
def Ext (u v:World):Prop:=∀ k,k < u.heap.size → u.heap[k]? = some (.cells #[] 0 (0,0)) ∨ v.heap[k]? = u.heap[k]?
theorem ext_cell {u v:World} {a:Addr} {x:Value} (h:u.cell? a = some x) (hv:Ext u v):v.cell? a = some x:=by
  rcases hv _ (lt_of_cell h) with h0 | h0
  · rw [World.cell?] at h
    simp only [h0] at h
    simp at h
  · exact (World.cell?_of_block (w:=u) h0).trans h
theorem ext_heap {u v:World} {b:Nat} {x:Value} {xs:List Value} {t:TypeId} {fr:Nat × Nat} (h:u.heap[b]? = some (.cells (x :: xs).toArray t fr)) (hv:Ext u v):v.heap[b]? = some (.cells (x :: xs).toArray t fr):=by
  rcases hv _ (lt_of_block h) with h0 | h0
  · rw [h0] at h;simp at h
  · rw [h0];exact h
theorem ext_rd {u v:World} {A:Option Addr} {xs:List Value} (h:Rd u A xs) (hv:Ext u v):Rd v A xs:=fun k x hx => by
  obtain ⟨b,o,e,hc⟩:=h k x hx
  exact ⟨b,o,e,ext_cell hc hv⟩
def Exts {α:Type} (R:Reader α):Prop:=∀ {u v:World} {cs:List Value} {x:α},R u cs x → Ext u v → R v cs x
theorem ext_sl {α:Type} {R:Reader α} {size:Nat} {u v:World} {A:Option Addr} {l:List α} (hR:Exts R) (h:SlRd R size u A l) (hv:Ext u v):SlRd R size v A l:=by
  obtain ⟨rows,h1,h2,h3,h4⟩:=h
  exact ⟨rows,ext_rd h1 hv,h2,h3,fun j x hx => hR (h4 j x hx) hv⟩
noncomputable def hideW (S:Nat → Prop) (w:World):World:=by
  classical exact { w with heap:=w.heap.mapIdx fun k o => if S k then .cells #[] 0 (0,0) else o }
theorem hide_size (S:Nat → Prop) (w:World):(hideW S w).heap.size = w.heap.size:=by simp [hideW]
theorem hide_blk {S:Nat → Prop} {w:World} {k:Nat} (h:¬ S k):(hideW S w).heap[k]? = w.heap[k]?:=by
  simp only [hideW,Array.getElem?_mapIdx]
  simp [h]
theorem hide_in {S:Nat → Prop} {w:World} {k:Nat} (h:S k) (hk:k < w.heap.size):(hideW S w).heap[k]? = some (.cells #[] 0 (0,0)):=by
  simp only [hideW,Array.getElem?_mapIdx]
  simp [h,hk]
theorem ext_hide (S:Nat → Prop) (w:World):Ext (hideW S w) w:=fun k hk => by
  rw [hide_size] at hk
  by_cases h:S k
  · exact .inl (hide_in h hk)
  · exact .inr (hide_blk h).symm
theorem ext_step {S S':Nat → Prop} {w w':World} (hk:Keep S w w') (hs:∀ k,k < w.heap.size → S' k → S k):Ext (hideW S w) (hideW S' w'):=fun k hl => by
  rw [hide_size] at hl
  by_cases h:S k
  · exact .inl (hide_in h hl)
  · exact .inr (by rw [hide_blk h,hide_blk (fun e => h (hs k hl e)),hk.block k hl h])
theorem ext_topA {B:Nat} {S:Nat → Prop} {u w:World} (hb:∀ k,B ≤ k → k < u.heap.size → w.heap[k]? = u.heap[k]?) (hs:∀ k,B ≤ k → k < u.heap.size → ¬ S k):Ext (topW B u) (hideW S w):=fun k hl => by
  rw [top_size] at hl
  rcases Nat.lt_or_ge k B with h | h
  · exact .inl (top_low h hl)
  · exact .inr (by rw [hide_blk (hs k h hl),hb k h hl,top_blk h])
theorem rd_hide {S:Nat → Prop} {w:World} {A:Option Addr} {xs:List Value} (h:Rd w A xs) (hA:∀ y,A = some y → ¬ S y.block):Rd (hideW S w) A xs:=fun k x hx => by
  obtain ⟨b,o,e,hc⟩:=h k x hx
  have hl:=lt_of_cell hc
  exact ⟨b,o,e,(World.cell?_of_block (w:=w) (a:=⟨b,o + k,none⟩) (hide_blk (show ¬ S b from hA _ e))).trans hc⟩
end Go.Proofs.YtaccfnffmbndhaaGreat
