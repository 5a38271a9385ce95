/- slices.Collect at the iterator of bucket.later. bucket.Segments and Chunks. A region that draws its order, within a round: by the plain calculus. bucket.Messages. ring: around, scatter, gather, Segment. ring.Segment. No condition. -/
import Derived.Test.YtaccfnffmbndhaaGreatB06
import Derived.Test.YtaccfnffmbndhaaGreatB04
import Derived.Deep.RegionHeld
set_option linter.unusedSimpArgs false
set_option linter.unusedVariables false
namespace Go.Proofs.YtaccfnffmbndhaaGreat
open Go.RowKit Go.Shelf
attribute [local go_sem] Oper.semAt_some
theorem rgVals_snoc (l:List Rg) (x:Rg):rgVals (l ++ [x]) = rgVals l ++ [.int .i64 (x.1:Int),.int .i64 (x.2:Int)]:=by simp [rgVals]
set_option maxRecDepth 100000 in
set_option maxHeartbeats 2000000 in
theorem aseq_any (L S B:Nat) (A:Option Addr) (rs:List Rg) (c d:Nat) (w:World) (hA:LatAt w L S B A rs c d 335) (hB:LatB 0 w.heap.size L S B A) (hlen:rs.length ≤ 1048576) (hd:d ≤ 1048576) (hrs:∀ r ∈ rs,r.1 ≤ 1048576 ∧ r.2 ≤ 1048576) :
    Calls Tryz.prog 224 #[.slice none 0 0,.func (.func 226) #[] #[.pointer (some ⟨L,0,none⟩),.pointer (some ⟨S,0,none⟩)]] w fun e w' => ∃ v,e = .returned v ∧ w'.ownsRow w.heap.size 52 2 v rs.length (rgVals (shR d rs)) ∧ Below w.heap.size w w':=by
  have hst:=fun n => later_stops n 0 w.heap.size L S B A rs c d w hA hB hlen hd hrs
  have Hst:=Lib.hid hst
  clear hst
  refine (callsIn_wide (n:=3)).1 ?_
  refine callsIn_of_wp_marks Tryz.func224 rfl trivial ?_ rfl
  simp only [Tryz.ntmps224,List.size_toArray,List.length_cons,List.length_nil,Nat.reduceAdd,Nat.reduceSub,Array.replicate_succ,Array.replicate_zero,List.push_toArray,List.append_toArray,List.nil_append,List.cons_append]
  gi_wp2_with fail
  have hb0:Below w.heap.size w (w.alloc (.cells #[.slice none 0 0] 120)):=(Below.refl _ w).alloc (Nat.le_refl _) _
  refine' wpIn_rangeFunc_ownH (F:=Fence.wide) (n:=3) rfl (by omega) (gf:=226) (lb:=#[.pointer (some ⟨L,0,none⟩),.pointer (some ⟨S,0,none⟩)]) rfl trivial (enters_of Tryz.func226 (by kernel_rfl) rfl)
    (Hst.out _) Kd.trans (kd_b hb0.size) hb0 (fun _ => rfl)
    (fun (pre:List Rg) W => (∃ v,Boxed W w.heap.size 120 v ∧ W.ownsRow w.heap.size 52 2 v pre.length (rgVals pre) ∧ True) ∧ Below w.heap.size w W)
    (fun _ _ _ => False)
    (OwnFrom.and (Own.from (holdsRow_own w.heap.size w.heap.size 120 52 2 (fun pre:List Rg => pre.length) (fun pre => rgVals pre) (fun _ _ => True)) _) (ownFrom_below (Nat.le_refl _) hb0.size))
    (fun _ _ _ _ _ hs _ _ => hs)
    ⟨⟨_,Boxed.new w 120 (.slice none 0 0),World.ownsRow_nil _ _ _ _,trivial⟩,hb0⟩
    (fun (x:Rg) a' W => ∃ b,a' = { tmps:=#[.slice none 0 0,.func (.func 226) #[] #[.pointer (some ⟨L,0,none⟩),.pointer (some ⟨S,0,none⟩)],.pointer (some ⟨w.heap.size,0,none⟩),undef,.slice none 0 0,.pointer (some ⟨b,0,none⟩),.func (.func 226) #[] #[.pointer (some ⟨L,0,none⟩),.pointer (some ⟨S,0,none⟩)],.agg #[.int .i64 (x.1:Int),.int .i64 (x.2:Int)],undef,undef,undef,undef,undef],defers:=[] } ∧ W.heap[b]? = some (.cells #[.int .i64 (x.1:Int),.int .i64 (x.2:Int)] 52 (0,0)))
    (fun x a' _ W W' row h hg hr => by obtain ⟨b,e,hb⟩:=h;exact ⟨b,e,ownFrom_block _ b _ rfl () W W' row hb hg hr⟩)
    ?assign ?body ?done ?stop
  case assign =>
    rintro l pre x W K ⟨⟨v,hv,hrow,_⟩,hBl⟩ hK
    unfold rgEnc
    have qa:Below W.heap.size W (W.alloc (.cells #[.int .i64 (x.1:Int),.int .i64 (x.2:Int)] 52)):=(Below.refl _ W).alloc (Nat.le_refl _) _
    gi_wp2
    refine hK _ _ ((KeepsOthers.of_grownBy (row:=none) (grown_none qa) (fun _ _ h => by cases h)).from _) (kd_below (qa.mono hBl.size)) ⟨⟨v,hv.alloc _,hrow.alloc _,trivial⟩,hBl.trans (qa.mono hBl.size)⟩ ⟨_,rfl,heap_alloc_new _ _⟩
  case body =>
    rintro l pre x a' W _ _ ⟨⟨v,hv,hrow,_⟩,hBl⟩ ⟨b,rfl,hb⟩ hlt
    have hc:=hv.cell
    have hW:=hBl.size
    have hlc:=lt_of_cell hc
    have xb:=bx2 hb
    have lb:=lt_of_block hb
    have qa:Below W.heap.size W (W.alloc (.cells #[.int .i64 (x.1:Int),.int .i64 (x.2:Int)] 52)):=(Below.refl _ W).alloc (Nat.le_refl _) _
    have Hv:=Lib.hid hv;have Hrow:=Lib.hid hrow;have HBl:=Lib.hid hBl;have Hlt:=Lib.hid hlt;have HW:=Lib.hid hW;clear hv hrow hBl hlt hW hb
    gi_wp2_with (gi_at_builtin;refine wpListIn_push et_rngs W rfl (.tmp 8) (.tmp 10) rfl w.heap.size w.heap.size v pre.length _ rfl Hv.out (by decide) Hrow.out [.int .i64 (x.1:Int),.int .i64 (x.2:Int)] rfl rfl (by simp [Value.oneCell']) (by have:=Hlt.out;omega) (by have:=Hlt.out;unfold maxLen;omega) HW.out (Nat.le_refl _) ?_)
    intro g1 c1 w1 k1 k2 k3 k4 k5 k6
    have hc1:=k1.cell;have hf1:=k1.frozen
    have K2:=Lib.hid k2;have K3:=Lib.hid k3;have K4:=Lib.hid k4;have K5:=Lib.hid k5;clear k1 k2 k3 k4 k5 k6 hc xb
    gi_wp2_with fail
    exact ⟨K4.out.from _,kd_below K5.out,⟨⟨_,K2.out,by rw [List.length_append,rgVals_snoc];exact K3.out,trivial⟩,HBl.out.trans K5.out⟩⟩
  case done =>
    rintro D ys W hD rfl ⟨⟨v,hv,hrow,_⟩,hBl⟩ hK
    have hc:=hv.cell
    gi_wp2
    refine ⟨by simp,.inl ⟨_,_,rfl,run_takeDeferred hK,?_⟩⟩
    rw [shR_len] at hrow
    refine ⟨v,by simp [results,Tryz.results224,go_sem],v,rfl,ownsRow_putObj hrow _ hK rfl,hBl.trans (belowK_b (w:=w) (Nat.le_refl _) W D _ _ (by simp at hD;omega) hK rfl rfl)⟩
  case stop =>
    rintro D c pre W _ _ h _
    exact h.elim
theorem coll_any (L S B:Nat) (A:Option Addr) (rs:List Rg) (c d:Nat) (w:World) (hA:LatAt w L S B A rs c d 335) (hB:LatB 0 w.heap.size L S B A) (hlen:rs.length ≤ 1048576) (hd:d ≤ 1048576) (hrs:∀ r ∈ rs,r.1 ≤ 1048576 ∧ r.2 ≤ 1048576) :
    Calls Tryz.prog 209 #[.func (.func 226) #[] #[.pointer (some ⟨L,0,none⟩),.pointer (some ⟨S,0,none⟩)]] w fun e w' => ∃ v,e = .returned v ∧ w'.ownsRow w.heap.size 52 2 v rs.length (rgVals (shR d rs)) ∧ Below w.heap.size w w':=by
  have h:=aseq_any L S B A rs c d w hA hB hlen hd hrs
  have H:=Lib.hid h
  clear h hA hB hlen hd hrs
  go_enter Tryz.func209,Tryz.ntmps209
  go_wp2_with fail
  refine H.out.mono ?_
  rintro e w1 ⟨v,rfl,o1,k1⟩
  have O1:=Lib.hid o1
  clear o1
  go_wp2_with fail
  go_ret
  exact ⟨_,rfl,O1.out,k1⟩
end Go.Proofs.YtaccfnffmbndhaaGreat
namespace Go.Proofs.YtaccfnffmbndhaaGreat
open Go.RowKit
theorem evenR_in {n k:Nat} (h1:1 ≤ k) (hn:n ≤ 1048576):∀ r ∈ evenR n k,r.1 ≤ 1048576 ∧ r.2 ≤ 1048576:=by
  intro r hr
  simp only [evenR,List.mem_map,List.mem_range] at hr
  obtain ⟨i,hi,rfl⟩:=hr
  have a:=bdN_le n k i h1 (by omega)
  have b:=bdN_le n k (i + 1) h1 (by omega)
  exact ⟨by simp only;omega,by simp only;omega⟩
theorem blkR_in {n s:Nat} (hn:n ≤ 1048576):∀ r ∈ blkR n s,r.1 ≤ 1048576 ∧ r.2 ≤ 1048576:=by
  intro r hr
  simp only [blkR,List.mem_map,List.mem_range] at hr
  obtain ⟨i,hi,rfl⟩:=hr
  have:=cntQ_lt hi
  exact ⟨by simp only;omega,by simp only;omega⟩
set_option maxRecDepth 100000 in
theorem segs_any (lo hi k:Nat) (w:World) (h1:1 ≤ k) (h2:k ≤ 1048576) (h3:lo ≤ 1048576) (h4:hi ≤ 1048576) :
    Calls Tryz.prog 190 #[.agg #[.int .i64 lo,.int .i64 hi],.int .i64 k] w fun e w' => ∃ v,e = .returned v ∧ w'.ownsRow w.heap.size 52 2 v k (rgVals (segR (lo,hi) k)) ∧ Below w.heap.size w w':=by
  obtain ⟨W0,hW0⟩:∃ W0,w.alloc (.cells #[.int .i64 lo,.int .i64 hi] 52) = W0:=⟨_,rfl⟩
  have h0:W0.heap[w.heap.size]? = some (.cells #[.int .i64 lo,.int .i64 hi] 52 (0,0)):=by rw [← hW0];exact heap_alloc_new w _
  have hB0:Below w.heap.size w W0:=by rw [← hW0];exact (br w).alloc (Nat.le_refl _) _
  have t0:=fun w' q => bx2 (sb h0 w' q)
  have HW0:=Lib.hid hW0;have HB0:=Lib.hid hB0
  clear hW0 h0 hB0
  have Hsh:Hid (segR (lo,hi) k = shR lo (evenR (hi - lo) k)):=Lib.hid rfl
  go_enter Tryz.func190,Tryz.ntmps190
  have q0:=br W0
  go_wp2_with fail
  rw [HW0.out]
  refine HA.g (fun w':World => Below W0.heap.size W0 w') ?_
  refine HA.t ?_ [0,2,4,5] q0.drew ?_
  refine HA.c 1 (rgsize_any lo hi _ h3 h4) ?_
  rintro e w1 ⟨rfl,k1⟩
  have q1:=bt q0.drew k1
  refine ⟨_,rfl,q1,fun _ => ?_⟩
  refine HA.c 3 (even_any (hi - lo) k _ h1 h2 (by omega)) ?_
  rintro e w2 ⟨v2,rfl,o2,k2⟩
  obtain ⟨A,c,rfl,_⟩:=own_form o2
  have q2:=bt q1 k2
  have hl:=later_any A (evenR (hi - lo) k) c lo w2 (Rd.own o2)
  rw [evenR_len] at hl
  refine ⟨_,rfl,q2,fun _ => ?_⟩
  refine HA.c 6 hl ?_
  rintro e w3 ⟨L,S,B,rfl,hA,hlb,k3⟩
  have hLB:LatB 0 w3.heap.size L S B A:=⟨⟨Nat.zero_le _,lt_of_block hA.l⟩,⟨Nat.zero_le _,lt_of_block hA.s⟩,⟨Nat.zero_le _,lt_of_block hA.b⟩,fun x hx => ⟨Nat.zero_le _,Nat.lt_of_lt_of_le (own_at o2 x hx).2 k3.size⟩⟩
  clear hlb
  have q3:=bt q2 k3
  refine ⟨_,rfl,q3,fun _ => ?_⟩
  refine HA.c 7 (coll_any L S B A _ c lo w3 hA hLB (by rw [evenR_len];exact h2) h3 (evenR_in h1 (by omega))) ?_
  rintro e w4 ⟨v4,rfl,o4,k4⟩
  have q4:=bt q3 k4
  refine ⟨_,rfl,q4,fun _ => ?_⟩
  refine HA.t ?_ [8] q4 ?_
  refine HA.d ?_
  have hB:=Lib.hid (HB0.out.trans (q4.mono HB0.out.size))
  rw [evenR_len,← Hsh.out] at o4
  have O4:=Lib.hid (own_base (base':=w.heap.size) o4 (Nat.le_trans HB0.out.size q3.size))
  clear o4 o2 hl hA hLB k1 k2 k3 k4 q1 q2 q3 q4 t0
  go_wp2_with fail
  go_ret
  exact ⟨_,rfl,O4.out,hB.out⟩
set_option maxRecDepth 100000 in
theorem chks_any (lo hi k:Nat) (w:World) (h1:1 ≤ k) (h2:k ≤ 1048576) (h3:lo ≤ 1048576) (h4:hi ≤ 1048576) :
    Calls Tryz.prog 191 #[.agg #[.int .i64 lo,.int .i64 hi],.int .i64 k] w fun e w' => ∃ v,e = .returned v ∧ w'.ownsRow w.heap.size 52 2 v (chR (lo,hi) k).length (rgVals (chR (lo,hi) k)) ∧ Below w.heap.size w w':=by
  obtain ⟨W0,hW0⟩:∃ W0,w.alloc (.cells #[.int .i64 lo,.int .i64 hi] 52) = W0:=⟨_,rfl⟩
  have h0:W0.heap[w.heap.size]? = some (.cells #[.int .i64 lo,.int .i64 hi] 52 (0,0)):=by rw [← hW0];exact heap_alloc_new w _
  have hB0:Below w.heap.size w W0:=by rw [← hW0];exact (br w).alloc (Nat.le_refl _) _
  have t0:=fun w' q => bx2 (sb h0 w' q)
  have HW0:=Lib.hid hW0;have HB0:=Lib.hid hB0
  clear hW0 h0 hB0
  have Hsh:Hid (chR (lo,hi) k = shR lo (blkR (hi - lo) k)):=Lib.hid rfl
  go_enter Tryz.func191,Tryz.ntmps191
  have q0:=br W0
  go_wp2_with fail
  rw [HW0.out]
  refine HA.g (fun w':World => Below W0.heap.size W0 w') ?_
  refine HA.t ?_ [0,2,4,5] q0.drew ?_
  refine HA.c 1 (rgsize_any lo hi _ h3 h4) ?_
  rintro e w1 ⟨rfl,k1⟩
  have q1:=bt q0.drew k1
  refine ⟨_,rfl,q1,fun _ => ?_⟩
  have hbl:=blocks_any (hi - lo) k w1 (by omega) h1 h2
  have hcl:=cntQ_le (hi - lo) k
  rw [← blkR_vals,← blkR_len] at hbl
  rw [← blkR_len] at hcl
  refine HA.c 3 hbl ?_
  rintro e w2 ⟨v2,rfl,o2,k2⟩
  obtain ⟨A,c,rfl,_⟩:=own_form o2
  have q2:=bt q1 k2
  have hl:=later_any A (blkR (hi - lo) k) c lo w2 (Rd.own o2)
  refine ⟨_,rfl,q2,fun _ => ?_⟩
  refine HA.c 6 hl ?_
  rintro e w3 ⟨L,S,B,rfl,hA,hlb,k3⟩
  have hLB:LatB 0 w3.heap.size L S B A:=⟨⟨Nat.zero_le _,lt_of_block hA.l⟩,⟨Nat.zero_le _,lt_of_block hA.s⟩,⟨Nat.zero_le _,lt_of_block hA.b⟩,fun x hx => ⟨Nat.zero_le _,Nat.lt_of_lt_of_le (own_at o2 x hx).2 k3.size⟩⟩
  clear hlb
  have q3:=bt q2 k3
  refine ⟨_,rfl,q3,fun _ => ?_⟩
  refine HA.c 7 (coll_any L S B A _ c lo w3 hA hLB (by omega) h3 (blkR_in (by omega))) ?_
  rintro e w4 ⟨v4,rfl,o4,k4⟩
  have q4:=bt q3 k4
  refine ⟨_,rfl,q4,fun _ => ?_⟩
  refine HA.t ?_ [8] q4 ?_
  refine HA.d ?_
  have hB:=Lib.hid (HB0.out.trans (q4.mono HB0.out.size))
  have hle:(chR (lo,hi) k).length = (blkR (hi - lo) k).length:=by rw [Hsh.out,shR_len]
  rw [← Hsh.out,← hle] at o4
  have O4:=Lib.hid (own_base (base':=w.heap.size) o4 (Nat.le_trans HB0.out.size q3.size))
  clear o4 o2 hl hA hLB hbl hcl hle k1 k2 k3 k4 q1 q2 q3 q4 t0
  go_wp2_with fail
  go_ret
  exact ⟨_,rfl,O4.out,hB.out⟩
end Go.Proofs.YtaccfnffmbndhaaGreat
namespace Go.Proofs.YtaccfnffmbndhaaGreat
open Go.RowKit Go.Shelf
theorem rows_inRound {l n:Nat} {P:Program} {row:String} {args:Array Value} {w:World} {R:Value → World → Prop} (h:Rows P row args w R):RowsIn (Fence.wide.inRound l) n P row args w R:=
  fun c cs _ => let ⟨v,w',r,s⟩:=h c cs;⟨v,w',r,(stepsIn_wide (P:=P)).2 s⟩
theorem oper_inRound {l n:Nat} {P:Program} {o:Oper} {a:Act} {w:World} {K:Act → World → Prop} {Q:Exit → Act → World → Prop} (hnd:∀ c,o.op ≠ .defer c) (h:o.wp P a w K Q):o.wpIn (Fence.wide.inRound l) n P a w K Q:=by
  unfold Oper.wp at h
  unfold Oper.wpIn
  refine ⟨fun _ _ => trivial,?_⟩
  rw [Oper.semAt_plain _ _ _ hnd]
  generalize (execOp a.eval o).run P w = r at *
  cases r with
  | ok x w' =>
    cases x <;> simp only [Oper.upon,Oper.uponIn] at h ⊢ <;>
      first
        | exact h
        | exact ⟨fun h' => (by cases h'),CallsIn.inRound l (callsIn_wide.2 h)⟩
        | exact ⟨fun h' => (by cases h'),rows_inRound h⟩
        | exact h.elim
  | halt x w' => cases x <;> simp only [Oper.upon,Oper.uponIn] at h ⊢ <;> exact h
theorem wpOp_inRound {l n:Nat} {P:Program} {ops:Array Oper} {Q:Exit → Act → World → Prop} (hnd:∀ (i:Nat) (o:Oper),ops[i]? = some o → ∀ c,o.op ≠ .defer c) (hno:¬ LetsOut Q) {i:Nat} {K:Act → World → Prop} {a:Act} {w:World}
    (h:wpOp P ops Q i K a w):wpOpIn (Fence.wide.inRound l) n P ops Q i K a w:=by
  unfold wpOp at h
  unfold wpOpIn
  split at h
  · rename_i hi;simp only [hi];exact h
  · rename_i o hi
    simp only [hi]
    split at h
    · rename_i hw
      rw [if_pos hw]
      rcases h with h | ⟨_,h⟩
      · exact oper_inRound (hnd i o hi) h
      · exact absurd h hno
    · rename_i hw
      rw [if_neg hw]
      exact ⟨fun _ _ => trivial,h⟩
theorem wpAny_inRound {l n:Nat} {P:Program} {md:Region.Mode} {ops:Array Oper} {Q:Exit → Act → World → Prop} (hnd:∀ (i:Nat) (o:Oper),ops[i]? = some o → ∀ c,o.op ≠ .defer c) (hno:¬ LetsOut Q):∀ (fuel:Nat) (listed:Array Bool) (a:Act) (w:World),
    wpAny P md ops Q fuel listed a w → wpAnyIn (Fence.wide.inRound l) n P md ops Q fuel listed a w
  | 0,_,_,_,h => h
  | fuel + 1,_,_,_,h => ⟨h.1,fun i hi => wpOpIn_mono (fun a' w' h' => wpAny_inRound hnd hno fuel _ a' w' h') (wpOp_inRound hnd hno (h.2 i hi))⟩
def Defers:Op → Bool
  | .defer _ => true
  | _ => false
theorem noDefer {ops:Array Oper} (h:ops.all (fun o => !Defers o.op) = true):∀ (i:Nat) (o:Oper),ops[i]? = some o → ∀ c,o.op ≠ .defer c:=fun i o ho c e => by
  have:=(Array.all_eq_true.1 h) i (Array.getElem?_eq_some_iff.1 ho).1
  rw [(Array.getElem?_eq_some_iff.1 ho).2,e] at this
  cases this
theorem region_inRound {l n:Nat} {P:Program} {ops:Array Oper} {Q:Exit → Act → World → Prop} (S:World → Prop) {id:Nat} {a:Act} {w:World} (hm:P.follows .mixedOrders = true) (hnd:ops.all (fun o => !Defers o.op) = true) (hno:¬ LetsOut Q)
    (h:wpAnyH P .any ops Q S ops.size (Array.replicate ops.size false) a w.drew):(Code.region id ops true).wpIn (Fence.wide.inRound l) n P Q a w:=
  wpIn_region_any hm (wpAny_inRound (noDefer hnd) hno _ _ _ _ (wpAny_of_held _ _ _ _ h))
end Go.Proofs.YtaccfnffmbndhaaGreat
namespace Go.Proofs.YtaccfnffmbndhaaGreat
open Go.RowKit Go.Shelf
attribute [local go_sem] Oper.semAt_some
theorem chR_len (s:Rg) (c:Nat):(chR s c).length = cntQ (s.2 - s.1) c:=by rw [chR,shR_len,blkR_len]
theorem segR_in {b:Rg} {k:Nat} (h1:1 ≤ k) (hb1:b.1 ≤ 1048576) (hb:b.2 ≤ 1048576):∀ r ∈ segR b k,r.1 ≤ 1048576 ∧ r.2 ≤ 1048576:=by
  intro r hr
  simp only [segR,shR,evenR,List.map_map,List.mem_map,List.mem_range,Function.comp] at hr
  obtain ⟨i,hi,rfl⟩:=hr
  have a:=bdN_le (b.2 - b.1) k i h1 (by omega)
  have c:=bdN_le (b.2 - b.1) k (i + 1) h1 (by omega)
  exact ⟨by simp only;omega,by simp only;omega⟩
end Go.Proofs.YtaccfnffmbndhaaGreat
namespace Go.Proofs.YtaccfnffmbndhaaGreat
open Go.RowKit
theorem tmod_emod (n:Int) (W:Nat) (h:1 ≤ W):n % (W:Int) = if n.tmod W < 0 then n.tmod W + W else n.tmod W:=by
  rw [Int.tmod_eq_emod]
  have h1:=Int.emod_nonneg n (show (W:Int) ≠ 0 by omega)
  have h2:=Int.emod_lt_of_pos n (show (0:Int) < W by omega)
  have hna:((W:Int).natAbs:Int) = W:=by simp
  split <;> split <;> omega
theorem tmod_in (n:Int) (W:Nat) (h:1 ≤ W):-(W:Int) < n.tmod W ∧ n.tmod W < W:=by
  rw [Int.tmod_eq_emod]
  have h1:=Int.emod_nonneg n (show (W:Int) ≠ 0 by omega)
  have h2:=Int.emod_lt_of_pos n (show (0:Int) < W by omega)
  have hna:((W:Int).natAbs:Int) = W:=by simp
  split
  · omega
  · rename_i hh
    have:n % (W:Int) ≠ 0:=fun e => hh (.inr (Int.dvd_of_emod_eq_zero e))
    omega
set_option maxRecDepth 100000 in
theorem around_any (st bk lo hi W c:Nat) (n:Int) (w:World) (h1:1 ≤ W) (h2:W ≤ 1048576) (hn:-(W:Int) ≤ n) (hn2:n ≤ 2 * W) :
    Calls Tryz.prog 208 #[.agg #[.int .i64 (st:Nat),.int .i64 (bk:Nat),.int .i64 (lo:Nat),.int .i64 (hi:Nat),.int .i64 (W:Nat),.int .i64 (c:Nat)],.int .i64 n] w fun e w' => e = .returned (.int .i64 (n % (W:Int))) ∧ Below w.heap.size w w':=by
  have hz:¬ ((W:Int) = 0):=by omega
  have hm:=tmod_in n W h1
  have he:=tmod_emod n W h1
  obtain ⟨r,hr⟩:∃ r,n.tmod (W:Int) = r:=⟨_,rfl⟩
  rw [hr] at hm he
  by_cases hneg:r < 0
  · rw [if_pos hneg] at he
    rw [he]
    have HH:=Lib.hid he
    clear he
    go_enter Tryz.func208,Tryz.ntmps208
    go_wp2_with fail
    go_ret
    exact ⟨rfl,(br w).alloc (Nat.le_refl _) _⟩
  · rw [if_neg hneg] at he
    rw [he]
    have HH:=Lib.hid he
    clear he
    go_enter Tryz.func208,Tryz.ntmps208
    go_wp2_with fail
    go_ret
    exact ⟨rfl,(br w).alloc (Nat.le_refl _) _⟩
set_option maxRecDepth 100000 in
theorem scatter_any (st bk lo hi W c x r:Nat) (w:World) (h1:1 ≤ W) (h2:W ≤ 1048576) (hx:x < W) (hr:r < W) :
    Calls Tryz.prog 206 #[.agg #[.int .i64 (st:Nat),.int .i64 (bk:Nat),.int .i64 (lo:Nat),.int .i64 (hi:Nat),.int .i64 (W:Nat),.int .i64 (c:Nat)],.int .i64 x,.int .i64 r] w fun e w' => e = .returned (.int .i64 (((x:Int) - r) % (W:Int))) ∧ Below w.heap.size w w':=by
  have ha:=fun w' => around_any st bk lo hi W c ((x:Int) - r) w' h1 h2 (by omega) (by omega)
  have Ha:=Lib.hid ha
  clear ha
  go_enter Tryz.func206,Tryz.ntmps206
  go_wp2_with fail
  refine (Ha.out _).mono ?_
  rintro e w1 ⟨rfl,k1⟩
  have hB:Below w.heap.size w w1:=((br w).alloc (Nat.le_refl _) _).trans (k1.mono (by simp))
  clear k1
  go_wp2_with fail
  go_ret
  exact ⟨rfl,hB⟩
set_option maxRecDepth 100000 in
theorem gather_any (st bk lo hi W c x r:Nat) (w:World) (h1:1 ≤ W) (h2:W ≤ 1048576) (hx:x < W) (hr:r < W) :
    Calls Tryz.prog 207 #[.agg #[.int .i64 (st:Nat),.int .i64 (bk:Nat),.int .i64 (lo:Nat),.int .i64 (hi:Nat),.int .i64 (W:Nat),.int .i64 (c:Nat)],.int .i64 x,.int .i64 r] w fun e w' => e = .returned (.int .i64 (((x:Int) + 1 - r) % (W:Int))) ∧ Below w.heap.size w w':=by
  have ha:=fun w' => around_any st bk lo hi W c ((x:Int) + 1 - r) w' h1 h2 (by omega) (by omega)
  have Ha:=Lib.hid ha
  clear ha
  go_enter Tryz.func207,Tryz.ntmps207
  go_wp2_with fail
  refine (Ha.out _).mono ?_
  rintro e w1 ⟨rfl,k1⟩
  have hB:Below w.heap.size w w1:=((br w).alloc (Nat.le_refl _) _).trans (k1.mono (by simp))
  clear k1
  go_wp2_with fail
  go_ret
  exact ⟨rfl,hB⟩
theorem segOut_int {W x ph r:Nat} (hr:r < W) (n:Int) (hn:n = (x:Int) + ph - r):n % (W:Int) = ((segOut W x ph r:Nat):Int):=by
  unfold segOut
  rw [Int.natCast_emod,show ((x + (2 * W + ph - r):Nat):Int) = n + 2 * W by omega,Int.add_mul_emod_self_right]
theorem segIn_int {W x ph r:Nat} (hr:r + 1 ≤ W) (n:Int) (hn:n = ((x:Int) - 1) % (W:Int) + ph - r):n % (W:Int) = ((segIn W x ph r:Nat):Int):=by
  unfold segIn
  rw [Int.natCast_emod,show ((x + (2 * W + ph - r - 1):Nat):Int) = ((x:Int) - 1 + ph - r) + 2 * W by omega,Int.add_mul_emod_self_right,hn,Int.add_sub_assoc,Int.emod_add_emod,Int.add_sub_assoc]
end Go.Proofs.YtaccfnffmbndhaaGreat
namespace Go.Proofs.YtaccfnffmbndhaaGreat
open Go.RowKit
theorem idx_zero (w:World) (f g:Fn):(Instr.index 320 (.agg #[.func f #[] #[],.func g #[] #[]]) (.int .i64 0)).run Tryz.prog w = .ok (.func f #[] #[]) w:=by
  simp [Instr.index,run_underlying Tryz.underlying320,asIntOf,go_sem]
theorem idx_one (w:World) (f g:Fn):(Instr.index 320 (.agg #[.func f #[] #[],.func g #[] #[]]) (.int .i64 1)).run Tryz.prog w = .ok (.func g #[] #[]) w:=by
  simp [Instr.index,run_underlying Tryz.underlying320,asIntOf,go_sem]
attribute [local go_sem] idx_zero idx_one
set_option maxRecDepth 100000 in
theorem segO_any (st bk lo hi W c x ph r:Nat) (w:World) (h1:1 ≤ W) (h2:W ≤ 1048576) (hx:x < W) (hp:ph < 2) (hr:r + 1 < W) :
    Calls Tryz.prog 189 #[.agg #[.int .i64 (st:Nat),.int .i64 (bk:Nat),.int .i64 (lo:Nat),.int .i64 (hi:Nat),.int .i64 (W:Nat),.int .i64 (c:Nat)],.int .i64 x,.int .i64 ph,.int .i64 r,.bool true] w fun e w' => e = .returned (.tuple #[.int .i64 (segOut W x ph r:Nat),.bool true]) ∧ Below w.heap.size w w':=by
  have g1:(x:Int) < W:=by omega
  have g2:(r:Int) < (W:Int) - 1:=by omega
  have hs:=segOut_int (W:=W) (x:=x) (ph:=ph) (r:=r) (by omega) _ rfl
  obtain rfl | rfl:ph = 0 ∨ ph = 1:=by omega
  · have ha:=fun w' => scatter_any st bk lo hi W c x r w' h1 h2 hx (by omega)
    rw [show ((x:Int) + (0:Nat) - r) = (x:Int) - r by omega] at hs
    rw [hs] at ha
    have Ha:=Lib.hid ha
    clear ha hs
    go_enter Tryz.func189,Tryz.ntmps189
    go_wp2_with fail
    refine (Ha.out _).mono ?_
    rintro e w1 ⟨rfl,k1⟩
    have hB:Below w.heap.size w w1:=((br w).alloc (Nat.le_refl _) _).trans (k1.mono (by simp))
    clear k1
    go_wp2_with fail
    go_ret2
    exact ⟨rfl,hB⟩
  · have ha:=fun w' => gather_any st bk lo hi W c x r w' h1 h2 hx (by omega)
    rw [show ((x:Int) + (1:Nat) - r) = (x:Int) + 1 - r by omega] at hs
    rw [hs] at ha
    have Ha:=Lib.hid ha
    clear ha hs
    go_enter Tryz.func189,Tryz.ntmps189
    go_wp2_with fail
    refine (Ha.out _).mono ?_
    rintro e w1 ⟨rfl,k1⟩
    have hB:Below w.heap.size w w1:=((br w).alloc (Nat.le_refl _) _).trans (k1.mono (by simp))
    clear k1
    go_wp2_with fail
    go_ret2
    exact ⟨rfl,hB⟩
set_option maxRecDepth 100000 in
theorem segI_any (st bk lo hi W c x ph r:Nat) (w:World) (h1:1 ≤ W) (h2:W ≤ 1048576) (hx:x < W) (hp:ph < 2) (hr:r + 1 < W) :
    Calls Tryz.prog 189 #[.agg #[.int .i64 (st:Nat),.int .i64 (bk:Nat),.int .i64 (lo:Nat),.int .i64 (hi:Nat),.int .i64 (W:Nat),.int .i64 (c:Nat)],.int .i64 x,.int .i64 ph,.int .i64 r,.bool false] w fun e w' => e = .returned (.tuple #[.int .i64 (segIn W x ph r:Nat),.bool true]) ∧ Below w.heap.size w w':=by
  have g1:(x:Int) < W:=by omega
  have g2:(r:Int) < (W:Int) - 1:=by omega
  obtain ⟨W0,hW0⟩:∃ W0,w.alloc (.cells #[.int .i64 (st:Nat),.int .i64 (bk:Nat),.int .i64 (lo:Nat),.int .i64 (hi:Nat),.int .i64 (W:Nat),.int .i64 (c:Nat)] 275) = W0:=⟨_,rfl⟩
  have h0:W0.heap[w.heap.size]? = some (.cells #[.int .i64 (st:Nat),.int .i64 (bk:Nat),.int .i64 (lo:Nat),.int .i64 (hi:Nat),.int .i64 (W:Nat),.int .i64 (c:Nat)] 275 (0,0)):=by rw [← hW0];exact heap_alloc_new w _
  have hB0:Below w.heap.size w W0:=by rw [← hW0];exact (br w).alloc (Nat.le_refl _) _
  have t0:=fun w' q => bx6 (sb h0 w' q)
  have har:=fun w' => around_any st bk lo hi W c ((x:Int) - 1) w' h1 h2 (by omega) (by omega)
  have hwr:IntKind.i64.wrap ((x:Int) - 1) = (x:Int) - 1:=IntWalk.i64_in _ (by omega)
  obtain ⟨y,hy⟩:∃ y:Nat,(y:Int) = ((x:Int) - 1) % (W:Int):=⟨(((x:Int) - 1) % (W:Int)).toNat,Int.toNat_of_nonneg (Int.emod_nonneg _ (by omega))⟩
  have hyl:y < W:=by have:=Int.emod_lt_of_pos ((x:Int) - 1) (show (0:Int) < W by omega);omega
  rw [← hy] at har
  have HW0:=Lib.hid hW0;have HB0:=Lib.hid hB0;have Har:=Lib.hid har
  clear hW0 h0 hB0 har
  obtain rfl | rfl:ph = 0 ∨ ph = 1:=by omega
  · have hs:=segIn_int (W:=W) (x:=x) (ph:=0) (r:=r) (by omega) ((y:Int) - r) (by rw [hy];omega)
    have hsc:=fun w' => scatter_any st bk lo hi W c y r w' h1 h2 hyl (by omega)
    rw [hs] at hsc
    have Hsc:=Lib.hid hsc
    clear hsc hs
    go_enter Tryz.func189,Tryz.ntmps189
    have q0:=br W0
    go_wp2_with fail
    rw [HW0.out]
    refine HA.g (fun w':World => Below W0.heap.size W0 w') ?_
    refine HA.t ?_ [0,1,2,3,4,6] q0.drew ?_
    refine HA.c 5 (Har.out _) ?_
    rintro e w1 ⟨rfl,k1⟩
    have q1:=bt q0.drew k1
    refine ⟨_,rfl,q1,fun _ => ?_⟩
    refine HA.c 7 (Hsc.out _) ?_
    rintro e w2 ⟨rfl,k2⟩
    have q2:=bt q1 k2
    refine ⟨_,rfl,q2,fun _ => ?_⟩
    refine HA.t ?_ [8,9] q2 ?_
    refine HA.d ?_
    have hB:=HB0.out.trans (q2.mono HB0.out.size)
    clear k1 k2 q0 q1 q2 t0
    go_wp2_with fail
    go_ret2
    exact ⟨rfl,hB⟩
  · have hs:=segIn_int (W:=W) (x:=x) (ph:=1) (r:=r) (by omega) ((y:Int) + 1 - r) (by rw [hy];omega)
    have hsc:=fun w' => gather_any st bk lo hi W c y r w' h1 h2 hyl (by omega)
    rw [hs] at hsc
    have Hsc:=Lib.hid hsc
    clear hsc hs
    go_enter Tryz.func189,Tryz.ntmps189
    have q0:=br W0
    go_wp2_with fail
    rw [HW0.out]
    refine HA.g (fun w':World => Below W0.heap.size W0 w') ?_
    refine HA.t ?_ [0,1,2,3,4,6] q0.drew ?_
    refine HA.c 5 (Har.out _) ?_
    rintro e w1 ⟨rfl,k1⟩
    have q1:=bt q0.drew k1
    refine ⟨_,rfl,q1,fun _ => ?_⟩
    refine HA.c 7 (Hsc.out _) ?_
    rintro e w2 ⟨rfl,k2⟩
    have q2:=bt q1 k2
    refine ⟨_,rfl,q2,fun _ => ?_⟩
    refine HA.t ?_ [8,9] q2 ?_
    refine HA.d ?_
    have hB:=HB0.out.trans (q2.mono HB0.out.size)
    clear k1 k2 q0 q1 q2 t0
    go_wp2_with fail
    go_ret2
    exact ⟨rfl,hB⟩
end Go.Proofs.YtaccfnffmbndhaaGreat
