/- The walks of package shape: the functions that New hands on. Blocks that are known whole, beside rows of one's own. The walk of shape.New. The walks of part.Count and Blocks. No condition. -/
import Derived.Test.YtaccfnffmbndhaaGreatB04
import Derived.RegionTactic
import Derived.Test.YtaccfnffmbndhaaGreatB01
import Derived.Test.YtaccfnffmbndhaaGreatB02
import Derived.Test.YtaccfnffmbndhaaGreatB03
set_option linter.unusedSimpArgs false
set_option linter.unusedVariables false
namespace Go.Proofs.YtaccfnffmbndhaaGreat
open Go.RowKit
theorem wrong_any (n:Int) (w:World):Calls Tryz.prog 91 #[.int .i64 n] w fun e w' => e = .returned (.bool (!decide (1 ≤ n ∧ n ≤ 1048576))) ∧ w = w':=by
  by_cases h1:n < 1
  · go_enter Tryz.func91,Tryz.ntmps91
    go_wp2
    go_ret
    exact ⟨ret_bool (by first | (simp;omega) | (simp;done)),rfl⟩
  · by_cases h2:1048576 < n
    · go_enter Tryz.func91,Tryz.ntmps91
      go_wp2
      go_ret
      exact ⟨ret_bool (by first | (simp;omega) | (simp;done)),rfl⟩
    · go_enter Tryz.func91,Tryz.ntmps91
      go_wp2
      go_ret
      exact ⟨ret_bool (by first | (simp;omega) | (simp;done)),rfl⟩
def IndexIs (sz:List Int) (e:Ending):Prop:=∃ d:Int,e = .returned (.int .i64 d) ∧ -1 ≤ d ∧ (d < 0 ↔ ∀ k,k < sz.length → 1 ≤ nth sz k ∧ nth sz k ≤ 1048576)
theorem index_any (A:Option Addr) (sz:List Int) (c:Nat) (w:World) (hA:Rd w A (nums .i64 sz)) (hl:sz.length ≤ 17592186043904) :
    Calls Tryz.prog 137 #[.slice A sz.length c,.func (.func 91) #[] #[]] w fun e w' => IndexIs sz e ∧ w = w':=by
  obtain ⟨n,hn⟩:∃ n,sz.length = n:=⟨_,rfl⟩
  have hw:=fun z => wrong_any z w
  rw [hn] at hl ⊢
  have HA:=Lib.hid hA;have Hn:=Lib.hid hn;have Hw:=Lib.hid hw;clear hA hn hw
  go_enter Tryz.func137,Tryz.ntmps137
  go_wp2_with fail
  go_loop [5,8] (fun _ i => ∃ k:Nat,k ≤ n ∧ i = .int .i64 k ∧ Hid (∀ j,j < k → 1 ≤ nth sz j ∧ nth sz j ≤ 1048576)) (fun _ i => n - (intOf i).toNat)
  case atStart => exact ⟨0,Nat.zero_le _,rfl,Lib.hid fun j hj => by omega⟩
  case round =>
    obtain ⟨k,hk,rfl,Hall⟩:=hrel
    by_cases hlt:k < n
    · obtain ⟨b,o,rfl,p⟩:=HA.out.num (show k < sz.length by rw [Hn.out];exact hlt)
      by_cases hz:1 ≤ nth sz k ∧ nth sz k ≤ 1048576
      · have hd:(!decide (1 ≤ nth sz k ∧ nth sz k ≤ 1048576)) = false:=by simp [hz.1,hz.2]
        have hw:=Hw.out (nth sz k)
        rw [hd] at hw
        have Hz:=Lib.hid hz;have Hw2:=Lib.hid hw;clear hz hw hd
        go_wp2_with fail
        refine Hw2.out.mono ?_
        rintro e w' ⟨rfl,rfl⟩
        go_wp2_with fail
        go_round
        case rel => exact ⟨k + 1,by omega,by go_num,Lib.hid (p:=∀ j,j < k + 1 → 1 ≤ nth sz j ∧ nth sz j ≤ 1048576) fun j hj => by
          rcases Nat.lt_or_ge j k with h | h
          · exact Hall.out j h
          · obtain rfl:j = k:=by omega
            exact Hz.out⟩
        case measure => simp [intOf];omega
      · have hd:(!decide (1 ≤ nth sz k ∧ nth sz k ≤ 1048576)) = true:=by simp;omega
        have hw:=Hw.out (nth sz k)
        rw [hd] at hw
        have Hz:=Lib.hid hz;have Hw2:=Lib.hid hw;clear hz hw hd
        go_wp2_with fail
        refine Hw2.out.mono ?_
        rintro e w' ⟨rfl,rfl⟩
        go_wp2_with fail
        go_ret
        exact ⟨⟨k,rfl,by omega,fun h => by omega,fun h => absurd (h k (by rw [Hn.out];exact hlt)) Hz.out⟩,rfl⟩
    · obtain rfl:k = n:=by omega
      go_wp2_with fail
      go_ret
      exact ⟨⟨-1,rfl,by omega,fun _ => by rw [Hn.out];exact Hall.out,fun _ => by omega⟩,rfl⟩
theorem contains_yes (A:Option Addr) (sz:List Int) (c:Nat) (w:World) (hA:Rd w A (nums .i64 sz)) (hl:sz.length ≤ 17592186043904) (h:¬ ∀ k,k < sz.length → 1 ≤ nth sz k ∧ nth sz k ≤ 1048576) :
    Calls Tryz.prog 92 #[.slice A sz.length c,.func (.func 91) #[] #[]] w fun e w' => e = .returned (.bool true) ∧ w = w':=by
  have hi:=index_any A sz c w hA hl
  have Hi:=Lib.hid hi;have H:=Lib.hid h;clear hi hA h
  go_enter Tryz.func92,Tryz.ntmps92
  go_wp2_with fail
  refine Hi.out.mono ?_
  rintro e w' ⟨⟨d,rfl,hd,hiff⟩,rfl⟩
  have h0:0 ≤ d:=by
    rcases Int.lt_or_le d 0 with h | h
    · exact absurd (hiff.1 h) H.out
    · exact h
  clear hiff
  go_wp2
  go_ret
  exact ⟨ret_bool (by simp [h0]),rfl⟩
theorem contains_no (A:Option Addr) (sz:List Int) (c:Nat) (w:World) (hA:Rd w A (nums .i64 sz)) (hl:sz.length ≤ 17592186043904) (h:∀ k,k < sz.length → 1 ≤ nth sz k ∧ nth sz k ≤ 1048576) :
    Calls Tryz.prog 92 #[.slice A sz.length c,.func (.func 91) #[] #[]] w fun e w' => e = .returned (.bool false) ∧ w = w':=by
  have hi:=index_any A sz c w hA hl
  have Hi:=Lib.hid hi;have H:=Lib.hid h;clear hi hA h
  go_enter Tryz.func92,Tryz.ntmps92
  go_wp2_with fail
  refine Hi.out.mono ?_
  rintro e w' ⟨⟨d,rfl,hd,hiff⟩,rfl⟩
  have h0:d < 0:=hiff.2 H.out
  clear hiff
  go_wp2
  go_ret
  exact ⟨ret_bool (by simp;omega),rfl⟩
theorem next_any (m N:Nat) (P S:Nat) (v0 v1 v2:Value) (w:World) (hP:w.heap[P]? = some (.cells #[.pointer (some ⟨S,0,none⟩)] 109 (0,0)))
    (hS:w.heap[S]? = some (.cells #[v0,v1,v2,.int .i64 N] 186 (0,0))) (hN:N ≤ 17592202821632) (hm:m ≤ 17592202821632) :
    Calls Tryz.prog 93 #[.int .i64 m,.pointer (some ⟨P,0,none⟩)] w fun e w' => e = .returned (.agg #[.int .i64 N,.int .i64 ((N + m:Nat):Int)]) ∧ w'.heap[S]? = some (.cells #[v0,v1,v2,.int .i64 ((N + m:Nat):Int)] 186 (0,0)) ∧ Keep (fun i => i = S) w w':=by
  obtain ⟨p0,pf⟩:=bx1 hP
  obtain ⟨⟨s0,s1,s2,s3⟩,sf⟩:=bx4 hS
  have hPl:=lt_of_block hP
  have hSl:=lt_of_block hS
  have HS:=Lib.hid hS;clear hS hP
  rw [Int.natCast_add]
  go_enter Tryz.func93,Tryz.ntmps93
  go_wp2_with fail
  go_region
  all_goals go_wp2_with fail
  refine bodyPost_ret (v:=.agg #[.int .i64 N,.int .i64 ((N:Int) + (m:Int))]) (by simp [results,Tryz.results93,go_sem]) rfl ⟨rfl,?_,?_⟩
  · have h1:(w.setCell ⟨S,3,none⟩ (.int .i64 ((N:Int) + (m:Int)))).heap[S]? = some (.cells #[v0,v1,v2,.int .i64 ((N:Int) + (m:Int))] 186 (0,0)):=heap_setCell_same w S 3 _ _ _ HS.out
    have l1:=lt_of_block h1
    exact (Below.heap_alloc _ _ S (by simp at l1 ⊢;omega)).trans ((Below.heap_alloc _ _ S l1).trans h1)
  · exact (((Keep.setCell (S:=fun i => i = S) (Keep.refl _ w) ⟨S,3,none⟩ (.inr rfl) _).alloc _).alloc _).drew
end Go.Proofs.YtaccfnffmbndhaaGreat
namespace Go.Proofs.YtaccfnffmbndhaaGreat
open Go.RowKit
theorem block_notrow {W:World} {b:Nat} {cs:Array Value} {t e:TypeId} {sg:Nat × Nat} (h:W.heap[b]? = some (.cells cs t sg)) (hte:t ≠ e) {base size k:Nat} {v:Value} {xs:List Value} (hr:W.ownsRow base e size v k xs):some b ≠ v.ownBlock:=by
  rcases hr.2 with ⟨rfl,_⟩ | ⟨g,cap,cur,rfl,_,hgb,_⟩
  · simp [Value.ownBlock]
  · intro e'
    obtain rfl:b = g:=by simpa [Value.ownBlock] using e'
    have:=h.symm.trans hgb
    simp at this
    exact hte this.2.1
theorem block_grown {W W':World} {b:Nat} {cs:Array Value} {t e:TypeId} {sg:Nat × Nat} {o:Obj} (h:W.heap[b]? = some (.cells cs t sg)) (hte:t ≠ e) {base size k:Nat} {v:Value} {xs:List Value} (hr:W.ownsRow base e size v k xs) (hg:(W.alloc o).grownBy W' v.ownBlock):W'.heap[b]? = some (.cells cs t sg):=
  (hg.block b (by have:=lt_of_block h;simp;omega) (block_notrow h hte hr)).trans ((Below.heap_alloc W o b (lt_of_block h)).trans h)
theorem cell_grown {W W':World} {b o:Nat} {u:Value} {e:TypeId} {ob:Obj} (h:W.cell? ⟨b,o,none⟩ = some u) {base size k:Nat} {v:Value} {xs:List Value} (hb:b < base) (hr:W.ownsRow base e size v k xs) (hg:(W.alloc ob).grownBy W' v.ownBlock):W'.cell? ⟨b,o,none⟩ = some u:=
  hg.cell ((World.cell?_of_block (w:=W) (Below.heap_alloc W ob b (lt_of_cell h))).trans h) (fun e => by
    have e':v.ownBlock = some b:=e.symm
    have:=(hr.lt b e').1
    omega)
theorem own_other {W W':World} {base':Nat} {e':TypeId} {size' m:Nat} {v v' u:Value} {ys:List Value} {o:Obj} (hu:W.ownsRow base' e' size' u m ys) (hne:∀ i,v.ownBlock = some i → u.ownBlock ≠ some i)
    (hg:(W.alloc o).grownBy W' v.ownBlock) (hv:v'.ownBlock = v.ownBlock ∨ v'.ownBlock = some (W.alloc o).heap.size):W'.ownsRow base' e' size' u m ys ∧ ∀ i,v'.ownBlock = some i → u.ownBlock ≠ some i:=by
  refine ⟨(hu.alloc o).kept hg ?_,fun i hi => ?_⟩
  · cases hub:u.ownBlock with
    | none => exact .inl rfl
    | some k => exact .inr fun e => hne k e.symm hub
  · rcases hv with hv | hv
    · exact hne i (hv ▸ hi)
    · intro e
      have h1:=(hu.lt i e).2
      rw [hi] at hv
      simp at hv
      omega
theorem cell_alloc {W:World} {p:Addr} {u:Value} (h:W.cell? p = some u) (o:Obj):(W.alloc o).cell? p = some u:=
  (World.cell?_of_block (w:=W) (Below.heap_alloc W o _ (lt_of_cell h))).trans h
theorem cell_below {w w':World} {p:Addr} {u:Value} (hb:Below w.heap.size w w') (h:w.cell? p = some u):w'.cell? p = some u:=(World.cell?_of_block (w:=w) (hb.block _ (lt_of_cell h))).trans h
theorem own_types {W:World} {b1 b2 e1 e2 s1 s2 n1 n2:Nat} {v1 v2:Value} {xs1 xs2:List Value} (h1:W.ownsRow b1 e1 s1 v1 n1 xs1) (h2:W.ownsRow b2 e2 s2 v2 n2 xs2) (hne:e1 ≠ e2):∀ i,v1.ownBlock = some i → v2.ownBlock ≠ some i:=by
  intro i hi e
  rcases h1.2 with ⟨rfl,_⟩ | ⟨g,cap,cur,rfl,_,hgb,_⟩
  · cases hi
  · obtain rfl:g = i:=by simpa [Value.ownBlock] using hi
    exact block_notrow hgb hne h2 e.symm
theorem own_past {W W':World} {e' e size' size n m:Nat} {v u y:Value} {xs ys:List Value} {o:Obj} {base base' B j:Nat} {cs:Array Value} {t:TypeId} (hu:W.ownsRow base' e' size' u m ys) (hv:W.ownsRow base e size v n xs) (hg:(W.alloc o).grownBy W' v.ownBlock)
    (hB:W'.heap[B]? = some (.cells cs t (0,0))) (h1:e ≠ e') (h2:t ≠ e'):(W'.setCell ⟨B,j,none⟩ y).ownsRow base' e' size' u m ys:=by
  have h3:W'.ownsRow base' e' size' u m ys:=by
    refine (hu.alloc o).kept hg ?_
    cases hub:u.ownBlock with
    | none => exact .inl rfl
    | some k => exact .inr fun e9 => own_types hv hu h1 k e9.symm hub
  exact (Keep.setCell (S:=fun i => i = B) (Keep.refl _ W') ⟨B,j,none⟩ (.inr rfl) y).own h3 (fun i hi e9 => block_notrow hB h2 h3 (by rw [hi,e9]))
theorem grown_undrew {W W':World} {r:Option Nat} (h:W.drew.grownBy W' r):W.grownBy W' r:=⟨h.os,h.tape,h.output,h.size,h.block⟩
theorem two_boxes {wr W:World} {M1 M2:Nat} {t1 t2:TypeId} {x0 x1 y0 y1:Value} (a0 a1 c0 c1:Value) (h1:W.heap[M1]? = some (.cells #[x0,x1] t1 (0,0))) (h2:W.heap[M2]? = some (.cells #[y0,y1] t2 (0,0))) (hne:M1 ≠ M2) (hb:Below wr.heap.size wr W) (g1:wr.heap.size ≤ M1) (g2:wr.heap.size ≤ M2) :
    ((((W.setCell ⟨M1,0,none⟩ a0).setCell ⟨M1,1,none⟩ a1).setCell ⟨M2,0,none⟩ c0).setCell ⟨M2,1,none⟩ c1).heap[M1]? = some (.cells #[a0,a1] t1 (0,0)) ∧
    ((((W.setCell ⟨M1,0,none⟩ a0).setCell ⟨M1,1,none⟩ a1).setCell ⟨M2,0,none⟩ c0).setCell ⟨M2,1,none⟩ c1).heap[M2]? = some (.cells #[c0,c1] t2 (0,0)) ∧
    Below wr.heap.size wr ((((W.setCell ⟨M1,0,none⟩ a0).setCell ⟨M1,1,none⟩ a1).setCell ⟨M2,0,none⟩ c0).setCell ⟨M2,1,none⟩ c1):=by
  have e1:=heap_setCell_same W M1 0 _ _ a0 h1
  have e2:=heap_setCell_same _ M1 1 _ _ a1 e1
  have f2:=(Below.heap_setCell (W.setCell ⟨M1,0,none⟩ a0) ⟨M1,1,none⟩ a1 M2 (fun e => hne e.symm)).trans ((Below.heap_setCell W ⟨M1,0,none⟩ a0 M2 (fun e => hne e.symm)).trans h2)
  have f3:=heap_setCell_same _ M2 0 _ _ c0 f2
  have f4:=heap_setCell_same _ M2 1 _ _ c1 f3
  refine ⟨?_,f4,(((hb.setCell (p:=⟨M1,0,none⟩) g1 a0).setCell (p:=⟨M1,1,none⟩) g1 a1).setCell (p:=⟨M2,0,none⟩) g2 c0).setCell (p:=⟨M2,1,none⟩) g2 c1⟩
  exact (Below.heap_setCell _ ⟨M2,1,none⟩ c1 M1 hne).trans ((Below.heap_setCell _ ⟨M2,0,none⟩ c0 M1 hne).trans e2)
end Go.Proofs.YtaccfnffmbndhaaGreat
namespace Go.Proofs.YtaccfnffmbndhaaGreat
open Go.RowKit
theorem top_shape {T:TypeId} {B:Nat} {u v:World} {b:Nat} {sz:List Int} (h:ShapeAt T (topW B u) b sz) (hv:Agr B u v):ShapeAt T v b sz:=by
  obtain ⟨A1,c1,A2,c2,A3,c3,h0,h1,h2,h3⟩:=h
  exact ⟨A1,c1,A2,c2,A3,c3,top_heap h0 hv,top_rd h1 hv,top_rd h2 hv,top_rd h3 hv⟩
theorem et_rngs:ElemT Tryz.prog 120 52 (.agg #[.int .i64 0,.int .i64 0]) 2 16:=⟨Tryz.underlying120,info_parts (by kernel_rfl),rfl,by decide⟩
def NewI (sz:List Int) (x0:Value) (P S:Nat) (k:Nat) (w0 w:World):Prop:=
  ∃ A1 c1 A2 c2,w.heap[P]? = some (.cells #[.pointer (some ⟨S,0,none⟩)] 109 (0,0)) ∧ w.heap[S]? = some (.cells #[x0,.slice A1 k c1,.slice A2 k c2,.int .i64 (cntN sz k:Int)] 186 (0,0)) ∧
    w.ownsRow S 52 2 (.slice A1 k c1) k (wVals sz k) ∧ w.ownsRow S 52 2 (.slice A2 k c2) k (bVals sz k) ∧ (∀ i,(Value.slice A1 k c1).ownBlock = some i → (Value.slice A2 k c2).ownBlock ≠ some i) ∧ Below S w0 w
theorem snew_short (A:Option Addr) (sz:List Int) (c:Nat) (w:World) (hc:sz.length ≤ c) (hm:c ≤ 9223372036854775807) (h:¬ (2 ≤ sz.length ∧ sz.length ≤ 16)) :
    Calls Tryz.prog 43 #[.slice A sz.length c] w fun e w' => e = .returned (.tuple #[.pointer none,.int .i64 5]) ∧ w = w':=by
  by_cases h1:sz.length < 2
  · go_enter Tryz.func43,Tryz.ntmps43
    go_wp2
    go_ret2
    exact ⟨rfl,rfl⟩
  · have h2:16 < sz.length:=by omega
    go_enter Tryz.func43,Tryz.ntmps43
    go_wp2
    go_ret2
    exact ⟨rfl,rfl⟩
theorem snew_wrong (A:Option Addr) (sz:List Int) (c:Nat) (w:World) (hA:Rd w A (nums .i64 sz)) (hc:sz.length ≤ c) (hm:c ≤ 9223372036854775807) (h:2 ≤ sz.length ∧ sz.length ≤ 16) (hb:¬ ∀ k,k < sz.length → 1 ≤ nth sz k ∧ nth sz k ≤ 1048576) :
    Calls Tryz.prog 43 #[.slice A sz.length c] w fun e w' => e = .returned (.tuple #[.pointer none,.int .i64 5]) ∧ w = w':=by
  obtain ⟨h1,h2⟩:=h
  have hct:=contains_yes A sz c w hA (by omega) hb
  have Hct:=Lib.hid hct;clear hct hb hA
  go_enter Tryz.func43,Tryz.ntmps43
  go_wp2_with fail
  refine Hct.out.mono ?_
  rintro e w' ⟨rfl,rfl⟩
  go_wp2
  go_ret2
  exact ⟨rfl,rfl⟩
set_option maxHeartbeats 1000000 in
theorem snew_rightT (A:Option Addr) (sz:List Int) (c:Nat) (w:World) (hA:Rd w A (nums .i64 sz)) (hc:sz.length ≤ c) (hm:c ≤ 9223372036854775807) (h:RightSz sz) :
    Calls Tryz.prog 43 #[.slice A sz.length c] w fun e w' => Below w.heap.size w w' ∧ ((1048576 < cntN sz (sz.length - 1) ∧ e = .returned (.tuple #[.pointer none,.int .i64 4])) ∨
      (cntN sz (sz.length - 1) ≤ 1048576 ∧ ∃ b,e = .returned (.tuple #[.pointer (some ⟨b,0,none⟩),.int .i64 0]) ∧ ShapeAt 186 (topW w.heap.size w') b sz ∧ w.heap.size ≤ b)):=by
  obtain ⟨b,o,rfl,_⟩:=hA.num (show 0 < sz.length by have:=h.1.1;omega)
  have hct:=contains_no (some ⟨b,o,none⟩) sz c w hA (by have:=h.1.2;omega) h.2
  have hcl:=iclone_any (some ⟨b,o,none⟩) sz c w hA (by have:=h.1.2;omega)
  obtain ⟨n,hn⟩:∃ n,sz.length = n:=⟨_,rfl⟩
  obtain ⟨h1,h2⟩:=h.1
  rw [hn] at h1 h2 hct hcl hc ⊢
  have hc1:¬ (c = 1):=by omega
  have hc2:1 ≤ c:=by omega
  have Hct:=Lib.hid hct;have Hcl:=Lib.hid hcl;have HAz:=Lib.hid hA;have HR:=Lib.hid h;have Hn:=Lib.hid hn
  clear hct hcl hA h hn
  go_enter Tryz.func43,Tryz.ntmps43
  go_wp2_with fail
  refine Hct.out.mono ?_
  rintro e w' ⟨rfl,rfl⟩
  go_wp2_with fail
  refine Hcl.out.mono ?_
  rintro e w1 ⟨v,rfl,hown,hb⟩
  obtain ⟨Ac,cc,rfl,hcc⟩:=own_form hown
  have Hown:=Lib.hid hown;have Hb:=Lib.hid hb;have Hcc:=Lib.hid hcc;clear hown hb hcc
  go_wp2_with fail
  go_loopw [30] (fun i wr => ∃ k:Nat,k ≤ n - 1 ∧ i = .int .i64 k ∧ NewI sz (.slice Ac n cc) (w1.heap.size + 1) w1.heap.size k w1 wr) (fun i _ => n - (intOf i).toNat)
  case atStart =>
    refine ⟨0,Nat.zero_le _,rfl,none,0,none,0,?_,?_,World.ownsRow_nil _ _ _ _,World.ownsRow_nil _ _ _ _,(fun i hi => by cases hi),?_⟩
    · have:=heap_alloc_new (w1.alloc (.cells #[.slice Ac n cc,.slice none 0 0,.slice none 0 0,.int .i64 0] 186)) (.cells #[.pointer (some ⟨w1.heap.size,0,none⟩)] 109)
      simpa using this
    · exact (Below.heap_alloc _ _ _ (by simp)).trans (heap_alloc_new w1 _)
    · (focus (repeat' (first | (with_reducible exact Below.refl _ _) | (with_reducible assumption) | (with_reducible refine Below.setCell ?_ ?_ _) | (with_reducible refine Below.alloc ?_ ?_ _) | (with_reducible refine below_drewN ?_ _) | (with_reducible refine Below.drew ?_) | (with_reducible exact Nat.le_refl _) | omega | (simp;done) | (simp;omega))))
  case round =>
    obtain ⟨k,hk,rfl,A1,c1,A2,c2,hP,hS,ho1,ho2,hne,hW⟩:=hrel
    have hkn:k < sz.length:=by rw [Hn.out];omega
    have hcN:=HR.out.bound hkn
    obtain ⟨x0,xf⟩:=bx1 hP
    obtain ⟨⟨s0,s1,s2,s3⟩,sf⟩:=bx4 hS
    have hPl:=lt_of_block hP
    have hSl:=lt_of_block hS
    have HP:=Lib.hid hP;have HS:=Lib.hid hS;have HO1:=Lib.hid ho1;have HO2:=Lib.hid ho2;have HN:=Lib.hid hne;have HW:=Lib.hid hW;clear hP hS ho1 ho2 hne hW
    by_cases hlt:k < n - 1
    · have hkn1:k + 1 < sz.length:=by rw [Hn.out];omega
      have hmul:=HR.out.mul hkn1
      have z0:=HR.out.at hkn
      have z1:=HR.out.at hkn1
      obtain ⟨_,_,e',p0⟩:=HAz.out.num hkn
      injection e' with e';injection e' with e1 e2 _;subst e1;subst e2
      obtain ⟨_,_,e',p1⟩:=HAz.out.num hkn1
      injection e' with e';injection e' with e1 e2 _;subst e1;subst e2
      have hb0:b < w.heap.size:=lt_of_cell p0
      have hbw1:b < w1.heap.size:=by have:=Hb.out.size;omega
      have p0r:=((Hb.out.trans (HW.out.mono Hb.out.size)).cell (p:=⟨b,o + k,none⟩) hb0).trans p0
      have p1r:=((Hb.out.trans (HW.out.mono Hb.out.size)).cell (p:=⟨b,o + (k + 1),none⟩) hb0).trans p1
      rw [z0.2.2] at p0r
      rw [z1.2.2,show o + (k + 1) = o + 1 + k by omega] at p1r
      have hmid:midN sz k = cntN sz k + szN sz (k + 1) * szN sz k:=rfl
      obtain ⟨p,hp⟩:∃ p,szN sz (k + 1) * szN sz k = p:=⟨_,rfl⟩
      rw [hp] at hmul hmid
      have hnx:=fun W (h1:W.heap[w1.heap.size + 1]? = _) (h2:W.heap[w1.heap.size]? = _) => next_any p (cntN sz k) (w1.heap.size + 1) w1.heap.size (.slice Ac n cc) (.slice A1 k c1) (.slice A2 k c2) W h1 h2 hcN (by omega)
      rw [← hmid] at hnx
      have hpr:(szN sz (k + 1):Int) * (szN sz k:Int) = (p:Int):=by rw [← Int.natCast_mul,hp]
      have hpw:IntKind.i64.wrap (p:Int) = (p:Int):=IntWalk.i64_in _ (by omega)
      have Hnx:=Lib.hid hnx;have Hmid:=Lib.hid hmid;clear hnx p0 p1 z0 z1 hmid
      have hki:(k:Int) < n:=by omega
      go_wp2_with fail
      have hSw:(fun w':World => w'.cell? ⟨w1.heap.size + 1,0,none⟩ = some (.pointer (some ⟨w1.heap.size,0,none⟩)) ∧ w'.cell? ⟨w1.heap.size,1,none⟩ = some (.slice A1 k c1) ∧ w'.cell? ⟨b,o + k,none⟩ = some (.int .i64 (szN sz k))) wr.drew:=⟨x0,s1,p0r⟩
      refine XA.g 15 (fun w':World => w'.cell? ⟨w1.heap.size + 1,0,none⟩ = some (.pointer (some ⟨w1.heap.size,0,none⟩)) ∧ w'.cell? ⟨w1.heap.size,1,none⟩ = some (.slice A1 k c1) ∧ w'.cell? ⟨b,o + k,none⟩ = some (.int .i64 (szN sz k))) ?_
      refine XA.t ?_ [0,1,2,3,4,5,6,7,8,9,10,11] hSw ?_
      refine XA.o 12 (fun K hK => ?_)
      go_simp
      refine (Hnx.out wr.drew HP.out HS.out).mono ?_
      rintro e w3 ⟨rfl,hS3,hK3⟩
      have g0:=hK3.cell (p:=⟨w1.heap.size + 1,0,none⟩) x0 (by simp)
      have g1:=cell_of_row w3 _ 1 _ _ _ hS3
      have g2:=hK3.cell (p:=⟨b,o + k,none⟩) p0r (by simp;omega)
      have l0:w1.heap.size + 1 < w3.heap.size:=lt_of_cell g0
      have l1:w1.heap.size < w3.heap.size:=lt_of_cell g1
      have l2:b < w3.heap.size:=lt_of_cell g2
      have HS3:=Lib.hid hS3;have HK3:=Lib.hid hK3;clear hS3 hK3
      dsimp only
      refine hK.out _ _ ⟨g0,g1,g2⟩ (fun hSw => ?_)
      clear hK K
      refine XA.o 13 (fun K hK => ?_)
      go_simp
      refine hK.out _ _ ⟨cell_alloc g0 _,cell_alloc g1 _,cell_alloc g2 _⟩ (fun hSw => ?_)
      clear hK K
      have hO3:=HK3.out.own (own_drewN HO1.out 1) (fun i hi e => block_notrow HS.out (by decide) HO1.out (by rw [hi,e]))
      have hP3:=(HK3.out.block _ (lt_of_block HP.out) (by omega)).trans HP.out
      have HO3:=Lib.hid hO3;have HP3:=Lib.hid hP3;clear hO3 hP3
      refine XA.o 14 (fun K hK => ?_)
      refine step_appX et_rngs (.tmp 39) (.tmp 48) rfl rfl w1.heap.size (.slice A1 k c1) k (wVals sz k) rfl (HO3.out.alloc _) (some ⟨w3.heap.size,0,none⟩) 1 1 [.int .i64 (cntN sz k:Int),.int .i64 (midN sz k:Int)] rfl (rd_newN w3 _ _ _ rfl) rfl (by simp [Value.oneCell']) (by omega) (by unfold maxLen;omega) (by simp;omega) ?_
      intro A4 c4 w4 ho4 hb4 hg4 hv4
      have hP4:=block_grown HP3.out (by decide) HO3.out hg4
      have hS4:=block_grown HS3.out (by decide) HO3.out hg4
      have i0:=cell_of_row w4 _ 0 _ _ _ hP4
      have i1:=cell_of_row w4 _ 1 _ _ _ hS4
      have i2:=cell_grown g2 hbw1 HO3.out hg4
      have i3:=frozen_of_row w4 _ 1 _ _ hS4
      have HO4:=Lib.hid ho4;have HP4:=Lib.hid hP4;have HS4:=Lib.hid hS4;have Hg4:=Lib.hid hg4;have Hv4:=Lib.hid hv4;have Hb4:=Lib.hid hb4;clear ho4 hP4 hS4 hg4 hv4 hb4
      dsimp only
      refine hK.out _ _ ⟨i0,i1,i2⟩ (fun hSw => ?_)
      clear hK K hSw
      refine XA.e ?_
      simp only [List.drop_succ_cons,List.drop_zero]
      go_wp2_with fail
      obtain ⟨h2o,h2n⟩:=own_other (HK3.out.own (own_drewN HO2.out 1) (fun i hi e => block_notrow HS.out (by decide) HO2.out (by rw [hi,e]))) HN.out Hg4.out Hv4.out
      have hP5:=(Below.heap_setCell w4 ⟨w1.heap.size,1,none⟩ (.slice A4 (k + 1) c4) (w1.heap.size + 1) (by simp)).trans HP4.out
      have hS5:=heap_setCell_same w4 w1.heap.size 1 _ _ (.slice A4 (k + 1) c4) HS4.out
      have hk5:Keep (fun i => i = w1.heap.size) w4 (w4.setCell ⟨w1.heap.size,1,none⟩ (.slice A4 (k + 1) c4)):=Keep.setCell (S:=fun i => i = w1.heap.size) (Keep.refl _ _) ⟨w1.heap.size,1,none⟩ (.inr rfl) _
      have ho5:=hk5.own HO4.out (fun i hi e => block_notrow HS4.out (by decide) HO4.out (by rw [hi,e]))
      have ho25:=hk5.own h2o (fun i hi e => block_notrow HS4.out (by decide) h2o (by rw [hi,e]))
      have hW5:Below w1.heap.size w1 (w4.setCell ⟨w1.heap.size,1,none⟩ (.slice A4 (k + 1) c4)):=
        ((HW.out.drew.trans ((HK3.out.toBelow (B:=w1.heap.size) (by simp;omega) (fun i hi => by omega)))).trans ((((Below.refl _ w3).alloc (by omega) _)).trans Hb4.out)).setCell (by simp) _
      rw [← wVals_succ] at ho5
      obtain ⟨w5,hw5⟩:∃ w5,w5 = w4.setCell ⟨w1.heap.size,1,none⟩ (.slice A4 (k + 1) c4):=⟨_,rfl⟩
      rw [← hw5] at hP5 hS5 ho5 ho25 hW5 ⊢
      clear hw5 hk5 h2o i0 i1 i2 i3 g0 g1 g2 l0 l1 l2 x0 xf s0 s1 s2 s3 sf
      obtain ⟨x0,xf⟩:=bx1 hP5
      have y2:=cell_of_row w5 _ 2 _ _ _ hS5
      have hm2:=midN_eq sz k
      have z1:=(HR.out.at hkn1).2.1
      have hcN1:=HR.out.bound hkn1
      have hnx:=fun W (h1:W.heap[w1.heap.size + 1]? = _) (h2:W.heap[w1.heap.size]? = _) => next_any (szN sz (k + 1)) (midN sz k) (w1.heap.size + 1) w1.heap.size (.slice Ac n cc) (.slice A4 (k + 1) c4) (.slice A2 k c2) W h1 h2 (by omega) (by omega)
      rw [hm2] at hnx
      have hPl:=lt_of_block hP5
      have hSl:=lt_of_block hS5
      have Hn5:=Lib.hid hnx;have HP5:=Lib.hid hP5;have HS5:=Lib.hid hS5;have HO5:=Lib.hid ho5;have HO25:=Lib.hid ho25;have HN5:=Lib.hid h2n;have HW5:=Lib.hid hW5;have Hm2:=Lib.hid hm2
      clear hnx hP5 hS5 ho5 ho25 h2n hW5 hm2 Hnx HK3 HS3 HO3 HP3 HO4 HP4 HS4 Hg4 Hv4 Hb4 hpr hpw
      go_wp2_with fail
      have hSw:(fun w':World => w'.cell? ⟨w1.heap.size + 1,0,none⟩ = some (.pointer (some ⟨w1.heap.size,0,none⟩)) ∧ w'.cell? ⟨w1.heap.size,2,none⟩ = some (.slice A2 k c2)) w5.drew:=⟨x0,y2⟩
      refine XA.g 10 (fun w':World => w'.cell? ⟨w1.heap.size + 1,0,none⟩ = some (.pointer (some ⟨w1.heap.size,0,none⟩)) ∧ w'.cell? ⟨w1.heap.size,2,none⟩ = some (.slice A2 k c2)) ?_
      refine XA.t ?_ [0,1,2,3,4,5,6] hSw ?_
      refine XA.o 7 (fun K hK => ?_)
      go_simp
      refine (Hn5.out w5.drew HP5.out HS5.out).mono ?_
      rintro e w6 ⟨rfl,hS6,hK6⟩
      have g0:=hK6.cell (p:=⟨w1.heap.size + 1,0,none⟩) x0 (by simp)
      have g1:=cell_of_row w6 _ 2 _ _ _ hS6
      have l0:w1.heap.size + 1 < w6.heap.size:=lt_of_cell g0
      have HS6:=Lib.hid hS6;have HK6:=Lib.hid hK6;clear hS6 hK6
      dsimp only
      refine hK.out _ _ ⟨g0,g1⟩ (fun hSw => ?_)
      clear hK K
      refine XA.o 8 (fun K hK => ?_)
      go_simp
      refine hK.out _ _ ⟨cell_alloc g0 _,cell_alloc g1 _⟩ (fun hSw => ?_)
      clear hK K
      have hO6:=HK6.out.own (own_drewN HO25.out 1) (fun i hi e => block_notrow HS5.out (by decide) HO25.out (by rw [hi,e]))
      have hP6:=(HK6.out.block _ (lt_of_block HP5.out) (by omega)).trans HP5.out
      have HO6:=Lib.hid hO6;have HP6:=Lib.hid hP6;clear hO6 hP6
      refine XA.o 9 (fun K hK => ?_)
      refine step_appX et_rngs (.tmp 56) (.tmp 60) rfl rfl w1.heap.size (.slice A2 k c2) k (bVals sz k) rfl (HO6.out.alloc _) (some ⟨w6.heap.size,0,none⟩) 1 1 [.int .i64 (midN sz k:Int),.int .i64 (cntN sz (k + 1):Int)] rfl (rd_newN w6 _ _ _ rfl) rfl (by simp [Value.oneCell']) (by omega) (by unfold maxLen;omega) (by simp;omega) ?_
      intro A7 c7 w7 ho7 hb7 hg7 hv7
      have hP7:=block_grown HP6.out (by decide) HO6.out hg7
      have hS7:=block_grown HS6.out (by decide) HO6.out hg7
      have i0:=cell_of_row w7 _ 0 _ _ _ hP7
      have i1:=cell_of_row w7 _ 2 _ _ _ hS7
      have i3:=frozen_of_row w7 _ 2 _ _ hS7
      have HO7:=Lib.hid ho7;have HP7:=Lib.hid hP7;have HS7:=Lib.hid hS7;have Hg7:=Lib.hid hg7;have Hv7:=Lib.hid hv7;have Hb7:=Lib.hid hb7;clear ho7 hP7 hS7 hg7 hv7 hb7
      dsimp only
      refine hK.out _ _ ⟨i0,i1⟩ (fun hSw => ?_)
      clear hK K hSw
      refine XA.e ?_
      simp only [List.drop_succ_cons,List.drop_zero]
      go_wp2_with fail
      obtain ⟨h2o,h2n⟩:=own_other (HK6.out.own (own_drewN HO5.out 1) (fun i hi e => block_notrow HS5.out (by decide) HO5.out (by rw [hi,e]))) (fun i hi e => HN5.out i e hi) Hg7.out Hv7.out
      have hP8:=(Below.heap_setCell w7 ⟨w1.heap.size,2,none⟩ (.slice A7 (k + 1) c7) (w1.heap.size + 1) (by simp)).trans HP7.out
      have hS8:=heap_setCell_same w7 w1.heap.size 2 _ _ (.slice A7 (k + 1) c7) HS7.out
      have hk8:Keep (fun i => i = w1.heap.size) w7 (w7.setCell ⟨w1.heap.size,2,none⟩ (.slice A7 (k + 1) c7)):=Keep.setCell (S:=fun i => i = w1.heap.size) (Keep.refl _ _) ⟨w1.heap.size,2,none⟩ (.inr rfl) _
      have ho8:=hk8.own HO7.out (fun i hi e => block_notrow HS7.out (by decide) HO7.out (by rw [hi,e]))
      have ho28:=hk8.own h2o (fun i hi e => block_notrow HS7.out (by decide) h2o (by rw [hi,e]))
      have hW8:Below w1.heap.size w1 (w7.setCell ⟨w1.heap.size,2,none⟩ (.slice A7 (k + 1) c7)):=
        ((HW5.out.drew.trans ((HK6.out.toBelow (B:=w1.heap.size) (by simp;omega) (fun i hi => by omega)))).trans ((((Below.refl _ w6).alloc (by omega) _)).trans Hb7.out)).setCell (by simp) _
      rw [← bVals_succ] at ho8
      go_roundw
      case rel => exact ⟨k + 1,by omega,by go_num,A4,c4,A7,c7,hP8,hS8,ho28,ho8,fun i hi e => h2n i e hi,hW8⟩
      case measure => simp [intOf];omega
    · obtain rfl:k = n - 1:=by omega
      have hlen:sz.length - 1 = n - 1:=by rw [Hn.out]
      have hsh:ShapeAt 186 (topW w.heap.size wr) w1.heap.size sz:=by
        have hz1:=Hb.out.size
        refine ⟨Ac,cc,A1,c1,A2,c2,?_,?_,?_,?_⟩
        · rw [Hn.out,top_blk hz1];exact HS.out
        · exact Rd.own (own_top (own_below Hown.out HW.out) (Nat.le_refl _))
        · rw [hlen];exact Rd.own (own_top HO1.out (by omega))
        · rw [hlen];exact Rd.own (own_top HO2.out (by omega))
      have hBel:Below w.heap.size w wr:=Hb.out.trans (HW.out.mono Hb.out.size)
      have Hsh:=Lib.hid hsh;have HBel:=Lib.hid hBel;have Hsz:=Lib.hid Hb.out.size;clear hsh hBel hlen
      by_cases hbig:1048576 < cntN sz (n - 1)
      · have hbi:(1048576:Int) < cntN sz (n - 1):=by omega
        go_wp2_with fail
        go_ret2
        exact ⟨HBel.out,.inl ⟨hbig,rfl⟩⟩
      · have hbi:¬ (1048576:Int) < cntN sz (n - 1):=by omega
        go_wp2_with fail
        go_ret2
        first | exact ⟨HBel.out,by omega,_,rfl,Hsh.out,Hsz.out⟩ | exact ⟨HBel.out,.inr ⟨by omega,_,rfl,Hsh.out,Hsz.out⟩⟩
end Go.Proofs.YtaccfnffmbndhaaGreat
namespace Go.Proofs.YtaccfnffmbndhaaGreat
open Go.RowKit
theorem count_any (n size:Nat) (w:World) (hn:n ≤ 1048576) (hs:1 ≤ size) (hs2:size ≤ 1048576) :
    Calls Tryz.prog 98 #[.int .i64 n,.int .i64 size] w fun e w' => e = .returned (.int .i64 (cntQ n size:Int)) ∧ w = w':=by
  have hq:¬ ((size:Int) < 1):=by omega
  by_cases h0:n = 0
  · subst h0
    go_enter Tryz.func98,Tryz.ntmps98
    go_wp2
    go_ret
    exact ⟨rfl,rfl⟩
  · have hq2:¬ ((n:Int) < 1):=by omega
    have hq3:(0:Int) ≤ (n:Int) - 1:=by omega
    have he:=ediv_pred n size (by omega)
    have hle:=Nat.div_le_self (n - 1) size
    have hc:cntQ n size = (n - 1) / size + 1:=by unfold cntQ;rw [if_neg h0]
    rw [hc]
    obtain ⟨y,hy⟩:∃ y,(n - 1) / size = y:=⟨_,rfl⟩
    rw [hy] at he hle ⊢
    have htd:((n:Int) - 1).tdiv size = y:=by rw [Int.tdiv_eq_ediv_of_nonneg hq3,he]
    have Hy:=Lib.hid hy;have Hc:=Lib.hid hc;clear hy hc h0
    go_enter Tryz.func98,Tryz.ntmps98
    go_wp2
    go_ret
    exact ⟨rfl,rfl⟩
set_option maxHeartbeats 800000 in
theorem blocks_any (n size:Nat) (w:World) (hn:n ≤ 1048576) (hs:1 ≤ size) (hs2:size ≤ 1048576) :
    Calls Tryz.prog 94 #[.int .i64 n,.int .i64 size] w fun e w' => ∃ v,e = .returned v ∧ w'.ownsRow w.heap.size 52 2 v (cntQ n size) (blkVals n size (cntQ n size)) ∧ Below w.heap.size w w':=by
  have hco:=count_any n size w hn hs hs2
  have hle:=cntQ_le n size
  have hlt':=fun k (h:k < cntQ n size) => cntQ_lt h
  obtain ⟨m,hm⟩:∃ m,cntQ n size = m:=⟨_,rfl⟩
  rw [hm] at hco hle hlt' ⊢
  have Hco:=Lib.hid hco;have Hlt:=Lib.hid hlt';clear hco hm hlt'
  go_enter Tryz.func94,Tryz.ntmps94
  go_wp2_with fail
  refine Hco.out.mono ?_
  rintro e w' ⟨rfl,rfl⟩
  go_wp2_with fail
  go_loopw [5,11] (fun v x wr => ∃ k:Nat,k ≤ m ∧ x = .int .i64 k ∧ wr.ownsRow w.heap.size 52 2 v k (blkVals n size k) ∧ Below w.heap.size w wr) (fun _ x _ => m - (intOf x).toNat)
  case atStart => exact ⟨0,Nat.zero_le _,rfl,World.ownsRow_nil _ _ _ _,Below.refl _ _⟩
  case round =>
    obtain ⟨k,hk,rfl,hown,hb⟩:=hrel
    by_cases hlt:k < m
    · have hlo:=Hlt.out k hlt
      obtain ⟨y,hy⟩:∃ y,k * size = y:=⟨_,rfl⟩
      rw [hy] at hlo
      have hmul:(k:Int) * (size:Int) = (y:Int):=by rw [← hy];push_cast;rfl
      obtain ⟨Al,cl,rfl,_⟩:=own_form hown
      have Hy:=Lib.hid hy;have Hown:=Lib.hid hown;have Hb:=Lib.hid hb;clear hown hb hy
      by_cases hsz:(size:Int) ≤ (n:Int) - y
      · have hsz2:(y:Int) + size ≤ n:=by omega
        go_wp2_with (at_builtin;refine wpList_push et_rngs _ rfl (.tmp 17) (.tmp 27) rfl w.heap.size (.slice Al k cl) k _ rfl Hown.out [.int .i64 (y:Int),.int .i64 ((y:Int) + size)] rfl rfl (nums_cell .i64 [_,_]) (by omega) (by unfold maxLen;omega) Hb.out.size ?_)
        intro g6 c6 w6 ho6 hb6 hg6
        have HO6:=Lib.hid ho6;have HB6:=Lib.hid (Hb.out.trans hb6)
        clear ho6 hb6 hg6
        go_wp2_with fail
        go_roundw
        case rel =>
          refine ⟨k + 1,by omega,by go_num,?_,HB6.out⟩
          rw [blkVals_succ,Hy.out,show ((min (y + size) n:Nat):Int) = (y:Int) + size by omega]
          exact HO6.out
        case measure => simp [intOf];omega
      · have hsz2:(n:Int) - y < size:=by omega
        go_wp2_with (at_builtin;refine wpList_push et_rngs _ rfl (.tmp 17) (.tmp 27) rfl w.heap.size (.slice Al k cl) k _ rfl Hown.out [.int .i64 (y:Int),.int .i64 ((y:Int) + ((n:Int) - y))] rfl rfl (nums_cell .i64 [_,_]) (by omega) (by unfold maxLen;omega) Hb.out.size ?_)
        intro g6 c6 w6 ho6 hb6 hg6
        have HO6:=Lib.hid ho6;have HB6:=Lib.hid (Hb.out.trans hb6)
        clear ho6 hb6 hg6
        go_wp2_with fail
        go_roundw
        case rel =>
          refine ⟨k + 1,by omega,by go_num,?_,HB6.out⟩
          rw [blkVals_succ,Hy.out,show ((min (y + size) n:Nat):Int) = (y:Int) + ((n:Int) - y) by omega]
          exact HO6.out
        case measure => simp [intOf];omega
    · obtain rfl:m = k:=by omega
      have Hown:=Lib.hid hown;have Hb:=Lib.hid hb;clear hown hb
      go_wp2_with fail
      go_ret
      exact ⟨_,rfl,Hown.out,Hb.out⟩
end Go.Proofs.YtaccfnffmbndhaaGreat
