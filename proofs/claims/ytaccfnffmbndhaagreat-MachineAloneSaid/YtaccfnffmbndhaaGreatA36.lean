/- States turned back. The reference's SameAll. The law's comparison of a machine with the reference's. Do of no machine and of one that has ended; the example of the chapter. mat.New. No condition. -/
import Derived.Test.YtaccfnffmbndhaaGreatA35
import Derived.Test.YtaccfnffmbndhaaGreatA03
import Derived.Test.YtaccfnffmbndhaaGreatA30
import Derived.Deep.RegionHeld3
import Derived.Test.YtaccfnffmbndhaaGreatA07
set_option linter.unusedSimpArgs false
set_option linter.unusedVariables false
namespace Go.Proofs.YtaccfnffmbndhaaGreat
open Go.RowKit
def BackS (w wr:World) (l:List Ex) (k:Nat) (v:Value):Prop:=∃ rows,wr.ownsRow w.heap.size 39 2 v k (List.flatten rows) ∧ rows.length = k ∧ (∀ r ∈ rows,r.length = 2) ∧ (∀ j x,j < k → l[j]? = some x → rEx w (rowOf rows j) x) ∧ Below w.heap.size w wr
theorem BackS.push {w w3 w6:World} {l:List Ex} {k:Nat} {v' u1 u2:Value} {x:Ex} {rows:List (List Value)} (h2:rows.length = k) (h3:∀ r ∈ rows,r.length = 2) (h4:∀ j x,j < k → l[j]? = some x → rEx w (rowOf rows j) x) (h5:Below w.heap.size w w3)
    (hx:l[k]? = some x) (hu:rEx w [u1,u2] x) (ho:w6.ownsRow w.heap.size 39 2 v' (k + 1) (List.flatten rows ++ [u1,u2])) (hb:Below w.heap.size w3 w6):BackS w w6 l (k + 1) v':=by
  refine ⟨rows ++ [[u1,u2]],by rw [List.flatten_append,List.flatten_cons,List.flatten_nil,List.append_nil];exact ho,by simp [h2],?_,?_,h5.trans hb⟩
  · intro r hr
    rcases List.mem_append.1 hr with hr | hr
    · exact h3 r hr
    · rw [List.mem_singleton.1 hr];rfl
  · intro j y hj hy
    rcases Nat.lt_or_ge j k with h | h
    · have e:rowOf (rows ++ [[u1,u2]]) j = rowOf rows j:=by simp [rowOf,List.getElem?_append_left (show j < rows.length by omega)]
      rw [e];exact h4 j y h hy
    · obtain rfl:j = k:=by omega
      rw [hx] at hy;injection hy with hy;subst hy
      have e:rowOf (rows ++ [[u1,u2]]) j = [u1,u2]:=by rw [← h2];simp [rowOf]
      rw [e];exact hu
theorem BackS.rd {w wr:World} {l:List Ex} {n c:Nat} {A:Option Addr} (h:BackS w wr l n (.slice A n c)) (hn:l.length = n):SlRd rEx 2 wr A l:=by
  obtain ⟨rows,h1,h2,h3,h4,h5⟩:=h
  exact ⟨rows,Rd.own h1,by omega,h3,fun j x hx => stays_ex h5 (h4 j x (by rw [← hn];exact (List.getElem?_eq_some_iff.1 hx).1) hx)⟩
set_option maxRecDepth 100000 in
set_option maxHeartbeats 1000000 in
theorem backs_any (A:Option Addr) (l:List Ex) (c:Nat) (w:World) (h:SlRd rEx 2 w A l) (hl:l.length ≤ 1048577) :
    Calls Tryz.prog 30 #[.slice A l.length c] w fun e w' => ∃ A' c',e = .returned (.slice A' l.length c') ∧ SlRd rEx 2 w' A' l ∧ Below w.heap.size w w':=by
  obtain ⟨n,hn⟩:∃ n,l.length = n:=⟨_,rfl⟩
  rw [hn] at hl ⊢
  have H:=Lib.hid h;have Hn:=Lib.hid hn;clear h hn
  go_enter Tryz.func30,Tryz.ntmps30
  go_wp2_with fail
  go_loopw [3,8] (fun v i wr => ∃ k:Nat,k ≤ n ∧ i = .int .i64 k ∧ BackS w wr l k v) (fun _ i _ => n - (intOf i).toNat)
  case atStart => exact ⟨0,Nat.zero_le _,rfl,[],World.ownsRow_nil _ _ _ _,rfl,by simp,fun j x hj => by omega,Below.refl _ _⟩
  case round =>
    obtain ⟨k,hk,rfl,rows,h1,h2,h3,h4,h5⟩:=hrel
    obtain ⟨Al,cl,rfl,_⟩:=own_form h1
    have R1:=Lib.hid h1;have R2:=Lib.hid h2;have R3:=Lib.hid h3;have R4:=Lib.hid h4;have R5:=Lib.hid h5
    have hrs:=h5.size
    clear h1 h2 h3 h4 h5
    by_cases hlt:k < n
    · have hlti:(k:Int) < n:=by omega
      obtain ⟨x,hx⟩:∃ x,l[k]? = some x:=⟨_,List.getElem?_eq_getElem (by rw [Hn.out];exact hlt)⟩
      obtain ⟨b,o,A1,c1,A2,c2,rfl,hbl,p1,p2,r1,r2⟩:=ex_cells H.out hx
      have q1:=(R5.out.cell (p:=⟨b,o + k * 2,none⟩) hbl).trans p1
      have q2:=(R5.out.cell (p:=⟨b,o + k * 2 + 1,none⟩) hbl).trans p2
      have hu:rEx w [.slice A1 x.1.length c1,.slice A2 x.2.length c2] x:=⟨_,_,_,_,rfl,r1,r2⟩
      obtain ⟨n1,hn1⟩:∃ n1,x.1.length = n1:=⟨_,rfl⟩
      obtain ⟨n2,hn2⟩:∃ n2,x.2.length = n2:=⟨_,rfl⟩
      rw [hn1,hn2] at hu
      rw [hn1] at q1
      rw [hn2] at q2
      have Hu:=Lib.hid hu;have Hx:=Lib.hid hx
      have hbw:b < wr.heap.size:=Nat.lt_of_lt_of_le hbl hrs
      clear hu hx hn1 hn2 r1 r2 p1 p2
      go_wp2_with fail
      refine (back_any A1 A2 n1 c1 n2 c2 _).mono ?_
      rintro e w3 ⟨rfl,hb3⟩
      have hb3':Below w.heap.size w w3:=(R5.out.alloc hrs _).trans (hb3.mono (by simp;omega))
      have ho3:=own_below (R1.out.alloc _) hb3
      have hz3:=hb3'.size
      have HB3:=Lib.hid hb3';have HO3:=Lib.hid ho3
      clear hb3 hb3' ho3 q1 q2
      go_wp2_with (at_builtin;refine wpList_push et_rsts _ rfl (.tmp 12) (.tmp 15) rfl w.heap.size (.slice Al k cl) k _ rfl HO3.out [.slice A1 n1 c1,.slice A2 n2 c2] rfl rfl (by simp [Value.oneCell']) (by omega) (by unfold maxLen;omega) hz3 ?_)
      intro g6 c6 w6 ho6 hb6 hg6
      have hM6:=BackS.push R2.out R3.out R4.out HB3.out Hx.out Hu.out ho6 hb6
      have HM6:=Lib.hid hM6
      clear ho6 hb6 hg6 hM6
      go_wp2_with fail
      go_roundw
      case rel => exact ⟨k + 1,hlt,by go_num,HM6.out⟩
      case measure => exact nx_m2 hlt
    · obtain rfl:n = k:=by omega
      have hfin:SlRd rEx 2 wr Al l:=BackS.rd ⟨rows,R1.out,R2.out,R3.out,R4.out,R5.out⟩ Hn.out
      have HF:=Lib.hid hfin;clear hfin
      go_wp2_with fail
      go_ret
      exact ⟨_,_,rfl,HF.out,R5.out⟩
end Go.Proofs.YtaccfnffmbndhaaGreat
namespace Go.Proofs.YtaccfnffmbndhaaGreat
open Go.RowKit
set_option maxRecDepth 100000 in
set_option maxHeartbeats 1000000 in
theorem stall_any (A1 A2:Option Addr) (l1 l2:List Ex) (c1 c2:Nat) (w:World) (h1:SlRd rEx 2 w A1 l1) (h2:SlRd rEx 2 w A2 l2) (hl1:l1.length ≤ 1048577) (hl2:l2.length ≤ 1048577) :
    Calls Tryz.prog 29 #[.slice A1 l1.length c1,.slice A2 l2.length c2] w fun e w' => e = .returned (.bool (decide (l1 = l2))) ∧ Below w.heap.size w w':=by
  obtain ⟨n,hn⟩:∃ n,l1.length = n:=⟨_,rfl⟩
  obtain ⟨m,hm⟩:∃ m,l2.length = m:=⟨_,rfl⟩
  obtain ⟨b,hb⟩:∃ b,decide (l1 = l2) = b:=⟨_,rfl⟩
  rw [hn] at hl1 ⊢
  rw [hm] at hl2 ⊢
  rw [hb]
  have H1:=Lib.hid h1;have H2:=Lib.hid h2;have Hn:=Lib.hid hn;have Hm:=Lib.hid hm;have Hb:=Lib.hid hb
  clear h1 h2 hn hm hb
  by_cases hnm:n ≠ m
  · have hq:((n:Int) != (m:Int)) = true:=by rw [bne_iff_ne];omega
    have hbf:b = false:=by
      rw [← Hb.out];refine decide_eq_false fun e => hnm ?_
      rw [← Hn.out,← Hm.out,e]
    go_enter Tryz.func29,Tryz.ntmps29
    go_wp2_with fail
    go_ret
    exact ⟨by rw [hbf];rfl,Below.refl _ _⟩
  obtain rfl:n = m:=by omega
  clear hnm
  go_enter Tryz.func29,Tryz.ntmps29
  go_wp2_with fail
  go_loopw [5] (fun i wr => ∃ k:Nat,k ≤ n ∧ i = .int .i64 k ∧ Hid (∀ j,j < k → l1[j]? = l2[j]?) ∧ Below w.heap.size w wr) (fun i _ => n - (intOf i).toNat)
  case atStart => exact ⟨0,Nat.zero_le _,rfl,Lib.hid fun j hj => by omega,Below.refl _ _⟩
  case round =>
    obtain ⟨k,hk,rfl,Hall,hbw⟩:=hrel
    have HB:=Lib.hid hbw;clear hbw
    by_cases hlt:k < n
    · have hlti:(k:Int) < n:=by omega
      obtain ⟨x,hx⟩:∃ x,l1[k]? = some x:=⟨_,List.getElem?_eq_getElem (by rw [Hn.out];exact hlt)⟩
      obtain ⟨y,hy⟩:∃ y,l2[k]? = some y:=⟨_,List.getElem?_eq_getElem (by rw [Hm.out];exact hlt)⟩
      have g1:SlRd rEx 2 wr A1 l1:=H1.out.below stays_ex HB.out
      have g2:SlRd rEx 2 wr A2 l2:=H2.out.below stays_ex HB.out
      obtain ⟨b1,o1,P1,d1,Q1,f1,rfl,hbl1,p1,p2,r1,r2⟩:=ex_cells g1 hx
      obtain ⟨b2,o2,P2,d2,Q2,f2,rfl,hbl2,q1,q2,s1,s2⟩:=ex_cells g2 hy
      have hcl:=fun w' (k:Below wr.heap.size wr w') => stsame_any P1 Q1 P2 Q2 x.1 x.2 y.1 y.2 d1 f1 d2 f2 w' (r1.below k) (r2.below k) (s1.below k) (s2.below k)
      obtain ⟨eq,heq⟩:∃ eq,(decide (x.1 = y.1) && decide (x.2 = y.2)) = eq:=⟨_,rfl⟩
      have hxy:eq = true ↔ x = y:=by
        rw [← heq,Bool.and_eq_true,decide_eq_true_eq,decide_eq_true_eq]
        exact ⟨fun h => Prod.ext h.1 h.2,fun h => by rw [h];exact ⟨rfl,rfl⟩⟩
      obtain ⟨n1,hn1⟩:∃ n,x.1.length = n:=⟨_,rfl⟩
      obtain ⟨n2,hn2⟩:∃ n,x.2.length = n:=⟨_,rfl⟩
      obtain ⟨m1,hm1⟩:∃ n,y.1.length = n:=⟨_,rfl⟩
      obtain ⟨m2,hm2⟩:∃ n,y.2.length = n:=⟨_,rfl⟩
      rw [heq,hn1,hn2,hm1,hm2] at hcl
      rw [hn1] at p1
      rw [hn2] at p2
      rw [hm1] at q1
      rw [hm2] at q2
      have Hcl:=Lib.hid hcl;have Hx:=Lib.hid hx;have Hy:=Lib.hid hy;have Hxy:=Lib.hid hxy
      clear hcl hx hy hxy heq hn1 hn2 hm1 hm2 g1 g2 r1 r2 s1 s2
      go_wp2_with fail
      have hSw:(fun w':World => w'.cell? ⟨b1,o1 + k * 2,none⟩ = some (.slice P1 n1 d1) ∧ w'.cell? ⟨b1,o1 + k * 2 + 1,none⟩ = some (.slice Q1 n2 f1) ∧ w'.cell? ⟨b2,o2 + k * 2,none⟩ = some (.slice P2 m1 d2) ∧ w'.cell? ⟨b2,o2 + k * 2 + 1,none⟩ = some (.slice Q2 m2 f2)) wr.drew:=⟨p1,p2,q1,q2⟩
      refine HA.g (fun w':World => w'.cell? ⟨b1,o1 + k * 2,none⟩ = some (.slice P1 n1 d1) ∧ w'.cell? ⟨b1,o1 + k * 2 + 1,none⟩ = some (.slice Q1 n2 f1) ∧ w'.cell? ⟨b2,o2 + k * 2,none⟩ = some (.slice P2 m1 d2) ∧ w'.cell? ⟨b2,o2 + k * 2 + 1,none⟩ = some (.slice Q2 m2 f2)) ?_
      refine HA.t ?_ [0,1,2,3,4,5,6,7] hSw ?_
      refine HA.o 8 (fun K hK => ?_)
      go_simp
      refine (Hcl.out _ ((Below.refl _ _).drew)).mono ?_
      rintro e w3 ⟨rfl,hb3⟩
      have hS3:=And.intro (cell_below hb3 hSw.1) (And.intro (cell_below hb3 hSw.2.1) (And.intro (cell_below hb3 hSw.2.2.1) (cell_below hb3 hSw.2.2.2)))
      have HB3:=Lib.hid (HB.out.trans (((Below.refl wr.heap.size wr).drew.trans hb3).mono HB.out.size))
      clear hb3 hSw
      dsimp only
      refine hK.out _ _ hS3 (fun hSw => ?_)
      clear hK K hS3
      refine HA.t ?_ [9] hSw ?_
      refine HA.d ?_
      clear hSw p1 p2 q1 q2
      rcases bool_ft eq with rfl | rfl
      · go_wp2_with fail
        go_ret
        have hbf:b = false:=by
          rw [← Hb.out];refine decide_eq_false fun e => ?_
          have h:=Hx.out;rw [e,Hy.out] at h;injection h with h
          have:=Hxy.out.2 h.symm;cases this
        exact ⟨by rw [hbf];rfl,HB3.out⟩
      · have Hxe:=Lib.hid (Hxy.out.1 rfl)
        go_wp2_with fail
        go_roundw
        case rel => exact ⟨k + 1,by omega,by go_num,Lib.hid (p:=∀ j,j < k + 1 → l1[j]? = l2[j]?) fun j hj => by
          rcases Nat.lt_or_ge j k with h | h
          · exact Hall.out j h
          · obtain rfl:j = k:=by omega
            rw [Hx.out,Hy.out,Hxe.out],HB3.out⟩
        case measure => simp [intOf];omega
    · obtain rfl:n = k:=by omega
      have hbt:b = true:=by
        rw [← Hb.out];refine decide_eq_true (List.ext_getElem? fun j => ?_)
        rcases Nat.lt_or_ge j n with h | h
        · exact Hall.out j h
        · rw [List.getElem?_eq_none (by rw [Hn.out];exact h),List.getElem?_eq_none (by rw [Hm.out];exact h)]
      go_wp2_with fail
      go_ret
      exact ⟨by rw [hbt];rfl,HB.out⟩
end Go.Proofs.YtaccfnffmbndhaaGreat
namespace Go.Proofs.YtaccfnffmbndhaaGreat
open Go.RowKit
def allocs (w:World):List Obj → World
  | [] => w
  | o :: l => allocs (w.alloc o) l
theorem allocs_below:∀ (l:List Obj) (w:World),Below w.heap.size w (allocs w l)
  | [],w => br w
  | o :: l,w => bt ((br w).alloc (Nat.le_refl _) o) (allocs_below l _)
theorem allocs_at:∀ (l:List Obj) (w:World) (k:Nat) {o:Obj},l[k]? = some o → (allocs w l).heap[w.heap.size + k]? = some o
  | [],_,_,_,h => by simp at h
  | o :: l,w,0,_,h => by
    simp only [List.getElem?_cons_zero,Option.some.injEq] at h
    subst h
    exact sb (heap_alloc_new w o) _ (allocs_below l _)
  | o :: l,w,k + 1,_,h => by
    have:=allocs_at l (w.alloc o) k (by simpa using h)
    rwa [show (w.alloc o).heap.size + k = w.heap.size + (k + 1) by rw [World.size_alloc];omega] at this
theorem it_form (y:Itm):∃ (k0 k1 k2:Int) (b0 b1:Bool) (i0 i1 i2 i3 i4 i5 i6:Int),itCells y = [.int .i64 k0,.int .i64 k1,.int .i64 k2,.bool b0,.bool b1,.int .i64 i0,.int .i64 i1,.int .i64 i2,.int .i64 i3,.int .i64 i4,.int .i64 i5,.int .i64 i6]:=by
  obtain ⟨k,s,n,a⟩:=y
  cases a with
  | none => exact ⟨_,_,_,_,_,_,_,_,_,_,_,_,rfl⟩
  | some a => exact ⟨_,_,_,_,_,_,_,_,_,_,_,_,rfl⟩
theorem rt_item:RowTy Tryz.prog 56 12:=⟨⟨_,Tryz.underlying56,rfl⟩,by kernel_rfl⟩
end Go.Proofs.YtaccfnffmbndhaaGreat
namespace Go.Proofs.YtaccfnffmbndhaaGreat
open Go.RowKit
set_option maxRecDepth 100000 in
theorem mdo_end {H:Nat → Prop} {w:World} {b x:Nat} {i:Inp} {a:MAd} {m:Mst} (h:MachAt H w b i x a m) (hn:(curL i x m.st).length ≤ m.nx) (u v:Value) :
    Calls Tryz.prog 17 #[.pointer (some ⟨b,0,none⟩),u,v] w fun e w' => e = .returned (.int .i64 13) ∧ Below w.heap.size w w':=by
  have H1:=Lib.hid (next_no h hn)
  clear h hn
  go_enter Tryz.func17,Tryz.ntmps17
  go_wp2_with fail
  refine H1.out.mono ?_
  rintro e w1 ⟨rfl,k1⟩
  have K1:=Lib.hid (k1.alloc k1.size (.cells #[.int .i64 0,.int .i64 0,.int .i64 0,.bool false,.bool false,.int .i64 0,.int .i64 0,.int .i64 0,.int .i64 0,.int .i64 0,.int .i64 0,.int .i64 0] 56))
  clear k1
  go_wp2_with fail
  go_ret
  exact ⟨rfl,K1.out⟩
def smI:Inp:=⟨⟨[1,1],1,0,0,1,1,1,0,1,1,1,1⟩,[([1],[1])],[5,6],[]⟩
theorem smI_good:GoodIn smI:=by
  refine ⟨⟨by decide,by decide,⟨⟨by decide,fun k hk => ?_⟩,by decide⟩,by decide,by decide,by decide,by decide,by decide,by decide,by decide⟩,by decide,fun x hx => ?_,by decide,by decide⟩
  · have:k = 0 ∨ k = 1:=by have:k < 2:=hk;omega
    rcases this with rfl | rfl <;> decide
  · have:x = ([1],[1]):=by simpa [smI] using hx
    subst this;decide
theorem smI_sm:SmIn smI:=⟨smI_good,by decide,by decide,by decide,by decide,by decide⟩
theorem rd_bk {w:World} {b:Nat} {xs:List Value} {e:TypeId} (h:w.heap[b]? = some (.cells xs.toArray e (0,0))):Rd w (some ⟨b,0,none⟩) xs:=fun k u hu => ⟨b,0,rfl,by
  rw [Nat.zero_add,cell_of_row w b k _ _ _ h];simpa using hu⟩
theorem w64_pos {l:List Int} (h:∀ z ∈ l,0 ≤ z ∧ z ≤ 1048576):W64 l:=fun k hk => by
  have:=h _ (nth_mem hk);omega
theorem smI_rd {w:World} {b:Nat} (h0:w.heap[b]? = some (.cells #[.int .i64 1,.int .i64 1] 3 (0,0))) {b3 b4 b5 b6:Nat} (h3:w.heap[b3]? = some (.cells #[.int .i64 1] 2 (0,0))) (h4:w.heap[b4]? = some (.cells #[.int .i64 1] 2 (0,0)))
    (h5:w.heap[b5]? = some (.cells #[.slice (some ⟨b3,0,none⟩) 1 1,.slice (some ⟨b4,0,none⟩) 1 1] 107 (0,0))) (h6:w.heap[b6]? = some (.cells #[.int .i64 5,.int .i64 6] 2 (0,0))) :
    InpRd w (some ⟨b,0,none⟩) 2 (some ⟨b5,0,none⟩) (some ⟨b6,0,none⟩) 2 none smI:=by
  refine ⟨⟨by decide,by decide,by decide,rd_bk h0⟩,?_,by decide,⟨by decide,by decide,rd_bk h6,w64_pos (by simp [smI])⟩,by decide,Rd.nil _ _,by decide,fun k hk => absurd hk (by simp [smI]),by decide,by decide⟩
  refine ⟨[[.slice (some ⟨b3,0,none⟩) 1 1,.slice (some ⟨b4,0,none⟩) 1 1]],rd_bk h5,rfl,by simp,fun j x hx => ?_⟩
  have hj:j = 0:=by have:=(List.getElem?_eq_some_iff.1 hx).1;simp [smI] at this;omega
  subst hj
  have:x = ([1],[1]):=by simpa [smI] using hx.symm
  subst this
  exact ⟨_,_,_,_,rfl,⟨by decide,by decide,rd_bk h3,w64_pos (by simp)⟩,⟨by decide,by decide,rd_bk h4,w64_pos (by simp)⟩⟩
set_option maxRecDepth 100000 in
theorem alive21_any (w:World):Calls Tryz.prog 9 #[] w fun e w' => e = .returned (.bool true) ∧ Below w.heap.size w w':=by
  go_enter Tryz.func9,Tryz.ntmps9
  go_wp2_with fail
  have hrd:=smI_rd (allocs_at [.cells #[.int .i64 1,.int .i64 1] 3,.cells #[.slice (some ⟨w.heap.size,0,none⟩) 2 2,.int .i64 1,.int .i64 0,.int .i64 0,.int .i64 1,.int .i64 1,.int .i64 1,.int .i64 0,.int .i64 1,.int .i64 1,.int .i64 1,.int .i64 1] 24,.cells #[.int .i64 1] 2,.cells #[.int .i64 1] 2,.cells #[.slice (some ⟨w.heap.size + 1 + 1,0,none⟩) 1 1,.slice (some ⟨w.heap.size + 1 + 1 + 1,0,none⟩) 1 1] 107,.cells #[.int .i64 5,.int .i64 6] 2] w 0 rfl) (b3:=w.heap.size + 1 + 1) (b4:=w.heap.size + 1 + 1 + 1) (b5:=w.heap.size + 1 + 1 + 1 + 1) (b6:=w.heap.size + 1 + 1 + 1 + 1 + 1) (allocs_at [.cells #[.int .i64 1,.int .i64 1] 3,.cells #[.slice (some ⟨w.heap.size,0,none⟩) 2 2,.int .i64 1,.int .i64 0,.int .i64 0,.int .i64 1,.int .i64 1,.int .i64 1,.int .i64 0,.int .i64 1,.int .i64 1,.int .i64 1,.int .i64 1] 24,.cells #[.int .i64 1] 2,.cells #[.int .i64 1] 2,.cells #[.slice (some ⟨w.heap.size + 1 + 1,0,none⟩) 1 1,.slice (some ⟨w.heap.size + 1 + 1 + 1,0,none⟩) 1 1] 107,.cells #[.int .i64 5,.int .i64 6] 2] w 2 rfl) (allocs_at [.cells #[.int .i64 1,.int .i64 1] 3,.cells #[.slice (some ⟨w.heap.size,0,none⟩) 2 2,.int .i64 1,.int .i64 0,.int .i64 0,.int .i64 1,.int .i64 1,.int .i64 1,.int .i64 0,.int .i64 1,.int .i64 1,.int .i64 1,.int .i64 1] 24,.cells #[.int .i64 1] 2,.cells #[.int .i64 1] 2,.cells #[.slice (some ⟨w.heap.size + 1 + 1,0,none⟩) 1 1,.slice (some ⟨w.heap.size + 1 + 1 + 1,0,none⟩) 1 1] 107,.cells #[.int .i64 5,.int .i64 6] 2] w 3 rfl) (allocs_at [.cells #[.int .i64 1,.int .i64 1] 3,.cells #[.slice (some ⟨w.heap.size,0,none⟩) 2 2,.int .i64 1,.int .i64 0,.int .i64 0,.int .i64 1,.int .i64 1,.int .i64 1,.int .i64 0,.int .i64 1,.int .i64 1,.int .i64 1,.int .i64 1] 24,.cells #[.int .i64 1] 2,.cells #[.int .i64 1] 2,.cells #[.slice (some ⟨w.heap.size + 1 + 1,0,none⟩) 1 1,.slice (some ⟨w.heap.size + 1 + 1 + 1,0,none⟩) 1 1] 107,.cells #[.int .i64 5,.int .i64 6] 2] w 4 rfl) (allocs_at [.cells #[.int .i64 1,.int .i64 1] 3,.cells #[.slice (some ⟨w.heap.size,0,none⟩) 2 2,.int .i64 1,.int .i64 0,.int .i64 0,.int .i64 1,.int .i64 1,.int .i64 1,.int .i64 0,.int .i64 1,.int .i64 1,.int .i64 1,.int .i64 1] 24,.cells #[.int .i64 1] 2,.cells #[.int .i64 1] 2,.cells #[.slice (some ⟨w.heap.size + 1 + 1,0,none⟩) 1 1,.slice (some ⟨w.heap.size + 1 + 1 + 1,0,none⟩) 1 1] 107,.cells #[.int .i64 5,.int .i64 6] 2] w 5 rfl)
  have hc:=mnew_good (some ⟨w.heap.size,0,none⟩) 2 (some ⟨w.heap.size + 1 + 1 + 1 + 1,0,none⟩) 1 (some ⟨w.heap.size + 1 + 1 + 1 + 1 + 1,0,none⟩) 2 none 0 smI 0 (allocs w [.cells #[.int .i64 1,.int .i64 1] 3,.cells #[.slice (some ⟨w.heap.size,0,none⟩) 2 2,.int .i64 1,.int .i64 0,.int .i64 0,.int .i64 1,.int .i64 1,.int .i64 1,.int .i64 0,.int .i64 1,.int .i64 1,.int .i64 1,.int .i64 1] 24,.cells #[.int .i64 1] 2,.cells #[.int .i64 1] 2,.cells #[.slice (some ⟨w.heap.size + 1 + 1,0,none⟩) 1 1,.slice (some ⟨w.heap.size + 1 + 1 + 1,0,none⟩) 1 1] 107,.cells #[.int .i64 5,.int .i64 6] 2]) hrd smI_sm (by decide)
  have hb:=allocs_below [.cells #[.int .i64 1,.int .i64 1] 3,.cells #[.slice (some ⟨w.heap.size,0,none⟩) 2 2,.int .i64 1,.int .i64 0,.int .i64 0,.int .i64 1,.int .i64 1,.int .i64 1,.int .i64 0,.int .i64 1,.int .i64 1,.int .i64 1,.int .i64 1] 24,.cells #[.int .i64 1] 2,.cells #[.int .i64 1] 2,.cells #[.slice (some ⟨w.heap.size + 1 + 1,0,none⟩) 1 1,.slice (some ⟨w.heap.size + 1 + 1 + 1,0,none⟩) 1 1] 107,.cells #[.int .i64 5,.int .i64 6] 2] w
  refine Calls.mono hc ?_
  rintro e w1 ⟨b,a,rfl,q1,-,hm⟩
  have hM:=hm (fun _ => False) w1 (Keep.refl _ _) (fun _ h => h.elim)
  have q2:=hb.trans (q1.mono hb.size)
  have h0:(curL smI 0 (mst0 smI).st).length ≤ (mst0 smI).nx:=by decide
  have hx:=fun w' (q:Below w1.heap.size w1 w') => next_no (hM.below q (fun _ _ h => h)) h0
  have he:=fun w' (q:Below w1.heap.size w1 w') => mdo_end (hM.below q (fun _ _ h => h)) h0 (.pointer none) (.pointer none)
  have HX:=Lib.hid hx;have HE:=Lib.hid he;have Q2:=Lib.hid q2
  clear hrd hc hb hm hM q1 q2 h0 hx he
  go_wp2_with fail
  refine (HX.out w1 (br w1)).mono ?_
  rintro e w2 ⟨rfl,q3⟩
  have Q3:=Lib.hid q3
  clear q3
  go_wp2_with fail
  refine (HE.out _ (Q3.out.alloc Q3.out.size _)).mono ?_
  rintro e w3 ⟨rfl,q4⟩
  have Q4:=Lib.hid ((Q2.out.trans ((Q3.out.alloc Q3.out.size (.cells #[.int .i64 0,.int .i64 0,.int .i64 0,.bool false,.bool false,.int .i64 0,.int .i64 0,.int .i64 0,.int .i64 0,.int .i64 0,.int .i64 0,.int .i64 0] 56)).mono Q2.out.size)).trans (q4.mono (by rw [World.size_alloc];have:=Q2.out.size;have:=Q3.out.size;omega)))
  clear q4
  go_wp2_with fail
  go_ret
  exact ⟨rfl,Q4.out⟩
end Go.Proofs.YtaccfnffmbndhaaGreat
namespace Go.Proofs.YtaccfnffmbndhaaGreat
open Go.RowKit
theorem box3_set {w:World} {b:Nat} {x0 x1 x2:Value} {t:TypeId} (y0 y1 y2:Value) (h:w.heap[b]? = some (.cells #[x0,x1,x2] t (0,0))) :
    (((w.setCell ⟨b,0,none⟩ y0).setCell ⟨b,1,none⟩ y1).setCell ⟨b,2,none⟩ y2).heap[b]? = some (.cells #[y0,y1,y2] t (0,0)):=by
  have h1:=heap_setCell_same w b 0 _ _ y0 h
  have h2:=heap_setCell_same _ b 1 _ _ y1 h1
  exact heap_setCell_same _ b 2 _ _ y2 h2
theorem box3_keep {w:World} {b:Nat} (y0 y1 y2:Value):Keep (fun i => i = b) w (((w.setCell ⟨b,0,none⟩ y0).setCell ⟨b,1,none⟩ y1).setCell ⟨b,2,none⟩ y2):=
  Keep.setCell (S:=fun i => i = b) (Keep.setCell (S:=fun i => i = b) (Keep.setCell (S:=fun i => i = b) (Keep.refl _ w) ⟨b,0,none⟩ (.inr rfl) y0) ⟨b,1,none⟩ (.inr rfl) y1) ⟨b,2,none⟩ (.inr rfl) y2
theorem mnew_any (r c:Nat) (w:World) (hr:1 ≤ r ∧ r ≤ 1048576) (hc:1 ≤ c ∧ c ≤ 1048576) (hm:r * c ≤ 1048576) :
    Calls Tryz.prog 198 #[.int .i64 r,.int .i64 c] w fun e w' => ∃ A,e = .returned (.agg #[.int .i64 r,.int .i64 c,.slice A (r * c) (r * c)]) ∧ w'.ownsRow w.heap.size 2 1 (.slice A (r * c) (r * c)) (r * c) (nums .i64 (List.replicate (r * c) 0)) ∧ Below w.heap.size w w':=by
  have e1:(r:Int) * (c:Int) = ((r * c:Nat):Int):=(Int.natCast_mul r c).symm
  have hs:=fun w' => sides_any r c w' ⟨by omega,by omega⟩ ⟨by omega,by omega⟩
  obtain ⟨p,hp⟩:∃ p,r * c = p:=⟨_,rfl⟩
  rw [hp] at e1 hm ⊢
  clear hp
  have hmk:(8:Nat) * p ≤ 281474976710656:=by omega
  have Hmk:=Lib.hid hmk;have Hs:=Lib.hid hs;clear hmk hs
  go_enter Tryz.func198,Tryz.ntmps198
  go_wp2_with fail
  refine (Hs.out _).mono ?_
  rintro e w1 ⟨rfl,hw1⟩
  subst hw1
  go_wp2_with (at_make;refine wpList_mk et_vec _ rfl (.tmp 20) (.tmp 20) rfl rfl p rfl rfl Hmk.out (by unfold maxLen;omega) ?_)
  intro w2 hown hb
  rw [nums_rep] at hown
  have hres:=(hb.block w.heap.size (by simp)).trans (heap_alloc_new w _)
  obtain ⟨⟨r0,r1,r2⟩,rf⟩:=bx3 hres
  have hs1:w.heap.size < w2.heap.size:=lt_of_block hres
  have HO:=Lib.hid hown;have HB:=Lib.hid hb;have HR:=Lib.hid hres;clear hown hb hres
  go_wp2_with fail
  have h3:=box3_set (.int .i64 r) (.int .i64 c) (.slice (some ⟨w.heap.size + 1,0,none⟩) p p) HR.out
  have k3:=box3_keep (w:=w2) (b:=w.heap.size) (.int .i64 r) (.int .i64 c) (.slice (some ⟨w.heap.size + 1,0,none⟩) p p)
  obtain ⟨w3,hw3⟩:∃ w3,w3 = (((w2.setCell ⟨w.heap.size,0,none⟩ (.int .i64 r)).setCell ⟨w.heap.size,1,none⟩ (.int .i64 c)).setCell ⟨w.heap.size,2,none⟩ (.slice (some ⟨w.heap.size + 1,0,none⟩) p p)):=⟨_,rfl⟩
  rw [← hw3] at h3 k3 ⊢
  clear hw3 r0 r1 r2 rf
  obtain ⟨⟨q0,q1,q2⟩,qf⟩:=bx3 h3
  refine bodyPost_ret (v:=.agg #[.int .i64 r,.int .i64 c,.slice (some ⟨w.heap.size + 1,0,none⟩) p p]) (by simp [results,Tryz.results198,go_sem,q0,q1,q2]) rfl ⟨_,rfl,?_,?_⟩
  · refine own_base (base:=w.heap.size + 1) (k3.own HO.out (fun k hk e => ?_)) (by omega)
    simp [Value.ownBlock] at hk
    omega
  · exact (Below.trans ((Below.refl _ w).alloc (Nat.le_refl _) _) (HB.out.mono (by simp))).trans (k3.toBelow (by omega) (fun k hk => by omega))
end Go.Proofs.YtaccfnffmbndhaaGreat
