/- The walks of package vec. The walks of package mat: the small functions. The iterator over the rows of a matrix. Loops over iterators: what a round that appends keeps. Matrix.Mul. The values of a network, layer by layer, in plain lists. No condition. -/
import Derived.Test.YtaccfnffmbndhaaGreatB12
import Derived.Test.YtaccfnffmbndhaaGreatB02
import Derived.WalkSpells
import Derived.Deep.RegionHeld3
import Derived.StillTailTactics
import Derived.Test.YtaccfnffmbndhaaGreatB06
import Derived.Test.YtaccfnffmbndhaaGreatB13
set_option linter.unusedSimpArgs false
set_option linter.unusedVariables false
namespace Go.Proofs.YtaccfnffmbndhaaGreat
open Go.RowKit
theorem et_vec:ElemT Tryz.prog 64 2 (.int .i64 0) 1 8:=⟨Tryz.underlying64,info_parts (by kernel_rfl),rfl,by decide⟩
theorem sclone_any (A:Option Addr) (zs:List Int) (c:Nat) (w:World) (hA:Rd w A (nums .i64 zs)) (hl:zs.length ≤ 17592186043904) :
    Calls Tryz.prog 116 #[.slice A zs.length c] w fun e w' => ∃ v,e = .returned v ∧ w'.ownsRow w.heap.size 2 1 v zs.length (nums .i64 zs) ∧ Below w.heap.size w w':=by
  have q:=fun (w:World) => Lib.run_eql_slice_nil (P:=Tryz.prog) w 64 2 A zs.length c 0 0 Tryz.underlying64
  cases A with
  | none =>
    have hz:zs = []:=by
      cases zs with
      | nil => rfl
      | cons z l => obtain ⟨b,o,h,_⟩:=hA 0 _ rfl;cases h
    subst hz
    clear q
    have q:=fun (w:World) => Lib.run_eql_slice_nil (P:=Tryz.prog) w 64 2 none 0 c 0 0 Tryz.underlying64
    simp only [Option.isNone_none] at q
    rw [List.length_nil]
    go_enter Tryz.func116,Tryz.ntmps116
    go_wp2
    go_ret
    exact ⟨_,rfl,World.ownsRow_nil _ _ _ _,Below.refl _ _⟩
  | some a =>
    go_enter Tryz.func116,Tryz.ntmps116
    go_wp2_with (at_builtin;refine wpList_app et_vec _ rfl (.tmp 5) (.tmp 6) rfl w.heap.size _ 0 [] rfl (own_empty w 2 1) _ zs.length c (nums .i64 zs) rfl (hA.alloc _) (by rw [nums_length];omega) (nums_cell _ _) (by omega) (by unfold maxLen;omega) (by simp) ?_)
    intro A' c' w1 hown hb _ _
    have hb1:=((Below.refl _ w).alloc (Nat.le_refl _) (.cells #[] 2)).trans hb
    have Hown:=Lib.hid hown;have Hb1:=Lib.hid hb1;clear hown hb hb1
    go_wp2
    go_ret
    exact ⟨_,rfl,Hown.out,Hb1.out⟩
theorem vclone_any (A:Option Addr) (zs:List Int) (c:Nat) (w:World) (hA:Rd w A (nums .i64 zs)) (hl:zs.length ≤ 17592186043904) :
    Calls Tryz.prog 67 #[.slice A zs.length c] w fun e w' => ∃ A' c',e = .returned (.slice A' zs.length c') ∧ zs.length ≤ c' ∧ w'.ownsRow w.heap.size 2 1 (.slice A' zs.length c') zs.length (nums .i64 zs) ∧ Below w.heap.size w w':=by
  have h:=sclone_any A zs c w hA hl
  go_enter Tryz.func67,Tryz.ntmps67
  go_wp2_with fail
  refine h.mono ?_
  rintro e w1 ⟨v,rfl,hown,hb⟩
  obtain ⟨A',c',rfl,hc⟩:=own_form hown
  clear h
  have Hown:=Lib.hid hown;have Hb:=Lib.hid hb;have Hc:=Lib.hid hc;clear hown hb hc
  go_wp2
  go_ret
  exact ⟨_,_,rfl,Hc.out,Hown.out,Hb.out⟩
theorem dot_any (A B:Option Addr) (xs ys:List Int) (c d:Nat) (q:Int) (w:World) (hA:Rd w A (nums .i64 xs)) (hB:Rd w B (nums .i64 ys)) (hl:xs.length = ys.length) (hm:xs.length ≤ 17592186043904) (wx:W64 xs) (wy:W64 ys) :
    Calls Tryz.prog 227 #[.slice A xs.length c,.slice B ys.length d,.int .i64 q] w fun e w' => e = .returned (.tuple #[.int .i64 (dotL xs ys q),.bool true]) ∧ Below w.heap.size w w':=by
  obtain ⟨n,hn⟩:∃ n,ys.length = n:=⟨_,rfl⟩
  have hnx:xs.length = n:=hl.trans hn
  have hd:dotL xs ys q = dotN xs ys q n:=by unfold dotL;rw [hnx]
  rw [hnx,hn,hd]
  have hmn:n ≤ 17592186043904:=by omega
  have Hn:=Lib.hid hn;have Hx:=Lib.hid hnx;have HA:=Lib.hid hA;have HB:=Lib.hid hB;have WX:=Lib.hid wx;have WY:=Lib.hid wy;clear hn hnx hA hB wx wy hl hm hd
  go_enter Tryz.func227,Tryz.ntmps227
  go_wp2_with fail
  go_loopw [8,18] (fun s i wr => ∃ k:Nat,k ≤ n ∧ i = .int .i64 k ∧ s = .int .i64 (dotN xs ys q k) ∧ Below w.heap.size w wr) (fun _ i _ => n - (intOf i).toNat)
  case atStart => exact ⟨0,Nat.zero_le _,rfl,rfl,Below.refl _ _⟩
  case round =>
    obtain ⟨k,hk,rfl,rfl,hW⟩:=hrel
    by_cases hlt:k < n
    · obtain ⟨b1,o1,hA1,p1⟩:=(HA.out.below hW).num (show k < xs.length by rw [Hx.out];exact hlt)
      obtain ⟨b2,o2,hB1,p2⟩:=(HB.out.below hW).num (show k < ys.length by rw [Hn.out];exact hlt)
      subst hA1;subst hB1
      have hm1:=fun w' => fixMul (nth xs k) (nth ys k) q w' (WX.out k (by rw [Hx.out];exact hlt)) (WY.out k (by rw [Hn.out];exact hlt))
      have Hm:=Lib.hid hm1;have HW:=Lib.hid hW;clear hm1 hW
      go_wp2_with fail
      refine (Hm.out _).mono ?_
      rintro e w3 ⟨rfl,hb3⟩
      have HB3:=Lib.hid (HW.out.trans (hb3.mono HW.out.size));clear hb3
      go_wp2_with fail
      go_roundw
      case rel => exact ⟨k + 1,by omega,by go_num,rfl,HB3.out⟩
      case measure => simp [intOf];omega
    · obtain rfl:k = n:=by omega
      have HW:=Lib.hid hW;clear hW
      go_wp2_with fail
      go_ret2
      exact ⟨rfl,HW.out⟩
theorem own_num {w:World} {base n g c:Nat} {xs:List Int} {e:TypeId} (h:w.ownsRow base e 1 (.slice (some ⟨g,0,none⟩) n c) n (nums .i64 xs)) {k:Nat} (hk:k < n):w.cell? ⟨g,k,none⟩ = some (.int .i64 (nth xs k)):=by
  rw [h.cellAt k (by omega)]
  have:=h.1
  rw [nums_length] at this
  exact nums_get .i64 xs k (by omega)
theorem own_len {w:World} {base n:Nat} {v:Value} {xs:List Int} {e:TypeId} (h:w.ownsRow base e 1 v n (nums .i64 xs)):xs.length = n:=by
  have:=h.1
  rw [nums_length] at this
  omega
theorem own_put {w:World} {base n g c:Nat} {xs:List Int} {e:TypeId} (h:w.ownsRow base e 1 (.slice (some ⟨g,0,none⟩) n c) n (nums .i64 xs)) (k:Nat) (v:Int) :
    (w.setCell ⟨g,k,none⟩ (.int .i64 v)).ownsRow base e 1 (.slice (some ⟨g,0,none⟩) n c) n (nums .i64 (xs.set k v)):=by
  have:=(h.stored k (.int .i64 v)).1
  rwa [nums_set] at this
theorem scale_any (A:Option Addr) (xs:List Int) (c:Nat) (a q:Int) (w:World) (hA:Rd w A (nums .i64 xs)) (hm:xs.length ≤ 17592186043904) (wx:W64 xs) (ha:-9223372036854775808 ≤ a ∧ a ≤ 9223372036854775807) :
    Calls Tryz.prog 201 #[.slice A xs.length c,.int .i64 a,.int .i64 q] w fun e w' => ∃ A' c',e = .returned (.slice A' xs.length c') ∧ w'.ownsRow w.heap.size 2 1 (.slice A' xs.length c') xs.length (nums .i64 (scaleL xs a q)) ∧ Below w.heap.size w w':=by
  have hcl:=vclone_any A xs c w hA hm
  have hall:=mixed_all xs (fun k => mulQ (nth xs k) a q)
  obtain ⟨n,hn⟩:∃ n,xs.length = n:=⟨_,rfl⟩
  rw [hn] at hcl hm
  unfold scaleL
  rw [← hall,hn]
  have Hc:=Lib.hid hcl;have WX:=Lib.hid wx;have Hn:=Lib.hid hn;clear hcl wx hA hall hn
  go_enter Tryz.func201,Tryz.ntmps201
  go_wp2_with fail
  refine Hc.out.mono ?_
  rintro e w1 ⟨A',c',rfl,_,hown,hb⟩
  have HO:=Lib.hid hown;have HB:=Lib.hid hb;clear hown hb
  go_wp2_with fail
  go_loopw [14] (fun i wr => ∃ k:Nat,k ≤ n ∧ i = .int .i64 k ∧ wr.ownsRow w.heap.size 2 1 (.slice A' n c') n (nums .i64 (mixed xs k (fun k => mulQ (nth xs k) a q))) ∧ Below w.heap.size w wr) (fun i _ => n - (intOf i).toNat)
  case atStart => exact ⟨0,Nat.zero_le _,rfl,by rw [mixed_zero];exact HO.out,HB.out⟩
  case round =>
    obtain ⟨k,hk,rfl,hown,hW⟩:=hrel
    by_cases hlt:k < n
    · obtain ⟨g,d,hv,hg,hgl⟩:=hown.form (by omega)
      simp only [Value.slice.injEq] at hv
      obtain ⟨rfl,hx1,rfl⟩:=hv
      clear hx1
      have hkx:k < xs.length:=by rw [Hn.out];exact hlt
      have p1:=own_num hown hlt
      rw [mixed_nth _ hkx,if_neg (by omega)] at p1
      have hm1:=fun w' => fixMul (nth xs k) a q w' (WX.out k hkx) ha
      have hst:=mixed_set (l:=xs) (k:=k) (fun k => mulQ (nth xs k) a q) hkx
      have Hm:=Lib.hid hm1;have HW:=Lib.hid hW;have HO2:=Lib.hid hown;have Hst:=Lib.hid hst;clear hm1 hW hown hst hkx
      go_wp2_with fail
      refine (Hm.out _).mono ?_
      rintro e w3 ⟨rfl,hb3⟩
      have hown3:=own_below HO2.out hb3
      have p3:∃ u,w3.cell? ⟨g,k,none⟩ = some u:=⟨_,own_num hown3 hlt⟩
      obtain ⟨u3,p3⟩:=p3
      have f3:=hown3.frozenAt k
      have HO3:=Lib.hid (own_put hown3 k (mulQ (nth xs k) a q));have HB3:=Lib.hid ((HW.out.trans (hb3.mono HW.out.size)).setCell (p:=⟨g,k,none⟩) hg (.int .i64 (mulQ (nth xs k) a q)));clear hb3 hown3
      go_wp2_with fail
      go_roundw
      case rel => exact ⟨k + 1,by omega,by go_num,by rw [← Hst.out];exact HO3.out,HB3.out⟩
      case measure => simp [intOf];omega
    · obtain rfl:k = n:=by omega
      have HW:=Lib.hid hW;have HO2:=Lib.hid hown;clear hW hown
      go_wp2_with fail
      go_ret
      exact ⟨_,_,rfl,HO2.out,HW.out⟩
theorem add_any (base:Nat) (A B:Option Addr) (xs ys:List Int) (n c d:Nat) (w:World) (hown:w.ownsRow base 2 1 (.slice A n c) n (nums .i64 xs)) (hB:Rd w B (nums .i64 ys)) (hl:ys.length = n) (hm:n ≤ 17592186043904)
    (hne:∀ a b,A = some a → B = some b → a.block ≠ b.block) :
    Calls Tryz.prog 149 #[.slice A n c,.slice B n d] w fun e w' => e = .returned (.bool true) ∧ w'.ownsRow base 2 1 (.slice A n c) n (nums .i64 (addL xs ys)) ∧ Keep (fun i => (Value.slice A n c).ownBlock = some i) w w':=by
  have hxl:=own_len hown
  have hall:=mixed_all xs (fun k => wrap64 (nth xs k + nth ys k))
  unfold addL
  rw [← hall,hxl]
  have HO:=Lib.hid hown;have HB:=Lib.hid hB;have Hn:=Lib.hid hxl;have Hl:=Lib.hid hl;have HN:=Lib.hid hne;clear hown hB hxl hl hall hne
  go_enter Tryz.func149,Tryz.ntmps149
  go_wp2_with fail
  go_loopw [13] (fun i wr => ∃ k:Nat,k ≤ n ∧ i = .int .i64 k ∧ wr.ownsRow base 2 1 (.slice A n c) n (nums .i64 (mixed xs k (fun k => wrap64 (nth xs k + nth ys k)))) ∧ Keep (fun i => (Value.slice A n c).ownBlock = some i) w wr) (fun i _ => n - (intOf i).toNat)
  case atStart => exact ⟨0,Nat.zero_le _,rfl,by rw [mixed_zero];exact HO.out,Keep.refl _ _⟩
  case round =>
    obtain ⟨k,hk,rfl,hown,hK⟩:=hrel
    by_cases hlt:k < n
    · obtain ⟨g,e,hv,hg,hgl⟩:=hown.form (by omega)
      simp only [Value.slice.injEq] at hv
      obtain ⟨rfl,hx1,rfl⟩:=hv
      clear hx1
      have hkx:k < xs.length:=by rw [Hn.out];exact hlt
      have p1:=own_num hown hlt
      rw [mixed_nth _ hkx,if_neg (by omega)] at p1
      have f1:=hown.frozenAt k
      obtain ⟨b2,o2,rfl,p0⟩:=HB.out.num (show k < ys.length by rw [Hl.out];exact hlt)
      have hgb:g ≠ b2:=HN.out _ _ rfl rfl
      have p2:wr.cell? ⟨b2,o2 + k,none⟩ = some (.int .i64 (nth ys k)):=hK.cell p0 (by simp [Value.ownBlock];exact hgb)
      have hst:=mixed_set (l:=xs) (k:=k) (fun k => wrap64 (nth xs k + nth ys k)) hkx
      have HK:=Lib.hid hK;have HO2:=Lib.hid hown;have Hst:=Lib.hid hst;clear hK hown hst hkx p0
      go_wp2_with fail
      go_region
      all_goals go_wp2_with fail
      all_goals
        go_roundw
        case rel =>
          refine ⟨k + 1,by omega,by go_num,?_,?_⟩
          · rw [← Hst.out];exact own_put (own_drewN HO2.out 1) k _
          · exact Keep.setCell (HK.out.drewN 1) ⟨g,k,none⟩ (.inr rfl) _
        case measure => simp [intOf];omega
    · obtain rfl:k = n:=by omega
      have HK:=Lib.hid hK;have HO2:=Lib.hid hown;clear hK hown
      go_wp2_with fail
      go_ret
      exact ⟨rfl,HO2.out,HK.out⟩
end Go.Proofs.YtaccfnffmbndhaaGreat
namespace Go.Proofs.YtaccfnffmbndhaaGreat
open Go.RowKit
theorem sides_any (r c:Int) (w:World) (hr:1 ≤ r ∧ r ≤ 1048576) (hc:1 ≤ c ∧ c ≤ 1048576):Calls Tryz.prog 211 #[.int .i64 r,.int .i64 c] w fun e w' => e = .returned (.bool true) ∧ w = w':=by
  obtain ⟨h1,h2⟩:=hr
  obtain ⟨h3,h4⟩:=hc
  go_enter Tryz.func211,Tryz.ntmps211
  go_wp2
  go_ret
  exact ⟨ret_bool (by simp [*]),rfl⟩
theorem right_any (r c:Nat) (A:Option Addr) (n d:Nat) (w:World) (hr:1 ≤ r ∧ r ≤ 1048576) (hc:1 ≤ c ∧ c ≤ 1048576) (hn:n = r * c) (hm:n ≤ 17592186043904) :
    Calls Tryz.prog 193 #[.agg #[.int .i64 r,.int .i64 c,.slice A n d]] w fun e w' => e = .returned (.bool true) ∧ w' = w.alloc (.cells #[.int .i64 r,.int .i64 c,.slice A n d] 282):=by
  have hs:=fun w' => sides_any r c w' (by omega) (by omega)
  have hmul:(r:Int) * (c:Int) = (n:Int):=by rw [hn];simp
  have hm1:0 ≤ (r:Int) * (c:Int) ∧ (r:Int) * (c:Int) ≤ 17592186043904:=by omega
  have hq:((n:Int) == IntKind.i64.wrap ((r:Int) * (c:Int))) = true:=by rw [IntWalk.i64_in _ (by omega),hmul];simp
  have hq2:((n:Int) == (r:Int) * (c:Int)) = true:=by rw [hmul];simp
  have Hs:=Lib.hid hs;clear hs hmul hn
  go_enter Tryz.func193,Tryz.ntmps193
  go_wp2_with fail
  refine (Hs.out _).mono ?_
  rintro e w1 ⟨rfl,rfl⟩
  go_wp2_with fail
  all_goals
    go_ret
    exact ⟨ret_bool (by first | rfl | simp [*]),rfl⟩
theorem of_any (r c:Nat) (A:Option Addr) (zs:List Int) (d:Nat) (w:World) (hr:1 ≤ r ∧ r ≤ 1048576) (hc:1 ≤ c ∧ c ≤ 1048576) (hn:zs.length = r * c) (hm:zs.length ≤ 17592186043904) (hA:Rd w A (nums .i64 zs)) :
    Calls Tryz.prog 172 #[.int .i64 r,.int .i64 c,.slice A zs.length d] w fun e w' => ∃ A' d',e = .returned (.tuple #[.agg #[.int .i64 r,.int .i64 c,.slice A' zs.length d'],.bool true]) ∧ zs.length ≤ d' ∧ w'.ownsRow w.heap.size 2 1 (.slice A' zs.length d') zs.length (nums .i64 zs) ∧ Below w.heap.size w w':=by
  have hcl:=fun w' (k:Below w.heap.size w w') => vclone_any A zs d w' (hA.below k) hm
  obtain ⟨n,hnn⟩:∃ n,zs.length = n:=⟨_,rfl⟩
  rw [hnn] at hcl hn hm ⊢
  have hrt:=fun A' d' w' => right_any r c A' n d' w' hr hc hn hm
  have Hc:=Lib.hid hcl;have Hr:=Lib.hid hrt;clear hcl hrt hnn hA hn
  go_enter Tryz.func172,Tryz.ntmps172
  go_wp2_with fail
  refine (Hc.out _ ?_).mono ?_
  · (focus (repeat' (first | (with_reducible exact Below.refl _ _) | (with_reducible assumption) | (with_reducible refine Below.setCell ?_ ?_ _) | (with_reducible refine Below.alloc ?_ ?_ _) | (with_reducible refine below_drewN ?_ _) | (with_reducible refine Below.drew ?_) | (with_reducible exact Nat.le_refl _) | omega | (simp;done) | (simp;omega))))
  rintro e w1 ⟨A',d',rfl,hd,hown,hb⟩
  have hres:=(hb.block w.heap.size (by simp)).trans (heap_alloc_new w _)
  obtain ⟨⟨r0,r1,r2⟩,rf⟩:=bx3 hres
  have hs1:w.heap.size < w1.heap.size:=lt_of_block hres
  have HO:=Lib.hid (own_base hown (base':=w.heap.size) (by simp));have HD:=Lib.hid hd;have HW:=Lib.hid (Below.trans ((Below.refl _ w).alloc (Nat.le_refl _) _) (hb.mono (by simp)));have Hob:=Lib.hid hown;clear hown hd hb hres
  go_wp2_with fail
  refine (Hr.out _ _ _).mono ?_
  rintro e w2 ⟨rfl,rfl⟩
  go_wp2_with fail
  refine bodyPost_ret (v:=.tuple #[.agg #[.int .i64 r,.int .i64 c,.slice A' n d'],.bool true]) (by simp [results,Tryz.results172,go_sem,r0,r1,r2,hs1]) rfl ⟨A',d',rfl,HD.out,?_,?_⟩
  · refine own_base (Keep.own (S:=fun i => i = w.heap.size) (w:=w1) ?_ Hob.out (fun k hk e => by have:=(Hob.out.lt k hk).1;simp at this;omega)) (by simp)
    (focus (repeat' (first | (with_reducible exact Keep.refl _ _) | (with_reducible assumption) | (with_reducible refine Keep.setCell ?_ _ ?_ _) | (with_reducible refine Keep.alloc ?_ _) | (with_reducible refine Keep.drewN ?_ _) | (with_reducible refine Keep.drew ?_) | (with_reducible exact Or.inr (linkS_b _ _)) | (with_reducible exact Or.inr (linkS_g _ _)) | (refine Or.inr ?_;first | rfl | (simp;done) | omega) | (refine Or.inl ?_;first | omega | (simp;done) | (simp;omega)))))
  · have hW:=HW.out
    (focus (repeat' (first | (with_reducible exact Below.refl _ _) | (with_reducible assumption) | (with_reducible refine Below.setCell ?_ ?_ _) | (with_reducible refine Below.alloc ?_ ?_ _) | (with_reducible refine below_drewN ?_ _) | (with_reducible refine Below.drew ?_) | (with_reducible exact Nat.le_refl _) | omega | (simp;done) | (simp;omega))))
theorem row_any (r c k:Nat) (g o n d:Nat) (w:World) (hr:r ≤ 1048576) (hc:1 ≤ c ∧ c ≤ 1048576) (hk:k < r) (hn:n = r * c) (hd:n ≤ d) :
    Calls Tryz.prog 218 #[.agg #[.int .i64 r,.int .i64 c,.slice (some ⟨g,o,none⟩) n d],.int .i64 k] w fun e w' => e = .returned (.slice (some ⟨g,o + k * c,none⟩) c c) ∧ Below w.heap.size w w':=by
  have h1:k * c + c ≤ n:=by rw [hn];have:=Nat.mul_le_mul_right c (show k + 1 ≤ r by omega);rw [Nat.succ_mul] at this;exact this
  have h2:k * c ≤ 1048576 * 1048576:=Nat.mul_le_mul (by omega) (by omega)
  have e1:(k:Int) * (c:Int) = ((k * c:Nat):Int):=(Int.natCast_mul k c).symm
  have e2:((k:Int) + 1) * (c:Int) = ((k * c + c:Nat):Int):=by rw [Int.add_mul,e1];simp
  obtain ⟨p,hp⟩:∃ p,k * c = p:=⟨_,rfl⟩
  rw [hp] at h1 h2 e1 e2 ⊢
  clear hp hn
  go_enter Tryz.func218,Tryz.ntmps218
  go_wp2_with fail
  go_quiet (fail)
  have hx1:¬ (p + c = p):=by omega
  go_wp2
  rw [show p + c - p = c by omega]
  go_ret
  refine ⟨rfl,?_⟩
  (focus (repeat' (first | (with_reducible exact Below.refl _ _) | (with_reducible assumption) | (with_reducible refine Below.setCell ?_ ?_ _) | (with_reducible refine Below.alloc ?_ ?_ _) | (with_reducible refine below_drewN ?_ _) | (with_reducible refine Below.drew ?_) | (with_reducible exact Nat.le_refl _) | omega | (simp;done) | (simp;omega))))
theorem rows_any (cs:Array Value) (w:World):Calls Tryz.prog 199 #[.agg cs] w fun e w' => e = .returned (.func (.func 217) #[] #[.pointer (some ⟨w.heap.size,0,none⟩)]) ∧ w' = w.alloc (.cells cs 282):=by
  go_enter Tryz.func199,Tryz.ntmps199
  go_wp2
  go_ret
  exact ⟨rfl,rfl⟩
end Go.Proofs.YtaccfnffmbndhaaGreat
namespace Go.Proofs.YtaccfnffmbndhaaGreat
open Go.RowKit Go.Shelf
attribute [local go_sem] Oper.semAt_some
def rowEnc (g o c:Nat) {r:Nat} (k:Fin r):Array Value:=#[.int .i64 (k.1:Int),.slice (some ⟨g,o + k.1 * c,none⟩) c c]
def RowsKeep (n₀ Bm:Nat) (W W':World):Prop:=Below n₀ W W' ∧ (Bm < W.heap.size → W'.heap[Bm]? = W.heap[Bm]?)
theorem finTake {r k:Nat} (h:k < r):(List.finRange r).take (k + 1) = (List.finRange r).take k ++ [⟨k,h⟩]:=by
  rw [List.take_add_one]
  simp [h]
set_option maxRecDepth 100000 in
set_option maxHeartbeats 2000000 in
theorem rows1_in (n l Bm n₀ g o r c nn d:Nat) (hr:r ≤ 1048576) (hc:1 ≤ c ∧ c ≤ 1048576) (hnn:nn = r * c) (hd:nn ≤ d) (J Jx:List (Fin r) → World → Prop) (B:Nat) (hJ:AbidesFrom B J)
    (hY:∀ pre x W,J pre W → pre.length < r → YieldAt Fence.wide (n - 1) Tryz.prog l (rowEnc g o c x) W fun e W' =>
      (e = .returned (.bool true) ∧ J (pre ++ [x]) W' ∧ RowsKeep n₀ Bm W W') ∨ (e = .returned (.bool false) ∧ Jx (pre ++ [x]) W'))
    (W:World) (hBm:W.heap[Bm]? = some (.cells #[.int .i64 r,.int .i64 c,.slice (some ⟨g,o,none⟩) nn d] 282 (0,0))) (h0:J [] W) :
    CallsIn Fence.wide n Tryz.prog 217 #[.func (.yield l) #[] #[],.pointer (some ⟨Bm,0,none⟩)] W fun e W' => (∃ v,e = .returned v) ∧
      ((∃ ys,ys = List.finRange r ∧ J ys W') ∨ (∃ pre,True ∧ Jx pre W')):=by
  obtain ⟨⟨e0,e1,e2⟩,ef⟩:=bx3 hBm
  have HBm:=Lib.hid hBm;have Hnn:=Lib.hid hnn;clear hBm hnn
  refine callsIn_of_wp Tryz.func217 rfl trivial ?_ rfl
  simp only [Tryz.ntmps217,List.size_toArray,List.length_cons,List.length_nil,Nat.reduceAdd,Nat.reduceSub,Array.replicate_succ,Array.replicate_zero,List.push_toArray,List.append_toArray,List.nil_append,List.cons_append]
  gi_wp2
  gi_loopw [6] (fun i wr => ∃ k:Nat,k ≤ r ∧ i = .int .i64 k ∧ J ((List.finRange r).take k) wr ∧ wr.heap[Bm]? = some (.cells #[.int .i64 r,.int .i64 c,.slice (some ⟨g,o,none⟩) nn d] 282 (0,0)))
    (fun i _ => r - (intOf i).toNat)
  case atStart => exact ⟨0,Nat.zero_le _,rfl,h0,HBm.out⟩
  case round =>
    obtain ⟨k,hk,rfl,hJs,hBk⟩:=hrel
    clear e0 e1 e2 ef
    by_cases hlt:k < r
    · have hlen:((List.finRange r).take k).length < r:=by simp;omega
      obtain ⟨⟨e0,e1,e2⟩,ef⟩:=bx3 hBk
      have hrw:=row_any r c k g o nn d wr hr hc hlt Hnn.out hd
      have HJs:=Lib.hid hJs;have HBk:=Lib.hid hBk;have Hrw:=Lib.hid hrw;clear hJs hBk hrw
      gi_wp2_with fail
      refine ⟨trivial,(fun h => by cases h),?_⟩
      refine (callsIn_wide.2 Hrw.out).mono ?_
      rintro e w3 ⟨rfl,hb3⟩
      have hJ3:=hJ _ _ _ none HJs.out (grown_none hb3) (fun _ h => by cases h)
      have hBk3:=(hb3.block _ (lt_of_block HBk.out)).trans HBk.out
      obtain ⟨fn,tmps,assign,body,hy,hR⟩:=hY _ ⟨k,hlt⟩ w3 hJ3 hlen
      unfold rowEnc at hy
      dsimp only at hy
      have HBk3:=Lib.hid hBk3;clear hJ3 hBk3 hb3
      gi_wp2
      refine ⟨(fun h => by cases h),?_⟩
      refine hR.mono ?_
      rintro e w5 (⟨rfl,hJ5,hk5⟩ | ⟨rfl,hJx5⟩)
      · have hB5:=(hk5.2 (lt_of_block HBk3.out)).trans HBk3.out
        have HB5:=Lib.hid hB5;have HJ5:=Lib.hid hJ5;clear hB5 hJ5 hk5
        gi_wp2
        go_roundw
        case rel => exact ⟨k + 1,by omega,by go_num,by rw [finTake hlt];exact HJ5.out,HB5.out⟩
        case measure => simp [intOf];omega
      · gi_wp2
        refine bodyPost_ret (results_none rfl _ _ _) rfl ?_
        exact ⟨⟨_,rfl⟩,.inr ⟨_,trivial,hJx5⟩⟩
    · obtain rfl:k = r:=by omega
      have hall:(List.finRange k).take k = List.finRange k:=List.take_of_length_le (by simp)
      rw [hall] at hJs
      have HJs:=Lib.hid hJs;clear hJs hall
      gi_wp2
      go_end0
      exact ⟨⟨_,rfl⟩,.inl ⟨_,rfl,HJs.out⟩⟩
theorem rows_stops (n Bm n₀ g o r c nn d:Nat) (hr:r ≤ 1048576) (hc:1 ≤ c ∧ c ≤ 1048576) (hnn:nn = r * c) (hd:nn ≤ d) (w:World)
    (hBm:w.heap[Bm]? = some (.cells #[.int .i64 r,.int .i64 c,.slice (some ⟨g,o,none⟩) nn d] 282 (0,0))) :
    SeqStopsK Fence.wide n Tryz.prog 217 #[.pointer (some ⟨Bm,0,none⟩)] (rowEnc (r:=r) g o c) (RowsKeep n₀ Bm) (fun ys => ys = List.finRange r) (fun _ => True) r w:=fun l J Jx W hW hJ _ hY h0 =>
  rows1_in n l Bm n₀ g o r c nn d hr hc hnn hd J Jx _ hJ hY W ((hW.block _ (lt_of_block hBm)).trans hBm) h0
end Go.Proofs.YtaccfnffmbndhaaGreat
namespace Go.Proofs.YtaccfnffmbndhaaGreat
open Go.RowKit Go.Shelf
theorem rowsKeep_t {n₀ Bm:Nat} {A B C:World} (h:RowsKeep n₀ Bm A B) (k:RowsKeep n₀ Bm B C):RowsKeep n₀ Bm A C:=
  ⟨h.1.trans k.1,fun hb => (k.2 (Nat.lt_of_lt_of_le hb h.1.size)).trans (h.2 hb)⟩
theorem rowsKeep_b {n₀ Bm:Nat} {w:World} (hn:n₀ ≤ w.heap.size) (hb:Bm < w.heap.size) (W:World) (l:Nat) (o o':Obj) (hl:w.heap.size ≤ l) (h:W.heap[l]? = some o) (h1:o.isCells = false) (h2:o.isWalk = false):RowsKeep n₀ Bm W (W.putObj l o'):=
  ⟨belowK_b hn W l o o' hl h h1 h2,fun _ => (belowK_b (n₀:=Bm + 1) (by omega) W l o o' hl h h1 h2).block Bm (by omega)⟩
end Go.Proofs.YtaccfnffmbndhaaGreat
namespace Go.Proofs.YtaccfnffmbndhaaGreat
open Go.RowKit Go.Shelf
attribute [local go_sem] Oper.semAt_some
def mrow (ms:List Int) (c k:Nat):List Int:=upTo c fun j => nth ms (k * c + j)
def mulL (ms:List Int) (r c:Nat) (xs:List Int) (q:Int):List Int:=upTo r fun k => dotL (mrow ms c k) xs q
theorem mrow_len (ms:List Int) (c k:Nat):(mrow ms c k).length = c:=upTo_len _ _
theorem mrow_room {r c k:Nat} (hk:k < r):k * c + c ≤ r * c:=by
  have:=Nat.mul_le_mul_right c (show k + 1 ≤ r by omega)
  rwa [Nat.succ_mul] at this
theorem nth_drop (l:List Int) (m j:Nat):nth (l.drop m) j = nth l (m + j):=by simp [nth,List.getD_eq_getElem?_getD,List.getElem?_drop]
theorem nth_take {l:List Int} {m j:Nat} (h:j < m):nth (l.take m) j = nth l j:=by simp [nth,List.getD_eq_getElem?_getD,List.getElem?_take,h]
theorem mrow_eq {ms:List Int} {r c k:Nat} (hk:k < r) (hl:ms.length = r * c):(ms.drop (k * c)).take c = mrow ms c k:=by
  have:=mrow_room (c:=c) hk
  refine eq_upTo (by rw [List.length_take,List.length_drop];omega) fun j hj => ?_
  rw [nth_take hj,nth_drop]
theorem mrow_rd {W:World} {g o:Nat} {ms:List Int} {r c k:Nat} (h:Rd W (some ⟨g,o,none⟩) (nums .i64 ms)) (hk:k < r) (hl:ms.length = r * c):Rd W (some ⟨g,o + k * c,none⟩) (nums .i64 (mrow ms c k)):=by
  have:=(h.drop (k * c)).take c
  rwa [nums_drop,nums_take,mrow_eq hk hl] at this
theorem mrow_W64 {ms:List Int} {r c k:Nat} (h:W64 ms) (hk:k < r) (hl:ms.length = r * c):W64 (mrow ms c k):=upTo_W64 fun j hj => h _ (by have:=mrow_room (c:=c) hk;omega)
theorem mdot_any (r c k:Nat) (g o:Nat) (ms:List Int) (B:Option Addr) (xs:List Int) (e:Nat) (q:Int) (W:World) (hk:k < r) (hc:1 ≤ c ∧ c ≤ 1048576) (hms:ms.length = r * c)
    (hA:Rd W (some ⟨g,o,none⟩) (nums .i64 ms)) (wm:W64 ms) (hB:Rd W B (nums .i64 xs)) (hxl:xs.length = c) (wx:W64 xs) :
    Calls Tryz.prog 227 #[.slice (some ⟨g,o + k * c,none⟩) c c,.slice B c e,.int .i64 q] W fun e w' => e = .returned (.tuple #[.int .i64 (dotL (mrow ms c k) xs q),.bool true]) ∧ Below W.heap.size W w':=by
  have:=dot_any (some ⟨g,o + k * c,none⟩) B (mrow ms c k) xs c e q W (mrow_rd hA hk hms) hB (by rw [mrow_len,hxl]) (by rw [mrow_len];omega) (mrow_W64 wm hk hms) wx
  rwa [mrow_len,hxl] at this
theorem mulL_fin (ms:List Int) (r c:Nat) (xs:List Int) (q:Int):((List.finRange r).map fun k => dotL (mrow ms c k.1) xs q) = mulL ms r c xs q:=by
  refine eq_upTo (by simp) fun k hk => ?_
  rw [nth_eq _ _ (by simpa using hk)]
  simp
set_option maxRecDepth 100000 in
set_option maxHeartbeats 2000000 in
theorem mmul_any (r c:Nat) (g o nn d:Nat) (ms:List Int) (B:Option Addr) (xs:List Int) (e:Nat) (q:Int) (w:World) (hr:1 ≤ r ∧ r ≤ 1048576) (hc:1 ≤ c ∧ c ≤ 1048576) (hnn:nn = r * c) (hd:nn ≤ d) (hm:nn ≤ 17592186043904)
    (hms:ms.length = nn) (hA:Rd w (some ⟨g,o,none⟩) (nums .i64 ms)) (wm:W64 ms) (hB:Rd w B (nums .i64 xs)) (hxl:xs.length = c) (wx:W64 xs) :
    Calls Tryz.prog 215 #[.agg #[.int .i64 r,.int .i64 c,.slice (some ⟨g,o,none⟩) nn d],.slice B c e,.int .i64 q] w fun e w' => ∃ A' c',e = .returned (.tuple #[.slice A' r c',.bool true]) ∧ w'.ownsRow w.heap.size 2 1 (.slice A' r c') r (nums .i64 (mulL ms r c xs q)) ∧ Below w.heap.size w w':=by
  have hrt:=fun w' => right_any r c (some ⟨g,o,none⟩) nn d w' hr hc hnn hm
  have hrw:=fun cs w' => rows_any cs w'
  have Hrt:=Lib.hid hrt;have Hrw:=Lib.hid hrw;have Hnn:=Lib.hid hnn;have Hms:=Lib.hid hms;have Hxl:=Lib.hid hxl;have HA:=Lib.hid hA;have HB:=Lib.hid hB;have WM:=Lib.hid wm;have WX:=Lib.hid wx;clear hrt hrw hnn hms hxl hA hB wm wx
  refine (callsIn_wide (n:=3)).1 ?_
  refine callsIn_of_wp_marks Tryz.func215 rfl trivial ?_ rfl
  simp only [Tryz.ntmps215,List.size_toArray,List.length_cons,List.length_nil,Nat.reduceAdd,Nat.reduceSub,Array.replicate_succ,Array.replicate_zero,List.push_toArray,List.append_toArray,List.nil_append,List.cons_append]
  gi_wp2_with fail
  refine ⟨trivial,?_⟩
  refine (callsIn_wide.2 (Hrt.out _)).mono ?_
  rintro e w1 ⟨rfl,rfl⟩
  gi_wp2_with fail
  refine ⟨trivial,?_⟩
  refine (callsIn_wide.2 (Hrw.out _ _)).mono ?_
  rintro e w2 ⟨rfl,rfl⟩
  gi_wp2_with fail
  obtain ⟨W0,hW0⟩:∃ W0,W0 = ((((w.alloc (.cells #[.int .i64 r,.int .i64 c,.slice (some ⟨g,o,none⟩) nn d] 282)).alloc (.cells #[.slice B c e] 64)).alloc (.cells #[.int .i64 q] 3)).alloc (.cells #[.int .i64 r,.int .i64 c,.slice (some ⟨g,o,none⟩) nn d] 282)):=⟨_,rfl⟩
  have hs0:W0.heap.size = w.heap.size + 1 + 1 + 1 + 1:=by rw [hW0];simp
  have b4:Boxed W0 (w.heap.size + 1) 64 (.slice B c e):=by
    rw [hW0]
    have:=((Boxed.new (w.alloc (.cells #[.int .i64 r,.int .i64 c,.slice (some ⟨g,o,none⟩) nn d] 282)) 64 (.slice B c e)).alloc (.cells #[.int .i64 q] 3)).alloc (.cells #[.int .i64 r,.int .i64 c,.slice (some ⟨g,o,none⟩) nn d] 282)
    simpa using this
  have b5:Boxed W0 (w.heap.size + 1 + 1) 3 (.int .i64 q):=by
    rw [hW0]
    have:=(Boxed.new ((w.alloc (.cells #[.int .i64 r,.int .i64 c,.slice (some ⟨g,o,none⟩) nn d] 282)).alloc (.cells #[.slice B c e] 64)) 3 (.int .i64 q)).alloc (.cells #[.int .i64 r,.int .i64 c,.slice (some ⟨g,o,none⟩) nn d] 282)
    simpa using this
  have hbel0:Below w.heap.size w W0:=by rw [hW0];exact ((((Below.refl _ w).alloc (Nat.le_refl _) _).alloc (by simp) _).alloc (by simp;omega) _).alloc (by simp;omega) _
  rw [← hW0,← hs0]
  have bO:=(Boxed.new W0 64 (.slice none 0 0)).alloc (.cells #[.int .i64 r,.int .i64 c,.slice (some ⟨g,o,none⟩) nn d] 282)
  have bM:((W0.alloc (.cells #[.slice none 0 0] 64)).alloc (.cells #[.int .i64 r,.int .i64 c,.slice (some ⟨g,o,none⟩) nn d] 282)).heap[W0.heap.size + 1]? = some (.cells #[.int .i64 r,.int .i64 c,.slice (some ⟨g,o,none⟩) nn d] 282 (0,0)):=by
    have:=heap_alloc_new (W0.alloc (.cells #[.slice none 0 0] 64)) (.cells #[.int .i64 r,.int .i64 c,.slice (some ⟨g,o,none⟩) nn d] 282)
    simpa using this
  have HS0:=Lib.hid hs0;have HBl0:=Lib.hid hbel0;have HbM:=Lib.hid bM;clear hW0
  clear hs0 hbel0 bM
  refine' wpIn_rangeFunc_ownG (F:=Fence.wide) (n:=3) rfl (by omega) (gf:=217) (lb:=#[.pointer (some ⟨W0.heap.size + 1,0,none⟩)]) rfl trivial (enters_of Tryz.func217 (by kernel_rfl) rfl)
    (rows_stops _ (W0.heap.size + 1) w.heap.size g o r c nn d hr.2 hc Hnn.out hd _ HbM.out) rowsKeep_t (rowsKeep_b (by have:=HBl0.out.size;simp;omega) (by simp)) (Below.refl _ _) (fun _ => rfl)
    (fun (pre:List (Fin r)) W => ((∃ v,Boxed W W0.heap.size 64 v ∧ W.ownsRow w.heap.size 2 1 v pre.length (nums .i64 (pre.map fun k => dotL (mrow ms c k.1) xs q)) ∧ True) ∧ Boxed W (w.heap.size + 1) 64 (.slice B c e) ∧ Boxed W (w.heap.size + 1 + 1) 3 (.int .i64 q) ∧ W.heap[W0.heap.size + 1]? = some (.cells #[.int .i64 r,.int .i64 c,.slice (some ⟨g,o,none⟩) nn d] 282 (0,0))) ∧ Below w.heap.size w W)
    (fun _ _ _ => False)
    (OwnFrom.and (OwnFrom.and (Own.from (holdsRow_own w.heap.size W0.heap.size 64 2 1 (fun pre:List (Fin r) => pre.length) (fun pre => nums .i64 (pre.map fun k => dotL (mrow ms c k.1) xs q)) (fun _ _ => True)) _) (OwnFrom.and (ownFrom_block _ _ _ rfl) (OwnFrom.and (ownFrom_block _ _ _ rfl) (ownFrom_block _ _ _ rfl)))) (ownFrom_below (Nat.le_refl _) (by have:=HBl0.out.size;simp;omega)))
    (fun _ _ _ _ _ hs _ _ => hs)
    ⟨⟨⟨_,bO,World.ownsRow_nil _ _ _ _,trivial⟩,(b4.alloc _).alloc _,(b5.alloc _).alloc _,HbM.out⟩,(HBl0.out.alloc (by have:=HBl0.out.size;omega) _).alloc (by have:=HBl0.out.size;simp;omega) _⟩
    _ ?assign ?body ?done ?stop
  case assign =>
    intro l x W K hK
    unfold rowEnc
    gi_wp2
    exact hK
  case body =>
    rintro l pre x W ⟨⟨⟨v,hv,hrow,_⟩,hx4,hx5,hxM⟩,hBl⟩ hlt
    have hc4:=hx4.cell
    have hc5:=hx5.cell
    have Hv:=Lib.hid hv;have Hrow:=Lib.hid hrow;have HM:=Lib.hid hxM;have HBl:=Lib.hid hBl;have H4:=Lib.hid hx4;have H5:=Lib.hid hx5;have Hlt:=Lib.hid hlt;clear hv hrow hxM hBl hx4 hx5 hlt
    gi_wp2_with fail
    refine ⟨trivial,?_⟩
    refine (CallsIn.inRound l (callsIn_wide.2 (mdot_any r c x.1 g o ms B xs _ q W x.2 hc (Hms.out.trans Hnn.out) (HA.out.below HBl.out) WM.out (HB.out.below HBl.out) Hxl.out WX.out))).mono ?_
    rintro e w3 ⟨rfl,hb3⟩
    have hv3:Boxed w3 W0.heap.size 64 v:=(hb3.block _ (Boxed.lt Hv.out)).trans Hv.out
    have hc3:=hv3.cell
    have hrow3:=own_below Hrow.out hb3
    have hs3:w.heap.size ≤ w3.heap.size:=Nat.le_trans HBl.out.size hb3.size
    have hsO:w.heap.size ≤ W0.heap.size:=HBl0.out.size
    have hpl:pre.length < r:=Hlt.out
    have hxM3:=(hb3.block _ (lt_of_block HM.out)).trans HM.out
    have hx43:=(hb3.block _ (lt_of_block H4.out)).trans H4.out
    have hx53:=(hb3.block _ (lt_of_block H5.out)).trans H5.out
    have HxM3:=Lib.hid hxM3;have Hx43:=Lib.hid hx43;have Hx53:=Lib.hid hx53
    have Hv3:=Lib.hid hv3;have Hb3:=Lib.hid hb3;have Hrow3:=Lib.hid hrow3;have Hs3:=Lib.hid hs3;have HsO:=Lib.hid hsO;have Hpl:=Lib.hid hpl;clear hv3 hb3 hrow3 hs3 hsO hpl hxM3 hx43 hx53 hc4 hc5
    obtain ⟨dv,hdv⟩:∃ dv,dv = dotL (mrow ms c x.1) xs q:=⟨_,rfl⟩
    have Hdv:=Lib.hid hdv
    rw [← hdv]
    clear hdv
    gi_wp2_with (gi_at_builtin;refine wpListIn_push et_vec w3 rfl (.tmp 34) (.tmp 36) rfl w.heap.size W0.heap.size v pre.length _ rfl Hv3.out (by decide) Hrow3.out [.int .i64 dv] rfl rfl (nums_cell .i64 [dv]) (by have:=Hpl.out;have:=hr.2;omega) (by have:=Hpl.out;have:=hr.2;unfold maxLen;omega) Hs3.out HsO.out ?_)
    intro g1 c1 w1 k1 k2 k3 k4 k5 k6
    have hc1:=k1.cell;have hf1:=k1.frozen
    have K2:=Lib.hid k2;have K3:=Lib.hid k3;have K4:=Lib.hid k4;have K5:=Lib.hid k5;have K6:=Lib.hid k6;clear k1 k2 k3 k4 k5 k6 hc3
    gi_wp2_with fail
    have hbW:Below w.heap.size W (w1.setCell ⟨W0.heap.size,0,none⟩ (.slice (some ⟨g1,0,none⟩) (pre.length + 1) c1)):=(Hb3.out.mono HBl.out.size).trans K5.out
    have hne1:W0.heap.size + 1 ≠ W0.heap.size:=by omega
    have hne2:w.heap.size + 1 ≠ W0.heap.size:=by have:=HS0.out;omega
    have hne3:w.heap.size + 1 + 1 ≠ W0.heap.size:=by have:=HS0.out;omega
    have hM1:=K6.out _ _ _ _ _ hne1 (by decide) HxM3.out
    refine ⟨((KeepsOthers.of_grownBy (row:=none) (grown_none Hb3.out) (fun _ _ h => by cases h)).trans K4.out).from _,⟨hbW,fun _ => hM1.trans HM.out.symm⟩,⟨⟨_,K2.out,?_,trivial⟩,K6.out _ _ _ _ _ hne2 (by decide) Hx43.out,K6.out _ _ _ _ _ hne3 (by decide) Hx53.out,hM1⟩,HBl.out.trans hbW⟩
    have h:=K3.out
    rw [Hdv.out] at h
    simpa [nums] using h
  case done =>
    rintro D ys W hD rfl ⟨⟨⟨v,hv,hrow,_⟩,hx4,hx5,hxM⟩,hBl⟩ hK
    have hc:=hv.cell
    gi_wp2
    refine ⟨by simp,.inl ⟨_,_,rfl,run_takeDeferred hK,?_⟩⟩
    obtain ⟨A',c',rfl,_⟩:=own_form hrow
    rw [List.length_finRange,mulL_fin] at *
    refine ⟨.tuple #[.slice A' r c',.bool true],by simp [results,Tryz.results215,go_sem],A',c',rfl,ownsRow_putObj hrow _ hK rfl,hBl.trans (belowK_b (w:=w) (Nat.le_refl _) W D _ _ (by have:=HBl0.out.size;simp at hD;omega) hK rfl rfl)⟩
  case stop =>
    rintro D c pre W _ _ h _
    exact h.elim
end Go.Proofs.YtaccfnffmbndhaaGreat
namespace Go.Proofs.YtaccfnffmbndhaaGreat
open Go.RowKit
def reluL (l:List Int):List Int:=upTo l.length fun i => max (nth l i) 0
def zL (sz ps:List Int) (q:Int) (k:Nat) (v:List Int):List Int:=addL (mulL (wL sz ps k) (szN sz (k + 1)) (szN sz k) v q) (bL sz ps k)
def valL (sz ps:List Int) (q:Int) (x:List Int):Nat → List Int
  | 0 => x
  | k + 1 => if k + 1 < sz.length - 1 then reluL (zL sz ps q k (valL sz ps q x k)) else zL sz ps q k (valL sz ps q x k)
theorem W64.nth {l:List Int} (h:W64 l) (k:Nat):-9223372036854775808 ≤ nth l k ∧ nth l k ≤ 9223372036854775807:=by
  by_cases hk:k < l.length
  · exact h k hk
  · have:Go.Proofs.YtaccfnffmbndhaaGreat.nth l k = 0:=by unfold Go.Proofs.YtaccfnffmbndhaaGreat.nth;simp [List.getD,List.getElem?_eq_none (show l.length ≤ k by omega)]
    omega
theorem wL_W64 {ps:List Int} (h:W64 ps) (sz:List Int) (k:Nat):W64 (wL sz ps k):=upTo_W64 fun _ _ => h.nth _
theorem mulL_len (ms:List Int) (r c:Nat) (xs:List Int) (q:Int):(mulL ms r c xs q).length = r:=upTo_len _ _
theorem addL_len (xs ys:List Int):(addL xs ys).length = xs.length:=upTo_len _ _
theorem addL_W64 (xs ys:List Int):W64 (addL xs ys):=upTo_W64 fun _ _ => wrap64_bd _
theorem reluL_len (l:List Int):(reluL l).length = l.length:=upTo_len _ _
theorem reluL_W64 {l:List Int} (h:W64 l):W64 (reluL l):=upTo_W64 fun k _ => by have:=h.nth k;omega
theorem zL_len (sz ps:List Int) (q:Int) (k:Nat) (v:List Int):(zL sz ps q k v).length = szN sz (k + 1):=by unfold zL;rw [addL_len,mulL_len]
theorem zL_W64 (sz ps:List Int) (q:Int) (k:Nat) (v:List Int):W64 (zL sz ps q k v):=addL_W64 _ _
theorem valL_len {sz ps:List Int} {q:Int} {x:List Int} (h:x.length = szN sz 0) (k:Nat):(valL sz ps q x k).length = szN sz k:=by
  cases k with
  | zero => exact h
  | succ k =>
    unfold valL
    split
    · rw [reluL_len,zL_len]
    · rw [zL_len]
theorem valL_W64 {sz ps:List Int} {q:Int} {x:List Int} (h:W64 x) (k:Nat):W64 (valL sz ps q x k):=by
  cases k with
  | zero => exact h
  | succ k =>
    unfold valL
    split
    · exact reluL_W64 (zL_W64 _ _ _ _ _)
    · exact zL_W64 _ _ _ _ _
def VecsAt (w:World) (vals:List Value) (n:Nat) (f:Nat → List Int):Prop:=vals.length = n ∧ ∀ j,j < n → ∃ A c,vals[j]? = some (.slice A (f j).length c) ∧ (f j).length ≤ c ∧ Rd w A (nums .i64 (f j))
theorem VecsAt.below {w w':World} {vals:List Value} {n:Nat} {f:Nat → List Int} (h:VecsAt w vals n f) (hb:Below w.heap.size w w'):VecsAt w' vals n f:=
  ⟨h.1,fun j hj => by obtain ⟨A,c,h1,h2,h3⟩:=h.2 j hj;exact ⟨A,c,h1,h2,h3.below hb⟩⟩
end Go.Proofs.YtaccfnffmbndhaaGreat
