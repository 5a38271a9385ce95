/- The reference's Shuffle. The reference's count of epochs. The reference's New of a sampler. The reference's Sampler of a run. The reference's Next of a state. The reference's Batch. The reference's Check and Few of examples. The reference's check of an input. The reference's Train. No condition. -/
import Derived.Test.YthamijnggdjaoaaGreatDoorT06
import Derived.Test.YthamijnggdjaoaaGreatDoorT04
import Derived.BigQuiet
import Derived.Deep.QuietTactic
import Derived.Test.YthamijnggdjaoaaGreatDoorT05
import Derived.Test.YthamijnggdjaoaaGreatDoorT01
import Derived.Test.YthamijnggdjaoaaGreatDoorT02
import Derived.Deep.RegionHeld3
set_option linter.unusedSimpArgs false
set_option linter.unusedVariables false
namespace Go.Proofs.YthamijnggdjaoaaGreatDoor
open Go.RowKit
theorem sh_b {q n:Nat} (h:q < n) (h2:n ≤ 1048576):(q:Int) ≤ 1048576:=by omega
theorem sh_m {q n k m:Nat} (h:n - 1 - k = q) (h1:k < m) (h2:m < n):(q:Int) - 1 = (n:Int) - 1 - ((k + 1:Nat):Int):=by omega
theorem sh_t {q:Nat} (h:0 < q):((q:Int) - 1).toNat < (q:Int).toNat:=by omega
set_option maxRecDepth 100000 in
set_option maxHeartbeats 1600000 in
theorem rshuffle_any (n c i:Nat) (A:Option Addr) (l:List Int) (w:World) (hA:Rd w A (nums .u64 l)) (hn:1 ≤ n) (hn2:n ≤ 1048576) (hi:i + (n - 1) ≤ l.length) (hl:l.length ≤ 1048576) (hu:U64 l) :
    Calls Tryz.prog 161 #[.int .i64 n,.agg #[.slice A l.length c,.int .i64 i]] w fun e w' => ∃ v,e = .returned (.tuple #[.agg #[.slice A l.length c,.int .i64 ((i + (n - 1):Nat):Int)],v,.bool true]) ∧ w'.ownsRow w.heap.size 3 1 v n (nums .i64 (permN l n i)) ∧ Below w.heap.size w w':=by
  obtain ⟨m,hm⟩:∃ m,n - 1 = m:=⟨_,rfl⟩
  rw [hm] at hi ⊢
  have hpn:permN l n i = shufN n (drawN l n i) m:=by unfold permN;rw [hm]
  rw [hpn]
  have hmn:m < n:=by omega
  have hnm:n ≤ m + 1:=by omega
  have hnd:=fun w' => rpneed_any n w' hn hn2
  rw [hm] at hnd
  clear hm hpn
  have hnx:=fun k (hk:k < m) w' (q:Rd w' A (nums .u64 l)) => rnext_any c (i + k) (n - k) A l w' q (by omega) (by omega) hu (by omega) (by omega)
  obtain ⟨N,hN⟩:∃ N,l.length = N:=⟨_,rfl⟩
  rw [hN] at hi hl hnx ⊢
  have HA:=Lib.hid hA;have Hnx:=Lib.hid hnx;have Hnd:=Lib.hid hnd;have HN:=Lib.hid hN
  clear hA hnx hnd hu hN
  have hq1:¬ ((n:Int) < 0):=by omega
  have hq2:¬ ((1048576:Int) < n):=by omega
  have hq3:¬ (((N:Int) - i) < m):=by omega
  go_enter Tryz.func161,Tryz.ntmps161
  go_wp2_with fail
  have hw1:IntKind.i64.wrap ((N:Int) - i) = (N:Int) - i:=IntWalk.i64_in _ (by omega)
  go_quiet ((go_at_call 98;refine Calls.quiet_of ((Hnd.out _).mono fun e w' ⟨he,hw⟩ => ⟨he,0,hw.symm⟩)))
  clear hw1 hq1 hq2 hq3
  go_wp2_with fail
  rename_i h9 _ _
  clear h9
  have hz:=(Below.heap_alloc (w.alloc (.cells #[.slice A N c,.int .i64 i] 269)) (.cells #[.slice none 0 0,.int .i64 0] 269) w.heap.size (by simp)).trans (heap_alloc_new w _)
  have hy:=heap_alloc_new (w.alloc (.cells #[.slice A N c,.int .i64 i] 269)) (.cells #[.slice none 0 0,.int .i64 0] 269)
  rw [show (w.alloc (.cells #[.slice A N c,.int .i64 i] 269)).heap.size = w.heap.size + 1 by simp] at hy
  have hB:Below w.heap.size w ((w.alloc (.cells #[.slice A N c,.int .i64 i] 269)).alloc (.cells #[.slice none 0 0,.int .i64 0] 269)):=((Below.refl _ w).alloc (Nat.le_refl _) _).alloc (by simp) _
  obtain ⟨W0,hW0⟩:∃ W0,W0 = ((w.alloc (.cells #[.slice A N c,.int .i64 i] 269)).alloc (.cells #[.slice none 0 0,.int .i64 0] 269)).drewN nq:=⟨_,rfl⟩
  have hz0:W0.heap[w.heap.size]? = some (.cells #[.slice A N c,.int .i64 i] 269 (0,0)):=by rw [hW0];exact hz
  have hy0:W0.heap[w.heap.size + 1]? = some (.cells #[.slice none 0 0,.int .i64 0] 269 (0,0)):=by rw [hW0];exact hy
  have hB0:Below w.heap.size w W0:=by rw [hW0];exact below_drewN hB _
  rw [← hW0]
  clear hW0 hz hy hB
  have hsz0:=hB0.size
  have ly0:=lt_of_block hy0
  have HZ0:=Lib.hid hz0;have HY0:=Lib.hid hy0;have HB0:=Lib.hid hB0
  clear hz0 hy0 hB0
  go_loopw [7,8] (fun v x wr => ∃ k:Nat,k ≤ n ∧ x = .int .i64 k ∧ wr.ownsRow W0.heap.size 3 1 v k (nums .i64 (iota k)) ∧ Below W0.heap.size W0 wr) (fun _ x _ => n - (intOf x).toNat)
  case atStart => exact ⟨0,Nat.zero_le _,rfl,World.ownsRow_nil _ _ _ _,Below.refl _ _⟩
  case round =>
    obtain ⟨k,hk,rfl,hown,hb⟩:=hrel
    by_cases hlt:k < n
    · obtain ⟨Al,cl,rfl,_⟩:=own_form hown
      have Hown:=Lib.hid hown;have Hb:=Lib.hid hb;clear hown hb
      go_wp2_with (at_builtin;refine wpList_push et_ints _ rfl (.tmp 37) (.tmp 39) rfl W0.heap.size (.slice Al k cl) k _ rfl Hown.out [.int .i64 (k:Int)] rfl rfl (nums_cell .i64 [_]) (by omega) (by unfold maxLen;omega) Hb.out.size ?_)
      intro g6 c6 w6 ho6 hb6 hg6
      have hb6':=Hb.out.trans hb6
      have HO6:=Lib.hid ho6;have HB6:=Lib.hid hb6'
      clear ho6 hb6 hg6 hb6'
      go_wp2_with fail
      go_roundw
      case rel =>
        refine ⟨k + 1,by omega,by go_num,?_,HB6.out⟩
        have:iota (k + 1) = iota k ++ [(k:Int)]:=upTo_succ _ _
        rw [this,nums_append];exact HO6.out
      case measure => simp [intOf];omega
    · obtain rfl:n = k:=by omega
      obtain ⟨g,c2,rfl,_⟩:=hown.form hn
      obtain ⟨W1,rfl⟩:∃ W1:World,W1 = wr:=⟨_,rfl⟩
      have hz1:=(hb.block _ (by omega)).trans HZ0.out
      have hy1:=(hb.block _ ly0).trans HY0.out
      have hgl:=hown.lt g rfl
      have hs1:=hb.size
      have HZ1:=Lib.hid hz1;have HY1:=Lib.hid hy1;have HB1:=Lib.hid (HB0.out.trans (hb.mono HB0.out.size));have HO1:=Lib.hid hown
      clear hz1 hy1 hb hown
      go_wp2_with fail
      go_loopw [9] (fun x wr => ∃ k:Nat,k ≤ m ∧ x = .int .i64 ((n:Int) - 1 - k) ∧ wr.heap[w.heap.size]? = some (.cells #[.slice A N c,.int .i64 ((i + k:Nat):Int)] 269 (0,0)) ∧ wr.ownsRow W0.heap.size 3 1 (.slice (some ⟨g,0,none⟩) n c2) n (nums .i64 (shufN n (drawN l n i) k)) ∧ Keep (fun j => j = w.heap.size ∨ j = g) W1 wr) (fun x _ => (intOf x).toNat)
      case atStart => exact ⟨0,Nat.zero_le _,by go_num,HZ1.out,HO1.out,Keep.refl _ _⟩
      case round =>
        obtain ⟨k,hk,rfl,hz,hown,hK⟩:=hrel
        by_cases hlt:k < m
        · obtain ⟨q,hq⟩:∃ q,n - 1 - k = q:=⟨_,rfl⟩
          have hqc:(n:Int) - 1 - k = (q:Int):=by omega
          have hq1:0 < q:=by omega
          have hq2:(0:Int) < q:=by omega
          have hAr:Rd wr A (nums .u64 l):=hK.rd (HA.out.below HB1.out) (fun a ha e => by
            obtain ⟨b,o,e2,hc⟩:=HA.out.num (show 0 < l.length by have:=HN.out;omega)
            rw [ha] at e2;injection e2 with e2;subst e2
            have h5:b < w.heap.size:=lt_of_cell hc
            have h6:b = w.heap.size ∨ b = g:=e
            omega)
          have hnx:=Hnx.out k hlt wr hAr
          rw [← drawN_int l (by omega),show ((n - k:Nat):Int) = (q:Int) + 1 by omega] at hnx
          have hdl:=drawN_lt l (n:=n) (i:=i) (k:=k) (by omega)
          obtain ⟨dk,hdk⟩:∃ dk,drawN l n i k = dk:=⟨_,rfl⟩
          rw [hdk] at hnx hdl
          have Hgs:=Lib.hid (Nat.lt_of_lt_of_le hgl.2 hK.size)
          have Hne3:=Lib.hid (show ¬ g = w.heap.size by omega)
          have hqn:q < n:=by omega
          have hdn:dk < n:=by omega
          have hdi:(dk:Int) < n:=by omega
          have hqi:(q:Int) < n:=by omega
          have hlz:=lt_of_block hz
          obtain ⟨⟨z0,z1⟩,zf⟩:=bx2 hz
          simp only [Int.natCast_add,Int.cast_ofNat_Int] at hnx
          have Hnx2:=Lib.hid hnx;have Hdk:=Lib.hid hdk;have HZ:=Lib.hid hz;have HO:=Lib.hid hown;have HK:=Lib.hid hK;have Hq:=Lib.hid hq
          rw [hqc]
          have hwq:wrap64 ((q:Int) + 1) = (q:Int) + 1:=by unfold wrap64;omega
          have Hqn:=Lib.hid hqn;have Hdn:=Lib.hid hdn;have Hdi:=Lib.hid hdi;have Hqi:=Lib.hid hqi
          clear hnx hdk hz hown hK hAr hq hqc hdl hqn hdn hdi hqi
          go_wp2_with fail
          with_reducible refine Hnx2.out.mono ?_
          rintro e w1 ⟨rfl,hb1⟩
          have hz1:=(hb1.block _ hlz).trans HZ.out
          have hO1:=own_below HO.out hb1
          have p1:=own_num hO1 Hqn.out
          have p2:=own_num hO1 Hdn.out
          have f1:=hO1.frozenAt q
          have f2:=hO1.frozenAt dk
          clear z0 z1 zf
          obtain ⟨⟨z0,z1⟩,zf⟩:=bx2 hz1
          have hlz1:=lt_of_block hz1
          have hs1':=hb1.size
          have HZ1:=Lib.hid hz1;have HO2:=Lib.hid hO1;have Hb1:=Lib.hid hb1
          have Hz1s:=Lib.hid hs1'
          clear hz1 hO1 hb1 p1 p2 f1 f2
          have Hgw1:=Lib.hid (Nat.lt_of_lt_of_le Hgs.out hs1')
          go_upto_region 13 with (fail)
          clear z0 z1 zf
          have e1:=heap_setCell_same w1 w.heap.size 0 _ _ (.slice A N c) HZ1.out
          have e2:=heap_setCell_same _ w.heap.size 1 _ _ (.int .i64 ((i:Int) + k + 1)) e1
          have hk5:Keep (fun j => j = w.heap.size ∨ j = g) w1 (((w1.setCell ⟨w.heap.size,0,none⟩ (.slice A N c)).setCell ⟨w.heap.size,1,none⟩ (.int .i64 ((i:Int) + k + 1))).alloc (.cells #[.slice A N c,.int .i64 ((i:Int) + k + 1)] 269)):=(Keep.setCell (S:=fun j => j = w.heap.size ∨ j = g) (Keep.setCell (S:=fun j => j = w.heap.size ∨ j = g) (Keep.refl _ _) ⟨w.heap.size,0,none⟩ (.inr (.inl rfl)) _) ⟨w.heap.size,1,none⟩ (.inr (.inl rfl)) _).alloc _
          have e3:=(Below.heap_alloc ((w1.setCell ⟨w.heap.size,0,none⟩ (.slice A N c)).setCell ⟨w.heap.size,1,none⟩ (.int .i64 ((i:Int) + k + 1))) (.cells #[.slice A N c,.int .i64 ((i:Int) + k + 1)] 269) w.heap.size (by simpa using hlz1)).trans e2
          have ho5:=((Keep.setCell (S:=fun j => j = w.heap.size) (Keep.setCell (S:=fun j => j = w.heap.size) (Keep.refl _ w1) ⟨w.heap.size,0,none⟩ (.inr rfl) (.slice A N c)) ⟨w.heap.size,1,none⟩ (.inr rfl) (.int .i64 ((i:Int) + k + 1))).alloc (.cells #[.slice A N c,.int .i64 ((i:Int) + k + 1)] 269)).own HO2.out (fun j hj e => Hne3.out (by injection hj with hj;exact hj.trans e))
          obtain ⟨W5,hW5⟩:∃ W5,W5 = ((w1.setCell ⟨w.heap.size,0,none⟩ (.slice A N c)).setCell ⟨w.heap.size,1,none⟩ (.int .i64 ((i:Int) + k + 1))).alloc (.cells #[.slice A N c,.int .i64 ((i:Int) + k + 1)] 269):=⟨_,rfl⟩
          rw [← hW5] at e3 hk5 ho5 ⊢
          clear hW5 e1 e2
          have hlen:=own_len ho5
          have hqn:=Hqn.out;have hdn:=Hdn.out
          have p1:=own_num ho5 hqn
          have p2:=own_num ho5 hdn
          have f1:=ho5.frozenAt q
          have f2:=ho5.frozenAt dk
          have hcm:=swp_comm (p:=shufN n (drawN l n i) k) (i:=q) (j:=dk) (by rw [shufN_len];exact hqn) (by rw [shufN_len];exact hdn)
          have hsx:shufN n (drawN l n i) (k + 1) = swp (shufN n (drawN l n i) k) q dk:=by rw [shufN,Hq.out,Hdk.out]
          obtain ⟨sl,hsl⟩:∃ sl,shufN n (drawN l n i) k = sl:=⟨_,rfl⟩
          rw [hsl] at ho5 p1 p2 hcm hsx
          have Ho5:=Lib.hid ho5;have Hcm:=Lib.hid hcm;have Hqd:=Lib.hid hqn;have Hsx:=Lib.hid hsx;have HK5:=Lib.hid hk5;have HE3:=Lib.hid e3
          have hdi:=Hdi.out;have hqi:=Hqi.out
          clear ho5 hcm hsx hk5 e3 hsl hlen
          go_upto_region 14 with (fail)
          go_upto_region 15 with (fail)
          have ho6:=own_put Ho5.out q (nth sl dk)
          have hk6:Keep (fun j => j = w.heap.size ∨ j = g) w1 (W5.setCell ⟨g,q,none⟩ (.int .i64 (nth sl dk))):=Keep.setCell (S:=fun j => j = w.heap.size ∨ j = g) HK5.out ⟨g,q,none⟩ (.inr (.inr rfl)) _
          have hz6:=((Keep.setCell (S:=fun j => j = g) (Keep.refl _ W5) ⟨g,q,none⟩ (.inr rfl) (.int .i64 (nth sl dk))).block w.heap.size (lt_of_block HE3.out) (fun e => Hne3.out e.symm)).trans HE3.out
          obtain ⟨W6,hW6⟩:∃ W6,W6 = W5.setCell ⟨g,q,none⟩ (.int .i64 (nth sl dk)):=⟨_,rfl⟩
          rw [← hW6] at ho6 hk6 hz6 ⊢
          clear hW6 p1 p2 f1 f2
          have hdn:=Hdn.out
          have p2:=own_num ho6 hdn
          have f2:=ho6.frozenAt dk
          have HO6:=Lib.hid ho6;have HK6:=Lib.hid hk6;have HZ6:=Lib.hid hz6
          clear ho6 hk6 hz6
          go_upto_region 10 with (fail)
          have hqb:=sh_b Hqn.out hn2
          clear p2 f2 hdi hqi hwq
          go_wp2_with fail
          go_roundw
          case rel =>
            refine ⟨k + 1,hlt,congrArg (Value.int .i64) (sh_m Hq.out hlt hmn),?_,?_,?_⟩
            · have h8:=(Keep.setCell (S:=fun j => j = g) (Keep.refl _ W6) ⟨g,dk,none⟩ (.inr rfl) (.int .i64 (nth sl q))).block w.heap.size (lt_of_block HZ6.out) (fun e => Hne3.out e.symm)
              refine h8.trans (HZ6.out.trans ?_)
              simp [Int.add_assoc]
            · rw [Hsx.out]
              exact own_put HO6.out dk _
            · exact HK.out.trans ((Keep.below Hb1.out).trans (Keep.setCell (S:=fun j => j = w.heap.size ∨ j = g) HK6.out ⟨g,dk,none⟩ (.inr (.inr rfl)) _))
          case measure => exact sh_t hq1
        · obtain rfl:m = k:=by omega
          have hy2:=(hK.block _ (by omega) (by omega)).trans HY1.out
          have hB9:Below w.heap.size w wr:=HB1.out.trans (hK.toBelow HB1.out.size (fun j hj => by omega))
          have e1:=heap_setCell_same wr (w.heap.size + 1) 0 _ _ (.slice A N c) hy2
          have e2:=heap_setCell_same _ (w.heap.size + 1) 1 _ _ (.int .i64 ((i:Int) + m)) e1
          have hk9:Keep (fun j => j = w.heap.size + 1) wr ((wr.setCell ⟨w.heap.size + 1,0,none⟩ (.slice A N c)).setCell ⟨w.heap.size + 1,1,none⟩ (.int .i64 ((i:Int) + m))):=Keep.setCell (S:=fun j => j = w.heap.size + 1) (Keep.setCell (S:=fun j => j = w.heap.size + 1) (Keep.refl _ _) _ (.inr rfl) _) _ (.inr rfl) _
          have hm9:=hk9.own hown (fun j hj e => by injection hj with hj;have h1:g = j:=hj;omega)
          obtain ⟨⟨z0,z1⟩,zf⟩:=bx2 hz
          obtain ⟨⟨y0,y1⟩,yf⟩:=bx2 hy2
          have Hm9:=Lib.hid hm9;have Hbf:=Lib.hid (hB9.trans (hk9.toBelow hB9.size (fun j hj => by omega)));have E2:=Lib.hid e2
          clear hm9 hB9 hk9 e1 e2 hK hown hz hy2
          go_wp2_with fail
          have e3:=E2.out
          have hm9:=Hm9.out
          have hbf:=Hbf.out
          obtain ⟨W9,hW9⟩:∃ W9,W9 = (wr.setCell ⟨w.heap.size + 1,0,none⟩ (.slice A N c)).setCell ⟨w.heap.size + 1,1,none⟩ (.int .i64 ((i:Int) + m)):=⟨_,rfl⟩
          rw [← hW9] at e3 hm9 hbf ⊢
          clear hW9
          have e3:W9.heap[w.heap.size + 1]? = some (.cells #[.slice A N c,.int .i64 ((i:Int) + m)] 269 (0,0)):=by simpa using e3
          clear y0 y1 yf z0 z1 zf
          obtain ⟨⟨r0,r1⟩,rf⟩:=bx2 e3
          exact bodyPost_ret (v:=.tuple #[.agg #[.slice A N c,.int .i64 ((i:Int) + m)],.slice (some ⟨g,0,none⟩) n c2,.bool true]) (by simp [results,Tryz.results161,go_sem,r0,r1]) rfl ⟨_,by rw [Int.natCast_add],own_base hm9 (by omega),hbf⟩
end Go.Proofs.YthamijnggdjaoaaGreatDoor
namespace Go.Proofs.YthamijnggdjaoaaGreatDoor
open Go.RowKit
set_option maxRecDepth 100000 in
theorem epochs12_any (n bt sn:Nat) (w:World) (hb:1 ≤ bt ∧ bt ≤ n) (hn:n ≤ 1048576) (hs:sn ≤ 1048576) :
    Calls Tryz.prog 160 #[.int .i64 n,.int .i64 bt,.int .i64 sn] w fun e w' => e = .returned (.int .i64 (epN n bt sn:Int)) ∧ w = w':=by
  obtain ⟨per,hper⟩:∃ per,n / bt = per:=⟨_,rfl⟩
  have hper1:1 ≤ per:=by rw [← hper];exact Nat.div_pos (by omega) (by omega)
  have hper2:per ≤ n:=by rw [← hper];exact Nat.div_le_self _ _
  have hE:epN n bt sn = (sn + per - 1) / per:=by unfold epN;rw [hper,cntQ_eq _ _ hper1]
  rw [hE]
  have hEl:(sn + per - 1) / per ≤ sn + per - 1:=Nat.div_le_self _ _
  have hc1:=fun t => ceil_ge (sn:=sn) (t:=t) hper1
  have hc2:=fun t => ceil_lt (sn:=sn) (t:=t) hper1
  obtain ⟨E,hE2⟩:∃ E,(sn + per - 1) / per = E:=⟨_,rfl⟩
  rw [hE2] at hEl hc1 hc2 ⊢
  have hq1:(n:Int).tdiv (bt:Int) = (per:Int):=by rw [← hper];rfl
  have hq1':(n:Int) / (bt:Int) = (per:Int):=by rw [← hper];rfl
  have hq3:¬ (bt = 0):=by omega
  have Hc1:=Lib.hid hc1;have Hc2:=Lib.hid hc2
  clear hper hE hE2 hc1 hc2
  go_enter Tryz.func160,Tryz.ntmps160
  go_wp2_with fail
  go_loopw [7,8] (fun t i wr => ∃ k m:Nat,k ≤ E ∧ t = .int .i64 k ∧ i = .int .i64 m ∧ Hid (m = k * per) ∧ m < sn + per ∧ wr = w) (fun _ i _ => sn - (intOf i).toNat)
  case atStart => exact ⟨0,0,Nat.zero_le _,rfl,rfl,Lib.hid (by omega),by omega,rfl⟩
  case round =>
    obtain ⟨k,m,hk,rfl,rfl,Hm,hm,rfl⟩:=hrel
    by_cases hlt:m < sn
    · have hlti:(m:Int) < sn:=by omega
      go_wp2_with fail
      go_roundw
      case rel => exact ⟨k + 1,m + per,Hc1.out k (by rw [← Hm.out];exact hlt),by go_num,by go_num,Lib.hid (by rw [Hm.out,Nat.succ_mul]),by omega,trivial⟩
      case measure => simp [intOf];omega
    · obtain rfl:k = E:=by
        rcases Nat.lt_or_ge k E with h | h
        · exact absurd (Hc2.out k h) (by rw [← Hm.out];exact hlt)
        · omega
      go_wp2_with fail
      go_ret
      exact ⟨rfl,rfl⟩
set_option maxRecDepth 100000 in
theorem repoch_any (n bt sn t c:Nat) (A:Option Addr) (ol:Nat) (w:World) (hb:1 ≤ bt ∧ bt ≤ n) (hn:n ≤ 1048576) (hs:sn ≤ 1048576) (ht:t < sn) :
    Calls Tryz.prog 121 #[.agg #[.int .i64 n,.int .i64 bt,.int .i64 sn,.slice A ol c],.int .i64 t] w fun e w' => e = .returned (.tuple #[.int .i64 (t / (n / bt):Nat),.int .i64 (t % (n / bt):Nat),.bool true]) ∧ Below w.heap.size w w':=by
  obtain ⟨per,hper⟩:∃ per,n / bt = per:=⟨_,rfl⟩
  have hper1:1 ≤ per:=by rw [← hper];exact Nat.div_pos (by omega) (by omega)
  have hper2:per ≤ n:=by rw [← hper];exact Nat.div_le_self _ _
  have hq1:(n:Int).tdiv (bt:Int) = (per:Int):=by rw [← hper];rfl
  have hq1':(n:Int) / (bt:Int) = (per:Int):=by rw [← hper];rfl
  rw [hper]
  have hd1:t / per ≤ t:=Nat.div_le_self _ _
  have hd2:t % per < per:=Nat.mod_lt _ (by omega)
  have hq2:(t:Int).tdiv (per:Int) = ((t / per:Nat):Int):=rfl
  have hq2':(t:Int) / (per:Int) = ((t / per:Nat):Int):=rfl
  have hq4:(t:Int).tmod (per:Int) = ((t % per:Nat):Int):=rfl
  have hq4':(t:Int) % (per:Int) = ((t % per:Nat):Int):=rfl
  obtain ⟨E,hE⟩:∃ E,t / per = E:=⟨_,rfl⟩
  obtain ⟨M,hM⟩:∃ M,t % per = M:=⟨_,rfl⟩
  rw [hE] at hd1 hq2 hq2' ⊢
  rw [hM] at hd2 hq4 hq4' ⊢
  have hq3:¬ (bt = 0):=by omega
  have hq5:¬ (per = 0):=by omega
  have hti:¬ ((sn:Int) ≤ t):=by omega
  have hti':(t:Int) < sn:=by omega
  clear hper hE hM
  go_enter Tryz.func121,Tryz.ntmps121
  go_wp2_with fail
  go_quiet (fail)
  go_wp2_with fail
  exact bodyPost_ret (v:=.tuple #[.int .i64 (E:Int),.int .i64 (M:Int),.bool true]) (by simp [results,Tryz.results121,go_sem]) rfl ⟨rfl,below_drewN ((Below.refl _ w).alloc (Nat.le_refl _) _) _⟩
end Go.Proofs.YthamijnggdjaoaaGreatDoor
namespace Go.Proofs.YthamijnggdjaoaaGreatDoor
open Go.RowKit
def OrdI (l:List Int) (n B k:Nat) (v:Value) (vs:List Value) (w:World):Prop:=w.ownsRow B 22 1 v k vs ∧ ∀ j,j < k → ∃ A' c',vs[j]? = some (.slice A' n c') ∧ n ≤ c' ∧ w.ownsRow B 3 1 (.slice A' n c') n (nums .i64 (permN l n (j * (n - 1))))
theorem OrdI.below {l:List Int} {n B k:Nat} {v:Value} {vs:List Value} {w w':World} (h:OrdI l n B k v vs w) (hb:Below w.heap.size w w'):OrdI l n B k v vs w':=
  ⟨own_below h.1 hb,fun j hj => by obtain ⟨A',c',k1,k2,k3⟩:=h.2 j hj;exact ⟨A',c',k1,k2,own_below k3 hb⟩⟩
theorem OrdI.keep {l:List Int} {n B k:Nat} {v:Value} {vs:List Value} {S:Nat → Prop} {w w':World} (h:OrdI l n B k v vs w) (hk:Keep S w w') (hS:∀ k,S k → k < B):OrdI l n B k v vs w':=
  ⟨hk.own h.1 (fun j hj e => by have:=(h.1.lt j hj).1;have:=hS j e;omega),fun j hj => by
    obtain ⟨A',c',k1,k2,k3⟩:=h.2 j hj
    exact ⟨A',c',k1,k2,hk.own k3 (fun j hj e => by have:=(k3.lt j hj).1;have:=hS j e;omega)⟩⟩
theorem OrdI.base {l:List Int} {n B B' k:Nat} {v:Value} {vs:List Value} {w:World} (h:OrdI l n B k v vs w) (hb:B' ≤ B):OrdI l n B' k v vs w:=
  ⟨own_base h.1 hb,fun j hj => by obtain ⟨A',c',k1,k2,k3⟩:=h.2 j hj;exact ⟨A',c',k1,k2,own_base k3 hb⟩⟩
theorem OrdI.push {l:List Int} {n B k:Nat} {v v':Value} {vs:List Value} {w w':World} {A:Option Addr} {c:Nat} (h:OrdI l n B k v vs w) (hr:w.ownsRow B 3 1 (.slice A n c) n (nums .i64 (permN l n (k * (n - 1))))) (hc:n ≤ c)
    (ho:w'.ownsRow B 22 1 v' (k + 1) (vs ++ [.slice A n c])) (hg:w.grownBy w' v.ownBlock):OrdI l n B (k + 1) v' (vs ++ [.slice A n c]) w':=
  ⟨ho,fun j hj => by
    have hvl:vs.length = k:=by have:=h.1.1;simpa using this
    rcases Nat.lt_or_ge j k with q | q
    · obtain ⟨A',c',k1,k2,k3⟩:=h.2 j q
      exact ⟨A',c',by rw [List.getElem?_append_left (by omega)];exact k1,k2,own_pushed k3 h.1 hg (by decide)⟩
    · obtain rfl:j = k:=by omega
      exact ⟨A,c,by rw [List.getElem?_append_right (by omega),hvl];simp,hc,own_pushed hr h.1 hg (by decide)⟩⟩
theorem OrdI.rd {l:List Int} {n B k c:Nat} {A:Option Addr} {vs:List Value} {w:World} (h:OrdI l n B k (.slice A k c) vs w) (hn:n ≤ 1048576):SlRd rVec 1 w A (ordersN l n k):=by
  have hvl:vs.length = k:=by have:=h.1.1;simpa using this
  refine slrd_one (Rd.own h.1) (by rw [hvl,ordersN_len]) fun j x hx => ?_
  have hj:j < k:=by rw [← ordersN_len l n k];exact (List.getElem?_eq_some_iff.1 hx).1
  rw [ordersN_at l n hj] at hx;injection hx with hx
  obtain ⟨A',c',k1,k2,k3⟩:=h.2 j hj
  refine ⟨_,k1,A',c',?_,?_,?_,?_⟩
  · rw [← hx,permN_len]
  · rw [← hx,permN_len];exact k2
  · rw [← hx,permN_len];omega
  · rw [← hx];exact Rd.own k3
theorem nw_mul {k E m:Nat} (h:k < E) {N:Nat} (h2:E * m ≤ N):k * m + m ≤ N:=by
  have h1:(k + 1) * m ≤ E * m:=Nat.mul_le_mul_right _ h
  rw [Nat.succ_mul] at h1;omega
def RNew12Is (l:List Int) (n b steps E:Nat) (w:World) (e:Ending) (w':World):Prop:=∃ A c,e = .returned (.tuple #[.agg #[.int .i64 n,.int .i64 b,.int .i64 steps,.slice A E c],.int .i64 0]) ∧ (∃ vs,OrdI l n w.heap.size E (.slice A E c) vs w') ∧ Below w.heap.size w w'
set_option maxRecDepth 100000 in
set_option maxHeartbeats 1000000 in
theorem rnew12_any (n b steps E c:Nat) (A:Option Addr) (l:List Int) (w:World) (hA:Rd w A (nums .u64 l)) (hl:l.length ≤ 1048576) (hu:U64 l) (hb:1 ≤ b) (hbn:b ≤ n) (hn:n ≤ 1048576) (hst:steps ≤ 1048576) (hE:epN n b steps = E) (hd:E * (n - 1) ≤ l.length) :
    Calls Tryz.prog 118 #[.int .i64 n,.int .i64 b,.int .i64 steps,.slice A l.length c] w (RNew12Is l n b steps E w):=by
  have hEs:E ≤ steps:=by rw [← hE];exact cntQ_le _ _
  have hep:=fun w' => epochs12_any n b steps w' ⟨hb,hbn⟩ hn hst
  rw [hE] at hep
  have hnd:=fun w' => rpneed_any n w' (by omega) hn
  obtain ⟨m,hm⟩:∃ m,n - 1 = m:=⟨_,rfl⟩
  have hsh:=fun k w' (hk:k * m + m ≤ l.length) (q:Rd w' A (nums .u64 l)) => rshuffle_any n c (k * m) A l w' q (by omega) hn (by rw [hm];exact hk) hl hu
  rw [hm] at hd hnd
  simp only [hm] at hsh
  obtain ⟨N,hN⟩:∃ N,l.length = N:=⟨_,rfl⟩
  rw [hN] at hd hl hsh ⊢
  have q1:¬ ((n:Int) < 1):=by omega
  have q2:¬ ((1048576:Int) < n):=by omega
  have q3:¬ ((steps:Int) < 0):=by omega
  have q4:¬ ((1048576:Int) < steps):=by omega
  have q5:¬ ((b:Int) < 1):=by omega
  have q6:¬ ((n:Int) < b):=by omega
  have hEm:(E:Int) * (m:Int) = ((E * m:Nat):Int):=by push_cast;rfl
  have q7:¬ ((N:Int) < (E:Int) * (m:Int)):=by rw [hEm];omega
  have q8:wrap64 ((E:Int) * (m:Int)) = (E:Int) * (m:Int):=by rw [hEm];unfold wrap64;omega
  have Q7:=Lib.hid q7;have Q8:=Lib.hid q8
  clear hEm q7 q8
  have HA:=Lib.hid hA;have Hep:=Lib.hid hep;have Hnd:=Lib.hid hnd;have Hsh:=Lib.hid hsh;have Hd:=Lib.hid hd;have Hm:=Lib.hid hm;have HN:=Lib.hid hN
  clear hA hep hnd hsh hd hu hE hb hbn hm hN
  have hz:=(Below.heap_alloc (w.alloc (.cells #[.int .i64 0,.int .i64 0,.int .i64 0,.slice none 0 0] 153)) (.cells #[.int .i64 n,.int .i64 b,.int .i64 steps,.slice none 0 0] 153) w.heap.size (by simp)).trans (heap_alloc_new w _)
  have hy:=heap_alloc_new (w.alloc (.cells #[.int .i64 0,.int .i64 0,.int .i64 0,.slice none 0 0] 153)) (.cells #[.int .i64 n,.int .i64 b,.int .i64 steps,.slice none 0 0] 153)
  rw [show (w.alloc (.cells #[.int .i64 0,.int .i64 0,.int .i64 0,.slice none 0 0] 153)).heap.size = w.heap.size + 1 by simp] at hy
  have hB:Below w.heap.size w ((w.alloc (.cells #[.int .i64 0,.int .i64 0,.int .i64 0,.slice none 0 0] 153)).alloc (.cells #[.int .i64 n,.int .i64 b,.int .i64 steps,.slice none 0 0] 153)):=((Below.refl _ w).alloc (Nat.le_refl _) _).alloc (by simp) _
  have hsz:((w.alloc (.cells #[.int .i64 0,.int .i64 0,.int .i64 0,.slice none 0 0] 153)).alloc (.cells #[.int .i64 n,.int .i64 b,.int .i64 steps,.slice none 0 0] 153)).heap.size = w.heap.size + 2:=by simp
  have HZ:=Lib.hid hz;have HY:=Lib.hid hy;have HB:=Lib.hid hB;have HSz:=Lib.hid hsz
  clear hz hy hB hsz
  go_enter Tryz.func118,Tryz.ntmps118
  go_wp2_with fail
  refine (Hep.out _).mono ?_
  rintro e w' ⟨rfl,rfl⟩
  clear q1 q2 q3 q4 q5 q6
  go_wp2_with fail
  refine (Hnd.out _).mono ?_
  rintro e w' ⟨rfl,rfl⟩
  have hz:=HZ.out;have hy:=HY.out;have hB:=HB.out;have hsz:=HSz.out
  generalize (w.alloc (.cells #[.int .i64 0,.int .i64 0,.int .i64 0,.slice none 0 0] 153)).alloc (.cells #[.int .i64 n,.int .i64 b,.int .i64 steps,.slice none 0 0] 153) = W1 at hz hy hB hsz ⊢
  have Hz1:=Lib.hid hz;have Hy1:=Lib.hid hy;have HB1:=Lib.hid hB;have Hs1:=Lib.hid hsz
  clear hz hy hB hsz HZ HY HB HSz
  have q7:=Q7.out;have q8:=Q8.out
  go_wp2_with fail
  clear q7 q8
  rw [Hs1.out]
  have hx:=heap_alloc_new W1 (.cells #[.slice A N c,.int .i64 0] 269)
  rw [Hs1.out] at hx
  have hz2:=(Below.heap_alloc W1 (.cells #[.slice A N c,.int .i64 0] 269) w.heap.size (by rw [Hs1.out];omega)).trans Hz1.out
  have hy2:=(Below.heap_alloc W1 (.cells #[.slice A N c,.int .i64 0] 269) (w.heap.size + 1) (by rw [Hs1.out];omega)).trans Hy1.out
  have hB2:=HB1.out.alloc (by rw [Hs1.out];omega) (.cells #[.slice A N c,.int .i64 0] 269)
  have hs2:(W1.alloc (.cells #[.slice A N c,.int .i64 0] 269)).heap.size = w.heap.size + 3:=by simp [Hs1.out]
  generalize W1.alloc (.cells #[.slice A N c,.int .i64 0] 269) = W0 at hx hz2 hy2 hB2 hs2 ⊢
  have HX:=Lib.hid hx;have HZ:=Lib.hid hz2;have HY:=Lib.hid hy2;have HB:=Lib.hid hB2;have HS:=Lib.hid hs2
  clear hx hz2 hy2 hB2 Hz1 Hy1 HB1 Hs1 W1
  go_loopw [13] (fun x wr => ∃ (k:Nat) (Ao:Option Addr) (co:Nat) (vs:List Value),k ≤ E ∧ x = .int .i64 k ∧ wr.heap[w.heap.size + 1]? = some (.cells #[.int .i64 n,.int .i64 b,.int .i64 steps,.slice Ao k co] 153 (0,0)) ∧
    wr.heap[w.heap.size + 2]? = some (.cells #[.slice A N c,.int .i64 ((k * m:Nat):Int)] 269 (0,0)) ∧ OrdI l n (w.heap.size + 3) k (.slice Ao k co) vs wr ∧ Keep (fun j => j = w.heap.size + 1 ∨ j = w.heap.size + 2) W0 wr) (fun x _ => E - (intOf x).toNat)
  case atStart => exact ⟨0,none,0,[],Nat.zero_le _,rfl,HY.out,by rw [Nat.zero_mul];exact HX.out,⟨World.ownsRow_nil _ _ _ _,fun j hj => by omega⟩,Keep.refl _ _⟩
  case round =>
    obtain ⟨k,Ao,co,vs,hk,rfl,hy,hx,hO,hK⟩:=hrel
    have hrs:=hK.size
    rw [HS.out] at hrs
    by_cases hlt:k < E
    · have hlti:(k:Int) < E:=by omega
      have hAr:Rd wr A (nums .u64 l):=keep_rd hK HA.out (HA.out.below HB.out) (fun j hj => by omega)
      have hsh:=Hsh.out k wr (nw_mul hlt Hd.out) hAr
      have Hsh2:=Lib.hid hsh
      have HO:=Lib.hid hO;have HK:=Lib.hid hK;have HYr:=Lib.hid hy;have HXr:=Lib.hid hx
      obtain ⟨⟨x0,x1⟩,xf⟩:=bx2 hx
      have hlx:=lt_of_block hx
      clear hsh hO hK hy hx hAr
      go_wp2_with fail
      refine Hsh2.out.mono ?_
      rintro e w1 ⟨v,rfl,hrow,hb1⟩
      obtain ⟨Av,cv,rfl,hcv⟩:=own_form hrow
      clear x0 x1 xf Hsh2
      have hx1:=(hb1.block _ hlx).trans HXr.out
      have hy1:=(hb1.block _ (by omega)).trans HYr.out
      have hO1:=HO.out.below hb1
      have hr1:=own_base hrow hrs
      have hs1:=hb1.size
      obtain ⟨⟨x0,x1⟩,xf⟩:=bx2 hx1
      have hlx1:=lt_of_block hx1
      have HX1:=Lib.hid hx1;have HY1:=Lib.hid hy1;have HO1:=Lib.hid hO1;have HR1:=Lib.hid hr1;have HB1:=Lib.hid hb1;have HS1:=Lib.hid hs1;have HCV:=Lib.hid hcv
      clear hx1 hy1 hO1 hr1 hb1 hs1 hrow hcv
      go_upto_region 15 with (fail)
      obtain ⟨e2,k2⟩:=store2 w1 (w.heap.size + 2) (.slice A N c) (.int .i64 ((k:Int) * m + m)) HX1.out
      have k5:=k2.alloc (.cells #[.slice A N c,.int .i64 ((k:Int) * m + m)] 269)
      have e5:=(Below.heap_alloc ((w1.setCell ⟨w.heap.size + 2,0,none⟩ (.slice A N c)).setCell ⟨w.heap.size + 2,1,none⟩ (.int .i64 ((k:Int) * m + m))) (.cells #[.slice A N c,.int .i64 ((k:Int) * m + m)] 269) (w.heap.size + 2) (by simpa using hlx1)).trans e2
      generalize ((w1.setCell ⟨w.heap.size + 2,0,none⟩ (.slice A N c)).setCell ⟨w.heap.size + 2,1,none⟩ (.int .i64 ((k:Int) * m + m))).alloc (.cells #[.slice A N c,.int .i64 ((k:Int) * m + m)] 269) = W5 at k5 e5 ⊢
      have hz5:=Nat.le_trans (Nat.le_trans hrs HS1.out) k5.size
      have hy5:=(k5.block _ (lt_of_block HY1.out) (by omega)).trans HY1.out
      have hO5:=HO1.out.keep k5 (fun j hj => by omega)
      have hr5:=k5.own HR1.out (fun j hj e => by have:=(HR1.out.lt j hj).1;omega)
      have hK5:Keep (fun j => j = w.heap.size + 1 ∨ j = w.heap.size + 2) W0 W5:=(HK.out.trans (Keep.below HB1.out)).trans (k5.mono fun j _ h => .inr h)
      have hx5:W5.heap[w.heap.size + 2]? = some (.cells #[.slice A N c,.int .i64 ((((k + 1) * m:Nat)):Int)] 269 (0,0)):=by rw [e5,Nat.succ_mul];push_cast;rfl
      clear x0 x1 xf e2 k2 e5 k5
      obtain ⟨⟨y0,y1,y2,y3⟩,yf⟩:=bx4 hy5
      have HX5:=Lib.hid hx5;have HY5:=Lib.hid hy5;have HO5:=Lib.hid hO5;have HR5:=Lib.hid hr5;have HK5:=Lib.hid hK5
      have hly5:=lt_of_block hy5
      clear hx5 hy5 hO5 hr5 hK5
      go_wp2_with (at_builtin;refine wpList_push et_intss W5 rfl (.tmp 72) (.tmp 74) rfl (w.heap.size + 3) (.slice Ao k co) k vs rfl HO5.out.1 [.slice Av n cv] rfl rfl (by simp [Value.oneCell']) (by omega) (by unfold maxLen;omega) hz5 ?_)
      intro g6 c6 w6 ho6 hb6 hg6
      have hO6:=HO5.out.push (by have h:=HR5.out;rw [← Hm.out] at h;exact h) HCV.out ho6 hg6
      have hy6:=(hb6.block _ (by omega)).trans HY5.out
      have hx6:=(hb6.block _ (by omega)).trans HX5.out
      have hK6:=HK5.out.below2 (by rw [HS.out];exact hb6)
      have hgb:g6 ≠ w.heap.size + 1:=fun e => by
        have:=(ho6.lt g6 rfl).1
        omega
      obtain ⟨⟨z0,z1,z2,z3⟩,zf⟩:=bx4 hy6
      have hly6:=lt_of_block hy6
      have HX6:=Lib.hid hx6;have HY6:=Lib.hid hy6;have HO6:=Lib.hid hO6;have HK6:=Lib.hid hK6
      clear hx6 hy6 hO6 hK6 ho6 hb6 hg6 y0 y1 y2 y3 yf hgb
      go_wp2_with fail
      go_roundw
      case rel =>
        have e1:=heap_setCell_same w6 (w.heap.size + 1) 3 _ _ (.slice (some ⟨g6,0,none⟩) (k + 1) c6) HY6.out
        have k1:Keep (fun j => j = w.heap.size + 1) w6 (w6.setCell ⟨w.heap.size + 1,3,none⟩ (.slice (some ⟨g6,0,none⟩) (k + 1) c6)):=Keep.setCell (S:=fun j => j = w.heap.size + 1) (Keep.refl _ _) _ (.inr rfl) _
        exact ⟨k + 1,some ⟨g6,0,none⟩,c6,_,hlt,by go_num,by simpa using e1,(k1.block _ (lt_of_block HX6.out) (by omega)).trans HX6.out,HO6.out.keep k1 (fun j hj => by omega),HK6.out.trans (k1.mono fun j _ h => .inl h)⟩
      case measure => simp [intOf];omega
    · obtain rfl:E = k:=by omega
      have hz:=(hK.block _ (by rw [HS.out];omega) (by omega)).trans HZ.out
      have hBw:Below w.heap.size w wr:=HB.out.trans (hK.toBelow (by rw [HS.out];omega) (fun j hj => by omega))
      obtain ⟨e4,k4⟩:=store4 wr w.heap.size (.int .i64 n) (.int .i64 b) (.int .i64 steps) (.slice Ao E co) hz
      have hO9:=(hO.keep k4 (fun j hj => by omega)).base (show w.heap.size ≤ w.heap.size + 3 by omega)
      have hB9:Below w.heap.size w ((((wr.setCell ⟨w.heap.size,0,none⟩ (.int .i64 n)).setCell ⟨w.heap.size,1,none⟩ (.int .i64 b)).setCell ⟨w.heap.size,2,none⟩ (.int .i64 steps)).setCell ⟨w.heap.size,3,none⟩ (.slice Ao E co)):=hBw.trans (k4.toBelow hBw.size (fun j hj => by omega))
      obtain ⟨⟨y0,y1,y2,y3⟩,yf⟩:=bx4 hy
      obtain ⟨⟨z0,z1,z2,z3⟩,zf⟩:=bx4 hz
      have E4:=Lib.hid e4;have HO9:=Lib.hid hO9;have HB9:=Lib.hid hB9
      clear e4 k4 hO9 hB9 hO hK hx hy hz hBw
      go_wp2_with fail
      have e3:=E4.out
      have ho9:=HO9.out
      have hb9:=HB9.out
      generalize ((((wr.setCell ⟨w.heap.size,0,none⟩ (.int .i64 n)).setCell ⟨w.heap.size,1,none⟩ (.int .i64 b)).setCell ⟨w.heap.size,2,none⟩ (.int .i64 steps)).setCell ⟨w.heap.size,3,none⟩ (.slice Ao E co)) = W9 at e3 ho9 hb9 ⊢
      clear y0 y1 y2 y3 yf z0 z1 z2 z3 zf
      obtain ⟨⟨r0,r1,r2,r3⟩,rf⟩:=bx4 e3
      exact bodyPost_ret (v:=.tuple #[.agg #[.int .i64 n,.int .i64 b,.int .i64 steps,.slice Ao E co],.int .i64 0]) (by simp [results,Tryz.results118,go_sem,r0,r1,r2,r3]) rfl ⟨_,_,rfl,⟨_,ho9⟩,hb9⟩
end Go.Proofs.YthamijnggdjaoaaGreatDoor
namespace Go.Proofs.YthamijnggdjaoaaGreatDoor
open Go.RowKit
def epI (i:Inp):Nat:=epN i.data.length i.cfg.batch.toNat i.cfg.steps.toNat
def RSamp14Is (i:Inp) (w:World) (e:Ending) (w':World):Prop:=∃ A c,e = .returned (.agg #[.int .i64 i.data.length,.int .i64 i.cfg.batch,.int .i64 i.cfg.steps,.slice A (epI i) c]) ∧ (∃ vs,OrdI i.draws i.data.length w.heap.size (epI i) (.slice A (epI i) c) vs w') ∧ Below w.heap.size w w'
set_option maxRecDepth 100000 in
set_option maxHeartbeats 1000000 in
theorem rsamp14_any (A:Option Addr) (c:Nat) (D:Option Addr) (cd:Nat) (T:Option Addr) (ct:Nat) (R:Option Addr) (cr:Nat) (i:Inp) (w:World) (hg:GoodIn i) (hR:Rd w R (nums .u64 i.draws)) (hRl:i.draws.length ≤ 1048576) (hu:U64 i.draws) :
    Calls Tryz.prog 75 #[.agg (inpVals A c D cd T ct R cr i)] w (RSamp14Is i w):=by
  have hgb:=hg.b
  have hgd:=hg.d
  have hb1:1 ≤ i.cfg.batch:=by have:=hg.c.w;have:=hg.c.ba;omega
  have hst:=hg.c.st
  have hnew:=fun w' (q:Below w.heap.size w w') => rnew12_any i.data.length i.cfg.batch.toNat i.cfg.steps.toNat (epI i) cr R i.draws w' (hR.below q) hRl hu (by omega) (by omega) hgb.2 (by omega) rfl hgd
  rw [Int.toNat_of_nonneg (show 0 ≤ i.cfg.batch by omega),Int.toNat_of_nonneg (show 0 ≤ i.cfg.steps by omega)] at hnew
  have hbl:(w.alloc (.cells (inpVals A c D cd T ct R cr i) 29)).heap.size = w.heap.size + 1:=by simp
  have hbx:=blk_new w (inpVals A c D cd T ct R cr i) 29 rfl
  have hb0:Below w.heap.size w (w.alloc (.cells (inpVals A c D cd T ct R cr i) 29)):=(Below.refl _ w).alloc (Nat.le_refl _) _
  have hbx2:=blk_alloc hbx (.cells #[.int .i64 0,.int .i64 0,.int .i64 0,.slice none 0 0] 153)
  have hby2:=blk_new _ #[.int .i64 0,.int .i64 0,.int .i64 0,.slice none 0 0] 153 hbl
  have hb2:=hb0.alloc (by rw [hbl];omega) (.cells #[.int .i64 0,.int .i64 0,.int .i64 0,.slice none 0 0] 153)
  obtain ⟨W1,hW1⟩:∃ W1,W1 = (w.alloc (.cells (inpVals A c D cd T ct R cr i) 29)).alloc (.cells #[.int .i64 0,.int .i64 0,.int .i64 0,.slice none 0 0] 153):=⟨_,rfl⟩
  rw [← hW1] at hbx2 hby2 hb2
  have Hq:=Lib.hid (show 0 ≤ i.cfg.batch ∧ 0 ≤ i.cfg.steps by omega)
  have HX:=Lib.hid hbx2;have HY:=Lib.hid hby2;have HB:=Lib.hid hb2;have Hnew:=Lib.hid hnew
  clear hbx hbx2 hby2 hb2 hnew hb0 hbl hgb hgd hb1 hst hu hRl hR hg
  dsimp only [inpVals] at hW1
  go_enter Tryz.func75,Tryz.ntmps75
  dsimp only [inpVals]
  go_wp2_with fail
  rw [← hW1]
  refine (Hnew.out W1 HB.out).mono ?_
  rintro e w2 ⟨A2,c2,rfl,⟨vs,hO⟩,hb2⟩
  have hy2:=(hb2.block _ (lt_of_block HY.out)).trans HY.out
  have hB2:=HB.out.trans (hb2.mono HB.out.size)
  rw [Int.toNat_of_nonneg Hq.out.1,Int.toNat_of_nonneg Hq.out.2]
  obtain ⟨e4,k4⟩:=store4 w2 (w.heap.size + 1) (.int .i64 i.data.length) (.int .i64 i.cfg.batch) (.int .i64 i.cfg.steps) (.slice A2 (epI i) c2) hy2
  have e5:=blk_alloc e4 (.cells #[.int .i64 i.data.length,.int .i64 i.cfg.batch,.int .i64 i.cfg.steps,.slice A2 (epI i) c2] 153)
  have hB4:=hB2.trans (k4.toBelow hB2.size (fun j hj => by omega))
  have hB5:=hB4.alloc hB4.size (.cells #[.int .i64 i.data.length,.int .i64 i.cfg.batch,.int .i64 i.cfg.steps,.slice A2 (epI i) c2] 153)
  have hO5:=((hO.keep k4 (fun j hj => by have:=lt_of_block HY.out;omega)).base HB.out.size).below ((Below.refl _ _).alloc (Nat.le_refl _) (.cells #[.int .i64 i.data.length,.int .i64 i.cfg.batch,.int .i64 i.cfg.steps,.slice A2 (epI i) c2] 153))
  have ly:=lt_of_block hy2
  obtain ⟨⟨y0,y1,y2,y3⟩,yf⟩:=bx4 hy2
  have E5:=Lib.hid e5;have HB5:=Lib.hid hB5;have HO5:=Lib.hid hO5
  clear e4 k4 e5 hB4 hB5 hO5 hO hb2 hB2 hy2
  go_wp2_with fail
  have e5:=E5.out;have hB5:=HB5.out;have hO5:=HO5.out
  generalize ((((w2.setCell ⟨w.heap.size + 1,0,none⟩ (.int .i64 i.data.length)).setCell ⟨w.heap.size + 1,1,none⟩ (.int .i64 i.cfg.batch)).setCell ⟨w.heap.size + 1,2,none⟩ (.int .i64 i.cfg.steps)).setCell ⟨w.heap.size + 1,3,none⟩ (.slice A2 (epI i) c2)).alloc (.cells #[.int .i64 i.data.length,.int .i64 i.cfg.batch,.int .i64 i.cfg.steps,.slice A2 (epI i) c2] 153) = W9 at e5 hB5 hO5 ⊢
  clear y0 y1 y2 y3 yf
  obtain ⟨⟨r0,r1,r2,r3⟩,rf⟩:=bx4 e5
  exact bodyPost_ret (v:=.agg #[.int .i64 i.data.length,.int .i64 i.cfg.batch,.int .i64 i.cfg.steps,.slice A2 (epI i) c2]) (by simp [results,Tryz.results75,go_sem,r0,r1,r2,r3]) rfl ⟨_,_,rfl,⟨_,hO5⟩,hB5⟩
end Go.Proofs.YthamijnggdjaoaaGreatDoor
namespace Go.Proofs.YthamijnggdjaoaaGreatDoor
open Go.RowKit
def NxtI (ra mo q:Int) (P M g:List Int) (b B k:Nat) (W0 w:World):Prop:=∃ A1 c1 A2 c2,w.heap[b]? = some (.cells #[.slice A1 k c1,.slice A2 k c2] 84 (0,0)) ∧
  w.ownsRow B 2 1 (.slice A1 k c1) k (nums .i64 (upTo k fun j => stepP ra q (nth P j) (stepM mo q (nth M j) (nth g j)))) ∧
  w.ownsRow B 2 1 (.slice A2 k c2) k (nums .i64 (upTo k fun j => stepM mo q (nth M j) (nth g j))) ∧
  (∀ i,(Value.slice A1 k c1).ownBlock = some i → (Value.slice A2 k c2).ownBlock ≠ some i) ∧ Keep (fun j => j = b) W0 w
theorem nx_lt {n k:Nat} (h:k < n):(k:Int) < n:=by omega
theorem nx_m {n k:Nat} (h:k < n):n - (k + 1) < n - k:=by omega
def RNext13Is (ra mo q:Int) (P M g:List Int) (n:Nat) (w:World) (e:Ending) (w':World):Prop:=∃ A1 c1 A2 c2,e = .returned (.tuple #[.agg #[.slice A1 n c1,.slice A2 n c2],.bool true]) ∧
  w'.ownsRow w.heap.size 2 1 (.slice A1 n c1) n (nums .i64 (nextP ra mo q P M g)) ∧ w'.ownsRow w.heap.size 2 1 (.slice A2 n c2) n (nums .i64 (nextM mo q M g)) ∧ Below w.heap.size w w'
set_option maxRecDepth 100000 in
set_option maxHeartbeats 1000000 in
theorem rnext13_any (ra mo q:Int) (A B G:Option Addr) (P M g:List Int) (n ca cb cg:Nat) (w:World) (hA:Rd w A (nums .i64 P)) (hB:Rd w B (nums .i64 M)) (hG:Rd w G (nums .i64 g)) (hP:P.length = n) (hM:M.length = n) (hg:g.length = n) (hn:n ≤ 1048576) (wM:W64 M) (wr':-9223372036854775808 ≤ ra ∧ ra ≤ 9223372036854775807) (wm':-9223372036854775808 ≤ mo ∧ mo ≤ 9223372036854775807) :
    Calls Tryz.prog 78 #[.agg #[.int .i64 ra,.int .i64 mo,.int .i64 q],.agg #[.slice A n ca,.slice B n cb],.slice G n cg] w (RNext13Is ra mo q P M g n w):=by
  have hm1:=fun k w' => refMul mo (nth M k) q w' wm' (wM.nth k)
  have hm2:=fun x w' (hx:-9223372036854775808 ≤ x ∧ x ≤ 9223372036854775807) => refMul ra x q w' wr' hx
  have HAz:=Lib.hid hA;have HB:=Lib.hid hB;have HG:=Lib.hid hG;have HP:=Lib.hid hP;have HM:=Lib.hid hM;have Hg:=Lib.hid hg;have Hm1:=Lib.hid hm1;have Hm2:=Lib.hid hm2
  clear hA hB hG hP hM hg wM wr' wm' hm1 hm2
  go_enter Tryz.func78,Tryz.ntmps78
  go_wp2_with fail
  have s1:=size_of_alloc (w:=w) rfl (.cells #[.int .i64 ra,.int .i64 mo,.int .i64 q] 161)
  have r1:=blk_new w #[.int .i64 ra,.int .i64 mo,.int .i64 q] 161 rfl
  have b1:Below w.heap.size w (w.alloc (.cells #[.int .i64 ra,.int .i64 mo,.int .i64 q] 161)):=(Below.refl _ w).alloc (Nat.le_refl _) _
  generalize w.alloc (.cells #[.int .i64 ra,.int .i64 mo,.int .i64 q] 161) = W1 at s1 r1 b1 ⊢
  have s2:=size_of_alloc s1 (.cells #[.slice A n ca,.slice B n cb] 84)
  have r2:=blk_alloc r1 (.cells #[.slice A n ca,.slice B n cb] 84)
  have t2:=blk_new W1 #[.slice A n ca,.slice B n cb] 84 s1
  have b2:=b1.alloc (by omega) (.cells #[.slice A n ca,.slice B n cb] 84)
  generalize W1.alloc (.cells #[.slice A n ca,.slice B n cb] 84) = W2 at s2 r2 t2 b2 ⊢
  clear s1 r1 b1
  have s3:=size_of_alloc s2 (.cells #[.slice none 0 0,.slice none 0 0] 84)
  have r3:=blk_alloc r2 (.cells #[.slice none 0 0,.slice none 0 0] 84)
  have t3:=blk_alloc t2 (.cells #[.slice none 0 0,.slice none 0 0] 84)
  have u3:=blk_new W2 #[.slice none 0 0,.slice none 0 0] 84 s2
  have b3:=b2.alloc (by omega) (.cells #[.slice none 0 0,.slice none 0 0] 84)
  generalize W2.alloc (.cells #[.slice none 0 0,.slice none 0 0] 84) = W3 at s3 r3 t3 u3 b3 ⊢
  clear s2 r2 t2 b2
  have s4:=size_of_alloc s3 (.cells #[.slice none 0 0,.slice none 0 0] 84)
  have r4:=blk_alloc r3 (.cells #[.slice none 0 0,.slice none 0 0] 84)
  have t4:=blk_alloc t3 (.cells #[.slice none 0 0,.slice none 0 0] 84)
  have u4:=blk_alloc u3 (.cells #[.slice none 0 0,.slice none 0 0] 84)
  have v4:=blk_new W3 #[.slice none 0 0,.slice none 0 0] 84 s3
  have b4:=b3.alloc (by omega) (.cells #[.slice none 0 0,.slice none 0 0] 84)
  generalize W3.alloc (.cells #[.slice none 0 0,.slice none 0 0] 84) = W0 at s4 r4 t4 u4 v4 b4 ⊢
  clear s3 r3 t3 u3 b3
  have S4:=Lib.hid s4;have R4:=Lib.hid r4;have T4:=Lib.hid t4;have U4:=Lib.hid u4;have V4:=Lib.hid v4;have B4:=Lib.hid b4
  clear s4 r4 t4 u4 v4 b4
  go_loopw [9] (fun x wr => ∃ k:Nat,k ≤ n ∧ x = .int .i64 k ∧ NxtI ra mo q P M g (w.heap.size + 1 + 1 + 1) (w.heap.size + 4) k W0 wr) (fun x _ => n - (intOf x).toNat)
  case atStart => exact ⟨0,Nat.zero_le _,rfl,none,0,none,0,V4.out,World.ownsRow_nil _ _ _ _,World.ownsRow_nil _ _ _ _,fun i h => by simp [Value.ownBlock] at h,Keep.refl _ _⟩
  case round =>
    obtain ⟨k,hk,rfl,A1,c1,A2,c2,hv,ho1,ho2,hne,hK⟩:=hrel
    have hrs:=hK.size
    rw [S4.out] at hrs
    by_cases hlt:k < n
    · have hlti:=nx_lt hlt
      have hrr:=(hK.block _ (by rw [S4.out];omega) (by omega)).trans R4.out
      have hrt:=(hK.block _ (by rw [S4.out];omega) (by omega)).trans T4.out
      obtain ⟨ba,oa,rfl,pa⟩:=HAz.out.num (show k < P.length by rw [HP.out];exact hlt)
      obtain ⟨bm,om,rfl,pm⟩:=HB.out.num (show k < M.length by rw [HM.out];exact hlt)
      obtain ⟨bg,og,rfl,pg⟩:=HG.out.num (show k < g.length by rw [Hg.out];exact hlt)
      have la:ba < w.heap.size:=lt_of_cell pa
      have lm:bm < w.heap.size:=lt_of_cell pm
      have lg:bg < w.heap.size:=lt_of_cell pg
      have pa:=hK.cell (B4.out.cell (p:=⟨ba,oa + k,none⟩) la |>.trans pa) (by dsimp only;omega)
      have pm:=hK.cell (B4.out.cell (p:=⟨bm,om + k,none⟩) lm |>.trans pm) (by dsimp only;omega)
      have pg:=hK.cell (B4.out.cell (p:=⟨bg,og + k,none⟩) lg |>.trans pg) (by dsimp only;omega)
      obtain ⟨⟨x0,x1,x2⟩,xf⟩:=bx3 hrr
      obtain ⟨⟨y0,y1⟩,yf⟩:=bx2 hrt
      have HV:=Lib.hid hv;have HO1:=Lib.hid ho1;have HO2:=Lib.hid ho2;have HNE:=Lib.hid hne;have HK:=Lib.hid hK;have HRS:=Lib.hid hrs
      have HRR:=Lib.hid hrr;have HRT:=Lib.hid hrt;have HPA:=Lib.hid pa
      clear hv ho1 ho2 hne hK hrr hrt hrs pa
      go_wp2_with fail
      have hSw:(fun w':World => w'.cell? ⟨w.heap.size,1,none⟩ = some (.int .i64 mo) ∧ w'.cell? ⟨w.heap.size,2,none⟩ = some (.int .i64 q) ∧ w'.cell? ⟨w.heap.size + 1,1,none⟩ = some (.slice (some ⟨bm,om,none⟩) n cb) ∧ w'.cell? ⟨bm,om + k,none⟩ = some (.int .i64 (nth M k)) ∧ w'.cell? ⟨bg,og + k,none⟩ = some (.int .i64 (nth g k))) wr.drew:=⟨x1,x2,y1,pm,pg⟩
      refine HA.g (fun w':World => w'.cell? ⟨w.heap.size,1,none⟩ = some (.int .i64 mo) ∧ w'.cell? ⟨w.heap.size,2,none⟩ = some (.int .i64 q) ∧ w'.cell? ⟨w.heap.size + 1,1,none⟩ = some (.slice (some ⟨bm,om,none⟩) n cb) ∧ w'.cell? ⟨bm,om + k,none⟩ = some (.int .i64 (nth M k)) ∧ w'.cell? ⟨bg,og + k,none⟩ = some (.int .i64 (nth g k))) ?_
      refine HA.t ?_ [0,1,2,3,4,5,6,7,8,10,11,12,13] hSw ?_
      refine HA.o 9 (fun K hK => ?_)
      go_simp
      refine (Hm1.out k _).mono ?_
      rintro e w9 ⟨rfl,rfl⟩
      dsimp only
      refine hK.out _ _ hSw (fun hSw => ?_)
      clear hK K
      refine HA.t ?_ [14,15] hSw ?_
      refine HA.d ?_
      clear hSw pm pg x0 x1 x2 xf y0 y1 yf
      have hmx:-9223372036854775808 ≤ stepM mo q (nth M k) (nth g k) ∧ stepM mo q (nth M k) (nth g k) ≤ 9223372036854775807:=wrap64_bd _
      have hmv:IntKind.i64.wrap (mulQ mo (nth M k) q + nth g k) = stepM mo q (nth M k) (nth g k):=by rw [IntKind.wrap_i64];unfold stepM wrap64;rfl
      obtain ⟨mv,hmv2⟩:∃ mv,stepM mo q (nth M k) (nth g k) = mv:=⟨_,rfl⟩
      rw [hmv2] at hmx hmv
      rw [hmv]
      have hm2:=Hm2.out mv
      have Hmx:=Lib.hid hmx;have Hmv2:=Lib.hid hmv2;have HM2:=Lib.hid hm2
      have hv:=HV.out
      obtain ⟨⟨z0,z1⟩,zf⟩:=bx2 hv
      have hlv:=lt_of_block hv
      clear hm2 hmx hmv2 hv hmv
      have hr7:=Nat.le_trans HRS.out (Nat.le_refl _)
      go_wp2_with (at_builtin;refine wpList_app et_ri64s _ rfl (.tmp 49) (.tmp 51) rfl (w.heap.size + 4) (.slice A2 k c2) k _ rfl (HO2.out.alloc _) (some ⟨wr.heap.size,0,none⟩) 1 1 [.int .i64 mv] rfl (rd_newN wr _ _ _ rfl) rfl (by simp [Value.oneCell']) (by omega) (by unfold maxLen;omega) (by simp;omega) ?_)
      intro A7 c7 w7 ho7 hb7 hg7 hv7
      have ho7:w7.ownsRow (w.heap.size + 4) 2 1 (.slice A7 (k + 1) c7) (k + 1) (nums .i64 (upTo (k + 1) fun j => stepM mo q (nth M j) (nth g j))):=by rw [upTo_succ,nums_append,Hmv2.out];exact ho7
      have hb7':Below (w.heap.size + 4) wr w7:=(((Below.refl _ wr).alloc (by omega) _).drew).trans hb7
      have hp7:w7.ownsRow (w.heap.size + 4) 2 1 (.slice A1 k c1) k (nums .i64 (upTo k fun j => stepP ra q (nth P j) (stepM mo q (nth M j) (nth g j)))):=by
        refine (own_drewN (HO1.out.alloc (.cells #[.int .i64 mv] 2)) 1).kept hg7 ?_
        cases hu:(Value.slice A1 k c1).ownBlock with
        | none => exact .inl rfl
        | some i => exact .inr fun e => HNE.out i hu e.symm
      have hne7:∀ i,(Value.slice A1 k c1).ownBlock = some i → (Value.slice A7 (k + 1) c7).ownBlock ≠ some i:=fun i hi e => by
        rcases hv7 with h | h
        · exact HNE.out i hi (h.symm.trans e)
        · have h1:=(HO1.out.lt i hi).2
          rw [h] at e;injection e with e;omega
      have hv7a:=(hb7'.block _ (by omega)).trans HV.out
      have hr7':=(hb7'.block _ (by omega)).trans HRR.out
      have ht7:=(hb7'.block _ (by omega)).trans HRT.out
      have pa7:=(hb7'.cell (p:=⟨ba,oa + k,none⟩) (by dsimp only;omega)).trans HPA.out
      have hK7:=HK.out.below2 (hb7'.mono (by rw [S4.out];omega))
      have hK8:=Keep.setCell (S:=fun j => j = w.heap.size + 1 + 1 + 1) hK7 ⟨w.heap.size + 1 + 1 + 1,1,none⟩ (.inr rfl) (.slice A7 (k + 1) c7)
      have hk8:Keep (fun j => j = w.heap.size + 1 + 1 + 1) w7 (w7.setCell ⟨w.heap.size + 1 + 1 + 1,1,none⟩ (.slice A7 (k + 1) c7)):=Keep.setCell (S:=fun j => j = w.heap.size + 1 + 1 + 1) (Keep.refl _ _) _ (.inr rfl) _
      have hv8:=heap_setCell_same w7 (w.heap.size + 1 + 1 + 1) 1 _ _ (.slice A7 (k + 1) c7) hv7a
      have hr8:=(hk8.block _ (lt_of_block hr7') (by omega)).trans hr7'
      have ht8:=(hk8.block _ (lt_of_block ht7) (by omega)).trans ht7
      have pa8:=hk8.cell pa7 (by dsimp only;omega)
      have hp8:=hk8.own hp7 (fun j hj e => by have:=(hp7.lt j hj).1;omega)
      have ho8:=hk8.own ho7 (fun j hj e => by have:=(ho7.lt j hj).1;omega)
      obtain ⟨⟨z0,z1⟩,zf⟩:=bx2 hv7a
      have hlv7:=lt_of_block hv7a
      have Hb7:=Lib.hid hb7';have HNE7:=Lib.hid hne7;have HK8:=Lib.hid hK8;have HV8:=Lib.hid hv8;have HR8:=Lib.hid hr8;have HT8:=Lib.hid ht8;have HA8:=Lib.hid pa8;have HP8:=Lib.hid hp8;have HO8:=Lib.hid ho8
      clear hb7' hp7 hne7 hv7a hr7' ht7 pa7 hK7 hK8 hk8 hv8 hr8 ht8 pa8 hp8 ho8 ho7 hb7 hg7 hv7
      go_wp2_with fail
      have hv8:=HV8.out;have hr8:=HR8.out;have ht8:=HT8.out;have pa8:=HA8.out;have hp8:=HP8.out;have ho8:=HO8.out;have hK8:=HK8.out
      have hz8:w7.heap.size = (w7.setCell ⟨w.heap.size + 1 + 1 + 1,1,none⟩ (.slice A7 (k + 1) c7)).heap.size:=by simp
      clear z0 z1 zf HV8 HR8 HT8 HA8 HP8 HO8 HK8
      have hzz:=Nat.le_trans HRS.out Hb7.out.size
      rw [hz8] at hlv7 hzz
      generalize w7.setCell ⟨w.heap.size + 1 + 1 + 1,1,none⟩ (.slice A7 (k + 1) c7) = w8 at hv8 hr8 ht8 pa8 hp8 ho8 hK8 hlv7 hzz ⊢
      clear hz8
      have hv8:w8.heap[w.heap.size + 1 + 1 + 1]? = some (.cells #[.slice A1 k c1,.slice A7 (k + 1) c7] 84 (0,0)):=by simpa using hv8
      obtain ⟨⟨x0,x1,x2⟩,xf⟩:=bx3 hr8
      obtain ⟨⟨y0,y1⟩,yf⟩:=bx2 ht8
      obtain ⟨⟨z0,z1⟩,zf⟩:=bx2 hv8
      have HV8:=Lib.hid hv8;have HP8:=Lib.hid hp8;have HO8:=Lib.hid ho8;have HK8:=Lib.hid hK8
      clear hv8 hr8 ht8 hp8 ho8 hK8
      have hSw:(fun w':World => w'.cell? ⟨w.heap.size,0,none⟩ = some (.int .i64 ra) ∧ w'.cell? ⟨w.heap.size,2,none⟩ = some (.int .i64 q) ∧ w'.cell? ⟨w.heap.size + 1,0,none⟩ = some (.slice (some ⟨ba,oa,none⟩) n ca) ∧ w'.cell? ⟨ba,oa + k,none⟩ = some (.int .i64 (nth P k)) ∧ w'.cell? ⟨w.heap.size + 1 + 1 + 1,0,none⟩ = some (.slice A1 k c1)) w8.drew:=⟨x0,x2,y0,pa8,z0⟩
      refine XA.g 16 (fun w':World => w'.cell? ⟨w.heap.size,0,none⟩ = some (.int .i64 ra) ∧ w'.cell? ⟨w.heap.size,2,none⟩ = some (.int .i64 q) ∧ w'.cell? ⟨w.heap.size + 1,0,none⟩ = some (.slice (some ⟨ba,oa,none⟩) n ca) ∧ w'.cell? ⟨ba,oa + k,none⟩ = some (.int .i64 (nth P k)) ∧ w'.cell? ⟨w.heap.size + 1 + 1 + 1,0,none⟩ = some (.slice A1 k c1)) ?_
      refine XA.t ?_ [0,1,2,3,4,5,6,7,8,9,10,11] hSw ?_
      refine XA.o 12 (fun K hK => ?_)
      go_simp
      refine (HM2.out w8.drew Hmx.out).mono ?_
      rintro e w9 ⟨rfl,rfl⟩
      dsimp only
      refine hK.out _ _ hSw (fun hSw => ?_)
      clear hK K
      refine XA.t ?_ [13] hSw ?_
      refine XA.o 14 (fun K hK => ?_)
      go_simp
      refine hK.out _ _ ⟨cell_alloc hSw.1 _,cell_alloc hSw.2.1 _,cell_alloc hSw.2.2.1 _,cell_alloc hSw.2.2.2.1 _,cell_alloc hSw.2.2.2.2 _⟩ (fun hSw => ?_)
      clear hK K
      refine XA.o 15 (fun K hK => ?_)
      refine step_appX et_ri64s (.tmp 55) (.tmp 68) rfl rfl (w.heap.size + 4) (.slice A1 k c1) k _ rfl (own_drewN (HP8.out.alloc _) 1) (some ⟨w8.heap.size,0,none⟩) 1 1 [.int .i64 (IntKind.i64.wrap (nth P k - mulQ ra mv q))] rfl (rd_newN w8 _ _ _ rfl) rfl (by simp [Value.oneCell']) (by omega) (by unfold maxLen;omega) (by simp;omega) ?_
      intro A9 c9 w9 ho9 hb9 hg9 hv9
      have hb9':Below (w.heap.size + 4) w8 w9:=(((Below.refl _ w8).alloc (by omega) _).drew).trans hb9
      have hS9:=And.intro ((hb9.cell (p:=⟨w.heap.size,0,none⟩) (by dsimp only;omega)).trans hSw.1) (And.intro ((hb9.cell (p:=⟨w.heap.size,2,none⟩) (by dsimp only;omega)).trans hSw.2.1) (And.intro ((hb9.cell (p:=⟨w.heap.size + 1,0,none⟩) (by dsimp only;omega)).trans hSw.2.2.1) (And.intro ((hb9.cell (p:=⟨ba,oa + k,none⟩) (by dsimp only;omega)).trans hSw.2.2.2.1) ((hb9.cell (p:=⟨w.heap.size + 1 + 1 + 1,0,none⟩) (by dsimp only;omega)).trans hSw.2.2.2.2))))
      have hsp:IntKind.i64.wrap (nth P k - mulQ ra mv q) = stepP ra q (nth P k) (stepM mo q (nth M k) (nth g k)):=by rw [IntKind.wrap_i64,Hmv2.out];unfold stepP wrap64;rfl
      have ho9:w9.ownsRow (w.heap.size + 4) 2 1 (.slice A9 (k + 1) c9) (k + 1) (nums .i64 (upTo (k + 1) fun j => stepP ra q (nth P j) (stepM mo q (nth M j) (nth g j)))):=by rw [upTo_succ,nums_append,← hsp];exact ho9
      have hm9:w9.ownsRow (w.heap.size + 4) 2 1 (.slice A7 (k + 1) c7) (k + 1) (nums .i64 (upTo (k + 1) fun j => stepM mo q (nth M j) (nth g j))):=by
        refine (own_drewN (HO8.out.alloc (.cells #[.int .i64 (IntKind.i64.wrap (nth P k - mulQ ra mv q))] 2)) 1).kept hg9 ?_
        cases hu:(Value.slice A7 (k + 1) c7).ownBlock with
        | none => exact .inl rfl
        | some i => exact .inr fun e => HNE7.out i e.symm hu
      have hne9:∀ i,(Value.slice A9 (k + 1) c9).ownBlock = some i → (Value.slice A7 (k + 1) c7).ownBlock ≠ some i:=fun i hi e => by
        rcases hv9 with h | h
        · exact HNE7.out i (h.symm.trans hi) e
        · have h1:=(HO8.out.lt i e).2
          rw [h] at hi;injection hi with hi;simp at hi;omega
      have hx9:=(hb9'.block _ (by omega)).trans HV8.out
      have hK9:=HK8.out.below2 (hb9'.mono (by rw [S4.out];omega))
      have hx10:=heap_setCell_same w9 (w.heap.size + 1 + 1 + 1) 0 _ _ (.slice A9 (k + 1) c9) hx9
      have hk10:Keep (fun j => j = w.heap.size + 1 + 1 + 1) w9 (w9.setCell ⟨w.heap.size + 1 + 1 + 1,0,none⟩ (.slice A9 (k + 1) c9)):=Keep.setCell (S:=fun j => j = w.heap.size + 1 + 1 + 1) (Keep.refl _ _) _ (.inr rfl) _
      have hI:NxtI ra mo q P M g (w.heap.size + 1 + 1 + 1) (w.heap.size + 4) (k + 1) W0 (w9.setCell ⟨w.heap.size + 1 + 1 + 1,0,none⟩ (.slice A9 (k + 1) c9)):=
        ⟨A9,c9,A7,c7,by simpa using hx10,hk10.own ho9 (fun j hj e => by have:=(ho9.lt j hj).1;omega),hk10.own hm9 (fun j hj e => by have:=(hm9.lt j hj).1;omega),hne9,hK9.trans hk10⟩
      have HI:=Lib.hid hI
      clear x0 x1 x2 xf y0 y1 yf z0 z1 zf
      obtain ⟨⟨z0,z1⟩,zf⟩:=bx2 hx9
      have hl9:=lt_of_block hx9
      clear ho9 hb9 hg9 hv9 hb9' hsp hm9 hne9 hx9 hK9 hx10 hk10 hI hSw
      dsimp only
      refine hK.out _ _ hS9 (fun hSw => ?_)
      clear hK K hS9 hSw
      refine XA.e ?_
      simp only [List.drop_succ_cons,List.drop_zero]
      go_wp2_with fail
      go_roundw
      case rel => exact ⟨k + 1,hlt,by go_num,HI.out⟩
      case measure => exact nx_m hlt
    · obtain rfl:n = k:=by omega
      have hz6:=(hK.block _ (by rw [S4.out];omega) (by omega)).trans U4.out
      have hBw:Below w.heap.size w wr:=B4.out.trans (hK.toBelow (by rw [S4.out];omega) (fun j hj => by omega))
      obtain ⟨e2,k2⟩:=store2 wr (w.heap.size + 1 + 1) (.slice A1 n c1) (.slice A2 n c2) hz6
      have h1:=own_base (base':=w.heap.size) (k2.own ho1 (fun j hj e => by have:=(ho1.lt j hj).1;omega)) (by omega)
      have h2:=own_base (base':=w.heap.size) (k2.own ho2 (fun j hj e => by have:=(ho2.lt j hj).1;omega)) (by omega)
      have h3:=hBw.trans (k2.toBelow hBw.size (fun j hj => by omega))
      obtain ⟨⟨y0,y1⟩,yf⟩:=bx2 hv
      obtain ⟨⟨z0,z1⟩,zf⟩:=bx2 hz6
      have E2:=Lib.hid e2;have F1:=Lib.hid h1;have F2:=Lib.hid h2;have F3:=Lib.hid h3
      have hlv:=lt_of_block hv
      have hlz:=lt_of_block hz6
      clear e2 k2 h1 h2 h3 ho1 ho2 hK hv hz6 hBw hne
      go_wp2_with fail
      have e3:=E2.out;have h1:=F1.out;have h2:=F2.out;have h3:=F3.out
      generalize (wr.setCell ⟨w.heap.size + 1 + 1,0,none⟩ (.slice A1 n c1)).setCell ⟨w.heap.size + 1 + 1,1,none⟩ (.slice A2 n c2) = W9 at e3 h1 h2 h3 ⊢
      clear y0 y1 yf z0 z1 zf
      obtain ⟨⟨r0,r1⟩,rf⟩:=bx2 e3
      exact bodyPost_ret (v:=.tuple #[.agg #[.slice A1 n c1,.slice A2 n c2],.bool true]) (by simp [results,Tryz.results78,go_sem,r0,r1]) rfl ⟨_,_,_,_,rfl,by unfold nextP;rw [HP.out];exact h1,by unfold nextM;rw [HM.out];exact h2,h3⟩
end Go.Proofs.YthamijnggdjaoaaGreatDoor
namespace Go.Proofs.YthamijnggdjaoaaGreatDoor
open Go.RowKit
set_option maxRecDepth 100000 in
set_option maxHeartbeats 200000 in
theorem rbatch_any (n b steps t E c:Nat) (A:Option Addr) (l:List Int) (w:World) (hA:SlRd rVec 1 w A (ordersN l n E)) (hb:1 ≤ b) (hbn:b ≤ n) (hn:n ≤ 1048576) (hst:steps ≤ 1048576) (ht:t < steps) (hE:E = epN n b steps) :
    Calls Tryz.prog 77 #[.agg #[.int .i64 n,.int .i64 b,.int .i64 steps,.slice A E c],.int .i64 t] w fun e w' => ∃ A c,e = .returned (.slice A b c) ∧ b ≤ c ∧ Rd w' A (nums .i64 (batchN l n b t)) ∧ Below w.heap.size w w':=by
  have hnb:1 ≤ n / b:=Nat.div_pos hbn hb
  have hep:=fun w' => repoch_any n b steps t c A E w' ⟨hb,hbn⟩ hn hst ht
  have hlt:t / (n / b) < E:=by rw [hE];exact epoch_lt ht
  have hel:E ≤ steps:=by rw [hE];exact cntQ_le _ _
  have hbt:batchN l n b t = ((permN l n ((t / (n / b)) * (n - 1))).drop (t % (n / b) * b)).take b:=rfl
  have hwm:t % (n / b) * b + b ≤ n:=whole_le n b _ (Nat.mod_lt _ (by omega))
  rw [hbt]
  have hx:=ordersN_at l n hlt
  obtain ⟨pl,hpl⟩:∃ pl,permN l n ((t / (n / b)) * (n - 1)) = pl:=⟨_,rfl⟩
  have hpn:pl.length = n:=by rw [← hpl];exact permN_len _ _ _
  rw [hpl] at hx ⊢
  obtain ⟨e0,he0⟩:∃ e0,t / (n / b) = e0:=⟨_,rfl⟩
  obtain ⟨p0,hp0⟩:∃ p0,t % (n / b) = p0:=⟨_,rfl⟩
  rw [he0] at hep hlt hx
  rw [hp0] at hep hwm ⊢
  obtain ⟨lo,hlo⟩:∃ lo,p0 * b = lo:=⟨_,rfl⟩
  rw [hlo] at hwm ⊢
  obtain ⟨bo,oo,A1,c1,rfl,hb1,q2,k3,h11,h9⟩:=rVec_cell hA hx
  rw [hpn] at h9 h11 q2
  obtain ⟨bg,og,rfl,q3⟩:=k3.num (show 0 < pl.length by omega)
  have he2:(e0:Int) < E:=by omega
  have hl1:(lo:Int) ≤ ((lo + b:Nat):Int):=by omega
  have hl4:lo + b ≤ c1:=by omega
  have hp0l:(p0:Int) * b = (lo:Int):=by rw [← hlo];push_cast;rfl
  have Hep:=Lib.hid hep;have K3:=Lib.hid k3
  clear hep k3 hE he0 hp0 hlo hpl hA hbt q3 hx
  have hz:=heap_alloc_new w (.cells #[.int .i64 n,.int .i64 b,.int .i64 steps,.slice (some ⟨bo,oo,none⟩) E c] 153)
  have hB0:Below w.heap.size w (w.alloc (.cells #[.int .i64 n,.int .i64 b,.int .i64 steps,.slice (some ⟨bo,oo,none⟩) E c] 153)):=(Below.refl _ w).alloc (Nat.le_refl _) _
  go_enter Tryz.func77,Tryz.ntmps77
  obtain ⟨W0,hW0⟩:∃ W0,W0 = w.alloc (.cells #[.int .i64 n,.int .i64 b,.int .i64 steps,.slice (some ⟨bo,oo,none⟩) E c] 153):=⟨_,rfl⟩
  go_wp2_with fail
  rw [← hW0] at hz hB0 ⊢
  clear hW0
  refine (Hep.out _).mono ?_
  rintro e w1 ⟨rfl,hb1'⟩
  have hz1:=(hb1'.block _ (lt_of_block hz)).trans hz
  have hbb:=hB0.trans (hb1'.mono hB0.size)
  have q2':=cell_below hbb q2
  have hbs:bo < w1.heap.size:=by have:=hbb.size;omega
  have hbz:=lt_of_block hz1
  obtain ⟨⟨y0,y1,y2,y3⟩,yf⟩:=bx4 hz1
  have HB:=Lib.hid hbb
  clear q2 hz hB0 hb1' hz1 hbb hl1
  go_upto_region 4 with (fail)
  have hw1':IntKind.i64.wrap ((lo:Int) + b) = (lo:Int) + b:=IntWalk.i64_in _ (by omega)
  have hw0':IntKind.i64.wrap (lo:Int) = (lo:Int):=IntWalk.i64_in _ (by omega)
  have hl6:(lo:Int) + b ≤ c1:=by omega
  have hl7:((lo:Int) + b).toNat = lo + b:=by omega
  have hl8:(0:Int) ≤ (lo:Int) + b:=by omega
  have hl9:(lo:Int) ≤ (lo:Int) + b:=by omega
  have hl0:lo + b - lo = b:=by omega
  have hlx:¬ (lo + b = lo):=by omega
  go_quiet (fail)
  go_wp2_with fail
  go_ret
  refine ⟨_,_,rfl,?_,?_,below_drewN HB.out _⟩
  · omega
  · have:=(((K3.out.below HB.out).drewN nq).drop lo).take b
    rwa [nums_drop,nums_take] at this
end Go.Proofs.YthamijnggdjaoaaGreatDoor
namespace Go.Proofs.YthamijnggdjaoaaGreatDoor
open Go.RowKit
set_option maxRecDepth 100000 in
theorem rdcheck_any (a b c:Nat) (A:Option Addr) (l:List Ex) (w:World) (h:SlRd rEx 2 w A l) (hl:l.length ≤ 1048576) :
    Calls Tryz.prog 47 #[.slice A l.length c,.int .i64 a,.int .i64 b] w (DChkIs l a b w):=by
  unfold DChkIs
  obtain ⟨n,hn⟩:∃ n,l.length = n:=⟨_,rfl⟩
  rw [hn] at hl ⊢
  have H:=Lib.hid h;have Hn:=Lib.hid hn;clear h hn
  go_enter Tryz.func47,Tryz.ntmps47
  go_wp2_with fail
  go_loopw [8] (fun i wr => ∃ k:Nat,k ≤ n ∧ i = .int .i64 k ∧ Hid (∀ j x,j < k → l[j]? = some x → fitEx a b x) ∧ wr = w) (fun i _ => n - (intOf i).toNat)
  case atStart => exact ⟨0,Nat.zero_le _,rfl,Lib.hid fun j x hj => by omega,rfl⟩
  case round =>
    obtain ⟨k,hk,rfl,Hall,rfl⟩:=hrel
    by_cases hlt:k < n
    · obtain ⟨x,hx⟩:∃ x,l[k]? = some x:=⟨_,List.getElem?_eq_getElem (by rw [Hn.out];exact hlt)⟩
      obtain ⟨b',o,A1,c1,A2,c2,rfl,hbl,p1,p2,r1,r2⟩:=ex_cells H.out hx
      have Hx:=Lib.hid hx
      obtain ⟨n1,hn1⟩:∃ n1,x.1.length = n1:=⟨_,rfl⟩
      obtain ⟨n2,hn2⟩:∃ n2,x.2.length = n2:=⟨_,rfl⟩
      rw [hn1] at p1
      rw [hn2] at p2
      have hfi:fitEx a b x ↔ n1 = a ∧ n2 = b:=by unfold fitEx;rw [hn1,hn2]
      have Hf:=Lib.hid hfi
      have hlti:(k:Int) < n:=by omega
      clear r1 r2 hx hn1 hn2 hfi
      by_cases e1:n1 ≠ a
      · have hq:((n1:Int) != (a:Int)) = true:=by rw [bne_iff_ne];omega
        go_wp2_with fail
        go_ret2
        exact ⟨Below.refl _ _,k,.inr ⟨fun h => e1 (Hf.out.1 (h x (List.mem_of_getElem? Hx.out))).1,rfl⟩⟩
      have hq1:((n1:Int) != (a:Int)) = false:=by rw [bne_eq_false_iff_eq];omega
      by_cases e2:n2 ≠ b
      · have hq:((n2:Int) != (b:Int)) = true:=by rw [bne_iff_ne];omega
        have E2:=Lib.hid e2;clear e1 e2
        go_wp2_with fail
        go_ret2
        exact ⟨Below.refl _ _,k,.inr ⟨fun h => E2.out (Hf.out.1 (h x (List.mem_of_getElem? Hx.out))).2,rfl⟩⟩
      have hq2:((n2:Int) != (b:Int)) = false:=by rw [bne_eq_false_iff_eq];omega
      have He:=Lib.hid (Hf.out.2 ⟨by omega,by omega⟩)
      clear e1 e2
      go_wp2_with fail
      go_roundw
      case rel => exact ⟨k + 1,by omega,by go_num,Lib.hid (p:=∀ j x,j < k + 1 → l[j]? = some x → fitEx a b x) fun j y hj hy => by
        rcases Nat.lt_or_ge j k with h | h
        · exact Hall.out j y h hy
        · obtain rfl:j = k:=by omega
          have:=Hx.out;rw [hy] at this;injection this with this;rw [this];exact He.out,trivial⟩
      case measure => simp [intOf];omega
    · obtain rfl:n = k:=by omega
      go_wp2_with fail
      go_ret2
      exact ⟨Below.refl _ _,0,.inl ⟨fun x hx => by
        obtain ⟨j,hj,e⟩:=List.mem_iff_getElem.1 hx
        exact Hall.out j x (by rw [← Hn.out];exact hj) (by rw [List.getElem?_eq_getElem hj,e]),rfl⟩⟩
def FewB (q:Prop) (w:World) (e:Ending) (w':World):Prop:=(∃ b:Bool,e = .returned (.bool b) ∧ (b = true → q)) ∧ ∃ n,w' = w.drewN n
theorem fewB_any {q:Prop} (hq:q) (b:Bool) (w:World) (d:Nat):FewB q w (.returned (.bool b)) (w.drewN d):=⟨⟨b,rfl,fun _ => hq⟩,d,rfl⟩
theorem fewB_no (q:Prop) (w:World) (d:Nat):FewB q w (.returned (.bool false)) (w.drewN d):=⟨⟨false,rfl,fun h => by cases h⟩,d,rfl⟩
set_option maxRecDepth 100000 in
theorem rfew_any (c:Nat) (A:Option Addr) (l:List Ex) (w:World) (h:SlRd rEx 2 w A l) (hl:l.length ≤ 17592186043904) :
    Calls Tryz.prog 134 #[.slice A l.length c] w (FewB (l.length ≤ 60) w):=by
  obtain ⟨n,hn⟩:∃ n,l.length = n:=⟨_,rfl⟩
  rw [hn] at hl ⊢
  have H:=Lib.hid h;have Hn:=Lib.hid hn;clear h hn
  go_enter Tryz.func134,Tryz.ntmps134
  go_wp2_with fail
  go_loopw [3,4] (fun v i wr => ∃ k:Nat,∃ x:Int,k ≤ n ∧ i = .int .i64 k ∧ v = .int .i64 x ∧ ∃ d,wr = w.drewN d) (fun _ i _ => n - (intOf i).toNat)
  case atStart => exact ⟨0,0,Nat.zero_le _,rfl,rfl,0,rfl⟩
  case round =>
    obtain ⟨k,x,hk,rfl,rfl,d,rfl⟩:=hrel
    by_cases hlt:k < n
    · have hlti:(k:Int) < n:=by omega
      by_cases h100:k < 100
      · have h100i:(k:Int) < 100:=by omega
        obtain ⟨y,hy⟩:∃ y,l[k]? = some y:=⟨_,List.getElem?_eq_getElem (by rw [Hn.out];exact hlt)⟩
        obtain ⟨b',o,A1,c1,A2,c2,rfl,hbl,p1,p2,r1,r2⟩:=ex_cells H.out hy
        obtain ⟨n1,hn1⟩:∃ n1,y.1.length = n1:=⟨_,rfl⟩
        obtain ⟨n2,hn2⟩:∃ n2,y.2.length = n2:=⟨_,rfl⟩
        rw [hn1] at p1
        rw [hn2] at p2
        clear r1 r2 hy hn1 hn2
        have q1:(w.drewN d).cell? ⟨b',o + k * 2,none⟩ = some (.slice A1 n1 c1):=p1
        have q2:(w.drewN d).cell? ⟨b',o + k * 2 + 1,none⟩ = some (.slice A2 n2 c2):=p2
        generalize hW:w.drewN d = W at q1 q2 ⊢
        have HW:=Lib.hid hW;clear hW
        go_wp2_with fail
        go_region
        all_goals
          go_wp2_with fail
          go_roundw
          case rel => exact ⟨k + 1,_,by omega,by go_num,rfl,d + 1,by rw [← HW.out];rfl⟩
          case measure => simp [intOf];omega
      · have h100i:¬ ((k:Int) < 100):=by omega
        have h60:¬ ((n:Int) ≤ 60):=by omega
        have h60':¬ (n ≤ 60):=by omega
        go_wp2_with fail
        all_goals
          go_ret
          exact fewB_no _ _ _
    · obtain rfl:n = k:=by omega
      by_cases h60n:n ≤ 60
      · have h60:(n:Int) ≤ 60:=by omega
        have G:=Lib.hid h60n
        go_wp2_with fail
        all_goals
          go_ret
          exact fewB_any G.out _ _ _
      · have h60:¬ ((n:Int) ≤ 60):=by omega
        go_wp2_with fail
        all_goals
          go_ret
          exact fewB_no _ _ _
end Go.Proofs.YthamijnggdjaoaaGreatDoor
namespace Go.Proofs.YthamijnggdjaoaaGreatDoor
open Go.RowKit
set_option maxRecDepth 100000 in
set_option maxHeartbeats 4000000 in
theorem rinput_any (A:Option Addr) (c:Nat) (D:Option Addr) (cd:Nat) (T:Option Addr) (ct:Nat) (R:Option Addr) (cr:Nat) (i:Inp) (w:World) (h:InpRd w A c D T ct R i) :
    Calls Tryz.prog 15 #[.agg (inpVals A c D cd T ct R cr i)] w fun e w' => e = .returned (.int .i64 (inCode i)) ∧ Below w.heap.size w w':=by
  have hck:=fun w' (q:Below w.heap.size w w') => rcfg_any A c i.cfg w' (h.c.below q)
  have hct:=fun (hR:RightSz i.cfg.sizes) w' (q:Below w.heap.size w w') => rcount_any A i.cfg.sizes i.cfg.sizes.length c w' (h.c.hr.below q) hR (by have:=hR.1;omega) (Nat.le_refl _)
  have hdc:=fun a b w' (q:Below w.heap.size w w') => rdcheck_any a b cd D i.data w' (h.d.below stays_ex q) h.dl
  have hnd:=fun (hg:GoodCfg i.cfg) (hb:i.cfg.batch ≤ i.data.length ∧ (i.data.length:Int) ≤ 1048576) w' (q:Below w.heap.size w w') => rneed_any A c i.data.length i.cfg w' (h.c.below q) hg hb
  have fc:=@in_c i;have f7:=@in_7 i;have f5:=@in_5 i;have f8:=@in_8 i;have f0:=@in_0 i
  have hgd:=@cfg_good i.cfg
  have hsr:=h.c.hr
  have hdl:=h.dl;have htl:=h.tl;have hrl:=h.rl
  unfold DChkIs at hdc
  unfold batchB at f7 f5 f8 f0
  unfold shapeB fitB inN outN cnt at f5 f8 f0
  unfold drawsB at f8 f0
  obtain ⟨code,hcode⟩:∃ code,inCode i = code:=⟨_,rfl⟩
  rw [hcode] at fc f7 f5 f8 f0 ⊢
  clear hcode h
  obtain ⟨⟨sz,sh,ra,mo,wk,ba,mi,st,bu,ch,wi,ca⟩,data,start,draws⟩:=i
  dsimp only [inpVals,cfgVals] at *
  obtain ⟨L,hL⟩:∃ L,sz.length = L:=⟨_,rfl⟩
  obtain ⟨N,hN⟩:∃ N,data.length = N:=⟨_,rfl⟩
  obtain ⟨M,hM⟩:∃ M,start.length = M:=⟨_,rfl⟩
  obtain ⟨Q,hQ⟩:∃ Q,draws.length = Q:=⟨_,rfl⟩
  obtain ⟨cc,hcc⟩:∃ cc,cfgCode ⟨sz,sh,ra,mo,wk,ba,mi,st,bu,ch,wi,ca⟩ = cc:=⟨_,rfl⟩
  rw [hL] at hck hct hnd f5 f8 f0 ⊢
  rw [hN] at hdc hnd f7 f5 f8 f0 hdl ⊢
  rw [hM] at f5 f8 f0 htl ⊢
  rw [hQ] at f8 f0 hrl ⊢
  rw [hcc] at hck fc f7 f5 f8 f0 hgd
  obtain ⟨CN,hCN⟩:∃ CN,cntN sz (L - 1) = CN:=⟨_,rfl⟩
  rw [hCN] at hct f5 f8 f0
  obtain ⟨ND,hND⟩:∃ ND,needN N ba.toNat st.toNat = ND:=⟨_,rfl⟩
  rw [hND] at hnd f8 f0
  have Hck:=Lib.hid hck;have Hct:=Lib.hid hct;have Hdc:=Lib.hid hdc;have Hnd:=Lib.hid hnd;have Fc:=Lib.hid fc;have F7:=Lib.hid f7;have F5:=Lib.hid f5;have F8:=Lib.hid f8;have F0:=Lib.hid f0;have Hgd:=Lib.hid hgd;have Hsr:=Lib.hid hsr;have HL:=Lib.hid hL;have HCN:=Lib.hid hCN
  clear hck hct hdc hnd fc f7 f5 f8 f0 hgd hsr hL hN hM hQ hcc hCN hND
  go_enter Tryz.func15,Tryz.ntmps15
  go_wp2_with fail
  have hz:=(Below.heap_alloc (w.alloc (.cells #[.slice A L c,.int .i64 sh,.int .i64 ra,.int .i64 mo,.int .i64 wk,.int .i64 ba,.int .i64 mi,.int .i64 st,.int .i64 bu,.int .i64 ch,.int .i64 wi,.int .i64 ca,.slice D N cd,.slice T M ct,.slice R Q cr] 29)) (.cells #[.slice A L c,.int .i64 sh,.int .i64 ra,.int .i64 mo,.int .i64 wk,.int .i64 ba,.int .i64 mi,.int .i64 st,.int .i64 bu,.int .i64 ch,.int .i64 wi,.int .i64 ca] 24) w.heap.size (by simp)).trans (heap_alloc_new w _)
  have hy:=heap_alloc_new (w.alloc (.cells #[.slice A L c,.int .i64 sh,.int .i64 ra,.int .i64 mo,.int .i64 wk,.int .i64 ba,.int .i64 mi,.int .i64 st,.int .i64 bu,.int .i64 ch,.int .i64 wi,.int .i64 ca,.slice D N cd,.slice T M ct,.slice R Q cr] 29)) (.cells #[.slice A L c,.int .i64 sh,.int .i64 ra,.int .i64 mo,.int .i64 wk,.int .i64 ba,.int .i64 mi,.int .i64 st,.int .i64 bu,.int .i64 ch,.int .i64 wi,.int .i64 ca] 24)
  rw [show (w.alloc (.cells #[.slice A L c,.int .i64 sh,.int .i64 ra,.int .i64 mo,.int .i64 wk,.int .i64 ba,.int .i64 mi,.int .i64 st,.int .i64 bu,.int .i64 ch,.int .i64 wi,.int .i64 ca,.slice D N cd,.slice T M ct,.slice R Q cr] 29)).heap.size = w.heap.size + 1 by simp] at hy
  have hB:Below w.heap.size w ((w.alloc (.cells #[.slice A L c,.int .i64 sh,.int .i64 ra,.int .i64 mo,.int .i64 wk,.int .i64 ba,.int .i64 mi,.int .i64 st,.int .i64 bu,.int .i64 ch,.int .i64 wi,.int .i64 ca,.slice D N cd,.slice T M ct,.slice R Q cr] 29)).alloc (.cells #[.slice A L c,.int .i64 sh,.int .i64 ra,.int .i64 mo,.int .i64 wk,.int .i64 ba,.int .i64 mi,.int .i64 st,.int .i64 bu,.int .i64 ch,.int .i64 wi,.int .i64 ca] 24)):=((Below.refl _ w).alloc (Nat.le_refl _) _).alloc (by simp) _
  obtain ⟨W0,hW0⟩:∃ W0,W0 = (w.alloc (.cells #[.slice A L c,.int .i64 sh,.int .i64 ra,.int .i64 mo,.int .i64 wk,.int .i64 ba,.int .i64 mi,.int .i64 st,.int .i64 bu,.int .i64 ch,.int .i64 wi,.int .i64 ca,.slice D N cd,.slice T M ct,.slice R Q cr] 29)).alloc (.cells #[.slice A L c,.int .i64 sh,.int .i64 ra,.int .i64 mo,.int .i64 wk,.int .i64 ba,.int .i64 mi,.int .i64 st,.int .i64 bu,.int .i64 ch,.int .i64 wi,.int .i64 ca] 24):=⟨_,rfl⟩
  rw [← hW0] at hz hy hB ⊢
  clear hW0
  refine (Hck.out _ hB).mono ?_
  rintro e w1 ⟨rfl,hb1⟩
  have hz1:=(hb1.block _ (lt_of_block hz)).trans hz
  have hy1:=(hb1.block _ (lt_of_block hy)).trans hy
  have HB:=Lib.hid (hB.trans (hb1.mono hB.size))
  obtain ⟨⟨z0,z1,z2,z3,z4,z5,z6,z7,z8,z9,z10,z11,z12,z13,z14⟩,zf⟩:=bx15 hz1
  obtain ⟨⟨y0,y1,y2,y3,y4,y5,y6,y7,y8,y9,y10,y11⟩,yf⟩:=bx12 hy1
  have lz:=lt_of_block hz1;have ly:=lt_of_block hy1
  have HZ:=Lib.hid hz1;have HY:=Lib.hid hy1
  clear hz hy hB hb1 hz1 hy1
  by_cases h3:cc ≠ 0
  · have hq:(cc != 0) = true:=by rw [bne_iff_ne];exact h3
    have H3:=Lib.hid h3;clear h3
    go_wp2_with fail
    go_ret
    exact ⟨ret_int (Fc.out H3.out).symm,HB.out⟩
  obtain rfl:cc = 0:=by omega
  clear h3
  have hg:=Hgd.out.1 rfl
  have g1:=hg.w;have g2:=hg.ba;have g3:=hg.st;have gz:=hg.z
  have HG:=Lib.hid hg
  dsimp only at g1 g2 g3 gz
  clear hg
  have hl16:=gz.1.1
  rw [HL.out] at hl16
  have s0:=gz.1.at (k:=0) (by have:=HL.out;omega)
  have s1:=gz.1.at (k:=L - 1) (by have:=HL.out;omega)
  obtain ⟨bz,oz,rfl,p0⟩:=Hsr.out.num (show 0 < sz.length by have:=HL.out;omega)
  obtain ⟨_,_,e',p1⟩:=Hsr.out.num (show L - 1 < sz.length by have:=HL.out;omega)
  injection e' with e';injection e' with e1 e2 _;subst e1;subst e2
  rw [s0.2.2,Nat.add_zero] at p0
  rw [s1.2.2] at p1
  obtain ⟨n0,hn0⟩:∃ n0,szN sz 0 = n0:=⟨_,rfl⟩
  obtain ⟨n1,hn1⟩:∃ n1,szN sz (L - 1) = n1:=⟨_,rfl⟩
  have f5:=F5.out;have f8:=F8.out;have f0:=F0.out
  rw [hn0,hn1] at f5 f8 f0
  rw [hn0] at p0 s0
  rw [hn1] at p1 s1
  have F5:=Lib.hid f5;have F8:=Lib.hid f8;have F0:=Lib.hid f0;have HGZ:=Lib.hid gz
  have hb5:bz < w.heap.size:=lt_of_cell p0
  have P0:=Lib.hid p0;have P1:=Lib.hid p1
  clear f5 f8 f0 gz hn0 hn1 p0 p1 s0 s1
  obtain ⟨bt,rfl⟩:∃ bt:Nat,ba = bt:=⟨ba.toNat,by omega⟩
  go_wp2_with fail
  refine (btw_any N bt 1048576 _).mono ?_
  rintro e w' ⟨rfl,rfl⟩
  obtain ⟨b1,hb1⟩:∃ b1,btB (N:Int) bt 1048576 = b1:=⟨_,rfl⟩
  have G0:=Lib.hid (show decide ((bt:Int) ≤ N ∧ (N:Int) ≤ 1048576) = b1 from hb1)
  rw [hb1]
  clear hb1
  rcases bool_ft b1 with rfl | rfl
  · have hn7:=of_decide_eq_false G0.out
    go_wp2_with fail
    go_ret
    exact ⟨ret_int (F7.out trivial (by rw [decide_eq_false_iff_not];omega)).symm,HB.out⟩
  have hn7:=of_decide_eq_true G0.out
  have G1:=Lib.hid (show decide ((bt:Int) ≤ N ∧ N ≤ 1048576) = true by rw [decide_eq_true_eq];omega)
  have p0:=(HB.out.cell (p:=⟨bz,oz,none⟩) hb5).trans P0.out
  have p1:=(HB.out.cell (p:=⟨bz,oz + (L - 1),none⟩) hb5).trans P1.out
  have hw1:IntKind.i64.wrap ((L:Int) - 1) = ((L - 1:Nat):Int):=by rw [IntWalk.i64_in _ (by omega)];omega
  have hLi:((L - 1:Nat):Int) < L:=by omega
  have hLn:L - 1 < L:=by omega
  have hL0:0 < L:=by omega
  have hL0i:(0:Int) < L:=by omega
  go_wp2_with fail
  have hSw:(fun w':World => w'.cell? ⟨w.heap.size,12,none⟩ = some (.slice D N cd) ∧ w'.cell? ⟨w.heap.size + 1,0,none⟩ = some (.slice (some ⟨bz,oz,none⟩) L c) ∧ w'.cell? ⟨bz,oz,none⟩ = some (.int .i64 n0) ∧ w'.cell? ⟨bz,oz + (L - 1),none⟩ = some (.int .i64 n1)) w1.drew:=⟨z12,y0,p0,p1⟩
  refine HA.g (fun w':World => w'.cell? ⟨w.heap.size,12,none⟩ = some (.slice D N cd) ∧ w'.cell? ⟨w.heap.size + 1,0,none⟩ = some (.slice (some ⟨bz,oz,none⟩) L c) ∧ w'.cell? ⟨bz,oz,none⟩ = some (.int .i64 n0) ∧ w'.cell? ⟨bz,oz + (L - 1),none⟩ = some (.int .i64 n1)) ?_
  refine HA.t ?_ [0,1,2,3,4,5,6,7,8,9,10,11,12,13] hSw ?_
  refine HA.o 14 (fun K hK => ?_)
  go_simp
  refine (Hdc.out n0 n1 _ HB.out.drew).mono ?_
  rintro e w3 ⟨hb3,d,hd⟩
  have hS3:=And.intro (cell_below hb3 hSw.1) (And.intro (cell_below hb3 hSw.2.1) (And.intro (cell_below hb3 hSw.2.2.1) (cell_below hb3 hSw.2.2.2)))
  have hb3':Below w1.heap.size w1 w3:=(Below.refl w1.heap.size w1).drew.trans hb3
  have hz3:=(hb3'.block _ lz).trans HZ.out
  have hy3:=(hb3'.block _ ly).trans HY.out
  have HB3:=Lib.hid (HB.out.trans (hb3'.mono HB.out.size))
  have HZ3:=Lib.hid hz3;have HY3:=Lib.hid hy3
  obtain ⟨fit,rfl,hfit⟩:∃ fit,e = .returned (.tuple #[.int .i64 d,.bool fit]) ∧ decide (∀ x ∈ data,fitEx n0 n1 x) = fit:=by
    rcases hd with ⟨ha,rfl⟩ | ⟨ha,rfl⟩
    · exact ⟨true,rfl,decide_eq_true ha⟩
    · exact ⟨false,rfl,decide_eq_false ha⟩
  have Hfit:=Lib.hid hfit
  clear hb3 hb3' hz3 hy3 hd hfit hSw
  dsimp only
  refine hK.out _ _ hS3 (fun hSw => ?_)
  clear hK K hS3
  refine HA.t ?_ [15,16,17,18,19] hSw ?_
  refine HA.d ?_
  clear hSw z0 z1 z2 z3 z4 z5 z6 z7 z8 z9 z10 z11 z12 z13 z14 zf y0 y1 y2 y3 y4 y5 y6 y7 y8 y9 y10 y11 yf lz ly hw1 p0 p1
  have hz3:=HZ3.out;have hy3:=HY3.out
  obtain ⟨⟨z0,z1,z2,z3,z4,z5,z6,z7,z8,z9,z10,z11,z12,z13,z14⟩,zf⟩:=bx15 hz3
  obtain ⟨⟨y0,y1,y2,y3,y4,y5,y6,y7,y8,y9,y10,y11⟩,yf⟩:=bx12 hy3
  have lz:=lt_of_block hz3;have ly:=lt_of_block hy3
  clear hz3 hy3
  rcases bool_ft fit with rfl | rfl
  · go_wp2_with fail
    go_quiet (fail)
    go_wp2_with fail
    go_ret
    exact ⟨ret_int (F5.out trivial G1.out (by rw [Hfit.out];rfl)).symm,below_drewN HB3.out _⟩
  have hcnt:=fun w' (q:Below w3.heap.size w3 w') => Hct.out HGZ.out.1 w' (HB3.out.trans (q.mono HB3.out.size))
  have Hcnt:=Lib.hid hcnt;clear hcnt
  by_cases h5:M ≠ CN
  · have hq:((M:Int) != (CN:Int)) = true:=by rw [bne_iff_ne];omega
    have H5:=Lib.hid h5;clear h5
    go_wp2_with fail
    go_quiet ((go_at_call 48;refine Calls.quiet_of (Hcnt.out _ ?_);(focus (repeat' (first | (with_reducible exact Below.refl _ _) | (with_reducible assumption) | (with_reducible refine Below.setCell ?_ ?_ _) | (with_reducible refine Below.alloc ?_ ?_ _) | (with_reducible refine below_drewN ?_ _) | (with_reducible refine Below.drew ?_) | (with_reducible exact Nat.le_refl _) | omega | (simp;done) | (simp;omega))))))
    go_wp2_with fail
    go_ret
    exact ⟨ret_int (F5.out trivial G1.out (by rw [Hfit.out,decide_eq_false H5.out];rfl)).symm,below_drewN HB3.out _⟩
  have hq:((M:Int) != (CN:Int)) = false:=by rw [bne_eq_false_iff_eq];omega
  have G2:=Lib.hid (show (decide (∀ x ∈ data,fitEx n0 n1 x) && decide (M = CN)) = true by rw [Hfit.out,decide_eq_true (show M = CN by omega)];rfl)
  clear h5
  go_wp2_with fail
  go_quiet ((go_at_call 48;refine Calls.quiet_of (Hcnt.out _ ?_);(focus (repeat' (first | (with_reducible exact Below.refl _ _) | (with_reducible assumption) | (with_reducible refine Below.setCell ?_ ?_ _) | (with_reducible refine Below.alloc ?_ ?_ _) | (with_reducible refine below_drewN ?_ _) | (with_reducible refine Below.drew ?_) | (with_reducible exact Nat.le_refl _) | omega | (simp;done) | (simp;omega))))))
  go_wp2_with fail
  obtain ⟨V,hV⟩:∃ V,V = w3.drewN nq:=⟨_,rfl⟩
  have hBV:Below w.heap.size w V:=by rw [hV];exact below_drewN HB3.out _
  have hzV:V.heap[w.heap.size]? = some (.cells #[.slice (some ⟨bz,oz,none⟩) L c,.int .i64 sh,.int .i64 ra,.int .i64 mo,.int .i64 wk,.int .i64 bt,.int .i64 mi,.int .i64 st,.int .i64 bu,.int .i64 ch,.int .i64 wi,.int .i64 ca,.slice D N cd,.slice T M ct,.slice R Q cr] 29 (0,0)):=by rw [hV];exact HZ3.out
  have hyV:V.heap[w.heap.size + 1]? = some (.cells #[.slice (some ⟨bz,oz,none⟩) L c,.int .i64 sh,.int .i64 ra,.int .i64 mo,.int .i64 wk,.int .i64 bt,.int .i64 mi,.int .i64 st,.int .i64 bu,.int .i64 ch,.int .i64 wi,.int .i64 ca] 24 (0,0)):=by rw [hV];exact HY3.out
  clear z0 z1 z2 z3 z4 z5 z6 z7 z8 z9 z10 z11 z12 z13 z14 zf y0 y1 y2 y3 y4 y5 y6 y7 y8 y9 y10 y11 yf
  rw [← hV]
  clear hV
  obtain ⟨⟨z0,z1,z2,z3,z4,z5,z6,z7,z8,z9,z10,z11,z12,z13,z14⟩,zf⟩:=bx15 hzV
  obtain ⟨⟨y0,y1,y2,y3,y4,y5,y6,y7,y8,y9,y10,y11⟩,yf⟩:=bx12 hyV
  have HBV:=Lib.hid hBV;clear hBV hzV hyV
  have hnd:=Hnd.out HG.out (by omega) V.drew HBV.out.drew
  have Hnd2:=Lib.hid hnd;clear hnd
  have hSw:(fun w':World => w'.cell? ⟨w.heap.size,14,none⟩ = some (.slice R Q cr) ∧ w'.cell? ⟨w.heap.size,12,none⟩ = some (.slice D N cd) ∧ w'.cell? ⟨w.heap.size + 1,0,none⟩ = some (.slice (some ⟨bz,oz,none⟩) L c) ∧ w'.cell? ⟨w.heap.size + 1,1,none⟩ = some (.int .i64 sh) ∧ w'.cell? ⟨w.heap.size + 1,2,none⟩ = some (.int .i64 ra) ∧ w'.cell? ⟨w.heap.size + 1,3,none⟩ = some (.int .i64 mo) ∧ w'.cell? ⟨w.heap.size + 1,4,none⟩ = some (.int .i64 wk) ∧ w'.cell? ⟨w.heap.size + 1,5,none⟩ = some (.int .i64 bt) ∧ w'.cell? ⟨w.heap.size + 1,6,none⟩ = some (.int .i64 mi) ∧ w'.cell? ⟨w.heap.size + 1,7,none⟩ = some (.int .i64 st) ∧ w'.cell? ⟨w.heap.size + 1,8,none⟩ = some (.int .i64 bu) ∧ w'.cell? ⟨w.heap.size + 1,9,none⟩ = some (.int .i64 ch) ∧ w'.cell? ⟨w.heap.size + 1,10,none⟩ = some (.int .i64 wi) ∧ w'.cell? ⟨w.heap.size + 1,11,none⟩ = some (.int .i64 ca)) V.drew:=⟨z14,z12,y0,y1,y2,y3,y4,y5,y6,y7,y8,y9,y10,y11⟩
  refine HA.g (fun w':World => w'.cell? ⟨w.heap.size,14,none⟩ = some (.slice R Q cr) ∧ w'.cell? ⟨w.heap.size,12,none⟩ = some (.slice D N cd) ∧ w'.cell? ⟨w.heap.size + 1,0,none⟩ = some (.slice (some ⟨bz,oz,none⟩) L c) ∧ w'.cell? ⟨w.heap.size + 1,1,none⟩ = some (.int .i64 sh) ∧ w'.cell? ⟨w.heap.size + 1,2,none⟩ = some (.int .i64 ra) ∧ w'.cell? ⟨w.heap.size + 1,3,none⟩ = some (.int .i64 mo) ∧ w'.cell? ⟨w.heap.size + 1,4,none⟩ = some (.int .i64 wk) ∧ w'.cell? ⟨w.heap.size + 1,5,none⟩ = some (.int .i64 bt) ∧ w'.cell? ⟨w.heap.size + 1,6,none⟩ = some (.int .i64 mi) ∧ w'.cell? ⟨w.heap.size + 1,7,none⟩ = some (.int .i64 st) ∧ w'.cell? ⟨w.heap.size + 1,8,none⟩ = some (.int .i64 bu) ∧ w'.cell? ⟨w.heap.size + 1,9,none⟩ = some (.int .i64 ch) ∧ w'.cell? ⟨w.heap.size + 1,10,none⟩ = some (.int .i64 wi) ∧ w'.cell? ⟨w.heap.size + 1,11,none⟩ = some (.int .i64 ca)) ?_
  refine HA.t ?_ [0,1,2,3,4,5,6] hSw ?_
  refine HA.o 7 (fun K hK => ?_)
  go_simp
  refine Hnd2.out.mono ?_
  rintro e w4 ⟨rfl,hb4⟩
  have HB4:=Lib.hid (HBV.out.trans ((Below.refl V.heap.size V).drew.trans hb4 |>.mono HBV.out.size))
  have hS4:=And.intro (cell_below hb4 hSw.1) (And.intro (cell_below hb4 hSw.2.1) (And.intro (cell_below hb4 hSw.2.2.1) (And.intro (cell_below hb4 hSw.2.2.2.1) (And.intro (cell_below hb4 hSw.2.2.2.2.1) (And.intro (cell_below hb4 hSw.2.2.2.2.2.1) (And.intro (cell_below hb4 hSw.2.2.2.2.2.2.1) (And.intro (cell_below hb4 hSw.2.2.2.2.2.2.2.1) (And.intro (cell_below hb4 hSw.2.2.2.2.2.2.2.2.1) (And.intro (cell_below hb4 hSw.2.2.2.2.2.2.2.2.2.1) (And.intro (cell_below hb4 hSw.2.2.2.2.2.2.2.2.2.2.1) (And.intro (cell_below hb4 hSw.2.2.2.2.2.2.2.2.2.2.2.1) (And.intro (cell_below hb4 hSw.2.2.2.2.2.2.2.2.2.2.2.2.1) (cell_below hb4 hSw.2.2.2.2.2.2.2.2.2.2.2.2.2)))))))))))))
  clear hb4 hSw
  dsimp only
  refine hK.out _ _ hS4 (fun hSw => ?_)
  clear hK K hS4
  refine HA.t ?_ [8] hSw ?_
  refine HA.d ?_
  clear hSw z0 z1 z2 z3 z4 z5 z6 z7 z8 z9 z10 z11 z12 z13 z14 zf y0 y1 y2 y3 y4 y5 y6 y7 y8 y9 y10 y11 yf
  by_cases h8:ND ≤ Q
  · have hq9:¬ ((Q:Int) < ND):=by omega
    have hqd:decide ((Q:Int) < ND) = false:=by simp;omega
    have hqe:decide (Q < ND) = false:=by simp;omega
    have G8:=Lib.hid (decide_eq_true h8)
    go_wp2_with fail
    go_ret
    exact ⟨ret_int (F0.out trivial G1.out G2.out G8.out).symm,HB4.out⟩
  · have hq9:(Q:Int) < ND:=by omega
    have hqd:decide ((Q:Int) < ND) = true:=by simp;omega
    have hqe:decide (Q < ND) = true:=by simp;omega
    have G8:=Lib.hid (decide_eq_false h8)
    go_wp2_with fail
    go_ret
    exact ⟨ret_int (F8.out trivial G1.out G2.out G8.out).symm,HB4.out⟩
end Go.Proofs.YthamijnggdjaoaaGreatDoor
namespace Go.Proofs.YthamijnggdjaoaaGreatDoor
open Go.RowKit
theorem et_rsts:ElemT Tryz.prog 39 84 (.agg #[.slice none 0 0,.slice none 0 0]) 2 48:=⟨Tryz.underlying39,info_parts (by kernel_rfl),rfl,by decide⟩
def RdOr (Z:Option Addr) (w0 w:World) (u:Value) (zs:List Int):Prop:=(∃ c,u = .slice Z zs.length c ∧ zs.length ≤ c ∧ Rd w0 Z (nums .i64 zs) ∧ Rd w Z (nums .i64 zs)) ∨ w.ownsRow w0.heap.size 2 1 u zs.length (nums .i64 zs)
theorem RdOr.below {Z:Option Addr} {w0 w w':World} {u:Value} {zs:List Int} (h:RdOr Z w0 w u zs) (hb:Below w.heap.size w w'):RdOr Z w0 w' u zs:=by
  rcases h with ⟨c,e,hc,h0,h1⟩ | h
  · exact .inl ⟨c,e,hc,h0,h1.below hb⟩
  · exact .inr (own_below h hb)
theorem RdOr.box {Z:Option Addr} {w0 w w':World} {u:Value} {zs:List Int} (h:RdOr Z w0 w u zs) {b:Nat} {cs:Array Value} {t:TypeId} {sg:Nat × Nat} (hb:w.heap[b]? = some (.cells cs t sg)) (ht:t ≠ 2) (hw:w0.heap.size ≤ b) (k:Keep (fun j => j = b) w w'):RdOr Z w0 w' u zs:=by
  rcases h with ⟨c,e,hc,h0,h1⟩ | h
  · exact .inl ⟨c,e,hc,h0,keep_rd k h0 h1 (fun j hj => by omega)⟩
  · exact .inr (k.own h (fun j hj e => block_notrow hb ht h (by rw [hj,e])))
theorem RdOr.pushed {Z:Option Addr} {w0 w w':World} {u v:Value} {zs:List Int} {e size n base:Nat} {xs:List Value} (h:RdOr Z w0 w u zs) (hv:w.ownsRow base e size v n xs) (hbs:w0.heap.size ≤ base) (hg:w.grownBy w' v.ownBlock) (h1:e ≠ 2):RdOr Z w0 w' u zs:=by
  rcases h with ⟨c,e,hc,h0,h2⟩ | h
  · refine .inl ⟨c,e,hc,h0,?_⟩
    cases zs with
    | nil => exact Rd.nil _ _
    | cons z zs =>
      obtain ⟨b,o,rfl,c0⟩:=h0.num (k:=0) (by simp)
      refine h2.grown hg fun a ha => ?_
      injection ha with ha
      intro e9
      have h5:=(hv.lt _ e9.symm).1
      have h6:b < w0.heap.size:=lt_of_cell c0
      rw [← ha] at h5
      dsimp only at h5
      omega
  · exact .inr (own_pushed h hv hg h1)
theorem RdOr.form {Z:Option Addr} {w0 w:World} {u:Value} {zs:List Int} (h:RdOr Z w0 w u zs):∃ A c,u = .slice A zs.length c ∧ zs.length ≤ c ∧ Rd w A (nums .i64 zs):=by
  rcases h with ⟨c,e,hc,h0,h1⟩ | h
  · exact ⟨Z,c,e,hc,h1⟩
  · obtain ⟨A,c,rfl,hc⟩:=own_form h
    exact ⟨A,c,rfl,hc,Rd.own h⟩
theorem RdOr.old {Z:Option Addr} {w0 w w':World} {u:Value} {zs:List Int} (h:RdOr Z w0 w u zs) {S:Nat → Prop} (hz:∀ a,Z = some a → ¬ S a.block) (hw:∀ j,S j → j < w0.heap.size) (k:Keep S w w'):RdOr Z w0 w' u zs:=by
  rcases h with ⟨c,e,hc,h0,h1⟩ | h
  · exact .inl ⟨c,e,hc,h0,k.rd h1 fun a ha e => hz a ha e⟩
  · exact .inr (k.own h (fun j hj e => by have:=(h.lt j hj).1;have:=hw j e;omega))
def RSt (Z:Option Addr) (w0 w:World) (cs:List Value) (x:Ex):Prop:=∃ u v,cs = [u,v] ∧ RdOr Z w0 w u x.1 ∧ RdOr Z w0 w v x.2 ∧ x.1.length ≤ 1048576 ∧ x.2.length ≤ 1048576 ∧ W64 x.1 ∧ W64 x.2
theorem RSt.rd {Z:Option Addr} {w0 w:World} {cs:List Value} {x:Ex} (h:RSt Z w0 w cs x):rEx w cs x:=by
  obtain ⟨u,v,rfl,h1,h2,h3,h4,h5,h6⟩:=h
  obtain ⟨A,c,rfl,hc,r1⟩:=h1.form
  obtain ⟨B,d,rfl,hd,r2⟩:=h2.form
  exact ⟨A,c,B,d,rfl,⟨hc,by omega,r1,h5⟩,⟨hd,by omega,r2,h6⟩⟩
theorem RSt.below {Z:Option Addr} {w0 w w':World} {cs:List Value} {x:Ex} (h:RSt Z w0 w cs x) (hb:Below w.heap.size w w'):RSt Z w0 w' cs x:=by
  obtain ⟨u,v,e,h1,h2,h3⟩:=h;exact ⟨u,v,e,h1.below hb,h2.below hb,h3⟩
theorem RSt.box {Z:Option Addr} {w0 w w':World} {cs:List Value} {x:Ex} (h:RSt Z w0 w cs x) {b:Nat} {ds:Array Value} {t:TypeId} {sg:Nat × Nat} (hb:w.heap[b]? = some (.cells ds t sg)) (ht:t ≠ 2) (hw:w0.heap.size ≤ b) (k:Keep (fun j => j = b) w w'):RSt Z w0 w' cs x:=by
  obtain ⟨u,v,e,h1,h2,h3⟩:=h;exact ⟨u,v,e,h1.box hb ht hw k,h2.box hb ht hw k,h3⟩
theorem RSt.pushed {Z:Option Addr} {w0 w w':World} {cs:List Value} {x:Ex} {v:Value} {e size n base:Nat} {xs:List Value} (h:RSt Z w0 w cs x) (hv:w.ownsRow base e size v n xs) (hbs:w0.heap.size ≤ base) (hg:w.grownBy w' v.ownBlock) (h1:e ≠ 2):RSt Z w0 w' cs x:=by
  obtain ⟨u,v,e,k1,k2,k3⟩:=h;exact ⟨u,v,e,k1.pushed hv hbs hg h1,k2.pushed hv hbs hg h1,k3⟩
def MapR (Z:Option Addr) (w0:World) (base:Nat) (w:World) (i:Inp) (n:Nat) (v:Value):Prop:=∃ rows,w.ownsRow base 84 2 v n (List.flatten rows) ∧ rows.length = n ∧ (∀ r ∈ rows,r.length = 2) ∧ (∀ j,j < n → RSt Z w0 w (rowOf rows j) (traj i j))
theorem MapR.form {Z:Option Addr} {w0 w:World} {base n:Nat} {i:Inp} {v:Value} (h:MapR Z w0 base w i n v):∃ A c,v = .slice A n c ∧ n ≤ c:=by
  obtain ⟨rows,h1,_⟩:=h;exact own_form h1
theorem MapR.below {Z:Option Addr} {w0 w w':World} {base n:Nat} {i:Inp} {v:Value} (h:MapR Z w0 base w i n v) (hb:Below w.heap.size w w'):MapR Z w0 base w' i n v:=by
  obtain ⟨rows,h1,h2,h3,h4⟩:=h
  exact ⟨rows,own_below h1 hb,h2,h3,fun j hj => (h4 j hj).below hb⟩
theorem MapR.box {Z:Option Addr} {w0 w w':World} {base n:Nat} {i:Inp} {v:Value} (h:MapR Z w0 base w i n v) {b:Nat} {ds:Array Value} {t:TypeId} {sg:Nat × Nat} (hb:w.heap[b]? = some (.cells ds t sg)) (ht:t ≠ 2) (hw:w0.heap.size ≤ b) (hbb:b < base) (k:Keep (fun j => j = b) w w'):MapR Z w0 base w' i n v:=by
  obtain ⟨rows,h1,h2,h3,h4⟩:=h
  exact ⟨rows,k.own h1 (fun j hj e => by have:=(h1.lt j hj).1;omega),h2,h3,fun j hj => (h4 j hj).box hb ht hw k⟩
theorem MapR.old {Z:Option Addr} {w0 w w':World} {base n:Nat} {i:Inp} {v:Value} (h:MapR Z w0 base w i n v) {S:Nat → Prop} (hz:∀ a,Z = some a → ¬ S a.block) (hw:∀ j,S j → j < w0.heap.size) (hb:w0.heap.size ≤ base) (k:Keep S w w'):MapR Z w0 base w' i n v:=by
  obtain ⟨rows,h1,h2,h3,h4⟩:=h
  exact ⟨rows,k.own h1 (fun j hj e => by have:=(h1.lt j hj).1;have:=hw j e;omega),h2,h3,fun j hj => by
    obtain ⟨u,v,e,k1,k2,k3⟩:=h4 j hj
    exact ⟨u,v,e,k1.old hz hw k,k2.old hz hw k,k3⟩⟩
theorem MapR.rd {Z:Option Addr} {w0 w:World} {base n c:Nat} {i:Inp} {A:Option Addr} (h:MapR Z w0 base w i n (.slice A n c)):SlRd rEx 2 w A (trajL i n):=by
  obtain ⟨rows,h1,h2,h3,h4⟩:=h
  exact ⟨rows,Rd.own h1,by rw [trajL_len];exact h2,h3,fun j x hx => by
    have hj:j < n:=by have:=(List.getElem?_eq_some_iff.1 hx).1;rwa [trajL_len] at this
    rw [trajL_at i hj] at hx
    injection hx with hx
    rw [← hx]
    exact (h4 j hj).rd⟩
theorem MapR.push {Z:Option Addr} {w0 w w':World} {base k:Nat} {i:Inp} {v v' u1 u2:Value} {rows:List (List Value)} (h1:w.ownsRow base 84 2 v k (List.flatten rows)) (h2:rows.length = k) (h3:∀ r ∈ rows,r.length = 2) (h4:∀ j,j < k → RSt Z w0 w (rowOf rows j) (traj i j)) (hbs:w0.heap.size ≤ base)
    (hu:RSt Z w0 w [u1,u2] (traj i k)) (ho:w'.ownsRow base 84 2 v' (k + 1) (List.flatten rows ++ [u1,u2])) (hg:w.grownBy w' v.ownBlock):MapR Z w0 base w' i (k + 1) v':=by
  refine ⟨rows ++ [[u1,u2]],by rw [List.flatten_append,List.flatten_cons,List.flatten_nil,List.append_nil];exact ho,by simp [h2],?_,?_⟩
  · intro r hr
    rcases List.mem_append.1 hr with hr | hr
    · exact h3 r hr
    · rw [List.mem_singleton.1 hr];rfl
  · intro j hj
    rcases Nat.lt_or_ge j k with h | h
    · have e:rowOf (rows ++ [[u1,u2]]) j = rowOf rows j:=by simp [rowOf,List.getElem?_append_left (show j < rows.length by omega)]
      rw [e];exact (h4 j h).pushed h1 hbs hg (by decide)
    · obtain rfl:j = k:=by omega
      have e:rowOf (rows ++ [[u1,u2]]) j = [u1,u2]:=by rw [← h2];simp [rowOf]
      rw [e];exact hu.pushed h1 hbs hg (by decide)
theorem MapR.one {Z:Option Addr} {w0 w:World} {base:Nat} {i:Inp} {u1 u2:Value} (hb:base ≤ w.heap.size) (hu:RSt Z w0 w [u1,u2] (traj i 0)):MapR Z w0 base (w.alloc (.cells #[u1,u2] 84)) i 1 (.slice (some ⟨w.heap.size,0,none⟩) 1 1):=by
  refine ⟨[[u1,u2]],⟨by simp,.inr ⟨w.heap.size,1,#[u1,u2],rfl,hb,heap_alloc_new w _,Nat.le_refl _,by unfold maxLen;omega,by simp,by simp⟩⟩,rfl,by simp,fun j hj => ?_⟩
  obtain rfl:j = 0:=by omega
  exact hu.below ((Below.refl _ _).alloc (Nat.le_refl _) _)
theorem traj_W64 (i:Inp) (h:W64 i.start):∀ k,W64 (traj i k).1 ∧ W64 (traj i k).2:=by
  intro k
  cases k with
  | zero => exact ⟨h,fun k hk => by rw [traj] at hk ⊢;rw [nth_eq _ _ hk];simp⟩
  | succ k => exact ⟨nextP_W64 _ _ _ _ _ _,nextM_W64 _ _ _ _⟩
def RTrainIs (i:Inp) (w:World) (e:Ending) (w':World):Prop:=Below w.heap.size w w' ∧
  ((GoodIn i ∧ ∃ A c,e = .returned (.tuple #[.slice A (i.cfg.steps.toNat + 1) c,.int .i64 0]) ∧ SlRd rEx 2 w' A (trajL i (i.cfg.steps.toNat + 1))) ∨ (¬ GoodIn i ∧ e = .returned (.tuple #[.slice none 0 0,.int .i64 (inCode i)])))
def RTrainT (T:Option Addr) (i:Inp) (w:World) (e:Ending) (w':World):Prop:=Below w.heap.size w w' ∧ ∃ A c base,e = .returned (.tuple #[.slice A (i.cfg.steps.toNat + 1) c,.int .i64 0]) ∧ MapR T w base w' i (i.cfg.steps.toNat + 1) (.slice A (i.cfg.steps.toNat + 1) c) ∧ w.heap.size ≤ base
set_option maxRecDepth 100000 in
set_option maxHeartbeats 1000000 in
theorem rtrain_bad (A:Option Addr) (c:Nat) (D:Option Addr) (cd:Nat) (T:Option Addr) (ct:Nat) (R:Option Addr) (cr:Nat) (i:Inp) (w:World) (h:InpRd w A c D T ct R i) (hbad:inCode i ≠ 0) :
    Calls Tryz.prog 25 #[.agg (inpVals A c D cd T ct R cr i)] w (RTrainIs i w):=by
  have hin:=fun w' (q:Below w.heap.size w w') => rinput_any A c D cd T ct R cr i w' (h.below q)
  have hng:¬ GoodIn i:=fun hg => hbad (in_good.2 hg)
  obtain ⟨z,hz⟩:∃ z,inCode i = z:=⟨_,rfl⟩
  have hres:RTrainIs i w = fun e w' => Below w.heap.size w w' ∧ ((GoodIn i ∧ ∃ A c,e = .returned (.tuple #[.slice A (i.cfg.steps.toNat + 1) c,.int .i64 0]) ∧ SlRd rEx 2 w' A (trajL i (i.cfg.steps.toNat + 1))) ∨ (¬ GoodIn i ∧ e = .returned (.tuple #[.slice none 0 0,.int .i64 z]))):=by
    funext e w';unfold RTrainIs;rw [hz]
  rw [hz] at hin hbad
  have hzb:(z != 0) = true:=by rw [bne_iff_ne];exact hbad
  have Hin:=Lib.hid hin;have Hng:=Lib.hid hng;have Hres:=Lib.hid hres
  clear hin hng hres hz h
  have hb0:Below w.heap.size w (w.alloc (.cells (inpVals A c D cd T ct R cr i) 29)):=(Below.refl _ w).alloc (Nat.le_refl _) _
  obtain ⟨W1,hW1⟩:∃ W1,W1 = w.alloc (.cells (inpVals A c D cd T ct R cr i) 29):=⟨_,rfl⟩
  rw [← hW1] at hb0
  have HB0:=Lib.hid hb0;clear hb0
  dsimp only [inpVals] at hW1
  have hin:=Hin.out W1 HB0.out
  dsimp only [inpVals] at hin
  have Hin2:=Lib.hid hin;clear hin
  go_enter Tryz.func25,Tryz.ntmps25
  dsimp only [inpVals]
  go_wp2_with fail
  rw [← hW1]
  clear hW1
  refine Hin2.out.mono ?_
  rintro e w2 ⟨rfl,hb2⟩
  have HB2:=Lib.hid (HB0.out.trans (hb2.mono HB0.out.size));clear hb2
  go_wp2_with fail
  go_ret2
  rw [Hres.out]
  exact ⟨HB2.out,.inr ⟨Hng.out,rfl⟩⟩
end Go.Proofs.YthamijnggdjaoaaGreatDoor
