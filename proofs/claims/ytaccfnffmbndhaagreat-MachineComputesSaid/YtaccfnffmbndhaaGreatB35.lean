/- The reference's Shuffle. The reference's count of epochs. The reference's New of a sampler. No condition. -/
import Derived.Test.YtaccfnffmbndhaaGreatB34
import Derived.Test.YtaccfnffmbndhaaGreatB25
import Derived.Test.YtaccfnffmbndhaaGreatB19
import Derived.BigQuiet
import Derived.Deep.QuietTactic
import Derived.Test.YtaccfnffmbndhaaGreatB32
import Derived.Test.YtaccfnffmbndhaaGreatB20
set_option linter.unusedSimpArgs false
set_option linter.unusedVariables false
namespace Go.Proofs.YtaccfnffmbndhaaGreat
open Go.RowKit
theorem sh_b {q n:Nat} (h:q < n) (h2:n ≤ 1048576):(q:Int) ≤ 1048576:=by omega
theorem sh_m {q n k m:Nat} (h:n - 1 - k = q) (h1:k < m) (h2:m < n):(q:Int) - 1 = (n:Int) - 1 - ((k + 1:Nat):Int):=by omega
theorem sh_t {q:Nat} (h:0 < q):((q:Int) - 1).toNat < (q:Int).toNat:=by omega
set_option maxRecDepth 100000 in
set_option maxHeartbeats 1600000 in
theorem rshuffle_any (n c i:Nat) (A:Option Addr) (l:List Int) (w:World) (hA:Rd w A (nums .u64 l)) (hn:1 ≤ n) (hn2:n ≤ 1048576) (hi:i + (n - 1) ≤ l.length) (hl:l.length ≤ 1048576) (hu:U64 l) :
    Calls Tryz.prog 155 #[.int .i64 n,.agg #[.slice A l.length c,.int .i64 i]] w fun e w' => ∃ v,e = .returned (.tuple #[.agg #[.slice A l.length c,.int .i64 ((i + (n - 1):Nat):Int)],v,.bool true]) ∧ w'.ownsRow w.heap.size 3 1 v n (nums .i64 (permN l n i)) ∧ Below w.heap.size w w':=by
  obtain ⟨m,hm⟩:∃ m,n - 1 = m:=⟨_,rfl⟩
  rw [hm] at hi ⊢
  have hpn:permN l n i = shufN n (drawN l n i) m:=by unfold permN;rw [hm]
  rw [hpn]
  have hmn:m < n:=by omega
  have hnm:n ≤ m + 1:=by omega
  have hnd:=fun w' => rpneed_any n w' hn hn2
  rw [hm] at hnd
  clear hm hpn
  have hnx:=fun k (hk:k < m) w' (q:Rd w' A (nums .u64 l)) => rnext_any c (i + k) (n - k) A l w' q (by omega) (by omega) hu (by omega) (by omega)
  obtain ⟨N,hN⟩:∃ N,l.length = N:=⟨_,rfl⟩
  rw [hN] at hi hl hnx ⊢
  have HA:=Lib.hid hA;have Hnx:=Lib.hid hnx;have Hnd:=Lib.hid hnd;have HN:=Lib.hid hN
  clear hA hnx hnd hu hN
  have hq1:¬ ((n:Int) < 0):=by omega
  have hq2:¬ ((1048576:Int) < n):=by omega
  have hq3:¬ (((N:Int) - i) < m):=by omega
  go_enter Tryz.func155,Tryz.ntmps155
  go_wp2_with fail
  have hw1:IntKind.i64.wrap ((N:Int) - i) = (N:Int) - i:=IntWalk.i64_in _ (by omega)
  go_quiet ((go_at_call 109;refine Calls.quiet_of ((Hnd.out _).mono fun e w' ⟨he,hw⟩ => ⟨he,0,hw.symm⟩)))
  clear hw1 hq1 hq2 hq3
  go_wp2_with fail
  rename_i h9 _ _
  clear h9
  have hz:=(Below.heap_alloc (w.alloc (.cells #[.slice A N c,.int .i64 i] 258)) (.cells #[.slice none 0 0,.int .i64 0] 258) w.heap.size (by simp)).trans (heap_alloc_new w _)
  have hy:=heap_alloc_new (w.alloc (.cells #[.slice A N c,.int .i64 i] 258)) (.cells #[.slice none 0 0,.int .i64 0] 258)
  rw [show (w.alloc (.cells #[.slice A N c,.int .i64 i] 258)).heap.size = w.heap.size + 1 by simp] at hy
  have hB:Below w.heap.size w ((w.alloc (.cells #[.slice A N c,.int .i64 i] 258)).alloc (.cells #[.slice none 0 0,.int .i64 0] 258)):=((Below.refl _ w).alloc (Nat.le_refl _) _).alloc (by simp) _
  obtain ⟨W0,hW0⟩:∃ W0,W0 = ((w.alloc (.cells #[.slice A N c,.int .i64 i] 258)).alloc (.cells #[.slice none 0 0,.int .i64 0] 258)).drewN nq:=⟨_,rfl⟩
  have hz0:W0.heap[w.heap.size]? = some (.cells #[.slice A N c,.int .i64 i] 258 (0,0)):=by rw [hW0];exact hz
  have hy0:W0.heap[w.heap.size + 1]? = some (.cells #[.slice none 0 0,.int .i64 0] 258 (0,0)):=by rw [hW0];exact hy
  have hB0:Below w.heap.size w W0:=by rw [hW0];exact below_drewN hB _
  rw [← hW0]
  clear hW0 hz hy hB
  have hsz0:=hB0.size
  have ly0:=lt_of_block hy0
  have HZ0:=Lib.hid hz0;have HY0:=Lib.hid hy0;have HB0:=Lib.hid hB0
  clear hz0 hy0 hB0
  go_loopw [7,8] (fun v x wr => ∃ k:Nat,k ≤ n ∧ x = .int .i64 k ∧ wr.ownsRow W0.heap.size 3 1 v k (nums .i64 (iota k)) ∧ Below W0.heap.size W0 wr) (fun _ x _ => n - (intOf x).toNat)
  case atStart => exact ⟨0,Nat.zero_le _,rfl,World.ownsRow_nil _ _ _ _,Below.refl _ _⟩
  case round =>
    obtain ⟨k,hk,rfl,hown,hb⟩:=hrel
    by_cases hlt:k < n
    · obtain ⟨Al,cl,rfl,_⟩:=own_form hown
      have Hown:=Lib.hid hown;have Hb:=Lib.hid hb;clear hown hb
      go_wp2_with (at_builtin;refine wpList_push et_ints _ rfl (.tmp 37) (.tmp 39) rfl W0.heap.size (.slice Al k cl) k _ rfl Hown.out [.int .i64 (k:Int)] rfl rfl (nums_cell .i64 [_]) (by omega) (by unfold maxLen;omega) Hb.out.size ?_)
      intro g6 c6 w6 ho6 hb6 hg6
      have hb6':=Hb.out.trans hb6
      have HO6:=Lib.hid ho6;have HB6:=Lib.hid hb6'
      clear ho6 hb6 hg6 hb6'
      go_wp2_with fail
      go_roundw
      case rel =>
        refine ⟨k + 1,by omega,by go_num,?_,HB6.out⟩
        have:iota (k + 1) = iota k ++ [(k:Int)]:=upTo_succ _ _
        rw [this,nums_append];exact HO6.out
      case measure => simp [intOf];omega
    · obtain rfl:n = k:=by omega
      obtain ⟨g,c2,rfl,_⟩:=hown.form hn
      obtain ⟨W1,rfl⟩:∃ W1:World,W1 = wr:=⟨_,rfl⟩
      have hz1:=(hb.block _ (by omega)).trans HZ0.out
      have hy1:=(hb.block _ ly0).trans HY0.out
      have hgl:=hown.lt g rfl
      have hs1:=hb.size
      have HZ1:=Lib.hid hz1;have HY1:=Lib.hid hy1;have HB1:=Lib.hid (HB0.out.trans (hb.mono HB0.out.size));have HO1:=Lib.hid hown
      clear hz1 hy1 hb hown
      go_wp2_with fail
      go_loopw [9] (fun x wr => ∃ k:Nat,k ≤ m ∧ x = .int .i64 ((n:Int) - 1 - k) ∧ wr.heap[w.heap.size]? = some (.cells #[.slice A N c,.int .i64 ((i + k:Nat):Int)] 258 (0,0)) ∧ wr.ownsRow W0.heap.size 3 1 (.slice (some ⟨g,0,none⟩) n c2) n (nums .i64 (shufN n (drawN l n i) k)) ∧ Keep (fun j => j = w.heap.size ∨ j = g) W1 wr) (fun x _ => (intOf x).toNat)
      case atStart => exact ⟨0,Nat.zero_le _,by go_num,HZ1.out,HO1.out,Keep.refl _ _⟩
      case round =>
        obtain ⟨k,hk,rfl,hz,hown,hK⟩:=hrel
        by_cases hlt:k < m
        · obtain ⟨q,hq⟩:∃ q,n - 1 - k = q:=⟨_,rfl⟩
          have hqc:(n:Int) - 1 - k = (q:Int):=by omega
          have hq1:0 < q:=by omega
          have hq2:(0:Int) < q:=by omega
          have hAr:Rd wr A (nums .u64 l):=hK.rd (HA.out.below HB1.out) (fun a ha e => by
            obtain ⟨b,o,e2,hc⟩:=HA.out.num (show 0 < l.length by have:=HN.out;omega)
            rw [ha] at e2;injection e2 with e2;subst e2
            have h5:b < w.heap.size:=lt_of_cell hc
            have h6:b = w.heap.size ∨ b = g:=e
            omega)
          have hnx:=Hnx.out k hlt wr hAr
          rw [← drawN_int l (by omega),show ((n - k:Nat):Int) = (q:Int) + 1 by omega] at hnx
          have hdl:=drawN_lt l (n:=n) (i:=i) (k:=k) (by omega)
          obtain ⟨dk,hdk⟩:∃ dk,drawN l n i k = dk:=⟨_,rfl⟩
          rw [hdk] at hnx hdl
          have Hgs:=Lib.hid (Nat.lt_of_lt_of_le hgl.2 hK.size)
          have Hne3:=Lib.hid (show ¬ g = w.heap.size by omega)
          have hqn:q < n:=by omega
          have hdn:dk < n:=by omega
          have hdi:(dk:Int) < n:=by omega
          have hqi:(q:Int) < n:=by omega
          have hlz:=lt_of_block hz
          obtain ⟨⟨z0,z1⟩,zf⟩:=bx2 hz
          simp only [Int.natCast_add,Int.cast_ofNat_Int] at hnx
          have Hnx2:=Lib.hid hnx;have Hdk:=Lib.hid hdk;have HZ:=Lib.hid hz;have HO:=Lib.hid hown;have HK:=Lib.hid hK;have Hq:=Lib.hid hq
          rw [hqc]
          have hwq:wrap64 ((q:Int) + 1) = (q:Int) + 1:=by unfold wrap64;omega
          have Hqn:=Lib.hid hqn;have Hdn:=Lib.hid hdn;have Hdi:=Lib.hid hdi;have Hqi:=Lib.hid hqi
          clear hnx hdk hz hown hK hAr hq hqc hdl hqn hdn hdi hqi
          go_wp2_with fail
          with_reducible refine Hnx2.out.mono ?_
          rintro e w1 ⟨rfl,hb1⟩
          have hz1:=(hb1.block _ hlz).trans HZ.out
          have hO1:=own_below HO.out hb1
          have p1:=own_num hO1 Hqn.out
          have p2:=own_num hO1 Hdn.out
          have f1:=hO1.frozenAt q
          have f2:=hO1.frozenAt dk
          clear z0 z1 zf
          obtain ⟨⟨z0,z1⟩,zf⟩:=bx2 hz1
          have hlz1:=lt_of_block hz1
          have hs1':=hb1.size
          have HZ1:=Lib.hid hz1;have HO2:=Lib.hid hO1;have Hb1:=Lib.hid hb1
          have Hz1s:=Lib.hid hs1'
          clear hz1 hO1 hb1 p1 p2 f1 f2
          have Hgw1:=Lib.hid (Nat.lt_of_lt_of_le Hgs.out hs1')
          go_upto_region 13 with (fail)
          clear z0 z1 zf
          have e1:=heap_setCell_same w1 w.heap.size 0 _ _ (.slice A N c) HZ1.out
          have e2:=heap_setCell_same _ w.heap.size 1 _ _ (.int .i64 ((i:Int) + k + 1)) e1
          have hk5:Keep (fun j => j = w.heap.size ∨ j = g) w1 (((w1.setCell ⟨w.heap.size,0,none⟩ (.slice A N c)).setCell ⟨w.heap.size,1,none⟩ (.int .i64 ((i:Int) + k + 1))).alloc (.cells #[.slice A N c,.int .i64 ((i:Int) + k + 1)] 258)):=(Keep.setCell (S:=fun j => j = w.heap.size ∨ j = g) (Keep.setCell (S:=fun j => j = w.heap.size ∨ j = g) (Keep.refl _ _) ⟨w.heap.size,0,none⟩ (.inr (.inl rfl)) _) ⟨w.heap.size,1,none⟩ (.inr (.inl rfl)) _).alloc _
          have e3:=(Below.heap_alloc ((w1.setCell ⟨w.heap.size,0,none⟩ (.slice A N c)).setCell ⟨w.heap.size,1,none⟩ (.int .i64 ((i:Int) + k + 1))) (.cells #[.slice A N c,.int .i64 ((i:Int) + k + 1)] 258) w.heap.size (by simpa using hlz1)).trans e2
          have ho5:=((Keep.setCell (S:=fun j => j = w.heap.size) (Keep.setCell (S:=fun j => j = w.heap.size) (Keep.refl _ w1) ⟨w.heap.size,0,none⟩ (.inr rfl) (.slice A N c)) ⟨w.heap.size,1,none⟩ (.inr rfl) (.int .i64 ((i:Int) + k + 1))).alloc (.cells #[.slice A N c,.int .i64 ((i:Int) + k + 1)] 258)).own HO2.out (fun j hj e => Hne3.out (by injection hj with hj;exact hj.trans e))
          obtain ⟨W5,hW5⟩:∃ W5,W5 = ((w1.setCell ⟨w.heap.size,0,none⟩ (.slice A N c)).setCell ⟨w.heap.size,1,none⟩ (.int .i64 ((i:Int) + k + 1))).alloc (.cells #[.slice A N c,.int .i64 ((i:Int) + k + 1)] 258):=⟨_,rfl⟩
          rw [← hW5] at e3 hk5 ho5 ⊢
          clear hW5 e1 e2
          have hlen:=own_len ho5
          have hqn:=Hqn.out;have hdn:=Hdn.out
          have p1:=own_num ho5 hqn
          have p2:=own_num ho5 hdn
          have f1:=ho5.frozenAt q
          have f2:=ho5.frozenAt dk
          have hcm:=swp_comm (p:=shufN n (drawN l n i) k) (i:=q) (j:=dk) (by rw [shufN_len];exact hqn) (by rw [shufN_len];exact hdn)
          have hsx:shufN n (drawN l n i) (k + 1) = swp (shufN n (drawN l n i) k) q dk:=by rw [shufN,Hq.out,Hdk.out]
          obtain ⟨sl,hsl⟩:∃ sl,shufN n (drawN l n i) k = sl:=⟨_,rfl⟩
          rw [hsl] at ho5 p1 p2 hcm hsx
          have Ho5:=Lib.hid ho5;have Hcm:=Lib.hid hcm;have Hqd:=Lib.hid hqn;have Hsx:=Lib.hid hsx;have HK5:=Lib.hid hk5;have HE3:=Lib.hid e3
          have hdi:=Hdi.out;have hqi:=Hqi.out
          clear ho5 hcm hsx hk5 e3 hsl hlen
          go_upto_region 14 with (fail)
          go_upto_region 15 with (fail)
          have ho6:=own_put Ho5.out q (nth sl dk)
          have hk6:Keep (fun j => j = w.heap.size ∨ j = g) w1 (W5.setCell ⟨g,q,none⟩ (.int .i64 (nth sl dk))):=Keep.setCell (S:=fun j => j = w.heap.size ∨ j = g) HK5.out ⟨g,q,none⟩ (.inr (.inr rfl)) _
          have hz6:=((Keep.setCell (S:=fun j => j = g) (Keep.refl _ W5) ⟨g,q,none⟩ (.inr rfl) (.int .i64 (nth sl dk))).block w.heap.size (lt_of_block HE3.out) (fun e => Hne3.out e.symm)).trans HE3.out
          obtain ⟨W6,hW6⟩:∃ W6,W6 = W5.setCell ⟨g,q,none⟩ (.int .i64 (nth sl dk)):=⟨_,rfl⟩
          rw [← hW6] at ho6 hk6 hz6 ⊢
          clear hW6 p1 p2 f1 f2
          have hdn:=Hdn.out
          have p2:=own_num ho6 hdn
          have f2:=ho6.frozenAt dk
          have HO6:=Lib.hid ho6;have HK6:=Lib.hid hk6;have HZ6:=Lib.hid hz6
          clear ho6 hk6 hz6
          go_upto_region 10 with (fail)
          have hqb:=sh_b Hqn.out hn2
          clear p2 f2 hdi hqi hwq
          go_wp2_with fail
          go_roundw
          case rel =>
            refine ⟨k + 1,hlt,congrArg (Value.int .i64) (sh_m Hq.out hlt hmn),?_,?_,?_⟩
            · have h8:=(Keep.setCell (S:=fun j => j = g) (Keep.refl _ W6) ⟨g,dk,none⟩ (.inr rfl) (.int .i64 (nth sl q))).block w.heap.size (lt_of_block HZ6.out) (fun e => Hne3.out e.symm)
              refine h8.trans (HZ6.out.trans ?_)
              simp [Int.add_assoc]
            · rw [Hsx.out]
              exact own_put HO6.out dk _
            · exact HK.out.trans ((Keep.below Hb1.out).trans (Keep.setCell (S:=fun j => j = w.heap.size ∨ j = g) HK6.out ⟨g,dk,none⟩ (.inr (.inr rfl)) _))
          case measure => exact sh_t hq1
        · obtain rfl:m = k:=by omega
          have hy2:=(hK.block _ (by omega) (by omega)).trans HY1.out
          have hB9:Below w.heap.size w wr:=HB1.out.trans (hK.toBelow HB1.out.size (fun j hj => by omega))
          have e1:=heap_setCell_same wr (w.heap.size + 1) 0 _ _ (.slice A N c) hy2
          have e2:=heap_setCell_same _ (w.heap.size + 1) 1 _ _ (.int .i64 ((i:Int) + m)) e1
          have hk9:Keep (fun j => j = w.heap.size + 1) wr ((wr.setCell ⟨w.heap.size + 1,0,none⟩ (.slice A N c)).setCell ⟨w.heap.size + 1,1,none⟩ (.int .i64 ((i:Int) + m))):=Keep.setCell (S:=fun j => j = w.heap.size + 1) (Keep.setCell (S:=fun j => j = w.heap.size + 1) (Keep.refl _ _) _ (.inr rfl) _) _ (.inr rfl) _
          have hm9:=hk9.own hown (fun j hj e => by injection hj with hj;have h1:g = j:=hj;omega)
          obtain ⟨⟨z0,z1⟩,zf⟩:=bx2 hz
          obtain ⟨⟨y0,y1⟩,yf⟩:=bx2 hy2
          have Hm9:=Lib.hid hm9;have Hbf:=Lib.hid (hB9.trans (hk9.toBelow hB9.size (fun j hj => by omega)));have E2:=Lib.hid e2
          clear hm9 hB9 hk9 e1 e2 hK hown hz hy2
          go_wp2_with fail
          have e3:=E2.out
          have hm9:=Hm9.out
          have hbf:=Hbf.out
          obtain ⟨W9,hW9⟩:∃ W9,W9 = (wr.setCell ⟨w.heap.size + 1,0,none⟩ (.slice A N c)).setCell ⟨w.heap.size + 1,1,none⟩ (.int .i64 ((i:Int) + m)):=⟨_,rfl⟩
          rw [← hW9] at e3 hm9 hbf ⊢
          clear hW9
          have e3:W9.heap[w.heap.size + 1]? = some (.cells #[.slice A N c,.int .i64 ((i:Int) + m)] 258 (0,0)):=by simpa using e3
          clear y0 y1 yf z0 z1 zf
          obtain ⟨⟨r0,r1⟩,rf⟩:=bx2 e3
          exact bodyPost_ret (v:=.tuple #[.agg #[.slice A N c,.int .i64 ((i:Int) + m)],.slice (some ⟨g,0,none⟩) n c2,.bool true]) (by simp [results,Tryz.results155,go_sem,r0,r1]) rfl ⟨_,by rw [Int.natCast_add],own_base hm9 (by omega),hbf⟩
end Go.Proofs.YtaccfnffmbndhaaGreat
namespace Go.Proofs.YtaccfnffmbndhaaGreat
open Go.RowKit
set_option maxRecDepth 100000 in
theorem epochs12_any (n bt sn:Nat) (w:World) (hb:1 ≤ bt ∧ bt ≤ n) (hn:n ≤ 1048576) (hs:sn ≤ 1048576) :
    Calls Tryz.prog 154 #[.int .i64 n,.int .i64 bt,.int .i64 sn] w fun e w' => e = .returned (.int .i64 (epN n bt sn:Int)) ∧ w = w':=by
  obtain ⟨per,hper⟩:∃ per,n / bt = per:=⟨_,rfl⟩
  have hper1:1 ≤ per:=by rw [← hper];exact Nat.div_pos (by omega) (by omega)
  have hper2:per ≤ n:=by rw [← hper];exact Nat.div_le_self _ _
  have hE:epN n bt sn = (sn + per - 1) / per:=by unfold epN;rw [hper,cntQ_eq _ _ hper1]
  rw [hE]
  have hEl:(sn + per - 1) / per ≤ sn + per - 1:=Nat.div_le_self _ _
  have hc1:=fun t => ceil_ge (sn:=sn) (t:=t) hper1
  have hc2:=fun t => ceil_lt (sn:=sn) (t:=t) hper1
  obtain ⟨E,hE2⟩:∃ E,(sn + per - 1) / per = E:=⟨_,rfl⟩
  rw [hE2] at hEl hc1 hc2 ⊢
  have hq1:(n:Int).tdiv (bt:Int) = (per:Int):=by rw [← hper];rfl
  have hq1':(n:Int) / (bt:Int) = (per:Int):=by rw [← hper];rfl
  have hq3:¬ (bt = 0):=by omega
  have Hc1:=Lib.hid hc1;have Hc2:=Lib.hid hc2
  clear hper hE hE2 hc1 hc2
  go_enter Tryz.func154,Tryz.ntmps154
  go_wp2_with fail
  go_loopw [7,8] (fun t i wr => ∃ k m:Nat,k ≤ E ∧ t = .int .i64 k ∧ i = .int .i64 m ∧ Hid (m = k * per) ∧ m < sn + per ∧ wr = w) (fun _ i _ => sn - (intOf i).toNat)
  case atStart => exact ⟨0,0,Nat.zero_le _,rfl,rfl,Lib.hid (by omega),by omega,rfl⟩
  case round =>
    obtain ⟨k,m,hk,rfl,rfl,Hm,hm,rfl⟩:=hrel
    by_cases hlt:m < sn
    · have hlti:(m:Int) < sn:=by omega
      go_wp2_with fail
      go_roundw
      case rel => exact ⟨k + 1,m + per,Hc1.out k (by rw [← Hm.out];exact hlt),by go_num,by go_num,Lib.hid (by rw [Hm.out,Nat.succ_mul]),by omega,trivial⟩
      case measure => simp [intOf];omega
    · obtain rfl:k = E:=by
        rcases Nat.lt_or_ge k E with h | h
        · exact absurd (Hc2.out k h) (by rw [← Hm.out];exact hlt)
        · omega
      go_wp2_with fail
      go_ret
      exact ⟨rfl,rfl⟩
set_option maxRecDepth 100000 in
theorem repoch_any (n bt sn t c:Nat) (A:Option Addr) (ol:Nat) (w:World) (hb:1 ≤ bt ∧ bt ≤ n) (hn:n ≤ 1048576) (hs:sn ≤ 1048576) (ht:t < sn) :
    Calls Tryz.prog 127 #[.agg #[.int .i64 n,.int .i64 bt,.int .i64 sn,.slice A ol c],.int .i64 t] w fun e w' => e = .returned (.tuple #[.int .i64 (t / (n / bt):Nat),.int .i64 (t % (n / bt):Nat),.bool true]) ∧ Below w.heap.size w w':=by
  obtain ⟨per,hper⟩:∃ per,n / bt = per:=⟨_,rfl⟩
  have hper1:1 ≤ per:=by rw [← hper];exact Nat.div_pos (by omega) (by omega)
  have hper2:per ≤ n:=by rw [← hper];exact Nat.div_le_self _ _
  have hq1:(n:Int).tdiv (bt:Int) = (per:Int):=by rw [← hper];rfl
  have hq1':(n:Int) / (bt:Int) = (per:Int):=by rw [← hper];rfl
  rw [hper]
  have hd1:t / per ≤ t:=Nat.div_le_self _ _
  have hd2:t % per < per:=Nat.mod_lt _ (by omega)
  have hq2:(t:Int).tdiv (per:Int) = ((t / per:Nat):Int):=rfl
  have hq2':(t:Int) / (per:Int) = ((t / per:Nat):Int):=rfl
  have hq4:(t:Int).tmod (per:Int) = ((t % per:Nat):Int):=rfl
  have hq4':(t:Int) % (per:Int) = ((t % per:Nat):Int):=rfl
  obtain ⟨E,hE⟩:∃ E,t / per = E:=⟨_,rfl⟩
  obtain ⟨M,hM⟩:∃ M,t % per = M:=⟨_,rfl⟩
  rw [hE] at hd1 hq2 hq2' ⊢
  rw [hM] at hd2 hq4 hq4' ⊢
  have hq3:¬ (bt = 0):=by omega
  have hq5:¬ (per = 0):=by omega
  have hti:¬ ((sn:Int) ≤ t):=by omega
  have hti':(t:Int) < sn:=by omega
  clear hper hE hM
  go_enter Tryz.func127,Tryz.ntmps127
  go_wp2_with fail
  go_quiet (fail)
  go_wp2_with fail
  exact bodyPost_ret (v:=.tuple #[.int .i64 (E:Int),.int .i64 (M:Int),.bool true]) (by simp [results,Tryz.results127,go_sem]) rfl ⟨rfl,below_drewN ((Below.refl _ w).alloc (Nat.le_refl _) _) _⟩
end Go.Proofs.YtaccfnffmbndhaaGreat
namespace Go.Proofs.YtaccfnffmbndhaaGreat
open Go.RowKit
def OrdI (l:List Int) (n B k:Nat) (v:Value) (vs:List Value) (w:World):Prop:=w.ownsRow B 22 1 v k vs ∧ ∀ j,j < k → ∃ A' c',vs[j]? = some (.slice A' n c') ∧ n ≤ c' ∧ w.ownsRow B 3 1 (.slice A' n c') n (nums .i64 (permN l n (j * (n - 1))))
theorem OrdI.below {l:List Int} {n B k:Nat} {v:Value} {vs:List Value} {w w':World} (h:OrdI l n B k v vs w) (hb:Below w.heap.size w w'):OrdI l n B k v vs w':=
  ⟨own_below h.1 hb,fun j hj => by obtain ⟨A',c',k1,k2,k3⟩:=h.2 j hj;exact ⟨A',c',k1,k2,own_below k3 hb⟩⟩
theorem OrdI.keep {l:List Int} {n B k:Nat} {v:Value} {vs:List Value} {S:Nat → Prop} {w w':World} (h:OrdI l n B k v vs w) (hk:Keep S w w') (hS:∀ k,S k → k < B):OrdI l n B k v vs w':=
  ⟨hk.own h.1 (fun j hj e => by have:=(h.1.lt j hj).1;have:=hS j e;omega),fun j hj => by
    obtain ⟨A',c',k1,k2,k3⟩:=h.2 j hj
    exact ⟨A',c',k1,k2,hk.own k3 (fun j hj e => by have:=(k3.lt j hj).1;have:=hS j e;omega)⟩⟩
theorem OrdI.base {l:List Int} {n B B' k:Nat} {v:Value} {vs:List Value} {w:World} (h:OrdI l n B k v vs w) (hb:B' ≤ B):OrdI l n B' k v vs w:=
  ⟨own_base h.1 hb,fun j hj => by obtain ⟨A',c',k1,k2,k3⟩:=h.2 j hj;exact ⟨A',c',k1,k2,own_base k3 hb⟩⟩
theorem OrdI.push {l:List Int} {n B k:Nat} {v v':Value} {vs:List Value} {w w':World} {A:Option Addr} {c:Nat} (h:OrdI l n B k v vs w) (hr:w.ownsRow B 3 1 (.slice A n c) n (nums .i64 (permN l n (k * (n - 1))))) (hc:n ≤ c)
    (ho:w'.ownsRow B 22 1 v' (k + 1) (vs ++ [.slice A n c])) (hg:w.grownBy w' v.ownBlock):OrdI l n B (k + 1) v' (vs ++ [.slice A n c]) w':=
  ⟨ho,fun j hj => by
    have hvl:vs.length = k:=by have:=h.1.1;simpa using this
    rcases Nat.lt_or_ge j k with q | q
    · obtain ⟨A',c',k1,k2,k3⟩:=h.2 j q
      exact ⟨A',c',by rw [List.getElem?_append_left (by omega)];exact k1,k2,own_pushed k3 h.1 hg (by decide)⟩
    · obtain rfl:j = k:=by omega
      exact ⟨A,c,by rw [List.getElem?_append_right (by omega),hvl];simp,hc,own_pushed hr h.1 hg (by decide)⟩⟩
theorem OrdI.rd {l:List Int} {n B k c:Nat} {A:Option Addr} {vs:List Value} {w:World} (h:OrdI l n B k (.slice A k c) vs w) (hn:n ≤ 1048576):SlRd rVec 1 w A (ordersN l n k):=by
  have hvl:vs.length = k:=by have:=h.1.1;simpa using this
  refine slrd_one (Rd.own h.1) (by rw [hvl,ordersN_len]) fun j x hx => ?_
  have hj:j < k:=by rw [← ordersN_len l n k];exact (List.getElem?_eq_some_iff.1 hx).1
  rw [ordersN_at l n hj] at hx;injection hx with hx
  obtain ⟨A',c',k1,k2,k3⟩:=h.2 j hj
  refine ⟨_,k1,A',c',?_,?_,?_,?_⟩
  · rw [← hx,permN_len]
  · rw [← hx,permN_len];exact k2
  · rw [← hx,permN_len];omega
  · rw [← hx];exact Rd.own k3
theorem nw_mul {k E m:Nat} (h:k < E) {N:Nat} (h2:E * m ≤ N):k * m + m ≤ N:=by
  have h1:(k + 1) * m ≤ E * m:=Nat.mul_le_mul_right _ h
  rw [Nat.succ_mul] at h1;omega
def RNew12Is (l:List Int) (n b steps E:Nat) (w:World) (e:Ending) (w':World):Prop:=∃ A c,e = .returned (.tuple #[.agg #[.int .i64 n,.int .i64 b,.int .i64 steps,.slice A E c],.int .i64 0]) ∧ (∃ vs,OrdI l n w.heap.size E (.slice A E c) vs w') ∧ Below w.heap.size w w'
set_option maxRecDepth 100000 in
set_option maxHeartbeats 1000000 in
theorem rnew12_any (n b steps E c:Nat) (A:Option Addr) (l:List Int) (w:World) (hA:Rd w A (nums .u64 l)) (hl:l.length ≤ 1048576) (hu:U64 l) (hb:1 ≤ b) (hbn:b ≤ n) (hn:n ≤ 1048576) (hst:steps ≤ 1048576) (hE:epN n b steps = E) (hd:E * (n - 1) ≤ l.length) :
    Calls Tryz.prog 119 #[.int .i64 n,.int .i64 b,.int .i64 steps,.slice A l.length c] w (RNew12Is l n b steps E w):=by
  have hEs:E ≤ steps:=by rw [← hE];exact cntQ_le _ _
  have hep:=fun w' => epochs12_any n b steps w' ⟨hb,hbn⟩ hn hst
  rw [hE] at hep
  have hnd:=fun w' => rpneed_any n w' (by omega) hn
  obtain ⟨m,hm⟩:∃ m,n - 1 = m:=⟨_,rfl⟩
  have hsh:=fun k w' (hk:k * m + m ≤ l.length) (q:Rd w' A (nums .u64 l)) => rshuffle_any n c (k * m) A l w' q (by omega) hn (by rw [hm];exact hk) hl hu
  rw [hm] at hd hnd
  simp only [hm] at hsh
  obtain ⟨N,hN⟩:∃ N,l.length = N:=⟨_,rfl⟩
  rw [hN] at hd hl hsh ⊢
  have q1:¬ ((n:Int) < 1):=by omega
  have q2:¬ ((1048576:Int) < n):=by omega
  have q3:¬ ((steps:Int) < 0):=by omega
  have q4:¬ ((1048576:Int) < steps):=by omega
  have q5:¬ ((b:Int) < 1):=by omega
  have q6:¬ ((n:Int) < b):=by omega
  have hEm:(E:Int) * (m:Int) = ((E * m:Nat):Int):=by push_cast;rfl
  have q7:¬ ((N:Int) < (E:Int) * (m:Int)):=by rw [hEm];omega
  have q8:wrap64 ((E:Int) * (m:Int)) = (E:Int) * (m:Int):=by rw [hEm];unfold wrap64;omega
  have Q7:=Lib.hid q7;have Q8:=Lib.hid q8
  clear hEm q7 q8
  have HA:=Lib.hid hA;have Hep:=Lib.hid hep;have Hnd:=Lib.hid hnd;have Hsh:=Lib.hid hsh;have Hd:=Lib.hid hd;have Hm:=Lib.hid hm;have HN:=Lib.hid hN
  clear hA hep hnd hsh hd hu hE hb hbn hm hN
  have hz:=(Below.heap_alloc (w.alloc (.cells #[.int .i64 0,.int .i64 0,.int .i64 0,.slice none 0 0] 159)) (.cells #[.int .i64 n,.int .i64 b,.int .i64 steps,.slice none 0 0] 159) w.heap.size (by simp)).trans (heap_alloc_new w _)
  have hy:=heap_alloc_new (w.alloc (.cells #[.int .i64 0,.int .i64 0,.int .i64 0,.slice none 0 0] 159)) (.cells #[.int .i64 n,.int .i64 b,.int .i64 steps,.slice none 0 0] 159)
  rw [show (w.alloc (.cells #[.int .i64 0,.int .i64 0,.int .i64 0,.slice none 0 0] 159)).heap.size = w.heap.size + 1 by simp] at hy
  have hB:Below w.heap.size w ((w.alloc (.cells #[.int .i64 0,.int .i64 0,.int .i64 0,.slice none 0 0] 159)).alloc (.cells #[.int .i64 n,.int .i64 b,.int .i64 steps,.slice none 0 0] 159)):=((Below.refl _ w).alloc (Nat.le_refl _) _).alloc (by simp) _
  have hsz:((w.alloc (.cells #[.int .i64 0,.int .i64 0,.int .i64 0,.slice none 0 0] 159)).alloc (.cells #[.int .i64 n,.int .i64 b,.int .i64 steps,.slice none 0 0] 159)).heap.size = w.heap.size + 2:=by simp
  have HZ:=Lib.hid hz;have HY:=Lib.hid hy;have HB:=Lib.hid hB;have HSz:=Lib.hid hsz
  clear hz hy hB hsz
  go_enter Tryz.func119,Tryz.ntmps119
  go_wp2_with fail
  refine (Hep.out _).mono ?_
  rintro e w' ⟨rfl,rfl⟩
  clear q1 q2 q3 q4 q5 q6
  go_wp2_with fail
  refine (Hnd.out _).mono ?_
  rintro e w' ⟨rfl,rfl⟩
  have hz:=HZ.out;have hy:=HY.out;have hB:=HB.out;have hsz:=HSz.out
  generalize (w.alloc (.cells #[.int .i64 0,.int .i64 0,.int .i64 0,.slice none 0 0] 159)).alloc (.cells #[.int .i64 n,.int .i64 b,.int .i64 steps,.slice none 0 0] 159) = W1 at hz hy hB hsz ⊢
  have Hz1:=Lib.hid hz;have Hy1:=Lib.hid hy;have HB1:=Lib.hid hB;have Hs1:=Lib.hid hsz
  clear hz hy hB hsz HZ HY HB HSz
  have q7:=Q7.out;have q8:=Q8.out
  go_wp2_with fail
  clear q7 q8
  rw [Hs1.out]
  have hx:=heap_alloc_new W1 (.cells #[.slice A N c,.int .i64 0] 258)
  rw [Hs1.out] at hx
  have hz2:=(Below.heap_alloc W1 (.cells #[.slice A N c,.int .i64 0] 258) w.heap.size (by rw [Hs1.out];omega)).trans Hz1.out
  have hy2:=(Below.heap_alloc W1 (.cells #[.slice A N c,.int .i64 0] 258) (w.heap.size + 1) (by rw [Hs1.out];omega)).trans Hy1.out
  have hB2:=HB1.out.alloc (by rw [Hs1.out];omega) (.cells #[.slice A N c,.int .i64 0] 258)
  have hs2:(W1.alloc (.cells #[.slice A N c,.int .i64 0] 258)).heap.size = w.heap.size + 3:=by simp [Hs1.out]
  generalize W1.alloc (.cells #[.slice A N c,.int .i64 0] 258) = W0 at hx hz2 hy2 hB2 hs2 ⊢
  have HX:=Lib.hid hx;have HZ:=Lib.hid hz2;have HY:=Lib.hid hy2;have HB:=Lib.hid hB2;have HS:=Lib.hid hs2
  clear hx hz2 hy2 hB2 Hz1 Hy1 HB1 Hs1 W1
  go_loopw [13] (fun x wr => ∃ (k:Nat) (Ao:Option Addr) (co:Nat) (vs:List Value),k ≤ E ∧ x = .int .i64 k ∧ wr.heap[w.heap.size + 1]? = some (.cells #[.int .i64 n,.int .i64 b,.int .i64 steps,.slice Ao k co] 159 (0,0)) ∧
    wr.heap[w.heap.size + 2]? = some (.cells #[.slice A N c,.int .i64 ((k * m:Nat):Int)] 258 (0,0)) ∧ OrdI l n (w.heap.size + 3) k (.slice Ao k co) vs wr ∧ Keep (fun j => j = w.heap.size + 1 ∨ j = w.heap.size + 2) W0 wr) (fun x _ => E - (intOf x).toNat)
  case atStart => exact ⟨0,none,0,[],Nat.zero_le _,rfl,HY.out,by rw [Nat.zero_mul];exact HX.out,⟨World.ownsRow_nil _ _ _ _,fun j hj => by omega⟩,Keep.refl _ _⟩
  case round =>
    obtain ⟨k,Ao,co,vs,hk,rfl,hy,hx,hO,hK⟩:=hrel
    have hrs:=hK.size
    rw [HS.out] at hrs
    by_cases hlt:k < E
    · have hlti:(k:Int) < E:=by omega
      have hAr:Rd wr A (nums .u64 l):=keep_rd hK HA.out (HA.out.below HB.out) (fun j hj => by omega)
      have hsh:=Hsh.out k wr (nw_mul hlt Hd.out) hAr
      have Hsh2:=Lib.hid hsh
      have HO:=Lib.hid hO;have HK:=Lib.hid hK;have HYr:=Lib.hid hy;have HXr:=Lib.hid hx
      obtain ⟨⟨x0,x1⟩,xf⟩:=bx2 hx
      have hlx:=lt_of_block hx
      clear hsh hO hK hy hx hAr
      go_wp2_with fail
      refine Hsh2.out.mono ?_
      rintro e w1 ⟨v,rfl,hrow,hb1⟩
      obtain ⟨Av,cv,rfl,hcv⟩:=own_form hrow
      clear x0 x1 xf Hsh2
      have hx1:=(hb1.block _ hlx).trans HXr.out
      have hy1:=(hb1.block _ (by omega)).trans HYr.out
      have hO1:=HO.out.below hb1
      have hr1:=own_base hrow hrs
      have hs1:=hb1.size
      obtain ⟨⟨x0,x1⟩,xf⟩:=bx2 hx1
      have hlx1:=lt_of_block hx1
      have HX1:=Lib.hid hx1;have HY1:=Lib.hid hy1;have HO1:=Lib.hid hO1;have HR1:=Lib.hid hr1;have HB1:=Lib.hid hb1;have HS1:=Lib.hid hs1;have HCV:=Lib.hid hcv
      clear hx1 hy1 hO1 hr1 hb1 hs1 hrow hcv
      go_upto_region 15 with (fail)
      obtain ⟨e2,k2⟩:=store2 w1 (w.heap.size + 2) (.slice A N c) (.int .i64 ((k:Int) * m + m)) HX1.out
      have k5:=k2.alloc (.cells #[.slice A N c,.int .i64 ((k:Int) * m + m)] 258)
      have e5:=(Below.heap_alloc ((w1.setCell ⟨w.heap.size + 2,0,none⟩ (.slice A N c)).setCell ⟨w.heap.size + 2,1,none⟩ (.int .i64 ((k:Int) * m + m))) (.cells #[.slice A N c,.int .i64 ((k:Int) * m + m)] 258) (w.heap.size + 2) (by simpa using hlx1)).trans e2
      generalize ((w1.setCell ⟨w.heap.size + 2,0,none⟩ (.slice A N c)).setCell ⟨w.heap.size + 2,1,none⟩ (.int .i64 ((k:Int) * m + m))).alloc (.cells #[.slice A N c,.int .i64 ((k:Int) * m + m)] 258) = W5 at k5 e5 ⊢
      have hz5:=Nat.le_trans (Nat.le_trans hrs HS1.out) k5.size
      have hy5:=(k5.block _ (lt_of_block HY1.out) (by omega)).trans HY1.out
      have hO5:=HO1.out.keep k5 (fun j hj => by omega)
      have hr5:=k5.own HR1.out (fun j hj e => by have:=(HR1.out.lt j hj).1;omega)
      have hK5:Keep (fun j => j = w.heap.size + 1 ∨ j = w.heap.size + 2) W0 W5:=(HK.out.trans (Keep.below HB1.out)).trans (k5.mono fun j _ h => .inr h)
      have hx5:W5.heap[w.heap.size + 2]? = some (.cells #[.slice A N c,.int .i64 ((((k + 1) * m:Nat)):Int)] 258 (0,0)):=by rw [e5,Nat.succ_mul];push_cast;rfl
      clear x0 x1 xf e2 k2 e5 k5
      obtain ⟨⟨y0,y1,y2,y3⟩,yf⟩:=bx4 hy5
      have HX5:=Lib.hid hx5;have HY5:=Lib.hid hy5;have HO5:=Lib.hid hO5;have HR5:=Lib.hid hr5;have HK5:=Lib.hid hK5
      have hly5:=lt_of_block hy5
      clear hx5 hy5 hO5 hr5 hK5
      go_wp2_with (at_builtin;refine wpList_push et_intss W5 rfl (.tmp 72) (.tmp 74) rfl (w.heap.size + 3) (.slice Ao k co) k vs rfl HO5.out.1 [.slice Av n cv] rfl rfl (by simp [Value.oneCell']) (by omega) (by unfold maxLen;omega) hz5 ?_)
      intro g6 c6 w6 ho6 hb6 hg6
      have hO6:=HO5.out.push (by have h:=HR5.out;rw [← Hm.out] at h;exact h) HCV.out ho6 hg6
      have hy6:=(hb6.block _ (by omega)).trans HY5.out
      have hx6:=(hb6.block _ (by omega)).trans HX5.out
      have hK6:=HK5.out.below2 (by rw [HS.out];exact hb6)
      have hgb:g6 ≠ w.heap.size + 1:=fun e => by
        have:=(ho6.lt g6 rfl).1
        omega
      obtain ⟨⟨z0,z1,z2,z3⟩,zf⟩:=bx4 hy6
      have hly6:=lt_of_block hy6
      have HX6:=Lib.hid hx6;have HY6:=Lib.hid hy6;have HO6:=Lib.hid hO6;have HK6:=Lib.hid hK6
      clear hx6 hy6 hO6 hK6 ho6 hb6 hg6 y0 y1 y2 y3 yf hgb
      go_wp2_with fail
      go_roundw
      case rel =>
        have e1:=heap_setCell_same w6 (w.heap.size + 1) 3 _ _ (.slice (some ⟨g6,0,none⟩) (k + 1) c6) HY6.out
        have k1:Keep (fun j => j = w.heap.size + 1) w6 (w6.setCell ⟨w.heap.size + 1,3,none⟩ (.slice (some ⟨g6,0,none⟩) (k + 1) c6)):=Keep.setCell (S:=fun j => j = w.heap.size + 1) (Keep.refl _ _) _ (.inr rfl) _
        exact ⟨k + 1,some ⟨g6,0,none⟩,c6,_,hlt,by go_num,by simpa using e1,(k1.block _ (lt_of_block HX6.out) (by omega)).trans HX6.out,HO6.out.keep k1 (fun j hj => by omega),HK6.out.trans (k1.mono fun j _ h => .inl h)⟩
      case measure => simp [intOf];omega
    · obtain rfl:E = k:=by omega
      have hz:=(hK.block _ (by rw [HS.out];omega) (by omega)).trans HZ.out
      have hBw:Below w.heap.size w wr:=HB.out.trans (hK.toBelow (by rw [HS.out];omega) (fun j hj => by omega))
      obtain ⟨e4,k4⟩:=store4 wr w.heap.size (.int .i64 n) (.int .i64 b) (.int .i64 steps) (.slice Ao E co) hz
      have hO9:=(hO.keep k4 (fun j hj => by omega)).base (show w.heap.size ≤ w.heap.size + 3 by omega)
      have hB9:Below w.heap.size w ((((wr.setCell ⟨w.heap.size,0,none⟩ (.int .i64 n)).setCell ⟨w.heap.size,1,none⟩ (.int .i64 b)).setCell ⟨w.heap.size,2,none⟩ (.int .i64 steps)).setCell ⟨w.heap.size,3,none⟩ (.slice Ao E co)):=hBw.trans (k4.toBelow hBw.size (fun j hj => by omega))
      obtain ⟨⟨y0,y1,y2,y3⟩,yf⟩:=bx4 hy
      obtain ⟨⟨z0,z1,z2,z3⟩,zf⟩:=bx4 hz
      have E4:=Lib.hid e4;have HO9:=Lib.hid hO9;have HB9:=Lib.hid hB9
      clear e4 k4 hO9 hB9 hO hK hx hy hz hBw
      go_wp2_with fail
      have e3:=E4.out
      have ho9:=HO9.out
      have hb9:=HB9.out
      generalize ((((wr.setCell ⟨w.heap.size,0,none⟩ (.int .i64 n)).setCell ⟨w.heap.size,1,none⟩ (.int .i64 b)).setCell ⟨w.heap.size,2,none⟩ (.int .i64 steps)).setCell ⟨w.heap.size,3,none⟩ (.slice Ao E co)) = W9 at e3 ho9 hb9 ⊢
      clear y0 y1 y2 y3 yf z0 z1 z2 z3 zf
      obtain ⟨⟨r0,r1,r2,r3⟩,rf⟩:=bx4 e3
      exact bodyPost_ret (v:=.tuple #[.agg #[.int .i64 n,.int .i64 b,.int .i64 steps,.slice Ao E co],.int .i64 0]) (by simp [results,Tryz.results119,go_sem,r0,r1,r2,r3]) rfl ⟨_,_,rfl,⟨_,ho9⟩,hb9⟩
end Go.Proofs.YtaccfnffmbndhaaGreat
