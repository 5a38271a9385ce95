/- The reference's group. The reference's Items. No condition. -/
import Derived.Test.YtaccfnffmbndhaaGreatB28
import Derived.Test.YtaccfnffmbndhaaGreatB10
set_option linter.unusedSimpArgs false
set_option linter.unusedVariables false
namespace Go.Proofs.YtaccfnffmbndhaaGreat
open Go.RowKit
abbrev RowAt (w:World) (base:Nat) (v:Value) (l:List Itm):Prop:=w.ownsRow base 136 12 v l.length (itVals l)
set_option maxRecDepth 100000 in
set_option maxHeartbeats 4000000 in
theorem rgroup_any (p:Pln) (base st x lo hi:Nat) (a0 a1 a2 a3 a5 a6 a7 a10 a11:Value) (v:Value) (l:List Itm) (w:World)
    (hp:PlnOk p) (hbu:p.bu ≤ 1048576) (hl:RowAt w base v l) (hb:base ≤ w.heap.size) (hx:x < p.W) (hlo:lo ≤ hi) (hg:hi ≤ p.buks.length) (hll:l.length ≤ 8000000) :
    Calls Tryz.prog 78 #[v,.agg #[a0,a1,a2,a3,.int .i64 (p.W:Nat),a5,a6,a7,.int .i64 (p.bu:Nat),.int .i64 (p.ck:Nat),a10,a11,.int .i64 (p.n:Nat)],.int .i64 x,.int .i64 (st:Nat),.agg #[.int .i64 (lo:Nat),.int .i64 (hi:Nat)]] w fun e w' => ∃ v',e = .returned v' ∧ RowAt w' base v' (l ++ groupL p x st (lo,hi)) ∧ ApdV w v w' v':=by
  obtain ⟨W0,hW0⟩:∃ W0,(w.alloc (.cells #[a0,a1,a2,a3,.int .i64 (p.W:Nat),a5,a6,a7,.int .i64 (p.bu:Nat),.int .i64 (p.ck:Nat),a10,a11,.int .i64 (p.n:Nat)] 79)).alloc (.cells #[.int .i64 (lo:Nat),.int .i64 (hi:Nat)] 132) = W0:=⟨_,rfl⟩
  have g0:W0.heap[w.heap.size]? = some (.cells #[a0,a1,a2,a3,.int .i64 (p.W:Nat),a5,a6,a7,.int .i64 (p.bu:Nat),.int .i64 (p.ck:Nat),a10,a11,.int .i64 (p.n:Nat)] 79 (0,0)):=by
    rw [← hW0,Below.heap_alloc _ _ _ (by simp)];exact heap_alloc_new w _
  have g1:W0.heap[w.heap.size + 1]? = some (.cells #[.int .i64 (lo:Nat),.int .i64 (hi:Nat)] 132 (0,0)):=by
    rw [← hW0];have:=heap_alloc_new (w.alloc (.cells #[a0,a1,a2,a3,.int .i64 (p.W:Nat),a5,a6,a7,.int .i64 (p.bu:Nat),.int .i64 (p.ck:Nat),a10,a11,.int .i64 (p.n:Nat)] 79)) (.cells #[.int .i64 (lo:Nat),.int .i64 (hi:Nat)] 132);simpa using this
  have hB0:Below w.heap.size w W0:=by rw [← hW0];exact ((br w).alloc (Nat.le_refl _) _).alloc (by simp) _
  have hl0:RowAt W0 base v l:=own_below hl hB0
  have kP:=fun w' (q:Keep (fun j => v.ownBlock = some j) W0 w') => (q.block _ (lt_of_block g0) (fun h => block_notrow g0 (by decide) hl0 h.symm)).trans g0
  have kG:=fun w' (q:Keep (fun j => v.ownBlock = some j) W0 w') => (q.block _ (lt_of_block g1) (fun h => block_notrow g1 (by decide) hl0 h.symm)).trans g1
  obtain ⟨m,hm⟩:∃ m,p.W - 1 = m:=⟨_,rfl⟩
  have hW1:=hp.W1;have hW8:=hp.W8;have hck:=hp.ck;have hck2:=hp.ck2;have hbk:=hp.buks
  have hgs:=fun j => hp.buk j
  have hrl:=fun ph r j => hp.round x st ph r j
  have hm1:(p.W:Int) - 1 = (m:Int):=by omega
  have hwm:IntKind.i64.wrap (m:Int) = m:=IntWalk.i64_in _ (by omega)
  have heq:=groupL_eq p x st lo hi
  rw [hm] at heq
  have hs0:=Nat.le_trans hb hB0.size
  have hbl:=hB0.size
  have HW0:=Lib.hid hW0;have HB0:=Lib.hid hB0;have HL0:=Lib.hid hl0;have HP:=Lib.hid kP;have HG:=Lib.hid kG;have Hgs:=Lib.hid hgs;have Hrl:=Lib.hid hrl;have Hm:=Lib.hid hm;have Heq:=Lib.hid heq;have Hs0:=Lib.hid hs0
  have tG:=fun w' (q:Below W0.heap.size W0 w') => bx2 (kG w' (Keep.below q))
  have q0:=br W0
  clear hW0 g0 g1 hB0 hl0 hl kP kG hgs hrl hm hs0 heq hbl
  go_enter Tryz.func78,Tryz.ntmps78
  go_wp2_with fail
  rw [HW0.out]
  clear tG q0
  have Hll:=Lib.hid hll
  go_loopw [0,11] (fun vv y wr => ∃ j:Nat,lo ≤ j ∧ j ≤ hi ∧ y = .int .i64 j ∧ RowAt wr base vv (l ++ launL st lo (j - lo) 2) ∧ ApdV W0 v wr vv) (fun _ y _ => hi - (intOf y).toNat)
  case atStart => exact ⟨lo,Nat.le_refl _,hlo,rfl,by simpa [launL] using HL0.out,ApdV.refl _ _⟩
  case round =>
    obtain ⟨j,hj,hj2,rfl,l3,A3⟩:=hrel
    have uR:=fun w' (q:Below wr.heap.size wr w') => bx2 (sb (HG.out wr A3.1) w' q)
    have q1:=br wr
    have hlen:(l ++ launL st lo (j - lo) 2).length ≤ 8388608:=by
      have:=Hll.out
      simp only [List.length_append,launL_len]
      omega
    obtain ⟨Av,cv,rfl,_⟩:=own_form l3
    obtain ⟨n,hn⟩:∃ n,(l ++ launL st lo (j - lo) 2).length = n:=⟨_,rfl⟩
    have l3':wr.ownsRow base 136 12 (.slice Av n cv) n (itVals (l ++ launL st lo (j - lo) 2)):=by rw [← hn];exact l3
    rw [hn] at hlen A3 ⊢
    have hsz:=A3.1.size
    by_cases hjl:j < hi
    · have hji:(j:Int) < hi:=by omega
      have hw1:IntKind.i64.wrap ((j:Int) + 1) = ((j + 1:Nat):Int):=by rw [IntWalk.i64_in _ (by omega)];push_cast;rfl
      have e:l ++ launL st lo (j + 1 - lo) 2 = (l ++ launL st lo (j - lo) 2) ++ [(⟨2,st,j,none⟩:Itm)]:=by rw [show j + 1 - lo = (j - lo) + 1 by omega,launL_succ,show lo + (j - lo) = j by omega];simp only [List.append_assoc]
      have HA3:=Lib.hid A3;have L3:=Lib.hid l3';have He:=Lib.hid e;have Hn:=Lib.hid hn
      clear l3 l3' A3 e hn
      go_wp2_with (at_builtin;refine wpList_pushN et_ritems _ rfl (.tmp 27) (.tmp 31) rfl base (.slice Av n cv) n _ rfl L3.out [.int .i64 2,.int .i64 (st:Nat),.int .i64 (j:Nat),.bool false,.bool false,.int .i64 0,.int .i64 0,.int .i64 0,.int .i64 0,.int .i64 0,.int .i64 0,.int .i64 0] rfl rfl (by simp [Value.oneCell']) (by omega) (by unfold maxLen;omega) (Nat.le_trans Hs0.out hsz) ?_)
      intro g6 c6 w6 ho6 ha6
      have HO6:=Lib.hid ho6;have HA6:=Lib.hid (HA3.out.trans ha6)
      clear ho6 ha6
      go_wp2_with fail
      go_roundw
      case rel => exact ⟨j + 1,by omega,by omega,by go_num,by unfold RowAt;rw [He.out,List.length_append,Hn.out,itVals_snoc];exact HO6.out,HA6.out⟩
      case measure => simp [intOf];omega
    · have hji:¬ ((j:Int) < hi):=by omega
      obtain rfl:hi = j:=by omega
      have L3:=Lib.hid l3;have HA3:=Lib.hid A3;have Hn:=Lib.hid hn
      clear l3 l3' A3 hlen hn
      obtain ⟨l1,hl1⟩:∃ l1,l ++ launL st lo (hi - lo) 2 = l1:=⟨_,rfl⟩
      have hl1l:l1.length ≤ 8000060:=by
        have:=Hll.out
        rw [← hl1]
        simp only [List.length_append,launL_len]
        omega
      rw [Hn.out] at L3
      have L4:Hid (wr.ownsRow base 136 12 (.slice Av n cv) l1.length (itVals l1)):=Lib.hid (by have:=L3.out;unfold RowAt at this;rw [Hn.out] at this;rw [← hl1,Hn.out];exact this)
      have HL1:=Lib.hid hl1;have Hl1l:=Lib.hid hl1l
      clear hl1 hl1l L3
      go_wp2_with fail
      clear uR q1
      go_loopw [0,12] (fun vv y wr => ∃ ph:Nat,ph ≤ 2 ∧ y = .int .i64 ph ∧ RowAt wr base vv (l1 ++ roundsL p x st (lo,hi) (ph * m)) ∧ ApdV W0 v wr vv) (fun _ y _ => 2 - (intOf y).toNat)
      case atStart => exact ⟨0,Nat.zero_le _,rfl,by simpa [roundsL] using L4.out,HA3.out⟩
      case round =>
        obtain ⟨ph,hph,rfl,l2,A2⟩:=hrel
        by_cases hpl:ph < 2
        · have hpi:(ph:Int) < 2:=by omega
          have hw2:IntKind.i64.wrap ((ph:Int) + 1) = ((ph + 1:Nat):Int):=by rw [IntWalk.i64_in _ (by omega)];push_cast;rfl
          have L2:=Lib.hid l2;have HA2:=Lib.hid A2
          clear l2 A2
          go_wp2_with fail
          go_loopw [0,13] (fun vv y wr => ∃ r:Nat,r ≤ m ∧ y = .int .i64 r ∧ RowAt wr base vv (l1 ++ roundsL p x st (lo,hi) (ph * m + r)) ∧ ApdV W0 v wr vv) (fun _ y _ => m - (intOf y).toNat)
          case atStart => exact ⟨0,Nat.zero_le _,rfl,L2.out,HA2.out⟩
          case round =>
            obtain ⟨r,hr,rfl,l2,A2⟩:=hrel
            have uP:=fun w' (q:Below wr.heap.size wr w') => bx13 (sb (HP.out wr A2.1) w' q)
            have uR:=fun w' (q:Below wr.heap.size wr w') => bx2 (sb (HG.out wr A2.1) w' q)
            have q1:=br wr
            by_cases hrl:r < m
            · have hri:(r:Int) < m:=by omega
              have hw3:IntKind.i64.wrap ((r:Int) + 1) = ((r + 1:Nat):Int):=by rw [IntWalk.i64_in _ (by omega)];push_cast;rfl
              obtain ⟨k,hk⟩:∃ k,ph * m + r = k:=⟨_,rfl⟩
              have hkd:k / m = ph:=by rw [← hk,Nat.mul_comm,Nat.mul_add_div (by omega),Nat.div_eq_of_lt hrl,Nat.add_zero]
              have hkr:k % m = r:=by rw [← hk,Nat.mul_comm,Nat.mul_add_mod,Nat.mod_eq_of_lt hrl]
              have hk14:k ≤ 14:=by
                have:ph * m ≤ 1 * 7:=Nat.mul_le_mul (by omega) (by have:=Hm.out;omega)
                omega
              rw [hk] at l2
              have L2:=Lib.hid l2;have HA2:=Lib.hid A2;have Hk:=Lib.hid hk;have Hkd:=Lib.hid hkd;have Hkr:=Lib.hid hkr
              clear l2 A2 hk hkd hkr
              go_wp2_with fail
              clear uP uR q1
              go_loopw [0,14] (fun vv y wr => ∃ j:Nat,lo ≤ j ∧ j ≤ hi ∧ y = .int .i64 j ∧ RowAt wr base vv (l1 ++ roundsL p x st (lo,hi) k ++ jobsL p x st k lo (j - lo)) ∧ ApdV W0 v wr vv) (fun _ y _ => hi - (intOf y).toNat)
              case atStart => exact ⟨lo,Nat.le_refl _,hlo,rfl,by simpa [jobsL] using L2.out,HA2.out⟩
              case round =>
                obtain ⟨j,hj,hj2,rfl,l4',A4⟩:=hrel
                have uP:=fun w' (q:Below wr.heap.size wr w') => bx13 (sb (HP.out wr A4.1) w' q)
                have uR:=fun w' (q:Below wr.heap.size wr w') => bx2 (sb (HG.out wr A4.1) w' q)
                have q1:=br wr
                by_cases hjl:j < hi
                · have hji:(j:Int) < hi:=by omega
                  have hjb:j < p.buks.length:=by omega
                  obtain ⟨wj,rfl⟩:∃ wj:World,wj = wr:=⟨_,rfl⟩
                  obtain ⟨Aw,cw,rfl,_⟩:=own_form l4'
                  obtain ⟨l4,hl4⟩:∃ l4,l1 ++ roundsL p x st (lo,hi) k ++ jobsL p x st k lo (j - lo) = l4:=⟨_,rfl⟩
                  have hl4l:l4.length ≤ 8200000:=by
                    have h1:=roundsL_le (w:=x) (st:=st) (k:=k) (g:=(lo,hi)) (M:=120) (p:=p) (fun ph r j => Hrl.out ph r j)
                    have h2:=jobsL_le (w:=x) (st:=st) (k:=k) (lo:=lo) (n:=j - lo) (M:=120) (p:=p) (fun ph r j => Hrl.out ph r j)
                    have h4:k * ((hi - lo) * 120) ≤ 14 * (60 * 120):=Nat.mul_le_mul hk14 (Nat.mul_le_mul (by omega) (Nat.le_refl _))
                    have h5:(j - lo) * 120 ≤ 60 * 120:=Nat.mul_le_mul (by omega) (Nat.le_refl _)
                    have h6:=Hl1l.out
                    rw [← hl4]
                    simp only [List.length_append]
                    dsimp only at h1
                    omega
                  rw [hl4] at l4' A4 ⊢
                  obtain ⟨v4,hv4⟩:∃ v4,Value.slice Aw l4.length cw = v4:=⟨_,rfl⟩
                  rw [hv4] at l4' A4 ⊢
                  have hgj:=Hgs.out j
                  have e8:roundI p x st (k / (p.W - 1)) (k % (p.W - 1)) j = (roundL st j (rgAt p.buks j) p.W p.ck x ph r).map (itemOf st):=by
                    unfold roundI
                    rw [Hm.out,Hkd.out,Hkr.out]
                  have hrn:=Hrl.out (k / (p.W - 1)) (k % (p.W - 1)) j
                  rw [e8,List.length_map] at hrn
                  obtain ⟨b1,b2,hbb⟩:∃ b1 b2,rgAt p.buks j = (b1,b2):=⟨_,_,rfl⟩
                  have hjob:=rjob_any p a0 a1 a2 a3 a5 a6 a7 a10 a11 st j wj hp hbu hjb
                  rw [hbb] at hgj e8 hrn hjob
                  dsimp only at hgj hjob
                  have Hjob:=Lib.hid hjob;have E8:=Lib.hid e8;have Hrn:=Lib.hid hrn;have L4':=Lib.hid l4';have HA4:=Lib.hid A4;have HL4:=Lib.hid hl4;have Hl4:=Lib.hid hl4l
                  clear hjob e8 hrn l4' A4 hl4 hl4l hbb hv4
                  go_wp2_with fail
                  refine Hjob.out.mono ?_
                  rintro e w7 ⟨rfl,k7⟩
                  have q7:=bt q1 k7
                  go_wp2_with fail
                  refine (rround_any st j b1 b2 p.W p.ck x ph r w7 hW1 (by omega) hx hpl (by have:=Hm.out;omega) hgj.1 (by omega) hck hck2).mono ?_
                  rintro e w8 ⟨v8,rfl,o8,k8⟩
                  have q8:=bt q7 k8
                  obtain ⟨A8,c8,rfl,_⟩:=own_form o8
                  obtain ⟨X,hX⟩:∃ X,roundL st j (b1,b2) p.W p.ck x ph r = X:=⟨_,rfl⟩
                  rw [hX] at E8 Hrn o8 ⊢
                  obtain ⟨N,hN⟩:∃ N,X.length = N:=⟨_,rfl⟩
                  rw [hN] at Hrn o8 ⊢
                  have l8:RowAt w8 base v4 l4:=own_below L4'.out q8
                  have A8':ApdV W0 v w8 v4:=HA4.out.trans (ApdV.below q8)
                  have hX8:=fun w' (q:Keep (fun j => v4.ownBlock = some j) w8 w') => q.own o8 (fun k hk e => by
                    have h1:=(o8.lt k hk).1
                    have h5:k < wj.heap.size:=(L4'.out.lt k e).2
                    have h6:=q7.size
                    omega)
                  have L8:=Lib.hid l8;have HA8:=Lib.hid A8';have HX8:=Lib.hid hX8;have HN:=Lib.hid hN
                  clear o8 l8 A8' hX8 k8 k7 q8 q7 q1 hX hN uP uR L4' HA4
                  go_wp2_with fail
                  go_loopw [0,16] (fun vv y wr => ∃ i:Nat,i ≤ N ∧ y = .int .i64 i ∧ RowAt wr base vv (l4 ++ (X.take i).map (itemOf st)) ∧ ApdV w8 v4 wr vv) (fun _ y _ => N - (intOf y).toNat)
                  case atStart => exact ⟨0,Nat.zero_le _,rfl,by simpa using L8.out,ApdV.refl _ _⟩
                  case round =>
                    obtain ⟨i,hi',rfl,l5,A5⟩:=hrel
                    by_cases hil:i < N
                    · have hii:(i:Int) < N:=by omega
                      have hw5:IntKind.i64.wrap ((i:Int) + 1) = ((i + 1:Nat):Int):=by rw [IntWalk.i64_in _ (by have:=Hrn.out;omega)];push_cast;rfl
                      have oX:=HX8.out wr A5.1
                      obtain ⟨ga,rfl⟩:∃ ga,A8 = some ⟨ga,0,none⟩:=by
                        obtain ⟨g,e,hv,_⟩:=oX.form (by omega)
                        simp only [Value.slice.injEq] at hv
                        exact ⟨g,hv.1⟩
                      have hXi:i < X.length:=by rw [HN.out];exact hil
                      obtain ⟨a,ha⟩:∃ a,X[i] = a:=⟨_,rfl⟩
                      have ha2:X[i]? = some a:=by rw [← ha];simp
                      have cf:=acn_cell oX ha2 HN.out
                      have htk:X.take (i + 1) = X.take i ++ [a]:=by rw [List.take_succ_eq_append_getElem hXi,ha]
                      have hlen:(l4 ++ (X.take i).map (itemOf st)).length ≤ 8388607:=by
                        have:=Hl4.out
                        have:=Hrn.out
                        simp only [List.length_append,List.length_map,List.length_take]
                        omega
                      obtain ⟨snd,ad,st',bk',ph',rd',ch',at1,at2⟩:=a
                      have c0:wr.cell? ⟨ga,i * 9,none⟩ = some (.bool snd):=cf 0 (by omega)
                      have c1:wr.cell? ⟨ga,i * 9 + 1,none⟩ = some (.bool ad):=cf 1 (by omega)
                      have c2:wr.cell? ⟨ga,i * 9 + 2,none⟩ = some (.int .i64 (st':Nat)):=cf 2 (by omega)
                      have c3:wr.cell? ⟨ga,i * 9 + 3,none⟩ = some (.int .i64 (bk':Nat)):=cf 3 (by omega)
                      have c4:wr.cell? ⟨ga,i * 9 + 4,none⟩ = some (.int .i64 (ph':Nat)):=cf 4 (by omega)
                      have c5:wr.cell? ⟨ga,i * 9 + 5,none⟩ = some (.int .i64 (rd':Nat)):=cf 5 (by omega)
                      have c6:wr.cell? ⟨ga,i * 9 + 6,none⟩ = some (.int .i64 (ch':Nat)):=cf 6 (by omega)
                      have c7:wr.cell? ⟨ga,i * 9 + 7,none⟩ = some (.int .i64 (at1:Nat)):=cf 7 (by omega)
                      have c8:wr.cell? ⟨ga,i * 9 + 8,none⟩ = some (.int .i64 (at2:Nat)):=cf 8 (by omega)
                      obtain ⟨Av,cv,rfl,_⟩:=own_form l5
                      obtain ⟨n,hn⟩:∃ n,(l4 ++ (X.take i).map (itemOf st)).length = n:=⟨_,rfl⟩
                      have l5':wr.ownsRow base 136 12 (.slice Av n cv) n (itVals (l4 ++ (X.take i).map (itemOf st))):=by rw [← hn];exact l5
                      rw [hn] at hlen A5 ⊢
                      have hsz:=A5.1.size
                      have HA5:=Lib.hid A5;have L5:=Lib.hid l5';have Htk:=Lib.hid htk;have Hn:=Lib.hid hn
                      clear oX cf l5 l5' A5 htk ha2 hn ha
                      cases snd
                      · go_wp2_with (at_builtin;refine wpList_pushN et_ritems _ rfl (.tmp 72) (.tmp 80) rfl base (.slice Av n cv) n _ rfl L5.out [.int .i64 4,.int .i64 (st:Nat),.int .i64 0,.bool false,.bool ad,.int .i64 (st':Nat),.int .i64 (bk':Nat),.int .i64 (ph':Nat),.int .i64 (rd':Nat),.int .i64 (ch':Nat),.int .i64 (at1:Nat),.int .i64 (at2:Nat)] rfl rfl (by simp [Value.oneCell']) (by omega) (by unfold maxLen;omega) (Nat.le_trans (Nat.le_trans Hs0.out HA8.out.1.size) hsz) ?_)
                        intro g6 c6' w6 ho6 ha6
                        have HO6:=Lib.hid ho6;have HA6:=Lib.hid (HA5.out.trans ha6)
                        clear ho6 ha6
                        go_wp2_with fail
                        go_roundw
                        case rel => exact ⟨i + 1,by omega,by go_num,by unfold RowAt;rw [Htk.out,List.map_append,← List.append_assoc,List.length_append,Hn.out,List.map_cons,List.map_nil,itVals_snoc,List.map_take];exact HO6.out,HA6.out⟩
                        case measure => simp [intOf];omega
                      · go_wp2_with (at_builtin;refine wpList_pushN et_ritems _ rfl (.tmp 72) (.tmp 80) rfl base (.slice Av n cv) n _ rfl L5.out [.int .i64 3,.int .i64 (st:Nat),.int .i64 0,.bool true,.bool ad,.int .i64 (st':Nat),.int .i64 (bk':Nat),.int .i64 (ph':Nat),.int .i64 (rd':Nat),.int .i64 (ch':Nat),.int .i64 (at1:Nat),.int .i64 (at2:Nat)] rfl rfl (by simp [Value.oneCell']) (by omega) (by unfold maxLen;omega) (Nat.le_trans (Nat.le_trans Hs0.out HA8.out.1.size) hsz) ?_)
                        intro g6 c6' w6 ho6 ha6
                        have HO6:=Lib.hid ho6;have HA6:=Lib.hid (HA5.out.trans ha6)
                        clear ho6 ha6
                        go_wp2_with fail
                        go_roundw
                        case rel => exact ⟨i + 1,by omega,by go_num,by unfold RowAt;rw [Htk.out,List.map_append,← List.append_assoc,List.length_append,Hn.out,List.map_cons,List.map_nil,itVals_snoc,List.map_take];exact HO6.out,HA6.out⟩
                        case measure => simp [intOf];omega
                    · obtain rfl:N = i:=by omega
                      have hii:¬ ((N:Int) < N):=by omega
                      have hw6:IntKind.i64.wrap ((j:Int) + 1) = ((j + 1:Nat):Int):=by rw [IntWalk.i64_in _ (by omega)];push_cast;rfl
                      rw [List.take_of_length_le (by rw [HN.out];exact Nat.le_refl _),← E8.out,← HL4.out,List.append_assoc,show jobsL p x st k lo (j - lo) ++ roundI p x st (k / (p.W - 1)) (k % (p.W - 1)) j = jobsL p x st k lo (j + 1 - lo) from by rw [show j + 1 - lo = (j - lo) + 1 by omega,jobsL_succ,show lo + (j - lo) = j by omega]] at l5
                      have L5:=Lib.hid l5
                      have B5:=Lib.hid (HA8.out.trans A5)
                      clear l5 A5
                      go_wp2_with fail
                      go_roundw
                      case rel => exact ⟨j + 1,by omega,by omega,by go_num,L5.out,B5.out⟩
                      case measure => simp [intOf];omega
                · have hji:¬ ((j:Int) < hi):=by omega
                  obtain rfl:hi = j:=by omega
                  have e:=roundsL_succ p x st (lo,hi) k
                  dsimp only at e
                  rw [List.append_assoc,← e,← Hk.out,Nat.add_assoc] at l4'
                  have L4':=Lib.hid l4';have HA4:=Lib.hid A4
                  clear l4' A4 e uP
                  go_wp2_with fail
                  go_roundw
                  case rel => exact ⟨r + 1,by omega,by go_num,L4'.out,HA4.out⟩
                  case measure => simp [intOf];omega
            · have hri:¬ ((r:Int) < m):=by omega
              obtain rfl:m = r:=by omega
              rw [← Nat.succ_mul] at l2
              have L2:=Lib.hid l2;have HA2:=Lib.hid A2
              clear l2 A2 uR
              go_wp2_with fail
              go_roundw
              case rel => exact ⟨ph + 1,by omega,by go_num,L2.out,HA2.out⟩
              case measure => simp [intOf];omega
        · have hpi:¬ ((ph:Int) < 2):=by omega
          obtain rfl:ph = 2:=by omega
          have hrl:(roundsL p x st (lo,hi) (2 * m)).length ≤ 100800:=by
            have h1:=roundsL_le (w:=x) (st:=st) (k:=2 * m) (g:=(lo,hi)) (M:=120) (p:=p) (fun ph r j => Hrl.out ph r j)
            have h4:2 * m * ((hi - lo) * 120) ≤ 14 * (60 * 120):=Nat.mul_le_mul (by have:=Hm.out;omega) (Nat.mul_le_mul (by omega) (Nat.le_refl _))
            dsimp only at h1
            omega
          have hl2l:(l1 ++ roundsL p x st (lo,hi) (2 * m)).length ≤ 8200000:=by
            have:=Hl1l.out
            rw [List.length_append];omega
          obtain ⟨l9,hl9⟩:∃ l9,l1 ++ roundsL p x st (lo,hi) (2 * m) = l9:=⟨_,rfl⟩
          rw [hl9] at l2 hl2l
          have uR:=fun w' (q:Below wr.heap.size wr w') => bx2 (sb (HG.out wr A2.1) w' q)
          have q1:=br wr
          have L2:=Lib.hid l2;have HA2:=Lib.hid A2;have HL9:=Lib.hid hl9;have Hll9:=Lib.hid hl2l
          clear l2 A2 hl9 hl2l hrl
          go_wp2_with fail
          clear uR q1
          go_loopw [0,18] (fun vv y wr => ∃ j:Nat,lo ≤ j ∧ j ≤ hi ∧ y = .int .i64 j ∧ RowAt wr base vv (l9 ++ launL st lo (j - lo) 5) ∧ ApdV W0 v wr vv) (fun _ y _ => hi - (intOf y).toNat)
          case atStart => exact ⟨lo,Nat.le_refl _,hlo,rfl,by simpa [launL] using L2.out,HA2.out⟩
          case round =>
            obtain ⟨j,hj,hj2,rfl,l3,A3⟩:=hrel
            have uR:=fun w' (q:Below wr.heap.size wr w') => bx2 (sb (HG.out wr A3.1) w' q)
            have q1:=br wr
            have hlen:(l9 ++ launL st lo (j - lo) 5).length ≤ 8388608:=by
              have:=Hll9.out
              simp only [List.length_append,launL_len]
              omega
            obtain ⟨Av,cv,rfl,_⟩:=own_form l3
            obtain ⟨n,hn⟩:∃ n,(l9 ++ launL st lo (j - lo) 5).length = n:=⟨_,rfl⟩
            have l3':wr.ownsRow base 136 12 (.slice Av n cv) n (itVals (l9 ++ launL st lo (j - lo) 5)):=by rw [← hn];exact l3
            rw [hn] at hlen A3 ⊢
            have hsz:=A3.1.size
            by_cases hjl:j < hi
            · have hji:(j:Int) < hi:=by omega
              have hw1:IntKind.i64.wrap ((j:Int) + 1) = ((j + 1:Nat):Int):=by rw [IntWalk.i64_in _ (by omega)];push_cast;rfl
              have e:l9 ++ launL st lo (j + 1 - lo) 5 = (l9 ++ launL st lo (j - lo) 5) ++ [(⟨5,st,j,none⟩:Itm)]:=by rw [show j + 1 - lo = (j - lo) + 1 by omega,launL_succ,show lo + (j - lo) = j by omega];simp only [List.append_assoc]
              have HA3:=Lib.hid A3;have L3:=Lib.hid l3';have He:=Lib.hid e;have Hn:=Lib.hid hn
              clear l3 l3' A3 e hn
              go_wp2_with (at_builtin;refine wpList_pushN et_ritems _ rfl (.tmp 90) (.tmp 94) rfl base (.slice Av n cv) n _ rfl L3.out [.int .i64 5,.int .i64 (st:Nat),.int .i64 (j:Nat),.bool false,.bool false,.int .i64 0,.int .i64 0,.int .i64 0,.int .i64 0,.int .i64 0,.int .i64 0,.int .i64 0] rfl rfl (by simp [Value.oneCell']) (by omega) (by unfold maxLen;omega) (Nat.le_trans Hs0.out hsz) ?_)
              intro g6 c6 w6 ho6 ha6
              have HO6:=Lib.hid ho6;have HA6:=Lib.hid (HA3.out.trans ha6)
              clear ho6 ha6
              go_wp2_with fail
              go_roundw
              case rel => exact ⟨j + 1,by omega,by omega,by go_num,by unfold RowAt;rw [He.out,List.length_append,Hn.out,itVals_snoc];exact HO6.out,HA6.out⟩
              case measure => simp [intOf];omega
            · have hji:¬ ((j:Int) < hi):=by omega
              obtain rfl:hi = j:=by omega
              have L3:=Lib.hid l3;have HA3:=Lib.hid A3;have Hn:=Lib.hid hn
              clear l3 l3' A3 hlen hn
              rw [Hn.out] at L3
              have hfin:l9 ++ launL st lo (hi - lo) 5 = l ++ groupL p x st (lo,hi):=by
                rw [← HL9.out,← HL1.out,Heq.out];simp only [List.append_assoc]
              have L9:Hid (RowAt wr base (.slice Av n cv) (l ++ groupL p x st (lo,hi))):=Lib.hid (by have:=L3.out;unfold RowAt at this ⊢;rw [Hn.out] at this;rw [← hfin,Hn.out];exact this)
              have HAf:=Lib.hid ((ApdV.below (v:=v) HB0.out).trans HA3.out)
              clear hfin L3
              go_wp2_with fail
              go_ret
              exact ⟨_,rfl,L9.out,HAf.out⟩
end Go.Proofs.YtaccfnffmbndhaaGreat
namespace Go.Proofs.YtaccfnffmbndhaaGreat
open Go.RowKit
def micL (st k:Nat):List Itm:=(List.range k).map (fun a => (⟨1,st,a,none⟩:Itm))
theorem micL_succ (st k:Nat):micL st (k + 1) = micL st k ++ [(⟨1,st,k,none⟩:Itm)]:=microL_succ st k
theorem micL_len (st k:Nat):(micL st k).length = k:=by simp [micL]
set_option maxRecDepth 100000 in
set_option maxHeartbeats 4000000 in
theorem ritems_any (p:Pln) (st x:Nat) (a0 a1 a2 a3 a5 a7 a11:Value) (w:World) (hp:PlnOk p) (hbu:p.bu ≤ 1048576) (hwi:p.wi ≤ 1048576) (hx:x < p.W) :
    Calls Tryz.prog 26 #[.agg #[a0,a1,a2,a3,.int .i64 (p.W:Nat),a5,.int .i64 (p.mi:Nat),a7,.int .i64 (p.bu:Nat),.int .i64 (p.ck:Nat),.int .i64 (p.wi:Nat),a11,.int .i64 (p.n:Nat)],.int .i64 x,.int .i64 (st:Nat)] w fun e w' => ∃ v,e = .returned v ∧ w'.ownsRow w.heap.size 136 12 v (itemsL p x st).length (itVals (itemsL p x st)) ∧ Below w.heap.size w w':=by
  obtain ⟨W0,hW0⟩:∃ W0,w.alloc (.cells #[a0,a1,a2,a3,.int .i64 (p.W:Nat),a5,.int .i64 (p.mi:Nat),a7,.int .i64 (p.bu:Nat),.int .i64 (p.ck:Nat),.int .i64 (p.wi:Nat),a11,.int .i64 (p.n:Nat)] 79) = W0:=⟨_,rfl⟩
  have g0:W0.heap[w.heap.size]? = some (.cells #[a0,a1,a2,a3,.int .i64 (p.W:Nat),a5,.int .i64 (p.mi:Nat),a7,.int .i64 (p.bu:Nat),.int .i64 (p.ck:Nat),.int .i64 (p.wi:Nat),a11,.int .i64 (p.n:Nat)] 79 (0,0)):=by rw [← hW0];exact heap_alloc_new w _
  have hB0:Below w.heap.size w W0:=by rw [← hW0];exact (br w).alloc (Nat.le_refl _) _
  have hxW:¬ ((p.W:Int) ≤ x):=by omega
  have hbl:=hp.buks;have hgl:=hp.grps;have hmi:=hp.mi;have hwi1:=hp.wi
  have hs0:w.heap.size < W0.heap.size:=lt_of_block g0
  have hgrp:p.grps = blkR p.buks.length p.wi:=rfl
  have HW0:=Lib.hid hW0;have HB0:=Lib.hid hB0;have G0:=Lib.hid g0;have Hgrp:=Lib.hid hgrp
  have tP:=fun w' (q:Below W0.heap.size W0 w') => bx13 (sb g0 w' q)
  have q0:=br W0
  clear hW0 g0 hB0 hgrp
  go_enter Tryz.func26,Tryz.ntmps26
  go_wp2_with fail
  rw [HW0.out]
  clear q0
  go_loopw [7,8] (fun vv y wr => ∃ k:Nat,k ≤ p.mi ∧ y = .int .i64 k ∧ wr.ownsRow W0.heap.size 136 12 vv k (itVals (micL st k)) ∧ Below W0.heap.size W0 wr) (fun _ y _ => p.mi - (intOf y).toNat)
  case atStart => exact ⟨0,Nat.zero_le _,rfl,World.ownsRow_nil _ _ _ _,br W0⟩
  case round =>
    obtain ⟨k,hk,rfl,ho,q⟩:=hrel
    obtain ⟨Av,cv,rfl,_⟩:=own_form ho
    have hsz:=q.size
    by_cases hlt:k < p.mi
    · have hki:(k:Int) < p.mi:=by omega
      have hw1:IntKind.i64.wrap ((k:Int) + 1) = ((k + 1:Nat):Int):=by rw [IntWalk.i64_in _ (by omega)];push_cast;rfl
      have Ho:=Lib.hid ho;have Hq:=Lib.hid q
      clear ho
      go_wp2_with (at_builtin;refine wpList_push et_ritems _ rfl (.tmp 27) (.tmp 31) rfl W0.heap.size (.slice Av k cv) k _ rfl Ho.out [.int .i64 1,.int .i64 (st:Nat),.int .i64 (k:Nat),.bool false,.bool false,.int .i64 0,.int .i64 0,.int .i64 0,.int .i64 0,.int .i64 0,.int .i64 0,.int .i64 0] rfl rfl (by simp [Value.oneCell']) (by omega) (by unfold maxLen;omega) hsz ?_)
      intro g6 c6 w6 ho6 hb6 hg6
      have HO6:=Lib.hid ho6;have HB6:=Lib.hid (Hq.out.trans hb6)
      clear ho6 hb6 hg6 q
      go_wp2_with fail
      go_roundw
      case rel => exact ⟨k + 1,by omega,by go_num,by rw [micL_succ,itVals_snoc];exact HO6.out,HB6.out⟩
      case measure => simp [intOf];omega
    · obtain rfl:p.mi = k:=by omega
      have hki:¬ ((p.mi:Int) < p.mi):=by omega
      have Ho:=Lib.hid ho
      clear ho
      go_wp2_with fail
      refine HA.g (fun w':World => Below W0.heap.size W0 w') ?_
      refine HA.t ?_ [0,3,4,5] q.drew ?_
      refine HA.c 1 (rbuk_any p a0 a1 a2 a3 a5 (.int .i64 (p.mi:Nat)) a7 (.int .i64 (p.wi:Nat)) a11 _ hp hbu) ?_
      rintro e w2 ⟨v2,rfl,o2,k2⟩
      have q2:=bt q.drew k2
      obtain ⟨A2,c2,rfl,_⟩:=own_form o2
      refine ⟨_,rfl,q2,fun _ => ?_⟩
      refine HA.t ?_ [2] q2 ?_
      refine HA.c 6 (rgroups_any p.buks.length p.wi w2 (by omega) hwi1 hwi) ?_
      rintro e w3 ⟨v3,rfl,o3,k3⟩
      have q3:=bt q2 k3
      obtain ⟨A3,c3,rfl,_⟩:=own_form o3
      rw [← Hgrp.out] at o3 ⊢
      refine ⟨_,rfl,q3,fun _ => ?_⟩
      refine HA.t ?_ [7] q3 ?_
      refine HA.d ?_
      try simp only [Exit.then]
      have hr3:=Rd.own o3
      have l3:RowAt w3 W0.heap.size (.slice Av p.mi cv) (micL st p.mi):=by
        unfold RowAt
        rw [micL_len]
        exact own_below (own_below (own_drewN Ho.out 1) k2) k3
      have hg3:∀ y,A3 = some y → w2.heap.size ≤ y.block ∧ y.block < w3.heap.size:=fun y hy => own_at o3 y hy
      have hvb:∀ k,(Value.slice Av p.mi cv).ownBlock = some k → k < w2.heap.size:=fun k hk => by
        have:=(Ho.out.lt k hk).2
        have:=k2.size
        have e:wr.drew.heap.size = wr.heap.size:=rfl
        omega
      have HR3:=Lib.hid hr3;have L3:=Lib.hid l3;have HG3:=Lib.hid hg3;have Hvb:=Lib.hid hvb;have Q3:=Lib.hid q3
      clear hr3 l3 hg3 hvb o2 o3 k2 k3 q q2
      go_wp2_with fail
      obtain ⟨v3,hv3⟩:∃ v,Value.slice Av p.mi cv = v:=⟨_,rfl⟩
      rw [hv3] at L3 Hvb ⊢
      clear hv3
      go_loopw [7,10] (fun vv y wr => ∃ k:Nat,k ≤ p.grps.length ∧ y = .int .i64 k ∧ RowAt wr W0.heap.size vv (grpsL p x st k) ∧ ApdV w3 v3 wr vv) (fun _ y _ => p.grps.length - (intOf y).toNat)
      case atStart => exact ⟨0,Nat.zero_le _,rfl,by simpa [grpsL,micL] using L3.out,ApdV.refl _ _⟩
      case round =>
        obtain ⟨k,hk,rfl,l2,A2⟩:=hrel
        obtain ⟨Aw,cw,rfl,_⟩:=own_form l2
        have hgrl:=grpsL_le hp x st hk
        have hsz:=Nat.le_trans Q3.out.size A2.1.size
        by_cases hlt:k < p.grps.length
        · have hki:(k:Int) < p.grps.length:=by omega
          have hw1:IntKind.i64.wrap ((k:Int) + 1) = ((k + 1:Nat):Int):=by rw [IntWalk.i64_in _ (by omega)];push_cast;rfl
          have hrd:=A2.1.rd HR3.out (fun y hy e => by
            have h1:=(HG3.out y hy).1
            have h2:=Hvb.out _ e
            omega)
          have hrv:=rgVals_get hlt
          obtain ⟨bb,bo,rfl,cb0⟩:=hrd _ _ hrv.1
          obtain ⟨bb',bo',e',cb1⟩:=hrd _ _ hrv.2
          obtain ⟨rfl,rfl⟩:bb' = bb ∧ bo' = bo:=by simpa using e'.symm
          rw [← Nat.add_assoc] at cb1
          have hgr:=hp.grp hlt
          have hgsu:=grpsL_succ (p:=p) x st hlt
          obtain ⟨lo,hi,hlh⟩:∃ lo hi,rgAt p.grps k = (lo,hi):=⟨_,_,rfl⟩
          rw [hlh] at hgr cb0 cb1 hgsu
          dsimp only at hgr cb0 cb1
          obtain ⟨lk,hlk⟩:∃ lk,grpsL p x st k = lk:=⟨_,rfl⟩
          rw [hlk] at l2 A2 hgsu hgrl ⊢
          obtain ⟨v2,hv2⟩:∃ v,Value.slice Aw lk.length cw = v:=⟨_,rfl⟩
          rw [hv2] at l2 A2 ⊢
          have kP:wr.heap[w.heap.size]? = some (.cells #[a0,a1,a2,a3,.int .i64 (p.W:Nat),a5,.int .i64 (p.mi:Nat),a7,.int .i64 (p.bu:Nat),.int .i64 (p.ck:Nat),.int .i64 (p.wi:Nat),a11,.int .i64 (p.n:Nat)] 79 (0,0)):=(A2.1.block _ (by have:=Q3.out.size;omega) (fun e => by have:=(L3.out.lt _ e).1;omega)).trans (sb G0.out w3 Q3.out)
          have nP:¬ v2.ownBlock = some w.heap.size:=fun e => by have:=(l2.lt _ e).1;omega
          have nB:¬ v2.ownBlock = some bb':=fun e => by
            have h1:=HG3.out _ rfl
            dsimp only at h1
            rcases A2.2 with h | h
            · rw [h] at e
              have h2:=Hvb.out _ e
              omega
            · have h2:=h _ e
              omega
          have uP:=fun w' (q':Keep (fun j => v2.ownBlock = some j) wr w') => bx13 ((q'.block _ (lt_of_block kP) nP).trans kP)
          have d0:=fun w' (q':Keep (fun j => v2.ownBlock = some j) wr w') => q'.cell cb0 nB
          have d1:=fun w' (q':Keep (fun j => v2.ownBlock = some j) wr w') => q'.cell cb1 nB
          have hgc:=rgroup_any p W0.heap.size st x lo hi a0 a1 a2 a3 a5 (.int .i64 (p.mi:Nat)) a7 (.int .i64 (p.wi:Nat)) a11 v2 lk wr.drew hp hbu (own_drewN l2 1) hsz hx hgr.1 hgr.2 (by omega)
          rw [← hgsu] at hgc
          have Hgc:=Lib.hid hgc;have HA2:=Lib.hid A2
          have q1:Keep (fun j => v2.ownBlock = some j) wr wr.drew:=(Keep.refl _ _).drew
          clear hgc l2 A2 hgsu hlk hv2 kP cb0 cb1 hrd hrv e' hlh
          go_wp2_with fail
          refine HA.g (fun w':World => Keep (fun j => v2.ownBlock = some j) wr w') ?_
          refine HA.t ?_ [0,1,2,3,4,5,6,7] q1 ?_
          refine HA.c 8 Hgc.out ?_
          rintro e w8 ⟨v8,rfl,l8,A8'⟩
          have A8:ApdV wr v2 w8 v8:=(ApdV.below (br wr).drew).trans A8'
          have q8:Keep (fun j => v2.ownBlock = some j) wr w8:=A8.1
          refine ⟨_,rfl,q8,fun _ => ?_⟩
          refine HA.t ?_ [9] q8 ?_
          refine HA.d ?_
          try simp only [Exit.then]
          have L8:=Lib.hid l8;have B8:=Lib.hid (HA2.out.trans A8)
          clear l8 A8 A8' q8 q1 uP d0 d1 nP nB
          go_wp2_with fail
          go_roundw
          case rel => exact ⟨k + 1,by omega,by go_num,L8.out,B8.out⟩
          case measure => simp [intOf];omega
        · have hki:¬ ((p.grps.length:Int) < p.grps.length):=by omega
          have hke:k = p.grps.length:=by omega
          subst hke 
          obtain ⟨n,hn⟩:∃ n,(grpsL p x st p.grps.length).length = n:=⟨_,rfl⟩
          have l2':wr.ownsRow W0.heap.size 136 12 (.slice Aw n cw) n (itVals (grpsL p x st p.grps.length)):=by rw [← hn];exact l2
          rw [hn] at A2 hgrl ⊢
          have e:itVals (grpsL p x st p.grps.length) ++ [.int .i64 6,.int .i64 (st:Nat),.int .i64 0,.bool false,.bool false,.int .i64 0,.int .i64 0,.int .i64 0,.int .i64 0,.int .i64 0,.int .i64 0,.int .i64 0] = itVals (itemsL p x st):=by
            have:itemsL p x st = grpsL p x st p.grps.length ++ [(⟨6,st,0,none⟩:Itm)]:=by
              unfold grpsL itemsL
              rw [List.take_length]
            rw [this,itVals_snoc];rfl
          have hnl:n + 1 = (itemsL p x st).length:=by
            rw [← hn]
            unfold grpsL itemsL
            rw [List.take_length];simp only [List.length_append,List.length_cons,List.length_nil]
          have HA2:=Lib.hid A2;have L2:=Lib.hid l2';have He:=Lib.hid e;have Hnl:=Lib.hid hnl
          clear l2 l2' A2 hn e hnl
          go_wp2_with (at_builtin;refine wpList_pushN et_ritems _ rfl (.tmp 55) (.tmp 58) rfl W0.heap.size (.slice Aw n cw) n _ rfl L2.out [.int .i64 6,.int .i64 (st:Nat),.int .i64 0,.bool false,.bool false,.int .i64 0,.int .i64 0,.int .i64 0,.int .i64 0,.int .i64 0,.int .i64 0,.int .i64 0] rfl rfl (by simp [Value.oneCell']) (by omega) (by unfold maxLen;omega) hsz ?_)
          intro g6 c6 w6 ho6 ha6
          have ho7:w6.ownsRow W0.heap.size 136 12 (.slice g6 (n + 1) c6) (n + 1) (itVals (grpsL p x st p.grps.length) ++ [.int .i64 6,.int .i64 (st:Nat),.int .i64 0,.bool false,.bool false,.int .i64 0,.int .i64 0,.int .i64 0,.int .i64 0,.int .i64 0,.int .i64 0,.int .i64 0]):=ho6
          rw [He.out] at ho7
          have B6:=(HA2.out.trans ha6).1.toBelow (B:=W0.heap.size) Q3.out.size (fun j hj => (L3.out.lt j hj).1)
          have O6:Hid (w6.ownsRow w.heap.size 136 12 (.slice g6 (n + 1) c6) (itemsL p x st).length (itVals (itemsL p x st))):=Lib.hid (by rw [← Hnl.out];exact own_base ho7 HB0.out.size)
          have HB6:=Lib.hid (HB0.out.trans ((Q3.out.trans B6).mono HB0.out.size))
          clear ho6 ho7 ha6 B6
          go_wp2_with fail
          go_ret
          exact ⟨_,rfl,O6.out,HB6.out⟩
end Go.Proofs.YtaccfnffmbndhaaGreat
