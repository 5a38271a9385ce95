/- slices.DeleteFunc of a number. A machine of which the parameters have changed. A machine updates a bucket. A machine does a launching, an updating, a recording item. One worker's step, plainly: updating bucket after bucket is updating all. No condition. -/
import Derived.Test.YtaccfnffmbndhaaGreatA42
set_option linter.unusedSimpArgs false
set_option linter.unusedVariables false
namespace Go.Proofs.YtaccfnffmbndhaaGreat
open Go.RowKit
theorem beq_nat (j n:Nat):((j:Int) == (n:Int)) = decide (j = n):=by rw [Bool.eq_iff_iff];simp;omega
theorem delc_any (X n j:Nat) (w:World) (hX:w.cell? ⟨X,2,none⟩ = some (.int .i64 (n:Nat))):Calls Tryz.prog 152 #[.int .i64 (j:Nat),.pointer (some ⟨X,0,none⟩)] w fun e w' => e = .returned (.bool (decide (j = n))) ∧ w' = w:=by
  go_enter Tryz.func152,Tryz.ntmps152
  go_wp2_with fail
  go_ret
  exact ⟨by simp [beq_nat],rfl⟩
theorem intsN_at {l:List Nat} {k j:Nat} (h:l[k]? = some j):(nums .i64 (intsN l))[k]? = some (.int .i64 (j:Nat)):=by simp [nums,intsN,h]
def IxIs (l:List Nat) (n:Nat) (w:World) (e:Ending) (w':World):Prop:=((∃ k,k < l.length ∧ l[k]? = some n ∧ (∀ j,j < k → l[j]? ≠ some n) ∧ e = .returned (.int .i64 (k:Nat))) ∨ ((∀ j,j < l.length → l[j]? ≠ some n) ∧ e = .returned (.int .i64 (-1)))) ∧ w' = w
set_option maxRecDepth 100000 in
theorem ixf_any (A:Option Addr) (l:List Nat) (c X n:Nat) (w:World) (hA:Rd w A (nums .i64 (intsN l))) (hl:l.length ≤ 1000) (hX:w.cell? ⟨X,2,none⟩ = some (.int .i64 (n:Nat))) :
    Calls Tryz.prog 137 #[.slice A l.length c,.func (.func 152) #[] #[.pointer (some ⟨X,0,none⟩)]] w (IxIs l n w):=by
  have hcall:=fun j => delc_any X n j w hX
  obtain ⟨N,hN⟩:∃ N,l.length = N:=⟨_,rfl⟩
  have hix:∀ e w',((∃ k,k < N ∧ l[k]? = some n ∧ (∀ j,j < k → l[j]? ≠ some n) ∧ e = .returned (.int .i64 (k:Nat))) ∨ ((∀ j,j < N → l[j]? ≠ some n) ∧ e = .returned (.int .i64 (-1)))) ∧ w' = w → IxIs l n w e w':=fun e w' h => by rw [← hN] at h;exact h
  rw [hN] at hl ⊢
  have Hc:=Lib.hid hcall;have HA:=Lib.hid hA;have HN:=Lib.hid hN;have HI:=Lib.hid hix
  clear hcall hA hN hX hix
  go_enter Tryz.func137,Tryz.ntmps137
  go_wp2_with fail
  go_loopw [8] (fun y wr => ∃ k:Nat,k ≤ N ∧ y = .int .i64 k ∧ (∀ j,j < k → l[j]? ≠ some n) ∧ wr = w) (fun y _ => N - (intOf y).toNat)
  case atStart => exact ⟨0,Nat.zero_le _,rfl,fun j hj => by omega,rfl⟩
  case round =>
    obtain ⟨k,hk,rfl,hno,rfl⟩:=hrel
    have Hno:=Lib.hid hno
    clear hno
    by_cases hlt:k < N
    · have hki:(k:Int) < N:=by omega
      have hk0:¬ (k:Int) < 0:=by omega
      have hwk:IntKind.i64.wrap ((k:Int) + 1) = ((k + 1:Nat):Int):=by rw [IntWalk.i64_in _ (by omega)];push_cast;rfl
      obtain ⟨v,hv⟩:∃ v,l[k]? = some v:=⟨_,List.getElem?_eq_getElem (by rw [HN.out];exact hlt)⟩
      obtain ⟨b,o,rfl,hcell⟩:=HA.out k _ (intsN_at hv)
      have lb:=lt_of_cell hcell
      have HV:=Lib.hid hv
      clear hv
      go_wp2_with fail
      refine (Hc.out v).mono ?_
      rintro e w2 ⟨rfl,rfl⟩
      by_cases hvn:v = n
      · subst hvn
        rw [decide_eq_true rfl]
        go_wp2_with fail
        go_ret
        exact HI.out _ _ ⟨.inl ⟨k,hlt,HV.out,Hno.out,rfl⟩,rfl⟩
      · rw [decide_eq_false hvn]
        have HVN:=Lib.hid hvn
        clear hvn
        go_wp2_with fail
        go_roundw
        case rel =>
          refine ⟨k + 1,by omega,by go_num,fun j hj => ?_,trivial⟩
          rcases Nat.lt_or_ge j k with h | h
          · exact Hno.out j h
          · obtain rfl:j = k:=by omega
            rw [HV.out];intro h;exact HVN.out (by simpa using h)
        case measure => simp [intOf];omega
    · have hki:¬ (k:Int) < N:=by omega
      obtain rfl:k = N:=by omega
      go_wp2_with fail
      go_ret
      exact HI.out _ _ ⟨.inr ⟨Hno.out,rfl⟩,rfl⟩
theorem own_short {w:World} {base g n c k:Nat} {e:TypeId} {xs:List Value} (h:w.ownsRow base e 1 (.slice (some ⟨g,0,none⟩) n c) n xs) (hk:k ≤ n):w.ownsRow base e 1 (.slice (some ⟨g,0,none⟩) k c) k (xs.take k):=by
  have hl:=h.1
  rcases h.2 with ⟨e',_⟩ | ⟨g',cap,cur,e',h1,h2,h3,h4,h5,h6⟩
  · cases e'
  · simp only [Value.slice.injEq,Option.some.injEq,Addr.mk.injEq] at e'
    obtain ⟨⟨rfl,_⟩,_,rfl⟩:=e'
    refine ⟨by rw [List.length_take];omega,.inr ⟨g,c,cur,rfl,h1,h2,by omega,h4,h5,?_⟩⟩
    rw [← h6,List.take_take];congr 1;omega
def delL (l:List Nat) (n:Nat):List Nat:=l.filter fun j => decide (j ≠ n)
def DelIs (l:List Nat) (n base g c:Nat) (w:World) (e:Ending) (w':World):Prop:=e = .returned (.slice (some ⟨g,0,none⟩) (delL l n).length c) ∧ w'.ownsRow base 3 1 (.slice (some ⟨g,0,none⟩) (delL l n).length c) (delL l n).length (nums .i64 (intsN (delL l n))) ∧ Keep (fun j => j = g) w w'
theorem intsN_take (l:List Nat) (k:Nat):(nums .i64 (intsN l)).take k = nums .i64 (intsN (l.take k)):=by simp [nums,intsN,List.map_take]
theorem intsN_set (l:List Nat) (k v:Nat):(nums .i64 (intsN l)).set k (.int .i64 (v:Nat)) = nums .i64 (intsN (l.set k v)):=by simp [nums,intsN,List.map_set]
theorem del_step {l R:List Nat} {n i j v:Nat} (hv:l[j]? = some v) (h1:R.take i = delL (l.take j) n) (h2:R.drop j = l.drop j) (hij:i < j) (hl:R.length = l.length) (hvn:v ≠ n):(R.set i v).take (i + 1) = delL (l.take (j + 1)) n ∧ (R.set i v).drop (j + 1) = l.drop (j + 1):=by
  have hj:=(List.getElem?_eq_some_iff.1 hv).1
  constructor
  · rw [List.take_add_one,List.take_set_of_le (Nat.le_refl i),h1,List.take_add_one,hv]
    simp [delL,List.filter_append,hvn,show i < R.length by omega]
  · rw [List.drop_set_of_lt (by omega)]
    have:=congrArg (List.drop 1) h2
    simpa [List.drop_drop] using this
theorem del_skip {l R:List Nat} {n i j:Nat} (hv:l[j]? = some n) (h1:R.take i = delL (l.take j) n) (h2:R.drop j = l.drop j):R.take i = delL (l.take (j + 1)) n ∧ R.drop (j + 1) = l.drop (j + 1):=by
  constructor
  · rw [h1,List.take_add_one,hv];simp [delL,List.filter_append]
  · have:=congrArg (List.drop 1) h2
    simpa [List.drop_drop] using this
theorem del_none {l:List Nat} {n:Nat} (h:∀ j,j < l.length → l[j]? ≠ some n):delL l n = l:=by
  refine List.filter_eq_self.2 fun x hx => ?_
  obtain ⟨j,hj,rfl⟩:=List.getElem_of_mem hx
  have:=h j hj
  rw [List.getElem?_eq_getElem hj] at this
  simpa using this
set_option maxRecDepth 100000 in
set_option maxHeartbeats 1000000 in
theorem delf_any (g c X n base:Nat) (l:List Nat) (w:World) (ho:w.ownsRow base 3 1 (.slice (some ⟨g,0,none⟩) l.length c) l.length (nums .i64 (intsN l))) (hl:l.length ≤ 1000) (hX:w.cell? ⟨X,2,none⟩ = some (.int .i64 (n:Nat))) (hgX:X ≠ g) :
    Calls Tryz.prog 151 #[.slice (some ⟨g,0,none⟩) l.length c,.func (.func 152) #[] #[.pointer (some ⟨X,0,none⟩)]] w (DelIs l n base g c w):=by
  have hix:=ixf_any (some ⟨g,0,none⟩) l c X n w (Rd.own ho) hl hX
  have hcall:=fun j w' (q:Keep (fun j => j = g) w w') => delc_any X n j w' (q.cell hX hgX)
  have hcap:l.length ≤ c:=by
    obtain ⟨_,_,e,h⟩:=own_form ho
    simp only [Value.slice.injEq] at e
    omega
  obtain ⟨N,hN⟩:∃ N,l.length = N:=⟨_,rfl⟩
  unfold IxIs at hix
  rw [hN] at hix ho hl hcap ⊢
  have hlg:=(ho.lt g rfl).2
  have Hix:=Lib.hid hix;have Hc:=Lib.hid hcall;have HO:=Lib.hid ho;have HN:=Lib.hid hN
  clear hix hcall ho hN hX
  go_enter Tryz.func151,Tryz.ntmps151
  go_wp2_with fail
  refine Hix.out.mono ?_
  rintro e w' ⟨h,rfl⟩
  rcases h with ⟨k,hkN,hk,hno,rfl⟩ | ⟨hno,rfl⟩
  rotate_left
  · have hd:=del_none (n:=n) (l:=l) (by rw [HN.out];exact hno)
    have HD:=Lib.hid hd
    clear hno hd
    go_wp2_with fail
    go_ret
    refine ⟨by rw [HD.out,HN.out];rfl,by rw [HD.out,HN.out];exact HO.out,Keep.refl _ _⟩
  · have hk1:¬ (k:Int) = -1:=by omega
    have hwk:IntKind.i64.wrap ((k:Int) + 1) = ((k + 1:Nat):Int):=by rw [IntWalk.i64_in _ (by omega)];push_cast;rfl
    have h0:l.take k = delL (l.take (k + 1)) n:=by
      rw [List.take_add_one,hk]
      simp only [delL,List.filter_append,Option.toList,List.filter_cons,List.filter_nil]
      simp only [ne_eq,not_true_eq_false,decide_false,Bool.false_eq_true,if_false,List.append_nil]
      exact (List.filter_eq_self.2 fun x hx => by
        obtain ⟨j,hj,rfl⟩:=List.getElem_of_mem hx
        rw [List.length_take] at hj
        have:=hno j (by omega)
        rw [List.getElem?_eq_getElem (by omega)] at this
        simpa using this).symm
    have H0:=Lib.hid h0
    clear hk hno h0
    go_wp2_with fail
    go_loopw [5,6] (fun y5 y6 wr => ∃ i j:Nat,∃ R:List Nat,y5 = .int .i64 i ∧ y6 = .int .i64 j ∧ i < j ∧ j ≤ N ∧ R.length = N ∧ R.take i = delL (l.take j) n ∧ R.drop j = l.drop j ∧ wr.ownsRow base 3 1 (.slice (some ⟨g,0,none⟩) N c) N (nums .i64 (intsN R)) ∧ Keep (fun j => j = g) w' wr) (fun _ y _ => N - (intOf y).toNat)
    case atStart => exact ⟨k,k + 1,l,rfl,by push_cast;rfl,by omega,hkN,HN.out,H0.out,rfl,HO.out,Keep.refl _ _⟩
    case round =>
      obtain ⟨i,j,R,rfl,rfl,hij,hjN,hR,h1,h2,oR,qk⟩:=hrel
      have hii:(i:Int) < N:=by omega
      have hi0:¬ (i:Int) < 0:=by omega
      have fr:=oR.frozenAt i
      obtain ⟨ri,hri⟩:∃ ri,R[i]? = some ri:=⟨_,List.getElem?_eq_getElem (by omega)⟩
      have ci:=oR.cellAt i (by omega)
      rw [intsN_at hri] at ci
      have lgw:g < wr.heap.size:=(oR.lt g rfl).2
      by_cases hlt:j < N
      · have hji:(j:Int) < N:=by omega
        have hj0:¬ (j:Int) < 0:=by omega
        have hwi:IntKind.i64.wrap ((i:Int) + 1) = ((i + 1:Nat):Int):=by rw [IntWalk.i64_in _ (by omega)];push_cast;rfl
        have hwj:IntKind.i64.wrap ((j:Int) + 1) = ((j + 1:Nat):Int):=by rw [IntWalk.i64_in _ (by omega)];push_cast;rfl
        obtain ⟨v,hv⟩:∃ v,l[j]? = some v:=⟨_,List.getElem?_eq_getElem (by rw [HN.out];exact hlt)⟩
        have hRv:R[j]? = some v:=by
          have:=congrArg (fun z => z[0]?) h2
          simpa [List.getElem?_drop,hv] using this
        have cj:=oR.cellAt j (by omega)
        rw [intsN_at hRv] at cj
        have Hcv:=Lib.hid (Hc.out v wr qk);have OR:=Lib.hid oR;have QK:=Lib.hid qk
        have hstep:=fun h => del_step hv h1 h2 hij (hR.trans HN.out.symm) h
        have hskip:=fun h:v = n => del_skip (by rw [← h];exact hv) h1 h2
        have HST:=Lib.hid hstep;have HSK:=Lib.hid hskip;have HR:=Lib.hid hR
        clear hv hRv h1 h2 oR qk hstep hskip hri hR
        go_wp2_with fail
        refine Hcv.out.mono ?_
        rintro e w2 ⟨rfl,rfl⟩
        by_cases hvn:v = n
        · rw [decide_eq_true hvn]
          have HVN:=Lib.hid hvn
          clear hvn
          go_wp2_with fail
          go_roundw
          case rel => (repeat apply Exists.intro);exact ⟨⟨i,j + 1,R,rfl,by go_num,by omega,hlt,HR.out,(HSK.out HVN.out).1,(HSK.out HVN.out).2,OR.out,QK.out⟩,rfl⟩
          case measure => simp [intOf];omega
        · rw [decide_eq_false hvn]
          have HVN:=Lib.hid hvn
          clear hvn
          go_wp2_with fail
          go_roundw
          case rel => (repeat apply Exists.intro);exact ⟨⟨i + 1,j + 1,R.set i v,by go_num,by go_num,by omega,hlt,by rw [List.length_set];exact HR.out,(HST.out HVN.out).1,(HST.out HVN.out).2,by have:=(OR.out.stored i (.int .i64 (v:Nat))).1;rwa [intsN_set] at this,Keep.setCell (S:=fun j => j = g) QK.out ⟨g,i,none⟩ (.inr rfl) _⟩,rfl⟩
          case measure => simp [intOf];omega
      · obtain rfl:j = N:=by omega
        have hji:¬ (j:Int) < j:=by omega
        have h1':l.take j = l:=List.take_of_length_le (by rw [HN.out];exact Nat.le_refl _)
        rw [h1'] at h1
        have HD:=Lib.hid h1;have OR:=Lib.hid oR;have QK:=Lib.hid qk;have HR:=Lib.hid hR
        clear h1 h2 oR qk hri hR
        have hle:i ≤ j:=by omega
        have hli:(i:Int) ≤ j:=by omega
        have hlc:(i:Int) ≤ c:=by omega
        have hlcn:i ≤ c:=by omega
        have hcne:¬ c = i:=by omega
        have hlen:(delL l n).length = i:=by rw [← HD.out,List.length_take];have:=HR.out;omega
        obtain ⟨zi,hzi,hzz,_⟩:=et_ints.info
        have hclr:=Lib.run_clear_slice wr 22 3 0 (.int .i64 0) et_ints.und (fun w' => by simp [zeroValue,typeInfo,hzi,hzz]) rfl rfl g i (j - i) (c - i) (by omega) (fun t ht => by rw [OR.out.cellAt (i + t) (by omega),List.getElem?_eq_getElem (by have:=OR.out.1;omega)];rfl) (fun t ht => OR.out.frozenAt (i + t))
        have o9:=own_setCells (List.replicate (j - i) (.int .i64 0)) i wr _ OR.out (by rw [List.length_replicate];omega)
        have o10:=own_short o9 hle
        have e10:(((nums .i64 (intsN R)).take i ++ List.replicate (j - i) (Value.int .i64 0) ++ (nums .i64 (intsN R)).drop (i + (List.replicate (j - i) (Value.int .i64 0)).length)).take i) = nums .i64 (intsN (delL l n)):=by
          rw [List.append_assoc,List.take_append_of_le_length (by rw [List.length_take,nums_length,intsN_len,HR.out];omega),List.take_take,Nat.min_self,intsN_take,HD.out]
        rw [e10] at o10
        have k10:=QK.out.trans (keep_setCells (g:=g) (List.replicate (j - i) (.int .i64 0)) i wr)
        have HF:=Lib.hid (⟨by rw [hlen],by rw [hlen];exact o10,k10⟩:DelIs l n base g c w' (.returned (.slice (some ⟨g,0,none⟩) i c)) _)
        clear o9 o10 e10 k10 hzi hzz hlen
        go_wp2_with fail
        go_ret
        exact HF.out
end Go.Proofs.YtaccfnffmbndhaaGreat
namespace Go.Proofs.YtaccfnffmbndhaaGreat
open Go.RowKit
theorem MachAt.setPM {H:Nat → Prop} {w w':World} {b x:Nat} {i:Inp} {a:MAd} {m:Mst} (h:MachAt H w b i x a m) (hn:∀ k,Mut b a k → ¬ H k) (hk:Keep (fun k => k = a.bp ∨ k = a.bm) w w') (P M:List Int)
    (oP:w'.ownsRow 0 2 1 (.slice (some ⟨a.bp,0,none⟩) i.start.length a.cp) i.start.length (nums .i64 P)) (oM:w'.ownsRow 0 2 1 (.slice (some ⟨a.bm,0,none⟩) i.start.length a.cm) i.start.length (nums .i64 M))
    (wP:P.length = i.start.length ∧ W64 P) (wM:M.length = i.start.length ∧ W64 M):MachAt H w' b i x a { m with P:=P,M:=M }:=by
  have he:Ext (hideW (mutH H b a) w) (hideW (mutH H b a) w'):=ext_step (hk.mono fun k _ e => .inl (.inr (e.elim .inl fun e => .inr (.inl e)))) (fun k _ hS => hS)
  have nb:∀ {r n c:Nat} {xs:List Value},w.ownsRow 0 2 1 (.slice (some ⟨r,0,none⟩) n c) n xs → b ≠ r:=fun o e => block_notrow h.blk (by decide) o (by rw [e];rfl)
  have hb:=(hk.block b (lt_of_block h.blk) (fun e => e.elim (nb h.oP) (nb h.oM))).trans h.blk
  have ht:∀ {r n c:Nat} {ys:List Value} {v:Value} {e:TypeId} {size k:Nat} {xs:List Value},w.ownsRow 0 2 1 (.slice (some ⟨r,0,none⟩) n c) n ys → e ≠ 2 → w.ownsRow 0 e size v k xs → ∀ j,v.ownBlock = some j → j ≠ r:=fun hr hne ho j hj e => by
    rcases hr.2 with ⟨e',_⟩ | ⟨r',_,_,e',_,hg,_⟩
    · cases e'
    · simp only [Value.slice.injEq,Option.some.injEq,Addr.mk.injEq] at e'
      obtain ⟨⟨e1,_⟩,_⟩:=e'
      exact block_notrow hg (Ne.symm hne) ho (by rw [hj,e,e1])
  have ho:∀ {v:Value} {e:TypeId} {size n:Nat} {xs:List Value},e ≠ 2 → w.ownsRow 0 e size v n xs → w'.ownsRow 0 e size v n xs:=fun hne ho => hk.own ho (fun j hj e => e.elim (ht h.oP hne ho j hj) (ht h.oM hne ho j hj))
  obtain ⟨a0,a1,a2,a3,a5,a11,hp⟩:=h.pl
  obtain ⟨rows,r1,r2,r3,r4⟩:=h.re
  exact ⟨hb,ext_shape h.sh he,ext_sl exts_ex h.ex he,ext_samp h.sa he,⟨a0,a1,a2,a3,a5,a11,ext_plan hp he⟩,ext_rd h.bu he,ext_rd h.it he,⟨rows,ho (by decide) r1,r2,r3,fun j x hx => exts_ex (r4 j x hx) he⟩,
    oP,oM,hk.own h.oG (fun j hj e => by cases hj;exact e.elim (fun e => h.dj.2.1 e.symm) (fun e => h.dj.2.2 e.symm)),ho (by decide) h.oO,h.dj,fun k _ hm => hn k hm,wP,wM,h.wG,h.ox,h.xw⟩
end Go.Proofs.YtaccfnffmbndhaaGreat
namespace Go.Proofs.YtaccfnffmbndhaaGreat
open Go.RowKit
theorem apP_W64 {ra mo q:Int} {ps ms g:List Int} {lo k:Nat} (h:W64 ps):W64 (apP ra mo q ps ms g lo k):=upTo_W64 fun j hj => by
  split
  · exact wrap64_bd _
  · have:=h j hj
    rw [nth_eq _ _ hj]
    simpa [nth_eq _ _ hj] using this
theorem rt_rng:RowTy Tryz.prog 52 2:=⟨⟨_,Tryz.underlying52,rfl⟩,by kernel_rfl⟩
set_option maxRecDepth 100000 in
set_option maxHeartbeats 4000000 in
theorem mupd_any {H:Nat → Prop} {w:World} {b x:Nat} {i:Inp} {a:MAd} {m:Mst} (h:MachAt H w b i x a m) (hn:∀ k,Mut b a k → ¬ H k) (hnew:∀ k,w.heap.size ≤ k → ¬ H k) (hs:SmIn i) (y:Itm) (u v:Value) (hu:u.oneCell' = true) (hv:v.oneCell' = true) (hyn:y.n < (plnI i).buks.length) (hop:0 < m.op.length) (hol:m.op.length ≤ 1000)
    (hra:-9223372036854775808 ≤ i.cfg.rate ∧ i.cfg.rate ≤ 9223372036854775807) (hrm:-9223372036854775808 ≤ i.cfg.mom ∧ i.cfg.mom ≤ 9223372036854775807) (lo hi:Nat) (hr:rgAt (plnI i).buks y.n = (lo,hi)) (hlo:lo < hi) (hhi:hi ≤ i.start.length) :
    Calls Tryz.prog 114 #[.pointer (some ⟨b,0,none⟩),.agg (itCells y).toArray,.agg #[u,v]] w fun e w' => e = .returned (.int .i64 0) ∧ Did H (fun _ => False) b i x a m w.heap.size (fun _ m1 => m1 = { m with P:=apP i.cfg.rate i.cfg.mom i.cfg.shift m.P m.M ((m.G.drop lo).take (hi - lo)) lo (hi - lo),M:=apM i.cfg.mom i.cfg.shift m.M ((m.G.drop lo).take (hi - lo)) lo (hi - lo),op:=delL m.op y.n }) w w':=by
  have hblk:=h.blk
  have hn60:=hs.n
  obtain ⟨W0,W1,hW0,hW1,g0,g1,k1',-⟩:=rm_boxes w (itCells y).toArray #[u,v] 56 154
  have hb1:=sb hblk _ k1'
  have hbu:=ext_rd h.bu (ext_keep (S:=mutH H b a) (Keep.below (S:=mutH H b a) k1'))
  have hrv:=rgVals_get hyn
  rw [hr] at hrv
  obtain ⟨bb,bo,hBA,cb0⟩:=hbu _ _ hrv.1
  obtain ⟨bb',bo',e',cb1⟩:=hbu _ _ hrv.2
  rw [hBA] at e'
  obtain ⟨rfl,rfl⟩:bb' = bb ∧ bo' = bo:=by simpa using e'.symm
  rw [← Nat.add_assoc] at cb1
  have t7:∀ w',Below W1.heap.size W1 w' → w'.cell? ⟨b,7,none⟩ = some (.slice a.BA (plnI i).buks.length a.bc):=fun w' q => cell_of_row w' b 7 _ _ _ (sb hb1 w' q)
  rw [hBA] at t7
  have s2:∀ w',Below W1.heap.size W1 w' → w'.cell? ⟨w.heap.size,2,none⟩ = some (.int .i64 (y.n:Nat)):=fun w' q => cell_of_row w' w.heap.size 2 _ _ _ (sb g0 w' q)
  have d0:=fun w' (q:Below W1.heap.size W1 w') => cell_below q cb0
  have d1:=fun w' (q:Below W1.heap.size W1 w') => cell_below q cb1
  have hyi:(y.n:Int) < (plnI i).buks.length:=by omega
  have hy0:¬ (y.n:Int) < 0:=by omega
  have tl:=sl hb1
  have HW0:=Lib.hid hW0;have HW1:=Lib.hid hW1;have HB1:=Lib.hid hb1;have G0:=Lib.hid g0;have K1:=Lib.hid k1';have HM:=Lib.hid h;have Hn:=Lib.hid hn;have Hnew:=Lib.hid hnew
  have q0:=(br W1).drew
  clear hW0 hW1 g0 g1 k1' hb1 hbu hrv hblk h hn hnew cb0 cb1 hBA hr
  go_enter Tryz.func114,Tryz.ntmps114
  go_wp2_with fail
  rw [HW0.out,HW1.out]
  refine HA.g (fun w':World => Below W1.heap.size W1 w') ?_
  refine HA.t ?_ [0,1,2,3,4,5,6,7,8] q0 ?_
  refine HA.v 9 (W1.drew.alloc (.cells #[.int .i64 0,.int .i64 0] 52)) (.pointer (some ⟨W1.heap.size,0,none⟩)) (q0.alloc (Nat.le_refl _) _) ?_
  refine HA.st 10 (heap_alloc_new W1.drew _) rt_rng (fun W2 e2 k2 => ?_)
  have q2:Below W1.heap.size W1 W2:=q0.trans (new_below2 k2)
  refine ⟨q2,HA.d ?_⟩
  rw [World.size_drew] at e2
  have hmlt:=HM.out.mlt
  have hWs:=K1.out.size
  have gb2:=sb HB1.out W2 q2
  have gi2:=sb G0.out W2 q2
  have B2:=bt K1.out q2
  have lwW1:w.heap.size < W1.heap.size:=lt_of_block G0.out
  have nbp:b ≠ a.bp:=fun e => block_notrow HM.out.blk (by decide) HM.out.oP (by rw [e];rfl)
  have nbm:b ≠ a.bm:=fun e => block_notrow HM.out.blk (by decide) HM.out.oM (by rw [e];rfl)
  have lbp:=hmlt a.bp (.inr (.inl rfl))
  have lbm:=hmlt a.bm (.inr (.inr (.inl rfl)))
  have kb:=fun w' (q:Keep (fun k => k = a.bp ∨ k = a.bm) W2 w') => (q.block b (lt_of_block gb2) (fun e => e.elim nbp nbm)).trans gb2
  have kx:=fun w' (q:Keep (fun k => k = a.bp ∨ k = a.bm) W2 w') => (q.block W1.heap.size (lt_of_block e2) (fun e => e.elim (fun e => by omega) (fun e => by omega))).trans e2
  have r8:∀ w',Keep (fun k => k = a.bp ∨ k = a.bm) W2 w' → w'.cell? ⟨b,8,none⟩ = some (.int .i64 i.cfg.rate):=fun w' q => cell_of_row w' b 8 _ _ _ (kb w' q)
  have r9:∀ w',Keep (fun k => k = a.bp ∨ k = a.bm) W2 w' → w'.cell? ⟨b,9,none⟩ = some (.int .i64 i.cfg.mom):=fun w' q => cell_of_row w' b 9 _ _ _ (kb w' q)
  have r10:∀ w',Keep (fun k => k = a.bp ∨ k = a.bm) W2 w' → w'.cell? ⟨b,10,none⟩ = some (.int .i64 i.cfg.shift):=fun w' q => cell_of_row w' b 10 _ _ _ (kb w' q)
  have r11:∀ w',Keep (fun k => k = a.bp ∨ k = a.bm) W2 w' → w'.cell? ⟨b,11,none⟩ = some (.slice (some ⟨a.bp,0,none⟩) i.start.length a.cp):=fun w' q => cell_of_row w' b 11 _ _ _ (kb w' q)
  have r12:∀ w',Keep (fun k => k = a.bp ∨ k = a.bm) W2 w' → w'.cell? ⟨b,12,none⟩ = some (.slice (some ⟨a.bm,0,none⟩) i.start.length a.cm):=fun w' q => cell_of_row w' b 12 _ _ _ (kb w' q)
  have r13:∀ w',Keep (fun k => k = a.bp ∨ k = a.bm) W2 w' → w'.cell? ⟨b,13,none⟩ = some (.slice (some ⟨a.bg,0,none⟩) i.start.length a.cg):=fun w' q => cell_of_row w' b 13 _ _ _ (kb w' q)
  have x0:∀ w',Keep (fun k => k = a.bp ∨ k = a.bm) W2 w' → w'.cell? ⟨W1.heap.size,0,none⟩ = some (.int .i64 (lo:Nat)):=fun w' q => cell_of_row w' _ 0 _ _ _ (kx w' q)
  have x1:∀ w',Keep (fun k => k = a.bp ∨ k = a.bm) W2 w' → w'.cell? ⟨W1.heap.size,1,none⟩ = some (.int .i64 (hi:Nat)):=fun w' q => cell_of_row w' _ 1 _ _ _ (kx w' q)
  have hcg:i.start.length ≤ a.cg:=by
    obtain ⟨_,_,e,h⟩:=own_form HM.out.oG
    simp only [Value.slice.injEq] at e
    omega
  have m2:=HM.out.below B2 Hn.out
  have hG:Rd W2 (some ⟨a.bg,lo,none⟩) (nums .i64 ((m.G.drop lo).take (hi - lo))):=by
    have:=((Rd.own m2.oG).drop lo).take (hi - lo)
    rwa [nums_drop,nums_take,Nat.zero_add] at this
  have hap:=apply_any i.cfg.rate i.cfg.mom i.cfg.shift 0 i.start.length lo (hi - lo) a.cp a.cm (a.cg - lo) (some ⟨a.bp,0,none⟩) (some ⟨a.bm,0,none⟩) (some ⟨a.bg,lo,none⟩) m.P m.M ((m.G.drop lo).take (hi - lo)) W2.drew m2.oP.drew m2.oM.drew (fun j hj e => by cases hj;exact m2.dj.1 (by simpa [Value.ownBlock] using e.symm))
    hG (by rw [List.length_take,List.length_drop,m2.wG.1];omega) (by omega) (by omega) (fun z hz e => by cases hz;exact m2.dj.2.1 (by simpa [Value.ownBlock] using e)) (fun z hz e => by cases hz;exact m2.dj.2.2 (by simpa [Value.ownBlock] using e)) hra hrm m2.wM.2
  rw [show lo + (hi - lo) = hi by omega] at hap
  have hlh:(lo:Int) ≤ hi:=by omega
  have hhc:(hi:Int) ≤ a.cg:=by omega
  have hlh':lo ≤ hi:=by omega
  have hhc':hi ≤ a.cg:=by omega
  have hne1:¬ a.cg = lo:=by omega
  have q3:Keep (fun k => k = a.bp ∨ k = a.bm) W2 W2.drew:=(Keep.refl _ _).drew
  have tl2:=fun w' (q:Keep (fun k => k = a.bp ∨ k = a.bm) W2 w') => Nat.lt_of_lt_of_le (lt_of_block gb2) q.size
  have tl3:=fun w' (q:Keep (fun k => k = a.bp ∨ k = a.bm) W2 w') => Nat.lt_of_lt_of_le (lt_of_block e2) q.size
  have Hap:=Lib.hid hap;have M2:=Lib.hid m2;have BB2:=Lib.hid B2;have KB:=Lib.hid kb;have GI:=Lib.hid gi2
  clear t7 s2 d0 d1 tl q0 k2 q2 hap m2 B2 kb kx gb2 gi2 e2 hG hmlt
  go_wp2_with fail
  refine HA.g (fun w':World => Keep (fun k => k = a.bp ∨ k = a.bm) W2 w') ?_
  refine HA.t ?_ [0,1,2,3,4,5,6,7,8,9,10,11,12,13,14,15,16,17,18] q3 ?_
  refine HA.c 19 Hap.out ?_
  rintro e w4 ⟨rfl,oP4,oM4,k4⟩
  have q4:Keep (fun k => k = a.bp ∨ k = a.bm) W2 w4:=q3.trans (k4.mono fun j _ e => e.imp (fun e => by simpa [Value.ownBlock] using e.symm) (fun e => by simpa [Value.ownBlock] using e.symm))
  refine ⟨_,rfl,q4,fun _ => ?_⟩
  refine HA.d ?_
  have m4:=M2.out.setPM Hn.out q4 _ _ oP4 oM4 ⟨by rw [apP_len];exact M2.out.wP.1,apP_W64 M2.out.wP.2⟩ ⟨by rw [apM_len];exact M2.out.wM.1,apM_W64 M2.out.wM.2⟩
  have hX:=q4.cell (cell_of_row W2 w.heap.size 2 _ _ _ GI.out) (p:=⟨w.heap.size,2,none⟩) (fun e => e.elim (fun e => by have:w.heap.size = a.bp:=e;omega) (fun e => by have:w.heap.size = a.bm:=e;omega))
  obtain ⟨g,c,hov,hgc⟩:=m4.oO.form hop
  have hgl:=HM.out.mlt g (.inr (.inr (.inr (.inr (.inr (by rw [hov];rfl))))))
  have oO4:=m4.oO
  rw [hov] at oO4
  have hdel:=delf_any g c w.heap.size y.n 0 m.op w4 oO4 hol hX (by omega)
  have gb4:=m4.blk
  have hbg:b ≠ g:=fun e => block_notrow gb4 (by decide) oO4 (by rw [e];rfl)
  have c18:w4.cell? ⟨b,18,none⟩ = some (.slice (some ⟨g,0,none⟩) m.op.length c):=by rw [← hov];exact cell_of_row w4 b 18 _ _ _ gb4
  have lb4:=lt_of_block gb4
  have H4:=Lib.hid m4;have Hdel:=Lib.hid hdel;have GB4:=Lib.hid gb4;have Q4:=Lib.hid q4;have HOV:=Lib.hid hov
  clear m4 hX hdel gb4 q4 hov oO4 oP4 oM4 k4 r8 r9 r10 r11 r12 r13 x0 x1 tl2 tl3 q3
  go_wp2_with fail
  refine Hdel.out.mono ?_
  rintro e w5 ⟨rfl,o5,k5⟩
  have g5:=(k5.block b (lt_of_block GB4.out) hbg).trans GB4.out
  have c18':w5.cell? ⟨b,18,none⟩ = some a.ov:=cell_of_row w5 b 18 _ _ _ g5
  have f18:=frozen_of_row w5 b 18 _ _ g5
  have l5:=lt_of_block g5
  have e6:=ss (i:=18) (v:=.slice (some ⟨g,0,none⟩) (delL m.op y.n).length c) g5 rfl
  have k6:Keep (fun k => k = b) w5 (w5.setCell ⟨b,18,none⟩ (.slice (some ⟨g,0,none⟩) (delL m.op y.n).length c)):=Keep.setCell (S:=fun k => k = b) (Keep.refl _ _) _ (.inr rfl) _
  have o6:=k6.own o5 (fun j hj e => by cases hj;exact hbg e.symm)
  have hkk:Keep (fun k => k = b ∨ a.ov.ownBlock = some k) w4 (w5.setCell ⟨b,18,none⟩ (.slice (some ⟨g,0,none⟩) (delL m.op y.n).length c)):=(k5.mono fun k _ e => .inr (by rw [HOV.out,e];rfl)).trans (k6.mono fun k _ e => .inl e)
  have hW4:w.heap.size ≤ w4.heap.size:=Nat.le_trans BB2.out.size Q4.out.size
  have hset:=H4.out.setO Hn.out (fun k hk => Hnew.out k (Nat.le_trans hW4 hk)) (.slice (some ⟨g,0,none⟩) (delL m.op y.n).length c) (delL m.op y.n) hkk e6 o6 (fun k hk => .inl (by rw [HOV.out];exact hk))
  have HF:=Lib.hid (⟨_,_,hset.1,rfl,rfl,((Keep.below BB2.out).trans (Q4.out.sub fun k e => .inl (.inr (e.elim .inl fun e => .inr (.inl e))))).trans (hkk.sub fun k e => .inl (e.elim .inl fun e => .inr (.inr (.inr (.inr (.inr e)))))),fun k hk => (hset.2 k hk).imp id (fun h => Nat.le_trans hW4 h),rfl⟩:Did H (fun _ => False) b i x a m w.heap.size (fun _ m1 => m1 = { m with P:=apP i.cfg.rate i.cfg.mom i.cfg.shift m.P m.M ((m.G.drop lo).take (hi - lo)) lo (hi - lo),M:=apM i.cfg.mom i.cfg.shift m.M ((m.G.drop lo).take (hi - lo)) lo (hi - lo),op:=delL m.op y.n }) w _)
  clear hset hkk e6 k6 o6 o5 k5 g5
  go_wp2_with fail
  go_ret
  exact ⟨rfl,HF.out⟩
end Go.Proofs.YtaccfnffmbndhaaGreat
namespace Go.Proofs.YtaccfnffmbndhaaGreat
open Go.RowKit
theorem Did.older {H G:Nat → Prop} {b:Nat} {i:Inp} {x:Nat} {a:MAd} {m:Mst} {n n':Nat} {T:World → Mst → Prop} {w w':World} (h:Did H G b i x a m n T w w') (hn:n' ≤ n):Did H G b i x a m n' T w w':=by
  obtain ⟨a1,m1,h1,h2,h3,h4,h5,h6⟩:=h
  exact ⟨a1,m1,h1,h2,h3,h4,fun k hk => (h5 k hk).imp id fun e => Nat.le_trans hn e,h6⟩
theorem mdo_launch {H:Nat → Prop} {w:World} {b x:Nat} {i:Inp} {a:MAd} {m:Mst} (h:MachAt H w b i x a m) (hn:∀ k,Mut b a k → ¬ H k) (hnew:∀ k,w.heap.size ≤ k → ¬ H k) (hs:SmIn i) {y:Itm} (hy:(curL i x m.st)[m.nx]? = some y) (hk:y.kind = 2) (hl:m.op.length ≤ 1000) (u v:Option Addr) :
    Calls Tryz.prog 17 #[.pointer (some ⟨b,0,none⟩),.pointer u,.pointer v] w fun e w' => e = .returned (.int .i64 0) ∧ DidM H (fun _ => False) b i x a m (fun _ m1 => m1 = { m with op:=m.op ++ [y.n] }) w w':=by
  refine (mdo_any h hn hnew (G:=fun _ => False) (fun _ h => h.elim) hs hy u v 111 (fun w' => by rw [hk];kernel_rfl) (fun args w => by kernel_rfl) (fun _ => False) (fun _ m1 => m1 = { m with op:=m.op ++ [y.n] }) (fun _ _ _ h _ => h) (fun w' q => ?_)).mono ?_
  · refine (mlaunch_any (h.below q hn) hn (fun k hk => hnew k (Nat.le_trans q.size hk)) hl y (.pointer u) (.pointer v) rfl rfl).mono ?_
    rintro e w'' ⟨rfl,hd⟩
    exact .inl ⟨rfl,hd.older q.size⟩
  · rintro e w' (⟨rfl,hd⟩ | ⟨C,_,hF,_⟩)
    · exact ⟨rfl,hd⟩
    · exact hF.elim
theorem mdo_record {H:Nat → Prop} {w:World} {b x:Nat} {i:Inp} {a:MAd} {m:Mst} (h:MachAt H w b i x a m) (hn:∀ k,Mut b a k → ¬ H k) (hnew:∀ k,w.heap.size ≤ k → ¬ H k) (hs:SmIn i) {y:Itm} (hy:(curL i x m.st)[m.nx]? = some y) (hk:y.kind = 6) (hl:m.rc.length ≤ 1000) (u v:Option Addr) :
    Calls Tryz.prog 17 #[.pointer (some ⟨b,0,none⟩),.pointer u,.pointer v] w fun e w' => e = .returned (.int .i64 0) ∧ DidM H (fun _ => False) b i x a m (fun _ m1 => m1 = { m with rc:=m.rc ++ [(m.P,m.M)],G:=List.replicate i.start.length 0 }) w w':=by
  refine (mdo_any h hn hnew (G:=fun _ => False) (fun _ h => h.elim) hs hy u v 115 (fun w' => by rw [hk];kernel_rfl) (fun args w => by kernel_rfl) (fun _ => False) (fun _ m1 => m1 = { m with rc:=m.rc ++ [(m.P,m.M)],G:=List.replicate i.start.length 0 }) (fun _ _ _ h _ => h) (fun w' q => ?_)).mono ?_
  · refine (mrecord_any (h.below q hn) hn (fun k hk => hnew k (Nat.le_trans q.size hk)) hs hl y (.pointer u) (.pointer v) rfl rfl).mono ?_
    rintro e w'' ⟨rfl,hd⟩
    exact .inl ⟨rfl,hd.older q.size⟩
  · rintro e w' (⟨rfl,hd⟩ | ⟨C,_,hF,_⟩)
    · exact ⟨rfl,hd⟩
    · exact hF.elim
theorem mdo_upd {H:Nat → Prop} {w:World} {b x:Nat} {i:Inp} {a:MAd} {m:Mst} (h:MachAt H w b i x a m) (hn:∀ k,Mut b a k → ¬ H k) (hnew:∀ k,w.heap.size ≤ k → ¬ H k) (hs:SmIn i) {y:Itm} (hy:(curL i x m.st)[m.nx]? = some y) (hk:y.kind = 5) (u v:Option Addr) (hyn:y.n < (plnI i).buks.length) (hop:0 < m.op.length) (hol:m.op.length ≤ 1000)
    (hra:-9223372036854775808 ≤ i.cfg.rate ∧ i.cfg.rate ≤ 9223372036854775807) (hrm:-9223372036854775808 ≤ i.cfg.mom ∧ i.cfg.mom ≤ 9223372036854775807) (lo hi:Nat) (hr:rgAt (plnI i).buks y.n = (lo,hi)) (hlo:lo < hi) (hhi:hi ≤ i.start.length) :
    Calls Tryz.prog 17 #[.pointer (some ⟨b,0,none⟩),.pointer u,.pointer v] w fun e w' => e = .returned (.int .i64 0) ∧ DidM H (fun _ => False) b i x a m (fun _ m1 => m1 = { m with P:=apP i.cfg.rate i.cfg.mom i.cfg.shift m.P m.M ((m.G.drop lo).take (hi - lo)) lo (hi - lo),M:=apM i.cfg.mom i.cfg.shift m.M ((m.G.drop lo).take (hi - lo)) lo (hi - lo),op:=delL m.op y.n }) w w':=by
  refine (mdo_any h hn hnew (G:=fun _ => False) (fun _ h => h.elim) hs hy u v 114 (fun w' => by rw [hk];kernel_rfl) (fun args w => by kernel_rfl) (fun _ => False) (fun _ m1 => m1 = { m with P:=apP i.cfg.rate i.cfg.mom i.cfg.shift m.P m.M ((m.G.drop lo).take (hi - lo)) lo (hi - lo),M:=apM i.cfg.mom i.cfg.shift m.M ((m.G.drop lo).take (hi - lo)) lo (hi - lo),op:=delL m.op y.n }) (fun _ _ _ h _ => h) (fun w' q => ?_)).mono ?_
  · refine (mupd_any (h.below q hn) hn (fun k hk => hnew k (Nat.le_trans q.size hk)) hs y (.pointer u) (.pointer v) rfl rfl hyn hop hol hra hrm lo hi hr hlo hhi).mono ?_
    rintro e w'' ⟨rfl,hd⟩
    exact .inl ⟨rfl,hd.older q.size⟩
  · rintro e w' (⟨rfl,hd⟩ | ⟨C,_,hF,_⟩)
    · exact ⟨rfl,hd⟩
    · exact hF.elim
theorem itemsL_bk {p:Pln} {x st:Nat} {y:Itm} (h:y ∈ itemsL p x st) (hk:y.kind = 2 ∨ y.kind = 5):∃ g ∈ p.grps,g.1 ≤ y.n ∧ y.n < g.2:=by
  unfold itemsL at h
  simp only [List.mem_append,List.mem_map,List.mem_flatMap,List.mem_singleton,List.mem_range] at h
  rcases h with (⟨k,hk',rfl⟩ | ⟨g,hg,h⟩) | rfl
  · rcases hk with hk | hk <;> cases hk
  · refine ⟨g,hg,?_⟩
    unfold groupL at h
    simp only [List.mem_append,List.mem_map,List.mem_flatMap,List.mem_range'_1] at h
    rcases h with (⟨j,hj,rfl⟩ | ⟨_,_,_,_,_,_,h⟩) | ⟨j,hj,rfl⟩
    · show g.1 ≤ j ∧ j < g.2
      omega
    · unfold roundI at h
      obtain ⟨c,_,rfl⟩:=List.mem_map.1 h
      unfold itemOf at hk
      rcases hk with hk | hk <;> (split at hk <;> cases hk)
    · show g.1 ≤ j ∧ j < g.2
      omega
  · rcases hk with hk | hk <;> cases hk
end Go.Proofs.YtaccfnffmbndhaaGreat
namespace Go.Proofs.YtaccfnffmbndhaaGreat
open Go.RowKit
theorem apM_glue {mo q:Int} {ms g:List Int} {lo hi n:Nat} (h:lo ≤ hi) (hn:hi ≤ n) (hl:ms.length = n) :
    apM mo q (apM mo q ms (g.drop hi) hi (n - hi)) ((g.drop lo).take (hi - lo)) lo (hi - lo) = apM mo q ms (g.drop lo) lo (n - lo):=by
  have e:(apM mo q ms (g.drop hi) hi (n - hi)).length = ms.length:=apM_len _ _ _ _ _ _
  rw [apM,e]
  conv => rhs;rw [apM]
  refine upTo_congr fun j hj => ?_
  have e1:nth (apM mo q ms (g.drop hi) hi (n - hi)) j = if hi ≤ j ∧ j < hi + (n - hi) then stepM mo q (nth ms j) (nth (g.drop hi) (j - hi)) else nth ms j:=upTo_nth _ hj
  rw [e1]
  by_cases c1:lo ≤ j ∧ j < lo + (hi - lo)
  · rw [if_pos c1,if_neg (by omega),if_pos (by omega),nth_take (by omega)]
  · rw [if_neg c1]
    by_cases c2:hi ≤ j ∧ j < hi + (n - hi)
    · rw [if_pos c2,if_pos (by omega),nth_drop,nth_drop,show hi + (j - hi) = lo + (j - lo) by omega]
    · rw [if_neg c2,if_neg (by omega)]
theorem apP_glue {ra mo q:Int} {ps ms g:List Int} {lo hi n:Nat} (h:lo ≤ hi) (hn:hi ≤ n) (hl:ms.length = n) (hp:ps.length = n) :
    apP ra mo q (apP ra mo q ps ms (g.drop hi) hi (n - hi)) (apM mo q ms (g.drop hi) hi (n - hi)) ((g.drop lo).take (hi - lo)) lo (hi - lo) = apP ra mo q ps ms (g.drop lo) lo (n - lo):=by
  have e:(apP ra mo q ps ms (g.drop hi) hi (n - hi)).length = ps.length:=apP_len _ _ _ _ _ _ _ _
  rw [apP,e]
  conv => rhs;rw [apP]
  refine upTo_congr fun j hj => ?_
  have e1:nth (apP ra mo q ps ms (g.drop hi) hi (n - hi)) j = if hi ≤ j ∧ j < hi + (n - hi) then stepP ra q (nth ps j) (stepM mo q (nth ms j) (nth (g.drop hi) (j - hi))) else nth ps j:=upTo_nth _ hj
  have e2:nth (apM mo q ms (g.drop hi) hi (n - hi)) j = if hi ≤ j ∧ j < hi + (n - hi) then stepM mo q (nth ms j) (nth (g.drop hi) (j - hi)) else nth ms j:=upTo_nth _ (by omega)
  rw [e1,e2]
  by_cases c1:lo ≤ j ∧ j < lo + (hi - lo)
  · rw [if_pos c1,if_neg (by omega),if_neg (by omega),if_pos (by omega),nth_take (by omega)]
  · rw [if_neg c1]
    by_cases c2:hi ≤ j ∧ j < hi + (n - hi)
    · rw [if_pos c2,if_pos (by omega),nth_drop,nth_drop,show hi + (j - hi) = lo + (j - lo) by omega]
    · rw [if_neg c2,if_neg (by omega)]
theorem piece_snoc (l:List Int) (k a:Nat):l.take (bdN l.length k a) ++ pieceL l k a = l.take (bdN l.length k (a + 1)):=by
  have h:=bdN_mono l.length k (show a ≤ a + 1 by omega)
  have e:bdN l.length k (a + 1) = bdN l.length k a + (bdN l.length k (a + 1) - bdN l.length k a):=by omega
  conv => rhs;rw [e,List.take_add]
  rfl
theorem piece_one (l:List Int):pieceL l 1 0 = l:=by
  have:=piece_snoc l 1 0
  rw [show (0 + 1) = 1 from rfl,bdN_all _ _ (by decide),List.take_length] at this
  have e:bdN l.length 1 0 = 0:=by simp [bdN]
  rw [e,List.take_zero,List.nil_append] at this
  exact this
theorem gradOn_app (i:Inp) (P G:List Int) (l r:List Ex):gradOn i P G (l ++ r) = gradOn i P (gradOn i P G l) r:=by simp [gradOn]
theorem gradOn_pieces (i:Inp) (P G:List Int) (d:List Ex) (l:List Int) (k:Nat) (hk:0 < k):((List.range k).foldl (fun g a => gradOn i P g (pickL d (pieceL l k a))) G) = gradOn i P G (pickL d l):=by
  have key:∀ m,((List.range m).foldl (fun g a => gradOn i P g (pickL d (pieceL l k a))) G) = gradOn i P G (pickL d (l.take (bdN l.length k m))):=by
    intro m
    induction m with
    | zero => simp [bdN,pickL,gradOn]
    | succ m ih =>
      rw [List.range_succ,List.foldl_append,ih,← piece_snoc]
      simp only [List.foldl_cons,List.foldl_nil,pickL,List.map_append]
      exact (gradOn_app _ _ _ _ _).symm
  rw [key k,bdN_all _ _ hk,List.take_length]
end Go.Proofs.YtaccfnffmbndhaaGreat
