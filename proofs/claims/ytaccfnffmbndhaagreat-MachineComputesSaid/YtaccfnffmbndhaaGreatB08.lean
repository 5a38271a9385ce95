/- The closure 'add' of ring.Round. ring.Round. plan.list.add: one item is appended. No condition. -/
import Derived.Test.YtaccfnffmbndhaaGreatB07
set_option linter.unusedSimpArgs false
set_option linter.unusedVariables false
namespace Go.Proofs.YtaccfnffmbndhaaGreat
open Go.RowKit
theorem XA.v {P:Program} {ops:Array Oper} {Q:Exit → Act → World → Prop} {S:World → Prop} {n:Nat} {L:List Nat} {a:Act} {w:World} {o:Oper} (i:Nat) (w':World) (v:Value) (hS:S w') (k:XA P ops Q S n (i :: L) (a.put o.dst v) w') (ho:ops[i]? = some o:=by (simp only [List.getElem?_toArray,List.getElem?_cons_succ,List.getElem?_cons_zero];rfl))
    (hr:readyF ops L = [i]:=by decide +kernel) (hw:Region.wanted o (yielded ops a.tmps) = true:=by rfl) (he:(execOp a.eval o).run P w = .ok (.value v) w':=by go_simp):XA P ops Q S n L a w:=by
  refine XA.one i ho hr fun K' hK => ?_
  rw [if_pos hw]
  unfold Oper.wp
  rw [he]
  exact hK.out _ _ hS fun _ => k
def acnCells (a:Acn):List Value:=[.bool a.send,.bool a.add,.int .i64 (a.st:Nat),.int .i64 (a.bk:Nat),.int .i64 (a.ph:Nat),.int .i64 (a.rd:Nat),.int .i64 (a.ch:Nat),.int .i64 (a.at'.1:Nat),.int .i64 (a.at'.2:Nat)]
def acnVals (l:List Acn):List Value:=l.flatMap acnCells
theorem acnVals_snoc (l:List Acn) (a:Acn):acnVals (l ++ [a]) = acnVals l ++ acnCells a:=by simp [acnVals]
theorem et_acts:ElemT Tryz.prog 276 54 (.agg #[.bool false,.bool false,.int .i64 0,.int .i64 0,.int .i64 0,.int .i64 0,.int .i64 0,.int .i64 0,.int .i64 0]) 9 64:=⟨Tryz.underlying276,info_parts (by kernel_rfl),rfl,by decide⟩
set_option maxRecDepth 100000 in
theorem acadd_out (snd:Bool) (i:Nat) (A:Option Addr) (n c J Pb Rb N:Nat) (w:World) (hi:n ≤ i) :
    Calls Tryz.prog 192 #[.bool snd,.int .i64 i,.slice A n c,.pointer (some ⟨J,0,none⟩),.pointer (some ⟨Pb,0,none⟩),.pointer (some ⟨Rb,0,none⟩),.pointer (some ⟨N,0,none⟩)] w fun e w' => e = .returned (.tuple #[]) ∧ w' = w:=by
  have hi2:¬ ((i:Int) < n):=by omega
  go_enter Tryz.func192,Tryz.ntmps192
  go_wp2_with fail
  go_end0
  exact ⟨rfl,rfl⟩
set_option maxRecDepth 100000 in
set_option maxHeartbeats 1000000 in
theorem acadd_in (snd:Bool) (i:Nat) (A:Option Addr) (rs:List Rg) (n c J Pb Rb N base:Nat) (st bk lo hi W cc ph r:Nat) (x:Rg) (v:Value) (l:List Acn) (m:Nat) (w:World)
    (hJ:w.heap[J]? = some (.cells #[.int .i64 (st:Nat),.int .i64 (bk:Nat),.int .i64 (lo:Nat),.int .i64 (hi:Nat),.int .i64 (W:Nat),.int .i64 (cc:Nat)] 275 (0,0)))
    (hP:w.heap[Pb]? = some (.cells #[.int .i64 (ph:Nat)] 3 (0,0))) (hR:w.heap[Rb]? = some (.cells #[.int .i64 (r:Nat)] 3 (0,0)))
    (hN:w.heap[N]? = some (.cells #[v] 276 (0,0))) (ho:w.ownsRow base 54 9 v m (acnVals l)) (hb:base ≤ w.heap.size)
    (hA:Rd w A (rgVals rs)) (hn:rs.length = n) (hx:rs[i]? = some x) (hm:m ≤ 8388608) (hn2:n ≤ 1048576) (hAb:∀ y,A = some y → y.block < base) :
    Calls Tryz.prog 192 #[.bool snd,.int .i64 i,.slice A n c,.pointer (some ⟨J,0,none⟩),.pointer (some ⟨Pb,0,none⟩),.pointer (some ⟨Rb,0,none⟩),.pointer (some ⟨N,0,none⟩)] w fun e w' => e = .returned (.tuple #[]) ∧
      ∃ v',w'.heap[N]? = some (.cells #[v'] 276 (0,0)) ∧ w'.ownsRow base 54 9 v' (m + 1) (acnVals (l ++ [⟨snd,!snd && ph == 0,st,bk,ph,r,i,x⟩])) ∧ Keep (fun j => j = N ∨ v.ownBlock = some j) w w':=by
  have hlt:i < n:=by rw [← hn];exact (List.getElem?_eq_some_iff.1 hx).1
  have hlt2:(i:Int) < n:=by omega
  have hrv:=rgVals_at hx
  obtain ⟨g,o,rfl,c0⟩:=hA _ _ hrv.1
  obtain ⟨g',o',e',c1⟩:=hA _ _ hrv.2
  obtain ⟨rfl,rfl⟩:g' = g ∧ o' = o:=by simpa using e'.symm
  rw [← Nat.add_assoc] at c1
  obtain ⟨W0,hW0⟩:∃ W0,w.alloc (.cells #[.int .i64 (st:Nat),.int .i64 (bk:Nat),.int .i64 (ph:Nat),.int .i64 (r:Nat),.int .i64 (i:Nat)] 50) = W0:=⟨_,rfl⟩
  have h0:W0.heap[w.heap.size]? = some (.cells #[.int .i64 (st:Nat),.int .i64 (bk:Nat),.int .i64 (ph:Nat),.int .i64 (r:Nat),.int .i64 (i:Nat)] 50 (0,0)):=by rw [← hW0];exact heap_alloc_new w _
  have hB0:Below w.heap.size w W0:=by rw [← hW0];exact (br w).alloc (Nat.le_refl _) _
  have xJ:=bx6 hJ
  have xP:=bx1 hP
  have xR:=bx1 hR
  have hO0:=own_below ho hB0
  have nt:=fun b cs t' sg (hb':W0.heap[b]? = some (.cells cs t' sg)) (hne:t' ≠ 54) (e:v.ownBlock = some b) => block_notrow hb' hne hO0 e.symm
  have hP0:=sb hP _ hB0
  have hN0:=sb hN _ hB0
  have kP:=fun w' (q:Keep (fun j => v.ownBlock = some j) W0 w') => (q.block _ (lt_of_block hP0) (nt _ _ _ _ hP0 (by decide))).trans hP0
  have kN:=fun w' (q:Keep (fun j => v.ownBlock = some j) W0 w') => (q.block _ (lt_of_block hN0) (nt _ _ _ _ hN0 (by decide))).trans hN0
  have tP:=fun w' q => bx1 (kP w' q)
  have tN:=fun w' q => bx1 (kN w' q)
  have t0:=fun w' (q:Keep (fun j => v.ownBlock = some j) W0 w') => bx5 ((q.block _ (lt_of_block h0) (nt _ _ _ _ h0 (by decide))).trans h0)
  have hnb:¬ v.ownBlock = some g':=fun e => by
    have h1:=(hO0.lt g' e).1
    have h2:=hAb _ rfl
    simp only at h2
    omega
  have d0:=fun w' (q:Keep (fun j => v.ownBlock = some j) W0 w') => q.cell (cell_below hB0 c0) hnb
  have d1:=fun w' (q:Keep (fun j => v.ownBlock = some j) W0 w') => q.cell (cell_below hB0 c1) hnb
  have HN:=Lib.hid kN;have HO:=Lib.hid hO0;have HB0:=Lib.hid hB0;have HW0:=Lib.hid hW0
  clear hJ hP hR hN ho hB0 hW0 hrv hA e' hx hn h0 hP0 hN0 kP kN hO0 nt hnb c0 c1 hAb
  go_enter Tryz.func192,Tryz.ntmps192
  have q0:Keep (fun j => v.ownBlock = some j) W0 W0.drew:=(Keep.refl _ _).drew
  go_wp2_with fail
  rw [HW0.out]
  have hpe:((ph:Int) == 0) = (ph == 0):=by rw [Bool.eq_iff_iff];simp
  cases snd
  · refine XA.g 16 (fun w':World => Keep (fun j => v.ownBlock = some j) W0 w') ?_
    refine XA.t ?_ [0,1,2,3,4,5,6,7,8,9,10,11,12,13] q0 ?_
    obtain ⟨a,ha⟩:∃ a:Acn,a = ⟨false,(!false && ph == 0),st,bk,ph,r,i,x⟩:=⟨_,rfl⟩
    refine XA.v 14 (W0.drew.alloc (.cells (acnCells a).toArray 54)) (.slice (some ⟨W0.heap.size,0,none⟩) 1 1) (q0.alloc _) ?_ rfl (by decide +kernel) rfl (by subst ha;go_simp;simp [acnCells,hpe];try rfl)
    refine XA.o 15 (fun K' hK => ?_) rfl (by decide +kernel)
    have hO:=(HO.out.drew).alloc (.cells (acnCells a).toArray 54)
    have hbs:=HB0.out.size
    refine step_appX et_acts (.tmp 23) (.tmp 37) rfl rfl base v m _ rfl hO (some ⟨W0.heap.size,0,none⟩) 1 1 (acnCells a) rfl (fun k u hu => ⟨_,_,rfl,by rw [Nat.zero_add,cell_of_row _ W0.heap.size k (acnCells a).toArray 54 (0,0) (heap_alloc_new W0.drew _)];simpa using hu⟩) rfl (by simp [acnCells,Value.oneCell']) (by omega) (by unfold maxLen;omega) (by simp;omega) ?_
    intro A5 c5 w5 ho5 hb5 hg5 _
    have q5:Keep (fun j => v.ownBlock = some j) W0 w5:=(q0.alloc _).grown hg5 (fun k hk => .inr hk)
    refine hK.out _ _ q5 fun _ => ?_
    refine XA.e ?_
    simp only [List.drop_succ_cons,List.drop_zero]
    have hN5:=HN.out w5 q5
    have e3:=heap_setCell_same w5 N 0 _ _ (.slice A5 (m + 1) c5) hN5
    have k1:Keep (fun j => j = N) w5 (w5.setCell ⟨N,0,none⟩ (.slice A5 (m + 1) c5)):=Keep.setCell (S:=fun j => j = N) (Keep.refl _ _) ⟨N,0,none⟩ (.inr rfl) _
    have o6:=k1.own ho5 (fun j hj e => block_notrow hN5 (by decide) ho5 (by rw [hj,e]))
    have k6:Keep (fun j => j = N ∨ v.ownBlock = some j) w (w5.setCell ⟨N,0,none⟩ (.slice A5 (m + 1) c5)):=Keep.setCell (S:=fun j => j = N ∨ v.ownBlock = some j) ((Keep.below HB0.out).trans (q5.mono fun k _ hk => .inr hk)) ⟨N,0,none⟩ (.inr (.inl rfl)) _
    have E3:=Lib.hid e3;have O6:=Lib.hid o6;have K6:=Lib.hid k6;have HA:=Lib.hid ha
    have xN:=tN w5 q5
    clear ho5 hb5 hg5 hN5 e3 k1 o6 k6 tN tP t0 d0 d1 hK K' ha q5 hO
    go_wp2_with fail
    go_end0
    refine ⟨rfl,_,by simpa using E3.out,?_,K6.out⟩
    rw [acnVals_snoc,← HA.out]
    exact O6.out
  · refine XA.g 16 (fun w':World => Keep (fun j => v.ownBlock = some j) W0 w') ?_
    refine XA.t ?_ [0,1,2,3,4,5,6,7,8,9,10,11,12,13] q0 ?_
    obtain ⟨a,ha⟩:∃ a:Acn,a = ⟨true,(!true && ph == 0),st,bk,ph,r,i,x⟩:=⟨_,rfl⟩
    refine XA.v 14 (W0.drew.alloc (.cells (acnCells a).toArray 54)) (.slice (some ⟨W0.heap.size,0,none⟩) 1 1) (q0.alloc _) ?_ rfl (by decide +kernel) rfl (by subst ha;go_simp;simp [acnCells,hpe];try rfl)
    refine XA.o 15 (fun K' hK => ?_) rfl (by decide +kernel)
    have hO:=(HO.out.drew).alloc (.cells (acnCells a).toArray 54)
    have hbs:=HB0.out.size
    refine step_appX et_acts (.tmp 23) (.tmp 37) rfl rfl base v m _ rfl hO (some ⟨W0.heap.size,0,none⟩) 1 1 (acnCells a) rfl (fun k u hu => ⟨_,_,rfl,by rw [Nat.zero_add,cell_of_row _ W0.heap.size k (acnCells a).toArray 54 (0,0) (heap_alloc_new W0.drew _)];simpa using hu⟩) rfl (by simp [acnCells,Value.oneCell']) (by omega) (by unfold maxLen;omega) (by simp;omega) ?_
    intro A5 c5 w5 ho5 hb5 hg5 _
    have q5:Keep (fun j => v.ownBlock = some j) W0 w5:=(q0.alloc _).grown hg5 (fun k hk => .inr hk)
    refine hK.out _ _ q5 fun _ => ?_
    refine XA.e ?_
    simp only [List.drop_succ_cons,List.drop_zero]
    have hN5:=HN.out w5 q5
    have e3:=heap_setCell_same w5 N 0 _ _ (.slice A5 (m + 1) c5) hN5
    have k1:Keep (fun j => j = N) w5 (w5.setCell ⟨N,0,none⟩ (.slice A5 (m + 1) c5)):=Keep.setCell (S:=fun j => j = N) (Keep.refl _ _) ⟨N,0,none⟩ (.inr rfl) _
    have o6:=k1.own ho5 (fun j hj e => block_notrow hN5 (by decide) ho5 (by rw [hj,e]))
    have k6:Keep (fun j => j = N ∨ v.ownBlock = some j) w (w5.setCell ⟨N,0,none⟩ (.slice A5 (m + 1) c5)):=Keep.setCell (S:=fun j => j = N ∨ v.ownBlock = some j) ((Keep.below HB0.out).trans (q5.mono fun k _ hk => .inr hk)) ⟨N,0,none⟩ (.inr (.inl rfl)) _
    have E3:=Lib.hid e3;have O6:=Lib.hid o6;have K6:=Lib.hid k6;have HA:=Lib.hid ha
    have xN:=tN w5 q5
    clear ho5 hb5 hg5 hN5 e3 k1 o6 k6 tN tP t0 d0 d1 hK K' ha q5 hO
    go_wp2_with fail
    go_end0
    refine ⟨rfl,_,by simpa using E3.out,?_,K6.out⟩
    rw [acnVals_snoc,← HA.out]
    exact O6.out
def actAdd (snd:Bool) (i:Nat) (rs:List Rg) (st bk ph r:Nat) (l:List Acn):List Acn:=if i < rs.length then l ++ [⟨snd,!snd && ph == 0,st,bk,ph,r,i,rgAt rs i⟩] else l
theorem acadd_any (snd:Bool) (i:Nat) (A:Option Addr) (rs:List Rg) (c J Pb Rb N base:Nat) (st bk lo hi W cc ph r:Nat) (v:Value) (l:List Acn) (w:World)
    (hJ:w.heap[J]? = some (.cells #[.int .i64 (st:Nat),.int .i64 (bk:Nat),.int .i64 (lo:Nat),.int .i64 (hi:Nat),.int .i64 (W:Nat),.int .i64 (cc:Nat)] 275 (0,0)))
    (hP:w.heap[Pb]? = some (.cells #[.int .i64 (ph:Nat)] 3 (0,0))) (hR:w.heap[Rb]? = some (.cells #[.int .i64 (r:Nat)] 3 (0,0)))
    (hN:w.heap[N]? = some (.cells #[v] 276 (0,0))) (ho:w.ownsRow base 54 9 v l.length (acnVals l)) (hb:base ≤ w.heap.size) (hNb:base ≤ N)
    (hA:Rd w A (rgVals rs)) (hm:l.length ≤ 8388608) (hn2:rs.length ≤ 1048576) (hAb:∀ y,A = some y → y.block < base) :
    Calls Tryz.prog 192 #[.bool snd,.int .i64 i,.slice A rs.length c,.pointer (some ⟨J,0,none⟩),.pointer (some ⟨Pb,0,none⟩),.pointer (some ⟨Rb,0,none⟩),.pointer (some ⟨N,0,none⟩)] w fun e w' => e = .returned (.tuple #[]) ∧
      ∃ v',w'.heap[N]? = some (.cells #[v'] 276 (0,0)) ∧ w'.ownsRow base 54 9 v' (actAdd snd i rs st bk ph r l).length (acnVals (actAdd snd i rs st bk ph r l)) ∧ Below base w w':=by
  by_cases h:i < rs.length
  · refine (acadd_in snd i A rs rs.length c J Pb Rb N base st bk lo hi W cc ph r (rgAt rs i) v l l.length w hJ hP hR hN ho hb hA rfl (by rw [rgAt_eq rs i h];simp [h]) hm hn2 hAb).mono ?_
    rintro e w' ⟨rfl,v',n1,o1,k1⟩
    have e1:actAdd snd i rs st bk ph r l = l ++ [⟨snd,!snd && ph == 0,st,bk,ph,r,i,rgAt rs i⟩]:=if_pos h
    refine ⟨rfl,v',n1,?_,k1.toBelow hb ?_⟩
    · rw [e1,List.length_append];exact o1
    · rintro j (rfl | hj)
      · exact hNb
      · exact (ho.lt j hj).1
  · refine (acadd_out snd i A rs.length c J Pb Rb N w (by omega)).mono ?_
    rintro e w' ⟨rfl,rfl⟩
    have e1:actAdd snd i rs st bk ph r l = l:=if_neg h
    exact ⟨rfl,v,hN,by rw [e1];exact ho,Below.refl _ _⟩
end Go.Proofs.YtaccfnffmbndhaaGreat
namespace Go.Proofs.YtaccfnffmbndhaaGreat
open Go.RowKit
def pairK (x y:List Rg) (f g:Nat → Rg → Acn) (k:Nat):List Acn:=
  (List.range k).flatMap fun i => (if i < x.length then [f i (rgAt x i)] else []) ++ (if i < y.length then [g i (rgAt y i)] else [])
theorem pairK_succ (x y:List Rg) (f g:Nat → Rg → Acn) (k:Nat):pairK x y f g (k + 1) = pairK x y f g k ++ ((if k < x.length then [f k (rgAt x k)] else []) ++ (if k < y.length then [g k (rgAt y k)] else [])):=by
  simp [pairK,List.range_succ,List.flatMap_append]
theorem pairK_le (x y:List Rg) (f g:Nat → Rg → Acn) (k:Nat):(pairK x y f g k).length ≤ 2 * k:=by
  induction k with
  | zero => simp [pairK]
  | succ k ih =>
    rw [pairK_succ,List.length_append,List.length_append]
    split <;> split <;> simp <;> omega
theorem pairK_add (X Y:List Rg) (st bk ph r m:Nat):actAdd false m Y st bk ph r (actAdd true m X st bk ph r (pairK X Y (fun i s => (⟨true,false,st,bk,ph,r,i,s⟩:Acn)) (fun i s => (⟨false,ph == 0,st,bk,ph,r,i,s⟩:Acn)) m)) = pairK X Y (fun i s => (⟨true,false,st,bk,ph,r,i,s⟩:Acn)) (fun i s => (⟨false,ph == 0,st,bk,ph,r,i,s⟩:Acn)) (m + 1):=by
  rw [pairK_succ]
  by_cases h1:m < X.length <;> by_cases h2:m < Y.length <;> simp [actAdd,h1,h2]
set_option maxRecDepth 100000 in
set_option maxHeartbeats 1000000 in
theorem round_any (st bk lo hi W c x ph r:Nat) (w:World) (h1:1 ≤ W) (h2:W ≤ 1048576) (hx:x < W) (hp:ph < 2) (hr:r + 1 < W) (h3:lo ≤ 1048576) (h4:hi ≤ 1048576) (h5:1 ≤ c) (h6:c ≤ 1048576) :
    Calls Tryz.prog 167 #[.agg #[.int .i64 (st:Nat),.int .i64 (bk:Nat),.int .i64 (lo:Nat),.int .i64 (hi:Nat),.int .i64 (W:Nat),.int .i64 (c:Nat)],.int .i64 x,.int .i64 ph,.int .i64 r] w fun e w' => ∃ v,e = .returned v ∧ w'.ownsRow w.heap.size 54 9 v (roundL st bk (lo,hi) W c x ph r).length (acnVals (roundL st bk (lo,hi) W c x ph r)) ∧ Below w.heap.size w w':=by
  obtain ⟨W0,hW0⟩:∃ W0,((w.alloc (.cells #[.int .i64 (st:Nat),.int .i64 (bk:Nat),.int .i64 (lo:Nat),.int .i64 (hi:Nat),.int .i64 (W:Nat),.int .i64 (c:Nat)] 275)).alloc (.cells #[.int .i64 ph] 3)).alloc (.cells #[.int .i64 r] 3) = W0:=⟨_,rfl⟩
  have g0:W0.heap[w.heap.size]? = some (.cells #[.int .i64 (st:Nat),.int .i64 (bk:Nat),.int .i64 (lo:Nat),.int .i64 (hi:Nat),.int .i64 (W:Nat),.int .i64 (c:Nat)] 275 (0,0)):=by
    rw [← hW0,Below.heap_alloc _ _ _ (by simp;omega),Below.heap_alloc _ _ _ (by simp)];exact heap_alloc_new w _
  have g1:W0.heap[w.heap.size + 1]? = some (.cells #[.int .i64 ph] 3 (0,0)):=by
    rw [← hW0,Below.heap_alloc _ _ _ (by simp)];have:=heap_alloc_new (w.alloc (.cells #[.int .i64 (st:Nat),.int .i64 (bk:Nat),.int .i64 (lo:Nat),.int .i64 (hi:Nat),.int .i64 (W:Nat),.int .i64 (c:Nat)] 275)) (.cells #[.int .i64 ph] 3);simpa using this
  have g2:W0.heap[w.heap.size + 1 + 1]? = some (.cells #[.int .i64 r] 3 (0,0)):=by
    rw [← hW0];have:=heap_alloc_new ((w.alloc (.cells #[.int .i64 (st:Nat),.int .i64 (bk:Nat),.int .i64 (lo:Nat),.int .i64 (hi:Nat),.int .i64 (W:Nat),.int .i64 (c:Nat)] 275)).alloc (.cells #[.int .i64 ph] 3)) (.cells #[.int .i64 r] 3);simpa using this
  have hB0:Below w.heap.size w W0:=by rw [← hW0];exact (((br w).alloc (Nat.le_refl _) _).alloc (by simp) _).alloc (by simp;omega) _
  have hs0:W0.heap.size = w.heap.size + 1 + 1 + 1:=by rw [← hW0];simp
  have t0:=fun w' q => bx6 (sb g0 w' q)
  have t1:=fun w' q => bx1 (sb g1 w' q)
  have t2:=fun w' q => bx1 (sb g2 w' q)
  have HW0:=Lib.hid hW0;have HB0:=Lib.hid hB0;have Hs0:=Lib.hid hs0;have G0:=Lib.hid g0;have G1:=Lib.hid g1;have G2:=Lib.hid g2
  clear hW0 g0 g1 g2 hB0 hs0
  go_enter Tryz.func167,Tryz.ntmps167
  have q0:=br W0
  go_wp2_with fail
  rw [HW0.out]
  refine (segO_any st bk lo hi W c x ph r W0 h1 h2 hx hp hr).mono ?_
  rintro e w1 ⟨rfl,k1⟩
  have q1:=bt q0 k1
  go_wp2_with fail
  refine (segI_any st bk lo hi W c x ph r w1 h1 h2 hx hp hr).mono ?_
  rintro e w2 ⟨rfl,k2⟩
  have q2:=bt q1 k2
  go_wp2_with fail
  refine (segs_any lo hi W w2 h1 h2 h3 h4).mono ?_
  rintro e w3 ⟨v3,rfl,o3,k3⟩
  have q3:=bt q2 k3
  have hso:segOut W x ph r < W:=Nat.mod_lt _ h1
  have hsi:segIn W x ph r < W:=Nat.mod_lt _ h1
  obtain ⟨so,hso0⟩:∃ so,segOut W x ph r = so:=⟨_,rfl⟩
  obtain ⟨si,hsi0⟩:∃ si,segIn W x ph r = si:=⟨_,rfl⟩
  rw [hso0] at hso ⊢
  rw [hsi0] at hsi ⊢
  obtain ⟨g,c3,hv3,hg3,hg4⟩:=o3.form (by omega)
  subst hv3
  have hin:=segR_in (b:=(lo,hi)) h1 h3 h4
  obtain ⟨bo,hbo⟩:∃ bo,rgAt (segR (lo,hi) W) so = bo:=⟨_,rfl⟩
  obtain ⟨bi,hbi⟩:∃ bi,rgAt (segR (lo,hi) W) si = bi:=⟨_,rfl⟩
  have ho1:=hin bo (by rw [← hbo,rgAt_eq _ _ (by rw [segR_len];exact hso)];exact List.getElem_mem _)
  have hi1:=hin bi (by rw [← hbi,rgAt_eq _ _ (by rw [segR_len];exact hsi)];exact List.getElem_mem _)
  have po:=rg_cell o3 hso
  have pi:=rg_cell o3 hsi
  rw [hbo] at po
  rw [hbi] at pi
  have q33:=br w3
  have to1:=fun w' (q:Below w3.heap.size w3 w') => cell_below q po.1
  have to2:=fun w' (q:Below w3.heap.size w3 w') => cell_below q po.2
  have ti1:=fun w' (q:Below w3.heap.size w3 w') => cell_below q pi.1
  have ti2:=fun w' (q:Below w3.heap.size w3 w') => cell_below q pi.2
  have u0:=fun w' (q:Below w3.heap.size w3 w') => t0 w' (bt q3 q)
  have hsoI:(so:Int) < W:=by omega
  have hsiI:(si:Int) < W:=by omega
  have HR:Hid (roundL st bk (lo,hi) W c x ph r = pairUp (chR bo c) (chR bi c) (fun i s => ⟨true,false,st,bk,ph,r,i,s⟩) (fun i s => ⟨false,ph == 0,st,bk,ph,r,i,s⟩)):=Lib.hid (by unfold roundL;rw [hso0,hsi0,hbo,hbi])
  have Hq3:=Lib.hid q3
  clear t0 hg3 hg4 hin hbo hbi hso0 hsi0 po pi q0 q1 q2 q3 k1 k2 k3 o3
  go_wp2_with fail
  refine HA.g (fun w':World => Below w3.heap.size w3 w') ?_
  refine HA.t ?_ [0,1,2,3,4,5,7,8,9,10,11,12] q33.drew ?_
  refine HA.c 6 (chks_any bo.1 bo.2 c _ h5 h6 ho1.1 ho1.2) ?_
  rintro e w4 ⟨v4,rfl,o4,k4⟩
  have q4:=bt q33.drew k4
  refine ⟨_,rfl,q4,fun _ => ?_⟩
  refine HA.c 13 (chks_any bi.1 bi.2 c _ h5 h6 hi1.1 hi1.2) ?_
  rintro e w5 ⟨v5,rfl,o5,k5⟩
  have q5:=bt q4 k5
  refine ⟨_,rfl,q5,fun _ => ?_⟩
  refine HA.t ?_ [14,15] q5 ?_
  refine HA.d ?_
  obtain ⟨A4,c4,rfl,_⟩:=own_form o4
  obtain ⟨A5,c5,rfl,_⟩:=own_form o5
  obtain ⟨X,hX⟩:∃ X,chR bo c = X:=⟨_,rfl⟩
  obtain ⟨Y,hY⟩:∃ Y,chR bi c = Y:=⟨_,rfl⟩
  have hXl:X.length ≤ 1048576:=by rw [← hX,chR_len];have:=cntQ_le (bo.2 - bo.1) c;omega
  have hYl:Y.length ≤ 1048576:=by rw [← hY,chR_len];have:=cntQ_le (bi.2 - bi.1) c;omega
  rw [hX] at o4 HR ⊢
  rw [hY] at o5 HR ⊢
  simp only [Exit.then]
  have Q5:=Lib.hid ((Hq3.out).trans (q5.mono Hq3.out.size))
  have O4:=Lib.hid (own_below o4 k5);have O5:=Lib.hid o5
  have B4:=Lib.hid (own_at (own_below o4 k5));have B5:=Lib.hid (own_at o5)
  clear o4 o5 k4 k5 q4 q5 q33 to1 to2 ti1 ti2 u0 t1 t2 Hq3 hX hY ho1 hi1
  obtain ⟨M,hM⟩:∃ M:Nat,max X.length Y.length = M:=⟨_,rfl⟩
  have hmx:(if X.length < Y.length then (Y.length:Int) else (X.length:Int)) = (M:Int):=by rw [← hM];split <;> omega
  have HMx:=Lib.hid hM
  clear hM
  go_wp2_with fail
  go_loopw [62] (fun x wr => ∃ m:Nat,m ≤ M ∧ x = .int .i64 m ∧ ∃ v,wr.heap[w5.heap.size]? = some (.cells #[v] 276 (0,0)) ∧ wr.ownsRow w5.heap.size 54 9 v (pairK X Y (fun i s => (⟨true,false,st,bk,ph,r,i,s⟩:Acn)) (fun i s => (⟨false,ph == 0,st,bk,ph,r,i,s⟩:Acn)) m).length (acnVals (pairK X Y (fun i s => (⟨true,false,st,bk,ph,r,i,s⟩:Acn)) (fun i s => (⟨false,ph == 0,st,bk,ph,r,i,s⟩:Acn)) m)) ∧ Below w5.heap.size w5 wr) (fun x _ => M - (intOf x).toNat)
  case atStart => exact ⟨0,Nat.zero_le _,rfl,_,heap_alloc_new _ _,World.ownsRow_nil _ _ _ _,(br w5).alloc (Nat.le_refl _) _⟩
  case round =>
    obtain ⟨m,hm,rfl,v,n0,o0,q⟩:=hrel
    by_cases hlt:m < M
    · have hmi:(m:Int) < M:=by omega
      have hw1:IntKind.i64.wrap ((m:Int) + 1) = ((m + 1:Nat):Int):=by rw [IntWalk.i64_in _ (by omega)];push_cast;rfl
      have hl0:=pairK_le X Y (fun i s => (⟨true,false,st,bk,ph,r,i,s⟩:Acn)) (fun i s => (⟨false,ph == 0,st,bk,ph,r,i,s⟩:Acn)) m
      have hR4:=(Rd.own O4.out).below q
      have hb4:=fun y e => (B4.out y e).2
      have c1:=acadd_any true m A4 X c4 w.heap.size (w.heap.size + 1) (w.heap.size + 1 + 1) w5.heap.size w5.heap.size st bk lo hi W c ph r v _ wr (sb G0.out wr (bt Q5.out q)) (sb G1.out wr (bt Q5.out q)) (sb G2.out wr (bt Q5.out q)) n0 o0 q.size (Nat.le_refl _) hR4 (by omega) (by omega) hb4
      have C1:=Lib.hid c1;have HQ:=Lib.hid q;have Hl0:=Lib.hid hl0
      clear c1 hR4 hb4 n0 o0 q hl0
      go_wp2_with fail
      refine C1.out.mono ?_
      rintro e w6 ⟨rfl,v6,n6,o6,k6⟩
      have q6:=HQ.out.trans k6
      have hl1:(actAdd true m X st bk ph r (pairK X Y (fun i s => (⟨true,false,st,bk,ph,r,i,s⟩:Acn)) (fun i s => (⟨false,ph == 0,st,bk,ph,r,i,s⟩:Acn)) m)).length ≤ 2 * m + 1:=by have:=Hl0.out;unfold actAdd;split <;> simp <;> omega
      have hR5:=(Rd.own O5.out).below q6
      have hb5:=fun y e => (B5.out y e).2
      have c2:=acadd_any false m A5 Y c5 w.heap.size (w.heap.size + 1) (w.heap.size + 1 + 1) w5.heap.size w5.heap.size st bk lo hi W c ph r v6 _ w6 (sb G0.out w6 (bt Q5.out q6)) (sb G1.out w6 (bt Q5.out q6)) (sb G2.out w6 (bt Q5.out q6)) n6 o6 q6.size (Nat.le_refl _) hR5 (by omega) (by omega) hb5
      have C2:=Lib.hid c2;have HQ6:=Lib.hid q6
      clear c2 hR5 hb5 n6 o6 q6 k6 hl1
      go_wp2_with fail
      refine C2.out.mono ?_
      rintro e w7 ⟨rfl,v7,n7,o7,k7⟩
      have q7:=HQ6.out.trans k7
      rw [pairK_add] at o7
      have N7:=Lib.hid n7;have O7:=Lib.hid o7;have Q7:=Lib.hid q7
      clear n7 o7 q7 k7
      go_wp2_with fail
      go_roundw
      case rel => exact ⟨m + 1,by omega,by go_num,v7,N7.out,O7.out,Q7.out⟩
      case measure => simp [intOf];omega
    · obtain rfl:M = m:=by omega
      have hmi:¬ ((M:Int) < M):=by omega
      have tn:=fun w' q => bx1 (sb n0 w' q)
      have O0:=Lib.hid o0;have HQ:=Lib.hid q;have HN:=Lib.hid n0
      have q0:=br wr
      clear o0 q n0
      go_wp2_with fail
      go_ret
      refine ⟨_,rfl,?_,?_⟩
      · rw [HR.out]
        have:=O0.out
        rw [← HMx.out] at this
        exact own_base this (Nat.le_trans HB0.out.size Q5.out.size)
      · exact HB0.out.trans ((bt Q5.out HQ.out).mono HB0.out.size)
end Go.Proofs.YtaccfnffmbndhaaGreat
namespace Go.Proofs.YtaccfnffmbndhaaGreat
open Go.RowKit
def actC:Option Acn → List Value
  | none => [.bool false,.bool false,.int .i64 0,.int .i64 0,.int .i64 0,.int .i64 0,.int .i64 0,.int .i64 0,.int .i64 0]
  | some a => acnCells a
def itCells (x:Itm):List Value:=.int .i64 (x.kind:Nat) :: .int .i64 (x.st:Nat) :: .int .i64 (x.n:Nat) :: actC x.a
def itVals (l:List Itm):List Value:=l.flatMap itCells
theorem itVals_app (l m:List Itm):itVals (l ++ m) = itVals l ++ itVals m:=by simp [itVals]
theorem itVals_snoc (l:List Itm) (a:Itm):itVals (l ++ [a]) = itVals l ++ itCells a:=by simp [itVals]
theorem et_items:ElemT Tryz.prog 127 56 (.agg #[.int .i64 0,.int .i64 0,.int .i64 0,.bool false,.bool false,.int .i64 0,.int .i64 0,.int .i64 0,.int .i64 0,.int .i64 0,.int .i64 0,.int .i64 0]) 12 88:=⟨Tryz.underlying127,info_parts (by kernel_rfl),rfl,by decide⟩
set_option maxRecDepth 100000 in
set_option maxHeartbeats 1000000 in
theorem ladd_in (L base kd st n m:Nat) (b0 b1:Bool) (i0 i1 i2 i3 i4 i5 i6:Int) (v:Value) (xs:List Value) (w:World)
    (hL:w.heap[L]? = some (.cells #[.int .i64 (st:Nat),v] 242 (0,0))) (ho:w.ownsRow base 56 12 v m xs) (hb:base ≤ w.heap.size) (hm:m ≤ 8388608) :
    Calls Tryz.prog 143 #[.pointer (some ⟨L,0,none⟩),.int .i64 (kd:Nat),.int .i64 (n:Nat),.agg #[.bool b0,.bool b1,.int .i64 i0,.int .i64 i1,.int .i64 i2,.int .i64 i3,.int .i64 i4,.int .i64 i5,.int .i64 i6]] w fun e w' => e = .returned (.tuple #[]) ∧
      ∃ v',w'.heap[L]? = some (.cells #[.int .i64 (st:Nat),v'] 242 (0,0)) ∧ w'.ownsRow base 56 12 v' (m + 1) (xs ++ [.int .i64 (kd:Nat),.int .i64 (st:Nat),.int .i64 (n:Nat),.bool b0,.bool b1,.int .i64 i0,.int .i64 i1,.int .i64 i2,.int .i64 i3,.int .i64 i4,.int .i64 i5,.int .i64 i6]) ∧ Keep (fun j => j = L ∨ v.ownBlock = some j) w w' ∧ (v'.ownBlock = v.ownBlock ∨ ∀ k,v'.ownBlock = some k → w.heap.size ≤ k):=by
  obtain ⟨W0,hW0⟩:∃ W0,w.alloc (.cells #[.bool b0,.bool b1,.int .i64 i0,.int .i64 i1,.int .i64 i2,.int .i64 i3,.int .i64 i4,.int .i64 i5,.int .i64 i6] 54) = W0:=⟨_,rfl⟩
  have h0:W0.heap[w.heap.size]? = some (.cells #[.bool b0,.bool b1,.int .i64 i0,.int .i64 i1,.int .i64 i2,.int .i64 i3,.int .i64 i4,.int .i64 i5,.int .i64 i6] 54 (0,0)):=by rw [← hW0];exact heap_alloc_new w _
  have hB0:Below w.heap.size w W0:=by rw [← hW0];exact (br w).alloc (Nat.le_refl _) _
  have hO0:=own_below ho hB0
  have nt:=fun b cs t' sg (hb':W0.heap[b]? = some (.cells cs t' sg)) (hne:t' ≠ 56) (e:v.ownBlock = some b) => block_notrow hb' hne hO0 e.symm
  have hL0:=sb hL _ hB0
  have kL:=fun w' (q:Keep (fun j => v.ownBlock = some j) W0 w') => (q.block _ (lt_of_block hL0) (nt _ _ _ _ hL0 (by decide))).trans hL0
  have tL:=fun w' q => bx2 (kL w' q)
  have t0:=fun w' (q:Keep (fun j => v.ownBlock = some j) W0 w') => bx9 ((q.block _ (lt_of_block h0) (nt _ _ _ _ h0 (by decide))).trans h0)
  have HL:=Lib.hid kL;have HO:=Lib.hid hO0;have HB0:=Lib.hid hB0;have HW0:=Lib.hid hW0
  clear hL ho hB0 hW0 h0 hL0 kL hO0 nt
  go_enter Tryz.func143,Tryz.ntmps143
  have q0:Keep (fun j => v.ownBlock = some j) W0 W0.drew:=(Keep.refl _ _).drew
  go_wp2_with fail
  rw [HW0.out]
  refine XA.g 15 (fun w':World => Keep (fun j => v.ownBlock = some j) W0 w') ?_
  refine XA.t ?_ [0,1,2,3,4,5,6,7,8,9,10,11,12] q0 ?_
  refine XA.v 13 (W0.drew.alloc (.cells #[.int .i64 (kd:Nat),.int .i64 (st:Nat),.int .i64 (n:Nat),.bool b0,.bool b1,.int .i64 i0,.int .i64 i1,.int .i64 i2,.int .i64 i3,.int .i64 i4,.int .i64 i5,.int .i64 i6] 56)) (.slice (some ⟨W0.heap.size,0,none⟩) 1 1) (q0.alloc _) ?_
  refine XA.o 14 (fun K' hK => ?_)
  have hO:=(HO.out.drew).alloc (.cells #[.int .i64 (kd:Nat),.int .i64 (st:Nat),.int .i64 (n:Nat),.bool b0,.bool b1,.int .i64 i0,.int .i64 i1,.int .i64 i2,.int .i64 i3,.int .i64 i4,.int .i64 i5,.int .i64 i6] 56)
  have hbs:=HB0.out.size
  refine step_appX et_items (.tmp 12) (.tmp 21) rfl rfl base v m _ rfl hO (some ⟨W0.heap.size,0,none⟩) 1 1 [.int .i64 (kd:Nat),.int .i64 (st:Nat),.int .i64 (n:Nat),.bool b0,.bool b1,.int .i64 i0,.int .i64 i1,.int .i64 i2,.int .i64 i3,.int .i64 i4,.int .i64 i5,.int .i64 i6] rfl (fun k u hu => ⟨_,_,rfl,by rw [Nat.zero_add,cell_of_row _ W0.heap.size k _ 56 (0,0) (heap_alloc_new W0.drew _)];simpa using hu⟩) rfl (by simp [Value.oneCell']) (by omega) (by unfold maxLen;omega) (by simp;omega) ?_
  intro A5 c5 w5 ho5 hb5 hg5 hnw
  have hnw2:(Value.slice A5 (m + 1) c5).ownBlock = v.ownBlock ∨ ∀ k,(Value.slice A5 (m + 1) c5).ownBlock = some k → w.heap.size ≤ k:=by
    rcases hnw with h | h
    · exact .inl h
    · exact .inr fun k hk => by rw [h] at hk;simp at hk;omega
  have HN:=Lib.hid hnw2
  clear hnw hnw2
  have q5:Keep (fun j => v.ownBlock = some j) W0 w5:=(q0.alloc _).grown hg5 (fun k hk => .inr hk)
  refine hK.out _ _ q5 fun _ => ?_
  refine XA.e ?_
  simp only [List.drop_succ_cons,List.drop_zero]
  have hL5:=HL.out w5 q5
  have e3:=heap_setCell_same w5 L 1 _ _ (.slice A5 (m + 1) c5) hL5
  have k1:Keep (fun j => j = L) w5 (w5.setCell ⟨L,1,none⟩ (.slice A5 (m + 1) c5)):=Keep.setCell (S:=fun j => j = L) (Keep.refl _ _) ⟨L,1,none⟩ (.inr rfl) _
  have o6:=k1.own ho5 (fun j hj e => block_notrow hL5 (by decide) ho5 (by rw [hj,e]))
  have k6:Keep (fun j => j = L ∨ v.ownBlock = some j) w (w5.setCell ⟨L,1,none⟩ (.slice A5 (m + 1) c5)):=Keep.setCell (S:=fun j => j = L ∨ v.ownBlock = some j) ((Keep.below HB0.out).trans (q5.mono fun k _ hk => .inr hk)) ⟨L,1,none⟩ (.inr (.inl rfl)) _
  have E3:=Lib.hid e3;have O6:=Lib.hid o6;have K6:=Lib.hid k6
  have xL:=tL w5 q5
  clear ho5 hb5 hg5 hL5 e3 k1 o6 k6 tL t0 hK K' q5 hO
  go_wp2_with fail
  go_end0
  exact ⟨rfl,_,by simpa using E3.out,O6.out,K6.out,HN.out⟩
def LstAt (w:World) (L base st:Nat) (v:Value) (l:List Itm):Prop:=w.heap[L]? = some (.cells #[.int .i64 (st:Nat),v] 242 (0,0)) ∧ w.ownsRow base 56 12 v l.length (itVals l)
def Apd (L:Nat) (w:World) (v:Value) (w':World) (v':Value):Prop:=Keep (fun j => j = L ∨ v.ownBlock = some j) w w' ∧ (v'.ownBlock = v.ownBlock ∨ ∀ k,v'.ownBlock = some k → w.heap.size ≤ k)
theorem Apd.trans {L:Nat} {a b c:World} {v v' v'':Value} (h:Apd L a v b v') (k:Apd L b v' c v''):Apd L a v c v'':=by
  refine ⟨⟨k.1.os.trans h.1.os,k.1.tape.trans h.1.tape,k.1.output.trans h.1.output,Nat.le_trans h.1.size k.1.size,fun j hj hn => (k.1.block j (Nat.lt_of_lt_of_le hj h.1.size) fun hS => ?_).trans (h.1.block j hj hn)⟩,?_⟩
  · rcases hS with rfl | hS
    · exact hn (.inl rfl)
    · rcases h.2 with h2 | h2
      · exact hn (.inr (h2 ▸ hS))
      · have:=h2 j hS;omega
  · rcases k.2 with k2 | k2
    · rw [k2];exact h.2
    · exact .inr fun j hj => Nat.le_trans h.1.size (k2 j hj)
theorem Apd.below {L:Nat} {b c:World} {v:Value} (h:Below b.heap.size b c):Apd L b v c v:=⟨Keep.below h,.inl rfl⟩
theorem Apd.refl (L:Nat) (w:World) (v:Value):Apd L w v w v:=⟨Keep.refl _ _,.inl rfl⟩
theorem LstAt.below {w w':World} {L base st:Nat} {v:Value} {l:List Itm} (h:LstAt w L base st v l) (hb:Below w.heap.size w w'):LstAt w' L base st v l:=⟨sb h.1 _ hb,own_below h.2 hb⟩
theorem ladd_any (L base kd st n:Nat) (a:Option Acn) (v:Value) (l:List Itm) (w:World)
    (hl:LstAt w L base st v l) (hb:base ≤ w.heap.size) (hm:l.length ≤ 8388608) :
    Calls Tryz.prog 143 #[.pointer (some ⟨L,0,none⟩),.int .i64 (kd:Nat),.int .i64 (n:Nat),.agg (actC a).toArray] w fun e w' => e = .returned (.tuple #[]) ∧
      ∃ v',LstAt w' L base st v' (l ++ [(⟨kd,st,n,a⟩:Itm)]) ∧ Apd L w v w' v':=by
  have key:∀ b0 b1 i0 i1 i2 i3 i4 i5 i6,actC a = [.bool b0,.bool b1,.int .i64 i0,.int .i64 i1,.int .i64 i2,.int .i64 i3,.int .i64 i4,.int .i64 i5,.int .i64 i6] → Calls Tryz.prog 143 #[.pointer (some ⟨L,0,none⟩),.int .i64 (kd:Nat),.int .i64 (n:Nat),.agg (actC a).toArray] w fun e w' => e = .returned (.tuple #[]) ∧
      ∃ v',LstAt w' L base st v' (l ++ [(⟨kd,st,n,a⟩:Itm)]) ∧ Apd L w v w' v':=by
    intro b0 b1 i0 i1 i2 i3 i4 i5 i6 e
    rw [e]
    refine (ladd_in L base kd st n l.length b0 b1 i0 i1 i2 i3 i4 i5 i6 v _ w hl.1 hl.2 hb hm).mono ?_
    rintro e' w' ⟨rfl,v',h1,h2,k,hn⟩
    refine ⟨rfl,v',⟨h1,?_⟩,k,hn⟩
    rw [itVals_snoc,List.length_append,itCells,e]
    exact h2
  cases a with
  | none => exact key _ _ _ _ _ _ _ _ _ rfl
  | some a => exact key _ _ _ _ _ _ _ _ _ rfl
theorem ladd_none (L base st n:Nat) (kd:Int) (kn:Nat) (hk:(kn:Int) = kd) (v:Value) (l:List Itm) (w:World) (hl:LstAt w L base st v l) (hb:base ≤ w.heap.size) (hm:l.length ≤ 8388608) :
    Calls Tryz.prog 143 #[.pointer (some ⟨L,0,none⟩),.int .i64 kd,.int .i64 (n:Nat),.agg #[.bool false,.bool false,.int .i64 0,.int .i64 0,.int .i64 0,.int .i64 0,.int .i64 0,.int .i64 0,.int .i64 0]] w fun e w' => e = .returned (.tuple #[]) ∧
      ∃ v',LstAt w' L base st v' (l ++ [(⟨kn,st,n,none⟩:Itm)]) ∧ Apd L w v w' v':=by
  subst hk
  exact ladd_any L base kn st n none v l w hl hb hm
theorem ladd_some (L base st:Nat) (kd:Int) (kn:Nat) (hk:(kn:Int) = kd) (a:Acn) (v:Value) (l:List Itm) (w:World) (hl:LstAt w L base st v l) (hb:base ≤ w.heap.size) (hm:l.length ≤ 8388608) :
    Calls Tryz.prog 143 #[.pointer (some ⟨L,0,none⟩),.int .i64 kd,.int .i64 0,.agg #[.bool a.send,.bool a.add,.int .i64 (a.st:Nat),.int .i64 (a.bk:Nat),.int .i64 (a.ph:Nat),.int .i64 (a.rd:Nat),.int .i64 (a.ch:Nat),.int .i64 (a.at'.1:Nat),.int .i64 (a.at'.2:Nat)]] w fun e w' => e = .returned (.tuple #[]) ∧
      ∃ v',LstAt w' L base st v' (l ++ [(⟨kn,st,0,some a⟩:Itm)]) ∧ Apd L w v w' v':=by
  subst hk
  exact ladd_any L base kn st 0 (some a) v l w hl hb hm
end Go.Proofs.YtaccfnffmbndhaaGreat
