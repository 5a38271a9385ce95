/- A machine does its next item, whatever that is. No condition. -/
import Derived.Test.YtaccfnffmbndhaaGreatB40
set_option linter.unusedSimpArgs false
set_option linter.unusedVariables false
namespace Go.Proofs.YtaccfnffmbndhaaGreat
open Go.RowKit
theorem new_below2 {w W10:World} {o:Obj} (k:Keep (fun j => j = w.heap.size) (w.alloc o) W10):Below w.heap.size w W10:=
  ((br w).alloc (Nat.le_refl _) o).trans (k.toBelow (by rw [World.size_alloc];omega) (fun j hj => by omega))
theorem rt_job:RowTy Tryz.prog 152 13:=⟨⟨_,Tryz.underlying152,rfl⟩,by kernel_rfl⟩
theorem rt_arr:RowTy Tryz.prog 149 7:=⟨⟨_,Tryz.underlying149,rfl⟩,by kernel_rfl⟩
theorem mdoers_any (w:World):Calls Tryz.prog 64 #[] w fun e w' => e = .returned (.agg #[.nilFunc,.func (.func 110) #[] #[],.func (.func 111) #[] #[],.func (.func 112) #[] #[],.func (.func 113) #[] #[],.func (.func 114) #[] #[],.func (.func 115) #[] #[]]) ∧ Below w.heap.size w w':=by
  go_enter Tryz.func64,Tryz.ntmps64
  go_wp2_with (refine wpl_store (heap_alloc_new _ _) rt_arr rfl rfl rfl rfl rfl rfl rfl ?_;intro w1 e1 k1;have E1:=Lib.hid e1;have B1:=Lib.hid (new_below2 k1);clear e1 k1)
  exact bodyPost_ret (res_cell rfl rfl E1.out rt_arr) rfl ⟨rfl,B1.out⟩
def adv (i:Inp) (x:Nat) (m:Mst):Mst:=if m.nx + 1 < (curL i x m.st).length then { m with nx:=m.nx + 1 } else { m with st:=m.st + 1,nx:=0 }
theorem MachAt.upd {H:Nat → Prop} {w w':World} {b x:Nat} {i:Inp} {a:MAd} {m:Mst} (h:MachAt H w b i x a m) (hn:∀ k,Mut b a k → ¬ H k) (hk:Keep (fun k => k = b) w w') (st nx:Nat) (IA:Option Addr) (ic:Nat)
    (hb:w'.heap[b]? = some (.cells #[.int .i64 (x:Nat),.int .i64 i.cfg.workers,.int .i64 i.cfg.micros,.pointer (some ⟨({ a with IA:=IA,ic:=ic }:MAd).F,0,none⟩),.slice ({ a with IA:=IA,ic:=ic }:MAd).E i.data.length ({ a with IA:=IA,ic:=ic }:MAd).ce,.pointer (some ⟨({ a with IA:=IA,ic:=ic }:MAd).S,0,none⟩),.pointer (some ⟨({ a with IA:=IA,ic:=ic }:MAd).PP,0,none⟩),.slice ({ a with IA:=IA,ic:=ic }:MAd).BA (plnI i).buks.length ({ a with IA:=IA,ic:=ic }:MAd).bc,.int .i64 i.cfg.rate,.int .i64 i.cfg.mom,.int .i64 i.cfg.shift,.slice (some ⟨({ a with IA:=IA,ic:=ic }:MAd).bp,0,none⟩) i.start.length ({ a with IA:=IA,ic:=ic }:MAd).cp,.slice (some ⟨({ a with IA:=IA,ic:=ic }:MAd).bm,0,none⟩) i.start.length ({ a with IA:=IA,ic:=ic }:MAd).cm,.slice (some ⟨({ a with IA:=IA,ic:=ic }:MAd).bg,0,none⟩) i.start.length ({ a with IA:=IA,ic:=ic }:MAd).cg,.slice (some ⟨({ a with IA:=IA,ic:=ic }:MAd).rb,0,none⟩) ({ m with st:=st,nx:=nx }:Mst).rc.length ({ a with IA:=IA,ic:=ic }:MAd).rc,.slice ({ a with IA:=IA,ic:=ic }:MAd).IA (curL i x ({ m with st:=st,nx:=nx }:Mst).st).length ({ a with IA:=IA,ic:=ic }:MAd).ic,.int .i64 (({ m with st:=st,nx:=nx }:Mst).nx:Nat),.int .i64 (doneN i x { m with st:=st,nx:=nx }:Nat),({ a with IA:=IA,ic:=ic }:MAd).ov] 130 (0,0)))
    (hit:Rd (hideW (mutH H b a) w') IA (itVals (curL i x st))) (ox:nx < (curL i x st).length ∨ (nx = 0 ∧ i.cfg.steps.toNat ≤ st)):MachAt H w' b i x { a with IA:=IA,ic:=ic } { m with st:=st,nx:=nx }:=by
  have he:Ext (hideW (mutH H b a) w) (hideW (mutH H b a) w'):=ext_step (hk.mono fun k _ e => .inl (.inl e)) (fun k _ hS => hS)
  have ho:∀ {v:Value} {e size n xs},e ≠ 130 → w.ownsRow 0 e size v n xs → w'.ownsRow 0 e size v n xs:=fun hne ho => hk.own ho (fun j hj e => block_notrow h.blk (Ne.symm hne) ho (by rw [hj,e]))
  obtain ⟨a0,a1,a2,a3,a5,a11,hp⟩:=h.pl
  obtain ⟨rows,r1,r2,r3,r4⟩:=h.re
  exact ⟨hb,ext_shape h.sh he,ext_sl exts_ex h.ex he,ext_samp h.sa he,⟨a0,a1,a2,a3,a5,a11,ext_plan hp he⟩,ext_rd h.bu he,hit,⟨rows,ho (by decide) r1,r2,r3,fun j x hx => exts_ex (r4 j x hx) he⟩,
    ho (by decide) h.oP,ho (by decide) h.oM,ho (by decide) h.oG,ho (by decide) h.oO,h.dj,fun k _ hm => hn k hm,h.wP,h.wM,h.wG,ox,h.xw⟩
theorem cur_len {i:Inp} (hs:SmIn i) {x st nx:Nat} (h:nx < (curL i x st).length):st < i.cfg.steps.toNat ∧ (curL i x st).length = (itemsL (plnI i) x 0).length:=by
  unfold curL at h ⊢
  by_cases hc:st < i.cfg.steps.toNat
  · rw [if_pos hc];exact ⟨hc,items_lenS hs.ok x st⟩
  · rw [if_neg hc] at h;simp at h
theorem doneN_next (i:Inp) (x:Nat) (m:Mst):doneN i x { m with st:=m.st,nx:=m.nx + 1 } = doneN i x m + 1:=rfl
theorem doneN_step {i:Inp} (hs:SmIn i) {x:Nat} {m:Mst} (h:m.nx + 1 = (curL i x m.st).length):doneN i x { m with st:=m.st + 1,nx:=0 } = doneN i x m + 1:=by
  have:=(cur_len hs (x:=x) (st:=m.st) (nx:=m.nx) (by omega)).2
  simp only [doneN,Nat.succ_mul]
  omega
theorem itemsL_st {p:Pln} {x st:Nat} {y:Itm} (h:y ∈ itemsL p x st):y.st = st:=by
  unfold itemsL at h
  simp only [List.mem_append,List.mem_map,List.mem_flatMap,List.mem_singleton] at h
  rcases h with (⟨_,_,rfl⟩ | ⟨g,_,h⟩) | rfl
  · rfl
  · unfold groupL at h
    simp only [List.mem_append,List.mem_map,List.mem_flatMap] at h
    rcases h with (⟨_,_,rfl⟩ | ⟨_,_,_,_,_,_,h⟩) | ⟨_,_,rfl⟩
    · rfl
    · unfold roundI at h
      obtain ⟨_,_,rfl⟩:=List.mem_map.1 h
      rfl
    · rfl
  · rfl
theorem cur_st {i:Inp} {x st nx:Nat} {y:Itm} (h:(curL i x st)[nx]? = some y):y.st = st:=by
  unfold curL at h
  by_cases hc:st < i.cfg.steps.toNat
  · rw [if_pos hc] at h;exact itemsL_st (List.mem_of_getElem? h)
  · rw [if_neg hc] at h;simp at h
theorem doneN_le {i:Inp} (hs:SmIn i) {x:Nat} {m:Mst} (h:m.nx < (curL i x m.st).length):doneN i x m + 1 ≤ 48000000:=by
  obtain ⟨h1,h2⟩:=cur_len hs h
  have h3:=itemsL_le hs.ok x 0
  have h4:m.st ≤ 5:=by have:=hs.s;omega
  have h5:=Nat.mul_le_mul h4 h3
  have h6:m.st * (itemsL (plnI i) x 0).length + (itemsL (plnI i) x 0).length = (m.st + 1) * (itemsL (plnI i) x 0).length:=(Nat.succ_mul _ _).symm
  have h7:=Nat.mul_le_mul (show m.st + 1 ≤ 6 by omega) h3
  simp only [doneN]
  omega
theorem MachAt.mlt {H:Nat → Prop} {w:World} {b x:Nat} {i:Inp} {a:MAd} {m:Mst} (h:MachAt H w b i x a m):∀ k,Mut b a k → k < w.heap.size:=by
  rintro k (rfl | rfl | rfl | rfl | rfl | hk)
  · exact lt_of_block h.blk
  · exact (h.oP.lt _ rfl).2
  · exact (h.oM.lt _ rfl).2
  · exact (h.oG.lt _ rfl).2
  · obtain ⟨rows,r1,_⟩:=h.re
    exact (r1.lt _ rfl).2
  · exact (h.oO.lt _ hk).2
theorem pstep_cur {w:World} {P x:Nat} {i:Inp} {a0 a1 a2 a3 a5 a11:Value} (hP:PlanAt w P (plnI i) a0 a1 a2 a3 a5 (.int .i64 (i.cfg.steps.toNat:Nat)) a11) (hs:SmIn i) (hx:x < (plnI i).W) (st:Nat) :
    Calls Tryz.prog 51 #[.pointer (some ⟨P,0,none⟩),.int .i64 x,.int .i64 (st:Nat)] w fun e w' => ∃ A c,e = .returned (.slice A (curL i x st).length c) ∧ Rd w' A (itVals (curL i x st)) ∧ (∀ y,A = some y → w.heap.size ≤ y.block) ∧ Below w.heap.size w w':=by
  unfold curL
  by_cases hc:st < i.cfg.steps.toNat
  · rw [if_pos hc]
    refine (pstep_any (plnI i) P x st i.cfg.steps.toNat a0 a1 a2 a3 a5 a11 w hs.ok hs.n1 hx hc hP).mono ?_
    rintro e w' ⟨v,rfl,o,k⟩
    obtain ⟨A,c,rfl,_⟩:=own_form o
    exact ⟨A,c,rfl,Rd.own o,fun y hy => (own_addr o y hy).1,k⟩
  · rw [if_neg hc]
    refine (pstep_end (plnI i) P x st i.cfg.steps.toNat a0 a1 a2 a3 a5 a11 w hx (by omega) hP).mono ?_
    rintro e w' ⟨rfl,rfl⟩
    exact ⟨none,0,rfl,Rd.nil _ _,(fun y hy => by cases hy),br w⟩
def Did (H G:Nat → Prop) (b:Nat) (i:Inp) (x:Nat) (a:MAd) (m:Mst) (n:Nat) (T:World → Mst → Prop) (w w':World):Prop:=∃ a1 m1,MachAt H w' b i x a1 m1 ∧ m1.st = m.st ∧ m1.nx = m.nx ∧ Keep (fun k => Mut b a k ∨ G k) w w' ∧ (∀ k,Mut b a1 k → Mut b a k ∨ n ≤ k) ∧ T w' m1
def DidX (G:Nat → Prop) (b:Nat) (i:Inp) (x:Nat) (a:MAd) (m:Mst) (n:Nat) (T:(Nat → Prop) → World → Mst → Prop) (w w':World):Prop:=∃ H a1 m1,MachAt H w' b i x a1 m1 ∧ (∀ k,Mut b a1 k → ¬ H k) ∧ (∀ k,w'.heap.size ≤ k → ¬ H k) ∧ m1.st = m.st ∧ m1.nx = m.nx ∧ Keep (fun k => Mut b a k ∨ G k) w w' ∧ (∀ k,Mut b a1 k → Mut b a k ∨ n ≤ k) ∧ T H w' m1
def DidM (H G:Nat → Prop) (b:Nat) (i:Inp) (x:Nat) (a:MAd) (m:Mst) (T:World → Mst → Prop) (w w':World):Prop:=∃ a2 m1,MachAt H w' b i x a2 (adv i x m1) ∧ m1.st = m.st ∧ m1.nx = m.nx ∧ Keep (fun k => Mut b a k ∨ G k) w w' ∧ (∀ k,Mut b a2 k → Mut b a k ∨ w.heap.size ≤ k) ∧ T w' m1
def DidMX (G:Nat → Prop) (b:Nat) (i:Inp) (x:Nat) (a:MAd) (m:Mst) (T:(Nat → Prop) → World → Mst → Prop) (w w':World):Prop:=∃ H a2 m1,MachAt H w' b i x a2 (adv i x m1) ∧ (∀ k,Mut b a2 k → ¬ H k) ∧ (∀ k,w'.heap.size ≤ k → ¬ H k) ∧ m1.st = m.st ∧ m1.nx = m.nx ∧ Keep (fun k => Mut b a k ∨ G k) w w' ∧ (∀ k,Mut b a2 k → Mut b a k ∨ w.heap.size ≤ k) ∧ T H w' m1
set_option maxRecDepth 100000 in
set_option maxHeartbeats 4000000 in
theorem mdo_anyX {H G:Nat → Prop} {w:World} {b x:Nat} {i:Inp} {a:MAd} {m:Mst} (h:MachAt H w b i x a m) (hn:∀ k,Mut b a k → ¬ H k) (hnew:∀ k,w.heap.size ≤ k → ¬ H k) (hGs:∀ k,G k → k < w.heap.size) (hs:SmIn i) {y:Itm} (hy:(curL i x m.st)[m.nx]? = some y) (u v:Option Addr)
    (f:Nat) (hf:∀ w',Sem.run Tryz.prog (Instr.index 149 (.agg #[.nilFunc,.func (.func 110) #[] #[],.func (.func 111) #[] #[],.func (.func 112) #[] #[],.func (.func 113) #[] #[],.func (.func 114) #[] #[],.func (.func 115) #[] #[]]) (.int .i64 (y.kind:Nat))) w' = .ok (.func (.func f) #[] #[]) w') (heg:∀ args w,(callFunc f args).run Tryz.prog w = .ok (.enter f args) w)
    (FP:Int → Prop) (T:(Nat → Prop) → World → Mst → Prop) (hT:∀ H1 w1 w2 m1,T H1 w1 m1 → Keep (fun k => k = b) w1 w2 → T H1 w2 m1)
    (hd:∀ w',Below w.heap.size w w' → Calls Tryz.prog f #[.pointer (some ⟨b,0,none⟩),.agg (itCells y).toArray,.agg #[.pointer u,.pointer v]] w' fun e w'' => (e = .returned (.int .i64 0) ∧ DidX G b i x a m w.heap.size T w' w'') ∨ (∃ C:Int,C ≠ 0 ∧ FP C ∧ e = .returned (.int .i64 C) ∧ Below w'.heap.size w' w'')) :
    Calls Tryz.prog 17 #[.pointer (some ⟨b,0,none⟩),.pointer u,.pointer v] w fun e w' => (e = .returned (.int .i64 0) ∧ DidMX G b i x a m T w w') ∨ (∃ C:Int,C ≠ 0 ∧ FP C ∧ e = .returned (.int .i64 C) ∧ Below w.heap.size w w'):=by
  have hnx:=next_some h hy
  have hone:=it_ones y
  obtain ⟨k0,k1,k2,b0,b1,i0,i1,i2,i3,i4,i5,i6,hyf⟩:=it_form y
  have e0:(y.kind:Int) = k0:=by have:=hyf;simp only [itCells,List.cons.injEq,Value.int.injEq,true_and] at this;exact this.1
  have e1:(y.st:Int) = k1:=by have:=hyf;simp only [itCells,List.cons.injEq,Value.int.injEq,true_and] at this;exact this.2.1
  rw [hyf] at hnx hd
  rw [e0] at hf
  have hnl:=(List.getElem?_eq_some_iff.1 hy).1
  have hmlt:=h.mlt
  have Hnx:=Lib.hid hnx;have Hd:=Lib.hid hd;have Hf:=Lib.hid hf;have Heg:=Lib.hid heg;have HM:=Lib.hid h;have HT:=Lib.hid hT;have Hnl:=Lib.hid hnl;have Hn:=Lib.hid hn;have Hnew:=Lib.hid hnew;have Hs:=Lib.hid hs;have E1:=Lib.hid e1;have Hy:=Lib.hid hy;have Hml:=Lib.hid hmlt;have HGs:=Lib.hid hGs
  clear hmlt hGs hnx hd hf heg h hT hnl hn hnew hone hyf e0 e1 hs hy
  go_enter Tryz.func17,Tryz.ntmps17
  go_wp2_with fail
  refine Hnx.out.mono ?_
  rintro e w1 ⟨rfl,q1⟩
  have g2:=heap_alloc_new w1 (.cells #[.int .i64 k0,.int .i64 k1,.int .i64 k2,.bool b0,.bool b1,.int .i64 i0,.int .i64 i1,.int .i64 i2,.int .i64 i3,.int .i64 i4,.int .i64 i5,.int .i64 i6] 56)
  have q2:Below w.heap.size w (w1.alloc (.cells #[.int .i64 k0,.int .i64 k1,.int .i64 k2,.bool b0,.bool b1,.int .i64 i0,.int .i64 i1,.int .i64 i2,.int .i64 i3,.int .i64 i4,.int .i64 i5,.int .i64 i6] 56)):=q1.alloc q1.size _
  obtain ⟨W2,hW2⟩:∃ W2,w1.alloc (.cells #[.int .i64 k0,.int .i64 k1,.int .i64 k2,.bool b0,.bool b1,.int .i64 i0,.int .i64 i1,.int .i64 i2,.int .i64 i3,.int .i64 i4,.int .i64 i5,.int .i64 i6] 56) = W2:=⟨_,rfl⟩
  rw [hW2] at g2 q2
  have hX:w.heap.size ≤ w1.heap.size:=q1.size
  go_wp2_with fail
  clear hW2 q1
  have G2:=Lib.hid g2;have Q2:=Lib.hid q2
  have t0:∀ w',Below W2.heap.size W2 w' → w'.cell? ⟨w1.heap.size,0,none⟩ = some (.int .i64 k0):=fun w' q => cell_of_row w' w1.heap.size 0 _ _ _ (sb g2 w' q)
  have tl:=sl g2
  clear g2 q2
  have hff:=fun w' => Hf.out w'
  go_cut [9] (fun v wx => ∃ J,v = .pointer (some ⟨J,0,none⟩) ∧ wx.heap[J]? = some (.cells #[.int .i64 k0,.int .i64 k1,.int .i64 k2,.bool b0,.bool b1,.int .i64 i0,.int .i64 i1,.int .i64 i2,.int .i64 i3,.int .i64 i4,.int .i64 i5,.int .i64 i6,.func (.func f) #[] #[]] 152 (0,0)) ∧ Below W2.heap.size W2 wx)
  case first =>
    refine HA.g (fun w':World => Below W2.heap.size W2 w') ?_
    have q3:=(br W2).drew
    refine HA.ld 0 #[.int .i64 k0,.int .i64 k1,.int .i64 k2,.bool b0,.bool b1,.int .i64 i0,.int .i64 i1,.int .i64 i2,.int .i64 i3,.int .i64 i4,.int .i64 i5,.int .i64 i6] (fun w' q => sb G2.out w' q) rt_item q3 ?_
    refine HA.t ?_ [2,3] q3 ?_
    refine HA.two 1 6 ?_ ?_
    · refine HAS.c (mdoers_any _) ?_
      rintro e w3 ⟨rfl,k3⟩
      have q4:=q3.trans (k3.mono q3.size)
      refine ⟨_,rfl,q4,fun _ => ?_⟩
      refine HA.t ?_ [4,5] q4 ?_
      refine HA.v 6 (w3.alloc (.cells #[.int .i64 0,.int .i64 0,.int .i64 0,.bool false,.bool false,.int .i64 0,.int .i64 0,.int .i64 0,.int .i64 0,.int .i64 0,.int .i64 0,.int .i64 0,.nilFunc] 152)) (.pointer (some ⟨w3.heap.size,0,none⟩)) (q4.alloc q4.size _) ?_
      refine HA.st 7 (heap_alloc_new w3 _) rt_job (fun w9 e9 k9 => ?_)
      have q9:=q4.trans ((new_below2 k9).mono q4.size)
      refine ⟨q9,HA.d ?_⟩
      have E9:=Lib.hid e9;have Q9:=Lib.hid q9
      clear e9 k9 q9 q4 q3 k3 hff t0 tl
      go_wp2_with fail
      go_meet
      exact ⟨_,rfl,E9.out,Q9.out⟩
    · refine HAS.v (W2.drew.alloc (.cells #[.int .i64 0,.int .i64 0,.int .i64 0,.bool false,.bool false,.int .i64 0,.int .i64 0,.int .i64 0,.int .i64 0,.int .i64 0,.int .i64 0,.int .i64 0,.nilFunc] 152)) (.pointer (some ⟨W2.heap.size,0,none⟩)) (q3.alloc (Nat.le_refl _) _) ?_
      have gJ:=heap_alloc_new W2.drew (.cells #[.int .i64 0,.int .i64 0,.int .i64 0,.bool false,.bool false,.int .i64 0,.int .i64 0,.int .i64 0,.int .i64 0,.int .i64 0,.int .i64 0,.int .i64 0,.nilFunc] 152)
      rw [World.size_drew] at gJ
      have q4:=q3.alloc (Nat.le_refl _) (.cells #[.int .i64 0,.int .i64 0,.int .i64 0,.bool false,.bool false,.int .i64 0,.int .i64 0,.int .i64 0,.int .i64 0,.int .i64 0,.int .i64 0,.int .i64 0,.nilFunc] 152)
      obtain ⟨W3,hW3⟩:∃ W3,W2.drew.alloc (.cells #[.int .i64 0,.int .i64 0,.int .i64 0,.bool false,.bool false,.int .i64 0,.int .i64 0,.int .i64 0,.int .i64 0,.int .i64 0,.int .i64 0,.int .i64 0,.nilFunc] 152) = W3:=⟨_,rfl⟩
      rw [hW3] at gJ q4 ⊢
      clear hW3
      refine HA.c 1 (mdoers_any _) ?_
      rintro e w3 ⟨rfl,k3⟩
      have q5:=q4.trans (k3.mono q4.size)
      refine ⟨_,rfl,q5,fun _ => ?_⟩
      refine HA.t ?_ [4,5] q5 ?_
      refine HA.st 7 (sb gJ _ k3) rt_job (fun w9 e9 k9 => ?_)
      have q9:=q5.trans (k9.toBelow q5.size (fun j hj => by rw [hj];exact Nat.le_refl _))
      refine ⟨q9,HA.d ?_⟩
      have E9:=Lib.hid e9;have Q9:=Lib.hid q9
      clear e9 k9 q9 q4 q5 q3 k3 hff t0 tl gJ
      go_wp2_with fail
      go_meet
      exact ⟨_,rfl,E9.out,Q9.out⟩
  case rest =>
    obtain ⟨J,rfl,gJ,qJ⟩:=hcut
    clear t0 tl hff
    have j12:=cell_of_row wc J 12 _ _ _ gJ
    have lJ:=lt_of_block gJ
    have j12':wc.cell? ⟨J,12,none⟩ = some (.func (.func f) #[] #[]):=j12
    clear j12
    have GJ:=Lib.hid gJ
    have hB0:=Q2.out.trans (qJ.mono Q2.out.size)
    have QJ:=Lib.hid qJ;have B0:=Lib.hid hB0
    clear gJ qJ hB0
    have heg':=Heg.out
    go_wp2_with (refine wpl_load #[.int .i64 k0,.int .i64 k1,.int .i64 k2,.bool b0,.bool b1,.int .i64 i0,.int .i64 i1,.int .i64 i2,.int .i64 i3,.int .i64 i4,.int .i64 i5,.int .i64 i6] GJ.out rt_item rfl rfl rfl rfl ?_)
    refine (Hd.out wc B0.out).mono ?_
    rintro e w3 (⟨rfl,H1,a1,m1,hm1,hn1,hnw1,hst,hnx,hk,hmu,ht⟩ | ⟨C,hC,hFP,rfl,k3⟩)
    rotate_left
    · have hCb:(C != 0) = true:=by rw [bne_iff_ne];exact hC
      have K3:=Lib.hid (B0.out.trans (k3.mono B0.out.size))
      clear k3
      go_wp2_with fail
      go_ret
      exact .inr ⟨C,hC,hFP,rfl,K3.out⟩
    · have hcl1:m1.nx < (curL i x m1.st).length:=by rw [hst,hnx];exact Hnl.out
      have hdl:=doneN_le Hs.out hcl1
      obtain ⟨dn,hdn⟩:∃ dn,doneN i x m1 = dn:=⟨_,rfl⟩
      obtain ⟨il,hil⟩:∃ il,(curL i x m1.st).length = il:=⟨_,rfl⟩
      have hblk:=hm1.blk
      rw [hdn] at hblk hdl
      rw [hil] at hblk hcl1
      have lb:=lt_of_block hblk
      have c16:w3.cell? ⟨b,16,none⟩ = some (.int .i64 (m1.nx:Nat)):=cell_of_row w3 b 16 _ _ _ hblk
      have c17:w3.cell? ⟨b,17,none⟩ = some (.int .i64 (dn:Nat)):=cell_of_row w3 b 17 _ _ _ hblk
      have f16:=frozen_of_row w3 b 16 _ _ hblk
      have f17:=frozen_of_row w3 b 17 _ _ hblk
      have hw1:IntKind.i64.wrap ((dn:Int) + 1) = ((dn + 1:Nat):Int):=by rw [IntWalk.i64_in _ (by omega)];push_cast;rfl
      have hilb:il ≤ 8000000:=by rw [← hil,(cur_len Hs.out (x:=x) (st:=m1.st) (nx:=m1.nx) (by omega)).2];exact itemsL_le Hs.out.ok x 0
      have hw2:IntKind.i64.wrap ((m1.nx:Int) + 1) = ((m1.nx + 1:Nat):Int):=by rw [IntWalk.i64_in _ (by omega)];push_cast;rfl
      have g5:=ss2 (i:=17) (j:=16) (v:=.int .i64 ((dn:Int) + 1)) (u:=.int .i64 ((m1.nx:Int) + 1)) hblk rfl
      have k5:Keep (fun k => k = b) w3 ((w3.setCell ⟨b,17,none⟩ (.int .i64 ((dn:Int) + 1))).setCell ⟨b,16,none⟩ (.int .i64 ((m1.nx:Int) + 1))):=Keep.setCell (S:=fun k => k = b) (Keep.setCell (S:=fun k => k = b) (Keep.refl _ _) _ (.inr rfl) _) _ (.inr rfl) _
      have G5:=Lib.hid g5;have K5:=Lib.hid k5;have HM1:=Lib.hid hm1;have Hk:=Lib.hid hk;have Hmu:=Lib.hid hmu;have Ht:=Lib.hid ht;have Hst:=Lib.hid hst;have Hnx1:=Lib.hid hnx;have Hn1:=Lib.hid hn1;have Hnw1:=Lib.hid hnw1;have Hdn:=Lib.hid hdn;have Hil:=Lib.hid hil;have Hcl:=Lib.hid hcl1
      clear hm1 hk hmu ht hst hnx hn1 hnw1 hdn hil g5 k5 hblk hcl1 j12' lJ heg'
      go_wp2_with fail
      obtain ⟨W5,hW5⟩:∃ W5,(w3.setCell ⟨b,17,none⟩ (.int .i64 ((dn:Int) + 1))).setCell ⟨b,16,none⟩ (.int .i64 ((m1.nx:Int) + 1)) = W5:=⟨_,rfl⟩
      have g5:=G5.out
      have k5:=K5.out
      rw [hW5] at g5 k5 ⊢
      clear G5 K5 hW5 c16 c17 f16 f17
      have lb5:b < W5.heap.size:=lt_of_block g5
      have r15:∀ w',Below W5.heap.size W5 w' → w'.cell? ⟨b,15,none⟩ = some (.slice a1.IA (curL i x m1.st).length a1.ic):=fun w' q => by rw [Hil.out];exact cell_of_row w' b 15 _ _ _ (sb g5 w' q)
      rw [Hil.out] at r15
      have r16:∀ w',Below W5.heap.size W5 w' → w'.cell? ⟨b,16,none⟩ = some (.int .i64 ((m1.nx:Int) + 1)):=fun w' q => cell_of_row w' b 16 _ _ _ (sb g5 w' q)
      have G5:=Lib.hid g5;have K5:=Lib.hid k5
      clear g5 k5
      have q5:=(br W5).drew
      refine HA.g (fun w':World => Below W5.heap.size W5 w') ?_
      refine HA.t ?_ [0,1,2,3,4,5,6,7,8,9] q5 ?_
      refine HA.d ?_
      have k6:Keep (fun k => k = b) w3 W5.drew:=K5.out.drew
      have g6:=sb G5.out _ q5
      obtain ⟨W6,hW6⟩:∃ W6,W5.drew = W6:=⟨_,rfl⟩
      rw [hW6] at k6 g6 ⊢
      have G6:=Lib.hid g6;have K6:=Lib.hid k6
      have l6:b < W6.heap.size:=lt_of_block g6
      clear hW6 q5 r15 r16 G5 K5 lb5 k6 g6
      by_cases hlast:m1.nx + 1 = il
      rotate_left
      · have hli:¬ (m1.nx:Int) + 1 = il:=by omega
        clear hlast
        go_wp2_with fail
        go_ret
        have hadv:adv i x m1 = { m1 with st:=m1.st,nx:=m1.nx + 1 }:=if_pos (by rw [Hil.out];have:=Hcl.out;omega)
        have e:((doneN i x { m1 with st:=m1.st,nx:=m1.nx + 1 }:Nat):Int) = (dn:Int) + 1:=by rw [doneN_next,Hdn.out];push_cast;rfl
        have e2:((m1.nx + 1:Nat):Int) = (m1.nx:Int) + 1:=by push_cast;rfl
        have hb:=G6.out
        rw [← Hil.out,← e,← e2] at hb
        have hm:=HM1.out.upd Hn1.out K6.out m1.st (m1.nx + 1) a1.IA a1.ic hb (ext_rd HM1.out.it (ext_step (K6.out.mono fun k _ e => .inl (.inl e)) (fun _ _ h => h))) (.inl (by rw [Hil.out];have:=Hcl.out;omega))
        refine .inl ⟨rfl,H1,a1,m1,by rw [hadv];exact hm,Hn1.out,(fun k hk => Hnw1.out k (Nat.le_trans K6.out.size hk)),Hst.out,Hnx1.out,((Keep.below B0.out).trans Hk.out).trans (K6.out.mono fun k _ e => .inl (.inl e)),Hmu.out,HT.out H1 w3 W6 m1 Ht.out K6.out⟩
      · have hli:(m1.nx:Int) + 1 = il:=by omega
        have hk1:k1 = (m1.st:Int):=by rw [← E1.out,cur_st Hy.out,Hst.out]
        have hsb:m1.st < 6:=by have:=(cur_len Hs.out (x:=x) (st:=m1.st) (nx:=m1.nx) (by rw [Hil.out];exact Hcl.out)).1;have:=Hs.out.s;omega
        have hw3:IntKind.i64.wrap ((m1.st:Int) + 1) = ((m1.st + 1:Nat):Int):=by rw [IntWalk.i64_in _ (by omega)];push_cast;rfl
        subst hk1
        have g6:=G6.out
        have nw:¬ (Mut b a w1.heap.size ∨ G w1.heap.size):=fun h => h.elim (fun h => by have:=Hml.out _ h;omega) (fun h => by have:=HGs.out _ h;omega)
        have lw1:w1.heap.size < wc.heap.size:=lt_of_block (sb G2.out wc QJ.out)
        have g3:=(Hk.out.block _ lw1 nw).trans (sb G2.out wc QJ.out)
        have gB:=(K6.out.block w1.heap.size (lt_of_block g3) (fun e => nw (.inl (.inl e)))).trans g3
        have hS:W6.drew.cell? ⟨b,6,none⟩ = some (.pointer (some ⟨a1.PP,0,none⟩)) ∧ W6.drew.cell? ⟨b,0,none⟩ = some (.int .i64 (x:Nat)) ∧ W6.drew.cell? ⟨w1.heap.size,1,none⟩ = some (.int .i64 (m1.st:Nat)) ∧ Keep (fun k => k = b) w3 W6.drew:=⟨cell_of_row W6.drew b 6 _ _ _ g6,cell_of_row W6.drew b 0 _ _ _ g6,cell_of_row W6.drew w1.heap.size 1 _ _ _ gB,K6.out.drew⟩
        obtain ⟨pa0,pa1,pa2,pa3,pa5,pa11,hpl⟩:=HM1.out.pl
        have hps:=pstep_cur (ext_plan hpl (ext_keep (S:=mutH H1 b a1) (K6.out.drew.mono fun k _ e => .inl (.inl e)))) Hs.out HM1.out.xw (m1.st + 1)
        rw [← hw3] at hps
        have Hps:=Lib.hid hps
        have G6':=Lib.hid (show W6.drew.heap[b]? = _ from g6)
        have GB:=Lib.hid (show W6.drew.heap[w1.heap.size]? = _ from gB)
        clear hlast g6 gB g3 hpl hps
        go_wp2_with fail
        refine HA.g (fun w':World => w'.cell? ⟨b,6,none⟩ = some (.pointer (some ⟨a1.PP,0,none⟩)) ∧ w'.cell? ⟨b,0,none⟩ = some (.int .i64 (x:Nat)) ∧ w'.cell? ⟨w1.heap.size,1,none⟩ = some (.int .i64 (m1.st:Nat)) ∧ Keep (fun k => k = b) w3 w') ?_
        refine HA.t ?_ [0,1,2,3,4,5,6,7,8,9,10,11,12,13,14] hS ?_
        refine HA.c 15 Hps.out ?_
        rintro e w7 ⟨IA,ic,rfl,hrd,hfr,k7⟩
        have g7:=sb G6'.out w7 k7
        have gB7:=sb GB.out w7 k7
        have q7:=K6.out.drew.trans (Keep.below (S:=fun k => k = b) k7)
        refine ⟨_,rfl,⟨cell_of_row w7 b 6 _ _ _ g7,cell_of_row w7 b 0 _ _ _ g7,cell_of_row w7 w1.heap.size 1 _ _ _ gB7,q7⟩,fun hS7 => ?_⟩
        refine HA.t ?_ [16,17] hS7 ?_
        obtain ⟨CL,hCL⟩:∃ CL,(curL i x (m1.st + 1)).length = CL:=⟨_,rfl⟩
        rw [hCL]
        have c15:=cell_of_row w7 b 15 _ _ _ g7
        have f15:=frozen_of_row w7 b 15 _ _ g7
        have g8:=ss (i:=15) (v:=.slice IA CL ic) g7 rfl
        have kk8:Keep (fun k => k = b) w7 (w7.setCell ⟨b,15,none⟩ (.slice IA CL ic)):=Keep.setCell (S:=fun k => k = b) (Keep.refl _ _) _ (.inr rfl) _
        have gB8:=(kk8.block _ (lt_of_block gB7) (fun e => nw (.inl (.inl e)))).trans gB7
        obtain ⟨w8,hw8⟩:∃ w8,w7.setCell ⟨b,15,none⟩ (.slice IA CL ic) = w8:=⟨_,rfl⟩
        have hS8:w8.cell? ⟨b,6,none⟩ = some (.pointer (some ⟨a1.PP,0,none⟩)) ∧ w8.cell? ⟨b,0,none⟩ = some (.int .i64 (x:Nat)) ∧ w8.cell? ⟨w1.heap.size,1,none⟩ = some (.int .i64 (m1.st:Nat)) ∧ Keep (fun k => k = b) w3 w8:=⟨by rw [← hw8];exact cell_of_row _ b 6 _ _ _ g8,by rw [← hw8];exact cell_of_row _ b 0 _ _ _ g8,by rw [← hw8];exact cell_of_row _ w1.heap.size 1 _ _ _ gB8,by rw [← hw8];exact q7.trans kk8⟩
        have c15':w7.cell? ⟨b,15,none⟩ = some (.slice a1.IA il a1.ic):=c15
        clear c15
        refine HA.s 18 w8 hS8 ?_
        rw [hw8] at g8 gB8 kk8
        clear hw8 c15' f15
        refine HA.t ?_ [19,20] hS8 ?_
        have c16':w8.cell? ⟨b,16,none⟩ = some (.int .i64 ((m1.nx:Int) + 1)):=cell_of_row w8 b 16 _ _ _ g8
        have f16:=frozen_of_row w8 b 16 _ _ g8
        have g9:=ss (i:=16) (v:=.int .i64 0) g8 rfl
        have kk9:Keep (fun k => k = b) w8 (w8.setCell ⟨b,16,none⟩ (.int .i64 0)):=Keep.setCell (S:=fun k => k = b) (Keep.refl _ _) _ (.inr rfl) _
        have gB9:=(kk9.block _ (lt_of_block gB8) (fun e => nw (.inl (.inl e)))).trans gB8
        obtain ⟨w9,hw9⟩:∃ w9,w8.setCell ⟨b,16,none⟩ (.int .i64 0) = w9:=⟨_,rfl⟩
        have hS9:w9.cell? ⟨b,6,none⟩ = some (.pointer (some ⟨a1.PP,0,none⟩)) ∧ w9.cell? ⟨b,0,none⟩ = some (.int .i64 (x:Nat)) ∧ w9.cell? ⟨w1.heap.size,1,none⟩ = some (.int .i64 (m1.st:Nat)) ∧ Keep (fun k => k = b) w3 w9:=⟨by rw [← hw9];exact cell_of_row _ b 6 _ _ _ g9,by rw [← hw9];exact cell_of_row _ b 0 _ _ _ g9,by rw [← hw9];exact cell_of_row _ w1.heap.size 1 _ _ _ gB9,by rw [← hw9];exact hS8.2.2.2.trans kk9⟩
        refine HA.s 21 w9 hS9 ?_
        refine HA.d ?_
        rw [hw9] at g9
        have K9:=hS9.2.2.2
        have hit:Rd (hideW (mutH H1 b a1) w9) IA (itVals (curL i x (m1.st + 1))):=by
          have h79:Keep (fun k => k = b) w7 w9:=by rw [← hw9];exact kk8.trans kk9
          have hne:∀ z,IA = some z → ¬ mutH H1 b a1 z.block:=fun z hz hm => by
            have hge:=hfr z hz
            have h36:=K6.out.size
            have h3:=Hk.out.size
            have h0:=B0.out.size
            have hw:w.heap.size ≤ z.block:=by rw [World.size_drew] at hge;omega
            rcases hm with hm | hm
            · have:=HM1.out.mlt _ hm
              rw [World.size_drew] at hge
              omega
            · exact Hnw1.out _ (by rw [World.size_drew] at hge;omega) hm
          exact rd_hide (h79.rd hrd (fun z hz e => hne z hz (.inl (.inl e)))) hne
        have hadv:adv i x m1 = { m1 with st:=m1.st + 1,nx:=0 }:=if_neg (by rw [Hil.out];omega)
        have e:((doneN i x { m1 with st:=m1.st + 1,nx:=0 }:Nat):Int) = (dn:Int) + 1:=by rw [doneN_step Hs.out (by rw [Hil.out];omega),Hdn.out];push_cast;rfl
        rw [← hCL,← e] at g9
        have ox:(0:Nat) < (curL i x (m1.st + 1)).length ∨ ((0:Nat) = 0 ∧ i.cfg.steps.toNat ≤ m1.st + 1):=by
          unfold curL
          by_cases hc:m1.st + 1 < i.cfg.steps.toNat
          · rw [if_pos hc];exact .inl (items_pos _ _ _)
          · exact .inr ⟨rfl,by omega⟩
        have hm:=HM1.out.upd Hn1.out K9 (m1.st + 1) 0 IA ic g9 hit ox
        have HF:=Lib.hid (⟨H1,{ a1 with IA:=IA,ic:=ic },m1,by rw [hadv];exact hm,Hn1.out,(fun k hk => Hnw1.out k (Nat.le_trans K9.size hk)),Hst.out,Hnx1.out,((Keep.below B0.out).trans Hk.out).trans (K9.mono fun k _ e => .inl (.inl e)),Hmu.out,HT.out H1 w3 w9 m1 Ht.out K9⟩:DidMX G b i x a m T w w9)
        clear hm hadv hit ox e g9 gB9 kk9 hw9 hS9 K9 hS8 hS7 hS g8 gB8 kk8 g7 gB7 q7 k7 hrd hfr c16' f16
        go_wp2_with fail
        go_ret
        exact .inl ⟨rfl,HF.out⟩
theorem mdo_any {H G:Nat → Prop} {w:World} {b x:Nat} {i:Inp} {a:MAd} {m:Mst} (h:MachAt H w b i x a m) (hn:∀ k,Mut b a k → ¬ H k) (hnew:∀ k,w.heap.size ≤ k → ¬ H k) (hGs:∀ k,G k → k < w.heap.size) (hs:SmIn i) {y:Itm} (hy:(curL i x m.st)[m.nx]? = some y) (u v:Option Addr)
    (f:Nat) (hf:∀ w',Sem.run Tryz.prog (Instr.index 149 (.agg #[.nilFunc,.func (.func 110) #[] #[],.func (.func 111) #[] #[],.func (.func 112) #[] #[],.func (.func 113) #[] #[],.func (.func 114) #[] #[],.func (.func 115) #[] #[]]) (.int .i64 (y.kind:Nat))) w' = .ok (.func (.func f) #[] #[]) w') (heg:∀ args w,(callFunc f args).run Tryz.prog w = .ok (.enter f args) w)
    (FP:Int → Prop) (T:World → Mst → Prop) (hT:∀ w1 w2 m1,T w1 m1 → Keep (fun k => k = b) w1 w2 → T w2 m1)
    (hd:∀ w',Below w.heap.size w w' → Calls Tryz.prog f #[.pointer (some ⟨b,0,none⟩),.agg (itCells y).toArray,.agg #[.pointer u,.pointer v]] w' fun e w'' => (e = .returned (.int .i64 0) ∧ Did H G b i x a m w.heap.size T w' w'') ∨ (∃ C:Int,C ≠ 0 ∧ FP C ∧ e = .returned (.int .i64 C) ∧ Below w'.heap.size w' w'')) :
    Calls Tryz.prog 17 #[.pointer (some ⟨b,0,none⟩),.pointer u,.pointer v] w fun e w' => (e = .returned (.int .i64 0) ∧ DidM H G b i x a m T w w') ∨ (∃ C:Int,C ≠ 0 ∧ FP C ∧ e = .returned (.int .i64 C) ∧ Below w.heap.size w w'):=by
  refine (mdo_anyX h hn hnew hGs hs hy u v f hf heg FP (fun H1 w m => H1 = H ∧ T w m) (fun H1 w1 w2 m1 ht k => ⟨ht.1,hT w1 w2 m1 ht.2 k⟩) (fun w' q => (hd w' q).mono ?_)).mono ?_
  · rintro e w'' (⟨he,a1,m1,h1,h2,h3,h4,h5,h6⟩ | h)
    · exact .inl ⟨he,H,a1,m1,h1,fun k hk => (h5 k hk).elim (hn k) (hnew k),fun k hk => hnew k (Nat.le_trans (Nat.le_trans q.size h4.size) hk),h2,h3,h4,h5,rfl,h6⟩
    · exact .inr h
  · rintro e w' (⟨he,H1,a1,m1,h1,-,-,h2,h3,h4,h5,rfl,h6⟩ | h)
    · exact .inl ⟨he,a1,m1,h1,h2,h3,h4,h5,h6⟩
    · exact .inr h
end Go.Proofs.YtaccfnffmbndhaaGreat
