/- The reference's Right, Few, Total and Steps. Whether an input is small enough (the reference's Few). The reference's Step: the items of one step. Whole structs, loaded and stored by rows: nothing is opened cell by cell. The reference's New of a wrong input. All items of a run, and which buckets are open after some of them. sakiaref03: Differ, Same. The reference's states: Same, Start. No condition. -/
import Derived.Test.YtaccfnffmbndhaaGreatB25
import Derived.Test.YtaccfnffmbndhaaGreatB29
import Derived.Test.YtaccfnffmbndhaaGreatB26
import Derived.Test.YtaccfnffmbndhaaGreatB23
import Derived.Deep.MidRow
import Derived.Test.YtaccfnffmbndhaaGreatProg
import Derived.Test.YtaccfnffmbndhaaGreatB01
import Derived.BigQuiet
import Derived.Deep.QuietTactic
import Derived.Test.YtaccfnffmbndhaaGreatB21
set_option linter.unusedSimpArgs false
set_option linter.unusedVariables false
namespace Go.Proofs.YtaccfnffmbndhaaGreat
open Go.RowKit
noncomputable def rightQ (k:Cfg) (n:Int):Bool:=decide (cfgCode k = 0) && (decide (1 ≤ n) && decide (n ≤ 1048576))
set_option maxRecDepth 100000 in
theorem rright20_any (A:Option Addr) (c:Nat) (k:Cfg) (n:Int) (w:World) (h:CfgRd w A c k) :
    Calls Tryz.prog 87 #[.agg #[.slice A k.sizes.length c,.int .i64 k.shift,.int .i64 k.rate,.int .i64 k.mom,.int .i64 k.workers,.int .i64 k.batch,.int .i64 k.micros,.int .i64 k.steps,.int .i64 k.bucket,.int .i64 k.chunk,.int .i64 k.window,.int .i64 k.cap,.int .i64 n]] w fun e w' => e = .returned (.bool (rightQ k n)) ∧ Below w.heap.size w w':=by
  obtain ⟨W0,hW0⟩:∃ W0,w.alloc (.cells #[.slice A k.sizes.length c,.int .i64 k.shift,.int .i64 k.rate,.int .i64 k.mom,.int .i64 k.workers,.int .i64 k.batch,.int .i64 k.micros,.int .i64 k.steps,.int .i64 k.bucket,.int .i64 k.chunk,.int .i64 k.window,.int .i64 k.cap,.int .i64 n] 79) = W0:=⟨_,rfl⟩
  have g0:W0.heap[w.heap.size]? = some (.cells #[.slice A k.sizes.length c,.int .i64 k.shift,.int .i64 k.rate,.int .i64 k.mom,.int .i64 k.workers,.int .i64 k.batch,.int .i64 k.micros,.int .i64 k.steps,.int .i64 k.bucket,.int .i64 k.chunk,.int .i64 k.window,.int .i64 k.cap,.int .i64 n] 79 (0,0)):=by rw [← hW0];exact heap_alloc_new w _
  have hB0:Below w.heap.size w W0:=by rw [← hW0];exact (br w).alloc (Nat.le_refl _) _
  have hc:=rcfg_any A c k W0 (h.below hB0)
  have t0:=fun w' q => bx13 (sb g0 w' q)
  have HW0:=Lib.hid hW0;have HB0:=Lib.hid hB0;have Hc:=Lib.hid hc
  have q0:=br W0
  clear hW0 g0 hB0 hc h
  unfold rightQ
  obtain ⟨code,hcode⟩:∃ code,cfgCode k = code:=⟨_,rfl⟩
  rw [hcode] at Hc ⊢
  clear hcode
  by_cases h1:code = 0
  · by_cases h2:1 ≤ n
    · by_cases h3:n ≤ 1048576
      · go_enter Tryz.func87,Tryz.ntmps87
        go_wp2_with fail
        rw [HW0.out]
        refine Hc.out.mono ?_
        rintro e w1 ⟨rfl,k1⟩
        have q1:=bt q0 k1
        have HB:=Lib.hid (HB0.out.trans (q1.mono HB0.out.size))
        clear k1
        go_wp2_with fail
        go_ret
        exact ⟨by simp [h1,h2,h3],HB.out⟩
      · go_enter Tryz.func87,Tryz.ntmps87
        go_wp2_with fail
        rw [HW0.out]
        refine Hc.out.mono ?_
        rintro e w1 ⟨rfl,k1⟩
        have q1:=bt q0 k1
        have HB:=Lib.hid (HB0.out.trans (q1.mono HB0.out.size))
        clear k1
        go_wp2_with fail
        go_ret
        exact ⟨by rw [show decide (n ≤ 1048576) = false from decide_eq_false (by omega)];simp,HB.out⟩
    · go_enter Tryz.func87,Tryz.ntmps87
      go_wp2_with fail
      rw [HW0.out]
      refine Hc.out.mono ?_
      rintro e w1 ⟨rfl,k1⟩
      have q1:=bt q0 k1
      have HB:=Lib.hid (HB0.out.trans (q1.mono HB0.out.size))
      clear k1
      go_wp2_with fail
      go_ret
      exact ⟨by rw [show decide (1 ≤ n) = false from decide_eq_false (by omega)];simp,HB.out⟩
  · go_enter Tryz.func87,Tryz.ntmps87
    go_wp2_with fail
    rw [HW0.out]
    refine Hc.out.mono ?_
    rintro e w1 ⟨rfl,k1⟩
    have q1:=bt q0 k1
    have HB:=Lib.hid (HB0.out.trans (q1.mono HB0.out.size))
    clear k1
    go_wp2_with fail
    go_ret
    exact ⟨by simp [h1],HB.out⟩
def SmallP (k:Cfg) (n:Int) (r:Bool):Prop:=r = true → n ≤ 60 ∧ k.workers ≤ 8 ∧ k.micros ≤ 20 ∧ k.steps ≤ 12
def FewP (q:Prop) (w:World) (e:Ending) (w':World):Prop:=(∃ b:Bool,e = .returned (.bool b) ∧ (b = true → q)) ∧ Below w.heap.size w w'
set_option maxRecDepth 100000 in
theorem rfew20_any (A:Option Addr) (c:Nat) (k:Cfg) (n:Int) (w:World) (h:CfgRd w A c k) :
    Calls Tryz.prog 41 #[.agg #[.slice A k.sizes.length c,.int .i64 k.shift,.int .i64 k.rate,.int .i64 k.mom,.int .i64 k.workers,.int .i64 k.batch,.int .i64 k.micros,.int .i64 k.steps,.int .i64 k.bucket,.int .i64 k.chunk,.int .i64 k.window,.int .i64 k.cap,.int .i64 n]] w (FewP (SmallP k n (rightQ k n)) w):=by
  obtain ⟨W0,hW0⟩:∃ W0,w.alloc (.cells #[.slice A k.sizes.length c,.int .i64 k.shift,.int .i64 k.rate,.int .i64 k.mom,.int .i64 k.workers,.int .i64 k.batch,.int .i64 k.micros,.int .i64 k.steps,.int .i64 k.bucket,.int .i64 k.chunk,.int .i64 k.window,.int .i64 k.cap,.int .i64 n] 79) = W0:=⟨_,rfl⟩
  have g0:W0.heap[w.heap.size]? = some (.cells #[.slice A k.sizes.length c,.int .i64 k.shift,.int .i64 k.rate,.int .i64 k.mom,.int .i64 k.workers,.int .i64 k.batch,.int .i64 k.micros,.int .i64 k.steps,.int .i64 k.bucket,.int .i64 k.chunk,.int .i64 k.window,.int .i64 k.cap,.int .i64 n] 79 (0,0)):=by rw [← hW0];exact heap_alloc_new w _
  have hB0:Below w.heap.size w W0:=by rw [← hW0];exact (br w).alloc (Nat.le_refl _) _
  have hc:=rright20_any A c k n W0 (h.below hB0)
  have t0:=fun w' q => bx13 (sb g0 w' q)
  have HW0:=Lib.hid hW0;have HB0:=Lib.hid hB0;have Hc:=Lib.hid hc
  have q0:=br W0
  clear hW0 g0 hB0 hc h
  obtain ⟨r,hr⟩:∃ r,rightQ k n = r:=⟨_,rfl⟩
  rw [hr] at Hc ⊢
  clear hr
  obtain ⟨L,hL⟩:∃ L,k.sizes.length = L:=⟨_,rfl⟩
  rw [hL] at HW0 Hc t0 ⊢
  clear hL
  by_cases hl:(L:Int) ≤ 40
  · have hl':¬ (40 < (L:Int)):=by omega
    cases r with
    | false =>
      go_enter Tryz.func41,Tryz.ntmps41
      go_wp2_with fail
      rw [HW0.out]
      refine Hc.out.mono ?_
      rintro e w1 ⟨rfl,k1⟩
      have q1:=bt q0 k1
      have HB:=Lib.hid (HB0.out.trans (q1.mono HB0.out.size))
      clear k1
      go_wp2_with fail
      go_ret
      exact ⟨⟨_,rfl,fun _ h => by cases h⟩,HB.out⟩
    | true =>
      have fin:∀ b:Bool,(b = true → n ≤ 60 ∧ k.workers ≤ 8 ∧ k.micros ≤ 20 ∧ k.steps ≤ 12) → b = true → SmallP k n true:=fun b hb hb' _ => hb hb'
      have Fin:=Lib.hid fin
      clear fin
      by_cases h1:n ≤ 60
      · by_cases h2:k.workers ≤ 8
        · by_cases h3:k.micros ≤ 20
          · go_enter Tryz.func41,Tryz.ntmps41
            go_wp2_with fail
            rw [HW0.out]
            refine Hc.out.mono ?_
            rintro e w1 ⟨rfl,k1⟩
            have q1:=bt q0 k1
            have HB:=Lib.hid (HB0.out.trans (q1.mono HB0.out.size))
            clear k1
            go_wp2_with fail
            go_ret
            exact ⟨⟨_,rfl,Fin.out _ (fun hb => ⟨h1,h2,h3,by simpa using hb⟩)⟩,HB.out⟩
          · go_enter Tryz.func41,Tryz.ntmps41
            go_wp2_with fail
            rw [HW0.out]
            refine Hc.out.mono ?_
            rintro e w1 ⟨rfl,k1⟩
            have q1:=bt q0 k1
            have HB:=Lib.hid (HB0.out.trans (q1.mono HB0.out.size))
            clear k1
            go_wp2_with fail
            go_ret
            exact ⟨⟨_,rfl,fun hb => by simp [h3] at hb⟩,HB.out⟩
        · go_enter Tryz.func41,Tryz.ntmps41
          go_wp2_with fail
          rw [HW0.out]
          refine Hc.out.mono ?_
          rintro e w1 ⟨rfl,k1⟩
          have q1:=bt q0 k1
          have HB:=Lib.hid (HB0.out.trans (q1.mono HB0.out.size))
          clear k1
          go_wp2_with fail
          go_ret
          exact ⟨⟨_,rfl,fun hb => by simp [h2] at hb⟩,HB.out⟩
      · go_enter Tryz.func41,Tryz.ntmps41
        go_wp2_with fail
        rw [HW0.out]
        refine Hc.out.mono ?_
        rintro e w1 ⟨rfl,k1⟩
        have q1:=bt q0 k1
        have HB:=Lib.hid (HB0.out.trans (q1.mono HB0.out.size))
        clear k1
        go_wp2_with fail
        go_ret
        exact ⟨⟨_,rfl,fun hb => by simp [h1] at hb⟩,HB.out⟩
  · have hl':40 < (L:Int):=by omega
    go_enter Tryz.func41,Tryz.ntmps41
    go_wp2_with fail
    rw [HW0.out]
    try go_wp2_with fail
    go_ret
    exact ⟨⟨_,rfl,fun hb => by simp at hb⟩,HB0.out⟩
theorem itemsL_le {p:Pln} (hp:PlnOk p) (x st:Nat):(itemsL p x st).length ≤ 8000000:=by
  have h1:=grpsL_le hp x st (Nat.le_refl p.grps.length)
  have h2:=hp.grps
  have:(itemsL p x st).length = (grpsL p x st p.grps.length).length + 1:=by simp [itemsL,grpsL];omega
  omega
end Go.Proofs.YtaccfnffmbndhaaGreat
namespace Go.Proofs.YtaccfnffmbndhaaGreat
open Go.RowKit
def FewM (i:Inp):Prop:=SmallI i ∧ (inCode i = 0 → SmallP i.cfg i.start.length (rightQ i.cfg i.start.length) ∧ i.cfg.steps ≤ 6 ∧ i.data.length ≤ 40)
theorem FewM.sm {i:Inp} (h:FewM i) (h0:inCode i = 0):SmIn i:=by
  have hg:=in_good.1 h0
  obtain ⟨hs,hr⟩:=h
  obtain ⟨h1,h2,h3⟩:=hr h0
  have hc:=cfg_good.2 hg.c
  have hp:=cnt_pos hg.c.z
  have he:=hg.s
  have hn:1 ≤ i.start.length:=by rw [he];exact hp
  have hm:=hs.2.1
  obtain ⟨k1,k2,k3,_⟩:=h1 (by simp only [rightQ,hc,Bool.and_eq_true,decide_eq_true_eq];exact ⟨trivial,by omega,by omega⟩)
  exact ⟨hg,by omega,k2,k3,h2,h3⟩
set_option maxRecDepth 100000 in
set_option maxHeartbeats 4000000 in
theorem rfew21_any (A:Option Addr) (c:Nat) (D:Option Addr) (cd:Nat) (T:Option Addr) (ct:Nat) (R:Option Addr) (cr:Nat) (i:Inp) (w:World) (h:InpRaw w A c D T ct R i) :
    Calls Tryz.prog 8 #[.agg (inpVals A c D cd T ct R cr i)] w (FewI (FewM i) w):=by
  obtain ⟨W0,hW0⟩:∃ W0,w.alloc (.cells (inpVals A c D cd T ct R cr i) 29) = W0:=⟨_,rfl⟩
  have g0:W0.heap[w.heap.size]? = some (.cells (inpVals A c D cd T ct R cr i) 29 (0,0)):=by rw [← hW0];exact heap_alloc_new w _
  have hB0:Below w.heap.size w W0:=by rw [← hW0];exact (br w).alloc (Nat.le_refl _) _
  have hf:=fewrun_any A c D cd T ct R cr i W0 (h.below hB0)
  have hin:=fun (hs:SmallI i) w' (q:Below W0.heap.size W0 w') => rinput_any A c D cd T ct R cr i w' (((h.rd hs).below hB0).below q)
  have hpl:=rplan21_any A i.cfg.sizes.length c i.cfg.shift i.cfg.rate i.cfg.mom i.cfg.workers i.cfg.batch i.cfg.micros i.cfg.steps i.cfg.bucket i.cfg.chunk i.cfg.window i.cfg.cap D i.data.length cd T i.start.length ct R i.draws.length cr
  have hfw:=fun w' (q:Below W0.heap.size W0 w') => rfew20_any A c i.cfg i.start.length w' ((h.c.below hB0).below q)
  unfold FewI FewM
  dsimp only [inpVals] at *
  have t0:=fun w' q => bx15 (sb g0 w' q)
  have HW0:=Lib.hid hW0;have HB0:=Lib.hid hB0;have Hf:=Lib.hid hf;have Hin:=Lib.hid hin;have Hpl:=Lib.hid hpl;have Hfw:=Lib.hid hfw
  have q0:=br W0
  clear hW0 g0 hB0 hf hin hpl hfw h
  go_enter Tryz.func8,Tryz.ntmps8
  go_wp2_with fail
  rw [HW0.out]
  refine Hf.out.mono ?_
  rintro e w1 ⟨⟨b,rfl,hb⟩,k1⟩
  have q1:=bt q0 k1
  have HB1:=Lib.hid (HB0.out.trans (k1.mono HB0.out.size))
  have Hb:=Lib.hid hb
  clear hb k1 q0
  cases b with
  | false =>
    go_wp2_with fail
    go_ret
    exact ⟨⟨false,rfl,fun h => by cases h⟩,HB1.out⟩
  | true =>
    go_wp2_with fail
    refine (Hin.out (Hb.out (by trivial)) w1 q1).mono ?_
    rintro e w2 ⟨rfl,k2⟩
    have q2:=bt q1 k2
    have HB2:=Lib.hid (HB1.out.trans (k2.mono HB1.out.size))
    clear k2 q1
    obtain ⟨C,hC⟩:∃ C,inCode i = C:=⟨_,rfl⟩
    rw [hC]
    have HC:=Lib.hid hC
    clear hC
    by_cases h0:C = 0
    · subst h0
      go_wp2_with fail
      refine (Hpl.out w2).mono ?_
      rintro e w3 ⟨rfl,k3⟩
      have q3:=bt q2 k3
      have HB3:=Lib.hid (HB2.out.trans (k3.mono HB2.out.size))
      clear k3 q2
      go_wp2_with fail
      refine (Hfw.out w3 q3).mono ?_
      rintro e w4 ⟨⟨b2,rfl,hb2⟩,k4⟩
      have q4:=bt q3 k4
      have HB4:=Lib.hid (HB3.out.trans (k4.mono HB3.out.size))
      have Hb2:=Lib.hid hb2
      clear hb2 k4 q3
      cases b2 with
      | false =>
        go_wp2_with fail
        go_ret
        exact ⟨⟨false,rfl,fun h => by cases h⟩,HB4.out⟩
      | true =>
        by_cases h6:i.cfg.steps ≤ 6
        · go_wp2_with fail
          go_ret
          exact ⟨⟨_,rfl,fun h => ⟨Hb.out (by trivial),fun _ => ⟨Hb2.out (by trivial),h6,by simp at h;omega⟩⟩⟩,HB4.out⟩
        · go_wp2_with fail
          go_ret
          exact ⟨.inl rfl,HB4.out⟩
    · go_wp2_with fail
      go_ret
      exact ⟨⟨true,rfl,fun _ => ⟨Hb.out (by trivial),fun h => absurd (HC.out.symm.trans h) h0⟩⟩,HB2.out⟩
end Go.Proofs.YtaccfnffmbndhaaGreat
namespace Go.Proofs.YtaccfnffmbndhaaGreat
open Go.RowKit
set_option maxRecDepth 100000 in
set_option maxHeartbeats 2000000 in
theorem rstep_any (p:Pln) (st stp x:Nat) (A:Option Addr) (n0 c:Nat) (z1 z2 z3 z5 z11:Int) (w:World) (hp:PlnOk p) (hbu:p.bu ≤ 1048576) (hwi:p.wi ≤ 1048576) (hx:x < p.W) (hst:st < stp) :
    Calls Tryz.prog 53 #[.agg #[.slice A n0 c,.int .i64 z1,.int .i64 z2,.int .i64 z3,.int .i64 (p.W:Nat),.int .i64 z5,.int .i64 (p.mi:Nat),.int .i64 (stp:Nat),.int .i64 (p.bu:Nat),.int .i64 (p.ck:Nat),.int .i64 (p.wi:Nat),.int .i64 z11,.int .i64 (p.n:Nat)],.int .i64 (x:Nat),.int .i64 (st:Nat)] w fun e w' => ∃ v,e = .returned v ∧ w'.ownsRow w.heap.size 136 12 v (itemsL p x st).length (itVals (itemsL p x st)) ∧ Below w.heap.size w w':=by
  obtain ⟨W0,hW0⟩:∃ W0,w.alloc (.cells #[.slice A n0 c,.int .i64 z1,.int .i64 z2,.int .i64 z3,.int .i64 (p.W:Nat),.int .i64 z5,.int .i64 (p.mi:Nat),.int .i64 (stp:Nat),.int .i64 (p.bu:Nat),.int .i64 (p.ck:Nat),.int .i64 (p.wi:Nat),.int .i64 z11,.int .i64 (p.n:Nat)] 79) = W0:=⟨_,rfl⟩
  have g0:W0.heap[w.heap.size]? = some (.cells #[.slice A n0 c,.int .i64 z1,.int .i64 z2,.int .i64 z3,.int .i64 (p.W:Nat),.int .i64 z5,.int .i64 (p.mi:Nat),.int .i64 (stp:Nat),.int .i64 (p.bu:Nat),.int .i64 (p.ck:Nat),.int .i64 (p.wi:Nat),.int .i64 z11,.int .i64 (p.n:Nat)] 79 (0,0)):=by rw [← hW0];exact heap_alloc_new w _
  have hB0:Below w.heap.size w W0:=by rw [← hW0];exact (br w).alloc (Nat.le_refl _) _
  have hc:=ritems_any p st x (.slice A n0 c) (.int .i64 z1) (.int .i64 z2) (.int .i64 z3) (.int .i64 z5) (.int .i64 (stp:Nat)) (.int .i64 z11) W0 hp hbu hwi hx
  have h1:¬ ((st:Int) < 0):=by omega
  have h2:¬ ((stp:Int) ≤ st):=by omega
  have t0:=fun w' q => bx13 (sb g0 w' q)
  have HW0:=Lib.hid hW0;have HB0:=Lib.hid hB0;have Hc:=Lib.hid hc
  have q0:=br W0
  clear hW0 g0 hB0 hc
  go_enter Tryz.func53,Tryz.ntmps53
  go_wp2_with fail
  rw [HW0.out]
  refine Hc.out.mono ?_
  rintro e w1 ⟨v,rfl,ho,k1⟩
  have fin:=own_base ho HB0.out.size
  have HB:=HB0.out.trans (k1.mono HB0.out.size)
  have Fin:=Lib.hid fin;have HB1:=Lib.hid HB
  clear fin HB ho k1
  go_wp2_with fail
  go_ret
  exact ⟨v,rfl,Fin.out,HB1.out⟩
end Go.Proofs.YtaccfnffmbndhaaGreat
namespace Go.Proofs.YtaccfnffmbndhaaGreat
open Go.RowKit
section
variable {P:Program}
structure RowTy (P:Program) (t:TypeId) (n:Nat):Prop where
  d:∃ d,P.underlying t = some d ∧ d.isRow = true
  s:(P.info? t).map (·.size) = some n
theorem range_block {w:World} {b:Nat} {xs:Array Value} {t:TypeId} {fr:Nat × Nat} (h:w.heap[b]? = some (.cells xs t fr)) (o:Nat) {cs:List Value} (hcs:(xs.toList.drop o).take cs.length = cs):w.rangeAt b o cs:=fun j v hv => by
  rw [cell_of_row w b (o + j) xs t fr h]
  rw [← hcs,List.getElem?_take] at hv
  split at hv
  · rw [List.getElem?_drop] at hv;simpa using hv
  · cases hv
theorem setRow_keep (w:World) (g:Nat) (cs:Array Value):Keep (fun j => j = g) w (w.setRow g cs):=by
  refine ⟨rfl,rfl,rfl,by simp [World.setRow],fun k hk hs => ?_⟩
  simp only [World.setRow,Array.getElem?_modify]
  rw [if_neg (fun e => hs e.symm)]
theorem wpl_load {ops:Array Oper} {rest:List Oper} {op:Oper} {a:Act} {w:World} {Q:Exit → Act → World → Prop} {ty:TypeId} {x:Operand} {b o:Nat} {xs:Array Value} {t:TypeId} {fr:Nat × Nat} (cs:Array Value)
    (hb:w.heap[b]? = some (.cells xs t fr)) (hr:RowTy P ty cs.size) (hgd:op.guard = none) (ho:op.op = .load ty x) (hx:a.eval x = .pointer (some ⟨b,o,none⟩)) (hcs:(xs.toList.drop o).take cs.toList.length = cs.toList)
    (h:wpList P ops Q rest (a.put op.dst (.agg cs)) w):wpList P ops Q (op :: rest) a w:=by
  obtain ⟨⟨d,h1,h2⟩,h3⟩:=hr
  exact wpList_load_mid hgd ty x ho b o hx cs.toList d (range_block hb o hcs) h1 h2 (by simpa using h3) (by simpa using h)
theorem wpl_rng {ops:Array Oper} {rest:List Oper} {op:Oper} {a:Act} {w:World} {Q:Exit → Act → World → Prop} {ty:TypeId} {x:Operand} {b o:Nat} {cs:List Value}
    (hb:w.rangeAt b o cs) (hr:RowTy P ty cs.length) (hgd:op.guard = none) (ho:op.op = .load ty x) (hx:a.eval x = .pointer (some ⟨b,o,none⟩))
    (h:wpList P ops Q rest (a.put op.dst (.agg cs.toArray)) w):wpList P ops Q (op :: rest) a w:=by
  obtain ⟨⟨d,h1,h2⟩,h3⟩:=hr
  exact wpList_load_mid hgd ty x ho b o hx cs d hb h1 h2 h3 h
theorem wpl_store {ops:Array Oper} {rest:List Oper} {op:Oper} {a:Act} {w:World} {Q:Exit → Act → World → Prop} {ty:TypeId} {x y:Operand} {b n:Nat} {xs ys:Array Value} {t:TypeId}
    (hb:w.heap[b]? = some (.cells xs t (0,0))) (hr:RowTy P ty n) (hgd:op.guard = none) (ho:op.op = .store ty x y) (hx:a.eval x = .pointer (some ⟨b,0,none⟩)) (hy:a.eval y = .agg ys)
    (hn:ys.size = n) (hs:xs.size = ys.size) (h1:ys.toList.all (·.oneCell') = true)
    (h:∀ w',w'.heap[b]? = some (.cells ys t (0,0)) → Keep (fun j => j = b) w w' → wpList P ops Q rest (a.put op.dst undef) w'):wpList P ops Q (op :: rest) a w:=by
  refine wpList_plain hgd fun K hK => ?_
  unfold Oper.wp execOp
  simp only [ho,hx,hy,Instr.storeAt,Instr.sureAddr,Sem.run_bind,Sem.run_pure,Result.andThen_ok,run_storeVar_row w b t ty xs ys hb (by rw [hn];exact hr.s) hs (by rw [← Array.all_toList];exact h1)]
  exact hK _ _ (h _ (setRow_heap w b xs ys t (0,0) hb) (setRow_keep w b ys))
theorem res_cell {f:Func} {x:Tmp} {ty:TypeId} (h:f.results = #[.cell x ty]) {tmps:Array Value} {w:World} {b:Nat} {xs:Array Value} {t:TypeId} {fr:Nat × Nat} (hx:tmps.getD x undef = .pointer (some ⟨b,0,none⟩))
    (hb:w.heap[b]? = some (.cells xs t fr)) (hr:RowTy P ty xs.size):(results f tmps).run P w = .ok (.agg xs) w:=by
  obtain ⟨⟨d,h1,h2⟩,h3⟩:=hr
  have:=run_loadVar_mid (P:=P) w b 0 ty xs.toList d (range_block hb 0 (by rw [List.drop_zero,List.take_length])) h1 h2 (by simpa using h3)
  rw [Array.toArray_toList] at this
  have hx':tmps[x]?.getD undef = .pointer (some ⟨b,0,none⟩):=by simpa using hx
  simp [results,h,hx',asAddr,this]
theorem res_cell_tmp {f:Func} {x y:Tmp} {ty:TypeId} (h:f.results = #[.cell x ty,.tmp y]) {tmps:Array Value} {w:World} {b:Nat} {xs:Array Value} {t:TypeId} {fr:Nat × Nat} (hx:tmps.getD x undef = .pointer (some ⟨b,0,none⟩))
    (hb:w.heap[b]? = some (.cells xs t fr)) (hr:RowTy P ty xs.size):(results f tmps).run P w = .ok (.tuple #[.agg xs,tmps.getD y undef]) w:=by
  obtain ⟨⟨d,h1,h2⟩,h3⟩:=hr
  have:=run_loadVar_mid (P:=P) w b 0 ty xs.toList d (range_block hb 0 (by rw [List.drop_zero,List.take_length])) h1 h2 (by simpa using h3)
  rw [Array.toArray_toList] at this
  have hx':tmps[x]?.getD undef = .pointer (some ⟨b,0,none⟩):=by simpa using hx
  simp [results,h,hx',asAddr,this]
end
section
variable {P:Program} {ops:Array Oper} {Q:Exit → Act → World → Prop} {S:World → Prop} {n:Nat}
theorem yields_ld {S:World → Prop} {a:Act} {o:Oper} {ty:TypeId} {x:Operand} {b off:Nat} {xs:Array Value} {t:TypeId} {fr:Nat × Nat} (cs:Array Value) (hb:∀ w',S w' → w'.heap[b]? = some (.cells xs t fr)) (hr:RowTy P ty cs.size)
    (hop:o.op = .load ty x) (hx:a.eval x = .pointer (some ⟨b,off,none⟩)) (hcs:(xs.toList.drop off).take cs.toList.length = cs.toList) (hg:Region.wanted o (yielded ops a.tmps) = true):YieldsIf P ops S o (.agg cs) a:=by
  obtain ⟨⟨d,h1,h2⟩,h3⟩:=hr
  have:=yieldsIf_load_mid (P:=P) (ops:=ops) (S:=S) (op:=o) (a:=a) hg ty x hop b off hx cs.toList d (fun w' q => range_block (hb w' q) off hcs) h1 h2 (by simpa using h3)
  simpa using this
theorem HA.ld {L:List Nat} {a:Act} {w:World} (i:Nat) (cs:Array Value) {o:Oper} {ty:TypeId} {x:Operand} {b off:Nat} {xs:Array Value} {t:TypeId} {fr:Nat × Nat} (hb:∀ w',S w' → w'.heap[b]? = some (.cells xs t fr)) (hr:RowTy P ty cs.size) (hS:S w)
    (k:HA P ops Q S (i :: L) (a.put o.dst (.agg cs)) w)
    (ho:ops[i]? = some o:=by (simp only [List.getElem?_toArray,List.getElem?_cons_succ,List.getElem?_cons_zero];rfl)) (hop:o.op = .load ty x:=by rfl) (hx:a.eval x = .pointer (some ⟨b,off,none⟩):=by rfl) (hcs:(xs.toList.drop off).take cs.toList.length = cs.toList:=by rfl) (hg:Region.wanted o (yielded ops a.tmps) = true:=by rfl)
    (hs:Region.noSelect ops = true:=by decide +kernel) (hQ:∀ c a w d v,Q (.panic c) (Act.put a d v) w → Q (.panic c) a w:=by (intro _ _ _ d _ h;cases d <;> exact h)) (hc:takesB ops L [i] = true:=by decide +kernel):HA P ops Q S L a w:=
  HA.takes hs hQ hS [i] hc (Ys.cons ho (yields_ld cs hb hr hop hx hcs hg) Ys.nil) (by simpa using k)
theorem XA.ld {L:List Nat} {a:Act} {w:World} (i:Nat) (cs:Array Value) {o:Oper} {ty:TypeId} {x:Operand} {b off:Nat} {xs:Array Value} {t:TypeId} {fr:Nat × Nat} (hb:∀ w',S w' → w'.heap[b]? = some (.cells xs t fr)) (hr:RowTy P ty cs.size) (hS:S w)
    (k:XA P ops Q S n (i :: L) (a.put o.dst (.agg cs)) w)
    (ho:ops[i]? = some o:=by (simp only [List.getElem?_toArray,List.getElem?_cons_succ,List.getElem?_cons_zero];rfl)) (hop:o.op = .load ty x:=by rfl) (hx:a.eval x = .pointer (some ⟨b,off,none⟩):=by rfl) (hcs:(xs.toList.drop off).take cs.toList.length = cs.toList:=by rfl) (hg:Region.wanted o (yielded ops a.tmps) = true:=by rfl)
    (hs:Region.noSelect ops = true:=by decide +kernel) (hQ:∀ c a w d v,Q (.panic c) (Act.put a d v) w → Q (.panic c) a w:=by (intro _ _ _ d _ h;cases d <;> exact h)) (hc:takesX ops n L [i] = true:=by decide +kernel):XA P ops Q S n L a w:=
  XA.takes hs hQ hS [i] hc (Ys.cons ho (yields_ld cs hb hr hop hx hcs hg) Ys.nil) (by simpa using k)
theorem HA.st {L:List Nat} {a:Act} {w:World} (i:Nat) {o:Oper} {ty:TypeId} {x y:Operand} {b m:Nat} {xs ys:Array Value} {t:TypeId} (hb:w.heap[b]? = some (.cells xs t (0,0))) (hr:RowTy P ty m)
    (k:∀ w',w'.heap[b]? = some (.cells ys t (0,0)) → Keep (fun j => j = b) w w' → S w' ∧ HA P ops Q S (i :: L) (a.put o.dst undef) w')
    (ho:ops[i]? = some o:=by (simp only [List.getElem?_toArray,List.getElem?_cons_succ,List.getElem?_cons_zero];rfl)) (hop:o.op = .store ty x y:=by rfl) (hx:a.eval x = .pointer (some ⟨b,0,none⟩):=by rfl) (hy:a.eval y = .agg ys:=by rfl)
    (hn:ys.size = m:=by rfl) (hs:xs.size = ys.size:=by rfl) (h1:ys.toList.all (·.oneCell') = true:=by rfl) (hrd:readyF ops L = [i]:=by decide +kernel) (hw:Region.wanted o (yielded ops a.tmps) = true:=by rfl):HA P ops Q S L a w:=by
  obtain ⟨hS,k⟩:=k _ (setRow_heap w b xs ys t (0,0) hb) (setRow_keep w b ys)
  refine HA.s i _ hS k ho hrd hw ?_
  unfold execOp
  simp only [hop,hx,hy,Instr.storeAt,Instr.sureAddr,Sem.run_bind,Sem.run_pure,Result.andThen_ok,run_storeVar_row w b t ty xs ys hb (by rw [hn];exact hr.s) hs (by rw [← Array.all_toList];exact h1)]
end
end Go.Proofs.YtaccfnffmbndhaaGreat
namespace Go.Proofs.YtaccfnffmbndhaaGreat
open Go.RowKit
theorem rt_inp:RowTy Tryz.prog 29 15:=⟨⟨_,Tryz.underlying29,rfl⟩,by kernel_rfl⟩
theorem rt_rm:RowTy Tryz.prog 43 22:=⟨⟨_,Tryz.underlying43,rfl⟩,by kernel_rfl⟩
theorem rm_boxes (w:World) (X Z:Array Value) (t u:TypeId):∃ W0 W1,w.alloc (.cells X t) = W0 ∧ W0.alloc (.cells Z u) = W1 ∧ W1.heap[w.heap.size]? = some (.cells X t (0,0)) ∧ W1.heap[w.heap.size + 1]? = some (.cells Z u (0,0)) ∧ Below w.heap.size w W1 ∧ W1.heap.size = w.heap.size + 1 + 1:=by
  refine ⟨_,_,rfl,rfl,?_,?_,?_,?_⟩
  · exact sb (heap_alloc_new w _) _ ((br _).alloc (Nat.le_refl _) _)
  · have:=heap_alloc_new (w.alloc (.cells X t)) (.cells Z u)
    rwa [show (w.alloc (.cells X t)).heap.size = w.heap.size + 1 from Array.size_push _] at this
  · exact ((br w).alloc (Nat.le_refl _) _).alloc (by simp) _
  · simp
end Go.Proofs.YtaccfnffmbndhaaGreat
namespace Go.Proofs.YtaccfnffmbndhaaGreat
open Go.RowKit
def allN (i:Inp) (x k:Nat):List Itm:=(List.range k).flatMap fun t => itemsL (plnI i) x t
abbrev allL (i:Inp) (x:Nat):List Itm:=allN i x i.cfg.steps.toNat
theorem allN_succ (i:Inp) (x k:Nat):allN i x (k + 1) = allN i x k ++ itemsL (plnI i) x k:=by simp [allN,List.range_succ]
theorem allN_len {i:Inp} (hp:PlnOk (plnI i)) (x k:Nat):(allN i x k).length = k * (itemsL (plnI i) x 0).length:=by
  induction k with
  | zero => simp [allN]
  | succ k ih => rw [allN_succ,List.length_append,ih,items_lenS hp x k,Nat.succ_mul]
theorem allN_at {i:Inp} (hp:PlnOk (plnI i)) {x st nx:Nat} {y:Itm} (hy:(itemsL (plnI i) x st)[nx]? = some y):∀ {k:Nat},st < k → (allN i x k)[st * (itemsL (plnI i) x 0).length + nx]? = some y
  | 0,h => absurd h (Nat.not_lt_zero _)
  | k + 1,h => by
    have hl:=allN_len hp x k
    have hn:=(List.getElem?_eq_some_iff.1 hy).1
    rw [items_lenS hp] at hn
    rw [allN_succ]
    rcases Nat.lt_or_ge st k with h' | h'
    · have h1:=Nat.mul_le_mul_right (itemsL (plnI i) x 0).length (Nat.succ_le_of_lt h')
      rw [Nat.succ_mul] at h1
      rw [List.getElem?_append_left (by omega)]
      exact allN_at hp hy h'
    · obtain rfl:st = k:=by omega
      rw [List.getElem?_append_right (by omega),hl,Nat.add_sub_cancel_left]
      exact hy
end Go.Proofs.YtaccfnffmbndhaaGreat
namespace Go.Proofs.YtaccfnffmbndhaaGreat
open Go.RowKit
def DifferIs (l1 l2:List Int) (e:Ending):Prop:=∃ d:Int,e = .returned (.int .i64 d) ∧ -1 ≤ d ∧ (d < 0 ↔ l1 = l2)
theorem differ_any (A1 A2:Option Addr) (l1 l2:List Int) (c1 c2:Nat) (w:World) (h1:Rd w A1 (nums .i64 l1)) (h2:Rd w A2 (nums .i64 l2)) (hl1:l1.length ≤ 17592186043904) (hl2:l2.length ≤ 17592186043904) :
    Calls Tryz.prog 76 #[.slice A1 l1.length c1,.slice A2 l2.length c2] w fun e w' => DifferIs l1 l2 e ∧ ∃ n,w' = w.drewN n:=by
  go_enter Tryz.func76,Tryz.ntmps76
  go_wp2
  go_loopw [5] (fun i wr => ∃ k:Nat,k ≤ l1.length ∧ k ≤ l2.length ∧ i = .int .i64 k ∧ l1.take k = l2.take k ∧ ∃ n,wr = w.drewN n) (fun i _ => l1.length + l2.length + 1 - (intOf i).toNat)
  case atStart => exact ⟨0,Nat.zero_le _,Nat.zero_le _,rfl,rfl,0,rfl⟩
  case round =>
    obtain ⟨k,hk1,hk2,rfl,hpre,n,rfl⟩:=hrel
    have Hpre:=Lib.hid hpre;clear hpre
    by_cases hlt1:k < l1.length
    · by_cases hlt2:k < l2.length
      · obtain ⟨b1,o1,rfl,hc1⟩:=h1.num hlt1
        obtain ⟨b2,o2,rfl,hc2⟩:=h2.num hlt2
        have g1:decide ((l1.length:Int) ≤ (k:Int)) = false:=by simp;omega
        have g2:decide ((l2.length:Int) ≤ (k:Int)) = false:=by simp;omega
        go_wp2
        go_quiet (fail)
        go_wp2
        · have hx:(l1.length ≤ k ∨ l2.length ≤ k) ∨ (nth l1 k != nth l2 k) = true:=by assumption
          have hx:(nth l1 k != nth l2 k) = true:=hx.resolve_left (by omega)
          have Hx:=Lib.hid hx;clear hx
          go_ret
          refine ⟨⟨k,rfl,by omega,fun h => by omega,fun h => ?_⟩,_,World.drewN_drewN _ _ _⟩
          subst h
          have:=Hx.out
          simp at this
        · have hx:(¬l1.length ≤ k ∧ ¬l2.length ≤ k) ∧ (nth l1 k != nth l2 k) = false:=by assumption
          have hx:=hx.2
          have Hx:=Lib.hid hx;clear hx
          go_roundw
          case rel => exact ⟨k + 1,by omega,by omega,by go_num,take_eq_succ hlt1 hlt2 Hpre.out (by have:=Hx.out;simpa using this),_,rfl⟩
          case measure => simp [intOf];omega
      · have g1:decide ((l1.length:Int) ≤ (k:Int)) = false:=by simp;omega
        have g2:decide ((l2.length:Int) ≤ (k:Int)) = true:=by simp;omega
        go_wp2
        go_quiet (fail)
        go_wp2
        go_ret
        refine ⟨⟨k,rfl,by omega,fun h => by omega,fun h => ?_⟩,_,by first | rfl | exact World.drewN_drewN _ _ _⟩
        subst h;omega
    · by_cases hlt2:k < l2.length
      · obtain rfl:k = l1.length:=by omega
        go_wp2
        go_quiet (fail)
        go_wp2
        go_ret
        refine ⟨⟨l1.length,rfl,by omega,fun h => by omega,fun h => ?_⟩,_,by first | rfl | exact World.drewN_drewN _ _ _⟩
        subst h;omega
      · go_wp2
        go_ret
        refine ⟨⟨-1,rfl,by omega,fun _ => ?_,fun _ => by omega⟩,n,rfl⟩
        have e1:k = l1.length:=by omega
        exact eq_of_take (by omega) (by rw [← e1];exact Hpre.out)
theorem same_any (A1 A2:Option Addr) (l1 l2:List Int) (c1 c2:Nat) (w:World) (h1:Rd w A1 (nums .i64 l1)) (h2:Rd w A2 (nums .i64 l2)) (hl1:l1.length ≤ 17592186043904) (hl2:l2.length ≤ 17592186043904) :
    Calls Tryz.prog 25 #[.slice A1 l1.length c1,.slice A2 l2.length c2] w fun e w' => e = .returned (.bool (decide (l1 = l2))) ∧ ∃ n,w' = w.drewN n:=by
  have hd:=differ_any A1 A2 l1 l2 c1 c2 w h1 h2 hl1 hl2
  have Hd:=Lib.hid hd;clear hd
  go_enter Tryz.func25,Tryz.ntmps25
  go_wp2_with fail
  refine Hd.out.mono ?_
  rintro e w1 ⟨⟨d,rfl,hd0,hd1⟩,n,rfl⟩
  by_cases hd:d < 0
  · have h:=hd1.1 hd
    have H:=Lib.hid h;clear h hd1
    go_wp2
    go_ret
    exact ⟨ret_bool (by rw [decide_eq_true H.out];first | done | simpa using hd),n,rfl⟩
  · have h:¬ l1 = l2:=fun e => hd (hd1.2 e)
    have H:=Lib.hid h;clear h hd1
    go_wp2
    go_ret
    exact ⟨ret_bool (by rw [decide_eq_false H.out];first | done | simpa using hd),n,rfl⟩
end Go.Proofs.YtaccfnffmbndhaaGreat
namespace Go.Proofs.YtaccfnffmbndhaaGreat
open Go.RowKit
theorem et_ri64s:ElemT Tryz.prog 26 2 (.int .i64 0) 1 8:=⟨Tryz.underlying26,info_parts (by kernel_rfl),rfl,by decide⟩
set_option maxRecDepth 100000 in
theorem rstart_any (A:Option Addr) (n c:Nat) (w:World) (hn:n ≤ 1048576) :
    Calls Tryz.prog 52 #[.slice A n c] w fun e w' => ∃ A2,e = .returned (.agg #[.slice A n c,.slice A2 n n]) ∧ w'.ownsRow w.heap.size 2 1 (.slice A2 n n) n (nums .i64 (List.replicate n 0)) ∧ Below w.heap.size w w':=by
  have hmk:=fun w' => run_mk et_ri64s w' rfl n (by omega) (by unfold maxLen;omega)
  simp only [nums_rep] at hmk
  have Hmk:=Lib.hid hmk
  clear hmk
  have hz:=heap_alloc_new w (.cells #[.slice none 0 0,.slice none 0 0] 39)
  have hB0:Below w.heap.size w (w.alloc (.cells #[.slice none 0 0,.slice none 0 0] 39)):=(Below.refl _ w).alloc (Nat.le_refl _) _
  have hl0:=lt_of_block hz
  obtain ⟨V,hrun,ho2,hb2⟩:=Hmk.out (w.alloc (.cells #[.slice none 0 0,.slice none 0 0] 39))
  rw [show (w.alloc (.cells #[.slice none 0 0,.slice none 0 0] 39)).heap.size = w.heap.size + 1 by simp] at hrun ho2
  have HZ2:=Lib.hid ((hb2.block w.heap.size hl0).trans hz)
  have HO2:=Lib.hid (own_base (base':=w.heap.size) ho2 (by omega));have HB2:=Lib.hid (hB0.trans (hb2.mono (by omega)))
  have hz2:=HZ2.out
  obtain ⟨⟨z0,z1⟩,zf⟩:=bx2 hz2
  have hl2:=lt_of_block hz2
  clear hz hB0 ho2 hb2 hz2 hl0
  go_enter Tryz.func52,Tryz.ntmps52
  go_wp2_with fail
  have e1:=heap_setCell_same V w.heap.size 0 _ _ (.slice A n c) HZ2.out
  have e2:=heap_setCell_same _ w.heap.size 1 _ _ (.slice (some ⟨w.heap.size + 1,0,none⟩) n n) e1
  have e3:((V.setCell ⟨w.heap.size,0,none⟩ (.slice A n c)).setCell ⟨w.heap.size,1,none⟩ (.slice (some ⟨w.heap.size + 1,0,none⟩) n n)).heap[w.heap.size]? = some (.cells #[.slice A n c,.slice (some ⟨w.heap.size + 1,0,none⟩) n n] 39 (0,0)):=by simpa using e2
  have hk:Keep (fun j => j = w.heap.size) V ((V.setCell ⟨w.heap.size,0,none⟩ (.slice A n c)).setCell ⟨w.heap.size,1,none⟩ (.slice (some ⟨w.heap.size + 1,0,none⟩) n n)):=Keep.setCell (S:=fun j => j = w.heap.size) (Keep.setCell (S:=fun j => j = w.heap.size) (Keep.refl _ _) _ (.inr rfl) _) _ (.inr rfl) _
  obtain ⟨W9,hW9⟩:∃ W9,W9 = (V.setCell ⟨w.heap.size,0,none⟩ (.slice A n c)).setCell ⟨w.heap.size,1,none⟩ (.slice (some ⟨w.heap.size + 1,0,none⟩) n n):=⟨_,rfl⟩
  rw [← hW9] at e3 hk ⊢
  obtain ⟨⟨r0,r1⟩,rf⟩:=bx2 e3
  have hm9:=hk.own HO2.out (fun j hj e => block_notrow HZ2.out (by decide) HO2.out (by rw [hj,e]))
  exact bodyPost_ret (v:=.agg #[.slice A n c,.slice (some ⟨w.heap.size + 1,0,none⟩) n n]) (by simp [results,Tryz.results52,go_sem,r0,r1]) rfl ⟨_,rfl,hm9,HB2.out.trans (hk.toBelow HB2.out.size (fun j hj => by omega))⟩
end Go.Proofs.YtaccfnffmbndhaaGreat
