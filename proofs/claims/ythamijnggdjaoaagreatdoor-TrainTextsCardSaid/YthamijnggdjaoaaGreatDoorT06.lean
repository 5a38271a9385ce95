/- Steps of the parameters, in plain lists. The walks of package sgd: update. The walks of package sgd: Clone, Start, Next. The walks of Sampler's Steps, Epoch, view, Batch. Picked examples lie in rows of the call's own. What a run reckons, in plain words: sums of gradients, the trajectory; states in a row. The reference's Gradient of a run. The reference's draw. The reference's check of a configuration. The reference's Epochs and Need. No condition. -/
import Derived.Test.YthamijnggdjaoaaGreatDoorT05
import Derived.Test.YthamijnggdjaoaaGreatDoorT01
import Derived.Deep.RegionHeld3
import Derived.Test.YthamijnggdjaoaaGreatDoorT03
import Derived.Test.YthamijnggdjaoaaGreatDoorT04
import Derived.Test.YthamijnggdjaoaaGreatDoorT02
set_option linter.unusedSimpArgs false
set_option linter.unusedVariables false
namespace Go.Proofs.YthamijnggdjaoaaGreatDoor
open Go.RowKit
theorem sumW_two (a b:Int):sumW [a,b] = wrap64 (a + b):=by
  show wrap64 (wrap64 (0 + a) + b) = wrap64 (a + b)
  unfold wrap64
  omega
def stepM (mo q m g:Int):Int:=wrap64 (mulQ mo m q + g)
def stepP (ra q p m:Int):Int:=wrap64 (p - mulQ ra m q)
def apM (mo q:Int) (ms g:List Int) (lo k:Nat):List Int:=upTo ms.length fun j => if lo ≤ j ∧ j < lo + k then stepM mo q (nth ms j) (nth g (j - lo)) else nth ms j
def apP (ra mo q:Int) (ps ms g:List Int) (lo k:Nat):List Int:=upTo ps.length fun j => if lo ≤ j ∧ j < lo + k then stepP ra q (nth ps j) (stepM mo q (nth ms j) (nth g (j - lo))) else nth ps j
theorem apM_zero (mo q:Int) (ms g:List Int) (lo:Nat):apM mo q ms g lo 0 = ms:=(eq_upTo rfl fun k _ => by rw [if_neg (by omega)]).symm
theorem apP_zero (ra mo q:Int) (ps ms g:List Int) (lo:Nat):apP ra mo q ps ms g lo 0 = ps:=(eq_upTo rfl fun k _ => by rw [if_neg (by omega)]).symm
theorem apM_len (mo q:Int) (ms g:List Int) (lo k:Nat):(apM mo q ms g lo k).length = ms.length:=upTo_len _ _
theorem apP_len (ra mo q:Int) (ps ms g:List Int) (lo k:Nat):(apP ra mo q ps ms g lo k).length = ps.length:=upTo_len _ _
theorem apM_at (mo q:Int) (ms g:List Int) (lo k:Nat) (h:lo + k < ms.length):nth (apM mo q ms g lo k) (lo + k) = nth ms (lo + k):=by
  unfold apM;rw [upTo_nth _ h,if_neg (by omega)]
theorem apP_at (ra mo q:Int) (ps ms g:List Int) (lo k:Nat) (h:lo + k < ps.length):nth (apP ra mo q ps ms g lo k) (lo + k) = nth ps (lo + k):=by
  unfold apP;rw [upTo_nth _ h,if_neg (by omega)]
theorem apM_set (mo q:Int) (ms g:List Int) (lo k:Nat) (h:lo + k < ms.length):(apM mo q ms g lo k).set (lo + k) (stepM mo q (nth ms (lo + k)) (nth g k)) = apM mo q ms g lo (k + 1):=by
  refine ext_nth (by simp [apM_len]) fun j hj => ?_
  rw [List.length_set,apM_len] at hj
  rw [nth_set,apM_len]
  unfold apM
  rw [upTo_nth _ hj,upTo_nth _ hj]
  by_cases h1:j = lo + k
  · subst h1
    rw [if_pos ⟨rfl,h⟩,if_pos (by omega),show lo + k - lo = k by omega]
  · rw [if_neg (by omega)]
    by_cases h2:lo ≤ j ∧ j < lo + k
    · rw [if_pos h2,if_pos (by omega)]
    · rw [if_neg h2,if_neg (by omega)]
theorem apP_set (ra mo q:Int) (ps ms g:List Int) (lo k:Nat) (h:lo + k < ps.length):(apP ra mo q ps ms g lo k).set (lo + k) (stepP ra q (nth ps (lo + k)) (stepM mo q (nth ms (lo + k)) (nth g k))) = apP ra mo q ps ms g lo (k + 1):=by
  refine ext_nth (by simp [apP_len]) fun j hj => ?_
  rw [List.length_set,apP_len] at hj
  rw [nth_set,apP_len]
  unfold apP
  rw [upTo_nth _ hj,upTo_nth _ hj]
  by_cases h1:j = lo + k
  · subst h1
    rw [if_pos ⟨rfl,h⟩,if_pos (by omega),show lo + k - lo = k by omega]
  · rw [if_neg (by omega)]
    by_cases h2:lo ≤ j ∧ j < lo + k
    · rw [if_pos h2,if_pos (by omega)]
    · rw [if_neg h2,if_neg (by omega)]
theorem apM_W64 {mo q:Int} {ms g:List Int} {lo k:Nat} (h:W64 ms):W64 (apM mo q ms g lo k):=upTo_W64 fun j hj => by
  split
  · exact wrap64_bd _
  · exact h j hj
def nextM (mo q:Int) (ms g:List Int):List Int:=upTo ms.length fun j => stepM mo q (nth ms j) (nth g j)
def nextP (ra mo q:Int) (ps ms g:List Int):List Int:=upTo ps.length fun j => stepP ra q (nth ps j) (stepM mo q (nth ms j) (nth g j))
theorem apM_all (mo q:Int) (ms g:List Int):apM mo q ms g 0 ms.length = nextM mo q ms g:=upTo_congr fun k hk => by rw [if_pos (by omega),Nat.sub_zero]
theorem apP_all (ra mo q:Int) (ps ms g:List Int):apP ra mo q ps ms g 0 ps.length = nextP ra mo q ps ms g:=upTo_congr fun k hk => by rw [if_pos (by omega),Nat.sub_zero]
theorem nextM_len (mo q:Int) (ms g:List Int):(nextM mo q ms g).length = ms.length:=upTo_len _ _
theorem nextP_len (ra mo q:Int) (ps ms g:List Int):(nextP ra mo q ps ms g).length = ps.length:=upTo_len _ _
theorem nextM_W64 (mo q:Int) (ms g:List Int):W64 (nextM mo q ms g):=upTo_W64 fun _ _ => wrap64_bd _
theorem nextP_W64 (ra mo q:Int) (ps ms g:List Int):W64 (nextP ra mo q ps ms g):=upTo_W64 fun _ _ => wrap64_bd _
end Go.Proofs.YthamijnggdjaoaaGreatDoor
namespace Go.Proofs.YthamijnggdjaoaaGreatDoor
open Go.RowKit
theorem rsize_any (lo hi:Nat) (w:World) (h:lo ≤ hi) (hh:hi ≤ 17592186043904):Calls Tryz.prog 261 #[.agg #[.int .i64 lo,.int .i64 hi]] w fun e w' => e = .returned (.int .i64 ((hi - lo:Nat):Int)) ∧ Below w.heap.size w w':=by
  have h1:(0:Int) ≤ (hi:Int) - lo:=by omega
  have h2:max ((hi:Int) - lo) 0 = ((hi - lo:Nat):Int):=by omega
  have H2:=Lib.hid h2;clear h2
  go_enter Tryz.func261,Tryz.ntmps261
  go_wp2
  all_goals
    go_ret
    exact ⟨ret_int (by have:=H2.out;omega),(Below.refl _ w).alloc (Nat.le_refl _) _⟩
set_option maxRecDepth 100000 in
set_option maxHeartbeats 1600000 in
theorem update_any (ra mo q g:Int) (base n i gp cp gm cm:Nat) (ps ms:List Int) (w:World) (hp:w.ownsRow base 2 1 (.slice (some ⟨gp,0,none⟩) n cp) n (nums .i64 ps)) (hm:w.ownsRow base 2 1 (.slice (some ⟨gm,0,none⟩) n cm) n (nums .i64 ms)) (hne:gp ≠ gm) (hi:i < n)
    (wr:-9223372036854775808 ≤ ra ∧ ra ≤ 9223372036854775807) (wo:-9223372036854775808 ≤ mo ∧ mo ≤ 9223372036854775807) (wm:W64 ms) :
    Calls Tryz.prog 262 #[.agg #[.int .i64 ra,.int .i64 mo,.int .i64 q],.pointer (some ⟨gp,i,none⟩),.pointer (some ⟨gm,i,none⟩),.int .i64 g] w fun e w' => e = .returned (.tuple #[]) ∧
      w'.ownsRow base 2 1 (.slice (some ⟨gp,0,none⟩) n cp) n (nums .i64 (ps.set i (stepP ra q (nth ps i) (stepM mo q (nth ms i) g)))) ∧ w'.ownsRow base 2 1 (.slice (some ⟨gm,0,none⟩) n cm) n (nums .i64 (ms.set i (stepM mo q (nth ms i) g))) ∧ Keep (fun j => j = gp ∨ j = gm) w w':=by
  have hml:=own_len hm
  have p1:=own_num hp hi
  have p2:=own_num hm hi
  have f1:=hp.frozenAt i
  have f2:=hm.frozenAt i
  have l1:=(hp.lt gp rfl).2
  have l2:=(hm.lt gm rfl).2
  have hmu:=fun w' => fixMul mo (nth ms i) q w' wo (wm i (by omega))
  have hpu:=fun m' w' (h:-9223372036854775808 ≤ m' ∧ m' ≤ 9223372036854775807) => fixMul ra m' q w' wr h
  obtain ⟨m0,hm0⟩:∃ m0,nth ms i = m0:=⟨_,rfl⟩
  obtain ⟨p0,hp0⟩:∃ p0,nth ps i = p0:=⟨_,rfl⟩
  rw [hm0] at p2 hmu ⊢
  rw [hp0] at p1 ⊢
  obtain ⟨m1,hm1⟩:∃ m1,stepM mo q m0 g = m1:=⟨_,rfl⟩
  have wm1:-9223372036854775808 ≤ m1 ∧ m1 ≤ 9223372036854775807:=by rw [← hm1];exact wrap64_bd _
  obtain ⟨mu,hmu'⟩:∃ mu,mulQ mo m0 q = mu:=⟨_,rfl⟩
  have hsm:sumW [mu,g] = m1:=by rw [sumW_two,← hm1,← hmu'];rfl
  rw [hm1]
  rw [hmu'] at hmu
  have hpu:=fun w' => hpu m1 w' wm1
  obtain ⟨pu,hpu'⟩:∃ pu,mulQ ra m1 q = pu:=⟨_,rfl⟩
  rw [hpu'] at hpu
  obtain ⟨p9,hp9⟩:∃ p9,stepP ra q p0 m1 = p9:=⟨_,rfl⟩
  have hsub:wrap64 (p0 - pu) = p9:=by rw [← hp9,← hpu'];rfl
  rw [hp9]
  have hsb:=fun w' => sub_any p0 pu w'
  rw [hsub] at hsb
  have hfs:=fun A w' (hA:Rd w' A (nums .i64 [mu,g])) ha => fsum_any A 2 2 [mu,g] w' hA rfl (by omega) ha
  rw [hsm] at hfs
  have Hmu:=Lib.hid hmu;have Hpu:=Lib.hid hpu;have Hsb:=Lib.hid hsb;have Hfs:=Lib.hid hfs;have HP:=Lib.hid hp;have HM:=Lib.hid hm;have Hp0:=Lib.hid hp0;have Hne:=Lib.hid hne
  clear hmu hpu hsb hfs hp hm hm0 hp0 hm1 hmu' hsm hpu' hp9 hsub wr wo wm hml wm1
  go_enter Tryz.func262,Tryz.ntmps262
  go_wp2_with fail
  have hz:=heap_alloc_new w (.cells #[.int .i64 ra,.int .i64 mo,.int .i64 q] 286)
  have hB0:Below w.heap.size w (w.alloc (.cells #[.int .i64 ra,.int .i64 mo,.int .i64 q] 286)):=(Below.refl _ w).alloc (Nat.le_refl _) _
  obtain ⟨W0,hW0⟩:∃ W0,W0 = w.alloc (.cells #[.int .i64 ra,.int .i64 mo,.int .i64 q] 286):=⟨_,rfl⟩
  rw [← hW0] at hz hB0 ⊢
  clear hW0
  have q1:=cell_below hB0 p1
  have q2:=cell_below hB0 p2
  obtain ⟨⟨y0,y1,y2⟩,yf⟩:=bx3 hz
  have hp0':=own_below HP.out hB0
  have hm0':=own_below HM.out hB0
  have hzl:=lt_of_block hz
  have HZ:=Lib.hid hz;have HB0:=Lib.hid hB0;have HP0:=Lib.hid hp0';have HM0:=Lib.hid hm0'
  clear hz hB0 hp0' hm0' p1 p2 f1 f2
  have hSw:(fun w':World => w'.cell? ⟨w.heap.size,1,none⟩ = some (.int .i64 mo) ∧ w'.cell? ⟨w.heap.size,2,none⟩ = some (.int .i64 q) ∧ w'.cell? ⟨gm,i,none⟩ = some (.int .i64 m0)) W0.drew:=⟨y1,y2,q2⟩
  refine XA.g 12 (fun w':World => w'.cell? ⟨w.heap.size,1,none⟩ = some (.int .i64 mo) ∧ w'.cell? ⟨w.heap.size,2,none⟩ = some (.int .i64 q) ∧ w'.cell? ⟨gm,i,none⟩ = some (.int .i64 m0)) ?_
  refine XA.t ?_ [0,1,2,3,4,5,6,7,9] hSw ?_
  refine XA.o 8 (fun K hK => ?_)
  go_simp
  refine (Hmu.out _).mono ?_
  rintro e w1 ⟨rfl,hb1⟩
  have hSa:=And.intro (cell_below hb1 hSw.1) (And.intro (cell_below hb1 hSw.2.1) (cell_below hb1 hSw.2.2))
  have HBa:=Lib.hid ((Below.refl W0.heap.size W0).drew.trans hb1);clear hb1 hSw
  dsimp only
  refine hK.out _ _ hSa (fun hSw => ?_)
  clear hK K hSa
  refine XA.o 10 (fun K hK => ?_)
  go_simp
  refine hK.out _ _ ⟨cell_alloc hSw.1 _,cell_alloc hSw.2.1 _,cell_alloc hSw.2.2 _⟩ (fun hSw => ?_)
  clear hK K
  refine XA.o 11 (fun K hK => ?_)
  go_simp
  refine (Hfs.out _ _ ?_ ?_).mono ?_
  · exact rd_newN _ [.int .i64 mu,.int .i64 g] 2 _ (by simp)
  · intro a ha;injection ha with ha;subst ha;simp
  rintro e w2 ⟨rfl,hb1⟩
  have hS1:=And.intro (cell_below hb1 hSw.1) (And.intro (cell_below hb1 hSw.2.1) (cell_below hb1 hSw.2.2))
  have hB1:Below W0.heap.size W0 w2:=(HBa.out.alloc HBa.out.size _).trans (hb1.mono (by have:=HBa.out.size;simp;omega))
  have hp1:=own_below HP0.out hB1
  have hm1:=own_below HM0.out hB1
  have q1':=cell_below hB1 q1
  have g1:=hm1.frozenAt i
  have g2:=hp1.frozenAt i
  have hz1:=(hB1.block _ hzl).trans HZ.out
  have hs1:=hB1.size
  have HP1:=Lib.hid hp1;have HM1:=Lib.hid hm1;have HB1:=Lib.hid hB1;have HZ1:=Lib.hid hz1
  clear hp1 hm1 hB1 hb1 hz1 hSw y0 y1 y2 yf q1 q2
  dsimp only
  refine hK.out _ _ hS1 (fun hSw => ?_)
  clear hK K
  have q3:=hS1.2.2
  refine XA.e ?_
  clear hSw hS1
  simp only [List.drop_succ_cons,List.drop_zero]
  go_wp2_with fail
  have hK2:Keep (fun j => j = gm) w2 (w2.setCell ⟨gm,i,none⟩ (.int .i64 m1)):=Keep.setCell (S:=fun j => j = gm) (Keep.refl _ _) ⟨gm,i,none⟩ (.inr rfl) _
  have hm2:=own_put HM1.out i m1
  have hno1:∀ j,(Value.slice (some ⟨gp,0,none⟩) n cp).ownBlock = some j → ¬ j = gm:=fun j hj e => by
    have h1:gp = j:=by simpa [Value.ownBlock] using hj
    exact Hne.out (by omega)
  have hno2:∀ j,(Value.slice (some ⟨gm,0,none⟩) n cm).ownBlock = some j → ¬ j = gp:=fun j hj e => by
    have h1:gm = j:=by simpa [Value.ownBlock] using hj
    exact Hne.out (by omega)
  have hp2:=hK2.own HP1.out hno1
  have Hno2:=Lib.hid hno2;clear hno1 hno2
  have hz2:=(hK2.block _ (by have:=HB1.out.size;omega) (by omega)).trans HZ1.out
  obtain ⟨V,hV⟩:∃ V,V = w2.setCell ⟨gm,i,none⟩ (.int .i64 m1):=⟨_,rfl⟩
  rw [← hV] at hK2 hm2 hp2 hz2 ⊢
  clear hV q1' q3 g1 g2
  have r1:=own_num hp2 hi
  have r2:=own_num hm2 hi
  have hml:=own_len HM.out
  rw [nth_set,if_pos ⟨rfl,by omega⟩] at r2
  rw [Hp0.out] at r1
  obtain ⟨⟨y0,y1,y2⟩,yf⟩:=bx3 hz2
  have hzl2:=lt_of_block hz2
  have HK2:=Lib.hid hK2;have HM2:=Lib.hid hm2;have HP2:=Lib.hid hp2;have HZ2:=Lib.hid hz2
  clear hK2 hm2 hp2 hz2 hml
  have hSw:(fun w':World => w'.cell? ⟨w.heap.size,0,none⟩ = some (.int .i64 ra) ∧ w'.cell? ⟨w.heap.size,2,none⟩ = some (.int .i64 q) ∧ w'.cell? ⟨gp,i,none⟩ = some (.int .i64 p0) ∧ w'.cell? ⟨gm,i,none⟩ = some (.int .i64 m1)) V.drew:=⟨y0,y2,r1,r2⟩
  refine XA.g 13 (fun w':World => w'.cell? ⟨w.heap.size,0,none⟩ = some (.int .i64 ra) ∧ w'.cell? ⟨w.heap.size,2,none⟩ = some (.int .i64 q) ∧ w'.cell? ⟨gp,i,none⟩ = some (.int .i64 p0) ∧ w'.cell? ⟨gm,i,none⟩ = some (.int .i64 m1)) ?_
  refine XA.t ?_ [0,1,2,3,4,5,6,7,8,9,10] hSw ?_
  refine XA.o 11 (fun K hK => ?_)
  go_simp
  refine (Hpu.out _).mono ?_
  rintro e w3 ⟨rfl,hb3⟩
  have hS3:=And.intro (cell_below hb3 hSw.1) (And.intro (cell_below hb3 hSw.2.1) (And.intro (cell_below hb3 hSw.2.2.1) (cell_below hb3 hSw.2.2.2)))
  have hB3:Below V.heap.size V w3:=(Below.refl V.heap.size V).drew.trans hb3
  have hp3:=own_below HP2.out hB3
  have hm3:=own_below HM2.out hB3
  have g2:=hp3.frozenAt i
  have q3:=hS3.2.2.1
  have HB3:=Lib.hid hB3;have HP3:=Lib.hid hp3;have HM3:=Lib.hid hm3;clear hb3 hB3 hp3 hm3 hSw
  dsimp only
  refine hK.out _ _ hS3 (fun hSw => ?_)
  clear hK K hS3
  refine XA.o 12 (fun K hK => ?_)
  go_simp
  refine (Hsb.out _).mono ?_
  rintro e w4 ⟨rfl,rfl⟩
  dsimp only
  refine hK.out _ _ hSw (fun hSw => ?_)
  clear hK K
  refine XA.e ?_
  clear hSw y0 y1 y2 yf r1 r2
  simp only [List.drop_succ_cons,List.drop_zero]
  go_wp2_with fail
  go_end0
  have hK4:Keep (fun j => j = gp) w3 (w3.setCell ⟨gp,i,none⟩ (.int .i64 p9)):=Keep.setCell (S:=fun j => j = gp) (Keep.refl _ _) ⟨gp,i,none⟩ (.inr rfl) _
  refine ⟨rfl,own_put HP3.out i p9,hK4.own HM3.out Hno2.out,?_⟩
  have k1:Keep (fun j => j = gp ∨ j = gm) w W0:=Keep.below HB0.out
  have k2:Keep (fun j => j = gp ∨ j = gm) W0 w2:=Keep.below HB1.out
  have k3:Keep (fun j => j = gp ∨ j = gm) w2 V:=HK2.out.mono (fun _ _ h => .inr h)
  have k4:Keep (fun j => j = gp ∨ j = gm) V w3:=Keep.below HB3.out
  exact (((k1.trans k2).trans k3).trans k4).trans (hK4.mono (fun _ _ h => .inl h))
set_option maxRecDepth 100000 in
set_option maxHeartbeats 1600000 in
theorem apply_any (ra mo q:Int) (base n lo m c1 c2 cg:Nat) (A B G:Option Addr) (ps ms g:List Int) (w:World) (hp:w.ownsRow base 2 1 (.slice A n c1) n (nums .i64 ps)) (hm:w.ownsRow base 2 1 (.slice B n c2) n (nums .i64 ms)) (hne:∀ i,(Value.slice A n c1).ownBlock = some i → (Value.slice B n c2).ownBlock ≠ some i)
    (hG:Rd w G (nums .i64 g)) (hgl:g.length = m) (hlo:lo + m ≤ n) (hn:n ≤ 1048576) (hGP:∀ a,G = some a → (Value.slice A n c1).ownBlock ≠ some a.block) (hGM:∀ a,G = some a → (Value.slice B n c2).ownBlock ≠ some a.block)
    (wr:-9223372036854775808 ≤ ra ∧ ra ≤ 9223372036854775807) (wo:-9223372036854775808 ≤ mo ∧ mo ≤ 9223372036854775807) (wm:W64 ms) :
    Calls Tryz.prog 228 #[.agg #[.int .i64 ra,.int .i64 mo,.int .i64 q],.agg #[.slice A n c1,.slice B n c2],.agg #[.int .i64 lo,.int .i64 ((lo + m:Nat):Int)],.slice G m cg] w fun e w' => e = .returned (.bool true) ∧
      w'.ownsRow base 2 1 (.slice A n c1) n (nums .i64 (apP ra mo q ps ms g lo m)) ∧ w'.ownsRow base 2 1 (.slice B n c2) n (nums .i64 (apM mo q ms g lo m)) ∧ Keep (fun j => (Value.slice A n c1).ownBlock = some j ∨ (Value.slice B n c2).ownBlock = some j) w w':=by
  have hpl:=own_len hp
  have hml:=own_len hm
  have hrs:=fun w' => rsize_any lo (lo + m) w' (by omega) (by omega)
  rw [Nat.add_sub_cancel_left] at hrs
  obtain ⟨hi,hhi⟩:∃ hi,lo + m = hi:=⟨_,rfl⟩
  rw [hhi] at hrs ⊢
  have hh1:lo ≤ hi:=by omega
  have hh2:hi ≤ n:=by omega
  have hq1:((n:Int) != (n:Int)) = false:=by simp
  have hq2:((m:Int) != (m:Int)) = false:=by simp
  have hq3:¬ ((n:Int) < (hi:Int)):=by omega
  have hq4:¬ ((hi:Int) < lo):=by omega
  have hlt1:=hp.lt
  have hlt2:=hm.lt
  have Hrs:=Lib.hid hrs;have HP:=Lib.hid hp;have HM:=Lib.hid hm;have Hne:=Lib.hid hne;have HG:=Lib.hid hG;have Hgl:=Lib.hid hgl;have HGP:=Lib.hid hGP;have HGM:=Lib.hid hGM;have Hpl:=Lib.hid hpl;have Hml:=Lib.hid hml;have Wr:=Lib.hid wr;have Wo:=Lib.hid wo;have Wm:=Lib.hid wm;have Hlt1:=Lib.hid hlt1;have Hlt2:=Lib.hid hlt2
  clear hrs hp hm hne hG hgl hGP hGM hpl hml wr wo wm hlt1 hlt2 hhi
  go_enter Tryz.func228,Tryz.ntmps228
  go_wp2_with fail
  have hs0:(((w.alloc (.cells #[.int .i64 ra,.int .i64 mo,.int .i64 q] 286)).alloc (.cells #[.slice A n c1,.slice B n c2] 67)).alloc (.cells #[.int .i64 lo,.int .i64 hi] 125)).heap.size = w.heap.size + 3:=by simp
  have hB0:Below w.heap.size w (((w.alloc (.cells #[.int .i64 ra,.int .i64 mo,.int .i64 q] 286)).alloc (.cells #[.slice A n c1,.slice B n c2] 67)).alloc (.cells #[.int .i64 lo,.int .i64 hi] 125)):=(((Below.refl _ w).alloc (Nat.le_refl _) _).alloc (by simp) _).alloc (by simp;omega) _
  have hb0:=(Below.heap_alloc ((w.alloc (.cells #[.int .i64 ra,.int .i64 mo,.int .i64 q] 286)).alloc (.cells #[.slice A n c1,.slice B n c2] 67)) (.cells #[.int .i64 lo,.int .i64 hi] 125) w.heap.size (by simp;omega)).trans ((Below.heap_alloc (w.alloc (.cells #[.int .i64 ra,.int .i64 mo,.int .i64 q] 286)) (.cells #[.slice A n c1,.slice B n c2] 67) w.heap.size (by simp)).trans (heap_alloc_new w _))
  have hb1:=heap_alloc_new (w.alloc (.cells #[.int .i64 ra,.int .i64 mo,.int .i64 q] 286)) (.cells #[.slice A n c1,.slice B n c2] 67)
  rw [show (w.alloc (.cells #[.int .i64 ra,.int .i64 mo,.int .i64 q] 286)).heap.size = w.heap.size + 1 by simp] at hb1
  have hb1:=(Below.heap_alloc ((w.alloc (.cells #[.int .i64 ra,.int .i64 mo,.int .i64 q] 286)).alloc (.cells #[.slice A n c1,.slice B n c2] 67)) (.cells #[.int .i64 lo,.int .i64 hi] 125) (w.heap.size + 1) (by simp)).trans hb1
  have hb2:=heap_alloc_new ((w.alloc (.cells #[.int .i64 ra,.int .i64 mo,.int .i64 q] 286)).alloc (.cells #[.slice A n c1,.slice B n c2] 67)) (.cells #[.int .i64 lo,.int .i64 hi] 125)
  rw [show ((w.alloc (.cells #[.int .i64 ra,.int .i64 mo,.int .i64 q] 286)).alloc (.cells #[.slice A n c1,.slice B n c2] 67)).heap.size = w.heap.size + 1 + 1 by simp] at hb2
  obtain ⟨W0,hW0⟩:∃ W0,W0 = ((w.alloc (.cells #[.int .i64 ra,.int .i64 mo,.int .i64 q] 286)).alloc (.cells #[.slice A n c1,.slice B n c2] 67)).alloc (.cells #[.int .i64 lo,.int .i64 hi] 125):=⟨_,rfl⟩
  rw [← hW0] at hs0 hB0 hb0 hb1 hb2 ⊢
  have HS0:=Lib.hid hs0;have HB0:=Lib.hid hB0;have Hb0:=Lib.hid hb0;have Hb1:=Lib.hid hb1;have Hb2:=Lib.hid hb2
  clear hs0 hB0 hb0 hb1 hb2 hW0
  refine (Hrs.out _).mono ?_
  rintro e w1 ⟨rfl,k1⟩
  have hx2:=(k1.block _ (lt_of_block Hb2.out)).trans Hb2.out
  have hl2:=lt_of_block hx2
  obtain ⟨⟨x0,x1⟩,xf⟩:=bx2 hx2
  have K1:=Lib.hid k1;clear k1 hx2
  go_wp2_with fail
  refine (Hrs.out _).mono ?_
  rintro e w2 ⟨rfl,k2⟩
  have K2:=Lib.hid (K1.out.trans (k2.mono K1.out.size));clear k2 x0 x1 xf hl2
  have hc2:=HB0.out.trans (K2.out.mono HB0.out.size)
  have hp2:=own_below (own_below HP.out HB0.out) K2.out
  have hm2:=own_below (own_below HM.out HB0.out) K2.out
  have hg2:=(HG.out.below HB0.out).below K2.out
  have hx0:=(K2.out.block _ (lt_of_block Hb0.out)).trans Hb0.out
  have hx1:=(K2.out.block _ (lt_of_block Hb1.out)).trans Hb1.out
  have hx2:=(K2.out.block _ (lt_of_block Hb2.out)).trans Hb2.out
  have HC2:=Lib.hid hc2;have HP2:=Lib.hid hp2;have HM2:=Lib.hid hm2;have HG2:=Lib.hid hg2;have HX0:=Lib.hid hx0;have HX1:=Lib.hid hx1;have HX2:=Lib.hid hx2
  clear hc2 hp2 hm2 hg2 hx0 hx1 hx2
  go_wp2_with fail
  go_loopw [46] (fun x wr => ∃ k:Nat,k ≤ m ∧ x = .int .i64 k ∧ wr.ownsRow base 2 1 (.slice A n c1) n (nums .i64 (apP ra mo q ps ms g lo k)) ∧ wr.ownsRow base 2 1 (.slice B n c2) n (nums .i64 (apM mo q ms g lo k)) ∧ Keep (fun j => (Value.slice A n c1).ownBlock = some j ∨ (Value.slice B n c2).ownBlock = some j) w2 wr) (fun x _ => m - (intOf x).toNat)
  case atStart => exact ⟨0,Nat.zero_le _,rfl,by rw [apP_zero];exact HP2.out,by rw [apM_zero];exact HM2.out,Keep.refl _ _⟩
  case round =>
    obtain ⟨k,hk,rfl,hpk,hmk,hK⟩:=hrel
    by_cases hlt:k < m
    · have hG:=hK.rd HG2.out (fun a ha => by
        rintro (h | h)
        · exact HGP.out a ha h
        · exact HGM.out a ha h)
      obtain ⟨bG,oG,rfl,pg⟩:=hG.num (show k < g.length by rw [Hgl.out];exact hlt)
      obtain ⟨gk,hgk⟩:∃ gk,nth g k = gk:=⟨_,rfl⟩
      rw [hgk] at pg
      have hnb:∀ j,w.heap.size ≤ j → ¬ ((Value.slice A n c1).ownBlock = some j ∨ (Value.slice B n c2).ownBlock = some j):=fun j hj => by
        rintro (h | h)
        · have:=(Hlt1.out j h).2;omega
        · have:=(Hlt2.out j h).2;omega
      have hx0:=(hK.block _ (lt_of_block HX0.out) (hnb _ (Nat.le_refl _))).trans HX0.out
      have hx1:=(hK.block _ (lt_of_block HX1.out) (hnb _ (by omega))).trans HX1.out
      have hx2:=(hK.block _ (lt_of_block HX2.out) (hnb _ (by omega))).trans HX2.out
      obtain ⟨gp,e1,hv1,_,_⟩:=hpk.form (by omega)
      obtain ⟨gm,e2,hv2,_,_⟩:=hmk.form (by omega)
      simp only [Value.slice.injEq] at hv1 hv2
      obtain ⟨rfl,_,rfl⟩:=hv1
      obtain ⟨rfl,_,rfl⟩:=hv2
      have hgne:gp ≠ gm:=fun e => Hne.out gp rfl (by rw [e];rfl)
      have hup:=update_any ra mo q gk base n (lo + k) gp c1 gm c2 (apP ra mo q ps ms g lo k) (apM mo q ms g lo k) wr.drew (own_drewN hpk 1) (own_drewN hmk 1) hgne (by omega) Wr.out Wo.out (apM_W64 Wm.out)
      rw [apP_at ra mo q ps ms g lo k (by have:=Hpl.out;omega),apM_at mo q ms g lo k (by have:=Hml.out;omega),← hgk,apP_set ra mo q ps ms g lo k (by have:=Hpl.out;omega),apM_set mo q ms g lo k (by have:=Hml.out;omega),hgk] at hup
      obtain ⟨⟨y0,y1,y2⟩,yf⟩:=bx3 hx0
      obtain ⟨⟨z0,z1⟩,zf⟩:=bx2 hx1
      obtain ⟨⟨t0,t1⟩,tf⟩:=bx2 hx2
      have hki:(k:Int) < m:=by omega
      have hw1:IntKind.i64.wrap ((lo:Int) + (k:Int)) = (lo:Int) + k:=IntWalk.i64_in _ (by omega)
      have hw2:(0:Int) ≤ (lo:Int) + k:=by omega
      have hw3:(lo:Int) + k < n:=by omega
      have hw4:((lo:Int) + k).toNat = lo + k:=by omega
      have HK:=Lib.hid hK;have Hup:=Lib.hid hup;have HGK:=Lib.hid hgk
      clear hK hup hpk hmk hG hx0 hx1 hx2 hnb hgk hgne
      go_wp2_with fail
      have hSw:(fun w':World => w'.cell? ⟨w.heap.size,0,none⟩ = some (.int .i64 ra) ∧ w'.cell? ⟨w.heap.size,1,none⟩ = some (.int .i64 mo) ∧ w'.cell? ⟨w.heap.size,2,none⟩ = some (.int .i64 q) ∧ w'.cell? ⟨w.heap.size + 1,0,none⟩ = some (.slice (some ⟨gp,0,none⟩) n c1) ∧ w'.cell? ⟨w.heap.size + 1,1,none⟩ = some (.slice (some ⟨gm,0,none⟩) n c2) ∧ w'.cell? ⟨w.heap.size + 1 + 1,0,none⟩ = some (.int .i64 lo) ∧ w'.cell? ⟨bG,oG + k,none⟩ = some (.int .i64 gk)) wr.drew:=⟨y0,y1,y2,z0,z1,t0,pg⟩
      have hgb1:gp < w.heap.size:=(Hlt1.out gp rfl).2
      have hgb2:gm < w.heap.size:=(Hlt2.out gm rfl).2
      have hgb3:¬ (bG = gp ∨ bG = gm):=by
        rintro (h | h)
        · exact HGP.out _ rfl (by rw [h];rfl)
        · exact HGM.out _ rfl (by rw [h];rfl)
      refine HA.g (fun w':World => w'.cell? ⟨w.heap.size,0,none⟩ = some (.int .i64 ra) ∧ w'.cell? ⟨w.heap.size,1,none⟩ = some (.int .i64 mo) ∧ w'.cell? ⟨w.heap.size,2,none⟩ = some (.int .i64 q) ∧ w'.cell? ⟨w.heap.size + 1,0,none⟩ = some (.slice (some ⟨gp,0,none⟩) n c1) ∧ w'.cell? ⟨w.heap.size + 1,1,none⟩ = some (.slice (some ⟨gm,0,none⟩) n c2) ∧ w'.cell? ⟨w.heap.size + 1 + 1,0,none⟩ = some (.int .i64 lo) ∧ w'.cell? ⟨bG,oG + k,none⟩ = some (.int .i64 gk)) ?_
      refine HA.t ?_ [0,1,2,3,4,5,6,7,8,9,10,11,12,13,14,15,16,17,18] hSw ?_
      clear hw1 hw4
      refine HA.o 19 (fun K hK => ?_)
      go_simp
      refine Hup.out.mono ?_
      rintro e w5 ⟨rfl,hp5,hm5,hK5⟩
      have hS5:=And.intro (hK5.cell hSw.1 (by simp;omega)) (And.intro (hK5.cell hSw.2.1 (by simp;omega)) (And.intro (hK5.cell hSw.2.2.1 (by simp;omega)) (And.intro (hK5.cell hSw.2.2.2.1 (by simp;omega)) (And.intro (hK5.cell hSw.2.2.2.2.1 (by simp;omega)) (And.intro (hK5.cell hSw.2.2.2.2.2.1 (by simp;omega)) (hK5.cell hSw.2.2.2.2.2.2 hgb3))))))
      have hk6:Keep (fun j => (Value.slice (some ⟨gp,0,none⟩) n c1).ownBlock = some j ∨ (Value.slice (some ⟨gm,0,none⟩) n c2).ownBlock = some j) w2 w5:=HK.out.trans ((Keep.refl _ wr).drew.trans (hK5.mono (fun j _ h => by
        rcases h with rfl | rfl
        · exact .inl rfl
        · exact .inr rfl)))
      have HP5:=Lib.hid hp5;have HM5:=Lib.hid hm5;have HK6:=Lib.hid hk6;clear hp5 hm5 hK5 hk6 hSw hgb3
      dsimp only
      refine hK.out _ _ hS5 (fun hSw => ?_)
      clear hK K hS5 hSw y0 y1 y2 yf z0 z1 zf t0 t1 tf pg
      refine HA.d ?_
      go_wp2_with fail
      go_roundw
      case rel => exact ⟨k + 1,by omega,by go_num,HP5.out,HM5.out,HK6.out⟩
      case measure => simp [intOf];omega
    · obtain rfl:m = k:=by omega
      have hkf:Keep (fun j => (Value.slice A n c1).ownBlock = some j ∨ (Value.slice B n c2).ownBlock = some j) w wr:=(Keep.below HC2.out).trans hK
      have HP9:=Lib.hid hpk;have HM9:=Lib.hid hmk;have HKf:=Lib.hid hkf;clear hpk hmk hkf hK
      go_wp2_with fail
      go_ret
      exact ⟨rfl,HP9.out,HM9.out,HKf.out⟩
end Go.Proofs.YthamijnggdjaoaaGreatDoor
namespace Go.Proofs.YthamijnggdjaoaaGreatDoor
open Go.RowKit
set_option maxRecDepth 100000 in
set_option maxHeartbeats 1000000 in
theorem stclone_any (A B:Option Addr) (n c d:Nat) (ps ms:List Int) (w:World) (hA:Rd w A (nums .i64 ps)) (hB:Rd w B (nums .i64 ms)) (hpl:ps.length = n) (hml:ms.length = n) (hn:n ≤ 1048576) :
    Calls Tryz.prog 177 #[.agg #[.slice A n c,.slice B n d]] w fun e w' => ∃ A1 c1 A2 c2,e = .returned (.agg #[.slice A1 n c1,.slice A2 n c2]) ∧ n ≤ c1 ∧ n ≤ c2 ∧ w'.ownsRow w.heap.size 2 1 (.slice A1 n c1) n (nums .i64 ps) ∧ w'.ownsRow w.heap.size 2 1 (.slice A2 n c2) n (nums .i64 ms) ∧
      (∀ j,(Value.slice A1 n c1).ownBlock = some j → (Value.slice A2 n c2).ownBlock ≠ some j) ∧ Below w.heap.size w w':=by
  have hcx:=fun w' (k:Below w.heap.size w w') => vclone_any A ps c w' (hA.below k) (by omega)
  have hcy:=fun w' (k:Below w.heap.size w w') => vclone_any B ms d w' (hB.below k) (by omega)
  rw [hpl] at hcx
  rw [hml] at hcy
  have Hcx:=Lib.hid hcx;have Hcy:=Lib.hid hcy
  clear hcx hcy hpl hml hA hB
  go_enter Tryz.func177,Tryz.ntmps177
  go_wp2_with fail
  have hz:=heap_alloc_new (w.alloc (.cells #[.slice A n c,.slice B n d] 67)) (.cells #[.slice none 0 0,.slice none 0 0] 67)
  rw [show (w.alloc (.cells #[.slice A n c,.slice B n d] 67)).heap.size = w.heap.size + 1 by simp] at hz
  have hy:=(Below.heap_alloc (w.alloc (.cells #[.slice A n c,.slice B n d] 67)) (.cells #[.slice none 0 0,.slice none 0 0] 67) w.heap.size (by simp)).trans (heap_alloc_new w _)
  have hB0:Below w.heap.size w ((w.alloc (.cells #[.slice A n c,.slice B n d] 67)).alloc (.cells #[.slice none 0 0,.slice none 0 0] 67)):=((Below.refl _ w).alloc (Nat.le_refl _) _).alloc (by simp) _
  have hs0:((w.alloc (.cells #[.slice A n c,.slice B n d] 67)).alloc (.cells #[.slice none 0 0,.slice none 0 0] 67)).heap.size = w.heap.size + 2:=by simp
  obtain ⟨W0,hW0⟩:∃ W0,W0 = (w.alloc (.cells #[.slice A n c,.slice B n d] 67)).alloc (.cells #[.slice none 0 0,.slice none 0 0] 67):=⟨_,rfl⟩
  rw [← hW0] at hz hy hB0 hs0 ⊢
  obtain ⟨⟨y0,y1⟩,yf⟩:=bx2 hy
  have Hz:=Lib.hid hz;have HB0:=Lib.hid hB0;have Hs0:=Lib.hid hs0
  clear hz hy hB0 hs0 hW0
  have hSw:(fun w':World => w'.cell? ⟨w.heap.size,0,none⟩ = some (.slice A n c) ∧ w'.cell? ⟨w.heap.size,1,none⟩ = some (.slice B n d)) W0.drew:=⟨y0,y1⟩
  refine XA.g 7 (fun w':World => w'.cell? ⟨w.heap.size,0,none⟩ = some (.slice A n c) ∧ w'.cell? ⟨w.heap.size,1,none⟩ = some (.slice B n d)) ?_
  refine XA.t ?_ [0,1,3,4] hSw ?_
  refine XA.o 2 (fun K hK => ?_)
  go_simp
  refine (Hcx.out _ HB0.out.drew).mono ?_
  rintro e w1 ⟨A1,c1,rfl,hcu,hou,hb1⟩
  have Hcu:=Lib.hid hcu;clear hcu
  have hS1:=And.intro (cell_below hb1 hSw.1) (cell_below hb1 hSw.2)
  have hz1:=(hb1.block (w.heap.size + 1) (by simp [Hs0.out])).trans Hz.out
  have hB1:=HB0.out.drew.trans (hb1.mono (by simp [Hs0.out]))
  have hs1:=hb1.size
  simp only [World.size_drew,Hs0.out] at hs1
  have hou:=own_base (base':=w.heap.size) hou (by simp [Hs0.out])
  have Hou:=Lib.hid hou;have Hz1:=Lib.hid hz1;have HB1:=Lib.hid hB1;clear hou hz1 hB1 hb1 hSw
  dsimp only
  refine hK.out _ _ hS1 (fun hSw => ?_)
  clear hK K hS1
  refine XA.o 5 (fun K hK => ?_)
  go_simp
  refine (Hcy.out _ HB1.out).mono ?_
  rintro e w2 ⟨A2,c2,rfl,hcv,hov,hb2⟩
  have hdis:∀ j,(Value.slice A1 n c1).ownBlock = some j → (Value.slice A2 n c2).ownBlock ≠ some j:=fun j h1 h2 => by have:=(Hou.out.lt j h1).2;have:=(hov.lt j h2).1;omega
  have Hcv:=Lib.hid hcv;have Hdis:=Lib.hid hdis;clear hcv hdis
  have hS2:=And.intro (cell_below hb2 hSw.1) (cell_below hb2 hSw.2)
  have hz2:=(hb2.block (w.heap.size + 1) (by omega)).trans Hz1.out
  have hB2:=HB1.out.trans (hb2.mono HB1.out.size)
  have hs2:=hb2.size
  have hov:=own_base (base':=w.heap.size) hov HB1.out.size
  have hou2:=own_below Hou.out hb2
  obtain ⟨⟨z0,z1⟩,zf⟩:=bx2 hz2
  have l2:w.heap.size + 1 < w2.heap.size:=lt_of_block hz2
  have Hov:=Lib.hid hov;have Hou2:=Lib.hid hou2;have Hz2:=Lib.hid hz2;have HB2:=Lib.hid hB2;clear hov hou2 hz2 hB2 hb2 hSw
  dsimp only
  refine hK.out _ _ hS2 (fun hSw => ?_)
  clear hK K hS2
  refine XA.t ?_ [6] hSw ?_
  refine XA.e ?_
  clear hSw
  simp only [List.drop_succ_cons,List.drop_zero]
  go_wp2_with fail
  have e1:=heap_setCell_same w2 (w.heap.size + 1) 0 _ _ (.slice A1 n c1) Hz2.out
  have e2:=heap_setCell_same _ (w.heap.size + 1) 1 _ _ (.slice A2 n c2) e1
  have e3:((w2.setCell ⟨w.heap.size + 1,0,none⟩ (.slice A1 n c1)).setCell ⟨w.heap.size + 1,1,none⟩ (.slice A2 n c2)).heap[w.heap.size + 1]? = some (.cells #[(.slice A1 n c1),(.slice A2 n c2)] 67 (0,0)):=by simpa using e2
  have hk:Keep (fun j => j = w.heap.size + 1) w2 ((w2.setCell ⟨w.heap.size + 1,0,none⟩ (.slice A1 n c1)).setCell ⟨w.heap.size + 1,1,none⟩ (.slice A2 n c2)):=Keep.setCell (S:=fun j => j = w.heap.size + 1) (Keep.setCell (S:=fun j => j = w.heap.size + 1) (Keep.refl _ _) ⟨w.heap.size + 1,0,none⟩ (.inr rfl) _) ⟨w.heap.size + 1,1,none⟩ (.inr rfl) _
  obtain ⟨W9,hW9⟩:∃ W9,W9 = (w2.setCell ⟨w.heap.size + 1,0,none⟩ (.slice A1 n c1)).setCell ⟨w.heap.size + 1,1,none⟩ (.slice A2 n c2):=⟨_,rfl⟩
  rw [← hW9] at e3 hk ⊢
  obtain ⟨⟨x0,x1⟩,xf⟩:=bx2 e3
  have hu9:=hk.own Hou2.out (fun j hj e => block_notrow Hz2.out (by decide) Hou2.out (by rw [hj,e]))
  have hv9:=hk.own Hov.out (fun j hj e => block_notrow Hz2.out (by decide) Hov.out (by rw [hj,e]))
  have hb9:Below w.heap.size w W9:=HB2.out.trans (hk.toBelow (by omega) (fun j hj => by omega))
  exact bodyPost_ret (v:=.agg #[.slice A1 n c1,.slice A2 n c2]) (by simp [results,Tryz.results177,go_sem,x0,x1]) rfl ⟨A1,c1,A2,c2,rfl,Hcu.out,Hcv.out,hu9,hv9,Hdis.out,hb9⟩
set_option maxRecDepth 100000 in
set_option maxHeartbeats 1000000 in
theorem next_ok (ra mo q:Int) (A B G:Option Addr) (n c d cg:Nat) (ps ms g:List Int) (w:World) (hA:Rd w A (nums .i64 ps)) (hB:Rd w B (nums .i64 ms)) (hG:Rd w G (nums .i64 g)) (hpl:ps.length = n) (hml:ms.length = n) (hgl:g.length = n) (hn:n ≤ 1048576)
    (wr:-9223372036854775808 ≤ ra ∧ ra ≤ 9223372036854775807) (wo:-9223372036854775808 ≤ mo ∧ mo ≤ 9223372036854775807) (wm:W64 ms) (hGb:∀ a,G = some a → a.block < w.heap.size) :
    Calls Tryz.prog 181 #[.agg #[.int .i64 ra,.int .i64 mo,.int .i64 q],.agg #[.slice A n c,.slice B n d],.slice G n cg] w fun e w' => ∃ A1 c1 A2 c2,e = .returned (.tuple #[.agg #[.slice A1 n c1,.slice A2 n c2],.bool true]) ∧ n ≤ c1 ∧ n ≤ c2 ∧
      w'.ownsRow w.heap.size 2 1 (.slice A1 n c1) n (nums .i64 (nextP ra mo q ps ms g)) ∧ w'.ownsRow w.heap.size 2 1 (.slice A2 n c2) n (nums .i64 (nextM mo q ms g)) ∧ Below w.heap.size w w':=by
  have hcl:=fun w' (k:Below w.heap.size w w') => stclone_any A B n c d ps ms w' (hA.below k) (hB.below k) hpl hml hn
  have hap:=fun (A1 A2:Option Addr) c1 c2 base w' (k:Below w.heap.size w w') (hb:w.heap.size ≤ base) (h1:w'.ownsRow base 2 1 (.slice A1 n c1) n (nums .i64 ps)) (h2:w'.ownsRow base 2 1 (.slice A2 n c2) n (nums .i64 ms)) hne => apply_any ra mo q base n 0 n c1 c2 cg A1 A2 G ps ms g w' h1 h2 hne (hG.below k) hgl (by omega) hn
    (fun a ha e => by have:=(h1.lt _ e).1;have:=hGb a ha;omega) (fun a ha e => by have:=(h2.lt _ e).1;have:=hGb a ha;omega) wr wo wm
  have e1:=apP_all ra mo q ps ms g
  have e2:=apM_all mo q ms g
  rw [hpl] at e1
  rw [hml] at e2
  rw [e1,e2,Nat.zero_add] at hap
  have hq:((n:Int) != (n:Int)) = false:=by simp
  have Hcl:=Lib.hid hcl;have Hap:=Lib.hid hap
  clear hcl hap e1 e2 hA hB hG hpl hml hgl wr wo wm hGb
  go_enter Tryz.func181,Tryz.ntmps181
  go_wp2_with fail
  have hs0:(((w.alloc (.cells #[.int .i64 ra,.int .i64 mo,.int .i64 q] 286)).alloc (.cells #[.slice A n c,.slice B n d] 67)).alloc (.cells #[.slice none 0 0,.slice none 0 0] 67)).heap.size = w.heap.size + 3:=by simp
  have hB0:Below w.heap.size w (((w.alloc (.cells #[.int .i64 ra,.int .i64 mo,.int .i64 q] 286)).alloc (.cells #[.slice A n c,.slice B n d] 67)).alloc (.cells #[.slice none 0 0,.slice none 0 0] 67)):=(((Below.refl _ w).alloc (Nat.le_refl _) _).alloc (by simp) _).alloc (by simp;omega) _
  have hb0:=(Below.heap_alloc ((w.alloc (.cells #[.int .i64 ra,.int .i64 mo,.int .i64 q] 286)).alloc (.cells #[.slice A n c,.slice B n d] 67)) (.cells #[.slice none 0 0,.slice none 0 0] 67) w.heap.size (by simp;omega)).trans ((Below.heap_alloc (w.alloc (.cells #[.int .i64 ra,.int .i64 mo,.int .i64 q] 286)) (.cells #[.slice A n c,.slice B n d] 67) w.heap.size (by simp)).trans (heap_alloc_new w _))
  have hb1:=heap_alloc_new (w.alloc (.cells #[.int .i64 ra,.int .i64 mo,.int .i64 q] 286)) (.cells #[.slice A n c,.slice B n d] 67)
  rw [show (w.alloc (.cells #[.int .i64 ra,.int .i64 mo,.int .i64 q] 286)).heap.size = w.heap.size + 1 by simp] at hb1
  have hb1:=(Below.heap_alloc ((w.alloc (.cells #[.int .i64 ra,.int .i64 mo,.int .i64 q] 286)).alloc (.cells #[.slice A n c,.slice B n d] 67)) (.cells #[.slice none 0 0,.slice none 0 0] 67) (w.heap.size + 1) (by simp)).trans hb1
  have hb2:=heap_alloc_new ((w.alloc (.cells #[.int .i64 ra,.int .i64 mo,.int .i64 q] 286)).alloc (.cells #[.slice A n c,.slice B n d] 67)) (.cells #[.slice none 0 0,.slice none 0 0] 67)
  rw [show ((w.alloc (.cells #[.int .i64 ra,.int .i64 mo,.int .i64 q] 286)).alloc (.cells #[.slice A n c,.slice B n d] 67)).heap.size = w.heap.size + 1 + 1 by simp] at hb2
  obtain ⟨W0,hW0⟩:∃ W0,W0 = ((w.alloc (.cells #[.int .i64 ra,.int .i64 mo,.int .i64 q] 286)).alloc (.cells #[.slice A n c,.slice B n d] 67)).alloc (.cells #[.slice none 0 0,.slice none 0 0] 67):=⟨_,rfl⟩
  rw [← hW0] at hs0 hB0 hb0 hb1 hb2 ⊢
  have HB0:=Lib.hid hB0;have Hb0:=Lib.hid hb0;have Hb1:=Lib.hid hb1;have Hb2:=Lib.hid hb2;have Hs0:=Lib.hid hs0
  clear hs0 hB0 hb0 hb1 hb2 hW0
  refine (Hcl.out _ HB0.out).mono ?_
  rintro e w1 ⟨A1,c1,A2,c2,rfl,hc1,hc2,ho1,ho2,hdis,k1⟩
  have hx0:=(k1.block _ (lt_of_block Hb0.out)).trans Hb0.out
  have hx1:=(k1.block _ (lt_of_block Hb1.out)).trans Hb1.out
  have hx2:=(k1.block _ (lt_of_block Hb2.out)).trans Hb2.out
  have hl0:=lt_of_block hx0;have hl1:=lt_of_block hx1;have hl2:=lt_of_block hx2
  have hB1:=HB0.out.trans (k1.mono HB0.out.size)
  obtain ⟨⟨x0,x1,x2⟩,xf⟩:=bx3 hx0
  obtain ⟨⟨y0,y1⟩,yf⟩:=bx2 hx1
  have HX2:=Lib.hid hx2;have HB1:=Lib.hid hB1;have Hc1:=Lib.hid hc1;have Hc2:=Lib.hid hc2;have Ho1:=Lib.hid ho1;have Ho2:=Lib.hid ho2;have Hdis:=Lib.hid hdis
  clear k1 hx0 hx1 hx2 hB1 hc1 hc2 ho1 ho2 hdis
  go_wp2_with fail
  have hB2:=HB1.out.alloc HB1.out.size (.cells #[.slice A1 n c1,.slice A2 n c2] 67)
  have hs8:=heap_alloc_new w1 (.cells #[.slice A1 n c1,.slice A2 n c2] 67)
  have hx2:=(Below.heap_alloc w1 (.cells #[.slice A1 n c1,.slice A2 n c2] 67) _ (lt_of_block HX2.out)).trans HX2.out
  have ho1:=Ho1.out.alloc (.cells #[.slice A1 n c1,.slice A2 n c2] 67)
  have ho2:=Ho2.out.alloc (.cells #[.slice A1 n c1,.slice A2 n c2] 67)
  have hz1:w1.heap.size < (w1.alloc (.cells #[.slice A1 n c1,.slice A2 n c2] 67)).heap.size:=by simp
  obtain ⟨V,hV⟩:∃ V,V = w1.alloc (.cells #[.slice A1 n c1,.slice A2 n c2] 67):=⟨_,rfl⟩
  rw [← hV] at hB2 hs8 hx2 ho1 ho2 hz1 ⊢
  clear hV
  refine (Hap.out A1 A2 c1 c2 W0.heap.size V hB2 HB0.out.size ho1 ho2 Hdis.out).mono ?_
  rintro e w3 ⟨rfl,hp3,hm3,hK3⟩
  have hlo1:=ho1.lt
  have hlo2:=ho2.lt
  have hnS:∀ j,j < W0.heap.size → ¬ ((Value.slice A1 n c1).ownBlock = some j ∨ (Value.slice A2 n c2).ownBlock = some j):=fun j hj => by
    rintro (h | h)
    · have:=(hlo1 j h).1;omega
    · have:=(hlo2 j h).1;omega
  have hs83:=(hK3.block _ hz1 (by
    rintro (h | h)
    · have:=(Ho1.out.lt _ h).2;omega
    · have:=(Ho2.out.lt _ h).2;omega)).trans hs8
  have hx23:=(hK3.block _ (lt_of_block hx2) (hnS _ (lt_of_block Hb2.out))).trans hx2
  have hB3:=hB2.trans (hK3.toBelow hB2.size (fun j hj => by
    rcases hj with h | h
    · have:=(hlo1 j h).1;have:=HB0.out.size;omega
    · have:=(hlo2 j h).1;have:=HB0.out.size;omega))
  have hl3:=lt_of_block hx23
  obtain ⟨⟨z0,z1⟩,zf⟩:=bx2 hs83
  obtain ⟨⟨t0,t1⟩,tf⟩:=bx2 hx23
  have HX23:=Lib.hid hx23;have HB3:=Lib.hid hB3;have HP3:=Lib.hid hp3;have HM3:=Lib.hid hm3
  clear hx23 hB3 hp3 hm3 hK3 hs83 hs8 hx2 ho1 ho2 hB2 hlo1 hlo2 hnS x0 x1 x2 xf y0 y1 yf
  go_wp2_with fail
  have e1:=heap_setCell_same w3 (w.heap.size + 1 + 1) 0 _ _ (.slice A1 n c1) HX23.out
  have e2:=heap_setCell_same _ (w.heap.size + 1 + 1) 1 _ _ (.slice A2 n c2) e1
  have e3:((w3.setCell ⟨w.heap.size + 1 + 1,0,none⟩ (.slice A1 n c1)).setCell ⟨w.heap.size + 1 + 1,1,none⟩ (.slice A2 n c2)).heap[w.heap.size + 1 + 1]? = some (.cells #[.slice A1 n c1,.slice A2 n c2] 67 (0,0)):=by simpa using e2
  have hk:Keep (fun j => j = w.heap.size + 1 + 1) w3 ((w3.setCell ⟨w.heap.size + 1 + 1,0,none⟩ (.slice A1 n c1)).setCell ⟨w.heap.size + 1 + 1,1,none⟩ (.slice A2 n c2)):=Keep.setCell (S:=fun j => j = w.heap.size + 1 + 1) (Keep.setCell (S:=fun j => j = w.heap.size + 1 + 1) (Keep.refl _ _) ⟨w.heap.size + 1 + 1,0,none⟩ (.inr rfl) _) ⟨w.heap.size + 1 + 1,1,none⟩ (.inr rfl) _
  obtain ⟨W9,hW9⟩:∃ W9,W9 = (w3.setCell ⟨w.heap.size + 1 + 1,0,none⟩ (.slice A1 n c1)).setCell ⟨w.heap.size + 1 + 1,1,none⟩ (.slice A2 n c2):=⟨_,rfl⟩
  rw [← hW9] at e3 hk ⊢
  obtain ⟨⟨r0,r1⟩,rf⟩:=bx2 e3
  have hp9:=hk.own HP3.out (fun j hj e => block_notrow HX23.out (by decide) HP3.out (by rw [hj,e]))
  have hm9:=hk.own HM3.out (fun j hj e => block_notrow HX23.out (by decide) HM3.out (by rw [hj,e]))
  exact bodyPost_ret (v:=.tuple #[.agg #[.slice A1 n c1,.slice A2 n c2],.bool true]) (by simp [results,Tryz.results181,go_sem,r0,r1]) rfl ⟨A1,c1,A2,c2,rfl,Hc1.out,Hc2.out,own_base hp9 HB0.out.size,own_base hm9 HB0.out.size,HB3.out.trans (hk.toBelow HB3.out.size (fun j hj => by omega))⟩
set_option maxRecDepth 100000 in
set_option maxHeartbeats 1000000 in
theorem startD_any (A:Option Addr) (n c:Nat) (ps:List Int) (w:World) (hA:Rd w A (nums .i64 ps)) (hpl:ps.length = n) (hn:n ≤ 1048576) :
    Calls Tryz.prog 176 #[.slice A n c] w fun e w' => ∃ A1 c1 A2 c2,e = .returned (.agg #[.slice A1 n c1,.slice A2 n c2]) ∧ n ≤ c1 ∧ n ≤ c2 ∧ w'.ownsRow w.heap.size 2 1 (.slice A1 n c1) n (nums .i64 ps) ∧ w'.ownsRow w.heap.size 2 1 (.slice A2 n c2) n (nums .i64 (List.replicate n 0)) ∧ (∀ j,(Value.slice A1 n c1).ownBlock = some j → (Value.slice A2 n c2).ownBlock ≠ some j) ∧ Below w.heap.size w w':=by
  have hcx:=fun w' (k:Below w.heap.size w w') => vclone_any A ps c w' (hA.below k) (by omega)
  rw [hpl] at hcx
  have Hcx:=Lib.hid hcx
  have hmk:=fun w' => run_mk et_vec w' rfl n (by omega) (by unfold maxLen;omega)
  simp only [nums_rep] at hmk
  have Hmk:=Lib.hid hmk
  clear hcx hpl hA hmk
  go_enter Tryz.func176,Tryz.ntmps176
  go_wp2_with fail
  have hz:=heap_alloc_new w (.cells #[.slice none 0 0,.slice none 0 0] 67)
  have hB0:Below w.heap.size w (w.alloc (.cells #[.slice none 0 0,.slice none 0 0] 67)):=(Below.refl _ w).alloc (Nat.le_refl _) _
  obtain ⟨W0,hW0⟩:∃ W0,W0 = w.alloc (.cells #[.slice none 0 0,.slice none 0 0] 67):=⟨_,rfl⟩
  rw [← hW0] at hz hB0 ⊢
  have hl0:=lt_of_block hz
  have HZ:=Lib.hid hz;have HB0:=Lib.hid hB0
  clear hz hB0 hW0
  have hSw:(fun _:World => True) W0.drew:=trivial
  refine wp_region_X 6 (fun _:World => True) (by kernel_rfl) ?_
  refine wX 0 hSw ?_
  refine wX 2 hSw ?_
  refine wX 3 hSw ?_
  simp only [List.getElem_toArray,List.getElem_cons_succ,List.getElem_cons_zero,Act.put,List.setIfInBounds_toArray,List.set_cons_zero,List.set_cons_succ]
  refine wpAnyX_ready (rs:=[1,4]) (by kernel_rfl) (by simp) ?_
  refine AllReadyX.cons rfl (fun K hK => ?_) (AllReadyX.cons rfl (fun K hK => ?_) AllReadyX.nil)
  · simp only [List.getElem_toArray,List.getElem_cons_succ,List.getElem_cons_zero]
    go_simp
    refine (Hcx.out _ HB0.out.drew).mono ?_
    rintro e w1 ⟨A1,c1,rfl,hc1,ho1,hb1⟩
    have hB1:=HB0.out.drew.trans (hb1.mono HB0.out.size)
    have hz1:=(hb1.block w.heap.size (by simpa using hl0)).trans HZ.out
    have ho1':=own_base (base':=w.heap.size) ho1 (by have:=HB0.out.size;simpa using this)
    have hs1:=hb1.size
    have hdj:∀ j,(Value.slice A1 n c1).ownBlock = some j → j < w1.heap.size:=fun j hj => (ho1.lt j hj).2
    have Hdj:=Lib.hid hdj
    clear hdj
    simp only [World.size_drew] at hs1
    have HB1:=Lib.hid hB1;have HZ1:=Lib.hid hz1;have Ho1:=Lib.hid ho1';have Hc1:=Lib.hid hc1;clear hb1 hB1 hz1 ho1 ho1' hc1
    dsimp only
    refine hK.out _ _ trivial (fun hSw => ?_)
    clear hK K hSw
    refine wpAnyX_ready (rs:=[4]) (by kernel_rfl) (by simp) ?_
    refine AllReadyX.cons rfl (fun K hK => ?_) AllReadyX.nil
    simp only [List.getElem_toArray,List.getElem_cons_succ,List.getElem_cons_zero]
    obtain ⟨V,hrun,ho2,hb2⟩:=Hmk.out w1
    have HM2:=Lib.hid (own_base (base':=w.heap.size) ho2 HB1.out.size);have HB2:=Lib.hid (HB1.out.trans (hb2.mono HB1.out.size));have HZ2:=Lib.hid ((hb2.block w.heap.size (by omega)).trans HZ1.out);have HP2:=Lib.hid (own_below Ho1.out hb2)
    have hz2:=HZ2.out
    obtain ⟨⟨z0,z1⟩,zf⟩:=bx2 hz2
    have hl2:=lt_of_block hz2
    clear ho2 hb2 hz2
    go_simp
    refine hK.out _ _ trivial (fun hSw => ?_)
    clear hK K hrun
    refine wX 5 hSw ?_
    simp only [List.getElem_toArray,List.getElem_cons_succ,List.getElem_cons_zero,Act.put,List.setIfInBounds_toArray,List.set_cons_zero,List.set_cons_succ]
    refine wpAnyX_tail (by rfl) (by kernel_rfl) ?_
    simp only [List.drop_succ_cons,List.drop_zero]
    go_wp2_with fail
    have e1:=heap_setCell_same V w.heap.size 0 _ _ (.slice A1 n c1) HZ2.out
    have e2:=heap_setCell_same _ w.heap.size 1 _ _ (.slice (some ⟨w1.heap.size,0,none⟩) n n) e1
    have e3:((V.setCell ⟨w.heap.size,0,none⟩ (.slice A1 n c1)).setCell ⟨w.heap.size,1,none⟩ (.slice (some ⟨w1.heap.size,0,none⟩) n n)).heap[w.heap.size]? = some (.cells #[.slice A1 n c1,.slice (some ⟨w1.heap.size,0,none⟩) n n] 67 (0,0)):=by simpa using e2
    have hk:Keep (fun j => j = w.heap.size) V ((V.setCell ⟨w.heap.size,0,none⟩ (.slice A1 n c1)).setCell ⟨w.heap.size,1,none⟩ (.slice (some ⟨w1.heap.size,0,none⟩) n n)):=Keep.setCell (S:=fun j => j = w.heap.size) (Keep.setCell (S:=fun j => j = w.heap.size) (Keep.refl _ _) ⟨w.heap.size,0,none⟩ (.inr rfl) _) ⟨w.heap.size,1,none⟩ (.inr rfl) _
    obtain ⟨W9,hW9⟩:∃ W9,W9 = (V.setCell ⟨w.heap.size,0,none⟩ (.slice A1 n c1)).setCell ⟨w.heap.size,1,none⟩ (.slice (some ⟨w1.heap.size,0,none⟩) n n):=⟨_,rfl⟩
    rw [← hW9] at e3 hk ⊢
    obtain ⟨⟨r0,r1⟩,rf⟩:=bx2 e3
    have hp9:=hk.own HP2.out (fun j hj e => block_notrow HZ2.out (by decide) HP2.out (by rw [hj,e]))
    have hm9:=hk.own HM2.out (fun j hj e => block_notrow HZ2.out (by decide) HM2.out (by rw [hj,e]))
    exact bodyPost_ret (v:=.agg #[.slice A1 n c1,.slice (some ⟨w1.heap.size,0,none⟩) n n]) (by simp [results,Tryz.results176,go_sem,r0,r1]) rfl ⟨A1,c1,_,n,rfl,Hc1.out,Nat.le_refl _,hp9,hm9,fun j hj e => by
      have h1:=Hdj.out j hj
      have h2:w1.heap.size = j:=by simpa [Value.ownBlock] using e
      omega,HB2.out.trans (hk.toBelow HB2.out.size (fun j hj => by omega))⟩
  · simp only [List.getElem_toArray,List.getElem_cons_succ,List.getElem_cons_zero]
    obtain ⟨w1,hrun,ho2,hb2⟩:=Hmk.out W0.drew
    have hB1:=HB0.out.drew.trans (hb2.mono HB0.out.size)
    have hz1:=(hb2.block w.heap.size (by simpa using hl0)).trans HZ.out
    have ho2':=own_base (base':=w.heap.size) ho2 (by have:=HB0.out.size;simpa using this)
    have hs1:=hb2.size
    simp only [World.size_drew] at hs1 ho2' hrun
    have HB1:=Lib.hid hB1;have HZ1:=Lib.hid hz1;have Ho2:=Lib.hid ho2';clear hb2 hB1 hz1 ho2 ho2'
    go_simp
    refine hK.out _ _ trivial (fun hSw => ?_)
    clear hK K hrun
    refine wpAnyX_ready (rs:=[1]) (by kernel_rfl) (by simp) ?_
    refine AllReadyX.cons rfl (fun K hK => ?_) AllReadyX.nil
    simp only [List.getElem_toArray,List.getElem_cons_succ,List.getElem_cons_zero]
    go_simp
    refine (Hcx.out _ HB1.out).mono ?_
    rintro e V ⟨A1,c1,rfl,hc1,ho1,hb1⟩
    have hdj:∀ j,(Value.slice A1 n c1).ownBlock = some j → w1.heap.size ≤ j:=fun j hj => (ho1.lt j hj).1
    have Hdj:=Lib.hid hdj
    clear hdj
    have HP2:=Lib.hid (own_base (base':=w.heap.size) ho1 HB1.out.size);have HB2:=Lib.hid (HB1.out.trans (hb1.mono HB1.out.size));have HZ2:=Lib.hid ((hb1.block w.heap.size (by omega)).trans HZ1.out);have HM2:=Lib.hid (own_below Ho2.out hb1);have Hc1:=Lib.hid hc1
    have hz2:=HZ2.out
    obtain ⟨⟨z0,z1⟩,zf⟩:=bx2 hz2
    have hl2:=lt_of_block hz2
    clear ho1 hb1 hz2 hc1
    dsimp only
    refine hK.out _ _ trivial (fun hSw => ?_)
    clear hK K
    refine wX 5 hSw ?_
    simp only [List.getElem_toArray,List.getElem_cons_succ,List.getElem_cons_zero,Act.put,List.setIfInBounds_toArray,List.set_cons_zero,List.set_cons_succ]
    refine wpAnyX_tail (by rfl) (by kernel_rfl) ?_
    simp only [List.drop_succ_cons,List.drop_zero]
    go_wp2_with fail
    have e1:=heap_setCell_same V w.heap.size 0 _ _ (.slice A1 n c1) HZ2.out
    have e2:=heap_setCell_same _ w.heap.size 1 _ _ (.slice (some ⟨W0.heap.size,0,none⟩) n n) e1
    have e3:((V.setCell ⟨w.heap.size,0,none⟩ (.slice A1 n c1)).setCell ⟨w.heap.size,1,none⟩ (.slice (some ⟨W0.heap.size,0,none⟩) n n)).heap[w.heap.size]? = some (.cells #[.slice A1 n c1,.slice (some ⟨W0.heap.size,0,none⟩) n n] 67 (0,0)):=by simpa using e2
    have hk:Keep (fun j => j = w.heap.size) V ((V.setCell ⟨w.heap.size,0,none⟩ (.slice A1 n c1)).setCell ⟨w.heap.size,1,none⟩ (.slice (some ⟨W0.heap.size,0,none⟩) n n)):=Keep.setCell (S:=fun j => j = w.heap.size) (Keep.setCell (S:=fun j => j = w.heap.size) (Keep.refl _ _) ⟨w.heap.size,0,none⟩ (.inr rfl) _) ⟨w.heap.size,1,none⟩ (.inr rfl) _
    obtain ⟨W9,hW9⟩:∃ W9,W9 = (V.setCell ⟨w.heap.size,0,none⟩ (.slice A1 n c1)).setCell ⟨w.heap.size,1,none⟩ (.slice (some ⟨W0.heap.size,0,none⟩) n n):=⟨_,rfl⟩
    rw [← hW9] at e3 hk ⊢
    obtain ⟨⟨r0,r1⟩,rf⟩:=bx2 e3
    have hp9:=hk.own HP2.out (fun j hj e => block_notrow HZ2.out (by decide) HP2.out (by rw [hj,e]))
    have hm9:=hk.own HM2.out (fun j hj e => block_notrow HZ2.out (by decide) HM2.out (by rw [hj,e]))
    exact bodyPost_ret (v:=.agg #[.slice A1 n c1,.slice (some ⟨W0.heap.size,0,none⟩) n n]) (by simp [results,Tryz.results176,go_sem,r0,r1]) rfl ⟨A1,c1,_,n,rfl,Hc1.out,Nat.le_refl _,hp9,hm9,fun j hj e => by
      have h1:=Hdj.out j hj
      have h2:W0.heap.size = j:=by simpa [Value.ownBlock] using e
      have h3:=(Ho2.out.lt W0.heap.size rfl).2
      omega,HB2.out.trans (hk.toBelow HB2.out.size (fun j hj => by omega))⟩
theorem start_any (A:Option Addr) (n c:Nat) (ps:List Int) (w:World) (hA:Rd w A (nums .i64 ps)) (hpl:ps.length = n) (hn:n ≤ 1048576) :
    Calls Tryz.prog 176 #[.slice A n c] w fun e w' => ∃ A1 c1 A2 c2,e = .returned (.agg #[.slice A1 n c1,.slice A2 n c2]) ∧ n ≤ c1 ∧ n ≤ c2 ∧ w'.ownsRow w.heap.size 2 1 (.slice A1 n c1) n (nums .i64 ps) ∧ w'.ownsRow w.heap.size 2 1 (.slice A2 n c2) n (nums .i64 (List.replicate n 0)) ∧ Below w.heap.size w w':=
  (startD_any A n c ps w hA hpl hn).mono fun e w' ⟨A1,c1,A2,c2,h1,h2,h3,h4,h5,_,h6⟩ => ⟨A1,c1,A2,c2,h1,h2,h3,h4,h5,h6⟩
end Go.Proofs.YthamijnggdjaoaaGreatDoor
namespace Go.Proofs.YthamijnggdjaoaaGreatDoor
open Go.RowKit
theorem ssteps_any (S n b steps:Nat) (l:List Int) (w:World) (h:SampAt w S n b steps l) :
    Calls Tryz.prog 178 #[.pointer (some ⟨S,0,none⟩)] w fun e w' => e = .returned (.int .i64 steps) ∧ w = w':=by
  obtain ⟨Ab,cb,Ao,co,vs,h1,h2,h3,h4,h5⟩:=h
  obtain ⟨⟨r0,r1,r2,r3⟩,rf⟩:=bx4 h1
  clear h1 h2 h3 h4 h5
  go_enter Tryz.func178,Tryz.ntmps178
  go_wp2
  go_ret
  exact ⟨rfl,rfl⟩
theorem sepoch_any (S n b steps t:Nat) (l:List Int) (w:World) (h:SampAt w S n b steps l) (hn:n ≤ 1048576) (hnb:1 ≤ n / b) (hst:steps ≤ 1048576) (ht:t < steps) :
    Calls Tryz.prog 260 #[.pointer (some ⟨S,0,none⟩),.int .i64 t] w fun e w' => e = .returned (.tuple #[.int .i64 ((t / (n / b):Nat):Int),.int .i64 ((t % (n / b):Nat):Int),.bool true]) ∧ ∃ d,w' = w.drewN d:=by
  have hs:=ssteps_any S n b steps l w h
  obtain ⟨Ab,cb,Ao,co,vs,h1,h2,h3,h4,h5⟩:=h
  have hle:=Nat.div_le_self n b
  obtain ⟨nb,hnb'⟩:∃ nb,n / b = nb:=⟨_,rfl⟩
  rw [hnb'] at h1 hnb hle ⊢
  obtain ⟨⟨r0,r1,r2,r3⟩,rf⟩:=bx4 h1
  obtain ⟨e0,he0⟩:∃ e0,t / nb = e0:=⟨_,rfl⟩
  obtain ⟨p0,hp0⟩:∃ p0,t % nb = p0:=⟨_,rfl⟩
  have hq1:(t:Int).tdiv (nb:Int) = (e0:Int):=by rw [← he0];rfl
  have hq2:(t:Int).tmod (nb:Int) = (p0:Int):=by rw [← hp0];rfl
  have he1:e0 ≤ t:=by rw [← he0];exact Nat.div_le_self _ _
  have hp1:p0 ≤ t:=by rw [← hp0];exact Nat.mod_le _ _
  have hq3:IntKind.i64.wrap (e0:Int) = (e0:Int):=IntWalk.i64_in _ (by omega)
  have hq4:IntKind.i64.wrap (p0:Int) = (p0:Int):=IntWalk.i64_in _ (by omega)
  have hq5:¬ (nb = 0):=by omega
  have hti:(t:Int) < steps:=by omega
  have ht0:¬ ((t:Int) < 0):=by omega
  have hti2:¬ ((steps:Int) ≤ t):=by omega
  rw [he0,hp0]
  have Hs:=Lib.hid hs;clear hs h1 h2 h3 h4 h5 hnb' he0 hp0
  go_enter Tryz.func260,Tryz.ntmps260
  go_wp2_with fail
  refine Hs.out.mono ?_
  rintro e w' ⟨rfl,rfl⟩
  go_wp2_with fail
  go_quiet (fail)
  go_wp2_with fail
  go_ret3
  exact ⟨rfl,_,rfl⟩
def batchN (l:List Int) (n b t:Nat):List Int:=((permN l n ((t / (n / b)) * (n - 1))).drop (t % (n / b) * b)).take b
theorem epoch_lt {n b steps t:Nat} (ht:t < steps):t / (n / b) < epN n b steps:=by
  unfold epN cntQ
  rw [if_neg (by omega)]
  have:=Nat.div_le_div_right (c:=n / b) (show t ≤ steps - 1 by omega)
  omega
theorem batchN_len (l:List Int) {n b t:Nat} (hnb:1 ≤ n / b):(batchN l n b t).length = b:=by
  unfold batchN
  have h1:=whole_le n b (t % (n / b)) (Nat.mod_lt _ hnb)
  rw [List.length_take,List.length_drop,permN_len]
  omega
theorem batchN_bd (l:List Int) {n b t:Nat} (hnb:1 ≤ n / b):∀ k,k < b → 0 ≤ nth (batchN l n b t) k ∧ nth (batchN l n b t) k < n:=fun k hk => by
  have h1:=whole_le n b (t % (n / b)) (Nat.mod_lt _ hnb)
  unfold batchN
  rw [nth_take hk,nth_drop]
  exact permN_bd l n _ _ (by omega)
set_option maxHeartbeats 1000000 in
theorem sview_any (S n b steps t:Nat) (l:List Int) (w:World) (h:SampAt w S n b steps l) (hb:1 ≤ b) (hn:n ≤ 1048576) (hnb:1 ≤ n / b) (hst:steps ≤ 1048576) (ht:t < steps) :
    Calls Tryz.prog 227 #[.pointer (some ⟨S,0,none⟩),.int .i64 t] w fun e w' => ∃ A c,e = .returned (.slice A b c) ∧ Rd w' A (nums .i64 (batchN l n b t)) ∧ Below w.heap.size w w':=by
  have hep:=sepoch_any S n b steps t l w h hn hnb hst ht
  obtain ⟨Ab,cb,Ao,co,vs,h1,h2,h3,h4,h5⟩:=h
  have hle:=Nat.div_le_self n b
  have he:=epoch_lt (n:=n) (b:=b) ht
  have hm:=Nat.mod_lt t hnb
  have hwh:=whole_le n b _ hm
  have hmn:=whole_min n b _ hb hm
  have hb2:=blkVals_at (n - n % b) b hm
  rw [hmn] at hb2
  obtain ⟨A1,c1,k1,k2,k3⟩:=h5 _ he
  have hbt:batchN l n b t = ((permN l n ((t / (n / b)) * (n - 1))).drop (t % (n / b) * b)).take b:=rfl
  rw [hbt]
  have hel:epN n b steps ≤ steps:=cntQ_le _ _
  obtain ⟨pl,hpl⟩:∃ pl,permN l n ((t / (n / b)) * (n - 1)) = pl:=⟨_,rfl⟩
  have hpn:pl.length = n:=by rw [← hpl];exact permN_len _ _ _
  rw [hpl] at k3 ⊢
  obtain ⟨E,hE⟩:∃ E,epN n b steps = E:=⟨_,rfl⟩
  rw [hE] at he h1 h4 hel
  obtain ⟨e0,he0⟩:∃ e0,t / (n / b) = e0:=⟨_,rfl⟩
  obtain ⟨p0,hp0⟩:∃ p0,t % (n / b) = p0:=⟨_,rfl⟩
  rw [he0] at hep he k1
  rw [hp0] at hep hm hwh hb2 ⊢
  obtain ⟨nb,hnb'⟩:∃ nb,n / b = nb:=⟨_,rfl⟩
  rw [hnb'] at h1 h2 hnb hm hle hb2
  obtain ⟨lo,hlo⟩:∃ lo,p0 * b = lo:=⟨_,rfl⟩
  rw [hlo] at hwh hb2 ⊢
  obtain ⟨bb,ob,rfl,q0⟩:=h2 _ _ hb2.1
  obtain ⟨_,_,e2,q1⟩:=h2 _ _ hb2.2
  injection e2 with e2;injection e2 with i1 i2 _;subst i1;subst i2
  obtain ⟨bo,oo,rfl,q2⟩:=h3 _ _ k1
  obtain ⟨bg,og,rfl,q3⟩:=k3.num (show 0 < pl.length by omega)
  rw [← Nat.add_assoc] at q1
  have hm2:(p0:Int) < nb:=by omega
  have he2:(e0:Int) < E:=by omega
  have hl1:(lo:Int) ≤ ((lo + b:Nat):Int):=by omega
  have hl2:((lo + b:Nat):Int) ≤ c1:=by omega
  have hl3:lo ≤ lo + b:=by omega
  have hl4:lo + b ≤ c1:=by omega
  have hl5:¬ (c1 = lo):=by omega
  have b1:bo < w.heap.size:=lt_of_cell q2
  have b2:bb < w.heap.size:=lt_of_cell q0
  obtain ⟨⟨r0,r1,r2,r3⟩,rf⟩:=bx4 h1
  have b3:S < w.heap.size:=lt_of_block h1
  have H1:=Lib.hid h1;have Hep:=Lib.hid hep;have K3:=Lib.hid k3
  clear hep k3 h1 h2 h3 h4 h5 hE he0 hp0 hnb' hlo hpl hpn hb2 k1 q3 hmn hbt
  go_enter Tryz.func227,Tryz.ntmps227
  go_wp2_with fail
  refine Hep.out.mono ?_
  rintro e w' ⟨rfl,d,rfl⟩
  have hb1:Below w.heap.size w (w.drewN d):=below_drewN (Below.refl _ _) d
  have hz1:(w.drewN d).heap.size = w.heap.size:=by simp
  generalize w.drewN d = w1 at hb1 hz1 ⊢
  have q0':=cell_below hb1 q0
  have q1':=cell_below hb1 q1
  have q2':=cell_below hb1 q2
  have H1_:=(hb1.block _ b3).trans H1.out
  obtain ⟨⟨y0,y1,y2,y3⟩,yf⟩:=bx4 H1_
  rw [← hz1] at b1 b2 b3
  have Hb1:=Lib.hid hb1;have Hz1:=Lib.hid hz1
  clear q0 q1 q2 r0 r1 r2 r3 rf hb1 hz1 H1_
  go_wp2_with fail
  have hl6:(lo:Int) + b ≤ c1:=by omega
  have hl7:((lo:Int) + b).toNat = lo + b:=by omega
  have hl8:(0:Int) ≤ (lo:Int) + b:=by omega
  have hl9:(lo:Int) ≤ (lo:Int) + b:=by omega
  have hl0:lo + b - lo = b:=by omega
  have hlx:¬ (lo + b = lo):=by omega
  go_quiet (fail)
  go_wp2_with fail
  go_ret
  refine ⟨_,_,rfl,?_,below_drewN (Hb1.out.alloc (by have:=Hz1.out;omega) _) _⟩
  have:=((((K3.out.below Hb1.out).alloc (.cells #[.int .i64 (lo:Int),.int .i64 ((lo:Int) + b)] 125)).drewN nq).drop lo).take b
  rwa [nums_drop,nums_take] at this
theorem sbatch_any (S n b steps t:Nat) (l:List Int) (w:World) (h:SampAt w S n b steps l) (hb:1 ≤ b) (hbn:b ≤ n) (hn:n ≤ 1048576) (hst:steps ≤ 1048576) (ht:t < steps) :
    Calls Tryz.prog 180 #[.pointer (some ⟨S,0,none⟩),.int .i64 t] w fun e w' => ∃ A c,e = .returned (.slice A b c) ∧ b ≤ c ∧ Rd w' A (nums .i64 (batchN l n b t)) ∧ Below w.heap.size w w':=by
  have hnb:1 ≤ n / b:=Nat.div_pos hbn hb
  have hv:=sview_any S n b steps t l w h hb hn hnb hst ht
  have hbl:=batchN_len l (t:=t) hnb
  obtain ⟨bl,hbl'⟩:∃ bl,batchN l n b t = bl:=⟨_,rfl⟩
  rw [hbl'] at hv hbl ⊢
  have hic:=fun A c w' (hA:Rd w' A (nums .i64 bl)) => iclone_any A bl c w' hA (by omega)
  rw [hbl] at hic
  have Hv:=Lib.hid hv;have Hic:=Lib.hid hic;clear hv hic hbl' h hbl
  go_enter Tryz.func180,Tryz.ntmps180
  go_wp2_with fail
  refine Hv.out.mono ?_
  rintro e w1 ⟨A,c,rfl,hr,hb1⟩
  have hi:=Hic.out A c w1 hr
  have Hi:=Lib.hid hi;have Hb1:=Lib.hid hb1;clear hi hr hb1
  go_wp2_with fail
  refine Hi.out.mono ?_
  rintro e w2 ⟨v,rfl,ho,hb2⟩
  obtain ⟨A2,c2,rfl,hc2⟩:=own_form ho
  have Ho:=Lib.hid (Rd.own ho);have Hb2:=Lib.hid (Hb1.out.trans (hb2.mono Hb1.out.size));have Hc2:=Lib.hid hc2;clear ho hb2 hc2
  go_wp2
  go_ret
  exact ⟨_,_,rfl,Hc2.out,Ho.out,Hb2.out⟩
end Go.Proofs.YthamijnggdjaoaaGreatDoor
namespace Go.Proofs.YthamijnggdjaoaaGreatDoor
open Go.RowKit
theorem ExOwn.keep {w w':World} {base:Nat} {cs:List Value} {e:Ex} (h:ExOwn w base cs e) {S:Nat → Prop} (k:Keep S w w') (hS:∀ j,S j → j < base):ExOwn w' base cs e:=by
  obtain ⟨u,v,rfl,h1,h2,h3⟩:=h
  exact ⟨u,v,rfl,k.own h1 (fun i hi hs => by have:=hS i hs;have:=(h1.lt i hi).1;omega),k.own h2 (fun i hi hs => by have:=hS i hs;have:=(h2.lt i hi).1;omega),h3⟩
def MapO (base:Nat) (w:World) (l:List Ex) (n:Nat) (v:Value):Prop:=∃ rows,w.ownsRow base 72 2 v n (List.flatten rows) ∧ rows.length = n ∧ (∀ r ∈ rows,r.length = 2) ∧ (∀ j x,j < n → l[j]? = some x → ExOwn w base (rowOf rows j) x)
theorem MapI.own {w wr:World} {l:List Ex} {k:Nat} {v:Value} (h:MapI w wr l k v):MapO w.heap.size wr l k v:=by
  obtain ⟨rows,h1,h2,h3,h4,_⟩:=h
  exact ⟨rows,h1,h2,h3,h4⟩
theorem MapO.base {base base':Nat} {w:World} {l:List Ex} {n:Nat} {v:Value} (h:MapO base w l n v) (hb:base' ≤ base):MapO base' w l n v:=by
  obtain ⟨rows,h1,h2,h3,h4⟩:=h
  exact ⟨rows,own_base h1 hb,h2,h3,fun j x hj hx => (h4 j x hj hx).base hb⟩
theorem MapO.keep {base:Nat} {w w':World} {l:List Ex} {n:Nat} {v:Value} (h:MapO base w l n v) {S:Nat → Prop} (k:Keep S w w') (hS:∀ j,S j → j < base):MapO base w' l n v:=by
  obtain ⟨rows,h1,h2,h3,h4⟩:=h
  exact ⟨rows,k.own h1 (fun i hi hs => by have:=hS i hs;have:=(h1.lt i hi).1;omega),h2,h3,fun j x hj hx => (h4 j x hj hx).keep k hS⟩
theorem MapO.below {base:Nat} {w w':World} {l:List Ex} {n:Nat} {v:Value} (h:MapO base w l n v) (hb:Below w.heap.size w w'):MapO base w' l n v:=h.keep (S:=fun _ => False) (Keep.below hb) (fun _ h => h.elim)
theorem MapO.rd {base:Nat} {w:World} {l:List Ex} {A:Option Addr} {n c:Nat} (h:MapO base w l n (.slice A n c)) (hn:l.length = n):SlRd rEx 2 w A l:=by
  obtain ⟨rows,h1,h2,h3,h4⟩:=h
  exact ⟨rows,Rd.own h1,by omega,h3,fun j x hx => (h4 j x (by have:=(List.getElem?_eq_some_iff.1 hx).1;omega) hx).rd⟩
set_option maxRecDepth 100000 in
theorem pick_own (c d:Nat) (A B:Option Addr) (l:List Ex) (idx:List Int) (w:World) (h:SlRd rEx 2 w A l) (hl:l.length ≤ 1048576) (hB:Rd w B (nums .i64 idx)) (hi:idx.length ≤ 1048576) :
    Calls Tryz.prog 256 #[.slice A l.length c,.slice B idx.length d] w fun e w' => Below w.heap.size w w' ∧
      (((∀ k,k < idx.length → goodI l.length (nth idx k)) ∧ ∃ A' c',e = .returned (.tuple #[.slice A' idx.length c',.bool true]) ∧ MapO w.heap.size w' (pickL l idx) idx.length (.slice A' idx.length c')) ∨ ((¬ ∀ k,k < idx.length → goodI l.length (nth idx k)) ∧ e = .returned (.tuple #[.slice none 0 0,.bool false]))):=by
  have hm:=mapint_any w.heap.size c d A B l idx (w.alloc (.cells #[.slice A l.length c] 25)) (heap_alloc_new w _) (h.below stays_ex ((Below.refl _ w).alloc (Nat.le_refl _) _)) hl (hB.alloc _) hi
  have hpl:=pickL_len l idx
  unfold PickIs at hm
  obtain ⟨n,hn⟩:∃ n,idx.length = n:=⟨_,rfl⟩
  obtain ⟨N,hN⟩:∃ N,l.length = N:=⟨_,rfl⟩
  rw [hn,hN] at hm ⊢
  rw [hn] at hpl
  have Hm:=Lib.hid hm;have Hpl:=Lib.hid hpl;clear hm hpl hn hN h hB
  go_enter Tryz.func256,Tryz.ntmps256
  go_wp2_with fail
  refine Hm.out.mono ?_
  rintro e w1 ⟨hb,hp⟩
  have hb1:Below w.heap.size w w1:=((Below.refl _ w).alloc (Nat.le_refl _) _).trans (hb.mono (by first | omega | (simp;done) | (simp;omega)))
  have Hb:=Lib.hid hb1;clear hb hb1
  rcases hp with ⟨hg,v,rfl,hM⟩ | ⟨hg,rfl⟩
  · obtain ⟨A',c',rfl⟩:=hM.form
    have Hg:=Lib.hid hg;have HM:=Lib.hid hM;clear hg hM
    go_wp2_with fail
    go_ret2
    exact ⟨Hb.out,.inl ⟨Hg.out,_,_,rfl,HM.out.own.base (by simp)⟩⟩
  · have Hg:=Lib.hid hg;clear hg
    go_wp2_with fail
    go_ret2
    exact ⟨Hb.out,.inr ⟨Hg.out,rfl⟩⟩
end Go.Proofs.YthamijnggdjaoaaGreatDoor
namespace Go.Proofs.YthamijnggdjaoaaGreatDoor
open Go.RowKit
theorem cnt_pos {i:Inp} (h:GoodSz i.cfg.sizes):1 ≤ cnt i:=by
  unfold cnt
  have h1:=h.1.1
  have:=cntN_mono i.cfg.sizes (show 1 ≤ i.cfg.sizes.length - 1 by omega)
  have h2:cntN i.cfg.sizes 1 = 0 + (szN i.cfg.sizes 0 + 1) * szN i.cfg.sizes 1:=rfl
  have h3:=(h.1.at (k:=1) (by omega)).1
  have h4:1 * 1 ≤ (szN i.cfg.sizes 0 + 1) * szN i.cfg.sizes 1:=Nat.mul_le_mul (by omega) h3
  omega
theorem rd_lt {w:World} {A:Option Addr} {l:List Int} (h:Rd w A (nums .i64 l)) (hl:0 < l.length):∀ a,A = some a → a.block < w.heap.size:=fun a ha => by
  obtain ⟨b,o,e,p⟩:=h.num hl
  rw [ha] at e
  injection e with e
  subst e
  exact lt_of_cell p
def gradAcc (i:Inp) (P:List Int) (l:List Ex):List Int:=l.foldl (fun a x => addL a (gradL i.cfg.sizes P i.cfg.shift x.1 x.2)) (List.replicate (cnt i) 0)
theorem gradAcc_snoc (i:Inp) (P:List Int) (l:List Ex) (x:Ex):gradAcc i P (l ++ [x]) = addL (gradAcc i P l) (gradL i.cfg.sizes P i.cfg.shift x.1 x.2):=by simp [gradAcc]
theorem gradAcc_len (i:Inp) (P:List Int) (l:List Ex):(gradAcc i P l).length = cnt i:=by
  have:∀ (l:List Ex) (a:List Int),(l.foldl (fun a x => addL a (gradL i.cfg.sizes P i.cfg.shift x.1 x.2)) a).length = a.length:=by
    intro l
    induction l with
    | nil => intro a;rfl
    | cons x l ih => intro a;rw [List.foldl_cons,ih,addL_len]
  unfold gradAcc
  rw [this,List.length_replicate]
theorem gradAcc_W64 (i:Inp) (P:List Int) (l:List Ex):W64 (gradAcc i P l):=by
  have:∀ (l:List Ex) (a:List Int),W64 a → W64 (l.foldl (fun a x => addL a (gradL i.cfg.sizes P i.cfg.shift x.1 x.2)) a):=by
    intro l
    induction l with
    | nil => intro a h;exact h
    | cons x l ih => intro a _;exact ih _ (upTo_W64 fun _ _ => wrap64_bd _)
  refine this _ _ fun k hk => ?_
  rw [nth_eq _ _ hk];simp
def lossAcc (i:Inp) (P:List Int) (l:List Ex):Int:=l.foldl (fun a x => wrap64 (a + lossN i.cfg.sizes P i.cfg.shift x.1 x.2)) 0
theorem lossAcc_snoc (i:Inp) (P:List Int) (l:List Ex) (x:Ex):lossAcc i P (l ++ [x]) = wrap64 (lossAcc i P l + lossN i.cfg.sizes P i.cfg.shift x.1 x.2):=by simp [lossAcc]
theorem pick_fit {i:Inp} (hg:GoodIn i) {idx:List Int} {j:Nat} {x:Ex} (hgood:∀ k,k < idx.length → goodI i.data.length (nth idx k)) (hj:j < idx.length) (hx:(pickL i.data idx)[j]? = some x):fitEx (inN i) (outN i) x:=by
  rw [pickL_at _ _ hj] at hx
  injection hx with hx
  have h1:=hgood j hj
  unfold goodI at h1
  have h2:(nth idx j).toNat < i.data.length:=by omega
  have h3:i.data.getD (nth idx j).toNat ([],[]) = i.data[(nth idx j).toNat]:=by simp [h2]
  rw [← hx,h3]
  exact hg.f _ (List.getElem_mem h2)
theorem st_p (A1 A2:Option Addr) (n1 c1 n2 c2:Nat) (w:World):Sem.run Tryz.prog (Instr.field 67 (.agg #[.slice A1 n1 c1,.slice A2 n2 c2]) 0) w = .ok (.slice A1 n1 c1) w:=by kernel_rfl
def allGood (i:Inp) (idx:List Int):Prop:=∀ k,k < idx.length → goodI i.data.length (nth idx k)
def stepG (i:Inp) (P:List Int) (k:Nat):List Int:=gradAcc i P (pickL i.data (batchN i.draws i.data.length i.cfg.batch.toNat k))
def traj (i:Inp):Nat → Ex
  | 0 => (i.start,List.replicate (cnt i) 0)
  | k + 1 => (nextP i.cfg.rate i.cfg.mom i.cfg.shift (traj i k).1 (traj i k).2 (stepG i (traj i k).1 k),nextM i.cfg.mom i.cfg.shift (traj i k).2 (stepG i (traj i k).1 k))
theorem batch_good {i:Inp} (hg:GoodIn i) (k:Nat):allGood i (batchN i.draws i.data.length i.cfg.batch.toNat k):=fun j hj => by
  have h1:=hg.c.w;have h2:=hg.c.ba;have h3:=hg.b
  have hnb:1 ≤ i.data.length / i.cfg.batch.toNat:=Nat.div_pos (by omega) (by omega)
  rw [batchN_len _ hnb] at hj
  exact batchN_bd _ hnb j hj
theorem et_sts:ElemT Tryz.prog 32 67 (.agg #[.slice none 0 0,.slice none 0 0]) 2 48:=⟨Tryz.underlying32,info_parts (by kernel_rfl),rfl,by decide⟩
def trajL (i:Inp) (n:Nat):List Ex:=(List.range n).map (traj i)
theorem trajL_len (i:Inp) (n:Nat):(trajL i n).length = n:=by simp [trajL]
theorem trajL_at (i:Inp) {n j:Nat} (h:j < n):(trajL i n)[j]? = some (traj i j):=by simp [trajL,h]
theorem traj_len (i:Inp) (h:i.start.length = cnt i):∀ k,(traj i k).1.length = cnt i ∧ (traj i k).2.length = cnt i:=by
  intro k
  induction k with
  | zero => exact ⟨h,by simp [traj]⟩
  | succ k ih => exact ⟨by rw [traj];dsimp only;rw [nextP_len];exact ih.1,by rw [traj];dsimp only;rw [nextM_len];exact ih.2⟩
def MapS (base:Nat) (w:World) (i:Inp) (n:Nat) (v:Value):Prop:=∃ rows,w.ownsRow base 67 2 v n (List.flatten rows) ∧ rows.length = n ∧ (∀ r ∈ rows,r.length = 2) ∧ (∀ j,j < n → ExOwn w base (rowOf rows j) (traj i j))
theorem MapS.form {base:Nat} {w:World} {i:Inp} {n:Nat} {v:Value} (h:MapS base w i n v):∃ A c,v = .slice A n c ∧ n ≤ c:=by
  obtain ⟨rows,h1,_⟩:=h
  exact own_form h1
theorem MapS.keep {base:Nat} {w w':World} {i:Inp} {n:Nat} {v:Value} (h:MapS base w i n v) {S:Nat → Prop} (k:Keep S w w') (hS:∀ j,S j → j < base):MapS base w' i n v:=by
  obtain ⟨rows,h1,h2,h3,h4⟩:=h
  exact ⟨rows,k.own h1 (fun j hj hs => by have:=hS j hs;have:=(h1.lt j hj).1;omega),h2,h3,fun j hj => (h4 j hj).keep k hS⟩
theorem MapS.below {base:Nat} {w w':World} {i:Inp} {n:Nat} {v:Value} (h:MapS base w i n v) (hb:Below w.heap.size w w'):MapS base w' i n v:=h.keep (S:=fun _ => False) (Keep.below hb) (fun _ h => h.elim)
theorem MapS.rd {base:Nat} {w:World} {i:Inp} {A:Option Addr} {n c:Nat} (h:MapS base w i n (.slice A n c)):SlRd rEx 2 w A (trajL i n):=by
  obtain ⟨rows,h1,h2,h3,h4⟩:=h
  exact ⟨rows,Rd.own h1,by rw [trajL_len];exact h2,h3,fun j x hx => by
    have hj:j < n:=by have:=(List.getElem?_eq_some_iff.1 hx).1;rwa [trajL_len] at this
    rw [trajL_at i hj] at hx
    injection hx with hx
    rw [← hx]
    exact (h4 j hj).rd⟩
theorem MapS.push {base:Nat} {W3 w6:World} {i:Inp} {k:Nat} {v v' u1 u2:Value} {rows:List (List Value)} (h1:W3.ownsRow base 67 2 v k (List.flatten rows)) (h2:rows.length = k) (h3:∀ r ∈ rows,r.length = 2) (h4:∀ j,j < k → ExOwn W3 base (rowOf rows j) (traj i j))
    (hu:ExOwn W3 base [u1,u2] (traj i k)) (ho:w6.ownsRow base 67 2 v' (k + 1) (List.flatten rows ++ [u1,u2])) (hg:W3.grownBy w6 v.ownBlock):MapS base w6 i (k + 1) v':=by
  refine ⟨rows ++ [[u1,u2]],by rw [List.flatten_append,List.flatten_cons,List.flatten_nil,List.append_nil];exact ho,by simp [h2],?_,?_⟩
  · intro r hr
    rcases List.mem_append.1 hr with hr | hr
    · exact h3 r hr
    · rw [List.mem_singleton.1 hr];rfl
  · intro j hj
    rcases Nat.lt_or_ge j k with h | h
    · have e:rowOf (rows ++ [[u1,u2]]) j = rowOf rows j:=by simp [rowOf,List.getElem?_append_left (show j < rows.length by omega)]
      rw [e];exact (h4 j h).pushed h1 hg (by decide)
    · obtain rfl:j = k:=by omega
      have e:rowOf (rows ++ [[u1,u2]]) j = [u1,u2]:=by rw [← h2];simp [rowOf]
      rw [e];exact hu.pushed h1 hg (by decide)
theorem MapS.one {base:Nat} {w:World} {i:Inp} {u1 u2:Value} (hb:base ≤ w.heap.size) (hu:ExOwn w base [u1,u2] (traj i 0)):MapS base (w.alloc (.cells #[u1,u2] 67)) i 1 (.slice (some ⟨w.heap.size,0,none⟩) 1 1):=by
  refine ⟨[[u1,u2]],⟨by simp,.inr ⟨w.heap.size,1,#[u1,u2],rfl,hb,heap_alloc_new w _,Nat.le_refl _,by unfold maxLen;omega,by simp,by simp⟩⟩,rfl,by simp,fun j hj => ?_⟩
  obtain rfl:j = 0:=by omega
  exact hu.below ((Below.refl _ _).alloc (Nat.le_refl _) _)
theorem state_ex {n base:Nat} {w w':World} {x:Ex} {A1 A2:Option Addr} {c1 c2:Nat} (h1:w'.ownsRow w.heap.size 2 1 (.slice A1 n c1) n (nums .i64 x.1)) (h2:w'.ownsRow w.heap.size 2 1 (.slice A2 n c2) n (nums .i64 x.2)) (hb:base ≤ w.heap.size) (l1:x.1.length = n) (l2:x.2.length = n) (hn:n ≤ 1048576) (w1:W64 x.1) (w2:W64 x.2):ExOwn w' base [.slice A1 n c1,.slice A2 n c2] x:=
  ⟨_,_,rfl,by rw [l1];exact own_base h1 hb,by rw [l2];exact own_base h2 hb,by omega,by omega,w1,w2⟩
def lenOf:Value → Nat
  | .slice _ n _ => n
  | _ => 0
end Go.Proofs.YthamijnggdjaoaaGreatDoor
namespace Go.Proofs.YthamijnggdjaoaaGreatDoor
open Go.RowKit
theorem addL_zero {n:Nat} {s:List Int} (hs:s.length = n) (ws:W64 s):addL (List.replicate n 0) s = s:=by
  refine ext_nth (by rw [addL_len,List.length_replicate,hs]) fun k hk => ?_
  rw [addL_len,List.length_replicate] at hk
  unfold addL
  rw [upTo_nth _ (by rw [List.length_replicate];exact hk),nth_eq _ k (by rw [List.length_replicate];exact hk)]
  have h1:=ws.nth k
  simp only [List.getElem_replicate]
  generalize nth s k = y at h1 ⊢
  unfold wrap64;omega
theorem sumR_two {n:Nat} {s g:List Int} (hs:s.length = n) (ws:W64 s):sumR n [s,g] = addL s g:=by
  unfold sumR;simp only [List.foldl_cons,List.foldl_nil];rw [addL_zero hs ws]
theorem pick_snoc (l:List Ex) (idx:List Int) {k:Nat} (hk:k < idx.length) {x:Ex} {j:Nat} (hj:nth idx k = (j:Int)) (hx:l[j]? = some x):pickL l (idx.take (k + 1)) = pickL l (idx.take k) ++ [x]:=by
  rw [take_succ_nth _ _ hk];unfold pickL;rw [List.map_append]
  simp [hj,List.getD,hx]
theorem nx_m2 {n k:Nat} (h:k < n):n - (k + 1) < n - k:=by omega
def RGrad14Is (i:Inp) (P idx:List Int) (w:World) (e:Ending) (w':World):Prop:=Below w.heap.size w w' ∧
  ((allGood i idx ∧ ∃ v,e = .returned (.tuple #[v,.bool true]) ∧ w'.ownsRow w.heap.size 2 1 v (cnt i) (nums .i64 (gradAcc i P (pickL i.data idx)))) ∨ (¬ allGood i idx ∧ e = .returned (.tuple #[.slice none 0 0,.bool false])))
theorem vv_two (w:World) (u v:Value) (A1 A2:Option Addr) (n c1 c2:Nat) (s g:List Int) (hu:u = .slice A1 n c1) (hv:v = .slice A2 n c2) (hs:s.length = n) (hg:g.length = n) (hn:n ≤ 1048576) (r1:Rd w A1 (nums .i64 s)) (r2:Rd w A2 (nums .i64 g)) :
    SlRd rVec0 1 (w.alloc (.cells #[u,v] 26)) (some ⟨w.heap.size,0,none⟩) [s,g]:=by
  refine slrd_one (rd_newN w [u,v] _ _ rfl) rfl fun j x hx => ?_
  match j,hx with
  | 0,hx => injection hx with hx;subst hx;exact ⟨u,rfl,A1,c1,by rw [hu,hs],by omega,r1.alloc _⟩
  | 1,hx => injection hx with hx;subst hx;exact ⟨v,rfl,A2,c2,by rw [hv,hg],by omega,r2.alloc _⟩
set_option maxRecDepth 100000 in
set_option maxHeartbeats 2000000 in
theorem rgrad14_any (A:Option Addr) (c:Nat) (D:Option Addr) (cd:Nat) (T:Option Addr) (ct:Nat) (R:Option Addr) (cr:Nat) (i:Inp) (Ap X:Option Addr) (P idx:List Int) (n cp cx:Nat) (w:World) (hA:Rd w A (nums .i64 i.cfg.sizes)) (hc:i.cfg.sizes.length ≤ c) (hD:SlRd rEx 2 w D i.data) (hg:GoodIn i) (hP:Rd w Ap (nums .i64 P)) (hPl:P.length = n) (hn:cnt i = n) (wP:W64 P) (hX:Rd w X (nums .i64 idx)) (hil:idx.length ≤ 17592186043904) :
    Calls Tryz.prog 76 #[.agg (inpVals A c D cd T ct R cr i),.slice Ap n cp,.slice X idx.length cx] w (RGrad14Is i P idx w):=by
  have hcb:=hg.c.z.bound (k:=i.cfg.sizes.length - 1) (by have:=hg.c.z.1.1;omega)
  have hcn:cntN i.cfg.sizes (i.cfg.sizes.length - 1) = n:=hn
  rw [hcn] at hcb
  have hnet:=fun w' => rnet14_any A c D cd T ct R cr i Ap n cp w'
  have hgr:=fun w' (q:Below w.heap.size w w') X1 Y1 x c1 c2 (hf:fitEx (inN i) (outN i) x) (r1:NumsRd w' X1 x.1 c1) (r2:NumsRd w' Y1 x.2 c2) => rgrad_any A Ap X1 Y1 i.cfg.sizes P x.1 x.2 c cp c1 c2 i.cfg.shift w' ⟨hA.below q,hP.below q,hg.c.z,by rw [hPl,hcn],hc,wP⟩ r1.hr hf.1 r1.hw r1.hc r2.hr hf.2
  rw [hcn,hPl] at hgr
  have hmk:=fun w' => run_mk et_ri64s w' rfl n (by omega) (by unfold maxLen;omega)
  simp only [nums_rep] at hmk
  have hz0:gradAcc i P (pickL i.data (idx.take 0)) = List.replicate n 0:=by simp [gradAcc,pickL,hn]
  obtain ⟨m,hm⟩:∃ m,idx.length = m:=⟨_,rfl⟩
  obtain ⟨N,hN⟩:∃ N,i.data.length = N:=⟨_,rfl⟩
  have hNb:N ≤ 1048576:=by rw [← hN];exact hg.b.2
  rw [hm] at hil ⊢
  have hbl:(w.alloc (.cells (inpVals A c D cd T ct R cr i) 29)).heap.size = w.heap.size + 1:=by simp
  have hbx:=blk_new w (inpVals A c D cd T ct R cr i) 29 rfl
  have hb0:Below w.heap.size w (w.alloc (.cells (inpVals A c D cd T ct R cr i) 29)):=(Below.refl _ w).alloc (Nat.le_refl _) _
  obtain ⟨W1,hW1⟩:∃ W1,W1 = w.alloc (.cells (inpVals A c D cd T ct R cr i) 29):=⟨_,rfl⟩
  rw [← hW1] at hbl hbx hb0
  obtain ⟨W2,hrun,ho2,hb2⟩:=hmk W1
  rw [hbl] at hrun ho2
  rw [hW1] at hrun
  dsimp only [inpVals] at hrun
  have hbx2:=(hb2.block _ (by omega)).trans hbx
  have hB2:=hb0.trans (hb2.mono hb0.size)
  have HD:=Lib.hid hD;have HX:=Lib.hid hX;have Hnet:=Lib.hid hnet;have Hgr:=Lib.hid hgr;have Hm:=Lib.hid hm;have HN:=Lib.hid hN;have HG:=Lib.hid hg;have HO2:=Lib.hid ho2;have HBx2:=Lib.hid hbx2;have HB2:=Lib.hid hB2;have Hz0:=Lib.hid hz0;have Hn:=Lib.hid hn
  clear hA hc hD hg hP hPl hn wP hX hnet hgr hmk hm hN hbl hbx hb0 ho2 hbx2 hB2 hb2 hcn hz0 hW1
  go_enter Tryz.func76,Tryz.ntmps76
  dsimp only [inpVals]
  go_wp2_with fail
  clear hrun
  go_loopw [8,9] (fun v x wr => ∃ k:Nat,k ≤ m ∧ x = .int .i64 k ∧ wr.ownsRow w.heap.size 2 1 v n (nums .i64 (gradAcc i P (pickL i.data (idx.take k)))) ∧ Hid (∀ j,j < k → goodI N (nth idx j)) ∧ Below (w.heap.size + 1) W2 wr) (fun _ x _ => m - (intOf x).toNat)
  case atStart => exact ⟨0,Nat.zero_le _,rfl,by rw [Hz0.out];exact own_base HO2.out (by omega),Lib.hid fun j hj => by omega,Below.refl _ _⟩
  case round =>
    obtain ⟨k,hk,rfl,hown,Hall,hbw⟩:=hrel
    obtain ⟨As,cs,rfl,hcs⟩:=own_form hown
    have hbx:=(hbw.block _ (by omega)).trans HBx2.out
    have hB:=HB2.out.trans (hbw.mono (by omega))
    have hrs:=hB.size
    have HO:=Lib.hid hown;have HBW:=Lib.hid hbw;have HB:=Lib.hid hB;have HBX:=Lib.hid hbx;have HCS:=Lib.hid hcs
    dsimp only [inpVals] at hbx
    obtain ⟨⟨t0,t1,t2,t3,t4,t5,t6,t7,t8,t9,t10,t11,t12,t13,t14⟩,tf⟩:=bx15 hbx
    have hlx:=lt_of_block hbx
    clear hown hbw hB hbx hcs
    by_cases hlt:k < m
    · have hlti:(k:Int) < m:=by omega
      obtain ⟨bx,ox,rfl,px⟩:=HX.out.num (show k < idx.length by rw [Hm.out];exact hlt)
      have px':=(HB.out.cell (p:=⟨bx,ox + k,none⟩) (lt_of_cell px)).trans px
      clear px
      by_cases hgd:goodI N (nth idx k)
      · obtain ⟨j,hj⟩:∃ j:Nat,nth idx k = (j:Int):=⟨(nth idx k).toNat,by have:=hgd.1;omega⟩
        have hjN:j < N:=by have:=hgd.2;omega
        rw [hj] at px'
        obtain ⟨x,hx⟩:∃ x,i.data[j]? = some x:=⟨_,List.getElem?_eq_getElem (by rw [HN.out];exact hjN)⟩
        obtain ⟨bd,od,X1,c1,Y1,c2,rfl,hbd,p1,p2,r1,r2⟩:=ex_cells (HD.out.below stays_ex HB.out) hx
        have hfit:fitEx (inN i) (outN i) x:=HG.out.f _ (by obtain ⟨q1,q2⟩:=List.getElem?_eq_some_iff.1 hx;rw [← q2];exact List.getElem_mem _)
        have hgr:=fun w' (q:Below wr.heap.size wr w') => Hgr.out w' (HB.out.trans (q.mono HB.out.size)) X1 Y1 x c1 c2 hfit (r1.below q) (r2.below q)
        have hgl:=gradL_len (sz:=i.cfg.sizes) (ps:=P) (q:=i.cfg.shift) (x:=x.1) (y:=x.2) hfit.1 (by have:=HG.out.c.z.1.1;omega)
        have hgn:cntN i.cfg.sizes (i.cfg.sizes.length - 1) = n:=Hn.out
        rw [hgn] at hgl
        have hps:=pick_snoc i.data idx (k:=k) (by rw [Hm.out];exact hlt) hj hx
        have q1:¬ ((j:Int) < 0):=by omega
        have hN:=HN.out
        have q2:¬ ((i.data.length:Int) ≤ j):=by omega
        have q3:(j:Int) < i.data.length:=by omega
        have Hj:=Lib.hid hj;have Hgr2:=Lib.hid hgr;have Hgl:=Lib.hid hgl;have Hps:=Lib.hid hps;have Hgd:=Lib.hid hgd
        obtain ⟨n1,hn1⟩:∃ n1,x.1.length = n1:=⟨_,rfl⟩
        obtain ⟨n2,hn2⟩:∃ n2,x.2.length = n2:=⟨_,rfl⟩
        rw [hn1] at p1;rw [hn2] at p2
        have Hn1:=Lib.hid hn1;have Hn2:=Lib.hid hn2
        clear hj hx r1 r2 hfit hgr hgl hgn hps hgd hN hn1 hn2
        go_upto_region 8 with (fail)
        clear px' t0 t1 t2 t3 t4 t5 t6 t7 t8 t9 t10 t11 t12 t13 t14 tf
        have hbx:=HBX.out
        dsimp only [inpVals] at hbx
        have hSw:(fun w':World => w'.heap[w.heap.size]? = some (.cells #[.slice A i.cfg.sizes.length c,.int .i64 i.cfg.shift,.int .i64 i.cfg.rate,.int .i64 i.cfg.mom,.int .i64 i.cfg.workers,.int .i64 i.cfg.batch,.int .i64 i.cfg.micros,.int .i64 i.cfg.steps,.int .i64 i.cfg.bucket,.int .i64 i.cfg.chunk,.int .i64 i.cfg.window,.int .i64 i.cfg.cap,.slice (some ⟨bd,od,none⟩) i.data.length cd,.slice T i.start.length ct,.slice R i.draws.length cr] 29 (0,0)) ∧ w'.cell? ⟨bd,od + j * 2,none⟩ = some (.slice X1 n1 c1) ∧ w'.cell? ⟨bd,od + j * 2 + 1,none⟩ = some (.slice Y1 n2 c2)) wr.drew:=⟨hbx,p1,p2⟩
        refine HA.g (fun w':World => w'.heap[w.heap.size]? = some (.cells #[.slice A i.cfg.sizes.length c,.int .i64 i.cfg.shift,.int .i64 i.cfg.rate,.int .i64 i.cfg.mom,.int .i64 i.cfg.workers,.int .i64 i.cfg.batch,.int .i64 i.cfg.micros,.int .i64 i.cfg.steps,.int .i64 i.cfg.bucket,.int .i64 i.cfg.chunk,.int .i64 i.cfg.window,.int .i64 i.cfg.cap,.slice (some ⟨bd,od,none⟩) i.data.length cd,.slice T i.start.length ct,.slice R i.draws.length cr] 29 (0,0)) ∧ w'.cell? ⟨bd,od + j * 2,none⟩ = some (.slice X1 n1 c1) ∧ w'.cell? ⟨bd,od + j * 2 + 1,none⟩ = some (.slice Y1 n2 c2)) ?_
        refine HA.t ?_ [0,1,2,4,5,6,7,8,9,10,11,12,13,14,15] hSw ?_
        refine HA.o 3 (fun K hK => ?_)
        clear hbx
        have hnet:=Hnet.out wr.drew
        dsimp only [inpVals] at hnet
        go_simp
        refine hnet.mono ?_
        clear hnet
        rintro e w3 ⟨rfl,hb3⟩
        have hS3:=And.intro ((hb3.block _ hlx).trans hSw.1) (And.intro (cell_below hb3 hSw.2.1) (cell_below hb3 hSw.2.2))
        have HB3:=Lib.hid (show Below wr.heap.size wr w3 from (Below.refl _ wr).drew.trans hb3)
        clear hb3 hSw
        dsimp only
        refine hK.out _ _ hS3 (fun hSw => ?_)
        clear hK K hS3
        refine HA.o 16 (fun K hK => ?_)
        have hgr:=Hgr2.out w3 HB3.out
        rw [Hn1.out,Hn2.out] at hgr
        go_simp
        refine hgr.mono ?_
        clear hgr
        rintro e w4 ⟨A4,c4,rfl,hr4,hb4⟩
        have hS4:=And.intro ((hb4.block _ (lt_of_block hSw.1)).trans hSw.1) (And.intro (cell_below hb4 hSw.2.1) (cell_below hb4 hSw.2.2))
        have HB4:=Lib.hid (HB3.out.trans (hb4.mono HB3.out.size))
        have HR4:=Lib.hid hr4
        clear hb4 hSw hr4
        dsimp only
        refine hK.out _ _ hS4 (fun hSw => ?_)
        clear hK K hS4
        refine HA.o 17 (fun K hK => ?_)
        go_simp
        have hz4:=HB4.out.size
        have hs4:SlRd rVec0 1 (w4.alloc (.cells #[.slice As n cs,.slice A4 n c4] 26)) (some ⟨w4.heap.size,0,none⟩) [gradAcc i P (pickL i.data (idx.take k)),gradL i.cfg.sizes P i.cfg.shift x.1 x.2]:=
          vv_two w4 _ _ As A4 n cs c4 _ _ rfl rfl (by rw [gradAcc_len];exact Hn.out) Hgl.out hcb (Rd.own (own_below HO.out HB4.out)) HR4.out
        have hsum:=rsumv_any (some ⟨w4.heap.size,0,none⟩) [gradAcc i P (pickL i.data (idx.take k)),gradL i.cfg.sizes P i.cfg.shift x.1 x.2] 2 n _ _ hs4 (by simp) rfl (by rw [gradAcc_len];exact Hn.out)
        have hsum:Calls Tryz.prog 119 #[.slice (some ⟨w4.heap.size,0,none⟩) 2 2] (w4.alloc (.cells #[.slice As n cs,.slice A4 n c4] 26)) _:=hsum
        have Hsum:=Lib.hid hsum
        clear hs4 hsum
        refine hK.out _ _ ⟨blk_alloc hSw.1 _,cell_alloc hSw.2.1 _,cell_alloc hSw.2.2 _⟩ (fun hSw => ?_)
        clear hK K
        refine HA.o 18 (fun K hK => ?_)
        go_simp
        refine Hsum.out.mono ?_
        rintro e w5 ⟨v5,ok,rfl,hb5,hgood⟩
        obtain ⟨rfl,ho5⟩:=hgood (fun t y hy => by
          match t,hy with
          | 0,hy => injection hy with hy;rw [← hy,gradAcc_len];exact Hn.out
          | 1,hy => injection hy with hy;rw [← hy];exact Hgl.out)
        rw [sumR_two (by rw [gradAcc_len];exact Hn.out) (gradAcc_W64 _ _ _),← gradAcc_snoc,← Hps.out] at ho5
        have hS5:=And.intro ((hb5.block _ (lt_of_block hSw.1)).trans hSw.1) (And.intro (cell_below hb5 hSw.2.1) (cell_below hb5 hSw.2.2))
        have hb5':Below wr.heap.size wr w5:=(HB4.out.alloc hz4 _).trans (hb5.mono (by simp;omega))
        have HO5:=Lib.hid (own_base (base':=w.heap.size) ho5 (by simp;omega))
        have HB5:=Lib.hid (HBW.out.trans (hb5'.mono (by omega)))
        clear hb5 hb5' ho5 hgood hSw Hsum
        obtain ⟨A5,c5,rfl,_⟩:=own_form HO5.out
        dsimp only
        refine hK.out _ _ hS5 (fun hSw => ?_)
        clear hK K hS5
        refine HA.t ?_ [19,20,21,22] hSw ?_
        refine HA.d ?_
        clear hSw p1 p2
        go_wp2_with fail
        go_roundw
        case rel =>
          refine ⟨k + 1,hlt,by go_num,HO5.out,Lib.hid fun t ht => ?_,HB5.out⟩
          rcases Nat.lt_or_ge t k with h | h
          · exact Hall.out t h
          · obtain rfl:t = k:=by omega
            exact Hgd.out
        case measure => exact nx_m2 hlt
      · have hgi:nth idx k < 0 ∨ (i.data.length:Int) ≤ nth idx k:=by
          have hN:=HN.out
          unfold goodI at hgd;omega
        have hng:¬ allGood i idx:=fun h => hgd (by rw [← HN.out];exact h k (by rw [Hm.out];exact hlt))
        have Hng:=Lib.hid hng
        obtain ⟨z,hz⟩:∃ z,nth idx k = z:=⟨_,rfl⟩
        rw [hz] at px' hgi
        clear hng hgd hz
        by_cases hz0:z < 0
        · clear hgi
          go_wp2_with fail
          go_ret2
          exact ⟨HB.out,.inr ⟨Hng.out,rfl⟩⟩
        · have hz1:(i.data.length:Int) ≤ z:=by omega
          clear hgi
          go_wp2_with fail
          go_ret2
          exact ⟨HB.out,.inr ⟨Hng.out,rfl⟩⟩
    · obtain rfl:m = k:=by omega
      go_wp2_with fail
      go_ret2
      refine ⟨HB.out,.inl ⟨fun j hj => by rw [HN.out];exact Hall.out j (by rw [← Hm.out];exact hj),_,rfl,?_⟩⟩
      have:=HO.out
      rw [Hn.out]
      rwa [← Hm.out,List.take_length] at this
end Go.Proofs.YthamijnggdjaoaaGreatDoor
namespace Go.Proofs.YthamijnggdjaoaaGreatDoor
open Go.RowKit
set_option maxRecDepth 100000 in
theorem rnext_any (c i m:Nat) (A:Option Addr) (l:List Int) (w:World) (hA:Rd w A (nums .u64 l)) (hi:i < l.length) (hl:l.length ≤ 17592186043904) (hu:U64 l) (hm:1 ≤ m) (hm2:m ≤ 1048576) :
    Calls Tryz.prog 211 #[.agg #[.slice A l.length c,.int .i64 i],.int .i64 m] w fun e w' => e = .returned (.tuple #[.agg #[.slice A l.length c,.int .i64 ((i + 1:Nat):Int)],.int .i64 (nth l i % m),.bool true]) ∧ Below w.heap.size w w':=by
  obtain ⟨bA,oA,rfl,p⟩:=hA.num hi
  obtain ⟨x,hx⟩:∃ x,nth l i = x:=⟨_,rfl⟩
  have hxb:=hu i hi
  rw [hx] at p hxb ⊢
  obtain ⟨n,hn⟩:∃ n,l.length = n:=⟨_,rfl⟩
  rw [hn] at hi hl ⊢
  have hbA:bA < w.heap.size:=lt_of_cell p
  clear hn hx hu hA
  have hq2:¬ ((m:Int) < 1):=by omega
  have hii:(i:Int) < n:=by omega
  have hii':¬ ((n:Int) ≤ i):=by omega
  have hw:wrap64 (x % (m:Int)) = x % (m:Int):=by
    have h1:=Int.emod_nonneg x (show (m:Int) ≠ 0 by omega)
    have h2:=Int.emod_lt_of_pos x (show (0:Int) < (m:Int) by omega)
    generalize x % (m:Int) = y at h1 h2 ⊢
    unfold wrap64;omega
  have Hw:=Lib.hid hw;clear hw
  go_enter Tryz.func211,Tryz.ntmps211
  go_wp2_with fail
  go_region
  go_wp2_with fail
  have e3:=heap_alloc_new (w.alloc (.cells #[.slice (some ⟨bA,oA,none⟩) n c,.int .i64 ((i:Int) + 1)] 269)) (.cells #[.slice (some ⟨bA,oA,none⟩) n c,.int .i64 ((i:Int) + 1)] 269)
  rw [show (w.alloc (.cells #[.slice (some ⟨bA,oA,none⟩) n c,.int .i64 ((i:Int) + 1)] 269)).heap.size = w.heap.size + 1 by simp] at e3
  have hB:Below w.heap.size w ((w.alloc (.cells #[.slice (some ⟨bA,oA,none⟩) n c,.int .i64 ((i:Int) + 1)] 269)).alloc (.cells #[.slice (some ⟨bA,oA,none⟩) n c,.int .i64 ((i:Int) + 1)] 269)):=((Below.refl _ w).alloc (Nat.le_refl _) _).alloc (by simp) _
  obtain ⟨W9,hW9⟩:∃ W9,W9 = ((w.alloc (.cells #[.slice (some ⟨bA,oA,none⟩) n c,.int .i64 ((i:Int) + 1)] 269)).alloc (.cells #[.slice (some ⟨bA,oA,none⟩) n c,.int .i64 ((i:Int) + 1)] 269)).drew:=⟨_,rfl⟩
  have e4:W9.heap[w.heap.size + 1]? = some (.cells #[.slice (some ⟨bA,oA,none⟩) n c,.int .i64 ((i:Int) + 1)] 269 (0,0)):=by rw [hW9];exact e3
  have hB9:Below w.heap.size w W9:=by rw [hW9];exact hB.drew
  rw [← hW9]
  clear hW9 hB e3
  obtain ⟨⟨r0,r1⟩,rf⟩:=bx2 e4
  rw [Hw.out]
  exact bodyPost_ret (v:=.tuple #[.agg #[.slice (some ⟨bA,oA,none⟩) n c,.int .i64 ((i:Int) + 1)],.int .i64 (x % m),.bool true]) (by simp [results,Tryz.results211,go_sem,r0,r1]) rfl ⟨by rw [Int.natCast_add];rfl,hB9⟩
end Go.Proofs.YthamijnggdjaoaaGreatDoor
namespace Go.Proofs.YthamijnggdjaoaaGreatDoor
open Go.RowKit
def btB (x lo hi:Int):Bool:=decide (lo ≤ x ∧ x ≤ hi)
theorem btw_any (x lo hi:Int) (w:World):Calls Tryz.prog 46 #[.int .i64 x,.int .i64 lo,.int .i64 hi] w fun e w' => e = .returned (.bool (btB x lo hi)) ∧ w = w':=by
  by_cases h1:lo ≤ x
  · by_cases h2:x ≤ hi
    · go_enter Tryz.func46,Tryz.ntmps46
      go_wp2
      go_ret
      exact ⟨ret_bool (by unfold btB;simp [h1,h2]),rfl⟩
    · go_enter Tryz.func46,Tryz.ntmps46
      go_wp2
      go_ret
      exact ⟨ret_bool (by unfold btB;simp;omega),rfl⟩
  · go_enter Tryz.func46,Tryz.ntmps46
    go_wp2
    go_ret
    exact ⟨ret_bool (by unfold btB;simp;omega),rfl⟩
theorem rsz_code (A:Option Addr) (sz:List Int) (c:Nat) (w:World) (hA:Rd w A (nums .i64 sz)) (hl:sz.length ≤ 17592186043904) :
    Calls Tryz.prog 96 #[.slice A sz.length c] w fun e w' => e = .returned (.int .i64 (szCode sz)) ∧ ∃ n,w' = w.drewN n:=by
  by_cases h:2 ≤ sz.length ∧ sz.length ≤ 16
  · refine (rcheck_long A sz c w hA h).mono fun e w' ⟨h1,h2⟩ => ⟨?_,h2⟩
    rcases h1 with ⟨hR,rfl⟩ | ⟨hR,rfl⟩
    · refine ret_int ?_
      unfold codeN
      by_cases hc:1048576 < cntN sz (sz.length - 1)
      · rw [if_pos hc,szCode_long (fun hg => by have:=hg.2;omega) hR]
      · rw [if_neg hc,szCode_good ⟨hR,by omega⟩]
    · exact ret_int (szCode_wrong hR).symm
  · exact (rcheck_short A sz c w hl h).mono fun e w' ⟨h1,h2⟩ => ⟨by rw [h1,szCode_wrong (fun hr => h hr.1)],0,h2.symm⟩
theorem sixB_bad (a b c d e f:Int) {g:Bool} {l:List Int} (hl:[a,b,c,d,e,f] = l) {k:Nat} (hk:k < 5) (h:okB (nth l k) = false):(okB a && okB b && okB c && okB d && okB e && g) = false:=by
  subst hl
  match k,hk with
  | 0,_ => simp only [show nth [a,b,c,d,e,f] 0 = a from rfl] at h;simp [h]
  | 1,_ => simp only [show nth [a,b,c,d,e,f] 1 = b from rfl] at h;simp [h]
  | 2,_ => simp only [show nth [a,b,c,d,e,f] 2 = c from rfl] at h;simp [h]
  | 3,_ => simp only [show nth [a,b,c,d,e,f] 3 = d from rfl] at h;simp [h]
  | 4,_ => simp only [show nth [a,b,c,d,e,f] 4 = e from rfl] at h;simp [h]
theorem sixB_good (a b c d e f:Int) (g:Bool) {l:List Int} (hl:[a,b,c,d,e,f] = l) (h:∀ j,j < 5 → okB (nth l j) = true) (hg:g = true):(okB a && okB b && okB c && okB d && okB e && g) = true:=by
  subst hl
  have h0:okB a = true:=h 0 (by omega)
  have h1:okB b = true:=h 1 (by omega)
  have h2:okB c = true:=h 2 (by omega)
  have h3:okB d = true:=h 3 (by omega)
  have h4:okB e = true:=h 4 (by omega)
  simp [h0,h1,h2,h3,h4,hg]
set_option maxRecDepth 100000 in
set_option maxHeartbeats 4000000 in
theorem rcfg_any (A:Option Addr) (c:Nat) (k:Cfg) (w:World) (h:CfgRd w A c k) :
    Calls Tryz.prog 45 #[.agg (cfgVals A c k)] w fun e w' => e = .returned (.int .i64 (cfgCode k)) ∧ Below w.heap.size w w':=by
  have hsz:=fun w' (q:Below w.heap.size w w') => rsz_code A k.sizes c w' (h.hr.below q) h.hl
  have f6:=@cfg_6 k;have f9:=@cfg_9 k;have fs:=@cfg_s k;have f2:=@cfg_2 k;have f7:=@cfg_7 k;have f0:=@cfg_0 k
  unfold wkB shB numsB baB stepsB at *
  obtain ⟨code,hcode⟩:∃ code,cfgCode k = code:=⟨_,rfl⟩
  rw [hcode] at f6 f9 fs f2 f7 f0 ⊢
  clear hcode h
  obtain ⟨sz,sh,ra,mo,wk,ba,mi,st,bu,ch,wi,ca⟩:=k
  dsimp only [cfgVals] at *
  obtain ⟨L,hL⟩:∃ L,sz.length = L:=⟨_,rfl⟩
  obtain ⟨sc,hsc⟩:∃ sc,szCode sz = sc:=⟨_,rfl⟩
  rw [hL,hsc] at hsz
  rw [hsc] at fs f2 f7 f0
  rw [hL] at ⊢
  have Hsz:=Lib.hid hsz;have F6:=Lib.hid f6;have F9:=Lib.hid f9;have Fs:=Lib.hid fs;have F2:=Lib.hid f2;have F7:=Lib.hid f7;have F0:=Lib.hid f0
  clear hsz f6 f9 fs f2 f7 f0 hL hsc
  go_enter Tryz.func45,Tryz.ntmps45
  go_wp2_with fail
  have hz:=heap_alloc_new w (.cells #[.slice A L c,.int .i64 sh,.int .i64 ra,.int .i64 mo,.int .i64 wk,.int .i64 ba,.int .i64 mi,.int .i64 st,.int .i64 bu,.int .i64 ch,.int .i64 wi,.int .i64 ca] 24)
  have hB:=(Below.refl _ w).alloc (Nat.le_refl _) (.cells #[.slice A L c,.int .i64 sh,.int .i64 ra,.int .i64 mo,.int .i64 wk,.int .i64 ba,.int .i64 mi,.int .i64 st,.int .i64 bu,.int .i64 ch,.int .i64 wi,.int .i64 ca] 24)
  obtain ⟨W0,hW0⟩:∃ W0,W0 = w.alloc (.cells #[.slice A L c,.int .i64 sh,.int .i64 ra,.int .i64 mo,.int .i64 wk,.int .i64 ba,.int .i64 mi,.int .i64 st,.int .i64 bu,.int .i64 ch,.int .i64 wi,.int .i64 ca] 24):=⟨_,rfl⟩
  rw [← hW0] at hz hB ⊢
  clear hW0
  obtain ⟨⟨z0,z1,z2,z3,z4,z5,z6,z7,z8,z9,z10,z11⟩,zf⟩:=bx12 hz
  have HB:=Lib.hid hB;have HZ:=Lib.hid hz
  clear hB hz
  refine (btw_any wk 1 64 _).mono ?_
  rintro e w' ⟨rfl,rfl⟩
  obtain ⟨b1,hb1⟩:∃ b1,btB wk 1 64 = b1:=⟨_,rfl⟩
  have G1:=Lib.hid (show decide (1 ≤ wk ∧ wk ≤ 64) = b1 from hb1)
  rw [hb1]
  clear hb1
  rcases bool_ft b1 with rfl | rfl
  · go_wp2_with fail
    go_ret
    exact ⟨ret_int (F6.out G1.out).symm,HB.out⟩
  go_wp2_with fail
  refine (btw_any sh 1 62 _).mono ?_
  rintro e w' ⟨rfl,rfl⟩
  obtain ⟨b2,hb2⟩:∃ b2,btB sh 1 62 = b2:=⟨_,rfl⟩
  have G2:=Lib.hid (show decide (1 ≤ sh ∧ sh ≤ 62) = b2 from hb2)
  rw [hb2]
  clear hb2
  rcases bool_ft b2 with rfl | rfl
  · go_wp2_with fail
    go_ret
    exact ⟨ret_int (F9.out G1.out G2.out).symm,HB.out⟩
  go_wp2_with fail
  refine (Hsz.out _ HB.out).mono ?_
  rintro e w' ⟨rfl,d,rfl⟩
  have hb1:=below_drewN HB.out d
  have hz1:(W0.drewN d).heap[w.heap.size]? = some (.cells #[.slice A L c,.int .i64 sh,.int .i64 ra,.int .i64 mo,.int .i64 wk,.int .i64 ba,.int .i64 mi,.int .i64 st,.int .i64 bu,.int .i64 ch,.int .i64 wi,.int .i64 ca] 24 (0,0)):=HZ.out
  generalize W0.drewN d = W1 at hb1 hz1 ⊢
  clear z0 z1 z2 z3 z4 z5 z6 z7 z8 z9 z10 z11 zf HB HZ
  obtain ⟨⟨z0,z1,z2,z3,z4,z5,z6,z7,z8,z9,z10,z11⟩,zf⟩:=bx12 hz1
  have HB:=Lib.hid hb1;have HZ:=Lib.hid hz1
  clear hb1 hz1
  by_cases h3:sc ≠ 0
  · have hq:(sc != 0) = true:=by rw [bne_iff_ne];exact h3
    have H3:=Lib.hid h3;clear h3
    go_wp2_with fail
    go_ret
    exact ⟨ret_int (Fs.out G1.out G2.out H3.out).symm,HB.out⟩
  obtain rfl:sc = 0:=by omega
  clear h3
  have lz:w.heap.size < W1.heap.size:=lt_of_block HZ.out
  by_cases h4:st < 0
  · go_wp2_with fail
    go_ret
    exact ⟨ret_int (F2.out G1.out G2.out trivial (by rw [decide_eq_false (show ¬ (0 ≤ st ∧ st ≤ 1048576) by omega),Bool.and_false])).symm,HB.out.alloc HB.out.size _⟩
  by_cases h4':1048576 < st
  · go_wp2_with fail
    go_ret
    exact ⟨ret_int (F2.out G1.out G2.out trivial (by rw [decide_eq_false (show ¬ (0 ≤ st ∧ st ≤ 1048576) by omega),Bool.and_false])).symm,HB.out.alloc HB.out.size _⟩
  have GS:=Lib.hid (show decide (0 ≤ st ∧ st ≤ 1048576) = true by rw [decide_eq_true_eq];omega)
  have hrd:=rd_newN W1 (nums .i64 [mi,bu,ch,wi,ca,st + 1]) 3 _ rfl
  have hzz:=(Below.heap_alloc W1 (.cells (nums .i64 [mi,bu,ch,wi,ca,st + 1]).toArray 3) _ (lt_of_block HZ.out)).trans HZ.out
  have HRd:=Lib.hid hrd;have HZz:=Lib.hid hzz
  clear hrd hzz
  go_wp2_with fail
  clear z0 z1 z2 z3 z4 z5 z6 z7 z8 z9 z10 z11 zf
  have HB2:=Lib.hid (HB.out.alloc HB.out.size (.cells (nums .i64 [mi,bu,ch,wi,ca,st + 1]).toArray 3))
  obtain ⟨l,hl⟩:∃ l:List Int,[mi,bu,ch,wi,ca,st + 1] = l:=⟨_,rfl⟩
  have HL:=Lib.hid hl
  change Code.wp _ _ _ _ (W1.alloc (.cells (nums .i64 [mi,bu,ch,wi,ca,st + 1]).toArray 3))
  rw [hl] at HRd HZz HB2 ⊢
  clear hl HB HZ lz
  obtain ⟨p,hp⟩:∃ p,W1.heap.size = p:=⟨_,rfl⟩
  rw [hp] at HRd ⊢
  generalize W1.alloc (.cells (nums .i64 l).toArray 3) = W2 at HRd HZz HB2 ⊢
  clear hp
  go_loopw [5] (fun i wr => ∃ k:Nat,k ≤ 5 ∧ i = .int .i64 k ∧ Hid (∀ j,j < k → okB (nth l j) = true) ∧ wr = W2) (fun i _ => 5 - (intOf i).toNat)
  case atStart => exact ⟨0,Nat.zero_le _,rfl,Lib.hid fun j hj => by omega,rfl⟩
  case round =>
    obtain ⟨k,hk,rfl,Hall,rfl⟩:=hrel
    by_cases hlt:k < 5
    · have hlen:k < l.length:=by rw [← HL.out];simp only [List.length_cons,List.length_nil];omega
      obtain ⟨b',o,e1,hc⟩:=HRd.out.num hlen
      have hlti:(k:Int) < 5:=by omega
      injection e1 with e1;injection e1 with e1 e2 _;subst e1;subst e2
      obtain ⟨x,hx⟩:∃ x,nth l k = x:=⟨_,rfl⟩
      rw [hx,Nat.zero_add] at hc
      have Hx:=Lib.hid hx
      clear hx hlen
      go_wp2_with fail
      refine (btw_any x 1 1048576 _).mono ?_
      rintro e w' ⟨rfl,rfl⟩
      obtain ⟨b3,hb3⟩:∃ b3,btB x 1 1048576 = b3:=⟨_,rfl⟩
      have G3:=Lib.hid (show okB x = b3 from hb3)
      rw [hb3]
      clear hb3
      rcases bool_ft b3 with rfl | rfl
      · go_wp2_with fail
        go_ret
        exact ⟨ret_int (F2.out G1.out G2.out trivial (sixB_bad mi bu ch wi ca _ HL.out hlt (by rw [Hx.out];exact G3.out))).symm,HB2.out⟩
      go_wp2_with fail
      go_roundw
      case rel => exact ⟨k + 1,by omega,by go_num,Lib.hid (p:=∀ j,j < k + 1 → okB (nth l j) = true) fun j hj => by
        rcases Nat.lt_or_ge j k with h | h
        · exact Hall.out j h
        · obtain rfl:j = k:=by omega
          rw [Hx.out];exact G3.out,trivial⟩
      case measure => simp [intOf];omega
    · obtain rfl:k = 5:=by omega
      have hn:=sixB_good mi bu ch wi ca _ (decide (0 ≤ st ∧ st ≤ 1048576)) HL.out Hall.out GS.out
      have Hn:=Lib.hid hn;clear hn
      have hzz:=HZz.out
      obtain ⟨⟨z0,z1,z2,z3,z4,z5,z6,z7,z8,z9,z10,z11⟩,zf⟩:=bx12 hzz
      clear hzz
      go_wp2_with fail
      refine (btw_any ba wk 1048576 _).mono ?_
      rintro e w' ⟨rfl,rfl⟩
      obtain ⟨b3,hb3⟩:∃ b3,btB ba wk 1048576 = b3:=⟨_,rfl⟩
      have G3:=Lib.hid (show decide (wk ≤ ba ∧ ba ≤ 1048576) = b3 from hb3)
      rw [hb3]
      clear hb3
      rcases bool_ft b3 with rfl | rfl
      · go_wp2_with fail
        go_ret
        exact ⟨ret_int (F7.out G1.out G2.out trivial Hn.out G3.out).symm,HB2.out⟩
      go_wp2_with fail
      go_ret
      exact ⟨ret_int (F0.out G1.out G2.out trivial Hn.out G3.out).symm,HB2.out⟩
end Go.Proofs.YthamijnggdjaoaaGreatDoor
namespace Go.Proofs.YthamijnggdjaoaaGreatDoor
open Go.RowKit
theorem rpneed_any (n:Nat) (w:World) (hn:1 ≤ n) (hn2:n ≤ 1048576):Calls Tryz.prog 98 #[.int .i64 n] w fun e w' => e = .returned (.int .i64 ((n - 1:Nat):Int)) ∧ w = w':=by
  have h1:(0:Int) ≤ (n:Int) - 1:=by omega
  go_enter Tryz.func98,Tryz.ntmps98
  go_wp2
  all_goals
    go_ret
    exact ⟨ret_int (by omega),rfl⟩
theorem ceil_ge {sn per t:Nat} (hp:1 ≤ per) (h:t * per < sn):t < (sn + per - 1) / per:=by
  rw [Nat.lt_iff_add_one_le,Nat.le_div_iff_mul_le hp,Nat.succ_mul];omega
theorem ceil_lt {sn per t:Nat} (hp:1 ≤ per) (h:t < (sn + per - 1) / per):t * per < sn:=by
  rw [Nat.lt_iff_add_one_le,Nat.le_div_iff_mul_le hp,Nat.succ_mul] at h;omega
set_option maxRecDepth 100000 in
set_option maxHeartbeats 1000000 in
theorem repochs_any (A:Option Addr) (c n:Nat) (k:Cfg) (w:World) (h:CfgRd w A c k) (hg:GoodCfg k) (hn:k.batch ≤ n ∧ (n:Int) ≤ 1048576) :
    Calls Tryz.prog 97 #[.agg (cfgVals A c k),.int .i64 n] w fun e w' => e = .returned (.int .i64 (epN n k.batch.toNat k.steps.toNat:Int)) ∧ Below w.heap.size w w':=by
  have hck:=fun w' (q:Below w.heap.size w w') => rcfg_any A c k w' (h.below q)
  rw [cfg_good.2 hg] at hck
  have g1:=hg.w;have g2:=hg.ba;have g3:=hg.st
  clear h hg
  obtain ⟨sz,sh,ra,mo,wk,ba,mi,st,bu,ch,wi,ca⟩:=k
  dsimp only [cfgVals] at *
  obtain ⟨bt,rfl⟩:∃ bt:Nat,ba = bt:=⟨ba.toNat,by omega⟩
  obtain ⟨sn,rfl⟩:∃ sn:Nat,st = sn:=⟨st.toNat,by omega⟩
  rw [Int.toNat_natCast,Int.toNat_natCast]
  obtain ⟨L,hL⟩:∃ L,sz.length = L:=⟨_,rfl⟩
  rw [hL] at hck ⊢
  obtain ⟨per,hper⟩:∃ per,n / bt = per:=⟨_,rfl⟩
  have hper1:1 ≤ per:=by rw [← hper];exact Nat.div_pos (by omega) (by omega)
  have hper2:per ≤ n:=by rw [← hper];exact Nat.div_le_self _ _
  have hE:epN n bt sn = (sn + per - 1) / per:=by unfold epN;rw [hper,cntQ_eq _ _ hper1]
  rw [hE]
  have hEl:(sn + per - 1) / per ≤ sn + per - 1:=Nat.div_le_self _ _
  have hc1:=fun t => ceil_ge (sn:=sn) (t:=t) hper1
  have hc2:=fun t => ceil_lt (sn:=sn) (t:=t) hper1
  obtain ⟨E,hE2⟩:∃ E,(sn + per - 1) / per = E:=⟨_,rfl⟩
  rw [hE2] at hEl hc1 hc2 ⊢
  have hq1:(n:Int).tdiv (bt:Int) = (per:Int):=by rw [← hper];rfl
  have hq1':(n:Int) / (bt:Int) = (per:Int):=by rw [← hper];rfl
  have hq3:¬ (bt = 0):=by omega
  have Hck:=Lib.hid hck;have Hc1:=Lib.hid hc1;have Hc2:=Lib.hid hc2
  have hbt:btB (n:Int) (bt:Int) 1048576 = true:=by unfold btB;rw [decide_eq_true];omega
  have Hbt:=Lib.hid hbt
  clear hck hL hper hE hE2 hc1 hc2 hbt
  go_enter Tryz.func97,Tryz.ntmps97
  go_wp2_with fail
  have hz:=heap_alloc_new w (.cells #[.slice A L c,.int .i64 sh,.int .i64 ra,.int .i64 mo,.int .i64 wk,.int .i64 bt,.int .i64 mi,.int .i64 sn,.int .i64 bu,.int .i64 ch,.int .i64 wi,.int .i64 ca] 24)
  have hB:=(Below.refl _ w).alloc (Nat.le_refl _) (.cells #[.slice A L c,.int .i64 sh,.int .i64 ra,.int .i64 mo,.int .i64 wk,.int .i64 bt,.int .i64 mi,.int .i64 sn,.int .i64 bu,.int .i64 ch,.int .i64 wi,.int .i64 ca] 24)
  refine (Hck.out _ hB).mono ?_
  rintro e w1 ⟨rfl,hb1⟩
  have hz1:=(hb1.block _ (lt_of_block hz)).trans hz
  have HB:=Lib.hid (hB.trans (hb1.mono hB.size))
  obtain ⟨⟨z0,z1,z2,z3,z4,z5,z6,z7,z8,z9,z10,z11⟩,zf⟩:=bx12 hz1
  clear hz hB hb1 hz1
  go_wp2_with fail
  refine (btw_any n bt 1048576 _).mono ?_
  rintro e w' ⟨rfl,rfl⟩
  rw [Hbt.out]
  go_wp2_with fail
  go_loopw [5,6] (fun t i wr => ∃ k m:Nat,k ≤ E ∧ t = .int .i64 k ∧ i = .int .i64 m ∧ Hid (m = k * per) ∧ m < sn + per ∧ wr = w1) (fun _ i _ => sn - (intOf i).toNat)
  case atStart => exact ⟨0,0,Nat.zero_le _,rfl,rfl,Lib.hid (by omega),by omega,rfl⟩
  case round =>
    obtain ⟨k,m,hk,rfl,rfl,Hm,hm,rfl⟩:=hrel
    by_cases hlt:m < sn
    · have hlti:(m:Int) < sn:=by omega
      go_wp2_with fail
      go_roundw
      case rel => exact ⟨k + 1,m + per,Hc1.out k (by rw [← Hm.out];exact hlt),by go_num,by go_num,Lib.hid (by rw [Hm.out,Nat.succ_mul]),by omega,trivial⟩
      case measure => simp [intOf];omega
    · obtain rfl:k = E:=by
        rcases Nat.lt_or_ge k E with h | h
        · exact absurd (Hc2.out k h) (by rw [← Hm.out];exact hlt)
        · omega
      go_wp2_with fail
      go_ret
      exact ⟨rfl,HB.out⟩
set_option maxRecDepth 100000 in
theorem rneed_any (A:Option Addr) (c n:Nat) (k:Cfg) (w:World) (h:CfgRd w A c k) (hg:GoodCfg k) (hn:k.batch ≤ n ∧ (n:Int) ≤ 1048576) :
    Calls Tryz.prog 49 #[.agg (cfgVals A c k),.int .i64 n] w fun e w' => e = .returned (.int .i64 (needN n k.batch.toNat k.steps.toNat:Int)) ∧ Below w.heap.size w w':=by
  have hep:=fun w' (q:Below w.heap.size w w') => repochs_any A c n k w' (h.below q) hg hn
  have g1:=hg.w;have g2:=hg.ba;have g3:=hg.st
  have hpn:=fun w' => rpneed_any n w' (by omega) (by omega)
  have hle:=needN_le (n:=n) (b:=k.batch.toNat) (st:=k.steps.toNat) (by omega) (by omega)
  unfold needN at hle ⊢
  clear h hg
  obtain ⟨sz,sh,ra,mo,wk,ba,mi,st,bu,ch,wi,ca⟩:=k
  dsimp only [cfgVals] at *
  obtain ⟨L,hL⟩:∃ L,sz.length = L:=⟨_,rfl⟩
  rw [hL] at hep ⊢
  obtain ⟨E,hE⟩:∃ E,epN n ba.toNat st.toNat = E:=⟨_,rfl⟩
  obtain ⟨m,hm⟩:∃ m,n - 1 = m:=⟨_,rfl⟩
  rw [hE] at hep hle ⊢
  rw [hm] at hpn hle ⊢
  obtain ⟨y,hy⟩:∃ y,E * m = y:=⟨_,rfl⟩
  rw [hy] at hle ⊢
  have hmul:(E:Int) * (m:Int) = (y:Int):=by rw [← hy];push_cast;rfl
  have Hep:=Lib.hid hep;have Hpn:=Lib.hid hpn
  clear hep hpn hL hE hm hy
  go_enter Tryz.func49,Tryz.ntmps49
  go_wp2_with fail
  have hz:=heap_alloc_new w (.cells #[.slice A L c,.int .i64 sh,.int .i64 ra,.int .i64 mo,.int .i64 wk,.int .i64 ba,.int .i64 mi,.int .i64 st,.int .i64 bu,.int .i64 ch,.int .i64 wi,.int .i64 ca] 24)
  have hB:=(Below.refl _ w).alloc (Nat.le_refl _) (.cells #[.slice A L c,.int .i64 sh,.int .i64 ra,.int .i64 mo,.int .i64 wk,.int .i64 ba,.int .i64 mi,.int .i64 st,.int .i64 bu,.int .i64 ch,.int .i64 wi,.int .i64 ca] 24)
  refine (Hep.out _ hB).mono ?_
  rintro e w1 ⟨rfl,hb1⟩
  have HB:=Lib.hid (hB.trans (hb1.mono hB.size))
  clear hz hB hb1
  go_wp2_with fail
  refine (Hpn.out _).mono ?_
  rintro e w2 ⟨rfl,rfl⟩
  go_wp2_with fail
  go_ret
  exact ⟨rfl,HB.out⟩
end Go.Proofs.YthamijnggdjaoaaGreatDoor
