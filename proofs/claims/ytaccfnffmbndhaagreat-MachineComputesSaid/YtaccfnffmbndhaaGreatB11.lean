/- plan.Buckets, Len and Step. What a configuration is, and its code, in plain numbers. The walks of sakiaref08. No condition. -/
import Derived.Test.YtaccfnffmbndhaaGreatB10
import Derived.WalkSpells
import Derived.Test.YtaccfnffmbndhaaGreatB04
import Derived.Test.YtaccfnffmbndhaaGreatProg
import Derived.Test.YtaccfnffmbndhaaGreatB05
import Derived.BigQuiet
import Derived.Deep.QuietTactic
import Derived.Deep.RegionHeld3
import Derived.IntWalk
set_option linter.unusedSimpArgs false
set_option linter.unusedVariables false
namespace Go.Proofs.YtaccfnffmbndhaaGreat
open Go.RowKit
theorem rg_one (l:List Rg):∀ u ∈ rgVals l,u.oneCell' = true:=by
  intro u hu
  simp only [rgVals,List.mem_flatMap,List.mem_cons,List.not_mem_nil,or_false] at hu
  obtain ⟨r,_,h | h⟩:=hu <;> subst h <;> rfl
theorem gclone_any (A:Option Addr) (l:List Rg) (n c:Nat) (w:World) (hA:Rd w A (rgVals l)) (hn:l.length = n) (hl:n ≤ 1048576) :
    Calls Tryz.prog 105 #[.slice A n c] w fun e w' => ∃ v,e = .returned v ∧ w'.ownsRow w.heap.size 52 2 v n (rgVals l) ∧ Below w.heap.size w w':=by
  subst hn
  have q:=fun (w:World) => Lib.run_eql_slice_nil (P:=Tryz.prog) w 120 52 A l.length c 0 0 Tryz.underlying120
  cases A with
  | none =>
    have hz:l = []:=by
      cases l with
      | nil => rfl
      | cons z l => obtain ⟨b,o,h,_⟩:=hA 0 (.int .i64 (z.1:Int)) (by simp [rgVals]);cases h
    subst hz
    clear q
    have q:=fun (w:World) => Lib.run_eql_slice_nil (P:=Tryz.prog) w 120 52 none 0 c 0 0 Tryz.underlying120
    simp only [Option.isNone_none] at q
    rw [List.length_nil]
    go_enter Tryz.func105,Tryz.ntmps105
    go_wp2
    go_ret
    exact ⟨_,rfl,World.ownsRow_nil _ _ _ _,Below.refl _ _⟩
  | some a =>
    go_enter Tryz.func105,Tryz.ntmps105
    go_wp2_with (at_builtin;refine wpList_app et_rngs _ rfl (.tmp 5) (.tmp 6) rfl w.heap.size _ 0 [] rfl (own_empty w 52 2) _ l.length c (rgVals l) rfl (hA.alloc _) (rgVals_len l) (rg_one l) (by omega) (by unfold maxLen;omega) (by simp) ?_)
    intro A' c' w1 hown hb _ _
    have hb1:=((Below.refl _ w).alloc (Nat.le_refl _) (.cells #[] 52)).trans hb
    have Hown:=Lib.hid hown;have Hb1:=Lib.hid hb1;clear hown hb hb1
    go_wp2
    go_ret
    exact ⟨_,rfl,by simpa using Hown.out,Hb1.out⟩
set_option maxRecDepth 100000 in
theorem pbuk_any (p:Pln) (P:Nat) (a0 a1 a2 a3 a5 a7 a11:Value) (w:World) (hp:PlnOk p) (hP:PlanAt w P p a0 a1 a2 a3 a5 a7 a11) :
    Calls Tryz.prog 49 #[.pointer (some ⟨P,0,none⟩)] w fun e w' => ∃ v,e = .returned v ∧ w'.ownsRow w.heap.size 52 2 v p.buks.length (rgVals p.buks) ∧ Below w.heap.size w w':=by
  obtain ⟨BA,bc,GA,gc,LA,lc,hb,hB,hG,hL⟩:=hP
  have hbl:=hp.buks
  have hc:=gclone_any BA p.buks p.buks.length bc w hB rfl (by omega)
  obtain ⟨⟨t0,t1,t2,t3,t4,t5,t6,t7,t8,t9,t10,t11,t12,t13,t14⟩,tf⟩:=bx15 hb
  have Hc:=Lib.hid hc
  clear hc hb hB hG hL
  go_enter Tryz.func49,Tryz.ntmps49
  go_wp2_with fail
  refine Hc.out.mono ?_
  rintro e w1 ⟨v,rfl,o1,k1⟩
  have O1:=Lib.hid o1;have K1:=Lib.hid k1
  clear o1 k1
  go_wp2_with fail
  go_ret
  exact ⟨_,rfl,O1.out,K1.out⟩
set_option maxRecDepth 100000 in
theorem plen_any (p:Pln) (P x:Nat) (a0 a1 a2 a3 a5 a7 a11:Value) (w:World) (hx:x < p.W) (hP:PlanAt w P p a0 a1 a2 a3 a5 a7 a11) :
    Calls Tryz.prog 106 #[.pointer (some ⟨P,0,none⟩),.int .i64 x] w fun e w' => e = .returned (.int .i64 ((itemsL p x 0).length:Nat)) ∧ w = w':=by
  obtain ⟨BA,bc,GA,gc,LA,lc,hb,hB,hG,hL⟩:=hP
  obtain ⟨lb,lo,rfl,c0⟩:=hL.num (k:=x) (by rw [lensL_len];exact hx)
  have e:nth (lensL p p.W) x = ((itemsL p x 0).length:Int):=by
    rw [nth_eq _ _ (by rw [lensL_len];exact hx)];simp [lensL]
  rw [e] at c0
  obtain ⟨⟨t0,t1,t2,t3,t4,t5,t6,t7,t8,t9,t10,t11,t12,t13,t14⟩,tf⟩:=bx15 hb
  have hxI:(x:Int) < p.W:=by omega
  have hxJ:¬ ((p.W:Int) ≤ x):=by omega
  clear hb hB hG hL e
  go_enter Tryz.func106,Tryz.ntmps106
  go_wp2
  go_ret
  exact ⟨rfl,rfl⟩
theorem items_lenS {p:Pln} (hp:PlnOk p) (x st:Nat):(itemsL p x st).length = (itemsL p x 0).length:=by
  rw [itemsL_len p x st hp.wi,itemsL_len p x 0 hp.wi]
  have h:∀ j ph r,(roundI p x st ph r j).length = (roundI p x 0 ph r j).length:=fun j ph r => by
    unfold roundI
    rw [List.length_map,List.length_map,roundL_len,roundL_len]
  simp only [h]
theorem items_pos (p:Pln) (x st:Nat):0 < (itemsL p x st).length:=by unfold itemsL;simp;omega
theorem cntQ_pos {n s:Nat} (h:1 ≤ n):0 < cntQ n s:=by unfold cntQ;rw [if_neg (by omega)];exact Nat.succ_pos _
theorem buks_pos {p:Pln} (hn:1 ≤ p.n):0 < p.buks.length:=by rw [Pln.buks,bukR_len];exact cntQ_pos hn
theorem grps_pos {p:Pln} (hn:1 ≤ p.n):0 < p.grps.length:=by rw [Pln.grps,blkR_len];exact cntQ_pos (buks_pos hn)
theorem rg_lt {w:World} {A:Option Addr} {l:List Rg} (h:Rd w A (rgVals l)) (hl:0 < l.length):∀ y,A = some y → y.block < w.heap.size:=fun y hy => by
  obtain ⟨b,o,e,c⟩:=h _ _ (rgVals_get hl).1
  rw [hy] at e
  injection e with e
  subst e
  exact lt_of_cell c
set_option maxRecDepth 100000 in
set_option maxHeartbeats 1000000 in
theorem pstep_any (p:Pln) (P x st stp:Nat) (a0 a1 a2 a3 a5 a11:Value) (w:World) (hp:PlnOk p) (hn:1 ≤ p.n) (hx:x < p.W) (hst:st < stp) (hP:PlanAt w P p a0 a1 a2 a3 a5 (.int .i64 (stp:Nat)) a11) :
    Calls Tryz.prog 51 #[.pointer (some ⟨P,0,none⟩),.int .i64 x,.int .i64 (st:Nat)] w fun e w' => ∃ v,e = .returned v ∧ w'.ownsRow w.heap.size 56 12 v (itemsL p x st).length (itVals (itemsL p x st)) ∧ Below w.heap.size w w':=by
  have hl:=plen_any p P x a0 a1 a2 a3 a5 (.int .i64 (stp:Nat)) a11 w hx hP
  obtain ⟨BA,bc,GA,gc,LA,lc,hb,hB,hG,hL⟩:=hP
  have hc:=items_any p st x a0 a1 a2 a3 a5 (.int .i64 (stp:Nat)) (.int .i64 (p.bu:Nat)) (.int .i64 (p.wi:Nat)) a11 BA GA bc gc w hp hx hB hG (rg_lt hB (buks_pos hn)) (rg_lt hG (grps_pos hn))
  have hlp:=items_pos p x 0
  obtain ⟨n,hn'⟩:∃ n,(itemsL p x 0).length = n:=⟨_,rfl⟩
  rw [hn'] at hl hlp
  have hn0:¬ ((n:Int) = 0):=by omega
  have hn1:((n:Int) == 0) = false:=by simpa using hn0
  have hsI:¬ ((stp:Int) ≤ st):=by omega
  obtain ⟨⟨t0,t1,t2,t3,t4,t5,t6,t7,t8,t9,t10,t11,t12,t13,t14⟩,tf⟩:=bx15 hb
  have Hc:=Lib.hid hc;have Hl:=Lib.hid hl
  clear hc hl hb hB hG hL hn'
  go_enter Tryz.func51,Tryz.ntmps51
  go_wp2_with fail
  refine Hl.out.mono ?_
  rintro e w1 ⟨rfl,rfl⟩
  go_wp2_with fail
  refine Hc.out.mono ?_
  rintro e w1 ⟨v,rfl,o1,k1⟩
  have O1:=Lib.hid o1;have K1:=Lib.hid k1
  clear o1 k1
  go_wp2_with fail
  go_ret
  exact ⟨_,rfl,O1.out,K1.out⟩
set_option maxRecDepth 100000 in
theorem pstep_end (p:Pln) (P x st stp:Nat) (a0 a1 a2 a3 a5 a11:Value) (w:World) (hx:x < p.W) (hst:stp ≤ st) (hP:PlanAt w P p a0 a1 a2 a3 a5 (.int .i64 (stp:Nat)) a11) :
    Calls Tryz.prog 51 #[.pointer (some ⟨P,0,none⟩),.int .i64 x,.int .i64 (st:Nat)] w fun e w' => e = .returned (.slice none 0 0) ∧ w = w':=by
  have hl:=plen_any p P x a0 a1 a2 a3 a5 (.int .i64 (stp:Nat)) a11 w hx hP
  obtain ⟨BA,bc,GA,gc,LA,lc,hb,hB,hG,hL⟩:=hP
  have hlp:=items_pos p x 0
  obtain ⟨n,hn'⟩:∃ n,(itemsL p x 0).length = n:=⟨_,rfl⟩
  rw [hn'] at hl hlp
  have hn0:¬ ((n:Int) = 0):=by omega
  have hn1:((n:Int) == 0) = false:=by simpa using hn0
  have hsI:(stp:Int) ≤ st:=by omega
  obtain ⟨⟨t0,t1,t2,t3,t4,t5,t6,t7,t8,t9,t10,t11,t12,t13,t14⟩,tf⟩:=bx15 hb
  have Hl:=Lib.hid hl
  clear hl hb hB hG hL hn'
  go_enter Tryz.func51,Tryz.ntmps51
  go_wp2_with fail
  refine Hl.out.mono ?_
  rintro e w1 ⟨rfl,rfl⟩
  go_wp2_with fail
  go_ret
  exact ⟨rfl,rfl⟩
end Go.Proofs.YtaccfnffmbndhaaGreat
namespace Go.Proofs.YtaccfnffmbndhaaGreat
open Go.RowKit
noncomputable def szCode (sz:List Int):Int:=@ite _ (GoodSz sz) (Classical.propDecidable _) 0 (@ite _ (RightSz sz) (Classical.propDecidable _) 4 5)
theorem szCode_good {sz:List Int} (h:GoodSz sz):szCode sz = 0:=by unfold szCode;rw [if_pos h]
theorem szCode_long {sz:List Int} (h:¬ GoodSz sz) (hr:RightSz sz):szCode sz = 4:=by unfold szCode;rw [if_neg h,if_pos hr]
theorem szCode_wrong {sz:List Int} (h:¬ RightSz sz):szCode sz = 5:=by unfold szCode;rw [if_neg (fun g => h g.1),if_neg h]
theorem szCode_iff (sz:List Int):szCode sz = 0 ↔ GoodSz sz:=by
  constructor
  · intro h
    by_cases hg:GoodSz sz
    · exact hg
    · by_cases hr:RightSz sz
      · rw [szCode_long hg hr] at h;omega
      · rw [szCode_wrong hr] at h;omega
  · exact szCode_good
theorem bool_ft (b:Bool):b = false ∨ b = true:=by cases b <;> simp
structure Cfg where
  sizes:List Int
  shift:Int
  rate:Int
  mom:Int
  workers:Int
  batch:Int
  micros:Int
  steps:Int
  bucket:Int
  chunk:Int
  window:Int
  cap:Int
def okB (n:Int):Bool:=decide (1 ≤ n ∧ n ≤ 1048576)
theorem okB_true {n:Int} (h:okB n = true):1 ≤ n ∧ n ≤ 1048576:=by simpa [okB] using h
theorem okB_false {n:Int} (h:okB n = false):¬ (1 ≤ n ∧ n ≤ 1048576):=by
  intro h2;unfold okB at h;rw [decide_eq_true h2] at h;cases h
def stepsB (n:Int):Bool:=decide (0 ≤ n ∧ n ≤ 1048576)
def numsB (k:Cfg):Bool:=okB k.micros && okB k.bucket && okB k.chunk && okB k.window && okB k.cap && stepsB k.steps
def wkB (k:Cfg):Bool:=decide (1 ≤ k.workers ∧ k.workers ≤ 64)
def shB (k:Cfg):Bool:=decide (1 ≤ k.shift ∧ k.shift ≤ 62)
def baB (k:Cfg):Bool:=decide (k.workers ≤ k.batch ∧ k.batch ≤ 1048576)
noncomputable def cfgCode (k:Cfg):Int:=if wkB k = false then 6 else if shB k = false then 9 else if szCode k.sizes ≠ 0 then szCode k.sizes else if numsB k = false then 2 else if baB k = false then 7 else 0
theorem cfg_6 {k:Cfg} (h:wkB k = false):cfgCode k = 6:=by unfold cfgCode;rw [if_pos h]
theorem cfg_9 {k:Cfg} (h1:wkB k = true) (h:shB k = false):cfgCode k = 9:=by unfold cfgCode;rw [if_neg (by simp [h1]),if_pos h]
theorem cfg_s {k:Cfg} (h1:wkB k = true) (h2:shB k = true) (h:szCode k.sizes ≠ 0):cfgCode k = szCode k.sizes:=by unfold cfgCode;rw [if_neg (by simp [h1]),if_neg (by simp [h2]),if_pos h]
theorem cfg_2 {k:Cfg} (h1:wkB k = true) (h2:shB k = true) (h3:szCode k.sizes = 0) (h:numsB k = false):cfgCode k = 2:=by unfold cfgCode;rw [if_neg (by simp [h1]),if_neg (by simp [h2]),if_neg (by simp [h3]),if_pos h]
theorem cfg_7 {k:Cfg} (h1:wkB k = true) (h2:shB k = true) (h3:szCode k.sizes = 0) (h4:numsB k = true) (h:baB k = false):cfgCode k = 7:=by unfold cfgCode;rw [if_neg (by simp [h1]),if_neg (by simp [h2]),if_neg (by simp [h3]),if_neg (by simp [h4]),if_pos h]
theorem cfg_0 {k:Cfg} (h1:wkB k = true) (h2:shB k = true) (h3:szCode k.sizes = 0) (h4:numsB k = true) (h:baB k = true):cfgCode k = 0:=by unfold cfgCode;rw [if_neg (by simp [h1]),if_neg (by simp [h2]),if_neg (by simp [h3]),if_neg (by simp [h4]),if_neg (by simp [h])]
structure GoodCfg (k:Cfg):Prop where
  w:1 ≤ k.workers ∧ k.workers ≤ 64
  s:1 ≤ k.shift ∧ k.shift ≤ 62
  z:GoodSz k.sizes
  mi:1 ≤ k.micros ∧ k.micros ≤ 1048576
  bu:1 ≤ k.bucket ∧ k.bucket ≤ 1048576
  ch:1 ≤ k.chunk ∧ k.chunk ≤ 1048576
  wi:1 ≤ k.window ∧ k.window ≤ 1048576
  ca:1 ≤ k.cap ∧ k.cap ≤ 1048576
  st:0 ≤ k.steps ∧ k.steps ≤ 1048576
  ba:k.workers ≤ k.batch ∧ k.batch ≤ 1048576
theorem cfg_good {k:Cfg}:cfgCode k = 0 ↔ GoodCfg k:=by
  constructor
  · intro h
    cases h1:wkB k with
    | false => rw [cfg_6 h1] at h;omega
    | true =>
      cases h2:shB k with
      | false => rw [cfg_9 h1 h2] at h;omega
      | true =>
        by_cases h3:szCode k.sizes = 0
        · cases h4:numsB k with
          | false => rw [cfg_2 h1 h2 h3 h4] at h;omega
          | true =>
            cases h5:baB k with
            | false => rw [cfg_7 h1 h2 h3 h4 h5] at h;omega
            | true =>
              simp only [numsB,Bool.and_eq_true] at h4
              obtain ⟨⟨⟨⟨⟨a1,a2⟩,a3⟩,a4⟩,a5⟩,a6⟩:=h4
              exact ⟨by simpa [wkB] using h1,by simpa [shB] using h2,(szCode_iff _).1 h3,okB_true a1,okB_true a2,okB_true a3,okB_true a4,okB_true a5,by simpa [stepsB] using a6,by simpa [baB] using h5⟩
        · rw [cfg_s h1 h2 h3] at h;exact absurd h h3
  · intro h
    refine cfg_0 (by simpa [wkB] using h.w) (by simpa [shB] using h.s) (szCode_good h.z) ?_ (by simpa [baB] using h.ba)
    simp only [numsB,Bool.and_eq_true]
    exact ⟨⟨⟨⟨⟨by simpa [okB] using h.mi,by simpa [okB] using h.bu⟩,by simpa [okB] using h.ch⟩,by simpa [okB] using h.wi⟩,by simpa [okB] using h.ca⟩,by simpa [stepsB] using h.st⟩
end Go.Proofs.YtaccfnffmbndhaaGreat
namespace Go.Proofs.YtaccfnffmbndhaaGreat
open Go.RowKit
theorem rrng_hi (a b:Int) (w:World):Sem.run Tryz.prog (Instr.field 132 (.agg #[.int .i64 a,.int .i64 b]) 1) w = .ok (.int .i64 b) w:=by kernel_rfl
theorem rrng_lo (a b:Int) (w:World):Sem.run Tryz.prog (Instr.field 132 (.agg #[.int .i64 a,.int .i64 b]) 0) w = .ok (.int .i64 a) w:=by kernel_rfl
theorem rcount_any (A:Option Addr) (sz:List Int) (m c:Nat) (w:World) (hA:Rd w A (nums .i64 sz)) (hR:RightSz sz) (h1:1 ≤ m) (hm:m ≤ sz.length) :
    Calls Tryz.prog 62 #[.slice A m c] w fun e w' => e = .returned (.int .i64 (cntN sz (m - 1):Int)) ∧ ∃ n,w' = w.drewN n:=by
  have hmb:m ≤ 16:=by have:=hR.1.2;omega
  have HAz:=Lib.hid hA;have HR:=Lib.hid hR;have Hm:=Lib.hid hm;clear hA hR hm
  go_enter Tryz.func62,Tryz.ntmps62
  go_wp2_with fail
  go_loopw [3,4] (fun v i wr => ∃ k:Nat,k + 1 ≤ m ∧ i = .int .i64 k ∧ v = .int .i64 (cntN sz k:Int) ∧ ∃ n,wr = w.drewN n) (fun _ i _ => m - (intOf i).toNat)
  case atStart => exact ⟨0,h1,rfl,rfl,0,rfl⟩
  case round =>
    obtain ⟨k,hk,rfl,rfl,n,rfl⟩:=hrel
    by_cases hlt:k + 1 < m
    · have hm:=Hm.out
      have z0:=HR.out.at (k:=k) (by omega)
      have z1:=HR.out.at (k:=k + 1) (by omega)
      obtain ⟨b,o,rfl,p0⟩:=HAz.out.num (show k < sz.length by omega)
      obtain ⟨_,_,e',p1⟩:=HAz.out.num (show k + 1 < sz.length by omega)
      injection e' with e';injection e' with e1 e2 _;subst e1;subst e2
      have hb:=HR.out.bound (k:=k + 1) (by omega)
      rw [z0.2.2] at p0
      rw [z1.2.2] at p1
      have hc:cntN sz (k + 1) = cntN sz k + (szN sz k + 1) * szN sz (k + 1):=rfl
      obtain ⟨a,ha⟩:∃ a,szN sz k = a:=⟨_,rfl⟩
      obtain ⟨d,hd⟩:∃ d,szN sz (k + 1) = d:=⟨_,rfl⟩
      obtain ⟨N,hN⟩:∃ N,cntN sz k = N:=⟨_,rfl⟩
      obtain ⟨M,hM⟩:∃ M,cntN sz (k + 1) = M:=⟨_,rfl⟩
      obtain ⟨p,hp⟩:∃ p,(a + 1) * d = p:=⟨_,rfl⟩
      rw [ha] at p0 z0 hc
      rw [hd] at p1 z1 hc
      rw [hN,hM,hp] at hc
      rw [hM] at hb
      rw [hN]
      have HM:=Lib.hid hM
      clear hM hN ha hd
      have hi1:(k:Int) + 1 < m:=by omega
      have hi0:(k:Int) < m:=by omega
      have hi2:(0:Int) ≤ (k:Int) + 1:=by omega
      have hi3:((k:Int) + 1).toNat = k + 1:=by omega
      have hw0:IntKind.i64.wrap ((k:Int) + 1) = (k:Int) + 1:=IntWalk.i64_in _ (by omega)
      have hw1:IntKind.i64.wrap ((a:Int) + 1) = (a:Int) + 1:=IntWalk.i64_in _ (by omega)
      have hpp:((a:Int) + 1) * (d:Int) = (p:Int):=by rw [← hp];push_cast;rfl
      have hw2:IntKind.i64.wrap (((a:Int) + 1) * (d:Int)) = (p:Int):=by rw [hpp];exact IntWalk.i64_in _ (by omega)
      have hw3:IntKind.i64.wrap ((N:Int) + (p:Int)) = (M:Int):=by rw [IntWalk.i64_in _ (by omega)];omega
      clear hpp hp hc hb z0 z1
      go_wp2_with fail
      go_quiet (fail)
      clear hw0 hw1 hw2 hw3 hi0 hi1 hi2 hi3
      go_wp2_with fail
      go_roundw
      case rel => exact ⟨k + 1,by omega,by go_num,by rw [HM.out],_,by first | rfl | exact World.drewN_drewN _ _ _⟩
      case measure => simp [intOf];omega
    · obtain rfl:k = m - 1:=by omega
      have hwk:IntKind.i64.wrap (((m - 1:Nat):Int) + 1) = (m:Int):=by rw [IntWalk.i64_in _ (by omega)];omega
      go_wp2_with fail
      go_ret
      exact ⟨rfl,n,rfl⟩
theorem rcheck_short (A:Option Addr) (sz:List Int) (c:Nat) (w:World) (hl:sz.length ≤ 17592186043904) (h:¬ (2 ≤ sz.length ∧ sz.length ≤ 16)) :
    Calls Tryz.prog 107 #[.slice A sz.length c] w fun e w' => e = .returned (.int .i64 5) ∧ w = w':=by
  by_cases h1:sz.length < 2
  · go_enter Tryz.func107,Tryz.ntmps107
    go_wp2
    go_ret
    exact ⟨rfl,rfl⟩
  · have h2:16 < sz.length:=by omega
    go_enter Tryz.func107,Tryz.ntmps107
    go_wp2
    go_ret
    exact ⟨rfl,rfl⟩
def codeN (sz:List Int):Int:=if 1048576 < cntN sz (sz.length - 1) then 4 else 0
theorem rcheck_long (A:Option Addr) (sz:List Int) (c:Nat) (w:World) (hA:Rd w A (nums .i64 sz)) (h:2 ≤ sz.length ∧ sz.length ≤ 16) :
    Calls Tryz.prog 107 #[.slice A sz.length c] w fun e w' => ((RightSz sz ∧ e = .returned (.int .i64 (codeN sz))) ∨ (¬ RightSz sz ∧ e = .returned (.int .i64 5))) ∧ ∃ n,w' = w.drewN n:=by
  obtain ⟨h1,h2⟩:=h
  obtain ⟨n,hn⟩:∃ n,sz.length = n:=⟨_,rfl⟩
  have hct:=fun (hR:RightSz sz) => rcount_any A sz n c w hA hR (by omega) (by omega)
  have hR:(∀ k,k < n → 1 ≤ nth sz k ∧ nth sz k ≤ 1048576) → RightSz sz:=fun h => ⟨by omega,by rw [hn];exact h⟩
  have hRn:RightSz sz → ∀ k,k < n → 1 ≤ nth sz k ∧ nth sz k ≤ 1048576:=fun h => by rw [← hn];exact h.2
  have hcd:codeN sz = if 1048576 < cntN sz (n - 1) then 4 else 0:=by unfold codeN;rw [hn]
  rw [hn] at h1 h2 ⊢
  have HAz:=Lib.hid hA;have Hct:=Lib.hid hct;have HR:=Lib.hid hR;have HRn:=Lib.hid hRn;have Hn:=Lib.hid hn;have Hcd:=Lib.hid hcd;clear hA hct hR hRn hn hcd
  go_enter Tryz.func107,Tryz.ntmps107
  go_wp2_with fail
  go_loop [3] (fun i => ∃ k:Nat,k ≤ n ∧ i = .int .i64 k ∧ Hid (∀ j,j < k → 1 ≤ nth sz j ∧ nth sz j ≤ 1048576)) (fun i => n - (intOf i).toNat)
  case atStart => exact ⟨0,Nat.zero_le _,rfl,Lib.hid fun j hj => by omega⟩
  case round =>
    obtain ⟨k,hk,rfl,Hall⟩:=hrel
    by_cases hlt:k < n
    · obtain ⟨b,o,rfl,p⟩:=HAz.out.num (show k < sz.length by rw [Hn.out];exact hlt)
      by_cases hz1:nth sz k < 1
      · have hno:¬ RightSz sz:=fun h => by have:=HRn.out h k hlt;omega
        have Hno:=Lib.hid hno;clear hno
        go_wp2_with fail
        go_ret
        exact ⟨.inr ⟨Hno.out,rfl⟩,0,rfl⟩
      · by_cases hz2:1048576 < nth sz k
        · have hno:¬ RightSz sz:=fun h => by have:=HRn.out h k hlt;omega
          have Hno:=Lib.hid hno;clear hno
          go_wp2_with fail
          go_ret
          exact ⟨.inr ⟨Hno.out,rfl⟩,0,rfl⟩
        · have Hz:=Lib.hid (show 1 ≤ nth sz k ∧ nth sz k ≤ 1048576 by omega)
          go_wp2_with fail
          go_round
          case rel => exact ⟨k + 1,by omega,by go_num,Lib.hid (p:=∀ j,j < k + 1 → 1 ≤ nth sz j ∧ nth sz j ≤ 1048576) fun j hj => by
            rcases Nat.lt_or_ge j k with h | h
            · exact Hall.out j h
            · obtain rfl:j = k:=by omega
              exact Hz.out⟩
          case measure => simp [intOf];omega
    · obtain rfl:k = n:=by omega
      have hR:=HR.out Hall.out
      have hb:=hR.bound (k:=k - 1) (by rw [Hn.out];omega)
      have HRR:=Lib.hid hR;clear hR
      by_cases hbig:1048576 < cntN sz (k - 1)
      · have hbi:(1048576:Int) < cntN sz (k - 1):=by omega
        have hcv:codeN sz = 4:=by rw [Hcd.out,if_pos hbig]
        have Hcv:=Lib.hid hcv;clear hcv
        go_wp2_with fail
        refine (Hct.out HRR.out).mono ?_
        rintro e w' ⟨rfl,m,rfl⟩
        go_wp2_with fail
        go_ret
        exact ⟨.inl ⟨HRR.out,by rw [Hcv.out];rfl⟩,m,rfl⟩
      · have hbi:¬ (1048576:Int) < cntN sz (k - 1):=by omega
        have hcv:codeN sz = 0:=by rw [Hcd.out,if_neg hbig]
        have Hcv:=Lib.hid hcv;clear hcv
        go_wp2_with fail
        refine (Hct.out HRR.out).mono ?_
        rintro e w' ⟨rfl,m,rfl⟩
        go_wp2_with fail
        go_ret
        exact ⟨.inl ⟨HRR.out,by rw [Hcv.out];rfl⟩,m,rfl⟩
set_option maxHeartbeats 400000 in
theorem rweights_any (A:Option Addr) (sz:List Int) (k c:Nat) (w:World) (hA:Rd w A (nums .i64 sz)) (hR:RightSz sz) (hk:k + 1 < sz.length) (hc:sz.length ≤ c) :
    Calls Tryz.prog 204 #[.slice A sz.length c,.int .i64 k] w fun e w' => e = .returned (.agg #[.int .i64 (cntN sz k:Int),.int .i64 (midN sz k:Int)]) ∧ Below w.heap.size w w':=by
  have hl16:=hR.1.2
  have z0:=hR.at (k:=k) (by omega)
  have z1:=hR.at hk
  obtain ⟨b,o,rfl,p0⟩:=hA.num (show k < sz.length by omega)
  obtain ⟨_,_,e',p1⟩:=hA.num hk
  injection e' with e';injection e' with e1 e2 _;subst e1;subst e2
  have hct:=fun w' (h:Below w.heap.size w w') => rcount_any (some ⟨b,o,none⟩) sz (k + 1) c w' (hA.below h) hR (by omega) (by omega)
  have hb:=hR.bound (k:=k + 1) hk
  have hm:midN sz k = cntN sz k + szN sz (k + 1) * szN sz k:=rfl
  have hm2:=midN_eq sz k
  simp only [Nat.add_sub_cancel] at hct
  rw [z0.2.2] at p0
  rw [z1.2.2] at p1
  obtain ⟨a,ha⟩:∃ a,szN sz k = a:=⟨_,rfl⟩
  obtain ⟨d,hd⟩:∃ d,szN sz (k + 1) = d:=⟨_,rfl⟩
  obtain ⟨N,hN⟩:∃ N,cntN sz k = N:=⟨_,rfl⟩
  obtain ⟨M,hM⟩:∃ M,midN sz k = M:=⟨_,rfl⟩
  obtain ⟨p,hp⟩:∃ p,d * a = p:=⟨_,rfl⟩
  obtain ⟨n,hn⟩:∃ n,sz.length = n:=⟨_,rfl⟩
  rw [ha] at p0 z0 hm
  rw [hd] at p1 z1 hm hm2
  rw [hN,hM,hp] at hm
  rw [hM] at hm2
  rw [hN] at hct ⊢
  rw [hM]
  rw [hn] at hk hc hl16 ⊢
  have hbl:b < w.heap.size:=lt_of_cell p0
  have Hct:=Lib.hid hct
  clear hct hA hR
  have hi1:(k:Int) + 1 < n:=by omega
  have hi0:(k:Int) < n:=by omega
  have hi2:(0:Int) ≤ (k:Int) + 1:=by omega
  have hi3:((k:Int) + 1).toNat = k + 1:=by omega
  have hi4:((n - 1:Nat):Int) = (n:Int) - 1:=by omega
  have hi5:¬ ((n:Int) - 1 ≤ k):=by omega
  have hi6:k + 1 ≤ c:=by omega
  have hpp:(a:Int) * (d:Int) = (p:Int):=by rw [← hp,Nat.mul_comm];push_cast;rfl
  have hw2:IntKind.i64.wrap ((a:Int) * (d:Int)) = (p:Int):=by rw [hpp];exact IntWalk.i64_in _ (by omega)
  have hw3:IntKind.i64.wrap ((N:Int) + (p:Int)) = (M:Int):=by rw [IntWalk.i64_in _ (by omega)];omega
  have Hw2:=Lib.hid hw2;have Hw3:=Lib.hid hw3
  clear hpp hp hb z0 z1 hm hm2 hM hN ha hd hn hw2 hw3
  go_enter Tryz.func204,Tryz.ntmps204
  go_wp2_with fail
  refine (Hct.out _ ?_).mono ?_
  · (focus (repeat' (first | (with_reducible exact Below.refl _ _) | (with_reducible assumption) | (with_reducible refine Below.setCell ?_ ?_ _) | (with_reducible refine Below.alloc ?_ ?_ _) | (with_reducible refine below_drewN ?_ _) | (with_reducible refine Below.drew ?_) | (with_reducible exact Nat.le_refl _) | omega | (simp;done) | (simp;omega))))
  rintro e w' ⟨rfl,m,rfl⟩
  have hw2:=Hw2.out
  have hw3:=Hw3.out
  go_wp2_with fail
  go_region
  all_goals clear hw2 hw3
  all_goals go_wp2_with fail
  all_goals
    refine bodyPost_ret (v:=.agg #[.int .i64 N,.int .i64 M]) (by simp [results,Tryz.results204,go_sem]) rfl ⟨rfl,?_⟩
    (focus (repeat' (first | (with_reducible exact Below.refl _ _) | (with_reducible assumption) | (with_reducible refine Below.setCell ?_ ?_ _) | (with_reducible refine Below.alloc ?_ ?_ _) | (with_reducible refine below_drewN ?_ _) | (with_reducible refine Below.drew ?_) | (with_reducible exact Nat.le_refl _) | omega | (simp;done) | (simp;omega))))
set_option maxHeartbeats 400000 in
theorem rbiases_any (A:Option Addr) (sz:List Int) (k c:Nat) (w:World) (hA:Rd w A (nums .i64 sz)) (hR:RightSz sz) (hk:k + 1 < sz.length) (hc:sz.length ≤ c) :
    Calls Tryz.prog 223 #[.slice A sz.length c,.int .i64 k] w fun e w' => e = .returned (.agg #[.int .i64 (midN sz k:Int),.int .i64 (cntN sz (k + 1):Int)]) ∧ Below w.heap.size w w':=by
  have hl16:=hR.1.2
  have hwt:=fun w' (h:Below w.heap.size w w') => rweights_any A sz k c w' (hA.below h) hR hk hc
  have hct:=fun w' (h:Below w.heap.size w w') => rcount_any A sz (k + 2) c w' (hA.below h) hR (by omega) (by omega)
  simp only [show k + 2 - 1 = k + 1 by omega] at hct
  obtain ⟨b,o,rfl,p0⟩:=hA.num (show k < sz.length by omega)
  obtain ⟨n,hn⟩:∃ n,sz.length = n:=⟨_,rfl⟩
  obtain ⟨N,hN⟩:∃ N,cntN sz (k + 1) = N:=⟨_,rfl⟩
  obtain ⟨M,hM⟩:∃ M,midN sz k = M:=⟨_,rfl⟩
  rw [hN] at hct ⊢
  have hNN:cntN sz k = cntN sz k:=rfl
  clear hNN
  rw [hM] at hwt ⊢
  rw [hn] at hwt hk hc hl16 ⊢
  have Hwt:=Lib.hid hwt;have Hct:=Lib.hid hct
  clear hwt hct hA hR p0 hn hN hM
  have hi5:¬ ((n:Int) - 1 ≤ k):=by omega
  have hi7:(k:Int) + 2 ≤ c:=by omega
  have hi2:(0:Int) ≤ (k:Int) + 2:=by omega
  have hi3:((k:Int) + 2).toNat = k + 2:=by omega
  have hw0:IntKind.i64.wrap ((k:Int) + 2) = (k:Int) + 2:=IntWalk.i64_in _ (by omega)
  have hfd:=rrng_hi
  go_enter Tryz.func223,Tryz.ntmps223
  go_wp2_with fail
  have hSw:(fun _:World => True) (w.alloc (.cells #[.int .i64 0,.int .i64 0] 132)).drew:=trivial
  refine HA.g (fun _:World => True) ?_
  refine HA.t ?_ [0,1,4,5,6,7] hSw ?_
  refine HA.o 2 (fun K hK => ?_)
  go_simp
  refine (Hwt.out _ ?_).mono ?_
  · (focus (repeat' (first | (with_reducible exact Below.refl _ _) | (with_reducible assumption) | (with_reducible refine Below.setCell ?_ ?_ _) | (with_reducible refine Below.alloc ?_ ?_ _) | (with_reducible refine below_drewN ?_ _) | (with_reducible refine Below.drew ?_) | (with_reducible exact Nat.le_refl _) | omega | (simp;done) | (simp;omega))))
  rintro e w1 ⟨rfl,hb1⟩
  have hB1:Below w.heap.size w w1:=(((Below.refl _ w).alloc (Nat.le_refl _) _).drew).trans (hb1.mono (by simp))
  have hbx:=(hb1.block w.heap.size (by simp)).trans (heap_alloc_new w (.cells #[.int .i64 0,.int .i64 0] 132))
  obtain ⟨⟨k0,k1⟩,kf⟩:=bx2 hbx
  have l1:w.heap.size < w1.heap.size:=lt_of_block hbx
  have Hbx:=Lib.hid hbx
  clear hb1 hbx
  dsimp only
  refine hK.out _ _ trivial (fun hSw => ?_)
  clear hK K
  refine HA.t ?_ [3] hSw ?_
  refine HA.o 8 (fun K hK => ?_)
  go_simp
  refine (Hct.out _ hB1).mono ?_
  rintro e w2 ⟨rfl,m,rfl⟩
  dsimp only
  refine hK.out _ _ trivial (fun hSw => ?_)
  clear hK K
  refine HA.t ?_ [9] hSw ?_
  refine HA.o 10 (fun K hK => ?_)
  go_simp
  refine hK.out _ _ trivial (fun hSw => ?_)
  clear hK K
  refine HA.d ?_
  go_wp2_with fail
  have e1:=heap_setCell_same (w1.drewN m) w.heap.size 0 _ _ (.int .i64 M) Hbx.out
  have e2:=heap_setCell_same _ w.heap.size 1 _ _ (.int .i64 N) e1
  have hb9:Below w.heap.size w (((w1.drewN m).setCell ⟨w.heap.size,0,none⟩ (.int .i64 M)).setCell ⟨w.heap.size,1,none⟩ (.int .i64 N)):=by (focus (repeat' (first | (with_reducible exact Below.refl _ _) | (with_reducible assumption) | (with_reducible refine Below.setCell ?_ ?_ _) | (with_reducible refine Below.alloc ?_ ?_ _) | (with_reducible refine below_drewN ?_ _) | (with_reducible refine Below.drew ?_) | (with_reducible exact Nat.le_refl _) | omega | (simp;done) | (simp;omega))))
  obtain ⟨W9,hW9⟩:∃ W9,W9 = ((w1.drewN m).setCell ⟨w.heap.size,0,none⟩ (.int .i64 M)).setCell ⟨w.heap.size,1,none⟩ (.int .i64 N):=⟨_,rfl⟩
  rw [← hW9] at e2 hb9 ⊢
  have e3:W9.heap[w.heap.size]? = some (.cells #[.int .i64 M,.int .i64 N] 132 (0,0)):=e2
  obtain ⟨⟨x0,x1⟩,xf⟩:=bx2 e3
  exact bodyPost_ret (v:=.agg #[.int .i64 M,.int .i64 N]) (by simp [results,Tryz.results223,go_sem,x0,x1]) rfl ⟨rfl,hb9⟩
end Go.Proofs.YtaccfnffmbndhaaGreat
