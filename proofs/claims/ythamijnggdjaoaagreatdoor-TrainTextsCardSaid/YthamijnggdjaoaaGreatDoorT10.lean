/- Reports, plain; what they are in memory. What stays true while train.Run tells of the states. What shape.New and net.New answer, whatever they are given. The mark of a vector. The hash of a vector, and the reference's; the reference's mark. The names of the modes: train.ways, Name and Mode; the reference's Name. The reference's Few of an input. The reference's Few of a run. Whether an input is small enough to be scheduled (the reference's Few), with no machine in sight. train.Run with one worker. train.Run with one worker, of a right input. No condition. -/
import Derived.Test.YthamijnggdjaoaaGreatDoorT09
import Derived.Test.YthamijnggdjaoaaGreatDoorT05
import Derived.Test.YthamijnggdjaoaaGreatDoorT08
import Derived.Test.YthamijnggdjaoaaGreatDoorT01
import Derived.Test.YthamijnggdjaoaaGreatDoorT03
import Derived.Test.YthamijnggdjaoaaGreatDoorT04
import Derived.Test.YthamijnggdjaoaaGreatDoorProg
import Derived.KernelRfl
import Derived.Laws.ComplexArith
import Derived.Test.YthamijnggdjaoaaGreatDoorT07
import Derived.Test.YthamijnggdjaoaaGreatDoorT06
set_option linter.unusedSimpArgs false
set_option linter.unusedVariables false
namespace Go.Proofs.YthamijnggdjaoaaGreatDoor
open Go.RowKit
open Classical in
noncomputable def shR (i:Inp):Int:=if GoodIn i then i.cfg.shift else 0
noncomputable def lsL (i:Inp):List Int:=(resL i).map fun s => lossAcc i s.1 i.data
noncomputable def hsL (i:Inp):List Int:=(resL i).map fun s => hashF 1 s.1
noncomputable def mkL (i:Inp):List (Int × Int):=(resL i).map fun s => markL s.1
theorem lsL_len (i:Inp):(lsL i).length = (resL i).length:=by simp [lsL]
theorem hsL_len (i:Inp):(hsL i).length = (resL i).length:=by simp [hsL]
theorem mkL_len (i:Inp):(mkL i).length = (resL i).length:=by simp [mkL]
def rC:Reader (Int × Int):=fun _ cs z => ∃ v,cs = [v] ∧ IsC v z ∧ z.1.natAbs ≤ 2 ^ 50 ∧ z.2.natAbs ≤ 2 ^ 50
def rMk:Reader (Int × Int):=fun _ cs z => cs = [.int .i64 z.1,.int .i64 z.2] ∧ z.1.natAbs ≤ 2 ^ 50 ∧ z.2.natAbs ≤ 2 ^ 50
theorem stays_c:Stays rC:=fun _ h => h
theorem stays_mk:Stays rMk:=fun _ h => h
def RepAt (w:World) (i:Inp) (vs:Array Value):Prop:=∃ A c L d H e M f,vs = #[.int .i64 (shR i),.slice A (resL i).length c,.slice L (resL i).length d,.slice H (resL i).length e,.slice M (resL i).length f] ∧
  SlRd rEx 2 w A (resL i) ∧ Rd w L (nums .i64 (lsL i)) ∧ Rd w H (nums .u64 (hsL i)) ∧ SlRd rC 1 w M (mkL i)
def RRepAt (w:World) (i:Inp) (vs:Array Value):Prop:=∃ A c L d H e M f,vs = #[.int .i64 (shR i),.slice A (resL i).length c,.slice L (resL i).length d,.slice H (resL i).length e,.slice M (resL i).length f] ∧
  SlRd rEx 2 w A (resL i) ∧ Rd w L (nums .i64 (lsL i)) ∧ Rd w H (nums .u64 (hsL i)) ∧ SlRd rMk 2 w M (mkL i)
theorem RepAt.below {w w':World} {i:Inp} {vs:Array Value} (h:RepAt w i vs) (q:Below w.heap.size w w'):RepAt w' i vs:=by
  obtain ⟨A,c,L,d,H,e,M,f,rfl,h1,h2,h3,h4⟩:=h
  exact ⟨A,c,L,d,H,e,M,f,rfl,h1.below stays_ex q,h2.below q,h3.below q,h4.below stays_c q⟩
theorem RRepAt.below {w w':World} {i:Inp} {vs:Array Value} (h:RRepAt w i vs) (q:Below w.heap.size w w'):RRepAt w' i vs:=by
  obtain ⟨A,c,L,d,H,e,M,f,rfl,h1,h2,h3,h4⟩:=h
  exact ⟨A,c,L,d,H,e,M,f,rfl,h1.below stays_ex q,h2.below q,h3.below q,h4.below stays_mk q⟩
theorem bad_rep {i:Inp} (h:¬ GoodIn i):resL i = [] ∧ shR i = 0 ∧ lsL i = [] ∧ hsL i = [] ∧ mkL i = []:=by
  have e:resL i = []:=by unfold resL;rw [if_neg h]
  exact ⟨e,by unfold shR;rw [if_neg h],by unfold lsL;rw [e];rfl,by unfold hsL;rw [e];rfl,by unfold mkL;rw [e];rfl⟩
end Go.Proofs.YthamijnggdjaoaaGreatDoor
namespace Go.Proofs.YthamijnggdjaoaaGreatDoor
open Go.RowKit
theorem XA.va {P:Program} {ops:Array Oper} {Q:Exit → Act → World → Prop} {S:World → Prop} {n:Nat} {L:List Nat} {a:Act} {w:World} {o:Oper} (i:Nat) (w':World) (v:Value) (hS:S w') (k:XA P ops Q S n (i :: L) (a.put o.dst v) w') (ho:ops[i]? = some o:=by (simp only [List.getElem?_toArray,List.getElem?_cons_succ,List.getElem?_cons_zero];rfl))
    (hr:readyF ops L = [i]:=by decide +kernel) (hw:Region.wanted o (yielded ops a.tmps) = true:=by rfl) (he:(execOp a.eval o).run P w = .ok (.value v) w':=by go_simp):XA P ops Q S n L a w:=by
  refine XA.one i ho hr fun K' hK => ?_
  rw [if_pos hw]
  unfold Oper.wp
  rw [he]
  exact hK.out _ _ hS fun _ => k
theorem et_c128:ElemT Tryz.prog 33 78 (.complex .f64 0 0) 1 16:=⟨Tryz.underlying33,info_parts (by kernel_rfl),rfl,by decide⟩
theorem trajL_snoc (i:Inp) (n:Nat):trajL i (n + 1) = trajL i n ++ [traj i n]:=by
  unfold trajL
  rw [List.range_succ,List.map_append]
  rfl
theorem lossAcc_W (i:Inp) (P:List Int) (l:List Ex):-9223372036854775808 ≤ lossAcc i P l ∧ lossAcc i P l ≤ 9223372036854775807:=by
  unfold lossAcc
  have:∀ (l:List Ex) (a:Int),(-9223372036854775808 ≤ a ∧ a ≤ 9223372036854775807) → -9223372036854775808 ≤ l.foldl (fun a x => wrap64 (a + lossN i.cfg.sizes P i.cfg.shift x.1 x.2)) a ∧ l.foldl (fun a x => wrap64 (a + lossN i.cfg.sizes P i.cfg.shift x.1 x.2)) a ≤ 9223372036854775807:=by
    intro l
    induction l with
    | nil => intro a h;exact h
    | cons x l ih => intro a _;exact ih _ (by show _ ≤ wrap64 _ ∧ wrap64 _ ≤ _;unfold wrap64;omega)
  exact this l 0 (by decide)
theorem sum_two (a b:Int) (h:-9223372036854775808 ≤ a ∧ a ≤ 9223372036854775807):sumW [a,b] = wrap64 (a + b):=by
  show wrap64 (wrap64 (0 + a) + b) = _
  rw [show wrap64 (0 + a) = a by unfold wrap64;omega]
theorem lossAcc_take (i:Inp) (P:List Int) {j:Nat} {x:Ex} (h:i.data[j]? = some x):sumW [lossAcc i P (i.data.take j),lossN i.cfg.sizes P i.cfg.shift x.1 x.2] = lossAcc i P (i.data.take (j + 1)):=by
  rw [sum_two _ _ (lossAcc_W i P _),List.take_add_one,h]
  unfold lossAcc
  rw [List.foldl_append]
  rfl
def CR (vs:List Value) (mk:List (Int × Int)):Prop:=vs.length = mk.length ∧ ∀ (j:Nat) (z:Int × Int),mk[j]? = some z → ∃ v,vs[j]? = some v ∧ IsC v z ∧ z.1.natAbs ≤ 2 ^ 50 ∧ z.2.natAbs ≤ 2 ^ 50
theorem CR.nil:CR [] []:=⟨rfl,fun j z h => by simp at h⟩
theorem CR.snoc {vs:List Value} {mk:List (Int × Int)} (h:CR vs mk) {v:Value} {z:Int × Int} (hv:IsC v z) (b1:z.1.natAbs ≤ 2 ^ 50) (b2:z.2.natAbs ≤ 2 ^ 50):CR (vs ++ [v]) (mk ++ [z]):=by
  refine ⟨by simp [h.1],fun j y hy => ?_⟩
  rcases Nat.lt_or_ge j mk.length with hj | hj
  · rw [List.getElem?_append_left hj] at hy
    obtain ⟨u,hu,h2⟩:=h.2 j y hy
    exact ⟨u,by rw [List.getElem?_append_left (by rw [h.1];exact hj)];exact hu,h2⟩
  · rw [List.getElem?_append_right hj] at hy
    obtain ⟨e,rfl⟩:j - mk.length = 0 ∧ z = y:=by
      rcases hk:j - mk.length with _ | m
      · rw [hk] at hy;simpa using hy
      · rw [hk] at hy;simp at hy
    exact ⟨v,by rw [List.getElem?_append_right (by rw [h.1];exact hj),h.1,e];rfl,hv,b1,b2⟩
theorem CR.sl {w:World} {base n c:Nat} {A:Option Addr} {vs:List Value} {mk:List (Int × Int)} (h:CR vs mk) (o:w.ownsRow base 78 1 (.slice A n c) n vs):SlRd rC 1 w A mk:=by
  refine ⟨vs.map fun v => [v],?_,by rw [List.length_map];exact h.1,by simp,fun j z hz => ?_⟩
  · have hf:∀ l:List Value,List.flatten (l.map fun v => [v]) = l:=fun l => by
      induction l with
      | nil => rfl
      | cons a l ih => simp [ih]
    rw [hf]
    exact Rd.own o
  · obtain ⟨v,hv,h1,h2,h3⟩:=h.2 j z hz
    refine ⟨v,?_,h1,h2,h3⟩
    obtain ⟨hl,e⟩:=List.getElem?_eq_some_iff.1 hv
    simp [rowOf,hv]
theorem own_apt {w:World} {b1 b2 s1 s2 n1 n2:Nat} {e1 e2:TypeId} {v1 v2:Value} {xs ys:List Value} (h1:w.ownsRow b1 e1 s1 v1 n1 xs) (h2:w.ownsRow b2 e2 s2 v2 n2 ys) (hne:e1 ≠ e2) (j:Nat) (e:v1.ownBlock = some j) (f:v2.ownBlock = some j):False:=by
  rcases h1.2 with ⟨e',_⟩ | ⟨r',_,_,e',_,hg,_⟩
  · rw [e'] at e;cases e
  · rw [e'] at e
    have e3:r' = j:=by simpa [Value.ownBlock] using e
    subst e3
    exact block_notrow hg hne h2 f.symm
def TI (bO base:Nat) (sh:Int) (B:Option Addr) (n d k:Nat) (ls hs:List Int) (mk:List (Int × Int)) (w9 wr:World):Prop:=∃ L dl H dh M dm vs,
  wr.heap[bO]? = some (.cells #[.int .i64 sh,.slice B n d,.slice L k dl,.slice H k dh,.slice M k dm] 35 (0,0)) ∧
  wr.ownsRow base 2 1 (.slice L k dl) k (nums .i64 ls) ∧ wr.ownsRow base 76 1 (.slice H k dh) k (nums .u64 hs) ∧ wr.ownsRow base 78 1 (.slice M k dm) k vs ∧ CR vs mk ∧ Keep (fun j => j = bO ∨ base ≤ j) w9 wr
end Go.Proofs.YthamijnggdjaoaaGreatDoor
namespace Go.Proofs.YthamijnggdjaoaaGreatDoor
open Go.RowKit
def LnewIs (sz ps:List Int) (q:Int) (w:World) (e:Ending) (w':World):Prop:=Below w.heap.size w w' ∧ ((RightN sz ps q ∧ ∃ b,e = .returned (.tuple #[.pointer (some ⟨b,0,none⟩),.bool true]) ∧ NetAt 123 130 w' b sz ps q ∧ NetP w' w.heap.size b ps) ∨ (¬ RightN sz ps q ∧ e = .returned (.tuple #[.pointer none,.bool false])))
theorem nnew_any (S:Nat) (sz ps:List Int) (A:Option Addr) (c:Nat) (q:Int) (w:World) (hS:ShapeAt 123 w S sz) (hg:GoodSz sz) (hA:Rd w A (nums .i64 ps)) :
    Calls Tryz.prog 20 #[.pointer (some ⟨S,0,none⟩),.slice A ps.length c,.int .i64 q] w (LnewIs sz ps q w):=by
  by_cases hq:0 ≤ q ∧ q ≤ 62
  · by_cases hl:ps.length = cntN sz (sz.length - 1)
    · refine (net_new S sz ps A c q w hS hg hq hl hA).mono fun e w' ⟨b,he,hn,hz,hb⟩ => ⟨hb,.inl ⟨⟨hg,hq.1,hq.2,hl⟩,b,he,hn,hz⟩⟩
    · refine (net_no_len S sz ps A c q w hS hl).mono fun e w' ⟨he,hw⟩ => ?_
      subst hw
      exact ⟨Below.refl _ _,.inr ⟨fun h => hl h.2.2.2,he⟩⟩
  · refine (net_no_shift S _ q w hq).mono fun e w' ⟨he,hw⟩ => ?_
    subst hw
    exact ⟨Below.refl _ _,.inr ⟨fun h => hq ⟨h.2.1,h.2.2.1⟩,he⟩⟩
end Go.Proofs.YthamijnggdjaoaaGreatDoor
namespace Go.Proofs.YthamijnggdjaoaaGreatDoor
open Go.RowKit
theorem low_any (x:Int) (w:World):Calls Tryz.prog 73 #[.int .i64 x] w fun e w' => e = .returned (.int .i64 (low16 x)) ∧ w' = w:=by
  go_enter Tryz.func73,Tryz.ntmps73
  go_wp2
  go_ret
  exact ⟨ret_int (by have:=low16_bd x;unfold low16 at this ⊢;unfold wrap64;omega),rfl⟩
theorem i64_and3 (n:Int):bits .and .i64 n 3 = n % 4:=by
  have h3:(BitVec.ofInt 64 3).toNat = 2 ^ 2 - 1:=by decide
  have key:(BitVec.ofInt 64 n &&& BitVec.ofInt 64 3).toNat = (n % ((2 ^ 64:Nat):Int)).toNat % 2 ^ 2:=by
    rw [BitVec.toNat_and,BitVec.toNat_ofInt,h3,Nat.and_two_pow_sub_one_eq_mod]
  show IntKind.i64.wrap ((BitVec.ofInt 64 n &&& BitVec.ofInt 64 3).toNat:Nat) = n % 4
  rw [key,IntKind.wrap_i64]
  omega
set_option maxRecDepth 100000 in
theorem unit_any (k:Nat) (w:World):Calls Tryz.prog 117 #[.int .i64 k] w fun e w' => e = .returned (.complex .f64 (unitW (k % 4)).1 (unitW (k % 4)).2) ∧ w' = w:=by
  have hj:k % 4 = 0 ∨ k % 4 = 1 ∨ k % 4 = 2 ∨ k % 4 = 3:=by omega
  have hb:bits .and .i64 (k:Int) 3 = ((k % 4:Nat):Int):=by rw [i64_and3];omega
  have h0:∀ w:World,(Instr.index 266 (.agg #[.complex .f64 4607182418800017408 0,.complex .f64 0 4607182418800017408,.complex .f64 13830554455654793216 0,.complex .f64 0 13830554455654793216]) (.int .i64 0)).run Tryz.prog w = .ok (.complex .f64 (unitW 0).1 (unitW 0).2) w:=fun w => by
    simp [Instr.index,run_underlying Tryz.underlying266,asIntOf,go_sem,unitW]
  have h1:∀ w:World,(Instr.index 266 (.agg #[.complex .f64 4607182418800017408 0,.complex .f64 0 4607182418800017408,.complex .f64 13830554455654793216 0,.complex .f64 0 13830554455654793216]) (.int .i64 1)).run Tryz.prog w = .ok (.complex .f64 (unitW 1).1 (unitW 1).2) w:=fun w => by
    simp [Instr.index,run_underlying Tryz.underlying266,asIntOf,go_sem,unitW]
  have h2:∀ w:World,(Instr.index 266 (.agg #[.complex .f64 4607182418800017408 0,.complex .f64 0 4607182418800017408,.complex .f64 13830554455654793216 0,.complex .f64 0 13830554455654793216]) (.int .i64 2)).run Tryz.prog w = .ok (.complex .f64 (unitW 2).1 (unitW 2).2) w:=fun w => by
    simp [Instr.index,run_underlying Tryz.underlying266,asIntOf,go_sem,unitW]
  have h3:∀ w:World,(Instr.index 266 (.agg #[.complex .f64 4607182418800017408 0,.complex .f64 0 4607182418800017408,.complex .f64 13830554455654793216 0,.complex .f64 0 13830554455654793216]) (.int .i64 3)).run Tryz.prog w = .ok (.complex .f64 (unitW 3).1 (unitW 3).2) w:=fun w => by
    simp [Instr.index,run_underlying Tryz.underlying266,asIntOf,go_sem,unitW]
  rcases hj with h | h | h | h <;> (
    rw [h] at hb ⊢
    go_enter Tryz.func117,Tryz.ntmps117
    go_wp2
    go_ret
    exact ⟨rfl,rfl⟩)
theorem turn_any (a b:Nat) (x y:Int) (k:Nat) (w:World) (ha:IsW a x) (hb:IsW b y) (bx:x.natAbs ≤ 2 ^ 50) (by':y.natAbs ≤ 2 ^ 50) :
    Calls Tryz.prog 72 #[.complex .f64 a b,.int .i64 k] w fun e w' => (∃ re im,e = .returned (.complex .f64 re im) ∧ IsW re (x * (unitC (k % 4)).1 - y * (unitC (k % 4)).2) ∧ IsW im (x * (unitC (k % 4)).2 + y * (unitC (k % 4)).1)) ∧ w' = w:=by
  obtain ⟨re,im,hm,h1,h2⟩:=cmul_z ha hb (unitW_is (k % 4)).1 (unitW_is (k % 4)).2 bx by' (unitC_bd (k % 4)).1 (unitC_bd (k % 4)).2
  have hu:=unit_any k
  obtain ⟨u,hu1⟩:∃ u,(unitW (k % 4)).1 = u:=⟨_,rfl⟩
  obtain ⟨v,hv1⟩:∃ v,(unitW (k % 4)).2 = v:=⟨_,rfl⟩
  rw [hu1,hv1] at hm
  rw [hu1,hv1] at hu
  have Hu:=Lib.hid hu
  have H1:=Lib.hid h1
  have H2:=Lib.hid h2
  have hrun:=fun (P:Program) (w:World) (t:TypeId) => run_complex_mul (P:=P) w t a b u v re im hm
  clear hu h1 h2 hu1 hv1 ha hb bx by' hm
  go_enter Tryz.func72,Tryz.ntmps72
  go_wp2_with fail
  refine (Hu.out w).mono ?_
  rintro e w1 ⟨rfl,rfl⟩
  go_wp2_with fail
  go_ret
  exact ⟨⟨_,_,rfl,H1.out,H2.out⟩,rfl⟩
theorem run_store_complex {P:Program} (w:World) (a:Addr) (k:FloatKind) (x y:Nat) {m:Mode}:(store a (.complex k x y) m).run P w = stored P w a (.complex k x y) m:=run_store P w a _ m rfl
set_option maxRecDepth 100000 in
theorem of1_any (B k:Nat) (x:Int) (a b:Nat) (z:Int × Int) (w:World) (hB:w.heap[B]? = some (.cells #[.complex .f64 a b] 78 (0,0))) (ha:IsW a z.1) (hb:IsW b z.2) (b1:z.1.natAbs ≤ 2 ^ 50) (b2:z.2.natAbs ≤ 2 ^ 50) :
    Calls Tryz.prog 71 #[.int .i64 x,.int .i64 k,.pointer (some ⟨B,0,none⟩)] w fun e w' => e = .returned (.tuple #[]) ∧ (∃ re im,w'.heap[B]? = some (.cells #[.complex .f64 re im] 78 (0,0)) ∧ IsW re (z.1 + (turnC (k % 4) (low16 x,0)).1) ∧ IsW im (z.2 + (turnC (k % 4) (low16 x,0)).2)) ∧ Keep (fun j => j = B) w w':=by
  have hl:=lt_of_block hB
  have t0:∀ w',Below w.heap.size w w' → w'.cell? ⟨B,0,none⟩ = some (.complex .f64 a b):=fun w' q => (bx1 (sb hB w' q)).1
  have hlo:=low_any x
  have htu:=fun w' => turn_any (floatOfInt .f64 (low16 x)) 0 (low16 x) 0 k w' (.inl rfl) (.inl (by decide)) (by have:=low16_bd x;omega) (by decide)
  have ht:=turn_unit (Nat.mod_lt k (by decide)) (low16 x)
  have e1:low16 x * (unitC (k % 4)).1 - 0 * (unitC (k % 4)).2 = (turnC (k % 4) (low16 x,0)).1:=by rw [ht]
  have e2:low16 x * (unitC (k % 4)).2 + 0 * (unitC (k % 4)).1 = (turnC (k % 4) (low16 x,0)).2:=by rw [ht]
  simp only [e1,e2] at htu
  clear ht e1 e2
  have hbd:=turnC_bd (k % 4) (low16 x,0) 32768 (low16_bd x) (by show (0:Int).natAbs ≤ 32768;decide)
  obtain ⟨u,hu⟩:∃ u,turnC (k % 4) (low16 x,0) = u:=⟨_,rfl⟩
  rw [hu] at htu hbd ⊢
  have hsum:=fun (c d:Nat) (hc:IsW c u.1) (hd:IsW d u.2) => csum_z ha hb hc hd b1 b2 (Nat.le_trans hbd.1 (by decide)) (Nat.le_trans hbd.2 (by decide))
  have HB:=Lib.hid hB;have Hlo:=Lib.hid hlo;have Htu:=Lib.hid htu;have Hsum:=Lib.hid hsum
  clear hB ha hb b1 b2 hlo htu hbd hu hsum
  have q0:=(br w).drew
  go_enter Tryz.func71,Tryz.ntmps71
  refine XA.g 8 (fun w':World => Below w.heap.size w w') ?_
  refine XA.t ?_ [0,1,5] q0 ?_
  refine XA.c 2 (Hlo.out _) ?_
  rintro e w1 ⟨rfl,rfl⟩
  refine ⟨_,rfl,q0,fun _ => ?_⟩
  refine XA.t ?_ [3,4] q0 ?_
  refine XA.c 6 (Htu.out _) ?_
  rintro e w1 ⟨⟨c,d,rfl,hc,hd⟩,rfl⟩
  refine ⟨_,rfl,q0,fun _ => ?_⟩
  obtain ⟨re,im,hs,h1,h2⟩:=Hsum.out c d hc hd
  have hrun:=fun (w:World) (t:TypeId) => run_complex_sum (P:=Tryz.prog) w .add (.inl rfl) t .f64 a b c d re im hs
  have H1:=Lib.hid h1;have H2:=Lib.hid h2
  clear hc hd hs h1 h2
  refine XA.t ?_ [7] q0 ?_
  clear hrun
  refine XA.e ?_
  simp only [List.drop_succ_cons,List.drop_zero]
  obtain ⟨z0,zf⟩:=bx1 (sb HB.out _ q0)
  have hl1:=lt_of_block (sb HB.out _ q0)
  have QS:=Lib.hid (sb HB.out _ q0)
  have Q0:=Lib.hid q0
  clear t0 q0
  have hst:=fun m => run_store_complex (P:=Tryz.prog) w.drew ⟨B,0,none⟩ .f64 re im (m:=m)
  go_wp2_with fail
  go_end0
  exact ⟨rfl,⟨re,im,heap_setCell_same _ B 0 _ _ _ QS.out,H1.out,H2.out⟩,(Keep.below Q0.out).trans (Keep.setCell (S:=fun j => j = B) (Keep.refl _ _) ⟨B,0,none⟩ (.inr rfl) _)⟩
set_option maxRecDepth 100000 in
theorem mark_any (A:Option Addr) (l:List Int) (c:Nat) (w:World) (h:Rd w A (nums .i64 l)) (hl:l.length ≤ 1048576) :
    Calls Tryz.prog 24 #[.slice A l.length c] w fun e w' => (∃ v,e = .returned v ∧ IsC v (markL l)) ∧ Below w.heap.size w w':=by
  obtain ⟨m,hm⟩:∃ m,l.length = m:=⟨_,rfl⟩
  rw [hm] at hl ⊢
  have H:=Lib.hid h;have HM:=Lib.hid hm
  clear h hm
  go_enter Tryz.func24,Tryz.ntmps24
  go_wp2_with fail
  have g0:(w.alloc (.cells #[.complex .f64 0 0] 78)).heap[w.heap.size]? = some (.cells #[.complex .f64 0 0] 78 (0,0)):=heap_alloc_new w _
  have k0:Below w.heap.size w (w.alloc (.cells #[.complex .f64 0 0] 78)):=(br w).alloc (Nat.le_refl _) _
  go_loopw [10] (fun y wr => ∃ k:Nat,k ≤ m ∧ y = .int .i64 k ∧ (∃ re im,wr.heap[w.heap.size]? = some (.cells #[.complex .f64 re im] 78 (0,0)) ∧ IsW re (markL (l.take k)).1 ∧ IsW im (markL (l.take k)).2) ∧ Below w.heap.size w wr) (fun y _ => m - (intOf y).toNat)
  case atStart => exact ⟨0,Nat.zero_le _,rfl,⟨0,0,g0,.inl (by show 0 = wd 0;decide),.inl (by show 0 = wd 0;decide)⟩,k0⟩
  case round =>
    obtain ⟨k,hk,rfl,⟨re,im,g,h1,h2⟩,q⟩:=hrel
    clear g0 k0
    obtain ⟨z0,zf⟩:=bx1 g
    have hl0:=lt_of_block g
    by_cases hlt:k < m
    · have hlti:(k:Int) < m:=by omega
      have hll:k < l.length:=by rw [HM.out];exact hlt
      obtain ⟨b,o,rfl,hc⟩:=H.out.num hll
      have hc':=(q.cell (p:=⟨b,o + k,none⟩) (lt_of_cell hc)).trans hc
      have hbd:=markL_bd (l:=l.take k) (by rw [List.length_take];omega)
      have hof:=of1_any w.heap.size k (nth l k) re im (markL (l.take k)) wr g h1 h2 hbd.1 hbd.2
      have ht:=markL_take hll
      have Ht:=Lib.hid ht;have Hof:=Lib.hid hof;have Q:=Lib.hid q
      clear hc h1 h2 hbd hof ht q g
      go_wp2_with fail
      refine Hof.out.mono ?_
      rintro e w1 ⟨rfl,⟨re',im',g1,i1,i2⟩,k1⟩
      have I1:=Lib.hid i1;have I2:=Lib.hid i2;have G1:=Lib.hid g1
      have Q1:=Lib.hid (Q.out.trans (k1.toBelow Q.out.size (fun j hj => by omega)))
      clear i1 i2 g1 k1 z0 zf
      go_wp2_with fail
      go_roundw
      case rel => exact ⟨k + 1,by omega,by go_num,⟨re',im',G1.out,by rw [Ht.out];exact I1.out,by rw [Ht.out];exact I2.out⟩,Q1.out⟩
      case measure => simp [intOf];omega
    · obtain rfl:k = m:=by omega
      have e:l.take k = l:=by rw [← HM.out,List.take_length]
      rw [e] at h1 h2
      have H1:=Lib.hid h1;have H2:=Lib.hid h2;have Q:=Lib.hid q
      clear h1 h2 q e
      go_wp2_with fail
      go_ret
      exact ⟨⟨_,rfl,re,im,rfl,H1.out,H2.out⟩,Q.out⟩
end Go.Proofs.YthamijnggdjaoaaGreatDoor
namespace Go.Proofs.YthamijnggdjaoaaGreatDoor
open Go.RowKit
set_option maxRecDepth 100000 in
theorem hash_any (A:Option Addr) (l:List Int) (c:Nat) (w:World) (h:Rd w A (nums .i64 l)) (hl:l.length ≤ 1048576) :
    Calls Tryz.prog 23 #[.slice A l.length c] w fun e w' => e = .returned (.int .u64 (hashF 1 l)) ∧ w' = w:=by
  obtain ⟨m,hm⟩:∃ m,l.length = m:=⟨_,rfl⟩
  rw [hm] at hl ⊢
  have H:=Lib.hid h;have HM:=Lib.hid hm
  clear h hm
  go_enter Tryz.func23,Tryz.ntmps23
  go_wp2_with fail
  go_loopw [3,8] (fun v y wr => ∃ k:Nat,k ≤ m ∧ y = .int .i64 k ∧ v = .int .u64 (hashF 1 (l.take k)) ∧ wr = w) (fun _ y _ => m - (intOf y).toNat)
  case atStart => exact ⟨0,Nat.zero_le _,rfl,rfl,rfl⟩
  case round =>
    obtain ⟨k,hk,rfl,rfl,rfl⟩:=hrel
    by_cases hlt:k < m
    · have hlti:(k:Int) < m:=by omega
      have hll:k < l.length:=by rw [HM.out];exact hlt
      obtain ⟨b,o,rfl,hc⟩:=H.out.num hll
      have Ht:=Lib.hid (hashF_take hll)
      generalize hashF 1 (l.take k) = v at Ht ⊢
      go_wp2_with fail
      go_roundw
      case rel => exact ⟨k + 1,by omega,by go_num,by rw [Ht.out],trivial⟩
      case measure => simp [intOf];omega
    · obtain rfl:k = m:=by omega
      have e:l.take k = l:=by rw [← HM.out,List.take_length]
      rw [e]
      go_wp2_with fail
      go_ret
      exact ⟨rfl,rfl⟩
set_option maxRecDepth 100000 in
theorem rhash_any (A:Option Addr) (l:List Int) (c:Nat) (w:World) (h:Rd w A (nums .i64 l)) (hl:l.length ≤ 1048576) :
    Calls Tryz.prog 27 #[.slice A l.length c] w fun e w' => e = .returned (.int .u64 (hashF 1 l)) ∧ w' = w:=by
  obtain ⟨m,hm⟩:∃ m,l.length = m:=⟨_,rfl⟩
  have he:=hash_eq l
  obtain ⟨hv,hhv⟩:∃ hv,hashF 1 l = hv:=⟨_,rfl⟩
  rw [hhv] at he ⊢
  rw [hm] at hl ⊢
  have H:=Lib.hid h;have HM:=Lib.hid hm;have HE:=Lib.hid he
  clear h hm he hhv
  go_enter Tryz.func27,Tryz.ntmps27
  go_wp2_with fail
  go_loopw [3,4,5] (fun p v y wr => ∃ k:Nat,k ≤ m ∧ y = .int .i64 ((m:Int) - k - 1) ∧ p = .int .u64 (hashPw (l.drop (m - k))) ∧ v = .int .u64 (hashSm (l.drop (m - k))) ∧ wr = w) (fun _ _ y _ => (intOf y + 1).toNat)
  case atStart =>
    have e:l.drop (m - 0) = []:=by rw [Nat.sub_zero,← HM.out,List.drop_length]
    exact ⟨0,Nat.zero_le _,by simp,by rw [e];rfl,by rw [e];rfl,rfl⟩
  case round =>
    obtain ⟨k,hk,rfl,rfl,rfl,rfl⟩:=hrel
    by_cases hlt:k < m
    · obtain ⟨j,hj⟩:∃ j:Nat,(m:Int) - k - 1 = j:=⟨m - k - 1,by omega⟩
      rw [hj]
      have hll:j < l.length:=by rw [HM.out];omega
      obtain ⟨b,o,rfl,hc⟩:=H.out.num hll
      have hjm:(j:Int) < m:=by omega
      have Hd:=Lib.hid (drop_nth hll)
      have e1:m - k = j + 1:=by omega
      have e2:m - (k + 1) = j:=by omega
      have E2:=Lib.hid e2;have HJ:=Lib.hid hj
      rw [e1]
      obtain ⟨l1,hl1⟩:∃ l1,l.drop (j + 1) = l1:=⟨_,rfl⟩
      rw [hl1] at Hd ⊢
      obtain ⟨p,hp⟩:∃ p,hashPw l1 = p:=⟨_,rfl⟩
      obtain ⟨v,hv'⟩:∃ v,hashSm l1 = v:=⟨_,rfl⟩
      rw [hp,hv']
      have HPw:=Lib.hid hp;have HV:=Lib.hid hv'
      clear e1 e2 hl1 hp hv' hj
      go_wp2_with fail
      go_roundw
      case rel => exact ⟨k + 1,by omega,congrArg (Value.int .i64) (by have:=HJ.out;omega),by rw [E2.out,Hd.out];show _ = Value.int .u64 (IntKind.u64.wrap (hashPw l1 * HP));rw [HPw.out],by rw [E2.out,Hd.out];show _ = Value.int .u64 (IntKind.u64.wrap (hashSm l1 + IntKind.u64.wrap (IntKind.u64.wrap (nth l j) * IntKind.u64.wrap (hashPw l1 * HP))));rw [HPw.out,HV.out],trivial⟩
      case measure => simp only [intOf];omega
    · obtain rfl:k = m:=by omega
      have e:l.drop (k - k) = l:=by rw [Nat.sub_self,List.drop_zero]
      rw [e]
      rw [show (k:Int) - k - 1 = -1 by omega]
      obtain ⟨p,hp⟩:∃ p,hashPw l = p:=⟨_,rfl⟩
      obtain ⟨v,hv'⟩:∃ v,hashSm l = v:=⟨_,rfl⟩
      rw [hp,hv'] at HE
      rw [hp,hv']
      clear hp hv'
      go_wp2_with fail
      go_ret
      exact ⟨by rw [← HE.out];rfl,rfl⟩
theorem rt_mk:RowTy Tryz.prog 87 2:=⟨⟨_,Tryz.underlying87,rfl⟩,by kernel_rfl⟩
theorem turnC_succ:∀ (k:Nat) (z:Int × Int),turnC (k + 1) z = (-(turnC k z).2,(turnC k z).1)
  | 0,_ => rfl
  | k + 1,z => turnC_succ k (-z.2,z.1)
set_option maxRecDepth 100000 in
theorem rturn_any (k:Nat) (z:Int × Int) (w:World) (b1:z.1.natAbs ≤ 32768) (b2:z.2.natAbs ≤ 32768) (hk:k ≤ 1048576) :
    Calls Tryz.prog 82 #[.agg #[.int .i64 z.1,.int .i64 z.2],.int .i64 k] w fun e w' => e = .returned (.agg #[.int .i64 (turnC (k % 4) z).1,.int .i64 (turnC (k % 4) z).2]) ∧ Below w.heap.size w w':=by
  obtain ⟨m,hm⟩:∃ m,k % 4 = m:=⟨_,rfl⟩
  have hmi:(k:Int) % 4 = m:=by omega
  have hm4:m < 4:=by omega
  have hn:¬ ((m:Int) < 0):=by omega
  rw [hm]
  go_enter Tryz.func82,Tryz.ntmps82
  go_wp2_with fail
  have g0:=(Below.heap_alloc (w.alloc (.cells #[.int .i64 z.1,.int .i64 z.2] 87)) (.cells #[.int .i64 0,.int .i64 0] 87) w.heap.size (by simp)).trans (heap_alloc_new w _)
  have g1:=heap_alloc_new (w.alloc (.cells #[.int .i64 z.1,.int .i64 z.2] 87)) (.cells #[.int .i64 0,.int .i64 0] 87)
  rw [show (w.alloc (.cells #[.int .i64 z.1,.int .i64 z.2] 87)).heap.size = w.heap.size + 1 by simp] at g1
  have k0:Below w.heap.size w ((w.alloc (.cells #[.int .i64 z.1,.int .i64 z.2] 87)).alloc (.cells #[.int .i64 0,.int .i64 0] 87)):=((br w).alloc (Nat.le_refl _) _).alloc (by simp) _
  have bd:=fun j => turnC_bd j z 32768 b1 b2
  have G0:=Lib.hid g0;have G1:=Lib.hid g1;have K0:=Lib.hid k0;have BD:=Lib.hid bd
  clear g0 g1 k0 bd b1 b2
  go_loopw [6] (fun y wr => ∃ j:Nat,j ≤ m ∧ y = .int .i64 j ∧ wr.heap[w.heap.size]? = some (.cells #[.int .i64 (turnC j z).1,.int .i64 (turnC j z).2] 87 (0,0)) ∧ wr.heap[w.heap.size + 1]? = some (.cells #[.int .i64 0,.int .i64 0] 87 (0,0)) ∧ Below w.heap.size w wr) (fun y _ => m - (intOf y).toNat)
  case atStart => exact ⟨0,Nat.zero_le _,rfl,G0.out,G1.out,K0.out⟩
  case round =>
    obtain ⟨j,hj,rfl,g,g',q⟩:=hrel
    clear G0 G1 K0
    have bd:=BD.out j
    have Ht:=Lib.hid (turnC_succ j z)
    have HJ:Hid (j = m → turnC m z = turnC j z):=Lib.hid fun e => by rw [e]
    generalize turnC j z = y at g bd Ht HJ
    obtain ⟨⟨y0,y1⟩,yf⟩:=bx2 g
    have hl0:=lt_of_block g
    obtain ⟨⟨x0,x1⟩,xf⟩:=bx2 g'
    have hl1:=lt_of_block g'
    have GG:=Lib.hid g;have GG':=Lib.hid g';have Q:=Lib.hid q
    have hneg:IntKind.i64.wrap (-y.2) = -y.2:=IntWalk.i64_in _ (by omega)
    clear g g' q
    by_cases hlt:j < m
    · have hlti:(j:Int) < m:=by omega
      go_wp2_with fail
      have e1:=heap_setCell_same wr w.heap.size 0 _ _ (.int .i64 (-y.2)) GG.out
      have e2:=heap_setCell_same _ w.heap.size 1 _ _ (.int .i64 y.1) e1
      have hk:Keep (fun j => j = w.heap.size) wr ((wr.setCell ⟨w.heap.size,0,none⟩ (.int .i64 (-y.2))).setCell ⟨w.heap.size,1,none⟩ (.int .i64 y.1)):=Keep.setCell (S:=fun j => j = w.heap.size) (Keep.setCell (S:=fun j => j = w.heap.size) (Keep.refl _ _) ⟨w.heap.size,0,none⟩ (.inr rfl) _) ⟨w.heap.size,1,none⟩ (.inr rfl) _
      go_roundw
      case rel => exact ⟨j + 1,by omega,by go_num,by rw [Ht.out];exact e2,(hk.block _ hl1 (by omega)).trans GG'.out,Q.out.trans (hk.toBelow Q.out.size (fun j hj => by omega))⟩
      case measure => simp [intOf];omega
    · have e:j = m:=by omega
      have hlti:¬ ((j:Int) < m):=by omega
      go_wp2_with fail
      have e1:=heap_setCell_same wr (w.heap.size + 1) 0 _ _ (.int .i64 y.1) GG'.out
      have e2:=heap_setCell_same _ (w.heap.size + 1) 1 _ _ (.int .i64 y.2) e1
      have hk:Keep (fun j => j = w.heap.size + 1) wr ((wr.setCell ⟨w.heap.size + 1,0,none⟩ (.int .i64 y.1)).setCell ⟨w.heap.size + 1,1,none⟩ (.int .i64 y.2)):=Keep.setCell (S:=fun j => j = w.heap.size + 1) (Keep.setCell (S:=fun j => j = w.heap.size + 1) (Keep.refl _ _) ⟨w.heap.size + 1,0,none⟩ (.inr rfl) _) ⟨w.heap.size + 1,1,none⟩ (.inr rfl) _
      exact bodyPost_ret (res_cell rfl rfl e2 rt_mk) rfl ⟨by rw [HJ.out e];rfl,Q.out.trans (hk.toBelow Q.out.size (fun j hj => by omega))⟩
theorem low16_eq (x:Int):low16 x = (x + 32768) % 65536 - 32768:=by
  unfold low16
  simp [IntKind.wrap,IntKind.bits,IntKind.signed]
  split <;> omega
theorem tmod_eq (x:Int):(0 ≤ x ∧ x.tmod 65536 = x % 65536) ∨ (x < 0 ∧ x.tmod 65536 = -((-x) % 65536)):=by
  by_cases h:0 ≤ x
  · exact .inl ⟨h,Int.tmod_eq_emod_of_nonneg h⟩
  · refine .inr ⟨by omega,?_⟩
    rw [← Int.tmod_eq_emod_of_nonneg (show 0 ≤ -x by omega),Int.neg_tmod,Int.neg_neg]
theorem rlow_any (x:Int) (w:World):Calls Tryz.prog 83 #[.int .i64 x] w fun e w' => e = .returned (.int .i64 (low16 x)) ∧ w' = w:=by
  have h1:=low16_eq x
  have h2:=tmod_eq x
  obtain ⟨r,hr⟩:∃ r,low16 x = r:=⟨_,rfl⟩
  obtain ⟨t,ht⟩:∃ t,x.tmod 65536 = t:=⟨_,rfl⟩
  rw [hr] at h1 ⊢
  rw [ht] at h2
  have H1:=Lib.hid h1;have H2:=Lib.hid h2
  clear h1 h2 hr
  go_enter Tryz.func83,Tryz.ntmps83
  go_wp2
  all_goals (
    go_ret
    refine ⟨ret_int ?_,rfl⟩
    have h1:=H1.out
    have h2:=H2.out
    unfold wrap64 at *
    omega)
set_option maxRecDepth 100000 in
set_option maxHeartbeats 1000000 in
theorem rof_any (A:Option Addr) (l:List Int) (c:Nat) (w:World) (h:Rd w A (nums .i64 l)) (hl:l.length ≤ 1048576) :
    Calls Tryz.prog 28 #[.slice A l.length c] w fun e w' => e = .returned (.agg #[.int .i64 (markL l).1,.int .i64 (markL l).2]) ∧ Below w.heap.size w w':=by
  obtain ⟨m,hm⟩:∃ m,l.length = m:=⟨_,rfl⟩
  rw [hm] at hl ⊢
  have H:=Lib.hid h;have HM:=Lib.hid hm
  clear h hm
  obtain ⟨W0,hW0⟩:∃ W0,(w.alloc (.cells #[.int .i64 0,.int .i64 0] 87)).alloc (.cells #[.int .i64 0,.int .i64 0] 87) = W0:=⟨_,rfl⟩
  have g0:W0.heap[w.heap.size]? = some (.cells #[.int .i64 0,.int .i64 0] 87 (0,0)):=by rw [← hW0];exact (Below.heap_alloc (w.alloc (.cells #[.int .i64 0,.int .i64 0] 87)) (.cells #[.int .i64 0,.int .i64 0] 87) w.heap.size (by simp)).trans (heap_alloc_new w _)
  have g1:W0.heap[w.heap.size + 1]? = some (.cells #[.int .i64 0,.int .i64 0] 87 (0,0)):=by
    have:=heap_alloc_new (w.alloc (.cells #[.int .i64 0,.int .i64 0] 87)) (.cells #[.int .i64 0,.int .i64 0] 87)
    rw [show (w.alloc (.cells #[.int .i64 0,.int .i64 0] 87)).heap.size = w.heap.size + 1 by simp] at this
    rw [← hW0];exact this
  have k0:Below w.heap.size w W0:=by rw [← hW0];exact ((br w).alloc (Nat.le_refl _) _).alloc (by simp) _
  have G0:=Lib.hid g0;have G1:=Lib.hid g1;have K0:=Lib.hid k0;have HW:=Lib.hid hW0
  clear g0 g1 k0 hW0
  go_enter Tryz.func28,Tryz.ntmps28
  go_wp2_with fail
  rw [HW.out]
  clear HW
  go_loopw [4] (fun y wr => ∃ k:Nat,k ≤ m ∧ y = .int .i64 k ∧ wr.heap[w.heap.size]? = some (.cells #[.int .i64 0,.int .i64 0] 87 (0,0)) ∧ wr.heap[w.heap.size + 1]? = some (.cells #[.int .i64 (markL (l.take k)).1,.int .i64 (markL (l.take k)).2] 87 (0,0)) ∧ Below w.heap.size w wr) (fun y _ => m - (intOf y).toNat)
  case atStart => exact ⟨0,Nat.zero_le _,rfl,G0.out,G1.out,K0.out⟩
  case round =>
    obtain ⟨k,hk,rfl,g,g',q⟩:=hrel
    clear G0 G1 K0
    have hl0:=lt_of_block g
    have hl1:=lt_of_block g'
    by_cases hlt:k < m
    · have hlti:(k:Int) < m:=by omega
      have hll:k < l.length:=by rw [HM.out];exact hlt
      obtain ⟨b,o,rfl,hc⟩:=H.out.num hll
      have hc':=(q.cell (p:=⟨b,o + k,none⟩) (lt_of_cell hc)).trans hc
      have hbd:=markL_bd (l:=l.take k) (by rw [List.length_take];omega)
      have Ht:=Lib.hid (markL_take hll)
      have htu:=fun w => rturn_any k (low16 (nth l k),0) w (low16_bd _) (by show (0:Int).natAbs ≤ 32768;decide) (by omega)
      have hlo:=rlow_any (nth l k)
      have hb2:=turnC_bd (k % 4) (low16 (nth l k),0) 32768 (low16_bd _) (by show (0:Int).natAbs ≤ 32768;decide)
      generalize markL (l.take k) = y at *
      generalize turnC (k % 4) (low16 (nth l k),0) = u at *
      dsimp only at htu
      have Htu:=Lib.hid htu;have Hlo:=Lib.hid hlo
      have w1:IntKind.i64.wrap (y.1 + u.1) = y.1 + u.1:=IntWalk.i64_in _ (by omega)
      have w2:IntKind.i64.wrap (y.2 + u.2) = y.2 + u.2:=IntWalk.i64_in _ (by omega)
      have GG:=Lib.hid g;have GG':=Lib.hid g';have Q:=Lib.hid q
      clear hc htu hlo g g' q hbd hb2
      go_wp2_with fail
      refine (Hlo.out wr).mono ?_
      rintro e w3 ⟨rfl,rfl⟩
      clear hc'
      go_wp2_with fail
      refine (Htu.out w3).mono ?_
      rintro e w4 ⟨rfl,k4⟩
      have q4:=Q.out.trans (k4.mono Q.out.size)
      have g4:=(k4.block _ hl0).trans GG.out
      have g4':=(k4.block _ hl1).trans GG'.out
      have hl4:w.heap.size + 1 < w4.heap.size:=lt_of_block g4'
      obtain ⟨⟨y0,y1⟩,yf⟩:=bx2 g4'
      have G4:=Lib.hid g4;have G4':=Lib.hid g4';have Q4:=Lib.hid q4
      clear q4 g4 g4' k4 GG GG' Q hl0 hl1
      go_wp2_with fail
      have z4:w.heap.size ≤ w4.heap.size:=Q4.out.size
      have e1:=heap_setCell_same w4 (w.heap.size + 1) 0 _ _ (.int .i64 (y.1 + u.1)) G4'.out
      have e2:=heap_setCell_same _ (w.heap.size + 1) 1 _ _ (.int .i64 (y.2 + u.2)) e1
      have hk:Keep (fun j => j = w.heap.size + 1) w4 ((w4.setCell ⟨w.heap.size + 1,0,none⟩ (.int .i64 (y.1 + u.1))).setCell ⟨w.heap.size + 1,1,none⟩ (.int .i64 (y.2 + u.2))):=Keep.setCell (S:=fun j => j = w.heap.size + 1) (Keep.setCell (S:=fun j => j = w.heap.size + 1) (Keep.refl _ _) ⟨w.heap.size + 1,0,none⟩ (.inr rfl) _) ⟨w.heap.size + 1,1,none⟩ (.inr rfl) _
      have Q10:=Q4.out.trans (hk.toBelow z4 (fun j hj => by omega))
      have z10:=Q10.size
      have n10:=(Below.heap_alloc _ (.cells #[.int .i64 u.1,.int .i64 u.2] 87) w.heap.size (by have:=hk.size;omega)).trans ((hk.block w.heap.size (lt_of_block G4.out) (by omega)).trans G4.out)
      have e2:=(Below.heap_alloc _ (.cells #[.int .i64 u.1,.int .i64 u.2] 87) (w.heap.size + 1) (lt_of_block e2)).trans e2
      have Q10:=Q10.alloc z10 (.cells #[.int .i64 u.1,.int .i64 u.2] 87)
      have E2:=Lib.hid e2;have N10:=Lib.hid n10;have HQ10:=Lib.hid Q10
      clear e1 e2 hk n10 Q10
      go_roundw
      case rel => exact ⟨k + 1,by omega,by go_num,N10.out,by rw [Ht.out];exact E2.out,HQ10.out⟩
      case measure => simp [intOf];omega
    · obtain rfl:k = m:=by omega
      have e:l.take k = l:=by rw [← HM.out,List.take_length]
      rw [e] at g'
      obtain ⟨⟨x0,x1⟩,xf⟩:=bx2 g'
      obtain ⟨⟨y0,y1⟩,yf⟩:=bx2 g
      have GG:=Lib.hid g;have Q:=Lib.hid q
      clear g g' q
      go_wp2_with fail
      have e1:=heap_setCell_same wr w.heap.size 0 _ _ (.int .i64 (markL l).1) GG.out
      have e2:=heap_setCell_same _ w.heap.size 1 _ _ (.int .i64 (markL l).2) e1
      have hk:Keep (fun j => j = w.heap.size) wr ((wr.setCell ⟨w.heap.size,0,none⟩ (.int .i64 (markL l).1)).setCell ⟨w.heap.size,1,none⟩ (.int .i64 (markL l).2)):=Keep.setCell (S:=fun j => j = w.heap.size) (Keep.setCell (S:=fun j => j = w.heap.size) (Keep.refl _ _) ⟨w.heap.size,0,none⟩ (.inr rfl) _) ⟨w.heap.size,1,none⟩ (.inr rfl) _
      exact bodyPost_ret (res_cell rfl rfl e2 rt_mk) rfl ⟨rfl,Q.out.trans (hk.toBelow Q.out.size (fun j hj => by omega))⟩
end Go.Proofs.YthamijnggdjaoaaGreatDoor
namespace Go.Proofs.YthamijnggdjaoaaGreatDoor
open Go.RowKit
def nmS (m:Int):ByteArray:=if m = 1 then ⟨#[115,101,114,105,97,108]⟩ else if m = 2 then ⟨#[116,117,114,110,115]⟩ else if m = 3 then ⟨#[99,114,101,119]⟩ else ⟨#[]⟩
theorem ways_any (w:World):Calls Tryz.prog 18 #[] w fun e w' => e = .returned (.slice (some ⟨w.heap.size,0,none⟩) 4 4) ∧ w'.heap[w.heap.size]? = some (.cells #[.string ⟨#[]⟩,Value.nilFunc,.string ⟨#[115,101,114,105,97,108]⟩,.func (.func 54) #[] #[],.string ⟨#[116,117,114,110,115]⟩,.func (.func 55) #[] #[],.string ⟨#[99,114,101,119]⟩,.func (.func 56) #[] #[]] 59 (0,0)) ∧ Below w.heap.size w w':=by
  have h:=heap_alloc_new w (.cells #[.string ⟨#[]⟩,Value.nilFunc,.string ⟨#[115,101,114,105,97,108]⟩,.func (.func 54) #[] #[],.string ⟨#[116,117,114,110,115]⟩,.func (.func 55) #[] #[],.string ⟨#[99,114,101,119]⟩,.func (.func 56) #[] #[]] 59)
  have hb:Below w.heap.size w (w.alloc (.cells #[.string ⟨#[]⟩,Value.nilFunc,.string ⟨#[115,101,114,105,97,108]⟩,.func (.func 54) #[] #[],.string ⟨#[116,117,114,110,115]⟩,.func (.func 55) #[] #[],.string ⟨#[99,114,101,119]⟩,.func (.func 56) #[] #[]] 59)):=(Below.refl _ w).alloc (Nat.le_refl _) _
  have H:=Lib.hid h;have HB:=Lib.hid hb
  clear h hb
  go_enter Tryz.func18,Tryz.ntmps18
  go_wp2_with fail
  go_ret
  exact ⟨rfl,H.out,HB.out⟩
theorem name_any (m:Int) (w:World):Calls Tryz.prog 16 #[.int .i64 m] w fun e w' => e = .returned (.string (nmS m)) ∧ Below w.heap.size w w':=by
  by_cases h1:m < 1
  · have e:nmS m = ⟨#[]⟩:=by unfold nmS;rw [if_neg (by omega),if_neg (by omega),if_neg (by omega)]
    rw [e]
    go_enter Tryz.func16,Tryz.ntmps16
    go_wp2
    go_ret
    exact ⟨rfl,Below.refl _ _⟩
  · by_cases h2:3 < m
    · have e:nmS m = ⟨#[]⟩:=by unfold nmS;rw [if_neg (by omega),if_neg (by omega),if_neg (by omega)]
      rw [e]
      go_enter Tryz.func16,Tryz.ntmps16
      go_wp2
      go_ret
      exact ⟨rfl,Below.refl _ _⟩
    · have h:m = 1 ∨ m = 2 ∨ m = 3:=by omega
      rcases h with rfl | rfl | rfl <;> (
        go_enter Tryz.func16,Tryz.ntmps16
        go_wp2_with fail
        refine (ways_any w).mono ?_
        rintro e w1 ⟨rfl,hw,k1⟩
        have q:=bx8 hw
        have K1:=Lib.hid k1
        clear k1 hw
        go_wp2_with fail
        go_ret
        exact ⟨rfl,K1.out⟩)
end Go.Proofs.YthamijnggdjaoaaGreatDoor
namespace Go.Proofs.YthamijnggdjaoaaGreatDoor
open Go.RowKit
structure InpRaw (w:World) (A:Option Addr) (c:Nat) (D:Option Addr) (T:Option Addr) (ct:Nat) (R:Option Addr) (i:Inp):Prop where
  c:CfgRd w A c i.cfg
  d:SlRd rEx 2 w D i.data
  dl:i.data.length ≤ 17592186043904
  t:NumsRd w T i.start ct
  r:Rd w R (nums .u64 i.draws)
  rl:i.draws.length ≤ 17592186043904
  ru:U64 i.draws
  ra:-9223372036854775808 ≤ i.cfg.rate ∧ i.cfg.rate ≤ 9223372036854775807
  rm:-9223372036854775808 ≤ i.cfg.mom ∧ i.cfg.mom ≤ 9223372036854775807
theorem InpRaw.below {w w':World} {A:Option Addr} {c:Nat} {D T R:Option Addr} {ct:Nat} {i:Inp} (h:InpRaw w A c D T ct R i) (hb:Below w.heap.size w w'):InpRaw w' A c D T ct R i:=
  ⟨h.c.below hb,h.d.below stays_ex hb,h.dl,h.t.below hb,h.r.below hb,h.rl,h.ru,h.ra,h.rm⟩
def SmallI (i:Inp):Prop:=i.data.length ≤ 60 ∧ i.start.length ≤ 600 ∧ i.draws.length ≤ 2000 ∧ i.cfg.sizes.length ≤ 40
theorem InpRaw.rd {w:World} {A:Option Addr} {c:Nat} {D T R:Option Addr} {ct:Nat} {i:Inp} (h:InpRaw w A c D T ct R i) (hs:SmallI i):InpRd w A c D T ct R i:=
  ⟨h.c,h.d,by have:=hs.1;omega,h.t,by have:=hs.2.1;omega,h.r,by have:=hs.2.2.1;omega,h.ru,h.ra,h.rm⟩
def FewI (q:Prop) (w:World) (e:Ending) (w':World):Prop:=(∃ b:Bool,e = .returned (.bool b) ∧ (b = true → q)) ∧ Below w.heap.size w w'
theorem fewI_any {q:Prop} {w w':World} (b:Bool) (hq:q) (hb:Below w.heap.size w w'):FewI q w (.returned (.bool b)) w':=⟨⟨b,rfl,fun _ => hq⟩,hb⟩
theorem fewI_no {q:Prop} {w w':World} (hb:Below w.heap.size w w'):FewI q w (.returned (.bool false)) w':=⟨⟨false,rfl,fun h => by cases h⟩,hb⟩
theorem fewI_dec {p:Prop} [Decidable p] {q:Prop} {w w':World} (hq:p → q) (hb:Below w.heap.size w w'):FewI q w (.returned (.bool (decide p))) w':=⟨⟨_,rfl,fun h => hq (of_decide_eq_true h)⟩,hb⟩
set_option maxRecDepth 100000 in
set_option maxHeartbeats 4000000 in
theorem ifew_any (A:Option Addr) (c:Nat) (D:Option Addr) (cd:Nat) (T:Option Addr) (ct:Nat) (R:Option Addr) (cr:Nat) (i:Inp) (w:World) (h:InpRaw w A c D T ct R i) :
    Calls Tryz.prog 94 #[.agg (inpVals A c D cd T ct R cr i)] w (FewI (SmallI i) w):=by
  have hf:=fun w' (q:Below w.heap.size w w') => rfew_any cd D i.data w' (h.d.below stays_ex q) h.dl
  have hq:i.data.length ≤ 60 → i.start.length ≤ 600 → i.draws.length ≤ 2000 → i.cfg.sizes.length ≤ 40 → SmallI i:=fun a b c d => ⟨a,b,c,d⟩
  generalize SmallI i = Q at hq ⊢
  clear h
  unfold FewB at hf
  obtain ⟨⟨sz,sh,ra,mo,wk,ba,mi,st,bu,ch,wi,ca⟩,data,start,draws⟩:=i
  dsimp only [inpVals,cfgVals] at *
  obtain ⟨L,hL⟩:∃ L,sz.length = L:=⟨_,rfl⟩
  obtain ⟨N,hN⟩:∃ N,data.length = N:=⟨_,rfl⟩
  obtain ⟨M,hM⟩:∃ M,start.length = M:=⟨_,rfl⟩
  obtain ⟨P,hP⟩:∃ P,draws.length = P:=⟨_,rfl⟩
  rw [hL,hN,hM,hP] at hq
  rw [hN] at hf
  rw [hL,hN,hM,hP]
  have Hf:=Lib.hid hf;have Hq:=Lib.hid hq
  clear hf hq hL hN hM hP
  have nol:¬ (L ≤ 40) → ¬ ((L:Int) ≤ 40):=by omega
  have yol:L ≤ 40 → (L:Int) ≤ 40:=by omega
  have nom:¬ (M ≤ 600) → ¬ ((M:Int) ≤ 600):=by omega
  have yom:M ≤ 600 → (M:Int) ≤ 600:=by omega
  have nop:¬ (P ≤ 2000) → ¬ ((P:Int) ≤ 2000):=by omega
  have yop:P ≤ 2000 → (P:Int) ≤ 2000:=by omega
  have NL:=Lib.hid nol;have YL:=Lib.hid yol;have NM:=Lib.hid nom;have YM:=Lib.hid yom;have NP:=Lib.hid nop;have YP:=Lib.hid yop
  clear nol yol nom yom nop yop
  by_cases h1:¬ (L ≤ 40)
  · have k1:=NL.out h1
    go_enter Tryz.func94,Tryz.ntmps94
    go_wp2_with fail
    all_goals
      go_ret
      exact fewI_no ((Below.refl _ w).alloc (Nat.le_refl _) _)
  have h1':L ≤ 40:=by omega
  have k1:=YL.out h1'
  have G1:=Lib.hid h1'
  clear h1 h1'
  go_enter Tryz.func94,Tryz.ntmps94
  go_wp2_with fail
  have hz:=heap_alloc_new w (.cells #[.slice A L c,.int .i64 sh,.int .i64 ra,.int .i64 mo,.int .i64 wk,.int .i64 ba,.int .i64 mi,.int .i64 st,.int .i64 bu,.int .i64 ch,.int .i64 wi,.int .i64 ca,.slice D N cd,.slice T M ct,.slice R P cr] 29)
  have hB:=(Below.refl _ w).alloc (Nat.le_refl _) (.cells #[.slice A L c,.int .i64 sh,.int .i64 ra,.int .i64 mo,.int .i64 wk,.int .i64 ba,.int .i64 mi,.int .i64 st,.int .i64 bu,.int .i64 ch,.int .i64 wi,.int .i64 ca,.slice D N cd,.slice T M ct,.slice R P cr] 29)
  refine (Hf.out _ hB).mono ?_
  rintro e w' ⟨⟨b,rfl,hb⟩,d,rfl⟩
  have hz1:((w.alloc (.cells #[.slice A L c,.int .i64 sh,.int .i64 ra,.int .i64 mo,.int .i64 wk,.int .i64 ba,.int .i64 mi,.int .i64 st,.int .i64 bu,.int .i64 ch,.int .i64 wi,.int .i64 ca,.slice D N cd,.slice T M ct,.slice R P cr] 29)).drewN d).heap[w.heap.size]? = some (.cells #[.slice A L c,.int .i64 sh,.int .i64 ra,.int .i64 mo,.int .i64 wk,.int .i64 ba,.int .i64 mi,.int .i64 st,.int .i64 bu,.int .i64 ch,.int .i64 wi,.int .i64 ca,.slice D N cd,.slice T M ct,.slice R P cr] 29 (0,0)):=hz
  have hB1:=below_drewN hB d
  have Hb:=Lib.hid hb
  clear hz hB hb
  generalize (w.alloc (.cells #[.slice A L c,.int .i64 sh,.int .i64 ra,.int .i64 mo,.int .i64 wk,.int .i64 ba,.int .i64 mi,.int .i64 st,.int .i64 bu,.int .i64 ch,.int .i64 wi,.int .i64 ca,.slice D N cd,.slice T M ct,.slice R P cr] 29)).drewN d = W1 at hz1 hB1 ⊢
  have HB:=Lib.hid hB1
  obtain ⟨⟨z0,z1,z2,z3,z4,z5,z6,z7,z8,z9,z10,z11,z12,z13,z14⟩,zf⟩:=bx15 hz1
  clear hz1 hB1
  rcases bool_ft b with rfl | rfl
  · go_wp2_with fail
    all_goals
      go_ret
      exact fewI_no HB.out
  by_cases h2:¬ (M ≤ 600)
  · have k2:=NM.out h2
    go_wp2_with fail
    all_goals
      go_ret
      exact fewI_no HB.out
  have h2':M ≤ 600:=by omega
  have k2:=YM.out h2'
  have G2:=Lib.hid h2'
  clear h2 h2'
  clear NL YL NM YM YP
  go_wp2_with fail
  all_goals
    go_ret
    exact fewI_dec (fun h => Hq.out (Hb.out trivial) G2.out (by omega) G1.out) HB.out
end Go.Proofs.YthamijnggdjaoaaGreatDoor
namespace Go.Proofs.YthamijnggdjaoaaGreatDoor
open Go.RowKit
set_option maxRecDepth 100000 in
set_option maxHeartbeats 4000000 in
theorem fewrun_any (A:Option Addr) (c:Nat) (D:Option Addr) (cd:Nat) (T:Option Addr) (ct:Nat) (R:Option Addr) (cr:Nat) (i:Inp) (w:World) (h:InpRaw w A c D T ct R i) :
    Calls Tryz.prog 42 #[.agg (inpVals A c D cd T ct R cr i)] w (FewI (SmallI i) w):=by
  have hif:=fun w' (q:Below w.heap.size w w') => ifew_any A c D cd T ct R cr i w' (h.below q)
  have hck:=fun w' (q:Below w.heap.size w w') => rcfg_any A c i.cfg w' (h.c.below q)
  have hct:=fun (hR:RightSz i.cfg.sizes) w' (q:Below w.heap.size w w') => rcount_any A i.cfg.sizes i.cfg.sizes.length c w' (h.c.hr.below q) hR (by have:=hR.1;omega) (Nat.le_refl _)
  have hgd:=@cfg_good i.cfg
  generalize SmallI i = QQ at hif ⊢
  clear h
  have hif:∀ w',Below w.heap.size w w' → Calls Tryz.prog 94 #[.agg (inpVals A c D cd T ct R cr i)] w' (fun e w'' => ∃ b:Bool,e = .returned (.bool b) ∧ (b = true → QQ) ∧ Below w'.heap.size w' w''):=fun w' q => (hif w' q).mono fun e w'' ⟨⟨b,h1,h2⟩,h3⟩ => ⟨b,h1,h2,h3⟩
  obtain ⟨⟨sz,sh,ra,mo,wk,ba,mi,st,bu,ch,wi,ca⟩,data,start,draws⟩:=i
  dsimp only [inpVals,cfgVals] at *
  obtain ⟨cc,hcc⟩:∃ cc,cfgCode ⟨sz,sh,ra,mo,wk,ba,mi,st,bu,ch,wi,ca⟩ = cc:=⟨_,rfl⟩
  rw [hcc] at hck hgd
  have hRz:cc = 0 → RightSz sz:=fun e => (hgd.1 e).z.1
  obtain ⟨L,hL⟩:∃ L,sz.length = L:=⟨_,rfl⟩
  obtain ⟨N,hN⟩:∃ N,data.length = N:=⟨_,rfl⟩
  obtain ⟨M,hM⟩:∃ M,start.length = M:=⟨_,rfl⟩
  obtain ⟨Q,hQ⟩:∃ Q,draws.length = Q:=⟨_,rfl⟩
  rw [hL] at hck hct hif ⊢
  rw [hN,hM,hQ] at hif ⊢
  obtain ⟨CN,hCN⟩:∃ CN,cntN sz (L - 1) = CN:=⟨_,rfl⟩
  rw [hCN] at hct
  have Hck:=Lib.hid hck;have Hct:=Lib.hid hct;have Hif:=Lib.hid hif;have HRz:=Lib.hid hRz
  clear hck hct hif hgd hL hN hM hQ hcc hCN hRz
  go_enter Tryz.func42,Tryz.ntmps42
  go_wp2_with fail
  have hz:=(Below.heap_alloc (w.alloc (.cells #[.slice A L c,.int .i64 sh,.int .i64 ra,.int .i64 mo,.int .i64 wk,.int .i64 ba,.int .i64 mi,.int .i64 st,.int .i64 bu,.int .i64 ch,.int .i64 wi,.int .i64 ca,.slice D N cd,.slice T M ct,.slice R Q cr] 29)) (.cells #[.slice A L c,.int .i64 sh,.int .i64 ra,.int .i64 mo,.int .i64 wk,.int .i64 ba,.int .i64 mi,.int .i64 st,.int .i64 bu,.int .i64 ch,.int .i64 wi,.int .i64 ca] 24) w.heap.size (by simp)).trans (heap_alloc_new w _)
  have hy:=heap_alloc_new (w.alloc (.cells #[.slice A L c,.int .i64 sh,.int .i64 ra,.int .i64 mo,.int .i64 wk,.int .i64 ba,.int .i64 mi,.int .i64 st,.int .i64 bu,.int .i64 ch,.int .i64 wi,.int .i64 ca,.slice D N cd,.slice T M ct,.slice R Q cr] 29)) (.cells #[.slice A L c,.int .i64 sh,.int .i64 ra,.int .i64 mo,.int .i64 wk,.int .i64 ba,.int .i64 mi,.int .i64 st,.int .i64 bu,.int .i64 ch,.int .i64 wi,.int .i64 ca] 24)
  rw [show (w.alloc (.cells #[.slice A L c,.int .i64 sh,.int .i64 ra,.int .i64 mo,.int .i64 wk,.int .i64 ba,.int .i64 mi,.int .i64 st,.int .i64 bu,.int .i64 ch,.int .i64 wi,.int .i64 ca,.slice D N cd,.slice T M ct,.slice R Q cr] 29)).heap.size = w.heap.size + 1 by simp] at hy
  have hB:Below w.heap.size w ((w.alloc (.cells #[.slice A L c,.int .i64 sh,.int .i64 ra,.int .i64 mo,.int .i64 wk,.int .i64 ba,.int .i64 mi,.int .i64 st,.int .i64 bu,.int .i64 ch,.int .i64 wi,.int .i64 ca,.slice D N cd,.slice T M ct,.slice R Q cr] 29)).alloc (.cells #[.slice A L c,.int .i64 sh,.int .i64 ra,.int .i64 mo,.int .i64 wk,.int .i64 ba,.int .i64 mi,.int .i64 st,.int .i64 bu,.int .i64 ch,.int .i64 wi,.int .i64 ca] 24)):=((Below.refl _ w).alloc (Nat.le_refl _) _).alloc (by simp) _
  obtain ⟨W0,hW0⟩:∃ W0,W0 = (w.alloc (.cells #[.slice A L c,.int .i64 sh,.int .i64 ra,.int .i64 mo,.int .i64 wk,.int .i64 ba,.int .i64 mi,.int .i64 st,.int .i64 bu,.int .i64 ch,.int .i64 wi,.int .i64 ca,.slice D N cd,.slice T M ct,.slice R Q cr] 29)).alloc (.cells #[.slice A L c,.int .i64 sh,.int .i64 ra,.int .i64 mo,.int .i64 wk,.int .i64 ba,.int .i64 mi,.int .i64 st,.int .i64 bu,.int .i64 ch,.int .i64 wi,.int .i64 ca] 24):=⟨_,rfl⟩
  rw [← hW0] at hz hy hB ⊢
  clear hW0
  refine (Hif.out _ hB).mono ?_
  rintro e w1 ⟨b,rfl,hb,hb1⟩
  have hz1:=(hb1.block _ (lt_of_block hz)).trans hz
  have hy1:=(hb1.block _ (lt_of_block hy)).trans hy
  have HB:=Lib.hid (hB.trans (hb1.mono hB.size));have Hb:=Lib.hid hb
  obtain ⟨⟨z0,z1,z2,z3,z4,z5,z6,z7,z8,z9,z10,z11,z12,z13,z14⟩,zf⟩:=bx15 hz1
  obtain ⟨⟨y0,y1,y2,y3,y4,y5,y6,y7,y8,y9,y10,y11⟩,yf⟩:=bx12 hy1
  have HZ:=Lib.hid hz1;have HY:=Lib.hid hy1
  clear hz hy hB hb1 hb
  rcases bool_ft b with rfl | rfl
  · clear hz1 hy1
    go_wp2_with fail
    refine (Hif.out _ HB.out).mono ?_
    rintro e w2 ⟨b',rfl,hb',hb2⟩
    have HB2:=Lib.hid (HB.out.trans (hb2.mono HB.out.size));have Hb':=Lib.hid hb'
    clear hb2 hb'
    go_wp2_with fail
    go_ret
    exact ⟨⟨b',rfl,Hb'.out⟩,HB2.out⟩
  have HQ:=Lib.hid (Hb.out rfl)
  go_wp2_with fail
  refine (Hck.out _ HB.out).mono ?_
  rintro e w3 ⟨rfl,hb3⟩
  have hz3:=(hb3.block _ (lt_of_block hz1)).trans hz1
  have hy3:=(hb3.block _ (lt_of_block hy1)).trans hy1
  have HB3:=Lib.hid (HB.out.trans (hb3.mono HB.out.size))
  clear z0 z1 z2 z3 z4 z5 z6 z7 z8 z9 z10 z11 z12 z13 z14 zf y0 y1 y2 y3 y4 y5 y6 y7 y8 y9 y10 y11 yf hz1 hy1 hb3 HZ HY
  obtain ⟨⟨z0,z1,z2,z3,z4,z5,z6,z7,z8,z9,z10,z11,z12,z13,z14⟩,zf⟩:=bx15 hz3
  obtain ⟨⟨y0,y1,y2,y3,y4,y5,y6,y7,y8,y9,y10,y11⟩,yf⟩:=bx12 hy3
  clear hz3 hy3
  by_cases h3:cc ≠ 0
  · have hq:(cc != 0) = true:=by rw [bne_iff_ne];exact h3
    go_wp2_with fail
    refine (Hif.out _ HB3.out).mono ?_
    rintro e w2 ⟨b',rfl,hb',hb2⟩
    have HB2:=Lib.hid (HB3.out.trans (hb2.mono HB3.out.size));have Hb':=Lib.hid hb'
    clear hb2 hb'
    go_wp2_with fail
    go_ret
    exact ⟨⟨b',rfl,Hb'.out⟩,HB2.out⟩
  obtain rfl:cc = 0:=by omega
  clear h3
  have HR:=Lib.hid (HRz.out rfl)
  by_cases h4:12 < st
  · have hq:¬ (st ≤ 12):=by omega
    go_wp2_with fail
    all_goals
      go_ret
      exact fewI_any _ HQ.out HB3.out
  have hq:st ≤ 12:=by omega
  go_wp2_with fail
  refine (Hct.out HR.out _ HB3.out).mono ?_
  rintro e w4 ⟨rfl,d,rfl⟩
  have HB4:=Lib.hid (below_drewN HB3.out d)
  obtain ⟨W4,hW4⟩:∃ W4,W4 = w3.drewN d:=⟨_,rfl⟩
  have y5':W4.cell? ⟨w.heap.size + 1,5,none⟩ = some (.int .i64 ba):=by rw [hW4];exact y5
  rw [← hW4] at HB4 ⊢
  clear hW4 z0 z1 z2 z3 z4 z5 z6 z7 z8 z9 z10 z11 z12 z13 z14 zf y0 y1 y2 y3 y4 y5 y6 y7 y8 y9 y10 y11 yf
  by_cases h5:CN ≤ 150
  · have k5:(CN:Int) ≤ 150:=by omega
    go_wp2_with fail
    all_goals
      go_ret
      exact fewI_any _ HQ.out HB4.out
  · have k5:¬ ((CN:Int) ≤ 150):=by omega
    go_wp2_with fail
    all_goals
      go_ret
      exact fewI_any _ HQ.out HB4.out
end Go.Proofs.YthamijnggdjaoaaGreatDoor
namespace Go.Proofs.YthamijnggdjaoaaGreatDoor
open Go.RowKit
theorem wpl_ldg {P:Program} {ops:Array Oper} {rest:List Oper} {op:Oper} {a:Act} {w:World} {Q:Exit → Act → World → Prop} {ty:TypeId} {x:Operand} {b o:Nat} {xs:Array Value} {t:TypeId} {fr:Nat × Nat} (cs:Array Value)
    (hb:w.heap[b]? = some (.cells xs t fr)) (hr:RowTy P ty cs.size) (hw:Region.wanted op (yielded ops a.tmps) = true) (ho:op.op = .load ty x) (hx:a.eval x = .pointer (some ⟨b,o,none⟩)) (hcs:(xs.toList.drop o).take cs.toList.length = cs.toList)
    (h:wpList P ops Q rest (a.put op.dst (.agg cs)) w):wpList P ops Q (op :: rest) a w:=by
  obtain ⟨⟨d,h1,h2⟩,h3⟩:=hr
  refine wpList_step fun K hK => ?_
  rw [if_pos hw]
  exact wp_load_mid ty x ho b o hx cs.toList d (range_block hb o hcs) h1 h2 (by simpa using h3) (hK _ _ (by simpa using h))
theorem rt_inp:RowTy Tryz.prog 29 15:=⟨⟨_,Tryz.underlying29,rfl⟩,by kernel_rfl⟩
noncomputable def rightQ (k:Cfg) (n:Int):Bool:=decide (cfgCode k = 0) && (decide (1 ≤ n) && decide (n ≤ 1048576))
set_option maxRecDepth 100000 in
theorem rright20_any (A:Option Addr) (c:Nat) (k:Cfg) (n:Int) (w:World) (h:CfgRd w A c k) :
    Calls Tryz.prog 95 #[.agg #[.slice A k.sizes.length c,.int .i64 k.shift,.int .i64 k.rate,.int .i64 k.mom,.int .i64 k.workers,.int .i64 k.batch,.int .i64 k.micros,.int .i64 k.steps,.int .i64 k.bucket,.int .i64 k.chunk,.int .i64 k.window,.int .i64 k.cap,.int .i64 n]] w fun e w' => e = .returned (.bool (rightQ k n)) ∧ Below w.heap.size w w':=by
  obtain ⟨W0,hW0⟩:∃ W0,w.alloc (.cells #[.slice A k.sizes.length c,.int .i64 k.shift,.int .i64 k.rate,.int .i64 k.mom,.int .i64 k.workers,.int .i64 k.batch,.int .i64 k.micros,.int .i64 k.steps,.int .i64 k.bucket,.int .i64 k.chunk,.int .i64 k.window,.int .i64 k.cap,.int .i64 n] 109) = W0:=⟨_,rfl⟩
  have g0:W0.heap[w.heap.size]? = some (.cells #[.slice A k.sizes.length c,.int .i64 k.shift,.int .i64 k.rate,.int .i64 k.mom,.int .i64 k.workers,.int .i64 k.batch,.int .i64 k.micros,.int .i64 k.steps,.int .i64 k.bucket,.int .i64 k.chunk,.int .i64 k.window,.int .i64 k.cap,.int .i64 n] 109 (0,0)):=by rw [← hW0];exact heap_alloc_new w _
  have hB0:Below w.heap.size w W0:=by rw [← hW0];exact (br w).alloc (Nat.le_refl _) _
  have hc:=rcfg_any A c k W0 (h.below hB0)
  have t0:=fun w' q => bx13 (sb g0 w' q)
  have HW0:=Lib.hid hW0;have HB0:=Lib.hid hB0;have Hc:=Lib.hid hc
  have q0:=br W0
  clear hW0 g0 hB0 hc h
  unfold rightQ
  obtain ⟨code,hcode⟩:∃ code,cfgCode k = code:=⟨_,rfl⟩
  rw [hcode] at Hc ⊢
  clear hcode
  by_cases h1:code = 0
  · by_cases h2:1 ≤ n
    · by_cases h3:n ≤ 1048576
      · go_enter Tryz.func95,Tryz.ntmps95
        go_wp2_with fail
        rw [HW0.out]
        refine Hc.out.mono ?_
        rintro e w1 ⟨rfl,k1⟩
        have q1:=bt q0 k1
        have HB:=Lib.hid (HB0.out.trans (q1.mono HB0.out.size))
        clear k1
        go_wp2_with fail
        go_ret
        exact ⟨by simp [h1,h2,h3],HB.out⟩
      · go_enter Tryz.func95,Tryz.ntmps95
        go_wp2_with fail
        rw [HW0.out]
        refine Hc.out.mono ?_
        rintro e w1 ⟨rfl,k1⟩
        have q1:=bt q0 k1
        have HB:=Lib.hid (HB0.out.trans (q1.mono HB0.out.size))
        clear k1
        go_wp2_with fail
        go_ret
        exact ⟨by rw [show decide (n ≤ 1048576) = false from decide_eq_false (by omega)];simp,HB.out⟩
    · go_enter Tryz.func95,Tryz.ntmps95
      go_wp2_with fail
      rw [HW0.out]
      refine Hc.out.mono ?_
      rintro e w1 ⟨rfl,k1⟩
      have q1:=bt q0 k1
      have HB:=Lib.hid (HB0.out.trans (q1.mono HB0.out.size))
      clear k1
      go_wp2_with fail
      go_ret
      exact ⟨by rw [show decide (1 ≤ n) = false from decide_eq_false (by omega)];simp,HB.out⟩
  · go_enter Tryz.func95,Tryz.ntmps95
    go_wp2_with fail
    rw [HW0.out]
    refine Hc.out.mono ?_
    rintro e w1 ⟨rfl,k1⟩
    have q1:=bt q0 k1
    have HB:=Lib.hid (HB0.out.trans (q1.mono HB0.out.size))
    clear k1
    go_wp2_with fail
    go_ret
    exact ⟨by simp [h1],HB.out⟩
def SmallP (k:Cfg) (n:Int) (r:Bool):Prop:=r = true → n ≤ 60 ∧ k.workers ≤ 8 ∧ k.micros ≤ 20 ∧ k.steps ≤ 12
def FewP (q:Prop) (w:World) (e:Ending) (w':World):Prop:=(∃ b:Bool,e = .returned (.bool b) ∧ (b = true → q)) ∧ Below w.heap.size w w'
set_option maxRecDepth 100000 in
theorem rfew20_any (A:Option Addr) (c:Nat) (k:Cfg) (n:Int) (w:World) (h:CfgRd w A c k) :
    Calls Tryz.prog 43 #[.agg #[.slice A k.sizes.length c,.int .i64 k.shift,.int .i64 k.rate,.int .i64 k.mom,.int .i64 k.workers,.int .i64 k.batch,.int .i64 k.micros,.int .i64 k.steps,.int .i64 k.bucket,.int .i64 k.chunk,.int .i64 k.window,.int .i64 k.cap,.int .i64 n]] w (FewP (SmallP k n (rightQ k n)) w):=by
  obtain ⟨W0,hW0⟩:∃ W0,w.alloc (.cells #[.slice A k.sizes.length c,.int .i64 k.shift,.int .i64 k.rate,.int .i64 k.mom,.int .i64 k.workers,.int .i64 k.batch,.int .i64 k.micros,.int .i64 k.steps,.int .i64 k.bucket,.int .i64 k.chunk,.int .i64 k.window,.int .i64 k.cap,.int .i64 n] 109) = W0:=⟨_,rfl⟩
  have g0:W0.heap[w.heap.size]? = some (.cells #[.slice A k.sizes.length c,.int .i64 k.shift,.int .i64 k.rate,.int .i64 k.mom,.int .i64 k.workers,.int .i64 k.batch,.int .i64 k.micros,.int .i64 k.steps,.int .i64 k.bucket,.int .i64 k.chunk,.int .i64 k.window,.int .i64 k.cap,.int .i64 n] 109 (0,0)):=by rw [← hW0];exact heap_alloc_new w _
  have hB0:Below w.heap.size w W0:=by rw [← hW0];exact (br w).alloc (Nat.le_refl _) _
  have hc:=rright20_any A c k n W0 (h.below hB0)
  have t0:=fun w' q => bx13 (sb g0 w' q)
  have HW0:=Lib.hid hW0;have HB0:=Lib.hid hB0;have Hc:=Lib.hid hc
  have q0:=br W0
  clear hW0 g0 hB0 hc h
  obtain ⟨r,hr⟩:∃ r,rightQ k n = r:=⟨_,rfl⟩
  rw [hr] at Hc ⊢
  clear hr
  obtain ⟨L,hL⟩:∃ L,k.sizes.length = L:=⟨_,rfl⟩
  rw [hL] at HW0 Hc t0 ⊢
  clear hL
  by_cases hl:(L:Int) ≤ 40
  · have hl':¬ (40 < (L:Int)):=by omega
    cases r with
    | false =>
      go_enter Tryz.func43,Tryz.ntmps43
      go_wp2_with fail
      rw [HW0.out]
      refine Hc.out.mono ?_
      rintro e w1 ⟨rfl,k1⟩
      have q1:=bt q0 k1
      have HB:=Lib.hid (HB0.out.trans (q1.mono HB0.out.size))
      clear k1
      go_wp2_with fail
      go_ret
      exact ⟨⟨_,rfl,fun _ h => by cases h⟩,HB.out⟩
    | true =>
      have fin:∀ b:Bool,(b = true → n ≤ 60 ∧ k.workers ≤ 8 ∧ k.micros ≤ 20 ∧ k.steps ≤ 12) → b = true → SmallP k n true:=fun b hb hb' _ => hb hb'
      have Fin:=Lib.hid fin
      clear fin
      by_cases h1:n ≤ 60
      · by_cases h2:k.workers ≤ 8
        · by_cases h3:k.micros ≤ 20
          · go_enter Tryz.func43,Tryz.ntmps43
            go_wp2_with fail
            rw [HW0.out]
            refine Hc.out.mono ?_
            rintro e w1 ⟨rfl,k1⟩
            have q1:=bt q0 k1
            have HB:=Lib.hid (HB0.out.trans (q1.mono HB0.out.size))
            clear k1
            go_wp2_with fail
            go_ret
            exact ⟨⟨_,rfl,Fin.out _ (fun hb => ⟨h1,h2,h3,by simpa using hb⟩)⟩,HB.out⟩
          · go_enter Tryz.func43,Tryz.ntmps43
            go_wp2_with fail
            rw [HW0.out]
            refine Hc.out.mono ?_
            rintro e w1 ⟨rfl,k1⟩
            have q1:=bt q0 k1
            have HB:=Lib.hid (HB0.out.trans (q1.mono HB0.out.size))
            clear k1
            go_wp2_with fail
            go_ret
            exact ⟨⟨_,rfl,fun hb => by simp [h3] at hb⟩,HB.out⟩
        · go_enter Tryz.func43,Tryz.ntmps43
          go_wp2_with fail
          rw [HW0.out]
          refine Hc.out.mono ?_
          rintro e w1 ⟨rfl,k1⟩
          have q1:=bt q0 k1
          have HB:=Lib.hid (HB0.out.trans (q1.mono HB0.out.size))
          clear k1
          go_wp2_with fail
          go_ret
          exact ⟨⟨_,rfl,fun hb => by simp [h2] at hb⟩,HB.out⟩
      · go_enter Tryz.func43,Tryz.ntmps43
        go_wp2_with fail
        rw [HW0.out]
        refine Hc.out.mono ?_
        rintro e w1 ⟨rfl,k1⟩
        have q1:=bt q0 k1
        have HB:=Lib.hid (HB0.out.trans (q1.mono HB0.out.size))
        clear k1
        go_wp2_with fail
        go_ret
        exact ⟨⟨_,rfl,fun hb => by simp [h1] at hb⟩,HB.out⟩
  · have hl':40 < (L:Int):=by omega
    go_enter Tryz.func43,Tryz.ntmps43
    go_wp2_with fail
    rw [HW0.out]
    try go_wp2_with fail
    go_ret
    exact ⟨⟨_,rfl,fun hb => by simp at hb⟩,HB0.out⟩
set_option maxRecDepth 100000 in
set_option maxHeartbeats 2000000 in
theorem rplan21_any (A:Option Addr) (L c:Nat) (sh ra mo wk bh mi sn bu ch wi ca:Int) (D:Option Addr) (N cd:Nat) (T:Option Addr) (n ct:Nat) (R:Option Addr) (Q cr:Nat) (w:World) :
    Calls Tryz.prog 44 #[.agg #[.slice A L c,.int .i64 sh,.int .i64 ra,.int .i64 mo,.int .i64 wk,.int .i64 bh,.int .i64 mi,.int .i64 sn,.int .i64 bu,.int .i64 ch,.int .i64 wi,.int .i64 ca,.slice D N cd,.slice T (n:Nat) ct,.slice R Q cr]] w fun e w' => e = .returned (.agg #[.slice A L c,.int .i64 sh,.int .i64 ra,.int .i64 mo,.int .i64 wk,.int .i64 bh,.int .i64 mi,.int .i64 sn,.int .i64 bu,.int .i64 ch,.int .i64 wi,.int .i64 ca,.int .i64 (n:Nat)]) ∧ Below w.heap.size w w':=by
  obtain ⟨W0,hW0⟩:∃ W0,w.alloc (.cells #[.slice A L c,.int .i64 sh,.int .i64 ra,.int .i64 mo,.int .i64 wk,.int .i64 bh,.int .i64 mi,.int .i64 sn,.int .i64 bu,.int .i64 ch,.int .i64 wi,.int .i64 ca,.slice D N cd,.slice T (n:Nat) ct,.slice R Q cr] 29) = W0:=⟨_,rfl⟩
  have g0:W0.heap[w.heap.size]? = some (.cells #[.slice A L c,.int .i64 sh,.int .i64 ra,.int .i64 mo,.int .i64 wk,.int .i64 bh,.int .i64 mi,.int .i64 sn,.int .i64 bu,.int .i64 ch,.int .i64 wi,.int .i64 ca,.slice D N cd,.slice T (n:Nat) ct,.slice R Q cr] 29 (0,0)):=by rw [← hW0];exact heap_alloc_new w _
  have k0:Below w.heap.size w W0:=by rw [← hW0];exact (br w).alloc (Nat.le_refl _) _
  have hs0:W0.heap.size = w.heap.size + 1:=by rw [← hW0];exact Array.size_push _
  have g1:(W0.alloc (.cells #[.slice A L c,.int .i64 sh,.int .i64 ra,.int .i64 mo,.int .i64 wk,.int .i64 bh,.int .i64 mi,.int .i64 sn,.int .i64 bu,.int .i64 ch,.int .i64 wi,.int .i64 ca,.int .i64 (n:Nat)] 109)).heap[w.heap.size + 1]? = some (.cells #[.slice A L c,.int .i64 sh,.int .i64 ra,.int .i64 mo,.int .i64 wk,.int .i64 bh,.int .i64 mi,.int .i64 sn,.int .i64 bu,.int .i64 ch,.int .i64 wi,.int .i64 ca,.int .i64 (n:Nat)] 109 (0,0)):=by rw [← hs0];exact heap_alloc_new W0 _
  have HB:=Lib.hid (k0.alloc k0.size (.cells #[.slice A L c,.int .i64 sh,.int .i64 ra,.int .i64 mo,.int .i64 wk,.int .i64 bh,.int .i64 mi,.int .i64 sn,.int .i64 bu,.int .i64 ch,.int .i64 wi,.int .i64 ca,.int .i64 (n:Nat)] 109))
  have t0:=fun w' (q:Below W0.heap.size W0 w') => bx15 (sb g0 w' q)
  have HW0:=Lib.hid hW0;have G1:=Lib.hid g1
  have l0:=lt_of_block g0
  have p1:=br W0
  clear hW0 g0 g1 k0 hs0
  go_enter Tryz.func44,Tryz.ntmps44
  go_wp2_with fail
  rw [HW0.out]
  obtain ⟨⟨r0,r1,r2,r3,r4,r5,r6,r7,r8,r9,r10,r11,r12⟩,rf⟩:=bx13 G1.out
  exact bodyPost_ret (v:=.agg #[.slice A L c,.int .i64 sh,.int .i64 ra,.int .i64 mo,.int .i64 wk,.int .i64 bh,.int .i64 mi,.int .i64 sn,.int .i64 bu,.int .i64 ch,.int .i64 wi,.int .i64 ca,.int .i64 (n:Nat)]) (by simp [results,Tryz.results44,go_sem,r0,r1,r2,r3,r4,r5,r6,r7,r8,r9,r10,r11,r12]) rfl ⟨rfl,HB.out⟩
def FewM (i:Inp):Prop:=SmallI i ∧ (inCode i = 0 → SmallP i.cfg i.start.length (rightQ i.cfg i.start.length) ∧ i.cfg.steps ≤ 6 ∧ i.data.length ≤ 40)
set_option maxRecDepth 100000 in
set_option maxHeartbeats 4000000 in
theorem rfew21_any (A:Option Addr) (c:Nat) (D:Option Addr) (cd:Nat) (T:Option Addr) (ct:Nat) (R:Option Addr) (cr:Nat) (i:Inp) (w:World) (h:InpRaw w A c D T ct R i) :
    Calls Tryz.prog 14 #[.agg (inpVals A c D cd T ct R cr i)] w (FewI (FewM i) w):=by
  obtain ⟨W0,hW0⟩:∃ W0,w.alloc (.cells (inpVals A c D cd T ct R cr i) 29) = W0:=⟨_,rfl⟩
  have g0:W0.heap[w.heap.size]? = some (.cells (inpVals A c D cd T ct R cr i) 29 (0,0)):=by rw [← hW0];exact heap_alloc_new w _
  have hB0:Below w.heap.size w W0:=by rw [← hW0];exact (br w).alloc (Nat.le_refl _) _
  have hf:=fewrun_any A c D cd T ct R cr i W0 (h.below hB0)
  have hin:=fun (hs:SmallI i) w' (q:Below W0.heap.size W0 w') => rinput_any A c D cd T ct R cr i w' (((h.rd hs).below hB0).below q)
  have hpl:=rplan21_any A i.cfg.sizes.length c i.cfg.shift i.cfg.rate i.cfg.mom i.cfg.workers i.cfg.batch i.cfg.micros i.cfg.steps i.cfg.bucket i.cfg.chunk i.cfg.window i.cfg.cap D i.data.length cd T i.start.length ct R i.draws.length cr
  have hfw:=fun w' (q:Below W0.heap.size W0 w') => rfew20_any A c i.cfg i.start.length w' ((h.c.below hB0).below q)
  unfold FewI FewM
  dsimp only [inpVals] at *
  have t0:=fun w' q => bx15 (sb g0 w' q)
  have HW0:=Lib.hid hW0;have HB0:=Lib.hid hB0;have Hf:=Lib.hid hf;have Hin:=Lib.hid hin;have Hpl:=Lib.hid hpl;have Hfw:=Lib.hid hfw
  have q0:=br W0
  clear hW0 g0 hB0 hf hin hpl hfw h
  go_enter Tryz.func14,Tryz.ntmps14
  go_wp2_with fail
  rw [HW0.out]
  refine Hf.out.mono ?_
  rintro e w1 ⟨⟨b,rfl,hb⟩,k1⟩
  have q1:=bt q0 k1
  have HB1:=Lib.hid (HB0.out.trans (k1.mono HB0.out.size))
  have Hb:=Lib.hid hb
  clear hb k1 q0
  cases b with
  | false =>
    go_wp2_with fail
    go_ret
    exact ⟨⟨false,rfl,fun h => by cases h⟩,HB1.out⟩
  | true =>
    go_wp2_with fail
    refine (Hin.out (Hb.out (by trivial)) w1 q1).mono ?_
    rintro e w2 ⟨rfl,k2⟩
    have q2:=bt q1 k2
    have HB2:=Lib.hid (HB1.out.trans (k2.mono HB1.out.size))
    clear k2 q1
    obtain ⟨C,hC⟩:∃ C,inCode i = C:=⟨_,rfl⟩
    rw [hC]
    have HC:=Lib.hid hC
    clear hC
    by_cases h0:C = 0
    · subst h0
      go_wp2_with fail
      refine (Hpl.out w2).mono ?_
      rintro e w3 ⟨rfl,k3⟩
      have q3:=bt q2 k3
      have HB3:=Lib.hid (HB2.out.trans (k3.mono HB2.out.size))
      clear k3 q2
      go_wp2_with fail
      refine (Hfw.out w3 q3).mono ?_
      rintro e w4 ⟨⟨b2,rfl,hb2⟩,k4⟩
      have q4:=bt q3 k4
      have HB4:=Lib.hid (HB3.out.trans (k4.mono HB3.out.size))
      have Hb2:=Lib.hid hb2
      clear hb2 k4 q3
      cases b2 with
      | false =>
        go_wp2_with fail
        go_ret
        exact ⟨⟨false,rfl,fun h => by cases h⟩,HB4.out⟩
      | true =>
        by_cases h6:i.cfg.steps ≤ 6
        · go_wp2_with fail
          go_ret
          exact ⟨⟨_,rfl,fun h => ⟨Hb.out (by trivial),fun _ => ⟨Hb2.out (by trivial),h6,by simp at h;omega⟩⟩⟩,HB4.out⟩
        · go_wp2_with fail
          go_ret
          exact ⟨.inl rfl,HB4.out⟩
    · go_wp2_with fail
      go_ret
      exact ⟨⟨true,rfl,fun _ => ⟨Hb.out (by trivial),fun h => absurd (HC.out.symm.trans h) h0⟩⟩,HB2.out⟩
def FewW (i:Inp):Prop:=FewM i ∧ (inCode i = 0 → i.cfg.workers ≤ 6 ∧ i.cfg.steps ≤ 5 ∧ i.start.length ≤ 40)
set_option maxRecDepth 100000 in
set_option maxHeartbeats 4000000 in
theorem rfew22_any (A:Option Addr) (c:Nat) (D:Option Addr) (cd:Nat) (T:Option Addr) (ct:Nat) (R:Option Addr) (cr:Nat) (i:Inp) (w:World) (h:InpRaw w A c D T ct R i) :
    Calls Tryz.prog 4 #[.agg (inpVals A c D cd T ct R cr i)] w (FewI (FewW i) w):=by
  obtain ⟨W0,hW0⟩:∃ W0,w.alloc (.cells (inpVals A c D cd T ct R cr i) 29) = W0:=⟨_,rfl⟩
  have g0:W0.heap[w.heap.size]? = some (.cells (inpVals A c D cd T ct R cr i) 29 (0,0)):=by rw [← hW0];exact heap_alloc_new w _
  have hB0:Below w.heap.size w W0:=by rw [← hW0];exact (br w).alloc (Nat.le_refl _) _
  have hf:=rfew21_any A c D cd T ct R cr i W0 (h.below hB0)
  have hin:=fun (hs:SmallI i) w' (q:Below W0.heap.size W0 w') => rinput_any A c D cd T ct R cr i w' (((h.rd hs).below hB0).below q)
  have t4:∀ w',Below W0.heap.size W0 w' → w'.cell? ⟨w.heap.size,4,none⟩ = some (.int .i64 i.cfg.workers):=fun w' q => cell_of_row w' w.heap.size 4 _ _ _ (sb g0 w' q)
  have t7:∀ w',Below W0.heap.size W0 w' → w'.cell? ⟨w.heap.size,7,none⟩ = some (.int .i64 i.cfg.steps):=fun w' q => cell_of_row w' w.heap.size 7 _ _ _ (sb g0 w' q)
  have t13:∀ w',Below W0.heap.size W0 w' → w'.cell? ⟨w.heap.size,13,none⟩ = some (.slice T i.start.length ct):=fun w' q => cell_of_row w' w.heap.size 13 _ _ _ (sb g0 w' q)
  unfold FewI FewW
  unfold FewI at hf
  have HW0:=Lib.hid hW0;have HB0:=Lib.hid hB0;have Hf:=Lib.hid hf;have Hin:=Lib.hid hin;have G0:=Lib.hid g0
  have q0:=br W0
  clear hW0 g0 hB0 hf hin h
  go_enter Tryz.func4,Tryz.ntmps4
  go_wp2_with (refine wpl_load (inpVals A c D cd T ct R cr i) (b:=w.heap.size) (by rw [HW0.out];exact G0.out) rt_inp rfl rfl rfl rfl ?_)
  rw [HW0.out]
  refine Hf.out.mono ?_
  rintro e w1 ⟨⟨b,rfl,hb⟩,k1⟩
  have q1:=bt q0 k1
  have HB1:=Lib.hid (HB0.out.trans (k1.mono HB0.out.size))
  have Hb:=Lib.hid hb
  clear hb k1 q0
  cases b with
  | false =>
    go_wp2_with fail
    go_ret
    exact ⟨⟨false,rfl,fun h => by cases h⟩,HB1.out⟩
  | true =>
    go_wp2_with (first | (refine wpl_load (inpVals A c D cd T ct R cr i) (sb G0.out _ q1) rt_inp rfl rfl rfl rfl ?_) | (refine wpl_ldg (inpVals A c D cd T ct R cr i) (sb G0.out _ q1) rt_inp rfl rfl rfl rfl ?_))
    refine (Hin.out (Hb.out (by trivial)).1 w1 q1).mono ?_
    rintro e w2 ⟨rfl,k2⟩
    have q2:=bt q1 k2
    have HB2:=Lib.hid (HB1.out.trans (k2.mono HB1.out.size))
    clear k2 q1
    obtain ⟨C,hC⟩:∃ C,inCode i = C:=⟨_,rfl⟩
    rw [hC]
    have HC:=Lib.hid hC
    clear hC
    by_cases h0:C = 0
    · subst h0
      by_cases h6:i.cfg.workers ≤ 6
      · by_cases h5:i.cfg.steps ≤ 5
        · by_cases h4:i.start.length ≤ 40
          · go_wp2_with fail
            go_ret
            exact ⟨⟨_,rfl,fun _ => ⟨Hb.out (by trivial),fun _ => ⟨h6,h5,h4⟩⟩⟩,HB2.out⟩
          · go_wp2_with fail
            go_ret
            exact ⟨⟨false,by simp;omega,fun h => by cases h⟩,HB2.out⟩
        · go_wp2_with fail
          go_ret
          exact ⟨.inl rfl,HB2.out⟩
      · go_wp2_with fail
        go_ret
        exact ⟨.inl rfl,HB2.out⟩
    · go_wp2_with fail
      go_ret
      exact ⟨⟨true,rfl,fun _ => ⟨Hb.out (by trivial),fun h => absurd (HC.out.symm.trans h) h0⟩⟩,HB2.out⟩
end Go.Proofs.YthamijnggdjaoaaGreatDoor
namespace Go.Proofs.YthamijnggdjaoaaGreatDoor
open Go.RowKit
theorem MapS.keep2 {base:Nat} {w w':World} {i:Inp} {n:Nat} {v:Value} (h:MapS base w i n v) {S:Nat → Prop} (k:Keep S w w') (hS:∀ j,base ≤ j → j < w.heap.size → ¬ S j):MapS base w' i n v:=by
  obtain ⟨rows,h1,h2,h3,h4⟩:=h
  refine ⟨rows,k.own h1 (fun j hj => hS j (h1.lt j hj).1 (h1.lt j hj).2),h2,h3,fun j hj => ?_⟩
  obtain ⟨u,v,e,o1,o2,l1,l2,x1,x2⟩:=h4 j hj
  exact ⟨u,v,e,k.own o1 (fun j hj => hS j (o1.lt j hj).1 (o1.lt j hj).2),k.own o2 (fun j hj => hS j (o2.lt j hj).1 (o2.lt j hj).2),l1,l2,x1,x2⟩
theorem nb2 {w W10:World} {o:Obj} (k:Keep (fun j => j = w.heap.size) (w.alloc o) W10):Below w.heap.size w W10:=
  ((br w).alloc (Nat.le_refl _) o).trans (k.toBelow (by simp) (fun j hj => by have e:j = w.heap.size:=hj;omega))
def StM (lo:Nat) (i:Inp) (n:Nat) (B:Option Addr) (d bO:Nat) (w:World):Prop:=∃ base wM,MapS base wM i n (.slice B n d) ∧ lo ≤ base ∧ (bO < base ∨ wM.heap.size ≤ bO) ∧ Keep (fun j => j = bO ∨ wM.heap.size ≤ j) wM w
theorem StM.next {lo:Nat} {i:Inp} {n:Nat} {B:Option Addr} {d bO:Nat} {w w':World} (h:StM lo i n B d bO w) (k:Keep (fun j => j = bO ∨ w.heap.size ≤ j) w w'):StM lo i n B d bO w':=by
  obtain ⟨base,wM,h1,h0,h2,h3⟩:=h
  have:=h3.size
  exact ⟨base,wM,h1,h0,h2,h3.trans (k.mono fun j _ e => by rcases e with e | e;exact .inl e;exact .inr (by omega))⟩
theorem StM.map {lo:Nat} {i:Inp} {n:Nat} {B:Option Addr} {d bO:Nat} {w:World} (h:StM lo i n B d bO w):∃ base,MapS base w i n (.slice B n d) ∧ lo ≤ base:=by
  obtain ⟨base,wM,h1,h0,h2,h3⟩:=h
  exact ⟨base,h1.keep2 h3 fun j e1 e2 e => by rcases e with e | e <;> omega,h0⟩
theorem StM.at {lo:Nat} {i:Inp} {n:Nat} {B:Option Addr} {d bO:Nat} {w:World} (h:StM lo i n B d bO w) {k:Nat} (hk:k < n):∃ b o A1 c1 A2 c2,B = some ⟨b,o,none⟩ ∧ ∀ w',Keep (fun j => j = bO ∨ w.heap.size ≤ j) w w' →
    b < w'.heap.size ∧ w'.cell? ⟨b,o + k * 2,none⟩ = some (.slice A1 (traj i k).1.length c1) ∧ w'.cell? ⟨b,o + k * 2 + 1,none⟩ = some (.slice A2 (traj i k).2.length c2) ∧ NumsRd w' A1 (traj i k).1 c1 ∧ NumsRd w' A2 (traj i k).2 c2:=by
  have hx:(trajL i n)[k]? = some (traj i k):=trajL_at i hk
  obtain ⟨base,wM,h1,h0,h2,h3⟩:=h
  obtain ⟨b,o,A1,c1,A2,c2,rfl,hb,e1,e2,_,_⟩:=ex_cells h1.rd hx
  have hlt:base ≤ b ∧ b < wM.heap.size:=by
    obtain ⟨rows,o1,_⟩:=h1
    exact o1.lt b rfl
  refine ⟨b,o,A1,c1,A2,c2,rfl,fun w' q => ?_⟩
  have s3:=h3.size
  have kk:Keep (fun j => j = bO ∨ wM.heap.size ≤ j) wM w':=h3.trans (q.mono fun j _ e => by rcases e with e | e;exact .inl e;exact .inr (by omega))
  have hm:MapS base w' i n (.slice (some ⟨b,o,none⟩) n d):=h1.keep2 kk fun j e1 e2 e => by rcases e with e | e <;> omega
  obtain ⟨b',o',A1',c1',A2',c2',hB,hb',f1,f2,n1,n2⟩:=ex_cells hm.rd hx
  obtain ⟨rfl,rfl⟩:b = b' ∧ o = o':=by simpa using hB
  have hc:∀ p,w'.cell? ⟨b,p,none⟩ = wM.cell? ⟨b,p,none⟩:=fun p => by
    unfold World.cell?
    rw [show w'.heap[(⟨b,p,none⟩:Addr).block]? = wM.heap[b]? from kk.block b hlt.2 (by omega)]
  have g1:=e1.symm.trans ((hc _).symm.trans f1)
  have g2:=e2.symm.trans ((hc _).symm.trans f2)
  simp only [Option.some.injEq,Value.slice.injEq] at g1 g2
  obtain ⟨rfl,-,rfl⟩:=g1
  obtain ⟨rfl,-,rfl⟩:=g2
  exact ⟨hb',f1,f2,n1,n2⟩
theorem alone_good (A:Option Addr) (c:Nat) (D:Option Addr) (cd:Nat) (T:Option Addr) (ct:Nat) (R:Option Addr) (cr:Nat) (i:Inp) (w:World) (h:InpRd w A c D T ct R i) (hg:GoodIn i) :
    Calls Tryz.prog 54 #[.agg (inpVals A c D cd T ct R cr i)] w fun e w' => ∃ B d base,e = .returned (.slice B (i.cfg.steps.toNat + 1) d) ∧ w.heap.size ≤ base ∧ MapS base w' i (i.cfg.steps.toNat + 1) (.slice B (i.cfg.steps.toNat + 1) d) ∧ Below w.heap.size w w':=by
  have ht:=fun w' (q:Below w.heap.size w w') => train_goodM A c D cd T ct R cr i w' (h.below q) hg
  unfold TrainM at ht
  obtain ⟨s,hs⟩:∃ s,i.cfg.steps.toNat = s:=⟨_,rfl⟩
  rw [hs] at ht ⊢
  have hB:Below w.heap.size w (w.alloc (.cells (inpVals A c D cd T ct R cr i) 29)):=(br w).alloc (Nat.le_refl _) _
  dsimp only [inpVals] at ht hB ⊢
  have Ht:=Lib.hid ht;have HB:=Lib.hid hB
  clear ht hs h hB hg
  go_enter Tryz.func54,Tryz.ntmps54
  go_wp2_with fail
  refine (Ht.out _ HB.out).mono ?_
  rintro e w1 ⟨k1,B,d,base,rfl,-,hb,h1⟩
  have H1:=Lib.hid h1;have K1:=Lib.hid (HB.out.trans (k1.mono HB.out.size));have HB1:=Lib.hid (Nat.le_trans HB.out.size hb)
  clear h1 k1 hb
  go_wp2_with fail
  go_ret
  exact ⟨_,_,_,rfl,HB1.out,H1.out,K1.out⟩
theorem rt_rep:RowTy Tryz.prog 35 5:=⟨⟨_,Tryz.underlying35,rfl⟩,by kernel_rfl⟩
set_option maxRecDepth 100000 in
set_option maxHeartbeats 4000000 in
theorem trun_bad (A:Option Addr) (c:Nat) (D:Option Addr) (cd:Nat) (T:Option Addr) (ct:Nat) (R:Option Addr) (cr:Nat) (i:Inp) (w:World) (h:InpRd w A c D T ct R i) (hbad:inCode i ≠ 0) :
    Calls Tryz.prog 6 #[.agg (inpVals A c D cd T ct R cr i),.int .i64 1] w fun e w' => ∃ vs,e = .returned (.tuple #[.agg vs,.int .i64 (inCode i)]) ∧ RepAt w' i vs ∧ Below w.heap.size w w':=by
  have hin:=fun w' (q:Below w.heap.size w w') => input_any A c D cd T ct R cr i w' (h.below q)
  have hrep:=bad_rep (fun hg => hbad (in_good.2 hg))
  obtain ⟨C,hC⟩:∃ C,inCode i = C:=⟨_,rfl⟩
  rw [hC] at hin hbad ⊢
  obtain ⟨W1,hW1⟩:∃ W1,(w.alloc (.cells (inpVals A c D cd T ct R cr i) 29)).alloc (.cells #[.int .i64 0,.slice none 0 0,.slice none 0 0,.slice none 0 0,.slice none 0 0] 35) = W1:=⟨_,rfl⟩
  have k1:Below w.heap.size w W1:=by rw [← hW1];exact ((br w).alloc (Nat.le_refl _) _).alloc (by simp) _
  have g1:W1.heap[w.heap.size + 1]? = some (.cells #[.int .i64 0,.slice none 0 0,.slice none 0 0,.slice none 0 0,.slice none 0 0] 35 (0,0)):=by
    have:=heap_alloc_new (w.alloc (.cells (inpVals A c D cd T ct R cr i) 29)) (.cells #[.int .i64 0,.slice none 0 0,.slice none 0 0,.slice none 0 0,.slice none 0 0] 35)
    rw [show (w.alloc (.cells (inpVals A c D cd T ct R cr i) 29)).heap.size = w.heap.size + 1 by simp] at this
    rw [← hW1];exact this
  have l1:=lt_of_block g1
  dsimp only [inpVals] at hin hW1 ⊢
  have Hin:=Lib.hid hin;have HC:=Lib.hid hC;have HW:=Lib.hid hW1;have G1:=Lib.hid g1;have K1:=Lib.hid k1;have HR:=Lib.hid hrep
  clear hin hC h hW1 g1 k1 hrep
  go_enter Tryz.func6,Tryz.ntmps6
  go_wp2_with fail
  rw [HW.out]
  refine (Hin.out W1 K1.out).mono ?_
  rintro e w2 ⟨rfl,k2⟩
  have g2:=(k2.block _ l1).trans G1.out
  have G2:=Lib.hid g2;have K2:=Lib.hid (K1.out.trans (k2.mono K1.out.size))
  clear g2 k2 G1 K1 l1
  go_wp2_with (refine wpl_store G2.out rt_rep rfl rfl rfl rfl rfl rfl rfl ?_;intro w9 e9 k9;have E9:=Lib.hid e9;have K9:=Lib.hid (K2.out.trans (k9.toBelow K2.out.size (fun j hj => by omega)));clear e9 k9)
  refine bodyPost_ret (res_cell_tmp rfl rfl E9.out rt_rep) rfl ?_
  obtain ⟨r1,r2,r3,r4,r5⟩:=HR.out
  refine ⟨_,rfl,?_,K9.out⟩
  refine ⟨none,0,none,0,none,0,none,0,by rw [r1,r2];rfl,by rw [r1];exact SlRd.nil _ _ _ _,by rw [r3];exact Rd.nil _ _,by rw [r4];exact Rd.nil _ _,by rw [r5];exact SlRd.nil _ _ _ _⟩
end Go.Proofs.YthamijnggdjaoaaGreatDoor
namespace Go.Proofs.YthamijnggdjaoaaGreatDoor
open Go.RowKit
set_option maxRecDepth 100000 in
set_option maxHeartbeats 4000000 in
theorem trun_good (A:Option Addr) (c:Nat) (D:Option Addr) (cd:Nat) (T:Option Addr) (ct:Nat) (R:Option Addr) (cr:Nat) (i:Inp) (w:World) (h:InpRd w A c D T ct R i) (hg:GoodIn i) :
    Calls Tryz.prog 6 #[.agg (inpVals A c D cd T ct R cr i),.int .i64 1] w fun e w' => ∃ vs,e = .returned (.tuple #[.agg vs,.int .i64 0]) ∧ RepAt w' i vs ∧ Below w.heap.size w w':=by
  have hin:=fun w' (q:Below w.heap.size w w') => input_any A c D cd T ct R cr i w' (h.below q)
  have hal:=fun w' (q:Below w.heap.size w w') => alone_good A c D cd T ct R cr i w' (h.below q) hg
  have hsn:=fun w' (q:Below w.heap.size w w') => snew_codeT A i.cfg.sizes c w' (h.c.hr.below q) h.c.hc h.c.hm
  have hsh:shR i = i.cfg.shift:=by unfold shR;rw [if_pos hg]
  rw [in_good.2 hg] at hin
  have hrl:resL i = trajL i (i.cfg.steps.toNat + 1):=by unfold resL;rw [if_pos hg]
  obtain ⟨s,hs⟩:∃ s,i.cfg.steps.toNat = s:=⟨_,rfl⟩
  rw [hs] at hrl
  simp only [hs] at hal
  obtain ⟨W1,hW1⟩:∃ W1,(w.alloc (.cells (inpVals A c D cd T ct R cr i) 29)).alloc (.cells #[.int .i64 0,.slice none 0 0,.slice none 0 0,.slice none 0 0,.slice none 0 0] 35) = W1:=⟨_,rfl⟩
  have k1:Below w.heap.size w W1:=by rw [← hW1];exact ((br w).alloc (Nat.le_refl _) _).alloc (by simp) _
  have g0:W1.heap[w.heap.size]? = some (.cells (inpVals A c D cd T ct R cr i) 29 (0,0)):=by
    rw [← hW1];exact (Below.heap_alloc (w.alloc (.cells (inpVals A c D cd T ct R cr i) 29)) (.cells #[.int .i64 0,.slice none 0 0,.slice none 0 0,.slice none 0 0,.slice none 0 0] 35) w.heap.size (by simp)).trans (heap_alloc_new w _)
  have g1:W1.heap[w.heap.size + 1]? = some (.cells #[.int .i64 0,.slice none 0 0,.slice none 0 0,.slice none 0 0,.slice none 0 0] 35 (0,0)):=by
    have:=heap_alloc_new (w.alloc (.cells (inpVals A c D cd T ct R cr i) 29)) (.cells #[.int .i64 0,.slice none 0 0,.slice none 0 0,.slice none 0 0,.slice none 0 0] 35)
    rw [show (w.alloc (.cells (inpVals A c D cd T ct R cr i) 29)).heap.size = w.heap.size + 1 by simp] at this
    rw [← hW1];exact this
  have l1:=lt_of_block g1
  dsimp only [inpVals] at hin hal hW1 g0 ⊢
  have Hin:=Lib.hid hin;have Hal:=Lib.hid hal;have Hsn:=Lib.hid hsn;have HW:=Lib.hid hW1;have G0:=Lib.hid g0;have G1:=Lib.hid g1;have K1:=Lib.hid k1;have Hrl:=Lib.hid hrl;have Hs:=Lib.hid hs;have Hsh:=Lib.hid hsh;have HG:=Lib.hid hg;have HI:=Lib.hid h
  clear hin hal hsn hrl hs h hW1 g0 g1 k1 hsh hg
  go_enter Tryz.func6,Tryz.ntmps6
  go_wp2_with fail
  rw [HW.out]
  refine (Hin.out W1 K1.out).mono ?_
  rintro e w2 ⟨rfl,k2⟩
  have K2:=Lib.hid (K1.out.trans (k2.mono K1.out.size))
  have l0:w.heap.size < W1.heap.size:=by omega
  have G02:=Lib.hid ((k2.block _ l0).trans G0.out);have G12:=Lib.hid ((k2.block _ l1).trans G1.out)
  clear k2 HW l0 l1 G0 G1 K1
  go_wp2_with fail
  refine (name_any 1 w2).mono ?_
  rintro e w3 ⟨rfl,k3⟩
  have l0:=lt_of_block G02.out;have l1:=lt_of_block G12.out
  have K3:=Lib.hid (K2.out.trans (k3.mono K2.out.size))
  have G03:=Lib.hid ((k3.block _ l0).trans G02.out);have G13:=Lib.hid ((k3.block _ l1).trans G12.out)
  clear k3 l0 l1 G02 G12 K2
  rw [show nmS 1 = ⟨#[115,101,114,105,97,108]⟩ from rfl]
  go_upto_region 6 with (fail)
  go_cut [7] (fun v wx => ∃ bO B d,v = .pointer (some ⟨bO,0,none⟩) ∧ wx.heap[bO]? = some (.cells #[.int .i64 i.cfg.shift,.slice B (s + 1) d,.slice none 0 0,.slice none 0 0,.slice none 0 0] 35 (0,0)) ∧ w3.heap.size ≤ bO ∧ StM (w.heap.size + 2) i (s + 1) B d bO wx ∧ Below w3.heap.size w3 wx)
  case first =>
    have q0:Below w3.heap.size w3 w3.drew:=(br w3).drew
    have t1:∀ w',Below w3.heap.size w3 w' → w'.cell? ⟨w.heap.size,1,none⟩ = some (.int .i64 i.cfg.shift):=fun w' q => cell_of_row w' w.heap.size 1 _ _ _ (sb G03.out w' q)
    refine HA.g (fun w':World => Below w3.heap.size w3 w') ?_
    refine HA.t ?_ [0,1,2,4] q0 ?_
    refine HA.ld 8 (inpVals A c D cd T ct R cr i) (fun w' q => sb G03.out w' q) rt_inp q0 ?_
    refine HA.two 3 11 ?_ ?_
    · refine HAS.c (ways_any _) ?_
      rintro e w4 ⟨rfl,gw,k4⟩
      have q4:=bt q0 k4
      rw [show (w3.drew.heap.size) = w3.heap.size from World.size_drew _] at gw
      have h7:=cell_of_row w4 w3.heap.size 3 _ _ _ gw
      refine ⟨_,rfl,q4,fun _ => ?_⟩
      refine HA.t ?_ [5,6] q4 ?_
      refine HA.two 7 11 ?_ ?_
      · refine HAS.v w4 (.func (.func 54) #[] #[]) q4 ?_
        clear h7
        refine HA.two 9 11 ?_ ?_
        · refine HAS.c (Hal.out w4 (K3.out.trans (q4.mono K3.out.size))) ?_
          rintro e w6 ⟨B,d,base,rfl,hb,hM,k6⟩
          have q6:=bt q4 k6
          refine ⟨_,rfl,q6,fun _ => ?_⟩
          refine HA.t ?_ [10] q6 ?_
          refine HA.v 11 (w6.alloc (.cells #[.int .i64 0,.slice none 0 0,.slice none 0 0,.slice none 0 0,.slice none 0 0] 35)) (.pointer (some ⟨w6.heap.size,0,none⟩)) (q6.alloc q6.size _) ?_
          refine HA.st 12 (heap_alloc_new w6 _) rt_rep (fun w8 e8 k8 => ?_)
          have b8:=nb2 k8
          have bb:=bt q6 b8
          have s6:=q6.size
          refine ⟨bb,HA.d ?_⟩
          have HF:=Lib.hid (And.intro e8 (And.intro (show w3.heap.size ≤ w6.heap.size from s6) (And.intro (show StM (w.heap.size + 2) i (s + 1) B d _ _ from ⟨_,_,hM,(by have:=lt_of_block G13.out;first | (have:=q5.size;omega) | (have:=q4.size;omega)),(.inr (Nat.le_refl _)),(Keep.below b8)⟩) bb)))
          go_wp2_with fail
          go_meet
          exact ⟨_,B,d,rfl,HF.out⟩
        · refine HAS.v (w4.alloc (.cells #[.int .i64 0,.slice none 0 0,.slice none 0 0,.slice none 0 0,.slice none 0 0] 35)) (.pointer (some ⟨w4.heap.size,0,none⟩)) (q4.alloc q4.size _) ?_
          have gA:=heap_alloc_new w4 (.cells #[.int .i64 0,.slice none 0 0,.slice none 0 0,.slice none 0 0,.slice none 0 0] 35)
          have q5:=q4.alloc q4.size (.cells #[.int .i64 0,.slice none 0 0,.slice none 0 0,.slice none 0 0,.slice none 0 0] 35)
          have sA:(w4.alloc (.cells #[.int .i64 0,.slice none 0 0,.slice none 0 0,.slice none 0 0,.slice none 0 0] 35)).heap.size = w4.heap.size + 1:=World.size_alloc _ _
          obtain ⟨wa,hwa⟩:∃ wa,w4.alloc (.cells #[.int .i64 0,.slice none 0 0,.slice none 0 0,.slice none 0 0,.slice none 0 0] 35) = wa:=⟨_,rfl⟩
          rw [hwa] at gA q5 sA ⊢
          clear hwa
          refine HA.c 9 (Hal.out wa (K3.out.trans (q5.mono K3.out.size))) ?_
          rintro e w6 ⟨B,d,base,rfl,hb,hM,k6⟩
          have q6:=bt q5 k6
          have z6:=k6.size
          refine ⟨_,rfl,q6,fun _ => ?_⟩
          refine HA.t ?_ [10] q6 ?_
          refine HA.st 12 (sb gA _ k6) rt_rep (fun w8 e8 k8 => ?_)
          have s4:=q4.size
          have bb:=q6.trans (k8.toBelow q6.size (fun j hj => by have e:j = w4.heap.size:=hj;omega))
          refine ⟨bb,HA.d ?_⟩
          have HF:=Lib.hid (And.intro e8 (And.intro (show w3.heap.size ≤ w4.heap.size from s4) (And.intro (show StM (w.heap.size + 2) i (s + 1) B d _ _ from ⟨_,_,hM,(by have:=lt_of_block G13.out;first | (have:=q5.size;omega) | (have:=q4.size;omega)),(.inl (by omega)),(k8.mono fun j _ e => .inl e)⟩) bb)))
          go_wp2_with fail
          go_meet
          exact ⟨_,B,d,rfl,HF.out⟩
      · refine HAS.v (w4.alloc (.cells #[.int .i64 0,.slice none 0 0,.slice none 0 0,.slice none 0 0,.slice none 0 0] 35)) (.pointer (some ⟨w4.heap.size,0,none⟩)) (q4.alloc q4.size _) ?_
        have gA:=heap_alloc_new w4 (.cells #[.int .i64 0,.slice none 0 0,.slice none 0 0,.slice none 0 0,.slice none 0 0] 35)
        have q5:=q4.alloc q4.size (.cells #[.int .i64 0,.slice none 0 0,.slice none 0 0,.slice none 0 0,.slice none 0 0] 35)
        have h8:=cell_of_row _ w3.heap.size 3 _ _ _ ((Below.heap_alloc w4 (.cells #[.int .i64 0,.slice none 0 0,.slice none 0 0,.slice none 0 0,.slice none 0 0] 35) _ (lt_of_block gw)).trans gw)
        have sA:(w4.alloc (.cells #[.int .i64 0,.slice none 0 0,.slice none 0 0,.slice none 0 0,.slice none 0 0] 35)).heap.size = w4.heap.size + 1:=World.size_alloc _ _
        obtain ⟨wa,hwa⟩:∃ wa,w4.alloc (.cells #[.int .i64 0,.slice none 0 0,.slice none 0 0,.slice none 0 0,.slice none 0 0] 35) = wa:=⟨_,rfl⟩
        rw [hwa] at gA q5 sA h8 ⊢
        clear hwa h7
        refine HA.v 7 wa (.func (.func 54) #[] #[]) q5 ?_
        clear h8
        refine HA.c 9 (Hal.out wa (K3.out.trans (q5.mono K3.out.size))) ?_
        rintro e w6 ⟨B,d,base,rfl,hb,hM,k6⟩
        have q6:=bt q5 k6
        have z6:=k6.size
        refine ⟨_,rfl,q6,fun _ => ?_⟩
        refine HA.t ?_ [10] q6 ?_
        refine HA.st 12 (sb gA _ k6) rt_rep (fun w8 e8 k8 => ?_)
        have s4:=q4.size
        have bb:=q6.trans (k8.toBelow q6.size (fun j hj => by have e:j = w4.heap.size:=hj;omega))
        refine ⟨bb,HA.d ?_⟩
        have HF:=Lib.hid (And.intro e8 (And.intro (show w3.heap.size ≤ w4.heap.size from s4) (And.intro (show StM (w.heap.size + 2) i (s + 1) B d _ _ from ⟨_,_,hM,(by have:=lt_of_block G13.out;first | (have:=q5.size;omega) | (have:=q4.size;omega)),(.inl (by omega)),(k8.mono fun j _ e => .inl e)⟩) bb)))
        go_wp2_with fail
        go_meet
        exact ⟨_,B,d,rfl,HF.out⟩
    · refine HAS.v (w3.drew.alloc (.cells #[.int .i64 0,.slice none 0 0,.slice none 0 0,.slice none 0 0,.slice none 0 0] 35)) (.pointer (some ⟨w3.heap.size,0,none⟩)) (q0.alloc q0.size _) ?_
      have gA:=heap_alloc_new w3.drew (.cells #[.int .i64 0,.slice none 0 0,.slice none 0 0,.slice none 0 0,.slice none 0 0] 35)
      have q1:=q0.alloc q0.size (.cells #[.int .i64 0,.slice none 0 0,.slice none 0 0,.slice none 0 0,.slice none 0 0] 35)
      have sA:(w3.drew.alloc (.cells #[.int .i64 0,.slice none 0 0,.slice none 0 0,.slice none 0 0,.slice none 0 0] 35)).heap.size = w3.heap.size + 1:=by simp
      rw [World.size_drew] at gA
      obtain ⟨wa,hwa⟩:∃ wa,w3.drew.alloc (.cells #[.int .i64 0,.slice none 0 0,.slice none 0 0,.slice none 0 0,.slice none 0 0] 35) = wa:=⟨_,rfl⟩
      rw [hwa] at gA q1 sA ⊢
      have SA:=Lib.hid sA
      clear hwa sA
      refine HA.c 3 (ways_any _) ?_
      rintro e w4 ⟨rfl,gw,k4⟩
      have q4:=bt q1 k4
      have h7:=cell_of_row w4 wa.heap.size 3 _ _ _ gw
      refine ⟨_,rfl,q4,fun _ => ?_⟩
      refine HA.t ?_ [5,6] q4 ?_
      refine HA.v 7 w4 (.func (.func 54) #[] #[]) q4 ?_
      clear h7
      refine HA.c 9 (Hal.out w4 (K3.out.trans (q4.mono K3.out.size))) ?_
      rintro e w6 ⟨B,d,base,rfl,hb,hM,k6⟩
      have q6:=bt q4 k6
      have z4:=k4.size
      have z6:=k6.size
      have sA:=SA.out
      refine ⟨_,rfl,q6,fun _ => ?_⟩
      refine HA.t ?_ [10] q6 ?_
      refine HA.st 12 (sb (sb gA _ k4) _ k6) rt_rep (fun w8 e8 k8 => ?_)
      have bb:=q6.trans (k8.toBelow q6.size (fun j hj => by have e:j = w3.heap.size:=hj;omega))
      refine ⟨bb,HA.d ?_⟩
      have HF:=Lib.hid (And.intro e8 (And.intro (show w3.heap.size ≤ w3.heap.size from Nat.le_refl _) (And.intro (show StM (w.heap.size + 2) i (s + 1) B d _ _ from ⟨_,_,hM,(by have:=lt_of_block G13.out;first | (have:=q5.size;omega) | (have:=q4.size;omega)),(.inl (by omega)),(k8.mono fun j _ e => .inl e)⟩) bb)))
      go_wp2_with fail
      go_meet
      exact ⟨_,B,d,rfl,HF.out⟩
  case rest =>
  obtain ⟨bO,B,d,rfl,e8,nO,hst,k8⟩:=hcut
  obtain ⟨w8,rfl⟩:∃ w8,w8 = wc:=⟨_,rfl⟩
  have l1:=lt_of_block G13.out;have l0:=lt_of_block G03.out
  have E8:=Lib.hid e8;have Hst:=Lib.hid hst;have K8:=Lib.hid (K3.out.trans (k8.mono K3.out.size));have G08:=Lib.hid (sb G03.out _ k8);have G18:=Lib.hid (sb G13.out _ k8)
  clear e8 hst k8 G03 G13 K3
  have t0:=cell_of_row w8 w.heap.size 0 _ _ _ G08.out
  go_wp2_with fail
  clear t0
  refine (Hsn.out w8 K8.out).mono ?_
  rintro e w9 ⟨k9,h9⟩
  rcases h9 with ⟨-,S,rfl,hS,hz⟩ | ⟨hbad,-⟩
  case inr => exact absurd HG.out.c.z hbad
  have l1:=lt_of_block G18.out;have l0:=lt_of_block G08.out
  have lO:=lt_of_block E8.out
  have E9:=Lib.hid (sb E8.out _ k9);have K9:=Lib.hid (K8.out.trans (k9.mono K8.out.size));have G09:=Lib.hid (sb G08.out _ k9);have G19:=Lib.hid (sb G18.out _ k9)
  have HSa:Hid (∀ v,Agr w8.heap.size w9 v → ShapeAt 123 v S i.cfg.sizes):=Lib.hid fun v hv => top_shape hS hv
  have Hst9:=Lib.hid (Hst.out.next (Keep.below k9))
  clear k9 hS hz Hst E8 K8 G08 G18 l0 l1
  have b9:w.heap.size + 1 < bO:=by omega
  have O9:bO < w9.heap.size:=lt_of_block E9.out
  have E9a:=bx5 E9.out
  obtain ⟨⟨e0,e1,e2,e3,e4⟩,ef⟩:=E9a
  go_wp2_with fail
  clear e0 e1 e2 e3 e4 ef
  go_loopw [50] (fun y wr => ∃ k:Nat,k ≤ s + 1 ∧ y = .int .i64 k ∧ TI bO w9.heap.size i.cfg.shift B (s + 1) d k ((trajL i k).map fun x => lossAcc i x.1 i.data) ((trajL i k).map fun x => hashF 1 x.1) ((trajL i k).map fun x => markL x.1) w9 wr) (fun y _ => s + 1 - (intOf y).toNat)
  case atStart => exact ⟨0,Nat.zero_le _,rfl,none,0,none,0,none,0,[],E9.out,World.ownsRow_nil _ _ _ _,World.ownsRow_nil _ _ _ _,World.ownsRow_nil _ _ _ _,CR.nil,Keep.refl _ _⟩
  case round =>
    obtain ⟨k,hk,rfl,L,dl,H,dh,M,dm,vs,gb,o1,o2,o3,hcr,kp⟩:=hrel
    have zr:=kp.size
    have hsB:s ≤ 1048576:=by have:=HG.out.c.st;have:=Hs.out;omega
    have hdB:i.data.length ≤ 1048576:=HI.out.dl
    have QW:=Lib.hid (K9.out.trans (kp.toBelow K9.out.size (fun j hj => by rcases hj with hj | hj <;> omega)))
    by_cases hlt:k < s + 1
    · have hlti:(k:Int) < ((s + 1:Nat):Int):=by omega
      obtain ⟨bB,oB,A1,c1,A2,c2,rfl,hst⟩:=Hst9.out.at hlt
      obtain ⟨hbB,p1,p2,r1,r2⟩:=hst wr kp
      have hcb:cnt i ≤ 1048576:=HG.out.c.z.bound (k:=i.cfg.sizes.length - 1) (by have:=HG.out.c.z.1.1;omega)
      have hln:=(traj_len i HG.out.s k).1
      have hln2:=(traj_len i HG.out.s k).2
      have hnn:=fun w' (q:Below wr.heap.size wr w') => nnew_any S i.cfg.sizes (traj i k).1 A1 c1 i.cfg.shift w' (HSa.out w' (fun j h1 h2 => (q.block j (by omega)).trans (kp.block j h2 (by omega)))) HG.out.c.z (r1.hr.below q)
      have hha:=fun w' (q:Keep (fun j => j = bO ∨ w9.heap.size ≤ j) w9 w') => hash_any A1 (traj i k).1 c1 w' (hst w' q).2.2.2.1.hr (by omega)
      have hma:=fun w' (q:Keep (fun j => j = bO ∨ w9.heap.size ≤ j) w9 w') => mark_any A1 (traj i k).1 c1 w' (hst w' q).2.2.2.1.hr (by omega)
      have hmb:=markL_bd (l:=(traj i k).1) (by omega)
      have hlo:=fun b w' (hN:NetAt 123 130 w' b i.cfg.sizes (traj i k).1 i.cfg.shift) X1 Y1 (x:Ex) d1 d2 (hx:x ∈ i.data) (n1:NumsRd w' X1 x.1 d1) (n2:NumsRd w' Y1 x.2 d2) => loss_ok b i.cfg.sizes (traj i k).1 i.cfg.shift X1 Y1 x.1 x.2 d1 d2 w' hN HG.out.c.z r1.hw n1.hr (HG.out.f x hx).1 n1.hw n2.hr (HG.out.f x hx).2
      have hri:RightN i.cfg.sizes (traj i k).1 i.cfg.shift:=⟨HG.out.c.z,by have:=HG.out.c.s;omega,by have:=HG.out.c.s;omega,by rw [hln];rfl⟩
      have hsn:=trajL_snoc i k
      obtain ⟨x,hxx⟩:∃ x,traj i k = x:=⟨_,rfl⟩
      rw [hxx] at p1 p2 r1 r2 hln hln2 hnn hha hma hmb hlo hri hsn
      obtain ⟨n1,hn1⟩:∃ n1,x.1.length = n1:=⟨_,rfl⟩
      obtain ⟨n2,hn2⟩:∃ n2,x.2.length = n2:=⟨_,rfl⟩
      rw [hn1] at p1 hnn hha hma
      rw [hn2] at p2
      have GI:=Lib.hid ((kp.block w.heap.size (lt_of_block G09.out) (by omega)).trans G09.out)
      have GB:=Lib.hid gb;have O1:=Lib.hid o1;have O2:=Lib.hid o2;have O3:=Lib.hid o3;have HCR:=Lib.hid hcr;have KP:=Lib.hid kp
      have Hnn:=Lib.hid hnn;have Hha:=Lib.hid hha;have Hma:=Lib.hid hma;have Hmb:=Lib.hid hmb;have Hlo:=Lib.hid hlo;have Hri:=Lib.hid hri;have Hsn':=Lib.hid hsn
      have g00:=cell_of_row wr bO 0 _ _ _ gb
      have lbw:bO < wr.heap.size:=lt_of_block gb
      clear gb o1 o2 o3 hcr kp hnn hha hma hmb hlo hri hsn hln hln2 hn1 hn2 hxx r1 r2 hst
      go_wp2_with fail
      refine (Hnn.out _ ((br wr).alloc (Nat.le_refl _) _)).mono ?_
      rintro e w5 ⟨k5,⟨-,b5,rfl,hN5,-⟩ | ⟨hno,-⟩⟩
      case inr => exact absurd Hri.out hno
      clear g00 p1 p2
      have x5:=(k5.block wr.heap.size (by simp)).trans (heap_alloc_new wr (.cells #[.slice A1 n1 c1,.slice A2 n2 c2] 67))
      have B5:=((br wr).alloc (Nat.le_refl _) (.cells #[.slice A1 n1 c1,.slice A2 n2 c2] 67)).trans (k5.mono (by simp))
      have X5:=Lib.hid x5;have HB5:=Lib.hid B5;have HN5:=Lib.hid hN5
      have g12:=cell_of_row w5 w.heap.size 12 _ _ _ (sb GI.out _ B5)
      clear x5 B5 hN5 k5
      go_wp2_with fail
      clear g12
      obtain ⟨wq,rfl⟩:∃ wq:World,wq = wr:=⟨_,rfl⟩
      go_loopw [66,14] (fun y z wi => ∃ j:Nat,j ≤ i.data.length ∧ y = .int .i64 j ∧ z = .int .i64 (lossAcc i x.1 (i.data.take j)) ∧ Below w5.heap.size w5 wi) (fun y _ _ => i.data.length - (intOf y).toNat)
      case atStart => exact ⟨0,Nat.zero_le _,rfl,rfl,br w5⟩
      case round =>
        obtain ⟨j,hj,rfl,rfl,q⟩:=hrel
        by_cases hjl:j < i.data.length
        · have hji:(j:Int) < ((i.data.length:Nat):Int):=by omega
          obtain ⟨ex,hex⟩:∃ ex,i.data[j]? = some ex:=⟨_,List.getElem?_eq_getElem hjl⟩
          have QI:=QW.out.trans ((HB5.out.trans (q.mono HB5.out.size)).mono QW.out.size)
          obtain ⟨bD,oD,X1,d1,X2,d2,rfl,hbD,c1,c2,n1,n2⟩:=ex_cells (HI.out.below QI).d hex
          have hls:=fun w' (q':Below wr.heap.size wr w') => Hlo.out b5 w' (HN5.out.below (q.trans (q'.mono q.size))) X1 X2 ex d1 d2 (List.mem_of_getElem? hex) (n1.below q') (n2.below q')
          have hac:=lossAcc_take i x.1 hex
          obtain ⟨la,hla⟩:∃ la,lossAcc i x.1 (i.data.take j) = la:=⟨_,rfl⟩
          obtain ⟨ln,hln⟩:∃ ln,lossN i.cfg.sizes x.1 i.cfg.shift ex.1 ex.2 = ln:=⟨_,rfl⟩
          rw [hln] at hls
          rw [hla,hln] at hac
          obtain ⟨m1,hm1⟩:∃ m1,ex.1.length = m1:=⟨_,rfl⟩
          obtain ⟨m2,hm2⟩:∃ m2,ex.2.length = m2:=⟨_,rfl⟩
          rw [hm1] at c1 hls
          rw [hm2] at c2 hls
          rw [hla]
          have Hls:=Lib.hid hls;have Hac:=Lib.hid hac;have Q:=Lib.hid q;have HJL:=Lib.hid hjl
          clear hls hac q hex hla hln hm1 hm2 n1 n2 QI
          go_wp2_with fail
          refine (Hls.out _ ((br wr).alloc (Nat.le_refl _) _)).mono ?_
          rintro e w6 ⟨rfl,k6⟩
          clear c1 c2
          have B6:=((br wr).alloc (Nat.le_refl _) (.cells #[.slice X1 m1 d1,.slice X2 m2 d2] 72)).trans (k6.mono (by simp))
          have Q6:=Lib.hid (Q.out.trans (B6.mono Q.out.size))
          clear B6 k6
          go_wp2_with fail
          refine (fsum_any (some ⟨w6.heap.size,0,none⟩) 2 2 [la,ln] _ (rd_whole (heap_alloc_new w6 (.cells #[.int .i64 la,.int .i64 ln] 2))) rfl (by decide) (fun a ha => by cases ha;simp)).mono ?_
          rintro e w7 ⟨rfl,k7⟩
          rw [Hac.out]
          have B7:=((br w6).alloc (Nat.le_refl _) (.cells #[.int .i64 la,.int .i64 ln] 2)).trans (k7.mono (by simp))
          have Q7:=Lib.hid (Q6.out.trans (B7.mono Q6.out.size))
          clear B7 k7
          go_wp2_with fail
          go_roundw
          case rel => exact ⟨j + 1,HJL.out,by have:=HJL.out;go_num,rfl,Q7.out⟩
          case measure => have:=HJL.out;simp [intOf];omega
        · obtain rfl:j = i.data.length:=by omega
          rw [List.take_length]
          have BQ:=HB5.out.trans (q.mono HB5.out.size)
          have sq:=HB5.out.size
          have hn2:∀ j,(Value.slice L k dl).ownBlock = some j → ¬ j = bO:=fun j hj e => block_notrow GB.out (by decide) O1.out (by rw [hj,e])
          have OL:=own_below O1.out BQ
          have OH:=own_below O2.out BQ
          have OM:=own_below O3.out BQ
          have gO:=(BQ.block bO (lt_of_block GB.out)).trans GB.out
          have c2:=cell_of_row wr bO 2 _ _ _ gO
          have lO:bO < wr.heap.size:=lt_of_block gO
          have sz:w9.heap.size ≤ wr.heap.size:=Nat.le_trans KP.out.size BQ.size
          have hxs:=(BQ.block wq.heap.size)
          have x5:=(q.block wq.heap.size (lt_of_block X5.out)).trans X5.out
          obtain ⟨z,hz⟩:∃ z,lossAcc i x.1 i.data = z:=⟨_,rfl⟩
          rw [hz]
          have HZ:=Lib.hid hz;have HBQ:=Lib.hid BQ;have HL:=Lib.hid OL;have HH:=Lib.hid OH;have HM:=Lib.hid OM;have HO:=Lib.hid gO;have HX:=Lib.hid x5;have HN2:=Lib.hid hn2;have SZ:=Lib.hid sz
          clear hz BQ OL OH OM gO hxs q x5 hn2 sq sz
          go_wp2_with (at_builtin;go_loud (refine wpList_push et_ri64s _ rfl (.tmp 85) (.tmp 87) rfl w9.heap.size (.slice L k dl) k _ rfl HL.out [.int .i64 z] rfl rfl (nums_cell .i64 [_]) (by omega) (by unfold maxLen;omega) SZ.out ?_))
          intro L' dl' w8 oL8 b8 g8
          have kG:Keep (fun j => (Value.slice L k dl).ownBlock = some j) wr w8:=(Keep.refl _ wr).grown g8 fun j hj => .inr hj
          have gO8:=(kG.block bO lO (fun e => HN2.out _ e rfl)).trans HO.out
          have x8:=(kG.block wq.heap.size (lt_of_block HX.out) (fun e => block_notrow HX.out (by decide) HL.out e.symm)).trans HX.out
          have oH8:=kG.own HH.out fun j hj e => own_apt HL.out HH.out (by decide) j e hj
          have oM8:=kG.own HM.out fun j hj e => own_apt HL.out HM.out (by decide) j e hj
          obtain ⟨⟨y0,y1,y2,y3,y4⟩,yf⟩:=bx5 gO8
          have e9:=heap_setCell_same w8 bO 2 _ _ (.slice (some ⟨L',0,none⟩) (k + 1) dl') gO8
          have kS:Keep (fun j => j = bO) w8 (w8.setCell ⟨bO,2,none⟩ (.slice (some ⟨L',0,none⟩) (k + 1) dl')):=Keep.setCell (S:=fun j => j = bO) (Keep.refl _ _) ⟨bO,2,none⟩ (.inr rfl) _
          have oL9:=kS.own oL8 fun j hj e => block_notrow gO8 (by decide) oL8 (by rw [hj,e])
          have oH9:=kS.own oH8 fun j hj e => block_notrow gO8 (by decide) oH8 (by rw [hj,e])
          have oM9:=kS.own oM8 fun j hj e => block_notrow gO8 (by decide) oM8 (by rw [hj,e])
          have x9:=(kS.block wq.heap.size (lt_of_block x8) (fun e => by have:=KP.out.size;omega)).trans x8
          have kA:Keep (fun j => j = bO ∨ w9.heap.size ≤ j) w9 (w8.setCell ⟨bO,2,none⟩ (.slice (some ⟨L',0,none⟩) (k + 1) dl')):=((KP.out.trans (Keep.below HBQ.out)).trans (kG.mono fun j _ e => .inr (HL.out.lt j e).1)).trans (kS.mono fun j _ e => .inl e)
          have E9':=Lib.hid e9;have OL9:=Lib.hid oL9;have OH9:=Lib.hid oH9;have OM9:=Lib.hid oM9;have X9:=Lib.hid x9;have KA:=Lib.hid kA
          clear kG gO8 x8 oH8 oM8 e9 kS oL9 oH9 oM9 x9 kA oL8 b8 g8 c2
          go_wp2_with fail
          obtain ⟨wA,hwA⟩:∃ wA,w8.setCell ⟨bO,2,none⟩ (.slice (some ⟨L',0,none⟩) (k + 1) dl') = wA:=⟨_,rfl⟩
          rw [hwA] at E9' OL9 OH9 OM9 X9 KA ⊢
          clear hwA y0 y1 y2 y3 y4 yf
          have zA:=KA.out.size
          have lA:bO < wA.heap.size:=lt_of_block E9'.out
          have q0:Keep (fun j => (Value.slice H k dh).ownBlock = some j ∨ wA.heap.size ≤ j) wA wA.drew:=(Keep.refl _ _).drew
          have tH:∀ w',Keep (fun j => (Value.slice H k dh).ownBlock = some j ∨ wA.heap.size ≤ j) wA w' → w'.cell? ⟨bO,3,none⟩ = some (.slice H k dh):=fun w' q => cell_of_row w' bO 3 _ _ _ ((q.block bO lA (fun e => by rcases e with e | e;exact block_notrow E9'.out (by decide) OH9.out e.symm;omega)).trans E9'.out)
          have tX:∀ w',Keep (fun j => (Value.slice H k dh).ownBlock = some j ∨ wA.heap.size ≤ j) wA w' → w'.cell? ⟨wq.heap.size,0,none⟩ = some (.slice A1 n1 c1):=fun w' q => cell_of_row w' wq.heap.size 0 _ _ _ ((q.block _ (lt_of_block X9.out) (fun e => by rcases e with e | e;exact block_notrow X9.out (by decide) OH9.out e.symm;have:=lt_of_block X9.out;omega)).trans X9.out)
          have up:∀ w',Keep (fun j => (Value.slice H k dh).ownBlock = some j ∨ wA.heap.size ≤ j) wA w' → Keep (fun j => j = bO ∨ w9.heap.size ≤ j) w9 w':=fun w' q => KA.out.trans (q.mono fun j _ e => .inr (by rcases e with e | e;exact (OH9.out.lt j e).1;omega))
          refine XA.g 8 (fun w':World => Keep (fun j => (Value.slice H k dh).ownBlock = some j ∨ wA.heap.size ≤ j) wA w') ?_
          refine XA.t ?_ [0,1,2,3] q0 ?_
          refine XA.c 4 (Hha.out wA.drew (up _ q0)) ?_
          rintro e wB ⟨rfl,rfl⟩
          obtain ⟨hv,hhv⟩:∃ hv,hashF 1 x.1 = hv:=⟨_,rfl⟩
          rw [hhv]
          refine ⟨_,rfl,q0,fun _ => ?_⟩
          have SA:wA.drew.heap.size = wA.heap.size:=World.size_drew _
          have hgA:=heap_alloc_new wA.drew (.cells #[.int .u64 hv] 76)
          rw [SA] at hgA
          have qa:=q0.alloc (.cells #[.int .u64 hv] 76)
          refine XA.va 5 (wA.drew.alloc (.cells #[.int .u64 hv] 76)) (.slice (some ⟨wA.heap.size,0,none⟩) 1 1) qa ?_
          refine XA.o 6 (fun K' hK => ?_)
          refine step_appX et_u64s (.tmp 91) (.tmp 95) rfl rfl w9.heap.size (.slice H k dh) k _ rfl (OH9.out.drew.alloc _) (some ⟨wA.heap.size,0,none⟩) 1 1 [.int .u64 hv] rfl (rd_whole hgA) rfl (nums_cell .u64 [_]) (by omega) (by unfold maxLen;omega) (by simp;omega) ?_
          intro H' dh' wC oC bC gC _
          have qC:=qa.grown gC fun j hj => .inr (.inl hj)
          refine hK.out _ _ qC fun _ => ?_
          refine XA.t ?_ [7] qC ?_
          refine XA.e ?_
          simp only [List.drop_succ_cons,List.drop_zero]
          have gC':=(qC.block bO lA (fun e => by rcases e with e | e;exact block_notrow E9'.out (by decide) OH9.out e.symm;omega)).trans E9'.out
          have xC:=(qC.block _ (lt_of_block X9.out) (fun e => by rcases e with e | e;exact block_notrow X9.out (by decide) OH9.out e.symm;have:=lt_of_block X9.out;omega)).trans X9.out
          have oLC:=qC.own OL9.out fun j hj e => by rcases e with e | e;exact own_apt OL9.out OH9.out (by decide) j hj e;have:=(OL9.out.lt j hj).2;omega
          have oMC:=qC.own OM9.out fun j hj e => by rcases e with e | e;exact own_apt OM9.out OH9.out (by decide) j hj e;have:=(OM9.out.lt j hj).2;omega
          obtain ⟨⟨y0,y1,y2,y3,y4⟩,yf⟩:=bx5 gC'
          have e10:=heap_setCell_same wC bO 3 _ _ (.slice H' (k + 1) dh') gC'
          have kS:Keep (fun j => j = bO) wC (wC.setCell ⟨bO,3,none⟩ (.slice H' (k + 1) dh')):=Keep.setCell (S:=fun j => j = bO) (Keep.refl _ _) ⟨bO,3,none⟩ (.inr rfl) _
          have oLD:=kS.own oLC fun j hj e => block_notrow gC' (by decide) oLC (by rw [hj,e])
          have oMD:=kS.own oMC fun j hj e => block_notrow gC' (by decide) oMC (by rw [hj,e])
          have oHD:=kS.own oC fun j hj e => block_notrow gC' (by decide) oC (by rw [hj,e])
          have xD:=(kS.block wq.heap.size (lt_of_block xC) (fun e => by have:=KP.out.size;omega)).trans xC
          have kD:=(up _ qC).trans (kS.mono fun j _ e => .inl e)
          have ED:=Lib.hid e10;have OLD:=Lib.hid oLD;have OMD:=Lib.hid oMD;have OHD:=Lib.hid oHD;have XD:=Lib.hid xD;have KD:=Lib.hid kD;have HHv:=Lib.hid hhv
          clear gC' xC oLC oMC e10 kS oLD oMD oHD xD kD hhv tH tX up q0 qa qC oC bC gC hgA SA hK K' zA lA E9' OL9 OH9 OM9 X9 KA
          go_wp2_with fail
          obtain ⟨wD,hwD⟩:∃ wD,wC.setCell ⟨bO,3,none⟩ (.slice H' (k + 1) dh') = wD:=⟨_,rfl⟩
          rw [hwD] at ED OLD OMD OHD XD KD ⊢
          clear hwD y0 y1 y2 y3 y4 yf
          have zD:=KD.out.size
          have lD:bO < wD.heap.size:=lt_of_block ED.out
          have q0:Keep (fun j => (Value.slice M k dm).ownBlock = some j ∨ wD.heap.size ≤ j) wD wD.drew:=(Keep.refl _ _).drew
          have tH:∀ w',Keep (fun j => (Value.slice M k dm).ownBlock = some j ∨ wD.heap.size ≤ j) wD w' → w'.cell? ⟨bO,4,none⟩ = some (.slice M k dm):=fun w' q => cell_of_row w' bO 4 _ _ _ ((q.block bO lD (fun e => by rcases e with e | e;exact block_notrow ED.out (by decide) OMD.out e.symm;omega)).trans ED.out)
          have tX:∀ w',Keep (fun j => (Value.slice M k dm).ownBlock = some j ∨ wD.heap.size ≤ j) wD w' → w'.cell? ⟨wq.heap.size,0,none⟩ = some (.slice A1 n1 c1):=fun w' q => cell_of_row w' wq.heap.size 0 _ _ _ ((q.block _ (lt_of_block XD.out) (fun e => by rcases e with e | e;exact block_notrow XD.out (by decide) OMD.out e.symm;have:=lt_of_block XD.out;omega)).trans XD.out)
          have up:∀ w',Keep (fun j => (Value.slice M k dm).ownBlock = some j ∨ wD.heap.size ≤ j) wD w' → Keep (fun j => j = bO ∨ w9.heap.size ≤ j) w9 w':=fun w' q => KD.out.trans (q.mono fun j _ e => .inr (by rcases e with e | e;exact (OMD.out.lt j e).1;omega))
          refine XA.g 8 (fun w':World => Keep (fun j => (Value.slice M k dm).ownBlock = some j ∨ wD.heap.size ≤ j) wD w') ?_
          refine XA.t ?_ [0,1,2,3] q0 ?_
          refine XA.c 4 (Hma.out wD.drew (up _ q0)) ?_
          rintro e wE ⟨⟨mv,rfl,hmv⟩,kE⟩
          obtain ⟨ca,cb,rfl,hc1,hc2⟩:=hmv
          have qE:Keep (fun j => (Value.slice M k dm).ownBlock = some j ∨ wD.heap.size ≤ j) wD wE:=q0.trans (Keep.below kE)
          refine ⟨_,rfl,qE,fun _ => ?_⟩
          have hgA:=heap_alloc_new wE (.cells #[.complex .f64 ca cb] 78)
          have qa:=qE.alloc (.cells #[.complex .f64 ca cb] 78)
          have zE:=qE.size
          have oME:=qE
          refine XA.va 5 (wE.alloc (.cells #[.complex .f64 ca cb] 78)) (.slice (some ⟨wE.heap.size,0,none⟩) 1 1) qa ?_
          refine XA.o 6 (fun K' hK => ?_)
          refine step_appX et_c128 (.tmp 99) (.tmp 103) rfl rfl w9.heap.size (.slice M k dm) k _ rfl ((own_below OMD.out.drew kE).alloc _) (some ⟨wE.heap.size,0,none⟩) 1 1 [.complex .f64 ca cb] rfl (rd_whole hgA) rfl (by simp [Value.oneCell']) (by omega) (by unfold maxLen;omega) (by simp;omega) ?_
          intro M' dm' wF oF bF gF _
          have qF:=qa.grown gF fun j hj => .inr (.inl hj)
          refine hK.out _ _ qF fun _ => ?_
          refine XA.t ?_ [7] qF ?_
          refine XA.e ?_
          simp only [List.drop_succ_cons,List.drop_zero]
          have gC':=(qF.block bO lD (fun e => by rcases e with e | e;exact block_notrow ED.out (by decide) OMD.out e.symm;omega)).trans ED.out
          have oLC:=qF.own OLD.out fun j hj e => by rcases e with e | e;exact own_apt OLD.out OMD.out (by decide) j hj e;have:=(OLD.out.lt j hj).2;omega
          have oHC:=qF.own OHD.out fun j hj e => by rcases e with e | e;exact own_apt OHD.out OMD.out (by decide) j hj e;have:=(OHD.out.lt j hj).2;omega
          obtain ⟨⟨y0,y1,y2,y3,y4⟩,yf⟩:=bx5 gC'
          have e10:=heap_setCell_same wF bO 4 _ _ (.slice M' (k + 1) dm') gC'
          have kS:Keep (fun j => j = bO) wF (wF.setCell ⟨bO,4,none⟩ (.slice M' (k + 1) dm')):=Keep.setCell (S:=fun j => j = bO) (Keep.refl _ _) ⟨bO,4,none⟩ (.inr rfl) _
          have oLG:=kS.own oLC fun j hj e => block_notrow gC' (by decide) oLC (by rw [hj,e])
          have oHG:=kS.own oHC fun j hj e => block_notrow gC' (by decide) oHC (by rw [hj,e])
          have oMG:=kS.own oF fun j hj e => block_notrow gC' (by decide) oF (by rw [hj,e])
          have kG:=(up _ qF).trans (kS.mono fun j _ e => .inl e)
          have hcr:=HCR.out.snoc (v:=.complex .f64 ca cb) ⟨ca,cb,rfl,hc1,hc2⟩ Hmb.out.1 Hmb.out.2
          have ED':=Lib.hid e10;have OLG:=Lib.hid oLG;have OHG:=Lib.hid oHG;have OMG:=Lib.hid oMG;have KG:=Lib.hid kG;have HC2:=Lib.hid hcr
          clear gC' oLC oHC e10 kS oLG oHG oMG kG hcr tH tX up q0 qa qE oF bF gF hgA hK K' zD lD OLD OMD OHD XD KD qF hc1 hc2 kE zE oME
          go_wp2_with fail
          go_roundw
          case rel => exact ⟨k + 1,by omega,by go_num,_,_,_,_,_,_,_,ED'.out,by rw [Hsn'.out,List.map_append];simpa [nums,HZ.out] using OLG.out,by rw [Hsn'.out,List.map_append];simpa [nums,HHv.out] using OHG.out,OMG.out,by rw [Hsn'.out,List.map_append];exact HC2.out,KG.out⟩
          case measure => simp [intOf];omega
    · obtain rfl:k = s + 1:=by omega
      have g19:=(kp.block (w.heap.size + 1) (lt_of_block G19.out) (fun e => by have:=lt_of_block G19.out;omega)).trans G19.out
      have hst:=Hst9.out.next kp
      have GB:=Lib.hid gb;have GR:=Lib.hid g19;have O1:=Lib.hid o1;have O2:=Lib.hid o2;have O3:=Lib.hid o3;have HCR:=Lib.hid hcr;have HST:=Lib.hid hst
      have lO:=lt_of_block gb;have lR:=lt_of_block g19
      clear gb g19 o1 o2 o3 hcr hst kp
      go_wp2_with (first | refine wpl_load #[.int .i64 i.cfg.shift,.slice B (s + 1) d,.slice L (s + 1) dl,.slice H (s + 1) dh,.slice M (s + 1) dm] GB.out rt_rep rfl rfl rfl rfl ?_ | (refine wpl_store GR.out rt_rep rfl rfl rfl rfl rfl rfl rfl ?_;intro wZ eZ kZ;have EZ:=Lib.hid eZ;have KZ:=Lib.hid kZ;clear eZ kZ))
      refine bodyPost_ret (res_cell_tmp rfl rfl EZ.out rt_rep) rfl ?_
      have hB:Below w.heap.size w wZ:=QW.out.trans (KZ.out.toBelow QW.out.size (fun j hj => by omega))
      have hw9:w9.heap.size ≤ wr.heap.size:=by omega
      have nb:∀ j,w9.heap.size ≤ j → ¬ j = w.heap.size + 1:=fun j hj => by have:=lt_of_block G19.out;omega
      have hl:=Hrl.out
      have hlen:(resL i).length = s + 1:=by rw [hl,trajL_len]
      refine ⟨_,rfl,⟨B,d,L,dl,H,dh,M,dm,by rw [hlen,Hsh.out],?_,?_,?_,?_⟩,hB⟩
      · obtain ⟨b0,hm,hb0⟩:=HST.out.map
        rw [hl]
        exact (hm.keep2 KZ.out fun j h1 h2 e => by omega).rd
      · unfold lsL
        rw [hl]
        exact Rd.own (KZ.out.own O1.out fun j hj e => nb j (O1.out.lt j hj).1 e)
      · unfold hsL
        rw [hl]
        exact Rd.own (KZ.out.own O2.out fun j hj e => nb j (O2.out.lt j hj).1 e)
      · unfold mkL
        rw [hl]
        exact HCR.out.sl (KZ.out.own O3.out fun j hj e => nb j (O3.out.lt j hj).1 e)
end Go.Proofs.YthamijnggdjaoaaGreatDoor
