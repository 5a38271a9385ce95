/- Rows of numbers that are read. 'make' as an equation of the walk. What a configuration is, and its code, in plain numbers. The walks of package data: Pick, Check. Blocks and epochs, in plain numbers. The walks of package shape: the functions that New hands on. The walk of shape.New. The walks of part.Count and Blocks. Permutations that draws make, in plain lists. The walks of draw.Many, perm.identity, Shuffle. The walk of sampler.New's closure: one epoch's order. The walk of sampler.New. What an input is, and its code. No condition. -/
import Derived.Test.YthamijnggdjaoaaGreatDoorT03
import Derived.Test.YthamijnggdjaoaaGreatDoorProg
import Derived.Test.YthamijnggdjaoaaGreatDoorT01
import Derived.BigQuiet
import Derived.Deep.QuietTactic
import Derived.Test.YthamijnggdjaoaaGreatDoorT02
import Derived.RegionTactic
import Derived.BigRegion
import Derived.Deep.DeepCutAuto
set_option linter.unusedSimpArgs false
set_option linter.unusedVariables false
namespace Go.Proofs.YthamijnggdjaoaaGreatDoor
open Go.RowKit
def rVec:Reader (List Int):=fun w cs zs => ∃ A c,cs = [.slice A zs.length c] ∧ zs.length ≤ c ∧ zs.length ≤ 17592186043904 ∧ Rd w A (nums .i64 zs)
theorem rVec_cell {w:World} {V:Option Addr} {ls:List (List Int)} (h:SlRd rVec 1 w V ls) {k:Nat} {x:List Int} (hx:ls[k]? = some x) :
    ∃ b o A c,V = some ⟨b,o,none⟩ ∧ b < w.heap.size ∧ w.cell? ⟨b,o + k,none⟩ = some (.slice A x.length c) ∧ Rd w A (nums .i64 x) ∧ x.length ≤ 17592186043904 ∧ x.length ≤ c:=by
  obtain ⟨b,o,cs,rfl,hb,hcl,hR,h0,_⟩:=h.get (by decide) hx
  obtain ⟨A,c,rfl,h2,h3,h4⟩:=hR
  exact ⟨b,o,A,c,rfl,hb,by rw [Nat.mul_one] at h0;exact h0,h4,h3,h2⟩
def rVec0:Reader (List Int):=fun w cs zs => ∃ A c,cs = [.slice A zs.length c] ∧ zs.length ≤ 17592186043904 ∧ Rd w A (nums .i64 zs)
theorem stays_vec0:Stays rVec0:=fun hb ⟨A,c,h1,h3,h4⟩ => ⟨A,c,h1,h3,h4.below hb⟩
theorem rVec0_cell {w:World} {V:Option Addr} {ls:List (List Int)} (h:SlRd rVec0 1 w V ls) {k:Nat} {x:List Int} (hx:ls[k]? = some x) :
    ∃ b o A c,V = some ⟨b,o,none⟩ ∧ b < w.heap.size ∧ w.cell? ⟨b,o + k,none⟩ = some (.slice A x.length c) ∧ Rd w A (nums .i64 x) ∧ x.length ≤ 17592186043904:=by
  obtain ⟨b,o,cs,rfl,hb,hcl,hR,h0,_⟩:=h.get (by decide) hx
  obtain ⟨A,c,rfl,h3,h4⟩:=hR
  exact ⟨b,o,A,c,rfl,hb,by rw [Nat.mul_one] at h0;exact h0,h4,h3⟩
theorem flat_ones:∀ vals:List Value,List.flatten (vals.map fun v => [v]) = vals
  | [] => rfl
  | v :: l => by simp [flat_ones l]
theorem slrd_one {α:Type} {R:Reader α} {w:World} {A:Option Addr} {vals:List Value} {l:List α} (hA:Rd w A vals) (hl:vals.length = l.length) (h:∀ (j:Nat) (x:α),l[j]? = some x → ∃ v,vals[j]? = some v ∧ R w [v] x):SlRd R 1 w A l:=by
  refine ⟨vals.map fun v => [v],by rw [flat_ones];exact hA,by simp [hl],by simp,fun j x hx => ?_⟩
  obtain ⟨v,hv,hR⟩:=h j x hx
  have:rowOf (vals.map fun v => [v]) j = [v]:=by simp [rowOf,List.getD,hv]
  rw [this];exact hR
theorem keep_rd {S:Nat → Prop} {w0 w w':World} (h:Keep S w w') {A:Option Addr} {xs:List Value} (h0:Rd w0 A xs) (hr:Rd w A xs) (hS:∀ k,S k → w0.heap.size ≤ k):Rd w' A xs:=fun k u hu => by
  obtain ⟨b,o,rfl,c0⟩:=h0 k u hu
  obtain ⟨b1,o1,e1,c1⟩:=hr k u hu
  injection e1 with e1;injection e1 with i1 i2 _;subst i1;subst i2
  exact ⟨b,o,rfl,h.cell c1 fun hs => by have h1:=hS _ hs;have h2:=lt_of_cell c0;dsimp only at h1 h2;omega⟩
theorem store2 (W:World) (b:Nat) {a0 a1:Value} (x y:Value) {t:TypeId} (h:W.heap[b]? = some (.cells #[a0,a1] t (0,0))) :
    ((W.setCell ⟨b,0,none⟩ x).setCell ⟨b,1,none⟩ y).heap[b]? = some (.cells #[x,y] t (0,0)) ∧ Keep (fun j => j = b) W ((W.setCell ⟨b,0,none⟩ x).setCell ⟨b,1,none⟩ y):=by
  have e1:=heap_setCell_same W b 0 _ _ x h
  have e2:=heap_setCell_same _ b 1 _ _ y e1
  exact ⟨by simpa using e2,Keep.setCell (S:=fun j => j = b) (Keep.setCell (S:=fun j => j = b) (Keep.refl _ _) _ (.inr rfl) _) _ (.inr rfl) _⟩
theorem store4 (W:World) (b:Nat) {a0 a1 a2 a3:Value} (x y z u:Value) {t:TypeId} (h:W.heap[b]? = some (.cells #[a0,a1,a2,a3] t (0,0))) :
    ((((W.setCell ⟨b,0,none⟩ x).setCell ⟨b,1,none⟩ y).setCell ⟨b,2,none⟩ z).setCell ⟨b,3,none⟩ u).heap[b]? = some (.cells #[x,y,z,u] t (0,0)) ∧ Keep (fun j => j = b) W ((((W.setCell ⟨b,0,none⟩ x).setCell ⟨b,1,none⟩ y).setCell ⟨b,2,none⟩ z).setCell ⟨b,3,none⟩ u):=by
  have e1:=heap_setCell_same W b 0 _ _ x h
  have e2:=heap_setCell_same _ b 1 _ _ y e1
  have e3:=heap_setCell_same _ b 2 _ _ z e2
  have e4:=heap_setCell_same _ b 3 _ _ u e3
  exact ⟨by simpa using e4,Keep.setCell (S:=fun j => j = b) (Keep.setCell (S:=fun j => j = b) (Keep.setCell (S:=fun j => j = b) (Keep.setCell (S:=fun j => j = b) (Keep.refl _ _) _ (.inr rfl) _) _ (.inr rfl) _) _ (.inr rfl) _) _ (.inr rfl) _⟩
theorem blk_alloc {w:World} {b:Nat} {x:Obj} (h:w.heap[b]? = some x) (o:Obj):(w.alloc o).heap[b]? = some x:=
  (Below.heap_alloc w o b (Array.getElem?_eq_some_iff.1 h).1).trans h
theorem blk_new (w:World) (xs:Array Value) (e:TypeId) {n:Nat} (hn:w.heap.size = n):(w.alloc (.cells xs e)).heap[n]? = some (.cells xs e (0,0)):=by
  subst hn;exact heap_alloc_new w _
theorem size_of_alloc {w:World} {n:Nat} (h:w.heap.size = n) (o:Obj):(w.alloc o).heap.size = n + 1:=by simp [h]
end Go.Proofs.YthamijnggdjaoaaGreatDoor
namespace Go.Proofs.YthamijnggdjaoaaGreatDoor
open Go.RowKit
theorem run_mk {P:Program} {t e:TypeId} {z:Value} {bytes:Nat} (T:ElemT P t e z 1 bytes) (w:World) (hzc:z.cells = #[z]) (n:Nat) (b2:bytes * n ≤ 281474976710656) (b3:n ≤ maxLen) :
    ∃ w',Sem.run P (Instr.makeSlice t (.int .i64 (n:Int)) (.int .i64 (n:Int))) w = .ok (.slice (some ⟨w.heap.size,0,none⟩) n n) w' ∧ w'.ownsRow w.heap.size e 1 (.slice (some ⟨w.heap.size,0,none⟩) n n) n (List.replicate n z) ∧ Below w.heap.size w w':=by
  obtain ⟨i,hi,hz0,hz1,hz2⟩:=T.info
  obtain ⟨w',hrun,r1,r2⟩:=run_make_full (P:=P) w w.heap.size t e i z 1 T.und hi hz0 hz1 .i64 .i64 n (by rw [hz2];exact b2) b3 (Nat.le_refl _)
  rw [hzc,Nat.mul_one,toList_madeCells_one] at r1
  exact ⟨w',hrun,r1,⟨r2.os,r2.tape,r2.output,r2.size,fun k hk => r2.block k hk (by simp)⟩⟩
end Go.Proofs.YthamijnggdjaoaaGreatDoor
namespace Go.Proofs.YthamijnggdjaoaaGreatDoor
open Go.RowKit
noncomputable def szCode (sz:List Int):Int:=@ite _ (GoodSz sz) (Classical.propDecidable _) 0 (@ite _ (RightSz sz) (Classical.propDecidable _) 4 5)
theorem szCode_good {sz:List Int} (h:GoodSz sz):szCode sz = 0:=by unfold szCode;rw [if_pos h]
theorem szCode_long {sz:List Int} (h:¬ GoodSz sz) (hr:RightSz sz):szCode sz = 4:=by unfold szCode;rw [if_neg h,if_pos hr]
theorem szCode_wrong {sz:List Int} (h:¬ RightSz sz):szCode sz = 5:=by unfold szCode;rw [if_neg (fun g => h g.1),if_neg h]
theorem szCode_iff (sz:List Int):szCode sz = 0 ↔ GoodSz sz:=by
  constructor
  · intro h
    by_cases hg:GoodSz sz
    · exact hg
    · by_cases hr:RightSz sz
      · rw [szCode_long hg hr] at h;omega
      · rw [szCode_wrong hr] at h;omega
  · exact szCode_good
theorem bool_ft (b:Bool):b = false ∨ b = true:=by cases b <;> simp
structure Cfg where
  sizes:List Int
  shift:Int
  rate:Int
  mom:Int
  workers:Int
  batch:Int
  micros:Int
  steps:Int
  bucket:Int
  chunk:Int
  window:Int
  cap:Int
def okB (n:Int):Bool:=decide (1 ≤ n ∧ n ≤ 1048576)
theorem okB_true {n:Int} (h:okB n = true):1 ≤ n ∧ n ≤ 1048576:=by simpa [okB] using h
theorem okB_false {n:Int} (h:okB n = false):¬ (1 ≤ n ∧ n ≤ 1048576):=by
  intro h2;unfold okB at h;rw [decide_eq_true h2] at h;cases h
def stepsB (n:Int):Bool:=decide (0 ≤ n ∧ n ≤ 1048576)
def numsB (k:Cfg):Bool:=okB k.micros && okB k.bucket && okB k.chunk && okB k.window && okB k.cap && stepsB k.steps
def wkB (k:Cfg):Bool:=decide (1 ≤ k.workers ∧ k.workers ≤ 64)
def shB (k:Cfg):Bool:=decide (1 ≤ k.shift ∧ k.shift ≤ 62)
def baB (k:Cfg):Bool:=decide (k.workers ≤ k.batch ∧ k.batch ≤ 1048576)
noncomputable def cfgCode (k:Cfg):Int:=if wkB k = false then 6 else if shB k = false then 9 else if szCode k.sizes ≠ 0 then szCode k.sizes else if numsB k = false then 2 else if baB k = false then 7 else 0
theorem cfg_6 {k:Cfg} (h:wkB k = false):cfgCode k = 6:=by unfold cfgCode;rw [if_pos h]
theorem cfg_9 {k:Cfg} (h1:wkB k = true) (h:shB k = false):cfgCode k = 9:=by unfold cfgCode;rw [if_neg (by simp [h1]),if_pos h]
theorem cfg_s {k:Cfg} (h1:wkB k = true) (h2:shB k = true) (h:szCode k.sizes ≠ 0):cfgCode k = szCode k.sizes:=by unfold cfgCode;rw [if_neg (by simp [h1]),if_neg (by simp [h2]),if_pos h]
theorem cfg_2 {k:Cfg} (h1:wkB k = true) (h2:shB k = true) (h3:szCode k.sizes = 0) (h:numsB k = false):cfgCode k = 2:=by unfold cfgCode;rw [if_neg (by simp [h1]),if_neg (by simp [h2]),if_neg (by simp [h3]),if_pos h]
theorem cfg_7 {k:Cfg} (h1:wkB k = true) (h2:shB k = true) (h3:szCode k.sizes = 0) (h4:numsB k = true) (h:baB k = false):cfgCode k = 7:=by unfold cfgCode;rw [if_neg (by simp [h1]),if_neg (by simp [h2]),if_neg (by simp [h3]),if_neg (by simp [h4]),if_pos h]
theorem cfg_0 {k:Cfg} (h1:wkB k = true) (h2:shB k = true) (h3:szCode k.sizes = 0) (h4:numsB k = true) (h:baB k = true):cfgCode k = 0:=by unfold cfgCode;rw [if_neg (by simp [h1]),if_neg (by simp [h2]),if_neg (by simp [h3]),if_neg (by simp [h4]),if_neg (by simp [h])]
structure GoodCfg (k:Cfg):Prop where
  w:1 ≤ k.workers ∧ k.workers ≤ 64
  s:1 ≤ k.shift ∧ k.shift ≤ 62
  z:GoodSz k.sizes
  mi:1 ≤ k.micros ∧ k.micros ≤ 1048576
  bu:1 ≤ k.bucket ∧ k.bucket ≤ 1048576
  ch:1 ≤ k.chunk ∧ k.chunk ≤ 1048576
  wi:1 ≤ k.window ∧ k.window ≤ 1048576
  ca:1 ≤ k.cap ∧ k.cap ≤ 1048576
  st:0 ≤ k.steps ∧ k.steps ≤ 1048576
  ba:k.workers ≤ k.batch ∧ k.batch ≤ 1048576
theorem cfg_good {k:Cfg}:cfgCode k = 0 ↔ GoodCfg k:=by
  constructor
  · intro h
    cases h1:wkB k with
    | false => rw [cfg_6 h1] at h;omega
    | true =>
      cases h2:shB k with
      | false => rw [cfg_9 h1 h2] at h;omega
      | true =>
        by_cases h3:szCode k.sizes = 0
        · cases h4:numsB k with
          | false => rw [cfg_2 h1 h2 h3 h4] at h;omega
          | true =>
            cases h5:baB k with
            | false => rw [cfg_7 h1 h2 h3 h4 h5] at h;omega
            | true =>
              simp only [numsB,Bool.and_eq_true] at h4
              obtain ⟨⟨⟨⟨⟨a1,a2⟩,a3⟩,a4⟩,a5⟩,a6⟩:=h4
              exact ⟨by simpa [wkB] using h1,by simpa [shB] using h2,(szCode_iff _).1 h3,okB_true a1,okB_true a2,okB_true a3,okB_true a4,okB_true a5,by simpa [stepsB] using a6,by simpa [baB] using h5⟩
        · rw [cfg_s h1 h2 h3] at h;exact absurd h h3
  · intro h
    refine cfg_0 (by simpa [wkB] using h.w) (by simpa [shB] using h.s) (szCode_good h.z) ?_ (by simpa [baB] using h.ba)
    simp only [numsB,Bool.and_eq_true]
    exact ⟨⟨⟨⟨⟨by simpa [okB] using h.mi,by simpa [okB] using h.bu⟩,by simpa [okB] using h.ch⟩,by simpa [okB] using h.wi⟩,by simpa [okB] using h.ca⟩,by simpa [stepsB] using h.st⟩
end Go.Proofs.YthamijnggdjaoaaGreatDoor
namespace Go.Proofs.YthamijnggdjaoaaGreatDoor
open Go.RowKit
def goodI (n:Nat) (i:Int):Prop:=0 ≤ i ∧ i < n
instance (n:Nat) (i:Int):Decidable (goodI n i):=by unfold goodI;exact inferInstance
def PickIs (l:List Ex) (idx:List Int) (w:World) (e:Ending) (w':World):Prop:=Below w.heap.size w w' ∧
  (((∀ k,k < idx.length → goodI l.length (nth idx k)) ∧ ∃ v,e = .returned (.tuple #[v,.bool true]) ∧ MapI w w' (pickL l idx) idx.length v) ∨ ((¬ ∀ k,k < idx.length → goodI l.length (nth idx k)) ∧ e = .returned (.tuple #[.slice none 0 0,.bool false])))
set_option maxRecDepth 100000 in
set_option maxHeartbeats 1600000 in
theorem mapint_any (P c d:Nat) (A B:Option Addr) (l:List Ex) (idx:List Int) (w:World) (hP:w.heap[P]? = some (.cells #[.slice A l.length c] 25 (0,0))) (h:SlRd rEx 2 w A l) (hl:l.length ≤ 1048576) (hB:Rd w B (nums .i64 idx)) (hi:idx.length ≤ 1048576) :
    Calls Tryz.prog 284 #[.slice B idx.length d,.func (.func 285) #[] #[.pointer (some ⟨P,0,none⟩)]] w (PickIs l idx w):=by
  obtain ⟨n,hn⟩:∃ n,idx.length = n:=⟨_,rfl⟩
  unfold PickIs
  rw [hn] at hi ⊢
  obtain ⟨N,hN⟩:∃ N,l.length = N:=⟨_,rfl⟩
  have hpl:=pickL_len l idx
  have hpa:=fun k (hk:k < idx.length) => pickL_at l idx hk
  rw [hn] at hpl hpa
  have hPb:=hP
  rw [hN] at hl hP ⊢
  have H:=Lib.hid h;have Hn:=Lib.hid hn;have HN:=Lib.hid hN;have HB:=Lib.hid hB;have HP:=Lib.hid hP;have HPb:=Lib.hid hPb;have Hpl:=Lib.hid hpl;have Hpa:=Lib.hid hpa;clear h hn hN hB hP hPb hpl hpa
  go_enter Tryz.func284,Tryz.ntmps284
  go_wp2_with fail
  go_loopw [6,13] (fun v i wr => ∃ k:Nat,k ≤ n ∧ i = .int .i64 k ∧ MapI w wr (pickL l idx) k v ∧ Hid (∀ j,j < k → goodI N (nth idx j))) (fun _ i _ => n - (intOf i).toNat)
  case atStart => exact ⟨0,Nat.zero_le _,rfl,MapI.zero w _,Lib.hid fun j hj => by omega⟩
  case round =>
    obtain ⟨k,hk,rfl,hM,Hall⟩:=hrel
    obtain ⟨Al,cl,rfl⟩:=hM.form
    by_cases hlt:k < n
    · have hb:=hM.b
      obtain ⟨b,o,rfl,p⟩:=(HB.out.below hb).num (show k < idx.length by rw [Hn.out];exact hlt)
      obtain ⟨i,hi'⟩:∃ i,nth idx k = i:=⟨_,rfl⟩
      rw [hi'] at p
      have hPw:=(hb.block P (lt_of_block HP.out)).trans HP.out
      by_cases hg:goodI N i
      · obtain ⟨j,rfl⟩:∃ j:Nat,i = (j:Int):=⟨i.toNat,by have:=hg.1;omega⟩
        have hjN:j < N:=by have:=hg.2;omega
        have hpk:=Hpa.out k hlt
        rw [hi',Int.toNat_natCast] at hpk
        have hjl:j < l.length:=by rw [HN.out];exact hjN
        obtain ⟨x,hx⟩:∃ x,l[j]? = some x:=⟨_,List.getElem?_eq_getElem hjl⟩
        have hxd:l.getD j ([],[]) = x:=by simp [hx]
        rw [hxd] at hpk
        have hcl:=pick1_good P c j A l x wr (by rw [HN.out];exact hPw) (H.out.below stays_ex hb) hx
        unfold ExRet at hcl
        obtain ⟨n1,hn1⟩:∃ n1,x.1.length = n1:=⟨_,rfl⟩
        obtain ⟨n2,hn2⟩:∃ n2,x.2.length = n2:=⟨_,rfl⟩
        rw [hn1,hn2] at hcl
        have Hcl:=Lib.hid hcl;have HM:=Lib.hid hM;have Hx:=Lib.hid hpk;have Hg:=Lib.hid hg;have Hi:=Lib.hid hi'
        clear hcl hM hx hn1 hn2 hb hg hi' hpk hxd hPw hjl
        go_wp2_with fail
        refine Hcl.out.mono ?_
        rintro e w3 ⟨B1,d1,B2,d2,rfl,ho,hb3⟩
        have hM3:=(HM.out.below hb3).below ((Below.refl _ _).alloc (Nat.le_refl _) (.cells #[.slice B1 n1 d1,.slice B2 n2 d2] 72))
        have ho3:=(ho.base (base':=w.heap.size) HM.out.b.size).below ((Below.refl _ _).alloc (Nat.le_refl _) (.cells #[.slice B1 n1 d1,.slice B2 n2 d2] 72))
        have HM3:=Lib.hid hM3;have Ho3:=Lib.hid ho3;clear hM3 ho3 ho hb3 p
        obtain ⟨rows,h1,h2,h3,h4,h5⟩:=HM3.out
        have R1:=Lib.hid h1;have R2:=Lib.hid h2;have R3:=Lib.hid h3;have R4:=Lib.hid h4;have R5:=Lib.hid h5;clear h1 h2 h3 h4 h5
        have hsz9:=Lib.hid (show (w3.alloc (.cells #[.slice B1 n1 d1,.slice B2 n2 d2] 72)).heap.size = w3.heap.size + 1 by simp)
        go_wp2_with (at_builtin;refine wpList_push et_exs _ rfl (.tmp 25) (.tmp 27) rfl w.heap.size (.slice Al k cl) k _ rfl R1.out [.slice B1 n1 d1,.slice B2 n2 d2] (congrArg (fun b:Nat => Value.slice (some ⟨b,0,none⟩) 1 1) hsz9.out.symm) rfl (by simp [Value.oneCell']) (by omega) (by unfold maxLen;omega) R5.out.size ?_)
        intro g6 c6 w6 ho6 hb6 hg6
        have hM6:=MapI.push R1.out R2.out R3.out R4.out R5.out Hx.out Ho3.out ho6 hb6 hg6
        have HM6:=Lib.hid hM6
        clear ho6 hb6 hg6 hM6
        go_wp2_with fail
        go_roundw
        case rel => exact ⟨k + 1,by omega,by go_num,HM6.out,Lib.hid (p:=∀ j,j < k + 1 → goodI N (nth idx j)) fun t ht => by
          rcases Nat.lt_or_ge t k with h | h
          · exact Hall.out t h
          · obtain rfl:t = k:=by omega
            rw [Hi.out];exact Hg.out⟩
        case measure => simp [intOf];omega
      · have hg':i < 0 ∨ (N:Int) ≤ i:=by unfold goodI at hg;omega
        have hcl:=pick1_bad P N c A i wr hPw hg'
        have Hcl:=Lib.hid hcl;have HM:=Lib.hid hM;have Hg:=Lib.hid hg;have Hi:=Lib.hid hi'
        clear hcl hM hb hg hg' hi' hPw
        go_wp2_with fail
        refine Hcl.out.mono ?_
        rintro e w3 ⟨rfl,hb3⟩
        have HB3:=Lib.hid (HM.out.b.trans (hb3.mono HM.out.b.size));clear hb3 p
        go_wp2_with fail
        go_ret2
        exact ⟨HB3.out.alloc HB3.out.size _,.inr ⟨fun h => Hg.out (by have:=h k hlt;rwa [Hi.out] at this),rfl⟩⟩
    · obtain rfl:n = k:=by omega
      have HM:=Lib.hid hM;clear hM
      go_wp2_with fail
      go_ret2
      exact ⟨HM.out.b,.inl ⟨Hall.out,_,rfl,HM.out⟩⟩
def fitEx (a b:Nat) (x:Ex):Prop:=x.1.length = a ∧ x.2.length = b
instance (a b:Nat) (x:Ex):Decidable (fitEx a b x):=by unfold fitEx;exact inferInstance
theorem check1_any (P1 P2 n m a b c d:Nat) (A B:Option Addr) (w:World) (h1:w.heap[P1]? = some (.cells #[.int .i64 a] 3 (0,0))) (h2:w.heap[P2]? = some (.cells #[.int .i64 b] 3 (0,0))) :
    Calls Tryz.prog 101 #[.agg #[.slice A n c,.slice B m d],.pointer (some ⟨P1,0,none⟩),.pointer (some ⟨P2,0,none⟩)] w fun e w' => e = .returned (.bool (!decide (n = a ∧ m = b))) ∧ Below w.heap.size w w':=by
  obtain ⟨p0,pf⟩:=bx1 h1
  obtain ⟨q0,qf⟩:=bx1 h2
  have l1:=lt_of_block h1
  have l2:=lt_of_block h2
  clear h1 h2
  by_cases e1:n = a
  · by_cases e2:m = b
    · have hq1:((n:Int) != (a:Int)) = false:=by rw [e1];simp
      have hq2:((m:Int) != (b:Int)) = false:=by rw [e2];simp
      have hd:(!decide (n = a ∧ m = b)) = false:=by simp [e1,e2]
      rw [hd]
      clear e1 e2 hd
      go_enter Tryz.func101,Tryz.ntmps101
      go_wp2
      go_ret
      exact ⟨rfl,(Below.refl _ w).alloc (Nat.le_refl _) _⟩
    · have hq1:((n:Int) != (a:Int)) = false:=by rw [e1];simp
      have hq2:((m:Int) != (b:Int)) = true:=by rw [bne_iff_ne];omega
      have hd:(!decide (n = a ∧ m = b)) = true:=by simp [e2]
      rw [hd]
      clear e1 e2 hd
      go_enter Tryz.func101,Tryz.ntmps101
      go_wp2
      go_ret
      exact ⟨rfl,(Below.refl _ w).alloc (Nat.le_refl _) _⟩
  · have hq1:((n:Int) != (a:Int)) = true:=by rw [bne_iff_ne];omega
    have hd:(!decide (n = a ∧ m = b)) = true:=by simp [e1]
    rw [hd]
    clear e1 hd
    go_enter Tryz.func101,Tryz.ntmps101
    go_wp2
    go_ret
    exact ⟨rfl,(Below.refl _ w).alloc (Nat.le_refl _) _⟩
def ExIdxIs (l:List Ex) (a b:Nat) (w:World) (e:Ending) (w':World):Prop:=∃ d:Int,e = .returned (.int .i64 d) ∧ -1 ≤ d ∧ d ≤ 1048576 ∧ (d < 0 ↔ ∀ x ∈ l,fitEx a b x) ∧ Below w.heap.size w w'
set_option maxRecDepth 100000 in
theorem exindex_any (P1 P2 a b c:Nat) (A:Option Addr) (l:List Ex) (w:World) (h1:w.heap[P1]? = some (.cells #[.int .i64 a] 3 (0,0))) (h2:w.heap[P2]? = some (.cells #[.int .i64 b] 3 (0,0))) (h:SlRd rEx 2 w A l) (hl:l.length ≤ 1048576) :
    Calls Tryz.prog 100 #[.slice A l.length c,.func (.func 101) #[] #[.pointer (some ⟨P1,0,none⟩),.pointer (some ⟨P2,0,none⟩)]] w (ExIdxIs l a b w):=by
  unfold ExIdxIs
  have hck:=fun n m A c B d w' (k:Below w.heap.size w w') => check1_any P1 P2 n m a b c d A B w' ((k.block _ (lt_of_block h1)).trans h1) ((k.block _ (lt_of_block h2)).trans h2)
  obtain ⟨n,hn⟩:∃ n,l.length = n:=⟨_,rfl⟩
  rw [hn] at hl ⊢
  have H:=Lib.hid h;have Hn:=Lib.hid hn;have Hck:=Lib.hid hck;clear h hn hck h1 h2
  go_enter Tryz.func100,Tryz.ntmps100
  go_wp2_with fail
  go_loopw [5,8] (fun _ i wr => ∃ k:Nat,k ≤ n ∧ i = .int .i64 k ∧ Hid (∀ j x,j < k → l[j]? = some x → fitEx a b x) ∧ Below w.heap.size w wr) (fun _ i _ => n - (intOf i).toNat)
  case atStart => exact ⟨0,Nat.zero_le _,rfl,Lib.hid fun j x hj => by omega,Below.refl _ _⟩
  case round =>
    obtain ⟨k,hk,rfl,Hall,hb⟩:=hrel
    by_cases hlt:k < n
    · obtain ⟨x,hx⟩:∃ x,l[k]? = some x:=⟨_,List.getElem?_eq_getElem (by rw [Hn.out];exact hlt)⟩
      obtain ⟨b',o,A1,c1,A2,c2,rfl,hbl,p1,p2,r1,r2⟩:=ex_cells (H.out.below stays_ex hb) hx
      have hc:=Hck.out x.1.length x.2.length A1 c1 A2 c2 wr hb
      by_cases hf:fitEx a b x
      · have hd:(!decide (x.1.length = a ∧ x.2.length = b)) = false:=by
          have:=hf;unfold fitEx at this;simp [this.1,this.2]
        rw [hd] at hc
        have Hc:=Lib.hid hc;have Hx:=Lib.hid hx;have Hf:=Lib.hid hf;have Hb:=Lib.hid hb
        clear hc hx hf hd r1 r2 hb
        go_wp2_with fail
        refine Hc.out.mono ?_
        rintro e w1 ⟨rfl,hb1⟩
        have HB1:=Lib.hid (Hb.out.trans (hb1.mono Hb.out.size));clear hb1 p1 p2
        go_wp2_with fail
        go_roundw
        case rel => exact ⟨k + 1,by omega,by go_num,Lib.hid (p:=∀ j x,j < k + 1 → l[j]? = some x → fitEx a b x) fun j y hj hy => by
          rcases Nat.lt_or_ge j k with h | h
          · exact Hall.out j y h hy
          · obtain rfl:j = k:=by omega
            have:=Hx.out;rw [hy] at this;injection this with this;rw [this];exact Hf.out,HB1.out⟩
        case measure => simp [intOf];omega
      · have hd:(!decide (x.1.length = a ∧ x.2.length = b)) = true:=by
          have:=hf;unfold fitEx at this;simp only [Bool.not_eq_true',decide_eq_false_iff_not];exact this
        rw [hd] at hc
        have Hc:=Lib.hid hc;have Hx:=Lib.hid hx;have Hf:=Lib.hid hf;have Hb:=Lib.hid hb
        clear hc hx hf hd r1 r2 hb
        go_wp2_with fail
        refine Hc.out.mono ?_
        rintro e w1 ⟨rfl,hb1⟩
        have HB1:=Lib.hid (Hb.out.trans (hb1.mono Hb.out.size));clear hb1 p1 p2
        go_wp2_with fail
        go_ret
        exact ⟨k,rfl,by omega,by omega,⟨fun h => by omega,fun h => absurd (h x (List.mem_of_getElem? Hx.out)) Hf.out⟩,HB1.out⟩
    · obtain rfl:n = k:=by omega
      have Hb:=Lib.hid hb;clear hb
      go_wp2_with fail
      go_ret
      refine ⟨-1,rfl,by omega,by omega,⟨fun _ x hx => ?_,fun _ => by omega⟩,Hb.out⟩
      obtain ⟨j,hj⟩:=List.getElem?_of_mem hx
      exact Hall.out j x (by have:=(List.getElem?_eq_some_iff.1 hj).1;have:=Hn.out;omega) hj
def DChkIs (l:List Ex) (a b:Nat) (w:World) (e:Ending) (w':World):Prop:=Below w.heap.size w w' ∧ ∃ d:Int,((∀ x ∈ l,fitEx a b x) ∧ e = .returned (.tuple #[.int .i64 d,.bool true])) ∨ ((¬ ∀ x ∈ l,fitEx a b x) ∧ e = .returned (.tuple #[.int .i64 d,.bool false]))
set_option maxRecDepth 100000 in
theorem dcheck_any (a b c:Nat) (A:Option Addr) (l:List Ex) (w:World) (h:SlRd rEx 2 w A l) (hl:l.length ≤ 1048576) :
    Calls Tryz.prog 51 #[.slice A l.length c,.int .i64 a,.int .i64 b] w (DChkIs l a b w):=by
  have hW:∀ (o1 o2:Obj),Below w.heap.size w ((w.alloc o1).alloc o2):=fun o1 o2 => ((Below.refl _ w).alloc (Nat.le_refl _) _).alloc (by simp) _
  have hi:=exindex_any w.heap.size (w.heap.size + 1) a b c A l ((w.alloc (.cells #[.int .i64 a] 3)).alloc (.cells #[.int .i64 b] 3)) ((Below.heap_alloc _ _ _ (by simp)).trans (heap_alloc_new w _))
    (by have:=heap_alloc_new (w.alloc (.cells #[.int .i64 a] 3)) (.cells #[.int .i64 b] 3);rwa [show (w.alloc (.cells #[.int .i64 a] 3)).heap.size = w.heap.size + 1 by simp] at this) (h.below stays_ex (hW _ _)) hl
  obtain ⟨n,hn⟩:∃ n,l.length = n:=⟨_,rfl⟩
  unfold ExIdxIs at hi
  unfold DChkIs
  rw [hn] at hi ⊢
  have Hi:=Lib.hid hi;have HW:=Lib.hid hW;clear hi hW h hn
  go_enter Tryz.func51,Tryz.ntmps51
  go_wp2_with fail
  refine Hi.out.mono ?_
  rintro e w1 ⟨d,rfl,hd1,hd2,hiff,hb⟩
  have HB:=Lib.hid ((HW.out (.cells #[.int .i64 a] 3) (.cells #[.int .i64 b] 3)).trans (hb.mono (by simp;omega)));have Hiff:=Lib.hid hiff;clear hb hiff
  by_cases h0:d < 0
  · have hq:decide (d < 0) = true:=by simp;omega
    go_wp2_with fail
    all_goals
      go_ret2
      exact ⟨HB.out,_,.inl ⟨Hiff.out.1 h0,rfl⟩⟩
  · have hq:decide (d < 0) = false:=by simp;omega
    go_wp2_with fail
    all_goals
      go_ret2
      exact ⟨HB.out,_,.inr ⟨fun h => by have:=Hiff.out.2 h;omega,rfl⟩⟩
end Go.Proofs.YthamijnggdjaoaaGreatDoor
namespace Go.Proofs.YthamijnggdjaoaaGreatDoor
open Go.RowKit
def cntQ (n size:Nat):Nat:=if n = 0 then 0 else (n - 1) / size + 1
theorem ediv_pred (n s:Nat) (hn:1 ≤ n):((n:Int) - 1) / (s:Int) = (((n - 1) / s:Nat):Int):=by
  rw [show ((n:Int) - 1) = ((n - 1:Nat):Int) by omega,← Int.natCast_ediv]
theorem cntQ_le (n size:Nat):cntQ n size ≤ n:=by
  unfold cntQ
  split
  · omega
  · have:=Nat.div_le_self (n - 1) size
    omega
theorem cntQ_lt {n size k:Nat} (h:k < cntQ n size):k * size < n:=by
  unfold cntQ at h
  split at h
  · omega
  · have h1:k ≤ (n - 1) / size:=by omega
    have h2:=Nat.mul_le_mul_right size h1
    have h3:=Nat.div_mul_le_self (n - 1) size
    omega
def blkVals (n size k:Nat):List Value:=(List.range k).flatMap fun j => [.int .i64 ((j * size:Nat):Int),.int .i64 ((min (j * size + size) n:Nat):Int)]
theorem blkVals_succ (n size k:Nat):blkVals n size (k + 1) = blkVals n size k ++ [.int .i64 ((k * size:Nat):Int),.int .i64 ((min (k * size + size) n:Nat):Int)]:=by simp [blkVals,List.range_succ,List.flatMap_append]
theorem blkVals_len (n size k:Nat):(blkVals n size k).length = k * 2:=by
  induction k with
  | zero => simp [blkVals]
  | succ k ih => rw [blkVals_succ,List.length_append,ih];simp;omega
theorem blkVals_at (n size:Nat) {j k:Nat} (h:j < k):(blkVals n size k)[j * 2]? = some (.int .i64 ((j * size:Nat):Int)) ∧ (blkVals n size k)[j * 2 + 1]? = some (.int .i64 ((min (j * size + size) n:Nat):Int)):=by
  induction k with
  | zero => omega
  | succ k ih =>
    rw [blkVals_succ]
    rcases Nat.lt_or_ge j k with hj | hj
    · obtain ⟨h1,h2⟩:=ih hj
      have hl:=blkVals_len n size k
      rw [List.getElem?_append_left (by omega),List.getElem?_append_left (by omega)]
      exact ⟨h1,h2⟩
    · obtain rfl:j = k:=by omega
      have hl:=blkVals_len n size j
      rw [List.getElem?_append_right (by omega),List.getElem?_append_right (by omega),hl]
      simp
theorem cntQ_whole (n batch:Nat) (hb:1 ≤ batch) (hn:batch ≤ n):cntQ (n - n % batch) batch = n / batch:=by
  have h1:=Nat.div_add_mod n batch
  have h2:=Nat.div_pos hn hb
  have h3:n - n % batch = batch * (n / batch):=by omega
  have h4:1 ≤ batch * (n / batch):=Nat.mul_pos hb h2
  unfold cntQ
  rw [if_neg (by omega),h3]
  have h5:batch * (n / batch) - 1 = batch * (n / batch - 1) + (batch - 1):=by
    have:batch * (n / batch) = batch * (n / batch - 1) + batch:=by rw [← Nat.mul_succ];congr 1;omega
    omega
  rw [h5,Nat.mul_add_div hb,show (batch - 1) / batch = 0 from Nat.div_eq_of_lt (by omega)]
  omega
theorem whole_min (n batch j:Nat) (hb:1 ≤ batch) (hj:j < n / batch):min (j * batch + batch) (n - n % batch) = j * batch + batch:=by
  have h1:=Nat.div_add_mod n batch
  have h2:(j + 1) * batch ≤ (n / batch) * batch:=Nat.mul_le_mul_right _ hj
  rw [Nat.succ_mul] at h2
  have h3:(n / batch) * batch = batch * (n / batch):=Nat.mul_comm _ _
  omega
theorem whole_le (n batch j:Nat) (hj:j < n / batch):j * batch + batch ≤ n:=by
  have h1:=Nat.div_mul_le_self n batch
  have h2:(j + 1) * batch ≤ (n / batch) * batch:=Nat.mul_le_mul_right _ hj
  rw [Nat.succ_mul] at h2
  omega
theorem cntQ_eq (n size:Nat) (hs:1 ≤ size):cntQ n size = (n + size - 1) / size:=by
  unfold cntQ
  split
  · subst_vars;rw [Nat.zero_add,Nat.div_eq_of_lt (by omega)]
  · rw [show n + size - 1 = (n - 1) + size by omega,Nat.add_div_right _ hs]
end Go.Proofs.YthamijnggdjaoaaGreatDoor
namespace Go.Proofs.YthamijnggdjaoaaGreatDoor
open Go.RowKit
theorem wrong_any (n:Int) (w:World):Calls Tryz.prog 57 #[.int .i64 n] w fun e w' => e = .returned (.bool (!decide (1 ≤ n ∧ n ≤ 1048576))) ∧ w = w':=by
  by_cases h1:n < 1
  · go_enter Tryz.func57,Tryz.ntmps57
    go_wp2
    go_ret
    exact ⟨ret_bool (by first | (simp;omega) | (simp;done)),rfl⟩
  · by_cases h2:1048576 < n
    · go_enter Tryz.func57,Tryz.ntmps57
      go_wp2
      go_ret
      exact ⟨ret_bool (by first | (simp;omega) | (simp;done)),rfl⟩
    · go_enter Tryz.func57,Tryz.ntmps57
      go_wp2
      go_ret
      exact ⟨ret_bool (by first | (simp;omega) | (simp;done)),rfl⟩
def IndexIs (sz:List Int) (e:Ending):Prop:=∃ d:Int,e = .returned (.int .i64 d) ∧ -1 ≤ d ∧ (d < 0 ↔ ∀ k,k < sz.length → 1 ≤ nth sz k ∧ nth sz k ≤ 1048576)
theorem index_any (A:Option Addr) (sz:List Int) (c:Nat) (w:World) (hA:Rd w A (nums .i64 sz)) (hl:sz.length ≤ 17592186043904) :
    Calls Tryz.prog 110 #[.slice A sz.length c,.func (.func 57) #[] #[]] w fun e w' => IndexIs sz e ∧ w = w':=by
  obtain ⟨n,hn⟩:∃ n,sz.length = n:=⟨_,rfl⟩
  have hw:=fun z => wrong_any z w
  rw [hn] at hl ⊢
  have HA:=Lib.hid hA;have Hn:=Lib.hid hn;have Hw:=Lib.hid hw;clear hA hn hw
  go_enter Tryz.func110,Tryz.ntmps110
  go_wp2_with fail
  go_loop [5,8] (fun _ i => ∃ k:Nat,k ≤ n ∧ i = .int .i64 k ∧ Hid (∀ j,j < k → 1 ≤ nth sz j ∧ nth sz j ≤ 1048576)) (fun _ i => n - (intOf i).toNat)
  case atStart => exact ⟨0,Nat.zero_le _,rfl,Lib.hid fun j hj => by omega⟩
  case round =>
    obtain ⟨k,hk,rfl,Hall⟩:=hrel
    by_cases hlt:k < n
    · obtain ⟨b,o,rfl,p⟩:=HA.out.num (show k < sz.length by rw [Hn.out];exact hlt)
      by_cases hz:1 ≤ nth sz k ∧ nth sz k ≤ 1048576
      · have hd:(!decide (1 ≤ nth sz k ∧ nth sz k ≤ 1048576)) = false:=by simp [hz.1,hz.2]
        have hw:=Hw.out (nth sz k)
        rw [hd] at hw
        have Hz:=Lib.hid hz;have Hw2:=Lib.hid hw;clear hz hw hd
        go_wp2_with fail
        refine Hw2.out.mono ?_
        rintro e w' ⟨rfl,rfl⟩
        go_wp2_with fail
        go_round
        case rel => exact ⟨k + 1,by omega,by go_num,Lib.hid (p:=∀ j,j < k + 1 → 1 ≤ nth sz j ∧ nth sz j ≤ 1048576) fun j hj => by
          rcases Nat.lt_or_ge j k with h | h
          · exact Hall.out j h
          · obtain rfl:j = k:=by omega
            exact Hz.out⟩
        case measure => simp [intOf];omega
      · have hd:(!decide (1 ≤ nth sz k ∧ nth sz k ≤ 1048576)) = true:=by simp;omega
        have hw:=Hw.out (nth sz k)
        rw [hd] at hw
        have Hz:=Lib.hid hz;have Hw2:=Lib.hid hw;clear hz hw hd
        go_wp2_with fail
        refine Hw2.out.mono ?_
        rintro e w' ⟨rfl,rfl⟩
        go_wp2_with fail
        go_ret
        exact ⟨⟨k,rfl,by omega,fun h => by omega,fun h => absurd (h k (by rw [Hn.out];exact hlt)) Hz.out⟩,rfl⟩
    · obtain rfl:k = n:=by omega
      go_wp2_with fail
      go_ret
      exact ⟨⟨-1,rfl,by omega,fun _ => by rw [Hn.out];exact Hall.out,fun _ => by omega⟩,rfl⟩
theorem contains_yes (A:Option Addr) (sz:List Int) (c:Nat) (w:World) (hA:Rd w A (nums .i64 sz)) (hl:sz.length ≤ 17592186043904) (h:¬ ∀ k,k < sz.length → 1 ≤ nth sz k ∧ nth sz k ≤ 1048576) :
    Calls Tryz.prog 58 #[.slice A sz.length c,.func (.func 57) #[] #[]] w fun e w' => e = .returned (.bool true) ∧ w = w':=by
  have hi:=index_any A sz c w hA hl
  have Hi:=Lib.hid hi;have H:=Lib.hid h;clear hi hA h
  go_enter Tryz.func58,Tryz.ntmps58
  go_wp2_with fail
  refine Hi.out.mono ?_
  rintro e w' ⟨⟨d,rfl,hd,hiff⟩,rfl⟩
  have h0:0 ≤ d:=by
    rcases Int.lt_or_le d 0 with h | h
    · exact absurd (hiff.1 h) H.out
    · exact h
  clear hiff
  go_wp2
  go_ret
  exact ⟨ret_bool (by simp [h0]),rfl⟩
theorem contains_no (A:Option Addr) (sz:List Int) (c:Nat) (w:World) (hA:Rd w A (nums .i64 sz)) (hl:sz.length ≤ 17592186043904) (h:∀ k,k < sz.length → 1 ≤ nth sz k ∧ nth sz k ≤ 1048576) :
    Calls Tryz.prog 58 #[.slice A sz.length c,.func (.func 57) #[] #[]] w fun e w' => e = .returned (.bool false) ∧ w = w':=by
  have hi:=index_any A sz c w hA hl
  have Hi:=Lib.hid hi;have H:=Lib.hid h;clear hi hA h
  go_enter Tryz.func58,Tryz.ntmps58
  go_wp2_with fail
  refine Hi.out.mono ?_
  rintro e w' ⟨⟨d,rfl,hd,hiff⟩,rfl⟩
  have h0:d < 0:=hiff.2 H.out
  clear hiff
  go_wp2
  go_ret
  exact ⟨ret_bool (by simp;omega),rfl⟩
theorem next_any (m N:Nat) (P S:Nat) (v0 v1 v2:Value) (w:World) (hP:w.heap[P]? = some (.cells #[.pointer (some ⟨S,0,none⟩)] 62 (0,0)))
    (hS:w.heap[S]? = some (.cells #[v0,v1,v2,.int .i64 N] 123 (0,0))) (hN:N ≤ 17592202821632) (hm:m ≤ 17592202821632) :
    Calls Tryz.prog 60 #[.int .i64 m,.pointer (some ⟨P,0,none⟩)] w fun e w' => e = .returned (.agg #[.int .i64 N,.int .i64 ((N + m:Nat):Int)]) ∧ w'.heap[S]? = some (.cells #[v0,v1,v2,.int .i64 ((N + m:Nat):Int)] 123 (0,0)) ∧ Keep (fun i => i = S) w w':=by
  obtain ⟨p0,pf⟩:=bx1 hP
  obtain ⟨⟨s0,s1,s2,s3⟩,sf⟩:=bx4 hS
  have hPl:=lt_of_block hP
  have hSl:=lt_of_block hS
  have HS:=Lib.hid hS;clear hS hP
  rw [Int.natCast_add]
  go_enter Tryz.func60,Tryz.ntmps60
  go_wp2_with fail
  go_region
  all_goals go_wp2_with fail
  refine bodyPost_ret (v:=.agg #[.int .i64 N,.int .i64 ((N:Int) + (m:Int))]) (by simp [results,Tryz.results60,go_sem]) rfl ⟨rfl,?_,?_⟩
  · have h1:(w.setCell ⟨S,3,none⟩ (.int .i64 ((N:Int) + (m:Int)))).heap[S]? = some (.cells #[v0,v1,v2,.int .i64 ((N:Int) + (m:Int))] 123 (0,0)):=heap_setCell_same w S 3 _ _ _ HS.out
    have l1:=lt_of_block h1
    exact (Below.heap_alloc _ _ S (by simp at l1 ⊢;omega)).trans ((Below.heap_alloc _ _ S l1).trans h1)
  · exact (((Keep.setCell (S:=fun i => i = S) (Keep.refl _ w) ⟨S,3,none⟩ (.inr rfl) _).alloc _).alloc _).drew
end Go.Proofs.YthamijnggdjaoaaGreatDoor
namespace Go.Proofs.YthamijnggdjaoaaGreatDoor
open Go.RowKit
theorem top_shape {T:TypeId} {B:Nat} {u v:World} {b:Nat} {sz:List Int} (h:ShapeAt T (topW B u) b sz) (hv:Agr B u v):ShapeAt T v b sz:=by
  obtain ⟨A1,c1,A2,c2,A3,c3,h0,h1,h2,h3⟩:=h
  exact ⟨A1,c1,A2,c2,A3,c3,top_heap h0 hv,top_rd h1 hv,top_rd h2 hv,top_rd h3 hv⟩
theorem et_rngs:ElemT Tryz.prog 121 125 (.agg #[.int .i64 0,.int .i64 0]) 2 16:=⟨Tryz.underlying121,info_parts (by kernel_rfl),rfl,by decide⟩
def NewI (sz:List Int) (x0:Value) (P S:Nat) (k:Nat) (w0 w:World):Prop:=
  ∃ A1 c1 A2 c2,w.heap[P]? = some (.cells #[.pointer (some ⟨S,0,none⟩)] 62 (0,0)) ∧ w.heap[S]? = some (.cells #[x0,.slice A1 k c1,.slice A2 k c2,.int .i64 (cntN sz k:Int)] 123 (0,0)) ∧
    w.ownsRow S 125 2 (.slice A1 k c1) k (wVals sz k) ∧ w.ownsRow S 125 2 (.slice A2 k c2) k (bVals sz k) ∧ (∀ i,(Value.slice A1 k c1).ownBlock = some i → (Value.slice A2 k c2).ownBlock ≠ some i) ∧ Below S w0 w
theorem snew_short (A:Option Addr) (sz:List Int) (c:Nat) (w:World) (hc:sz.length ≤ c) (hm:c ≤ 9223372036854775807) (h:¬ (2 ≤ sz.length ∧ sz.length ≤ 16)) :
    Calls Tryz.prog 19 #[.slice A sz.length c] w fun e w' => e = .returned (.tuple #[.pointer none,.int .i64 5]) ∧ w = w':=by
  by_cases h1:sz.length < 2
  · go_enter Tryz.func19,Tryz.ntmps19
    go_wp2
    go_ret2
    exact ⟨rfl,rfl⟩
  · have h2:16 < sz.length:=by omega
    go_enter Tryz.func19,Tryz.ntmps19
    go_wp2
    go_ret2
    exact ⟨rfl,rfl⟩
theorem snew_wrong (A:Option Addr) (sz:List Int) (c:Nat) (w:World) (hA:Rd w A (nums .i64 sz)) (hc:sz.length ≤ c) (hm:c ≤ 9223372036854775807) (h:2 ≤ sz.length ∧ sz.length ≤ 16) (hb:¬ ∀ k,k < sz.length → 1 ≤ nth sz k ∧ nth sz k ≤ 1048576) :
    Calls Tryz.prog 19 #[.slice A sz.length c] w fun e w' => e = .returned (.tuple #[.pointer none,.int .i64 5]) ∧ w = w':=by
  obtain ⟨h1,h2⟩:=h
  have hct:=contains_yes A sz c w hA (by omega) hb
  have Hct:=Lib.hid hct;clear hct hb hA
  go_enter Tryz.func19,Tryz.ntmps19
  go_wp2_with fail
  refine Hct.out.mono ?_
  rintro e w' ⟨rfl,rfl⟩
  go_wp2
  go_ret2
  exact ⟨rfl,rfl⟩
set_option maxHeartbeats 1000000 in
theorem snew_rightT (A:Option Addr) (sz:List Int) (c:Nat) (w:World) (hA:Rd w A (nums .i64 sz)) (hc:sz.length ≤ c) (hm:c ≤ 9223372036854775807) (h:RightSz sz) :
    Calls Tryz.prog 19 #[.slice A sz.length c] w fun e w' => Below w.heap.size w w' ∧ ((1048576 < cntN sz (sz.length - 1) ∧ e = .returned (.tuple #[.pointer none,.int .i64 4])) ∨
      (cntN sz (sz.length - 1) ≤ 1048576 ∧ ∃ b,e = .returned (.tuple #[.pointer (some ⟨b,0,none⟩),.int .i64 0]) ∧ ShapeAt 123 (topW w.heap.size w') b sz ∧ w.heap.size ≤ b)):=by
  obtain ⟨b,o,rfl,_⟩:=hA.num (show 0 < sz.length by have:=h.1.1;omega)
  have hct:=contains_no (some ⟨b,o,none⟩) sz c w hA (by have:=h.1.2;omega) h.2
  have hcl:=iclone_any (some ⟨b,o,none⟩) sz c w hA (by have:=h.1.2;omega)
  obtain ⟨n,hn⟩:∃ n,sz.length = n:=⟨_,rfl⟩
  obtain ⟨h1,h2⟩:=h.1
  rw [hn] at h1 h2 hct hcl hc ⊢
  have hc1:¬ (c = 1):=by omega
  have hc2:1 ≤ c:=by omega
  have Hct:=Lib.hid hct;have Hcl:=Lib.hid hcl;have HAz:=Lib.hid hA;have HR:=Lib.hid h;have Hn:=Lib.hid hn
  clear hct hcl hA h hn
  go_enter Tryz.func19,Tryz.ntmps19
  go_wp2_with fail
  refine Hct.out.mono ?_
  rintro e w' ⟨rfl,rfl⟩
  go_wp2_with fail
  refine Hcl.out.mono ?_
  rintro e w1 ⟨v,rfl,hown,hb⟩
  obtain ⟨Ac,cc,rfl,hcc⟩:=own_form hown
  have Hown:=Lib.hid hown;have Hb:=Lib.hid hb;have Hcc:=Lib.hid hcc;clear hown hb hcc
  go_wp2_with fail
  go_loopw [30] (fun i wr => ∃ k:Nat,k ≤ n - 1 ∧ i = .int .i64 k ∧ NewI sz (.slice Ac n cc) (w1.heap.size + 1) w1.heap.size k w1 wr) (fun i _ => n - (intOf i).toNat)
  case atStart =>
    refine ⟨0,Nat.zero_le _,rfl,none,0,none,0,?_,?_,World.ownsRow_nil _ _ _ _,World.ownsRow_nil _ _ _ _,(fun i hi => by cases hi),?_⟩
    · have:=heap_alloc_new (w1.alloc (.cells #[.slice Ac n cc,.slice none 0 0,.slice none 0 0,.int .i64 0] 123)) (.cells #[.pointer (some ⟨w1.heap.size,0,none⟩)] 62)
      simpa using this
    · exact (Below.heap_alloc _ _ _ (by simp)).trans (heap_alloc_new w1 _)
    · (focus (repeat' (first | (with_reducible exact Below.refl _ _) | (with_reducible assumption) | (with_reducible refine Below.setCell ?_ ?_ _) | (with_reducible refine Below.alloc ?_ ?_ _) | (with_reducible refine below_drewN ?_ _) | (with_reducible refine Below.drew ?_) | (with_reducible exact Nat.le_refl _) | omega | (simp;done) | (simp;omega))))
  case round =>
    obtain ⟨k,hk,rfl,A1,c1,A2,c2,hP,hS,ho1,ho2,hne,hW⟩:=hrel
    have hkn:k < sz.length:=by rw [Hn.out];omega
    have hcN:=HR.out.bound hkn
    obtain ⟨x0,xf⟩:=bx1 hP
    obtain ⟨⟨s0,s1,s2,s3⟩,sf⟩:=bx4 hS
    have hPl:=lt_of_block hP
    have hSl:=lt_of_block hS
    have HP:=Lib.hid hP;have HS:=Lib.hid hS;have HO1:=Lib.hid ho1;have HO2:=Lib.hid ho2;have HN:=Lib.hid hne;have HW:=Lib.hid hW;clear hP hS ho1 ho2 hne hW
    by_cases hlt:k < n - 1
    · have hkn1:k + 1 < sz.length:=by rw [Hn.out];omega
      have hmul:=HR.out.mul hkn1
      have z0:=HR.out.at hkn
      have z1:=HR.out.at hkn1
      obtain ⟨_,_,e',p0⟩:=HAz.out.num hkn
      injection e' with e';injection e' with e1 e2 _;subst e1;subst e2
      obtain ⟨_,_,e',p1⟩:=HAz.out.num hkn1
      injection e' with e';injection e' with e1 e2 _;subst e1;subst e2
      have hb0:b < w.heap.size:=lt_of_cell p0
      have hbw1:b < w1.heap.size:=by have:=Hb.out.size;omega
      have p0r:=((Hb.out.trans (HW.out.mono Hb.out.size)).cell (p:=⟨b,o + k,none⟩) hb0).trans p0
      have p1r:=((Hb.out.trans (HW.out.mono Hb.out.size)).cell (p:=⟨b,o + (k + 1),none⟩) hb0).trans p1
      rw [z0.2.2] at p0r
      rw [z1.2.2,show o + (k + 1) = o + 1 + k by omega] at p1r
      have hmid:midN sz k = cntN sz k + szN sz (k + 1) * szN sz k:=rfl
      obtain ⟨p,hp⟩:∃ p,szN sz (k + 1) * szN sz k = p:=⟨_,rfl⟩
      rw [hp] at hmul hmid
      have hnx:=fun W (h1:W.heap[w1.heap.size + 1]? = _) (h2:W.heap[w1.heap.size]? = _) => next_any p (cntN sz k) (w1.heap.size + 1) w1.heap.size (.slice Ac n cc) (.slice A1 k c1) (.slice A2 k c2) W h1 h2 hcN (by omega)
      rw [← hmid] at hnx
      have hpr:(szN sz (k + 1):Int) * (szN sz k:Int) = (p:Int):=by rw [← Int.natCast_mul,hp]
      have hpw:IntKind.i64.wrap (p:Int) = (p:Int):=IntWalk.i64_in _ (by omega)
      have Hnx:=Lib.hid hnx;have Hmid:=Lib.hid hmid;clear hnx p0 p1 z0 z1 hmid
      have hki:(k:Int) < n:=by omega
      go_wp2_with fail
      have hSw:(fun w':World => w'.cell? ⟨w1.heap.size + 1,0,none⟩ = some (.pointer (some ⟨w1.heap.size,0,none⟩)) ∧ w'.cell? ⟨w1.heap.size,1,none⟩ = some (.slice A1 k c1) ∧ w'.cell? ⟨b,o + k,none⟩ = some (.int .i64 (szN sz k))) wr.drew:=⟨x0,s1,p0r⟩
      refine XA.g 15 (fun w':World => w'.cell? ⟨w1.heap.size + 1,0,none⟩ = some (.pointer (some ⟨w1.heap.size,0,none⟩)) ∧ w'.cell? ⟨w1.heap.size,1,none⟩ = some (.slice A1 k c1) ∧ w'.cell? ⟨b,o + k,none⟩ = some (.int .i64 (szN sz k))) ?_
      refine XA.t ?_ [0,1,2,3,4,5,6,7,8,9,10,11] hSw ?_
      refine XA.o 12 (fun K hK => ?_)
      go_simp
      refine (Hnx.out wr.drew HP.out HS.out).mono ?_
      rintro e w3 ⟨rfl,hS3,hK3⟩
      have g0:=hK3.cell (p:=⟨w1.heap.size + 1,0,none⟩) x0 (by simp)
      have g1:=cell_of_row w3 _ 1 _ _ _ hS3
      have g2:=hK3.cell (p:=⟨b,o + k,none⟩) p0r (by simp;omega)
      have l0:w1.heap.size + 1 < w3.heap.size:=lt_of_cell g0
      have l1:w1.heap.size < w3.heap.size:=lt_of_cell g1
      have l2:b < w3.heap.size:=lt_of_cell g2
      have HS3:=Lib.hid hS3;have HK3:=Lib.hid hK3;clear hS3 hK3
      dsimp only
      refine hK.out _ _ ⟨g0,g1,g2⟩ (fun hSw => ?_)
      clear hK K
      refine XA.o 13 (fun K hK => ?_)
      go_simp
      refine hK.out _ _ ⟨cell_alloc g0 _,cell_alloc g1 _,cell_alloc g2 _⟩ (fun hSw => ?_)
      clear hK K
      have hO3:=HK3.out.own (own_drewN HO1.out 1) (fun i hi e => block_notrow HS.out (by decide) HO1.out (by rw [hi,e]))
      have hP3:=(HK3.out.block _ (lt_of_block HP.out) (by omega)).trans HP.out
      have HO3:=Lib.hid hO3;have HP3:=Lib.hid hP3;clear hO3 hP3
      refine XA.o 14 (fun K hK => ?_)
      refine step_appX et_rngs (.tmp 39) (.tmp 48) rfl rfl w1.heap.size (.slice A1 k c1) k (wVals sz k) rfl (HO3.out.alloc _) (some ⟨w3.heap.size,0,none⟩) 1 1 [.int .i64 (cntN sz k:Int),.int .i64 (midN sz k:Int)] rfl (rd_newN w3 _ _ _ rfl) rfl (by simp [Value.oneCell']) (by omega) (by unfold maxLen;omega) (by simp;omega) ?_
      intro A4 c4 w4 ho4 hb4 hg4 hv4
      have hP4:=block_grown HP3.out (by decide) HO3.out hg4
      have hS4:=block_grown HS3.out (by decide) HO3.out hg4
      have i0:=cell_of_row w4 _ 0 _ _ _ hP4
      have i1:=cell_of_row w4 _ 1 _ _ _ hS4
      have i2:=cell_grown g2 hbw1 HO3.out hg4
      have i3:=frozen_of_row w4 _ 1 _ _ hS4
      have HO4:=Lib.hid ho4;have HP4:=Lib.hid hP4;have HS4:=Lib.hid hS4;have Hg4:=Lib.hid hg4;have Hv4:=Lib.hid hv4;have Hb4:=Lib.hid hb4;clear ho4 hP4 hS4 hg4 hv4 hb4
      dsimp only
      refine hK.out _ _ ⟨i0,i1,i2⟩ (fun hSw => ?_)
      clear hK K hSw
      refine XA.e ?_
      simp only [List.drop_succ_cons,List.drop_zero]
      go_wp2_with fail
      obtain ⟨h2o,h2n⟩:=own_other (HK3.out.own (own_drewN HO2.out 1) (fun i hi e => block_notrow HS.out (by decide) HO2.out (by rw [hi,e]))) HN.out Hg4.out Hv4.out
      have hP5:=(Below.heap_setCell w4 ⟨w1.heap.size,1,none⟩ (.slice A4 (k + 1) c4) (w1.heap.size + 1) (by simp)).trans HP4.out
      have hS5:=heap_setCell_same w4 w1.heap.size 1 _ _ (.slice A4 (k + 1) c4) HS4.out
      have hk5:Keep (fun i => i = w1.heap.size) w4 (w4.setCell ⟨w1.heap.size,1,none⟩ (.slice A4 (k + 1) c4)):=Keep.setCell (S:=fun i => i = w1.heap.size) (Keep.refl _ _) ⟨w1.heap.size,1,none⟩ (.inr rfl) _
      have ho5:=hk5.own HO4.out (fun i hi e => block_notrow HS4.out (by decide) HO4.out (by rw [hi,e]))
      have ho25:=hk5.own h2o (fun i hi e => block_notrow HS4.out (by decide) h2o (by rw [hi,e]))
      have hW5:Below w1.heap.size w1 (w4.setCell ⟨w1.heap.size,1,none⟩ (.slice A4 (k + 1) c4)):=
        ((HW.out.drew.trans ((HK3.out.toBelow (B:=w1.heap.size) (by simp;omega) (fun i hi => by omega)))).trans ((((Below.refl _ w3).alloc (by omega) _)).trans Hb4.out)).setCell (by simp) _
      rw [← wVals_succ] at ho5
      obtain ⟨w5,hw5⟩:∃ w5,w5 = w4.setCell ⟨w1.heap.size,1,none⟩ (.slice A4 (k + 1) c4):=⟨_,rfl⟩
      rw [← hw5] at hP5 hS5 ho5 ho25 hW5 ⊢
      clear hw5 hk5 h2o i0 i1 i2 i3 g0 g1 g2 l0 l1 l2 x0 xf s0 s1 s2 s3 sf
      obtain ⟨x0,xf⟩:=bx1 hP5
      have y2:=cell_of_row w5 _ 2 _ _ _ hS5
      have hm2:=midN_eq sz k
      have z1:=(HR.out.at hkn1).2.1
      have hcN1:=HR.out.bound hkn1
      have hnx:=fun W (h1:W.heap[w1.heap.size + 1]? = _) (h2:W.heap[w1.heap.size]? = _) => next_any (szN sz (k + 1)) (midN sz k) (w1.heap.size + 1) w1.heap.size (.slice Ac n cc) (.slice A4 (k + 1) c4) (.slice A2 k c2) W h1 h2 (by omega) (by omega)
      rw [hm2] at hnx
      have hPl:=lt_of_block hP5
      have hSl:=lt_of_block hS5
      have Hn5:=Lib.hid hnx;have HP5:=Lib.hid hP5;have HS5:=Lib.hid hS5;have HO5:=Lib.hid ho5;have HO25:=Lib.hid ho25;have HN5:=Lib.hid h2n;have HW5:=Lib.hid hW5;have Hm2:=Lib.hid hm2
      clear hnx hP5 hS5 ho5 ho25 h2n hW5 hm2 Hnx HK3 HS3 HO3 HP3 HO4 HP4 HS4 Hg4 Hv4 Hb4 hpr hpw
      go_wp2_with fail
      have hSw:(fun w':World => w'.cell? ⟨w1.heap.size + 1,0,none⟩ = some (.pointer (some ⟨w1.heap.size,0,none⟩)) ∧ w'.cell? ⟨w1.heap.size,2,none⟩ = some (.slice A2 k c2)) w5.drew:=⟨x0,y2⟩
      refine XA.g 10 (fun w':World => w'.cell? ⟨w1.heap.size + 1,0,none⟩ = some (.pointer (some ⟨w1.heap.size,0,none⟩)) ∧ w'.cell? ⟨w1.heap.size,2,none⟩ = some (.slice A2 k c2)) ?_
      refine XA.t ?_ [0,1,2,3,4,5,6] hSw ?_
      refine XA.o 7 (fun K hK => ?_)
      go_simp
      refine (Hn5.out w5.drew HP5.out HS5.out).mono ?_
      rintro e w6 ⟨rfl,hS6,hK6⟩
      have g0:=hK6.cell (p:=⟨w1.heap.size + 1,0,none⟩) x0 (by simp)
      have g1:=cell_of_row w6 _ 2 _ _ _ hS6
      have l0:w1.heap.size + 1 < w6.heap.size:=lt_of_cell g0
      have HS6:=Lib.hid hS6;have HK6:=Lib.hid hK6;clear hS6 hK6
      dsimp only
      refine hK.out _ _ ⟨g0,g1⟩ (fun hSw => ?_)
      clear hK K
      refine XA.o 8 (fun K hK => ?_)
      go_simp
      refine hK.out _ _ ⟨cell_alloc g0 _,cell_alloc g1 _⟩ (fun hSw => ?_)
      clear hK K
      have hO6:=HK6.out.own (own_drewN HO25.out 1) (fun i hi e => block_notrow HS5.out (by decide) HO25.out (by rw [hi,e]))
      have hP6:=(HK6.out.block _ (lt_of_block HP5.out) (by omega)).trans HP5.out
      have HO6:=Lib.hid hO6;have HP6:=Lib.hid hP6;clear hO6 hP6
      refine XA.o 9 (fun K hK => ?_)
      refine step_appX et_rngs (.tmp 56) (.tmp 60) rfl rfl w1.heap.size (.slice A2 k c2) k (bVals sz k) rfl (HO6.out.alloc _) (some ⟨w6.heap.size,0,none⟩) 1 1 [.int .i64 (midN sz k:Int),.int .i64 (cntN sz (k + 1):Int)] rfl (rd_newN w6 _ _ _ rfl) rfl (by simp [Value.oneCell']) (by omega) (by unfold maxLen;omega) (by simp;omega) ?_
      intro A7 c7 w7 ho7 hb7 hg7 hv7
      have hP7:=block_grown HP6.out (by decide) HO6.out hg7
      have hS7:=block_grown HS6.out (by decide) HO6.out hg7
      have i0:=cell_of_row w7 _ 0 _ _ _ hP7
      have i1:=cell_of_row w7 _ 2 _ _ _ hS7
      have i3:=frozen_of_row w7 _ 2 _ _ hS7
      have HO7:=Lib.hid ho7;have HP7:=Lib.hid hP7;have HS7:=Lib.hid hS7;have Hg7:=Lib.hid hg7;have Hv7:=Lib.hid hv7;have Hb7:=Lib.hid hb7;clear ho7 hP7 hS7 hg7 hv7 hb7
      dsimp only
      refine hK.out _ _ ⟨i0,i1⟩ (fun hSw => ?_)
      clear hK K hSw
      refine XA.e ?_
      simp only [List.drop_succ_cons,List.drop_zero]
      go_wp2_with fail
      obtain ⟨h2o,h2n⟩:=own_other (HK6.out.own (own_drewN HO5.out 1) (fun i hi e => block_notrow HS5.out (by decide) HO5.out (by rw [hi,e]))) (fun i hi e => HN5.out i e hi) Hg7.out Hv7.out
      have hP8:=(Below.heap_setCell w7 ⟨w1.heap.size,2,none⟩ (.slice A7 (k + 1) c7) (w1.heap.size + 1) (by simp)).trans HP7.out
      have hS8:=heap_setCell_same w7 w1.heap.size 2 _ _ (.slice A7 (k + 1) c7) HS7.out
      have hk8:Keep (fun i => i = w1.heap.size) w7 (w7.setCell ⟨w1.heap.size,2,none⟩ (.slice A7 (k + 1) c7)):=Keep.setCell (S:=fun i => i = w1.heap.size) (Keep.refl _ _) ⟨w1.heap.size,2,none⟩ (.inr rfl) _
      have ho8:=hk8.own HO7.out (fun i hi e => block_notrow HS7.out (by decide) HO7.out (by rw [hi,e]))
      have ho28:=hk8.own h2o (fun i hi e => block_notrow HS7.out (by decide) h2o (by rw [hi,e]))
      have hW8:Below w1.heap.size w1 (w7.setCell ⟨w1.heap.size,2,none⟩ (.slice A7 (k + 1) c7)):=
        ((HW5.out.drew.trans ((HK6.out.toBelow (B:=w1.heap.size) (by simp;omega) (fun i hi => by omega)))).trans ((((Below.refl _ w6).alloc (by omega) _)).trans Hb7.out)).setCell (by simp) _
      rw [← bVals_succ] at ho8
      go_roundw
      case rel => exact ⟨k + 1,by omega,by go_num,A4,c4,A7,c7,hP8,hS8,ho28,ho8,fun i hi e => h2n i e hi,hW8⟩
      case measure => simp [intOf];omega
    · obtain rfl:k = n - 1:=by omega
      have hlen:sz.length - 1 = n - 1:=by rw [Hn.out]
      have hsh:ShapeAt 123 (topW w.heap.size wr) w1.heap.size sz:=by
        have hz1:=Hb.out.size
        refine ⟨Ac,cc,A1,c1,A2,c2,?_,?_,?_,?_⟩
        · rw [Hn.out,top_blk hz1];exact HS.out
        · exact Rd.own (own_top (own_below Hown.out HW.out) (Nat.le_refl _))
        · rw [hlen];exact Rd.own (own_top HO1.out (by omega))
        · rw [hlen];exact Rd.own (own_top HO2.out (by omega))
      have hBel:Below w.heap.size w wr:=Hb.out.trans (HW.out.mono Hb.out.size)
      have Hsh:=Lib.hid hsh;have HBel:=Lib.hid hBel;have Hsz:=Lib.hid Hb.out.size;clear hsh hBel hlen
      by_cases hbig:1048576 < cntN sz (n - 1)
      · have hbi:(1048576:Int) < cntN sz (n - 1):=by omega
        go_wp2_with fail
        go_ret2
        exact ⟨HBel.out,.inl ⟨hbig,rfl⟩⟩
      · have hbi:¬ (1048576:Int) < cntN sz (n - 1):=by omega
        go_wp2_with fail
        go_ret2
        first | exact ⟨HBel.out,by omega,_,rfl,Hsh.out,Hsz.out⟩ | exact ⟨HBel.out,.inr ⟨by omega,_,rfl,Hsh.out,Hsz.out⟩⟩
end Go.Proofs.YthamijnggdjaoaaGreatDoor
namespace Go.Proofs.YthamijnggdjaoaaGreatDoor
open Go.RowKit
theorem count_any (n size:Nat) (w:World) (hn:n ≤ 1048576) (hs:1 ≤ size) (hs2:size ≤ 1048576) :
    Calls Tryz.prog 220 #[.int .i64 n,.int .i64 size] w fun e w' => e = .returned (.int .i64 (cntQ n size:Int)) ∧ w = w':=by
  have hq:¬ ((size:Int) < 1):=by omega
  by_cases h0:n = 0
  · subst h0
    go_enter Tryz.func220,Tryz.ntmps220
    go_wp2
    go_ret
    exact ⟨rfl,rfl⟩
  · have hq2:¬ ((n:Int) < 1):=by omega
    have hq3:(0:Int) ≤ (n:Int) - 1:=by omega
    have he:=ediv_pred n size (by omega)
    have hle:=Nat.div_le_self (n - 1) size
    have hc:cntQ n size = (n - 1) / size + 1:=by unfold cntQ;rw [if_neg h0]
    rw [hc]
    obtain ⟨y,hy⟩:∃ y,(n - 1) / size = y:=⟨_,rfl⟩
    rw [hy] at he hle ⊢
    have htd:((n:Int) - 1).tdiv size = y:=by rw [Int.tdiv_eq_ediv_of_nonneg hq3,he]
    have Hy:=Lib.hid hy;have Hc:=Lib.hid hc;clear hy hc h0
    go_enter Tryz.func220,Tryz.ntmps220
    go_wp2
    go_ret
    exact ⟨rfl,rfl⟩
set_option maxHeartbeats 800000 in
theorem blocks_any (n size:Nat) (w:World) (hn:n ≤ 1048576) (hs:1 ≤ size) (hs2:size ≤ 1048576) :
    Calls Tryz.prog 216 #[.int .i64 n,.int .i64 size] w fun e w' => ∃ v,e = .returned v ∧ w'.ownsRow w.heap.size 125 2 v (cntQ n size) (blkVals n size (cntQ n size)) ∧ Below w.heap.size w w':=by
  have hco:=count_any n size w hn hs hs2
  have hle:=cntQ_le n size
  have hlt':=fun k (h:k < cntQ n size) => cntQ_lt h
  obtain ⟨m,hm⟩:∃ m,cntQ n size = m:=⟨_,rfl⟩
  rw [hm] at hco hle hlt' ⊢
  have Hco:=Lib.hid hco;have Hlt:=Lib.hid hlt';clear hco hm hlt'
  go_enter Tryz.func216,Tryz.ntmps216
  go_wp2_with fail
  refine Hco.out.mono ?_
  rintro e w' ⟨rfl,rfl⟩
  go_wp2_with fail
  go_loopw [5,11] (fun v x wr => ∃ k:Nat,k ≤ m ∧ x = .int .i64 k ∧ wr.ownsRow w.heap.size 125 2 v k (blkVals n size k) ∧ Below w.heap.size w wr) (fun _ x _ => m - (intOf x).toNat)
  case atStart => exact ⟨0,Nat.zero_le _,rfl,World.ownsRow_nil _ _ _ _,Below.refl _ _⟩
  case round =>
    obtain ⟨k,hk,rfl,hown,hb⟩:=hrel
    by_cases hlt:k < m
    · have hlo:=Hlt.out k hlt
      obtain ⟨y,hy⟩:∃ y,k * size = y:=⟨_,rfl⟩
      rw [hy] at hlo
      have hmul:(k:Int) * (size:Int) = (y:Int):=by rw [← hy];push_cast;rfl
      obtain ⟨Al,cl,rfl,_⟩:=own_form hown
      have Hy:=Lib.hid hy;have Hown:=Lib.hid hown;have Hb:=Lib.hid hb;clear hown hb hy
      by_cases hsz:(size:Int) ≤ (n:Int) - y
      · have hsz2:(y:Int) + size ≤ n:=by omega
        go_wp2_with (at_builtin;refine wpList_push et_rngs _ rfl (.tmp 17) (.tmp 27) rfl w.heap.size (.slice Al k cl) k _ rfl Hown.out [.int .i64 (y:Int),.int .i64 ((y:Int) + size)] rfl rfl (nums_cell .i64 [_,_]) (by omega) (by unfold maxLen;omega) Hb.out.size ?_)
        intro g6 c6 w6 ho6 hb6 hg6
        have HO6:=Lib.hid ho6;have HB6:=Lib.hid (Hb.out.trans hb6)
        clear ho6 hb6 hg6
        go_wp2_with fail
        go_roundw
        case rel =>
          refine ⟨k + 1,by omega,by go_num,?_,HB6.out⟩
          rw [blkVals_succ,Hy.out,show ((min (y + size) n:Nat):Int) = (y:Int) + size by omega]
          exact HO6.out
        case measure => simp [intOf];omega
      · have hsz2:(n:Int) - y < size:=by omega
        go_wp2_with (at_builtin;refine wpList_push et_rngs _ rfl (.tmp 17) (.tmp 27) rfl w.heap.size (.slice Al k cl) k _ rfl Hown.out [.int .i64 (y:Int),.int .i64 ((y:Int) + ((n:Int) - y))] rfl rfl (nums_cell .i64 [_,_]) (by omega) (by unfold maxLen;omega) Hb.out.size ?_)
        intro g6 c6 w6 ho6 hb6 hg6
        have HO6:=Lib.hid ho6;have HB6:=Lib.hid (Hb.out.trans hb6)
        clear ho6 hb6 hg6
        go_wp2_with fail
        go_roundw
        case rel =>
          refine ⟨k + 1,by omega,by go_num,?_,HB6.out⟩
          rw [blkVals_succ,Hy.out,show ((min (y + size) n:Nat):Int) = (y:Int) + ((n:Int) - y) by omega]
          exact HO6.out
        case measure => simp [intOf];omega
    · obtain rfl:m = k:=by omega
      have Hown:=Lib.hid hown;have Hb:=Lib.hid hb;clear hown hb
      go_wp2_with fail
      go_ret
      exact ⟨_,rfl,Hown.out,Hb.out⟩
end Go.Proofs.YthamijnggdjaoaaGreatDoor
namespace Go.Proofs.YthamijnggdjaoaaGreatDoor
open Go.RowKit
def swp (p:List Int) (i j:Nat):List Int:=(p.set i (nth p j)).set j (nth p i)
theorem swp_len (p:List Int) (i j:Nat):(swp p i j).length = p.length:=by simp [swp]
theorem swp_nth {p:List Int} {i j:Nat} (hi:i < p.length) (hj:j < p.length) (k:Nat):nth (swp p i j) k = if k = j then nth p i else if k = i then nth p j else nth p k:=by
  unfold swp
  rw [nth_set,nth_set,List.length_set]
  simp only [hi,hj,and_true]
theorem swp_comm {p:List Int} {i j:Nat} (hi:i < p.length) (hj:j < p.length):(p.set j (nth p i)).set i (nth p j) = swp p i j:=by
  refine ext_nth (by simp [swp]) fun k hk => ?_
  rw [swp_nth hi hj,nth_set,nth_set,List.length_set]
  simp only [hi,hj,and_true]
  by_cases h1:k = i
  · subst h1
    by_cases h2:k = j
    · subst h2;simp
    · simp [h2]
  · simp [h1]
def iota (n:Nat):List Int:=upTo n fun k => (k:Int)
theorem iota_len (n:Nat):(iota n).length = n:=upTo_len _ _
def shufN (n:Nat) (d:Nat → Nat):Nat → List Int
  | 0 => iota n
  | k + 1 => swp (shufN n d k) (n - 1 - k) (d k)
theorem shufN_len (n:Nat) (d:Nat → Nat) (k:Nat):(shufN n d k).length = n:=by
  induction k with
  | zero => exact iota_len n
  | succ k ih => rw [shufN,swp_len,ih]
theorem shufN_bd {n:Nat} {d:Nat → Nat} (k:Nat) (hd:∀ j,j < k → d j < n - j) (hk:k ≤ n - 1):∀ i,i < n → 0 ≤ nth (shufN n d k) i ∧ nth (shufN n d k) i < n:=by
  induction k with
  | zero => intro i hi;unfold shufN iota;rw [upTo_nth _ hi];omega
  | succ k ih =>
    have ih:=ih (fun j hj => hd j (by omega)) (by omega)
    have h1:=hd k (by omega)
    intro i hi
    rw [shufN,swp_nth (by rw [shufN_len];omega) (by rw [shufN_len];omega)]
    split
    · exact ih _ (by omega)
    · split
      · exact ih _ (by omega)
      · exact ih _ hi
def drawN (l:List Int) (n i k:Nat):Nat:=(nth l (i + k) % ((n - k:Nat):Int)).toNat
theorem drawN_lt (l:List Int) {n i k:Nat} (h:k < n):drawN l n i k < n - k:=by
  unfold drawN
  have h1:=Int.emod_nonneg (nth l (i + k)) (show ((n - k:Nat):Int) ≠ 0 by omega)
  have h2:=Int.emod_lt_of_pos (nth l (i + k)) (show (0:Int) < ((n - k:Nat):Int) by omega)
  omega
theorem drawN_int (l:List Int) {n i k:Nat} (h:k < n):(drawN l n i k:Int) = nth l (i + k) % ((n - k:Nat):Int):=by
  unfold drawN
  have h1:=Int.emod_nonneg (nth l (i + k)) (show ((n - k:Nat):Int) ≠ 0 by omega)
  omega
def permN (l:List Int) (n i:Nat):List Int:=shufN n (drawN l n i) (n - 1)
theorem permN_len (l:List Int) (n i:Nat):(permN l n i).length = n:=shufN_len _ _ _
theorem permN_bd (l:List Int) (n i:Nat):∀ k,k < n → 0 ≤ nth (permN l n i) k ∧ nth (permN l n i) k < n:=shufN_bd _ (fun j hj => drawN_lt l (by omega)) (Nat.le_refl _)
def ordersN (l:List Int) (n e:Nat):List (List Int):=(List.range e).map fun k => permN l n (k * (n - 1))
theorem ordersN_len (l:List Int) (n e:Nat):(ordersN l n e).length = e:=by simp [ordersN]
theorem ordersN_at (l:List Int) (n:Nat) {e k:Nat} (h:k < e):(ordersN l n e)[k]? = some (permN l n (k * (n - 1))):=by simp [ordersN,h]
end Go.Proofs.YthamijnggdjaoaaGreatDoor
namespace Go.Proofs.YthamijnggdjaoaaGreatDoor
open Go.RowKit
theorem many1_no (n:Int) (w:World) (h:1 ≤ n):Calls Tryz.prog 282 #[.int .i64 n] w fun e w' => e = .returned (.bool false) ∧ w = w':=by
  have h1:¬ n < 1:=by omega
  go_enter Tryz.func282,Tryz.ntmps282
  go_wp2
  go_ret
  exact ⟨ret_bool (by first | rfl | (simp;omega) | (simp;done)),rfl⟩
theorem mindex_any (A:Option Addr) (l:List Int) (c:Nat) (w:World) (hA:Rd w A (nums .i64 l)) (hl:l.length ≤ 17592186043904) (hb:∀ k,k < l.length → 1 ≤ nth l k) :
    Calls Tryz.prog 110 #[.slice A l.length c,.func (.func 282) #[] #[]] w fun e w' => e = .returned (.int .i64 (-1)) ∧ w = w':=by
  obtain ⟨n,hn⟩:∃ n,l.length = n:=⟨_,rfl⟩
  have hw:=fun k (hk:k < l.length) => many1_no (nth l k) w (hb k hk)
  rw [hn] at hl hw ⊢
  have HA:=Lib.hid hA;have Hn:=Lib.hid hn;have Hw:=Lib.hid hw;clear hA hn hw hb
  go_enter Tryz.func110,Tryz.ntmps110
  go_wp2_with fail
  go_loop [5,8] (fun _ i => ∃ k:Nat,k ≤ n ∧ i = .int .i64 k) (fun _ i => n - (intOf i).toNat)
  case atStart => exact ⟨0,Nat.zero_le _,rfl⟩
  case round =>
    obtain ⟨k,hk,rfl⟩:=hrel
    by_cases hlt:k < n
    · obtain ⟨b,o,rfl,p⟩:=HA.out.num (show k < l.length by rw [Hn.out];exact hlt)
      have hw:=Hw.out k hlt
      have Hw2:=Lib.hid hw;clear hw
      go_wp2_with fail
      refine Hw2.out.mono ?_
      rintro e w' ⟨rfl,rfl⟩
      go_wp2_with fail
      go_round
      case rel => exact ⟨k + 1,by omega,by go_num⟩
      case measure => simp [intOf];omega
    · obtain rfl:k = n:=by omega
      go_wp2_with fail
      go_ret
      exact ⟨rfl,rfl⟩
theorem mcontains_no (A:Option Addr) (l:List Int) (c:Nat) (w:World) (hA:Rd w A (nums .i64 l)) (hl:l.length ≤ 17592186043904) (hb:∀ k,k < l.length → 1 ≤ nth l k) :
    Calls Tryz.prog 58 #[.slice A l.length c,.func (.func 282) #[] #[]] w fun e w' => e = .returned (.bool false) ∧ w = w':=by
  have hi:=mindex_any A l c w hA hl hb
  have Hi:=Lib.hid hi;clear hi hA hb
  go_enter Tryz.func58,Tryz.ntmps58
  go_wp2_with fail
  refine Hi.out.mono ?_
  rintro e w' ⟨rfl,rfl⟩
  go_wp2
  go_ret
  exact ⟨rfl,rfl⟩
theorem ident_any (n:Nat) (w:World) (hn:n ≤ 1048576) :
    Calls Tryz.prog 253 #[.int .i64 n] w fun e w' => ∃ v,e = .returned v ∧ w'.ownsRow w.heap.size 3 1 v n (nums .i64 (iota n)) ∧ Below w.heap.size w w':=by
  go_enter Tryz.func253,Tryz.ntmps253
  go_wp2_with fail
  go_loopw [3,6] (fun v i wr => ∃ k:Nat,k ≤ n ∧ i = .int .i64 k ∧ wr.ownsRow w.heap.size 3 1 v k (nums .i64 (iota k)) ∧ Below w.heap.size w wr) (fun _ i _ => n - (intOf i).toNat)
  case atStart => exact ⟨0,Nat.zero_le _,rfl,World.ownsRow_nil _ _ _ _,Below.refl _ _⟩
  case round =>
    obtain ⟨k,hk,rfl,hown,hb⟩:=hrel
    by_cases hlt:k < n
    · obtain ⟨Al,cl,rfl,_⟩:=own_form hown
      have Hown:=Lib.hid hown;have Hb:=Lib.hid hb;clear hown hb
      go_wp2_with (at_builtin;refine wpList_push et_ints _ rfl (.tmp 9) (.tmp 11) rfl w.heap.size (.slice Al k cl) k _ rfl Hown.out [.int .i64 (k:Int)] rfl rfl (nums_cell .i64 [_]) (by omega) (by unfold maxLen;omega) Hb.out.size ?_)
      intro g6 c6 w6 ho6 hb6 hg6
      have hb6':=Hb.out.trans hb6
      have HO6:=Lib.hid ho6;have HB6:=Lib.hid hb6'
      clear ho6 hb6 hg6 hb6'
      go_wp2_with fail
      go_roundw
      case rel =>
        refine ⟨k + 1,by omega,by go_num,?_,HB6.out⟩
        have:iota (k + 1) = iota k ++ [(k:Int)]:=upTo_succ _ _
        rw [this,nums_append];exact HO6.out
      case measure => simp [intOf];omega
    · obtain rfl:k = n:=by omega
      have Hown:=Lib.hid hown;have Hb:=Lib.hid hb;clear hown hb
      go_wp2_with fail
      go_ret
      exact ⟨_,rfl,Hown.out,Hb.out⟩
theorem many_any (b c i:Nat) (A:Option Addr) (l:List Int) (B:Option Addr) (bs:List Int) (d:Nat) (w:World) (h:StreamAt w b A c l i) (hi:i + bs.length ≤ l.length) (hl:l.length ≤ 1048576) (hu:U64 l)
    (hB:Rd w B (nums .i64 bs)) (hne:∀ a,B = some a → a.block ≠ b) (hbs:∀ k,k < bs.length → 1 ≤ nth bs k ∧ nth bs k ≤ 1048576) :
    Calls Tryz.prog 252 #[.pointer (some ⟨b,0,none⟩),.slice B bs.length d] w fun e w' => ∃ v,e = .returned (.tuple #[v,.bool true]) ∧ w'.ownsRow w.heap.size 3 1 v bs.length (nums .i64 (upTo bs.length fun k => nth l (i + k) % nth bs k)) ∧ StreamAt w' b A c l (i + bs.length) ∧ Keep (fun j => j = b) w w':=by
  have hle:=stream_left b c i A l w h (by omega) (by omega)
  have hco:=fun n => mcontains_no B bs d (w.drewN n) (hB.drewN n) (by omega) (fun k hk => (hbs k hk).1)
  have hnx:=fun j m w' (h:StreamAt w' b A c l j) (hj:j < l.length) => stream_next b c j m A l w' h hj (by omega) hu
  obtain ⟨n,hn⟩:∃ n,bs.length = n:=⟨_,rfl⟩
  rw [hn] at hi hco hbs ⊢
  obtain ⟨N,hN⟩:∃ N,l.length = N:=⟨_,rfl⟩
  rw [hN] at hi hl hle hnx
  have hbw:=h.lt
  have Hle:=Lib.hid hle;have Hco:=Lib.hid hco;have Hnx:=Lib.hid hnx;have H:=Lib.hid h;have HB:=Lib.hid hB;have Hn:=Lib.hid hn;have Hbs:=Lib.hid hbs;have Hne:=Lib.hid hne
  clear hle hco hnx h hB hn hbs hu hne hN
  have hq:decide (((N - i:Nat):Int) < (n:Int)) = false:=by simp;omega
  have hq':decide (N - i < n) = false:=by simp;omega
  go_enter Tryz.func252,Tryz.ntmps252
  go_wp2_with fail
  refine Hle.out.mono ?_
  rintro e w' ⟨rfl,a,rfl⟩
  go_wp2_with fail
  refine (Hco.out a).mono ?_
  rintro e w' ⟨rfl,rfl⟩
  clear hq hq'
  go_wp2_with fail
  go_loopw [6,26] (fun v x wr => ∃ k:Nat,k ≤ n ∧ x = .int .i64 k ∧ wr.ownsRow w.heap.size 3 1 v k (nums .i64 (upTo k fun k => nth l (i + k) % nth bs k)) ∧ StreamAt wr b A c l (i + k) ∧ Keep (fun j => j = b) w wr) (fun _ x _ => n - (intOf x).toNat)
  case atStart => exact ⟨0,Nat.zero_le _,rfl,World.ownsRow_nil _ _ _ _,H.out.drewN a,(Keep.refl _ _).drewN a⟩
  case round =>
    obtain ⟨k,hk,rfl,hown,hS,hK⟩:=hrel
    by_cases hlt:k < n
    · obtain ⟨Al,cl,rfl,_⟩:=own_form hown
      have hB':=hK.rd HB.out (fun a ha e => Hne.out a ha e)
      obtain ⟨bB,oB,rfl,p⟩:=hB'.num (show k < bs.length by rw [Hn.out];exact hlt)
      have hbk:=Hbs.out k hlt
      obtain ⟨m,hm⟩:∃ m:Nat,nth bs k = (m:Int):=⟨(nth bs k).toNat,by omega⟩
      rw [hm] at p hbk
      have hnx:=Hnx.out (i + k) m wr hS (by omega) (by omega) (by omega)
      obtain ⟨y,hy⟩:∃ y,nth l (i + k) % (m:Int) = y:=⟨_,rfl⟩
      rw [hy] at hnx
      have hsz:=hK.size
      have hlo:=hown.lt
      have Hown:=Lib.hid hown;have HK:=Lib.hid hK;have Hm:=Lib.hid hm;have Hnx2:=Lib.hid hnx;have Hy:=Lib.hid hy;have Hlo:=Lib.hid hlo;clear hown hK hS hB' hm hnx hy hlo
      go_wp2_with fail
      refine Hnx2.out.mono ?_
      rintro e w1 ⟨rfl,hS1,hK1⟩
      have hown1:=hK1.own Hown.out (fun x hx e => by have:=(Hlo.out x hx).1;omega)
      have hsz1:=hK1.size
      have HS1:=Lib.hid hS1;have HK1:=Lib.hid hK1;have Hown1:=Lib.hid hown1;clear hS1 hK1 hown1
      go_wp2_with (at_builtin;refine wpList_push et_ints _ rfl (.tmp 36) (.tmp 38) rfl w.heap.size (.slice Al k cl) k _ rfl Hown1.out [.int .i64 y] rfl rfl (nums_cell .i64 [_]) (by omega) (by unfold maxLen;omega) (by omega) ?_)
      intro g6 c6 w6 ho6 hb6 hg6
      have HO6:=Lib.hid ho6;have HB6:=Lib.hid hb6
      have hK6:=(HK.out.trans HK1.out).below2 hb6
      have HK6:=Lib.hid hK6
      clear ho6 hb6 hg6 hK6
      go_wp2_with fail
      go_roundw
      case rel =>
        refine ⟨k + 1,by omega,by go_num,?_,?_,HK6.out⟩
        · rw [upTo_succ,nums_append,Hm.out,Hy.out];exact HO6.out
        · exact ⟨(HB6.out.block b hbw).trans HS1.out.blk,HK6.out.rd H.out.rd (fun a ha e => H.out.ne a ha e),H.out.ne⟩
      case measure => simp [intOf];omega
    · obtain rfl:k = n:=by omega
      have Hown:=Lib.hid hown;have HK:=Lib.hid hK;have HS:=Lib.hid hS;clear hown hK hS
      go_wp2_with fail
      go_ret2
      exact ⟨_,rfl,Hown.out,HS.out,HK.out⟩
theorem cell?_setCell_some {w:World} {p q:Addr} {x v:Value} (h:w.cell? q = some v):∃ v',(w.setCell p x).cell? q = some v':=by
  by_cases e:p = q
  · subst e;exact ⟨x,World.cell?_setCell_same w p x h⟩
  · exact ⟨v,(World.cell?_setCell_other w p q x e).trans h⟩
theorem own_addr {w:World} {base size n c m:Nat} {e:TypeId} {A:Option Addr} {xs:List Value} (h:w.ownsRow base e size (.slice A n c) m xs):∀ a,A = some a → base ≤ a.block ∧ a.block < w.heap.size:=fun a ha => by
  subst ha
  rcases h.2 with ⟨hn,_⟩ | ⟨g,cap,cur,hv,_⟩
  · cases hn
  · simp only [Value.slice.injEq,Option.some.injEq] at hv
    obtain ⟨rfl,_,_⟩:=hv
    exact h.lt g rfl
theorem swap_any (P g n c base i j:Nat) (p:List Int) (w:World) (hP:w.heap[P]? = some (.cells #[.slice (some ⟨g,0,none⟩) n c] 22 (0,0))) (hown:w.ownsRow base 3 1 (.slice (some ⟨g,0,none⟩) n c) n (nums .i64 p)) (hi:i < n) (hj:j < n) (hn:n ≤ 1048576) :
    Calls Tryz.prog 254 #[.int .i64 i,.int .i64 j,.pointer (some ⟨P,0,none⟩)] w fun e w' => e = .returned (.tuple #[]) ∧ w'.ownsRow base 3 1 (.slice (some ⟨g,0,none⟩) n c) n (nums .i64 (swp p i j)) ∧ Keep (fun k => k = g) w w':=by
  have hpl:=own_len hown
  have p1:=own_num hown hi
  have p2:=own_num hown hj
  have f1:=hown.frozenAt i
  have f2:=hown.frozenAt j
  have hcm:=swp_comm (p:=p) (i:=i) (j:=j) (by omega) (by omega)
  obtain ⟨x0,xf⟩:=bx1 hP
  have hii:(i:Int) < n:=by omega
  have hjj:(j:Int) < n:=by omega
  have hne:g ≠ P:=fun e => block_notrow hP (by decide) hown (by rw [← e];rfl)
  have hx1:=(World.cell?_setCell_other w ⟨g,i,none⟩ ⟨P,0,none⟩ (.int .i64 (nth p j)) (by simp [hne])).trans x0
  have hx2:=(World.cell?_setCell_other w ⟨g,j,none⟩ ⟨P,0,none⟩ (.int .i64 (nth p i)) (by simp [hne])).trans x0
  obtain ⟨v1,hy1⟩:=cell?_setCell_some (w:=w) (p:=⟨g,i,none⟩) (x:=.int .i64 (nth p j)) (q:=⟨g,j,none⟩) p2
  obtain ⟨v2,hy2⟩:=cell?_setCell_some (w:=w) (p:=⟨g,j,none⟩) (x:=.int .i64 (nth p i)) (q:=⟨g,i,none⟩) p1
  have HO:=Lib.hid hown;have Hpl:=Lib.hid hpl;have Hcm:=Lib.hid hcm;clear hown hpl hP hcm
  go_enter Tryz.func254,Tryz.ntmps254
  go_wp2_with fail
  go_region
  all_goals go_wp2_with fail
  all_goals
    go_end0
    refine ⟨rfl,?_,?_⟩
  · exact own_drewN (own_put (own_put HO.out i _) j _) 1
  · exact (Keep.setCell (S:=fun k => k = g) (Keep.setCell (S:=fun k => k = g) (Keep.refl _ w) ⟨g,i,none⟩ (.inr rfl) _) ⟨g,j,none⟩ (.inr rfl) _).drew
set_option maxRecDepth 100000 in
set_option maxHeartbeats 1600000 in
theorem shuffle_any (n b c i:Nat) (A:Option Addr) (l:List Int) (w:World) (h:StreamAt w b A c l i) (hn:1 ≤ n) (hn2:n ≤ 1048576) (hi:i + (n - 1) ≤ l.length) (hl:l.length ≤ 1048576) (hu:U64 l) :
    Calls Tryz.prog 219 #[.int .i64 n,.pointer (some ⟨b,0,none⟩)] w fun e w' => ∃ v,e = .returned (.tuple #[v,.bool true]) ∧ w'.ownsRow w.heap.size 3 1 v n (nums .i64 (permN l n i)) ∧ StreamAt w' b A c l (i + (n - 1)) ∧ Keep (fun j => j = b) w w':=by
  obtain ⟨m,hm⟩:∃ m,n - 1 = m:=⟨_,rfl⟩
  rw [hm] at hi ⊢
  have hpn:permN l n i = shufN n (drawN l n i) m:=by unfold permN;rw [hm]
  rw [hpn]
  have hmn:m < n:=by omega
  have hnm:n ≤ m + 1:=by omega
  clear hm hpn
  have hma:=fun B d w' (h:StreamAt w' b A c l i) (hB:Rd w' B (nums .i64 (upTo m fun k => ((n - k:Nat):Int)))) hne => many_any b c i A l B (upTo m fun k => ((n - k:Nat):Int)) d w' h (by rw [upTo_len];exact hi) hl hu hB hne (fun k hk => by rw [upTo_len] at hk;rw [upTo_nth _ hk];omega)
  simp only [upTo_len] at hma
  have he:(upTo m fun k => nth l (i + k) % nth (upTo m fun k => ((n - k:Nat):Int)) k) = upTo m fun k => (drawN l n i k:Int):=upTo_congr fun k hk => by rw [upTo_nth _ hk,drawN_int l (by omega)]
  rw [he] at hma
  have hid:=fun w' => ident_any n w' hn2
  have hbw:=h.lt
  have Hma:=Lib.hid hma;have Hid':=Lib.hid hid;have H:=Lib.hid h
  clear hma he hid h hu
  go_enter Tryz.func219,Tryz.ntmps219
  go_wp2_with fail
  go_loopw [6,7] (fun v x wr => ∃ k:Nat,k ≤ m ∧ x = .int .i64 ((n:Int) - k) ∧ wr.ownsRow w.heap.size 3 1 v k (nums .i64 (upTo k fun k => ((n - k:Nat):Int))) ∧ Below w.heap.size w wr) (fun _ x _ => (intOf x).toNat)
  case atStart => exact ⟨0,Nat.zero_le _,by go_num,World.ownsRow_nil _ _ _ _,Below.refl _ _⟩
  case round =>
    obtain ⟨k,hk,rfl,hown,hb⟩:=hrel
    by_cases hlt:k < m
    · obtain ⟨Al,cl,rfl,_⟩:=own_form hown
      have Hown:=Lib.hid hown;have Hb:=Lib.hid hb;clear hown hb
      go_wp2_with (at_builtin;refine wpList_push et_ints _ rfl (.tmp 29) (.tmp 31) rfl w.heap.size (.slice Al k cl) k _ rfl Hown.out [.int .i64 ((n:Int) - k)] rfl rfl (nums_cell .i64 [_]) (by omega) (by unfold maxLen;omega) Hb.out.size ?_)
      intro g6 c6 w6 ho6 hb6 hg6
      have hb6':=Hb.out.trans hb6
      have HO6:=Lib.hid ho6;have HB6:=Lib.hid hb6'
      clear ho6 hb6 hg6 hb6'
      go_wp2_with fail
      go_roundw
      case rel =>
        refine ⟨k + 1,by omega,by go_num,?_,HB6.out⟩
        rw [upTo_succ,nums_append,show ((n - k:Nat):Int) = (n:Int) - k by omega];exact HO6.out
      case measure => simp [intOf];omega
    · obtain rfl:m = k:=by omega
      obtain ⟨Al,cl,rfl,_⟩:=own_form hown
      have hne:∀ a,Al = some a → a.block ≠ b:=fun a ha e => by
        subst ha
        have:=own_addr hown a rfl
        omega
      have hmr:=Hma.out Al cl wr (H.out.below hb) (Rd.own hown) hne
      have Hmr:=Lib.hid hmr;have Hb:=Lib.hid hb;clear hown hb hmr hne
      obtain ⟨wq,rfl⟩:∃ wq:World,wq = wr:=⟨_,rfl⟩
      go_wp2_with fail
      refine Hmr.out.mono ?_
      rintro e w1 ⟨v1,rfl,ho1,hS1,hK1⟩
      obtain ⟨A1,c1,rfl,_⟩:=own_form ho1
      have ha1:=own_addr ho1
      have hr1:=Rd.own ho1
      have hs1:=hK1.size
      have hKw:=(Keep.below (S:=fun j => j = b) Hb.out).trans hK1
      have hs0:=hKw.size
      have HS1:=Lib.hid hS1;have HK1:=Lib.hid hKw;have Hr1:=Lib.hid hr1;have Ha1:=Lib.hid ha1;clear hS1 hK1 hr1 ho1 ha1 hKw
      go_wp2_with fail
      refine (Hid'.out w1).mono ?_
      rintro e w2 ⟨v2,rfl,ho2,hb2⟩
      obtain ⟨g,c2,rfl,_⟩:=ho2.form hn
      have hs2:=hb2.size
      have hgl:=ho2.lt g rfl
      have hP:=heap_alloc_new w2 (.cells #[.slice (some ⟨g,0,none⟩) n c2] 22)
      have hB3:=hb2.alloc hs2 (.cells #[.slice (some ⟨g,0,none⟩) n c2] 22)
      have ho3:=ho2.alloc (.cells #[.slice (some ⟨g,0,none⟩) n c2] 22)
      have hr3:=Hr1.out.below hB3
      have HP:=Lib.hid hP;have HB3:=Lib.hid hB3;have Ho3:=Lib.hid ho3;have Hr3:=Lib.hid hr3;clear hP hB3 ho3 hr3 ho2 hb2
      go_wp2_with fail
      obtain ⟨W3,hW3⟩:∃ W3,W3 = w2.alloc (.cells #[.slice (some ⟨g,0,none⟩) n c2] 22):=⟨_,rfl⟩
      have hs3:w2.heap.size < W3.heap.size:=by rw [hW3];simp
      have HP3:Hid (W3.heap[w2.heap.size]? = some (.cells #[.slice (some ⟨g,0,none⟩) n c2] 22 (0,0))):=Lib.hid (by rw [hW3];exact HP.out)
      have HB4:Hid (Below w1.heap.size w1 W3):=Lib.hid (by rw [hW3];exact HB3.out)
      have Ho4:Hid (W3.ownsRow w1.heap.size 3 1 (.slice (some ⟨g,0,none⟩) n c2) n (nums .i64 (iota n))):=Lib.hid (by rw [hW3];exact Ho3.out)
      have Hr4:Hid (Rd W3 A1 (nums .i64 (upTo m fun k => (drawN l n i k:Int)))):=Lib.hid (by rw [hW3];exact Hr3.out)
      rw [← hW3]
      clear HP HB3 Ho3 Hr3 hW3
      go_loopw [46] (fun x wr => ∃ k:Nat,k ≤ m ∧ x = .int .i64 k ∧ wr.heap[w2.heap.size]? = some (.cells #[.slice (some ⟨g,0,none⟩) n c2] 22 (0,0)) ∧ wr.ownsRow w1.heap.size 3 1 (.slice (some ⟨g,0,none⟩) n c2) n (nums .i64 (shufN n (drawN l n i) k)) ∧ Keep (fun j => j = g) W3 wr) (fun x _ => m - (intOf x).toNat)
      case atStart => exact ⟨0,Nat.zero_le _,rfl,HP3.out,Ho4.out,Keep.refl _ _⟩
      case round =>
        obtain ⟨k,hk,rfl,hP,hown,hK⟩:=hrel
        by_cases hlt:k < m
        · have hr:=hK.rd Hr4.out (fun a ha e => by have:=(Ha1.out a ha).2;omega)
          obtain ⟨bA,oA,rfl,p⟩:=hr.num (show k < _ by rw [upTo_len];exact hlt)
          rw [upTo_nth _ hlt] at p
          have hdl:=drawN_lt l (n:=n) (i:=i) (k:=k) (by omega)
          have hsw:=swap_any w2.heap.size g n c2 w1.heap.size (n - 1 - k) (drawN l n i k) (shufN n (drawN l n i) k) wr hP hown (by omega) (by omega) hn2
          rw [show ((n - 1 - k:Nat):Int) = (n:Int) - 1 - k by omega] at hsw
          have hps:=lt_of_block hP
          have Hsw:=Lib.hid hsw;have HP:=Lib.hid hP;have HK:=Lib.hid hK;clear hsw hP hown hK hr
          obtain ⟨dk,hdk⟩:∃ dk,drawN l n i k = dk:=⟨_,rfl⟩
          rw [hdk] at p
          have hsw:=Hsw.out
          rw [hdk] at hsw hdl
          have Hsw2:=Lib.hid hsw;have Hdk:=Lib.hid hdk;clear Hsw hsw hdk
          go_wp2_with fail
          refine Hsw2.out.mono ?_
          rintro e w5 ⟨rfl,ho5,hK5⟩
          have hP5:=(hK5.block _ hps (by omega)).trans HP.out
          have HP5:=Lib.hid hP5;have Ho5:=Lib.hid ho5;have HK5:=Lib.hid (HK.out.trans hK5);clear hP5 ho5 hK5 p
          go_wp2_with fail
          go_roundw
          case rel =>
            refine ⟨k + 1,by omega,by go_num,HP5.out,?_,HK5.out⟩
            rw [shufN,Hdk.out];exact Ho5.out
          case measure => simp [intOf];omega
        · obtain rfl:m = k:=by omega
          obtain ⟨x0,xf⟩:=bx1 hP
          have hKf:Keep (fun j => j = b) w wr:=HK1.out.below2 ((HB4.out.mono (by omega)).trans (hK.toBelow (by omega) (fun j hj => by omega)))
          have hSf:StreamAt wr b A c l (i + m):=⟨(hK.block b (by omega) (by omega)).trans ((HB4.out.block b (by omega)).trans HS1.out.blk),hKf.rd H.out.rd (fun a ha e => H.out.ne a ha e),H.out.ne⟩
          have HKf:=Lib.hid hKf;have HSf:=Lib.hid hSf;have Hown:=Lib.hid (own_base (base':=w.heap.size) hown (by omega));clear hKf hSf hown hK hP
          go_wp2_with fail
          go_ret2
          exact ⟨_,rfl,Hown.out,HSf.out,HKf.out⟩
end Go.Proofs.YthamijnggdjaoaaGreatDoor
namespace Go.Proofs.YthamijnggdjaoaaGreatDoor
open Go.RowKit
theorem et_intss:ElemT Tryz.prog 151 22 (.slice none 0 0) 1 24:=⟨Tryz.underlying151,info_parts (by kernel_rfl),rfl,by decide⟩
def EpochIs (S n b c i k base:Nat) (A:Option Addr) (l:List Int) (x0 x1 x2:Value) (vs:List Value) (w:World) (e:Ending) (w':World):Prop:=
  e = .returned (.bool true) ∧ ∃ A1 c1 Ao co,w'.heap[S]? = some (.cells #[x0,x1,x2,.slice Ao (k + 1) co] 353 (0,0)) ∧
    w'.ownsRow base 22 1 (.slice Ao (k + 1) co) (k + 1) (vs ++ [.slice A1 n c1]) ∧ n ≤ c1 ∧ w'.ownsRow base 3 1 (.slice A1 n c1) n (nums .i64 (permN l n i)) ∧
    w'.heap[b]? = some (.cells #[.slice A l.length c,.int .i64 ((i + (n - 1):Nat):Int)] 400 (0,0)) ∧
    (∀ base' m v xs,w.ownsRow base' 3 1 v m xs → w'.ownsRow base' 3 1 v m xs) ∧ Keep (fun j => j = b ∨ j = S ∨ base ≤ j) w w'
set_option maxRecDepth 100000 in
set_option maxHeartbeats 1600000 in
theorem epoch_any (N P1 P2 S n b c i k base:Nat) (A:Option Addr) (l:List Int) (Ao:Option Addr) (co:Nat) (x0 x1 x2:Value) (vs:List Value) (w:World)
    (hN:w.heap[N]? = some (.cells #[.int .i64 n] 3 (0,0))) (hP1:w.heap[P1]? = some (.cells #[.pointer (some ⟨b,0,none⟩)] 354 (0,0))) (hP2:w.heap[P2]? = some (.cells #[.pointer (some ⟨S,0,none⟩)] 283 (0,0)))
    (hS:w.heap[S]? = some (.cells #[x0,x1,x2,.slice Ao k co] 353 (0,0))) (h:StreamAt w b A c l i) (hor:w.ownsRow base 22 1 (.slice Ao k co) k vs) (hbase:base ≤ w.heap.size)
    (hk:k ≤ 1048576) (hn:1 ≤ n) (hn2:n ≤ 1048576) (hi:i + (n - 1) ≤ l.length) (hl:l.length ≤ 1048576) (hu:U64 l) :
    Calls Tryz.prog 218 #[.pointer (some ⟨N,0,none⟩),.pointer (some ⟨P1,0,none⟩),.pointer (some ⟨P2,0,none⟩)] w (EpochIs S n b c i k base A l x0 x1 x2 vs w):=by
  have hsh:=shuffle_any n b c i A l w h hn hn2 hi hl hu
  have hbS:b ≠ S:=fun e => by
    have h1:=h.blk;rw [e,hS] at h1;simp at h1
  have hbP:b ≠ P2:=fun e => by
    have h1:=h.blk;rw [e,hP2] at h1;simp at h1
  have hbo:∀ j,(Value.slice Ao k co).ownBlock = some j → j ≠ b:=fun j hj e => block_notrow h.blk (by decide) hor (by rw [← e,hj])
  have hall:∀ base' m v xs,w.ownsRow base' 3 1 v m xs → ∀ j,v.ownBlock = some j → j ≠ b:=fun base' m v xs hr j hj e => block_notrow h.blk (by decide) hr (by rw [← e,hj])
  obtain ⟨p0,pf⟩:=bx1 hN
  obtain ⟨q0,qf⟩:=bx1 hP1
  have hPl:=lt_of_block hP2
  have hSl:=lt_of_block hS
  have Hsh:=Lib.hid hsh;have HP2:=Lib.hid hP2;have HS:=Lib.hid hS;have Hor:=Lib.hid hor;have Hbo:=Lib.hid hbo;have Hall:=Lib.hid hall;have HbS:=Lib.hid hbS;have HbP:=Lib.hid hbP
  clear hsh hP2 hS hor hbo hall hbS hbP hN hP1 h hu
  go_enter Tryz.func218,Tryz.ntmps218
  go_wp2_with fail
  refine Hsh.out.mono ?_
  rintro e w1 ⟨v1,rfl,ho1,hS1,hK1⟩
  obtain ⟨A1,c1,rfl,hc1⟩:=own_form ho1
  have hQ2:=(hK1.block P2 hPl (fun e => HbP.out e.symm)).trans HP2.out
  have hT2:=(hK1.block S hSl (fun e => HbS.out e.symm)).trans HS.out
  have hor1:=hK1.own Hor.out (fun j hj e => Hbo.out j hj e)
  have hz1:=hK1.size
  obtain ⟨t0,tf⟩:=bx1 hQ2
  obtain ⟨⟨y0,y1,y2,y3⟩,yf⟩:=bx4 hT2
  have Ho1:=Lib.hid ho1;have HS1:=Lib.hid hS1;have HK1:=Lib.hid hK1;have HQ2:=Lib.hid hQ2;have HT2:=Lib.hid hT2;have Hor1:=Lib.hid hor1;have Hc1:=Lib.hid hc1
  clear ho1 hS1 hK1 hQ2 hT2 hor1 hc1 p0 pf q0 qf
  go_wp2_with fail
  have hSw:(fun w':World => w'.cell? ⟨P2,0,none⟩ = some (.pointer (some ⟨S,0,none⟩)) ∧ w'.cell? ⟨S,3,none⟩ = some (.slice Ao k co)) w1.drew:=⟨t0,y3⟩
  refine XA.g 8 (fun w':World => w'.cell? ⟨P2,0,none⟩ = some (.pointer (some ⟨S,0,none⟩)) ∧ w'.cell? ⟨S,3,none⟩ = some (.slice Ao k co)) ?_
  refine XA.t ?_ [0,1,2,3,4,5] hSw ?_
  refine XA.o 6 (fun K hK => ?_)
  go_simp
  refine hK.out _ _ ⟨cell_alloc hSw.1 _,cell_alloc hSw.2 _⟩ (fun hSw => ?_)
  clear hK K
  refine XA.o 7 (fun K hK => ?_)
  refine step_appX et_intss (.tmp 16) (.tmp 18) rfl rfl base (.slice Ao k co) k vs rfl (own_drewN (Hor1.out.alloc _) 1) (some ⟨w1.heap.size,0,none⟩) 1 1 [.slice A1 n c1] rfl (rd_newN w1 _ _ _ rfl) rfl (by simp [Value.oneCell']) (by omega) (by unfold maxLen;omega) (by simp;omega) ?_
  intro A7 c7 w7 ho7 hb7 hg7 _
  have hg7:=grown_undrew hg7
  have hS7:=block_grown (o:=.cells #[.slice A1 n c1] 22 (0,0)) HT2.out (by decide) Hor1.out hg7
  have hP7:=block_grown (o:=.cells #[.slice A1 n c1] 22 (0,0)) HQ2.out (by decide) Hor1.out hg7
  have hb7':=block_grown (o:=.cells #[.slice A1 n c1] 22 (0,0)) HS1.out.blk (by decide) Hor1.out hg7
  have i0:=cell_of_row w7 _ 0 _ _ _ hP7
  have i3:=cell_of_row w7 _ 3 _ _ _ hS7
  have if3:=frozen_of_row w7 _ 3 _ _ hS7
  have HO7:=Lib.hid ho7;have HS7:=Lib.hid hS7;have Hg7:=Lib.hid hg7;have Hb7:=Lib.hid hb7;have HB7:=Lib.hid hb7';clear ho7 hS7 hg7 hb7 hP7 hb7'
  dsimp only
  refine hK.out _ _ ⟨i0,i3⟩ (fun hSw => ?_)
  clear hK K hSw
  refine XA.e ?_
  simp only [List.drop_succ_cons,List.drop_zero]
  go_wp2_with fail
  have hS8:=heap_setCell_same w7 S 3 _ _ (.slice A7 (k + 1) c7) HS7.out
  have hk8:Keep (fun j => j = S) w7 (w7.setCell ⟨S,3,none⟩ (.slice A7 (k + 1) c7)):=Keep.setCell (S:=fun j => j = S) (Keep.refl _ _) ⟨S,3,none⟩ (.inr rfl) _
  have ho8:=hk8.own HO7.out (fun j hj e => block_notrow HS7.out (by decide) HO7.out (by rw [hj,e]))
  have hb8:=(hk8.block b (by have:=lt_of_block HB7.out;omega) (fun e => HbS.out e)).trans HB7.out
  have hrow:∀ base' m v xs,w1.ownsRow base' 3 1 v m xs → (w7.setCell ⟨S,3,none⟩ (.slice A7 (k + 1) c7)).ownsRow base' 3 1 v m xs:=fun base' m v xs h => own_past h Hor1.out Hg7.out HS7.out (by decide) (by decide)
  have hKall:Keep (fun j => j = b ∨ j = S ∨ base ≤ j) w (w7.setCell ⟨S,3,none⟩ (.slice A7 (k + 1) c7)):=by
    refine ⟨hk8.os.trans (Hb7.out.os.trans HK1.out.os),hk8.tape.trans (Hb7.out.tape.trans HK1.out.tape),hk8.output.trans (Hb7.out.output.trans HK1.out.output),?_,fun j hj hn => ?_⟩
    · have:=Hb7.out.size;have:=hk8.size;simp at *;omega
    · have hnb:¬ j = b:=fun e => hn (.inl e)
      have hnS:¬ j = S:=fun e => hn (.inr (.inl e))
      have hnB:j < base:=by rcases Nat.lt_or_ge j base with h | h;exact h;exact absurd (.inr (.inr h)) hn
      have h1:=HK1.out.block j hj hnb
      have h2:=Hb7.out.block j hnB
      have h3:=hk8.block j (by have:=Hb7.out.size;simp at this;omega) hnS
      refine h3.trans (h2.trans (Eq.trans ?_ h1))
      exact Below.heap_alloc w1 _ j (by omega)
  have HS8:=Lib.hid hS8;have Ho8:=Lib.hid ho8;have Hb8:=Lib.hid hb8;have Hrow:=Lib.hid hrow;have HKall:=Lib.hid hKall
  clear hS8 hk8 ho8 hb8 hrow hKall
  go_ret
  refine ⟨rfl,A1,c1,A7,c7,HS8.out,Ho8.out,Hc1.out,?_,Hb8.out,fun base' m v xs hr => Hrow.out _ _ _ _ (HK1.out.own hr (fun j hj e => Hall.out _ _ _ _ hr j hj e)),HKall.out⟩
  exact Hrow.out _ _ _ _ (own_base Ho1.out hbase)
end Go.Proofs.YthamijnggdjaoaaGreatDoor
namespace Go.Proofs.YthamijnggdjaoaaGreatDoor
open Go.RowKit
def epN (n batch steps:Nat):Nat:=cntQ steps (n / batch)
def SampAt (w:World) (S n batch steps:Nat) (l:List Int):Prop:=
  ∃ Ab cb Ao co vs,w.heap[S]? = some (.cells #[.int .i64 batch,.int .i64 steps,.slice Ab (n / batch) cb,.slice Ao (epN n batch steps) co] 353 (0,0)) ∧
    Rd w Ab (blkVals (n - n % batch) batch (n / batch)) ∧ Rd w Ao vs ∧ vs.length = epN n batch steps ∧
    ∀ j,j < epN n batch steps → ∃ A' c',vs[j]? = some (.slice A' n c') ∧ n ≤ c' ∧ Rd w A' (nums .i64 (permN l n (j * (n - 1))))
theorem top_samp {B:Nat} {u v:World} {S n batch steps:Nat} {l:List Int} (h:SampAt (topW B u) S n batch steps l) (hv:Agr B u v):SampAt v S n batch steps l:=by
  obtain ⟨Ab,cb,Ao,co,vs,h1,h2,h3,h4,h5⟩:=h
  exact ⟨Ab,cb,Ao,co,vs,top_heap h1 hv,top_rd h2 hv,top_rd h3 hv,h4,fun j hj => by
    obtain ⟨A',c',k1,k2,k3⟩:=h5 j hj
    exact ⟨A',c',k1,k2,top_rd k3 hv⟩⟩
theorem SampAt.below {w w':World} {S n batch steps:Nat} {l:List Int} (h:SampAt w S n batch steps l) (hb:Below w.heap.size w w'):SampAt w' S n batch steps l:=by
  obtain ⟨Ab,cb,Ao,co,vs,h1,h2,h3,h4,h5⟩:=h
  exact ⟨Ab,cb,Ao,co,vs,(hb.block _ (lt_of_block h1)).trans h1,h2.below hb,h3.below hb,h4,fun j hj => by
    obtain ⟨A',c',k1,k2,k3⟩:=h5 j hj
    exact ⟨A',c',k1,k2,k3.below hb⟩⟩
def SampI (W0 wr:World) (S n b c k:Nat) (A:Option Addr) (l:List Int) (x0 x1 x2:Value):Prop:=
  ∃ Ao co vs,wr.heap[S]? = some (.cells #[x0,x1,x2,.slice Ao k co] 353 (0,0)) ∧ wr.ownsRow W0.heap.size 22 1 (.slice Ao k co) k vs ∧
    (∀ j,j < k → ∃ A' c',vs[j]? = some (.slice A' n c') ∧ n ≤ c' ∧ wr.ownsRow W0.heap.size 3 1 (.slice A' n c') n (nums .i64 (permN l n (j * (n - 1))))) ∧
    wr.heap[b]? = some (.cells #[.slice A l.length c,.int .i64 ((k * (n - 1):Nat):Int)] 400 (0,0)) ∧ Keep (fun j => j = b ∨ j = S) W0 wr
set_option maxRecDepth 100000 in
set_option maxHeartbeats 2000000 in
theorem sampler_newT (A:Option Addr) (l:List Int) (c n batch steps:Nat) (w:World) (hA:Rd w A (nums .u64 l)) (hl:l.length ≤ 1048576) (hu:U64 l) (hb:1 ≤ batch) (hbn:batch ≤ n) (hn:n ≤ 1048576) (hst:steps ≤ 1048576) (hd:epN n batch steps * (n - 1) ≤ l.length) :
    Calls Tryz.prog 174 #[.int .i64 n,.int .i64 batch,.int .i64 steps,.slice A l.length c] w fun e w' => ∃ S,e = .returned (.tuple #[.pointer (some ⟨S,0,none⟩),.int .i64 0]) ∧ SampAt (topW w.heap.size w') S n batch steps l ∧ w.heap.size ≤ S ∧ Below w.heap.size w w':=by
  have hq1:¬ ((n:Int) < 1):=by omega
  have hq2:¬ ((1048576:Int) < n):=by omega
  have hq3:¬ ((steps:Int) < 0):=by omega
  have hq4:¬ ((1048576:Int) < steps):=by omega
  have hq5:¬ ((batch:Int) < 1):=by omega
  have hq6:¬ ((n:Int) < batch):=by omega
  obtain ⟨N,hN⟩:∃ N,l.length = N:=⟨_,rfl⟩
  have hbl:=fun w' => blocks_any (n - n % batch) batch w' (by omega) hb (by omega)
  rw [cntQ_whole n batch hb hbn] at hbl
  obtain ⟨nb,hnb⟩:∃ nb,n / batch = nb:=⟨_,rfl⟩
  have hnb1:1 ≤ nb:=by rw [← hnb];exact Nat.div_pos hbn hb
  have hnb2:nb ≤ n:=by rw [← hnb];exact Nat.div_le_self _ _
  obtain ⟨r,hr⟩:∃ r,n % batch = r:=⟨_,rfl⟩
  have hrn:r ≤ n:=by rw [← hr];exact Nat.mod_le _ _
  rw [hr,hnb] at hbl
  have htm:(n:Int).tmod (batch:Int) = (r:Int):=by rw [← hr];rfl
  have hem:(n:Int) % (batch:Int) = (r:Int):=by rw [← hr];rfl
  have hw0:IntKind.i64.wrap (r:Int) = (r:Int):=IntWalk.i64_in _ (by omega)
  have hw1:IntKind.i64.wrap ((n:Int) - (r:Int)) = ((n - r:Nat):Int):=by rw [IntWalk.i64_in _ (by omega)];omega
  have hb0:¬ (batch = 0):=by omega
  have HA:=Lib.hid hA;have Hu:=Lib.hid hu;have Hd:=Lib.hid hd;have HN:=Lib.hid hN;have Hbl:=Lib.hid hbl;have Hnb:=Lib.hid hnb;have Hr:=Lib.hid hr
  rw [hN] at hl ⊢
  clear hA hu hd hN hbl hnb hr
  go_enter Tryz.func174,Tryz.ntmps174
  go_wp2_with fail
  go_cut [10] (fun v wx => ∃ P2 S Ab cb,v = .pointer (some ⟨P2,0,none⟩) ∧ wx.heap[P2]? = some (.cells #[.pointer (some ⟨S,0,none⟩)] 283 (0,0)) ∧ wx.heap[S]? = some (.cells #[.int .i64 batch,.int .i64 steps,.slice Ab nb cb,.slice none 0 0] 353 (0,0)) ∧
    wx.ownsRow (w.heap.size + 1) 125 2 (.slice Ab nb cb) nb (blkVals (n - r) batch nb) ∧ w.heap.size + 1 ≤ P2 ∧ w.heap.size + 1 ≤ S ∧ Below (w.heap.size + 1) (w.alloc (.cells #[.int .i64 n] 3)) wx)
  case first =>
    have hc0:=cell_of_row (w.alloc (.cells #[.int .i64 n] 3)) w.heap.size 0 _ _ _ (heap_alloc_new w _)
    have hSw:(fun w':World => w'.cell? ⟨w.heap.size,0,none⟩ = some (.int .i64 n)) (w.alloc (.cells #[.int .i64 n] 3)).drew:=hc0
    refine wp_region_X 12 (fun w':World => w'.cell? ⟨w.heap.size,0,none⟩ = some (.int .i64 n)) (by kernel_rfl) ?_
    refine wX 0 hSw ?_
    refine wX 1 hSw ?_
    refine wX 2 hSw ?_
    refine wX 3 hSw ?_
    refine wX 4 hSw ?_
    refine wX 5 hSw ?_
    refine wX 6 hSw ?_
    refine wX 7 hSw ?_
    simp only [List.getElem_toArray,List.getElem_cons_succ,List.getElem_cons_zero,Act.put,List.setIfInBounds_toArray,List.set_cons_zero,List.set_cons_succ]
    refine wpAnyX_ready (rs:=[8,11]) (by kernel_rfl) (by simp) ?_
    refine AllReadyX.cons rfl (fun K hK => ?_) (AllReadyX.cons rfl (fun K hK => ?_) AllReadyX.nil)
    · simp only [List.getElem_toArray,List.getElem_cons_succ,List.getElem_cons_zero]
      go_simp
      refine (Hbl.out _).mono ?_
      rintro e w2 ⟨v,rfl,ho,hb2⟩
      obtain ⟨Ab,cb,rfl,_⟩:=own_form ho
      have hS2:=cell_below hb2 hSw
      have hb2:Below _ _ _:=hb2
      simp only [World.size_drew,World.size_alloc] at ho hb2
      have Ho:=Lib.hid ho;have Hb2:=Lib.hid hb2;clear ho hb2 hSw
      dsimp only
      refine hK.out _ _ hS2 (fun hSw => ?_)
      clear hK K hS2
      refine wX 9 hSw ?_
      simp only [List.getElem_toArray,List.getElem_cons_succ,List.getElem_cons_zero,Act.put,List.setIfInBounds_toArray,List.set_cons_zero,List.set_cons_succ]
      refine wpAnyX_ready (rs:=[10,11]) (by kernel_rfl) (by simp) ?_
      refine AllReadyX.cons rfl (fun K hK => ?_) (AllReadyX.cons rfl (fun K hK => ?_) AllReadyX.nil)
      · simp only [List.getElem_toArray,List.getElem_cons_succ,List.getElem_cons_zero]
        go_simp
        refine hK.out _ _ (cell_alloc hSw _) (fun hSw => ?_)
        clear hK K
        refine wpAnyX_ready (rs:=[11]) (by kernel_rfl) (by simp) ?_
        refine AllReadyX.cons rfl (fun K hK => ?_) AllReadyX.nil
        simp only [List.getElem_toArray,List.getElem_cons_succ,List.getElem_cons_zero]
        go_simp
        refine hK.out _ _ (cell_alloc hSw _) (fun hSw => ?_)
        clear hK K hSw
        refine wpAnyX_tail (by rfl) (by kernel_rfl) ?_
        simp only [List.drop_succ_cons,List.drop_zero]
        go_wp2_with fail
        go_meet
        have hz2:=Hb2.out.size
        simp at hz2
        refine ⟨w2.heap.size + 1,w2.heap.size,Ab,cb,rfl,?_,?_,(Ho.out.alloc _).alloc _,by omega,by omega,?_⟩
        · have:=heap_alloc_new (w2.alloc (.cells #[.int .i64 batch,.int .i64 steps,.slice Ab nb cb,.slice none 0 0] 353)) (.cells #[.pointer (some ⟨w2.heap.size,0,none⟩)] 283)
          simpa using this
        · exact (Below.heap_alloc _ _ _ (by simp)).trans (heap_alloc_new w2 _)
        · exact ((((Below.refl _ _).drew).trans Hb2.out).alloc (by omega) _).alloc (by simp;omega) _
      · simp only [List.getElem_toArray,List.getElem_cons_succ,List.getElem_cons_zero]
        go_simp
        refine hK.out _ _ (cell_alloc hSw _) (fun hSw => ?_)
        clear hK K
        refine wpAnyX_ready (rs:=[10]) (by kernel_rfl) (by simp) ?_
        refine AllReadyX.cons rfl (fun K hK => ?_) AllReadyX.nil
        simp only [List.getElem_toArray,List.getElem_cons_succ,List.getElem_cons_zero]
        go_simp
        refine hK.out _ _ (cell_alloc hSw _) (fun hSw => ?_)
        clear hK K hSw
        refine wpAnyX_tail (by rfl) (by kernel_rfl) ?_
        simp only [List.drop_succ_cons,List.drop_zero]
        go_wp2_with fail
        go_meet
        have hz2:=Hb2.out.size
        simp at hz2
        refine ⟨w2.heap.size,w2.heap.size + 1,Ab,cb,rfl,?_,?_,(Ho.out.alloc _).alloc _,by omega,by omega,?_⟩
        · exact (Below.heap_alloc _ _ _ (by simp)).trans (heap_alloc_new w2 _)
        · have:=heap_alloc_new (w2.alloc (.cells #[.pointer (some ⟨w2.heap.size + 1,0,none⟩)] 283)) (.cells #[.int .i64 batch,.int .i64 steps,.slice Ab nb cb,.slice none 0 0] 353)
          simpa using this
        · exact ((((Below.refl _ _).drew).trans Hb2.out).alloc (by omega) _).alloc (by simp;omega) _
    · simp only [List.getElem_toArray,List.getElem_cons_succ,List.getElem_cons_zero]
      go_simp
      refine hK.out _ _ (cell_alloc hSw _) (fun hSw => ?_)
      clear hK K
      refine wpAnyX_ready (rs:=[8]) (by kernel_rfl) (by simp) ?_
      refine AllReadyX.cons rfl (fun K hK => ?_) AllReadyX.nil
      simp only [List.getElem_toArray,List.getElem_cons_succ,List.getElem_cons_zero]
      go_simp
      refine (Hbl.out _).mono ?_
      rintro e w2 ⟨v,rfl,ho,hb2⟩
      have hP2:w2.heap[w.heap.size + 1]? = some (.cells #[.pointer none] 283 (0,0)):=(hb2.block (w.heap.size + 1) (by simp)).trans (by rw [← show (w.alloc (.cells #[.int .i64 n] 3)).heap.size = w.heap.size + 1 by simp];exact heap_alloc_new _ _)
      obtain ⟨t0,tf⟩:=bx1 hP2
      have hPl:=lt_of_block hP2
      have HP2:=Lib.hid hP2;clear hP2
      obtain ⟨Ab,cb,rfl,_⟩:=own_form ho
      have hS2:=cell_below hb2 hSw
      have hb2:Below _ _ _:=hb2
      simp only [World.size_drew,World.size_alloc] at ho hb2
      have Ho:=Lib.hid ho;have Hb2:=Lib.hid hb2;clear ho hb2 hSw
      dsimp only
      refine hK.out _ _ hS2 (fun hSw => ?_)
      clear hK K hS2
      refine wX 9 hSw ?_
      simp only [List.getElem_toArray,List.getElem_cons_succ,List.getElem_cons_zero,Act.put,List.setIfInBounds_toArray,List.set_cons_zero,List.set_cons_succ]
      refine wpAnyX_ready (rs:=[10]) (by kernel_rfl) (by simp) ?_
      refine AllReadyX.cons rfl (fun K hK => ?_) AllReadyX.nil
      simp only [List.getElem_toArray,List.getElem_cons_succ,List.getElem_cons_zero]
      go_simp
      refine hK.out _ _ (cell_alloc hSw _) (fun hSw => ?_)
      clear hK K hSw
      refine wpAnyX_tail (by rfl) (by kernel_rfl) ?_
      simp only [List.drop_succ_cons,List.drop_zero]
      go_wp2_with fail
      go_meet
      have hz2:=Hb2.out.size
      simp at hz2
      have hk:Keep (fun j => j = w.heap.size + 1) w2 (w2.setCell ⟨w.heap.size + 1,0,none⟩ (.pointer (some ⟨w2.heap.size,0,none⟩))):=Keep.setCell (S:=fun j => j = w.heap.size + 1) (Keep.refl _ _) ⟨w.heap.size + 1,0,none⟩ (.inr rfl) _
      have h0:Below (w.heap.size + 1) (w.alloc (.cells #[.int .i64 n] 3)) w2:=((Below.refl _ _).alloc (by simp) _).drew.trans (Hb2.out.mono (by omega))
      refine ⟨w.heap.size + 1,w2.heap.size,Ab,cb,rfl,?_,?_,?_,by omega,by omega,?_⟩
      · exact (Below.heap_alloc _ _ _ (by simpa using hPl)).trans (heap_setCell_same w2 (w.heap.size + 1) 0 _ _ _ HP2.out)
      · have:=heap_alloc_new (w2.setCell ⟨w.heap.size + 1,0,none⟩ (.pointer (some ⟨w2.heap.size,0,none⟩))) (.cells #[.int .i64 batch,.int .i64 steps,.slice Ab nb cb,.slice none 0 0] 353)
        rwa [show (w2.setCell ⟨w.heap.size + 1,0,none⟩ (.pointer (some ⟨w2.heap.size,0,none⟩))).heap.size = w2.heap.size by simp] at this
      · exact own_base ((hk.own Ho.out (fun j hj e => block_notrow HP2.out (by decide) Ho.out (by rw [hj,e]))).alloc _) (by omega)
      · exact (h0.trans (hk.toBelow (by omega) (fun j hj => by omega))).alloc (by simp;omega) _
  case rest =>
    obtain ⟨P2,S,Ab,cb,rfl,hP2,hS,hob,hl2,hlS,hbc⟩:=hcut
    have hbw:Below w.heap.size w wc:=((Below.refl _ w).alloc (Nat.le_refl _) _).trans (hbc.mono (by omega))
    have hNb:=(hbc.block w.heap.size (by omega)).trans (heap_alloc_new w (.cells #[.int .i64 n] 3))
    have hdn:=dnew_any A l c wc (HA.out.below hbw) (by have:=HN.out;omega)
    rw [HN.out] at hdn
    have HP2:=Lib.hid hP2;have HS:=Lib.hid hS;have Hob:=Lib.hid hob;have Hbw:=Lib.hid hbw;have HNb:=Lib.hid hNb;have Hdn:=Lib.hid hdn
    clear hP2 hS hob hbw hNb hdn hbc
    go_wp2_with fail
    refine Hdn.out.mono ?_
    rintro e w3 ⟨b,A3,c3,rfl,hst3,hA3,hb3,hB3⟩
    have hP3:=(hB3.block _ (lt_of_block HP2.out)).trans HP2.out
    have hS3:=(hB3.block _ (lt_of_block HS.out)).trans HS.out
    have hN3:=(hB3.block _ (lt_of_block HNb.out)).trans HNb.out
    have hob3:=own_below Hob.out hB3
    have hbw3:=Hbw.out.trans (hB3.mono Hbw.out.size)
    have hz3:=hB3.size
    obtain ⟨t0,tf⟩:=bx1 hP3
    obtain ⟨⟨y0,y1,y2,y3⟩,yf⟩:=bx4 hS3
    have l1:=lt_of_block hP3
    have l2:=lt_of_block hS3
    have HP3:=Lib.hid hP3;have HS3:=Lib.hid hS3;have HN3:=Lib.hid hN3;have Hob3:=Lib.hid hob3;have Hbw3:=Lib.hid hbw3;have Hst3:=Lib.hid hst3;have HA3:=Lib.hid hA3
    clear hP3 hS3 hN3 hob3 hbw3 hst3 hA3 hB3
    go_wp2_with fail
    have he:epN n batch steps = cntQ steps nb:=by unfold epN;rw [Hnb.out]
    have hec:=cntQ_le steps nb
    have hd:=Hd.out
    rw [he] at hd
    rw [HN.out] at hd
    obtain ⟨E,hE⟩:∃ E,cntQ steps nb = E:=⟨_,rfl⟩
    rw [hE] at he hec hd
    have hco:=count_any steps nb (w3.alloc (.cells #[.pointer (some ⟨b,0,none⟩)] 354)) hst hnb1 (by omega)
    rw [hE] at hco
    have He:=Lib.hid he;have Hd2:=Lib.hid hd;have Hco:=Lib.hid hco
    clear he hd hco hE
    refine Hco.out.mono ?_
    rintro e w' ⟨rfl,rfl⟩
    obtain ⟨W0,hW0⟩:∃ W0,W0 = w3.alloc (.cells #[.pointer (some ⟨b,0,none⟩)] 354):=⟨_,rfl⟩
    have hP1:W0.heap[w3.heap.size]? = some (.cells #[.pointer (some ⟨b,0,none⟩)] 354 (0,0)):=by rw [hW0];exact heap_alloc_new w3 _
    have hB0:Below w3.heap.size w3 W0:=by rw [hW0];exact (Below.refl _ _).alloc (Nat.le_refl _) _
    have hz0:w3.heap.size < W0.heap.size:=lt_of_block hP1
    have hS0:=(hB0.block _ l2).trans HS3.out
    have hP20:=(hB0.block _ l1).trans HP3.out
    have hN0:=(hB0.block _ (lt_of_block HN3.out)).trans HN3.out
    have hob0:=own_below Hob3.out hB0
    have hst0:=Hst3.out.below hB0
    have hbw0:=Hbw3.out.trans (hB0.mono Hbw3.out.size)
    rw [← hW0]
    have hNl:=lt_of_block hN0
    have hbl:=hst0.lt
    have hbS:b ≠ S:=fun e => by
      have h1:=hst0.blk;rw [e,hS0] at h1;simp at h1
    have hNot:∀ {x t},W0.heap[x]? = some (.cells #[t] 3 (0,0)) ∨ W0.heap[x]? = some (.cells #[t] 354 (0,0)) ∨ W0.heap[x]? = some (.cells #[t] 283 (0,0)) → ¬ (x = b ∨ x = S):=fun h => by
      rintro (rfl | rfl)
      · have h1:=hst0.blk;rcases h with h | h | h <;> (rw [h1] at h;simp at h)
      · rcases h with h | h | h <;> (rw [hS0] at h;simp at h)
    have hnN:=hNot (.inl hN0)
    have hnP1:=hNot (.inr (.inl hP1))
    have hnP2:=hNot (.inr (.inr hP20))
    have hobl:=hob0.lt
    have hAl:∀ a,A3 = some a → ¬ (a.block = b ∨ a.block = S):=fun a ha => by
      rintro (h | h)
      · exact hst0.ne a ha h
      · have:=HA3.out a ha;have:=lt_of_block HS.out;omega
    have hHob:∀ j,(Value.slice Ab nb cb).ownBlock = some j → ¬ (j = b ∨ j = S):=fun j hj => by
      rintro (rfl | rfl)
      · exact block_notrow hst0.blk (by decide) hob0 hj.symm
      · exact block_notrow hS0 (by decide) hob0 hj.symm
    have HP1:=Lib.hid hP1;have HS0:=Lib.hid hS0;have HP20:=Lib.hid hP20;have HN0:=Lib.hid hN0;have Hob0:=Lib.hid hob0;have Hst0:=Lib.hid hst0;have Hbw0:=Lib.hid hbw0;have HnN:=Lib.hid hnN;have HnP1:=Lib.hid hnP1;have HnP2:=Lib.hid hnP2;have HAl:=Lib.hid hAl;have HHob:=Lib.hid hHob;have HbS:=Lib.hid hbS
    clear hP1 hS0 hP20 hN0 hob0 hst0 hbw0 hnN hnP1 hnP2 hAl hHob hbS hNot hobl hB0 hW0 Hco HP3 HS3 HN3 Hob3 Hst3 t0 tf y0 y1 y2 y3 yf
    go_wp2_with fail
    go_loopw [57] (fun x wr => ∃ k:Nat,k ≤ E ∧ x = .int .i64 k ∧ SampI W0 wr S n b c3 k A3 l (.int .i64 batch) (.int .i64 steps) (.slice Ab nb cb)) (fun x _ => E - (intOf x).toNat)
    case atStart =>
      refine ⟨0,Nat.zero_le _,rfl,none,0,[],HS0.out,World.ownsRow_nil _ _ _ _,fun j hj => by omega,?_,Keep.refl _ _⟩
      rw [Nat.zero_mul];exact Hst0.out.blk
    case round =>
      obtain ⟨k,hk,rfl,Ao,co,vs,hS,hor,hrows,hbk,hK⟩:=hrel
      by_cases hlt:k < E
      · have hki:k * (n - 1) + (n - 1) ≤ N:=by
          have h1:(k + 1) * (n - 1) ≤ E * (n - 1):=Nat.mul_le_mul_right _ hlt
          rw [Nat.succ_mul] at h1
          have:=Hd2.out
          omega
        have hst:StreamAt wr b A3 c3 l (k * (n - 1)):=⟨hbk,hK.rd Hst0.out.rd (fun a ha e => HAl.out a ha e),Hst0.out.ne⟩
        have hep:=epoch_any w.heap.size w3.heap.size P2 S n b c3 (k * (n - 1)) k W0.heap.size A3 l Ao co (.int .i64 batch) (.int .i64 steps) (.slice Ab nb cb) vs wr
          ((hK.block _ hNl HnN.out).trans HN0.out) ((hK.block _ hz0 HnP1.out).trans HP1.out) ((hK.block _ (by omega) HnP2.out).trans HP20.out) hS hst hor hK.size (by omega) (by omega) hn (by rw [HN.out];exact hki) (by rw [HN.out];exact hl) Hu.out
        have Hep:=Lib.hid hep;have Hrows:=Lib.hid hrows;have HK:=Lib.hid hK
        clear hep hrows hK hst hS hor hbk
        go_wp2_with fail
        refine Hep.out.mono ?_
        rintro e w5 ⟨rfl,A1,c1,Ao',co',hS5,hor5,hc1,ho5,hb5,hall5,hK5⟩
        have hK5':Keep (fun j => j = b ∨ j = S) W0 w5:=⟨hK5.os.trans HK.out.os,hK5.tape.trans HK.out.tape,hK5.output.trans HK.out.output,Nat.le_trans HK.out.size hK5.size,fun j hj hn => (hK5.block j (Nat.lt_of_lt_of_le hj HK.out.size) (fun h => by
          rcases h with h | h | h
          · exact hn (.inl h)
          · exact hn (.inr h)
          · omega)).trans (HK.out.block j hj hn)⟩
        have hrows5:∀ j,j < k + 1 → ∃ A' c',(vs ++ [Value.slice A1 n c1])[j]? = some (.slice A' n c') ∧ n ≤ c' ∧ w5.ownsRow W0.heap.size 3 1 (.slice A' n c') n (nums .i64 (permN l n (j * (n - 1)))):=fun j hj => by
          have hvl:vs.length = k:=by have:=hor5.1;simp at this;omega
          rcases Nat.lt_or_ge j k with h | h
          · obtain ⟨A',c',k1,k2,k3⟩:=Hrows.out j h
            exact ⟨A',c',by rw [List.getElem?_append_left (by omega)];exact k1,k2,hall5 _ _ _ _ k3⟩
          · obtain rfl:j = k:=by omega
            exact ⟨A1,c1,by rw [List.getElem?_append_right (by omega),hvl];simp,hc1,ho5⟩
        have hS5':SampI W0 w5 S n b c3 (k + 1) A3 l (.int .i64 batch) (.int .i64 steps) (.slice Ab nb cb):=⟨Ao',co',_,hS5,hor5,hrows5,by rw [Nat.succ_mul];exact hb5,hK5'⟩
        have HS5:=Lib.hid hS5';clear hS5' hS5 hor5 hc1 ho5 hb5 hall5 hK5 hK5' hrows5
        go_wp2_with fail
        go_roundw
        case rel => exact ⟨k + 1,by omega,by go_num,HS5.out⟩
        case measure => simp [intOf];omega
      · obtain rfl:E = k:=by omega
        have hP2:=(hK.block _ (by omega) HnP2.out).trans HP20.out
        have hW0:=Hbw0.out.size
        have hfin:SampAt (topW w.heap.size wr) S n batch steps l ∧ w.heap.size ≤ S:=by
          refine ⟨?_,by omega⟩
          refine ⟨Ab,cb,Ao,co,vs,?_,?_,Rd.own (own_top hor hW0),?_,?_⟩
          · rw [He.out,Hnb.out,top_blk (by omega)];exact hS
          · rw [Hr.out,Hnb.out];exact Rd.own (own_top (hK.own Hob0.out HHob.out) (by omega))
          · have:=hor.1;rw [He.out];omega
          · intro j hj
            rw [He.out] at hj
            obtain ⟨A',c',k1,k2,k3⟩:=hrows j hj
            exact ⟨A',c',k1,k2,Rd.own (own_top k3 hW0)⟩
        have hbf:Below w.heap.size w wr:=Hbw0.out.trans (hK.toBelow Hbw0.out.size (fun j hj => by have:=hb3;have:=Hbw.out.size;rcases hj with h | h <;> omega))
        obtain ⟨t0,tf⟩:=bx1 hP2
        have Hfin:=Lib.hid hfin;have Hbf:=Lib.hid hbf
        clear hfin hbf hS hor hrows hbk hK hP2
        go_wp2_with fail
        go_ret2
        exact ⟨S,rfl,Hfin.out.1,Hfin.out.2,Hbf.out⟩
end Go.Proofs.YthamijnggdjaoaaGreatDoor
namespace Go.Proofs.YthamijnggdjaoaaGreatDoor
open Go.RowKit
structure Inp where
  cfg:Cfg
  data:List Ex
  start:List Int
  draws:List Int
def needN (n b st:Nat):Nat:=epN n b st * (n - 1)
theorem epN_le (n b st:Nat):epN n b st ≤ st:=cntQ_le _ _
theorem needN_le {n b st:Nat} (hn:n ≤ 1048576) (hs:st ≤ 1048576):needN n b st ≤ 1099511627776:=by
  have h1:=epN_le n b st
  have h2:epN n b st * (n - 1) ≤ 1048576 * 1048576:=Nat.mul_le_mul (by omega) (by omega)
  unfold needN
  omega
def inN (i:Inp):Nat:=szN i.cfg.sizes 0
def outN (i:Inp):Nat:=szN i.cfg.sizes (i.cfg.sizes.length - 1)
def cnt (i:Inp):Nat:=cntN i.cfg.sizes (i.cfg.sizes.length - 1)
def batchB (i:Inp):Bool:=decide (i.cfg.batch ≤ i.data.length ∧ i.data.length ≤ 1048576)
def fitB (i:Inp):Bool:=decide (∀ x ∈ i.data,fitEx (inN i) (outN i) x)
def shapeB (i:Inp):Bool:=fitB i && decide (i.start.length = cnt i)
def drawsB (i:Inp):Bool:=decide (needN i.data.length i.cfg.batch.toNat i.cfg.steps.toNat ≤ i.draws.length)
noncomputable def inCode (i:Inp):Int:=if cfgCode i.cfg ≠ 0 then cfgCode i.cfg else if batchB i = false then 7 else if shapeB i = false then 5 else if drawsB i = false then 8 else 0
theorem in_c {i:Inp} (h:cfgCode i.cfg ≠ 0):inCode i = cfgCode i.cfg:=by unfold inCode;rw [if_pos h]
theorem in_7 {i:Inp} (h0:cfgCode i.cfg = 0) (h:batchB i = false):inCode i = 7:=by unfold inCode;rw [if_neg (by simp [h0]),if_pos h]
theorem in_5 {i:Inp} (h0:cfgCode i.cfg = 0) (h1:batchB i = true) (h:shapeB i = false):inCode i = 5:=by unfold inCode;rw [if_neg (by simp [h0]),if_neg (by simp [h1]),if_pos h]
theorem in_8 {i:Inp} (h0:cfgCode i.cfg = 0) (h1:batchB i = true) (h2:shapeB i = true) (h:drawsB i = false):inCode i = 8:=by unfold inCode;rw [if_neg (by simp [h0]),if_neg (by simp [h1]),if_neg (by simp [h2]),if_pos h]
theorem in_0 {i:Inp} (h0:cfgCode i.cfg = 0) (h1:batchB i = true) (h2:shapeB i = true) (h:drawsB i = true):inCode i = 0:=by unfold inCode;rw [if_neg (by simp [h0]),if_neg (by simp [h1]),if_neg (by simp [h2]),if_neg (by simp [h])]
structure GoodIn (i:Inp):Prop where
  c:GoodCfg i.cfg
  b:i.cfg.batch ≤ i.data.length ∧ i.data.length ≤ 1048576
  f:∀ x ∈ i.data,fitEx (inN i) (outN i) x
  s:i.start.length = cnt i
  d:needN i.data.length i.cfg.batch.toNat i.cfg.steps.toNat ≤ i.draws.length
theorem in_good {i:Inp}:inCode i = 0 ↔ GoodIn i:=by
  constructor
  · intro h
    by_cases h0:cfgCode i.cfg = 0
    · cases h1:batchB i with
      | false => rw [in_7 h0 h1] at h;omega
      | true =>
        cases h2:shapeB i with
        | false => rw [in_5 h0 h1 h2] at h;omega
        | true =>
          cases h3:drawsB i with
          | false => rw [in_8 h0 h1 h2 h3] at h;omega
          | true =>
            simp only [shapeB,Bool.and_eq_true] at h2
            exact ⟨cfg_good.1 h0,of_decide_eq_true h1,of_decide_eq_true h2.1,of_decide_eq_true h2.2,of_decide_eq_true h3⟩
    · rw [in_c h0] at h;exact absurd h h0
  · intro h
    refine in_0 (cfg_good.2 h.c) (decide_eq_true h.b) ?_ (decide_eq_true h.d)
    simp only [shapeB,Bool.and_eq_true]
    exact ⟨decide_eq_true h.f,decide_eq_true h.s⟩
end Go.Proofs.YthamijnggdjaoaaGreatDoor
