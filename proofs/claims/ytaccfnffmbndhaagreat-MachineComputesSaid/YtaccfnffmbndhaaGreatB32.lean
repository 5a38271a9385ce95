/- The reference's Open. The walks of package link: messages. Send: the lemmas outside the walk, and the short ways. The reference's link: Len, Send. The reference's rule and net; a state turned back. Rows of numbers that are read. The walk of the reference's Sum. The walk of sakiaref08.Places. No condition. -/
import Derived.Test.YtaccfnffmbndhaaGreatB31
import Derived.Test.YtaccfnffmbndhaaGreatProg
import Derived.Test.YtaccfnffmbndhaaGreatB01
import Derived.KernelRfl
import Derived.BigQuiet
import Derived.Deep.QuietTactic
import Derived.Deep.RegionHeld3
import Derived.StillTailTactics
import Derived.WalkSpells
import Derived.Deep.RegionLaw
import Derived.Deep.DeepCutAuto
import Derived.Test.YtaccfnffmbndhaaGreatB21
import Derived.Test.YtaccfnffmbndhaaGreatB18
import Derived.Test.YtaccfnffmbndhaaGreatB30
import Derived.Test.YtaccfnffmbndhaaGreatB22
import Derived.IntWalk
set_option linter.unusedSimpArgs false
set_option linter.unusedVariables false
namespace Go.Proofs.YtaccfnffmbndhaaGreat
open Go.RowKit
theorem rt_it:RowTy Tryz.prog 136 12:=⟨⟨_,Tryz.underlying136,rfl⟩,by kernel_rfl⟩
theorem it_ones (y:Itm):∀ u ∈ itCells y,u.oneCell' = true:=fun u hu => it_one [y] u (by simpa [itVals] using hu)
theorem it_range {w:World} {A:Option Addr} {l:List Itm} (h:Rd w A (itVals l)) {k:Nat} {y:Itm} (hy:l[k]? = some y):∃ b o,A = some ⟨b,o,none⟩ ∧ w.rangeAt b (o + k * 12) (itCells y):=by
  obtain ⟨b,o,hA,hc⟩:=it_cell h hy
  refine ⟨b,o,hA,fun j v hv => ?_⟩
  have hj:=(List.getElem?_eq_some_iff.1 hv).1
  rw [it_len] at hj
  rw [Nat.add_assoc,hc j hj,hv]
end Go.Proofs.YtaccfnffmbndhaaGreat
namespace Go.Proofs.YtaccfnffmbndhaaGreat
open Go.RowKit
structure Tg where
  a:Int
  b:Int
  c:Int
  d:Int
  e:Int
structure Msg where
  tag:Tg
  vals:List Int
def Tg.cells (t:Tg):List Value:=[.int .i64 t.a,.int .i64 t.b,.int .i64 t.c,.int .i64 t.d,.int .i64 t.e]
def Tg.zero:Tg:=⟨0,0,0,0,0⟩
def Msg.zero:Msg:=⟨Tg.zero,[]⟩
def MsgRd (w:World) (cs:List Value) (m:Msg):Prop:=
  ∃ A c,cs = m.tag.cells ++ [.slice A m.vals.length c] ∧ Rd w A (nums .i64 m.vals)
structure LSt where
  cap:Nat
  msgs:List Msg
  recv:Nat
  peak:Nat
def msgAt (l:List Msg) (j:Nat):Msg:=l.getD j Msg.zero
def rowAt (l:List (List Value)) (j:Nat):List Value:=l.getD j []
end Go.Proofs.YtaccfnffmbndhaaGreat
namespace Go.Proofs.YtaccfnffmbndhaaGreat
open Go.RowKit
def linkS (b:Nat) (g:Option Nat) (k:Nat):Prop:=k = b ∨ g = some k
theorem linkS_b (b:Nat) (g:Option Nat):linkS b g b:=.inl rfl
theorem linkS_g (b g:Nat):linkS b (some g) g:=.inr rfl
end Go.Proofs.YtaccfnffmbndhaaGreat
namespace Go.Proofs.YtaccfnffmbndhaaGreat
open Go.RowKit
def MsgsRd (w:World) (A:Option Addr) (ms:List Msg):Prop:=
  ∃ rows,Rd w A (List.flatten rows) ∧ rows.length = ms.length ∧ (∀ r ∈ rows,r.length = 6) ∧ ∀ j,j < ms.length → MsgRd w (rowAt rows j) (msgAt ms j)
theorem MsgsRd.nil (w:World) (A:Option Addr):MsgsRd w A []:=⟨[],Rd.nil _ _,rfl,by simp,by simp⟩
end Go.Proofs.YtaccfnffmbndhaaGreat
namespace Go.Proofs.YtaccfnffmbndhaaGreat
open Go.RowKit
set_option maxRecDepth 100000 in
theorem rnet14_any (A:Option Addr) (c:Nat) (D:Option Addr) (cd:Nat) (T:Option Addr) (ct:Nat) (R:Option Addr) (cr:Nat) (i:Inp) (P:Option Addr) (pn pc:Nat) (w:World) :
    Calls Tryz.prog 122 #[.agg (inpVals A c D cd T ct R cr i),.slice P pn pc] w fun e w' => e = .returned (.agg #[.slice A i.cfg.sizes.length c,.slice P pn pc,.int .i64 i.cfg.shift]) ∧ Below w.heap.size w w':=by
  obtain ⟨⟨sz,sh,ra,mo,wk,ba,mi,st,bu,ch,wi,ca⟩,data,start,draws⟩:=i
  dsimp only [inpVals]
  obtain ⟨L,hL⟩:∃ L,sz.length = L:=⟨_,rfl⟩
  obtain ⟨N,hN⟩:∃ N,data.length = N:=⟨_,rfl⟩
  obtain ⟨M,hM⟩:∃ M,start.length = M:=⟨_,rfl⟩
  obtain ⟨Q,hQ⟩:∃ Q,draws.length = Q:=⟨_,rfl⟩
  rw [hL,hN,hM,hQ]
  clear hL hN hM hQ
  go_enter Tryz.func122,Tryz.ntmps122
  go_wp2_with fail
  have e3:=heap_alloc_new (w.alloc (.cells #[.slice A L c,.int .i64 sh,.int .i64 ra,.int .i64 mo,.int .i64 wk,.int .i64 ba,.int .i64 mi,.int .i64 st,.int .i64 bu,.int .i64 ch,.int .i64 wi,.int .i64 ca,.slice D N cd,.slice T M ct,.slice R Q cr] 29)) (.cells #[.slice A L c,.slice P pn pc,.int .i64 sh] 214)
  rw [show (w.alloc (.cells #[.slice A L c,.int .i64 sh,.int .i64 ra,.int .i64 mo,.int .i64 wk,.int .i64 ba,.int .i64 mi,.int .i64 st,.int .i64 bu,.int .i64 ch,.int .i64 wi,.int .i64 ca,.slice D N cd,.slice T M ct,.slice R Q cr] 29)).heap.size = w.heap.size + 1 by simp] at e3
  have hB:Below w.heap.size w ((w.alloc (.cells #[.slice A L c,.int .i64 sh,.int .i64 ra,.int .i64 mo,.int .i64 wk,.int .i64 ba,.int .i64 mi,.int .i64 st,.int .i64 bu,.int .i64 ch,.int .i64 wi,.int .i64 ca,.slice D N cd,.slice T M ct,.slice R Q cr] 29)).alloc (.cells #[.slice A L c,.slice P pn pc,.int .i64 sh] 214)):=((Below.refl _ w).alloc (Nat.le_refl _) _).alloc (by simp) _
  obtain ⟨W9,hW9⟩:∃ W9,W9 = (w.alloc (.cells #[.slice A L c,.int .i64 sh,.int .i64 ra,.int .i64 mo,.int .i64 wk,.int .i64 ba,.int .i64 mi,.int .i64 st,.int .i64 bu,.int .i64 ch,.int .i64 wi,.int .i64 ca,.slice D N cd,.slice T M ct,.slice R Q cr] 29)).alloc (.cells #[.slice A L c,.slice P pn pc,.int .i64 sh] 214):=⟨_,rfl⟩
  rw [← hW9] at e3 hB ⊢
  clear hW9
  obtain ⟨⟨r0,r1,r2⟩,rf⟩:=bx3 e3
  exact bodyPost_ret (v:=.agg #[.slice A L c,.slice P pn pc,.int .i64 sh]) (by simp [results,Tryz.results122,go_sem,r0,r1,r2]) rfl ⟨rfl,hB⟩
end Go.Proofs.YtaccfnffmbndhaaGreat
namespace Go.Proofs.YtaccfnffmbndhaaGreat
open Go.RowKit
def rVec:Reader (List Int):=fun w cs zs => ∃ A c,cs = [.slice A zs.length c] ∧ zs.length ≤ c ∧ zs.length ≤ 17592186043904 ∧ Rd w A (nums .i64 zs)
theorem stays_vec:Stays rVec:=fun hb ⟨A,c,h1,h2,h3,h4⟩ => ⟨A,c,h1,h2,h3,h4.below hb⟩
theorem rVec_cell {w:World} {V:Option Addr} {ls:List (List Int)} (h:SlRd rVec 1 w V ls) {k:Nat} {x:List Int} (hx:ls[k]? = some x) :
    ∃ b o A c,V = some ⟨b,o,none⟩ ∧ b < w.heap.size ∧ w.cell? ⟨b,o + k,none⟩ = some (.slice A x.length c) ∧ Rd w A (nums .i64 x) ∧ x.length ≤ 17592186043904 ∧ x.length ≤ c:=by
  obtain ⟨b,o,cs,rfl,hb,hcl,hR,h0,_⟩:=h.get (by decide) hx
  obtain ⟨A,c,rfl,h2,h3,h4⟩:=hR
  exact ⟨b,o,A,c,rfl,hb,by rw [Nat.mul_one] at h0;exact h0,h4,h3,h2⟩
def rVec0:Reader (List Int):=fun w cs zs => ∃ A c,cs = [.slice A zs.length c] ∧ zs.length ≤ 17592186043904 ∧ Rd w A (nums .i64 zs)
theorem stays_vec0:Stays rVec0:=fun hb ⟨A,c,h1,h3,h4⟩ => ⟨A,c,h1,h3,h4.below hb⟩
theorem rVec0_cell {w:World} {V:Option Addr} {ls:List (List Int)} (h:SlRd rVec0 1 w V ls) {k:Nat} {x:List Int} (hx:ls[k]? = some x) :
    ∃ b o A c,V = some ⟨b,o,none⟩ ∧ b < w.heap.size ∧ w.cell? ⟨b,o + k,none⟩ = some (.slice A x.length c) ∧ Rd w A (nums .i64 x) ∧ x.length ≤ 17592186043904:=by
  obtain ⟨b,o,cs,rfl,hb,hcl,hR,h0,_⟩:=h.get (by decide) hx
  obtain ⟨A,c,rfl,h3,h4⟩:=hR
  exact ⟨b,o,A,c,rfl,hb,by rw [Nat.mul_one] at h0;exact h0,h4,h3⟩
theorem flat_ones:∀ vals:List Value,List.flatten (vals.map fun v => [v]) = vals
  | [] => rfl
  | v :: l => by simp [flat_ones l]
theorem slrd_one {α:Type} {R:Reader α} {w:World} {A:Option Addr} {vals:List Value} {l:List α} (hA:Rd w A vals) (hl:vals.length = l.length) (h:∀ (j:Nat) (x:α),l[j]? = some x → ∃ v,vals[j]? = some v ∧ R w [v] x):SlRd R 1 w A l:=by
  refine ⟨vals.map fun v => [v],by rw [flat_ones];exact hA,by simp [hl],by simp,fun j x hx => ?_⟩
  obtain ⟨v,hv,hR⟩:=h j x hx
  have:rowOf (vals.map fun v => [v]) j = [v]:=by simp [rowOf,List.getD,hv]
  rw [this];exact hR
theorem keep_rd {S:Nat → Prop} {w0 w w':World} (h:Keep S w w') {A:Option Addr} {xs:List Value} (h0:Rd w0 A xs) (hr:Rd w A xs) (hS:∀ k,S k → w0.heap.size ≤ k):Rd w' A xs:=fun k u hu => by
  obtain ⟨b,o,rfl,c0⟩:=h0 k u hu
  obtain ⟨b1,o1,e1,c1⟩:=hr k u hu
  injection e1 with e1;injection e1 with i1 i2 _;subst i1;subst i2
  exact ⟨b,o,rfl,h.cell c1 fun hs => by have h1:=hS _ hs;have h2:=lt_of_cell c0;dsimp only at h1 h2;omega⟩
theorem store2 (W:World) (b:Nat) {a0 a1:Value} (x y:Value) {t:TypeId} (h:W.heap[b]? = some (.cells #[a0,a1] t (0,0))) :
    ((W.setCell ⟨b,0,none⟩ x).setCell ⟨b,1,none⟩ y).heap[b]? = some (.cells #[x,y] t (0,0)) ∧ Keep (fun j => j = b) W ((W.setCell ⟨b,0,none⟩ x).setCell ⟨b,1,none⟩ y):=by
  have e1:=heap_setCell_same W b 0 _ _ x h
  have e2:=heap_setCell_same _ b 1 _ _ y e1
  exact ⟨by simpa using e2,Keep.setCell (S:=fun j => j = b) (Keep.setCell (S:=fun j => j = b) (Keep.refl _ _) _ (.inr rfl) _) _ (.inr rfl) _⟩
theorem store4 (W:World) (b:Nat) {a0 a1 a2 a3:Value} (x y z u:Value) {t:TypeId} (h:W.heap[b]? = some (.cells #[a0,a1,a2,a3] t (0,0))) :
    ((((W.setCell ⟨b,0,none⟩ x).setCell ⟨b,1,none⟩ y).setCell ⟨b,2,none⟩ z).setCell ⟨b,3,none⟩ u).heap[b]? = some (.cells #[x,y,z,u] t (0,0)) ∧ Keep (fun j => j = b) W ((((W.setCell ⟨b,0,none⟩ x).setCell ⟨b,1,none⟩ y).setCell ⟨b,2,none⟩ z).setCell ⟨b,3,none⟩ u):=by
  have e1:=heap_setCell_same W b 0 _ _ x h
  have e2:=heap_setCell_same _ b 1 _ _ y e1
  have e3:=heap_setCell_same _ b 2 _ _ z e2
  have e4:=heap_setCell_same _ b 3 _ _ u e3
  exact ⟨by simpa using e4,Keep.setCell (S:=fun j => j = b) (Keep.setCell (S:=fun j => j = b) (Keep.setCell (S:=fun j => j = b) (Keep.setCell (S:=fun j => j = b) (Keep.refl _ _) _ (.inr rfl) _) _ (.inr rfl) _) _ (.inr rfl) _) _ (.inr rfl) _⟩
theorem blk_alloc {w:World} {b:Nat} {x:Obj} (h:w.heap[b]? = some x) (o:Obj):(w.alloc o).heap[b]? = some x:=
  (Below.heap_alloc w o b (by rcases Nat.lt_or_ge b w.heap.size with q | q;· exact q
                              · rw [Array.getElem?_eq_none q] at h;cases h)).trans h
theorem blk_new (w:World) (xs:Array Value) (e:TypeId) {n:Nat} (hn:w.heap.size = n):(w.alloc (.cells xs e)).heap[n]? = some (.cells xs e (0,0)):=by
  subst hn;exact heap_alloc_new w _
end Go.Proofs.YtaccfnffmbndhaaGreat
namespace Go.Proofs.YtaccfnffmbndhaaGreat
open Go.RowKit
def sumR (n:Nat) (ls:List (List Int)):List Int:=ls.foldl addL (List.replicate n 0)
theorem sumR_snoc (n:Nat) (ls:List (List Int)) (x:List Int):sumR n (ls ++ [x]) = addL (sumR n ls) x:=by simp [sumR]
theorem sumR_len (n:Nat) (ls:List (List Int)):(sumR n ls).length = n:=by
  have:∀ (l:List (List Int)) (a:List Int),(l.foldl addL a).length = a.length:=by
    intro l
    induction l with
    | nil => intro a;rfl
    | cons x l ih => intro a;rw [List.foldl_cons,ih,addL_len]
  unfold sumR;rw [this];simp
def RSumIs (ls:List (List Int)) (n:Nat) (w:World) (e:Ending) (w':World):Prop:=∃ v ok,e = .returned (.tuple #[v,.bool ok]) ∧ Below w.heap.size w w' ∧ ((∀ (j:Nat) (x:List Int),ls[j]? = some x → x.length = n) → ok = true ∧ w'.ownsRow w.heap.size 2 1 v n (nums .i64 (sumR n ls)))
set_option maxRecDepth 100000 in
set_option maxHeartbeats 1000000 in
theorem rsumv_any (V:Option Addr) (ls:List (List Int)) (c n:Nat) (x0:List Int) (w:World) (hV:SlRd rVec0 1 w V ls) (hl:ls.length ≤ 17592186043904) (h0:ls[0]? = some x0) (hn:x0.length = n) :
    Calls Tryz.prog 120 #[.slice V ls.length c] w (RSumIs ls n w):=by
  obtain ⟨N,hN⟩:∃ N,ls.length = N:=⟨_,rfl⟩
  have hN0:0 < N:=by rw [← hN];exact (List.getElem?_eq_some_iff.1 h0).1
  obtain ⟨b,o,A0,c0,rfl,hb,p0,_,hxl⟩:=rVec0_cell hV h0
  rw [hN] at hl ⊢
  rw [hn,Nat.add_zero] at p0
  rw [hn] at hxl
  have hN1:¬ (N = 0):=by omega
  have hmk:=fun w' => run_mk et_ri64s w' rfl n (by omega) (by unfold maxLen;omega)
  simp only [nums_rep] at hmk
  have Hmk:=Lib.hid hmk;have HV:=Lib.hid hV;have HN:=Lib.hid hN
  clear hmk hV hN h0 hn
  have hN0i:(0:Int) < N:=by omega
  have hN9:((N:Int) == 0) = false:=by simp;omega
  go_enter Tryz.func120,Tryz.ntmps120
  obtain ⟨W2,hrun,ho2,hb2⟩:=Hmk.out w
  go_wp2_with fail
  have HO2:=Lib.hid ho2;have HB2:=Lib.hid hb2
  clear hrun ho2 hb2 p0 Hmk
  go_loopw [5] (fun x wr => ∃ k:Nat,k ≤ N ∧ x = .int .i64 k ∧ wr.ownsRow w.heap.size 2 1 (.slice (some ⟨w.heap.size,0,none⟩) n n) n (nums .i64 (sumR n (ls.take k))) ∧ Hid (∀ (j:Nat) (x:List Int),j < k → ls[j]? = some x → x.length = n) ∧ Below w.heap.size w wr) (fun x _ => N - (intOf x).toNat)
  case atStart => exact ⟨0,Nat.zero_le _,rfl,HO2.out,Lib.hid fun j x hj => by omega,HB2.out⟩
  case round =>
    obtain ⟨W1,rfl⟩:∃ W1:World,W1 = wr:=⟨_,rfl⟩
    obtain ⟨k,hk,rfl,hown,Hall,hbw⟩:=hrel
    by_cases hlt:k < N
    · obtain ⟨x,hx⟩:∃ x,ls[k]? = some x:=⟨_,List.getElem?_eq_getElem (by rw [HN.out];exact hlt)⟩
      have hlti:(k:Int) < N:=by omega
      have g1:SlRd rVec0 1 W1 (some ⟨b,o,none⟩) ls:=HV.out.below stays_vec0 hbw
      obtain ⟨b',o',A,cA,e1,hb',p,hA,hxl'⟩:=rVec0_cell g1 hx
      injection e1 with e1;injection e1 with e1 e2 _;subst e1;subst e2
      have HX:=Lib.hid hx;have HO:=Lib.hid hown;have HB:=Lib.hid hbw;have HA:=Lib.hid hA;have P:=Lib.hid p
      obtain ⟨m,hm⟩:∃ m,x.length = m:=⟨_,rfl⟩
      have Hm:=Lib.hid hm
      rw [hm] at p hxl'
      clear hx hown hbw hA hm g1
      by_cases hmn:m = n
      · subst hmn
        go_wp2_with fail
        clear p
        go_loopw [6] (fun y wr => ∃ t:Nat,t ≤ m ∧ y = .int .i64 t ∧ wr.ownsRow w.heap.size 2 1 (.slice (some ⟨w.heap.size,0,none⟩) m m) m (nums .i64 (mixed (sumR m (ls.take k)) t (fun t => wrap64 (nth (sumR m (ls.take k)) t + nth x t)))) ∧ Keep (fun i => i = w.heap.size) W1 wr) (fun y _ => m - (intOf y).toNat)
        case atStart => exact ⟨0,Nat.zero_le _,rfl,by rw [mixed_zero];exact HO.out,Keep.refl _ _⟩
        case round =>
          obtain ⟨t,ht,rfl,hown,hK⟩:=hrel
          by_cases hlt2:t < m
          · have hlti2:(t:Int) < m:=by omega
            have hkx:t < (sumR m (ls.take k)).length:=by rw [sumR_len];exact hlt2
            have p1:=own_num hown hlt2
            rw [mixed_nth _ hkx,if_neg (by omega)] at p1
            have f1:=hown.frozenAt t
            obtain ⟨b2,o2,rfl,p3⟩:=HA.out.num (show t < x.length by rw [Hm.out];exact hlt2)
            have hbs:b < w.heap.size:=hb
            have p2:wr.cell? ⟨b,o + k,none⟩ = some (.slice (some ⟨b2,o2,none⟩) m cA):=hK.cell (by rw [P.out,Hm.out]) (by dsimp only;omega)
            have hA2:b2 < w.heap.size:=by
              obtain ⟨_,_,A9,c9,e9,_,q9,r9,_⟩:=rVec0_cell HV.out HX.out
              injection e9 with e9;injection e9 with e9 e8 _;subst e9;subst e8
              have:=(HB.out.cell (p:=⟨b,o + k,none⟩) hb).trans q9
              rw [P.out] at this
              injection this with this
              simp only [Value.slice.injEq] at this
              rw [← this.1] at r9
              obtain ⟨b8,o8,e8,q8⟩:=r9.num (show t < x.length by rw [Hm.out];exact hlt2)
              injection e8 with e8;injection e8 with e8 _ _;subst e8
              exact lt_of_cell q8
            have p4:wr.cell? ⟨b2,o2 + t,none⟩ = some (.int .i64 (nth x t)):=hK.cell p3 (by dsimp only;omega)
            have hst:=mixed_set (l:=sumR m (ls.take k)) (k:=t) (fun t => wrap64 (nth (sumR m (ls.take k)) t + nth x t)) hkx
            have HK:=Lib.hid hK;have HO2:=Lib.hid hown;have Hst:=Lib.hid hst
            clear hK hown hst hkx p3
            go_wp2_with fail
            go_region
            all_goals go_wp2_with fail
            all_goals
              go_roundw
              case rel =>
                refine ⟨t + 1,by omega,by go_num,?_,?_⟩
                · rw [← Hst.out];exact own_put (own_drewN HO2.out 1) t _
                · exact Keep.setCell (HK.out.drewN 1) ⟨w.heap.size,t,none⟩ (.inr rfl) _
              case measure => simp [intOf];omega
          · obtain rfl:m = t:=by omega
            have HK:=Lib.hid hK;have HO2:=Lib.hid hown;clear hK hown
            go_wp2_with fail
            go_roundw
            case rel =>
              refine ⟨k + 1,by omega,by go_num,?_,Lib.hid fun j y hj hy => ?_,HB.out.trans (HK.out.toBelow (by have:=HB.out.size;omega) (fun j hj => by omega))⟩
              · rw [List.take_add_one,HX.out,Option.toList_some,sumR_snoc]
                have e9:=HO2.out
                have e8:=mixed_all (sumR m (ls.take k)) (fun t => wrap64 (nth (sumR m (ls.take k)) t + nth x t))
                rw [sumR_len] at e8
                unfold addL
                rw [sumR_len,← e8]
                exact e9
              · rcases Nat.lt_or_ge j k with h | h
                · exact Hall.out j y h hy
                · obtain rfl:j = k:=by omega
                  rw [HX.out] at hy;injection hy with hy;rw [← hy];exact Hm.out
            case measure => simp [intOf];omega
      · have hmi:((m:Int) != (n:Int)) = true:=by rw [bne_iff_ne];omega
        go_wp2_with fail
        go_ret2
        refine ⟨_,_,rfl,HB.out,fun h => absurd ?_ hmn⟩
        rw [← Hm.out];exact h k x HX.out
    · obtain rfl:k = N:=by omega
      have HO:=Lib.hid hown;have HB:=Lib.hid hbw
      clear hown hbw
      go_wp2_with fail
      go_ret2
      refine ⟨_,_,rfl,HB.out,fun h => ⟨rfl,?_⟩⟩
      have:=HO.out
      rwa [← HN.out,List.take_length] at this
end Go.Proofs.YtaccfnffmbndhaaGreat
namespace Go.Proofs.YtaccfnffmbndhaaGreat
open Go.RowKit
theorem et_pls:ElemT Tryz.prog 262 267 (.agg #[.int .i64 0,.int .i64 0,.int .i64 0]) 3 24:=⟨Tryz.underlying262,info_parts (by kernel_rfl),rfl,by decide⟩
set_option maxRecDepth 100000 in
set_option maxHeartbeats 1000000 in
theorem rplaces_any (A:Option Addr) (sz:List Int) (c:Nat) (w:World) (hA:Rd w A (nums .i64 sz)) (hg:GoodSz sz) :
    Calls Tryz.prog 157 #[.slice A sz.length c] w fun e w' => ∃ A' c',e = .returned (.slice A' (cntN sz (sz.length - 1)) c') ∧ w'.ownsRow w.heap.size 267 3 (.slice A' (cntN sz (sz.length - 1)) c') (cntN sz (sz.length - 1)) (plV (plL sz (sz.length - 1))) ∧ Below w.heap.size w w':=by
  have hl16:=hg.1.1
  obtain ⟨b,o,rfl,p00⟩:=hA.num (show 0 < sz.length by omega)
  have hbl:b < w.heap.size:=lt_of_cell p00
  obtain ⟨L,hL⟩:∃ L,sz.length = L:=⟨_,rfl⟩
  rw [hL] at hl16 ⊢
  have HA:=Lib.hid hA;have HG:=Lib.hid hg;have HL:=Lib.hid hL;clear hA hg hL p00
  go_enter Tryz.func157,Tryz.ntmps157
  go_wp2_with fail
  go_loopw [3,4] (fun v i wr => ∃ k:Nat,k + 1 ≤ L ∧ i = .int .i64 k ∧ wr.ownsRow w.heap.size 267 3 v (cntN sz k) (plV (plL sz k)) ∧ Below w.heap.size w wr) (fun _ i _ => L - (intOf i).toNat)
  case atStart => exact ⟨0,by omega,rfl,World.ownsRow_nil _ _ _ _,Below.refl _ _⟩
  case round =>
    obtain ⟨wq,rfl⟩:∃ wq:World,wq = wr:=⟨_,rfl⟩
    obtain ⟨k,hk,rfl,ho0,hW0⟩:=hrel
    obtain ⟨A0,c9,rfl,_⟩:=own_form ho0
    have Ho0:=Lib.hid ho0;have HW0:=Lib.hid hW0;clear ho0 hW0
    have hwk:IntKind.i64.wrap ((k:Int) + 1) = (k:Int) + 1:=IntWalk.i64_in _ (by omega)
    by_cases hlt:k + 1 < L
    · have hR:=HG.out.1
      have hL2:=HL.out
      have z0:=hR.at (k:=k) (by omega)
      have z1:=hR.at (k:=k + 1) (by omega)
      obtain ⟨_,_,e',p0⟩:=HA.out.num (show k < sz.length by omega)
      injection e' with e';injection e' with e1 e2 _;subst e1;subst e2
      obtain ⟨_,_,e',p1⟩:=HA.out.num (show k + 1 < sz.length by omega)
      injection e' with e';injection e' with e1 e2 _;subst e1;subst e2
      rw [z0.2.2] at p0
      rw [z1.2.2] at p1
      have hb1:=HG.out.bound (k:=k + 1) (by omega)
      have hm:=midN_eq sz k
      have hm2:midN sz k = cntN sz k + szN sz (k + 1) * szN sz k:=rfl
      have hpk:plK sz k = plW k (szN sz k) (szN sz (k + 1) * szN sz k) ++ plB k (szN sz (k + 1)):=rfl
      obtain ⟨c0,hc0⟩:∃ c0,szN sz k = c0:=⟨_,rfl⟩
      obtain ⟨r1,hr1⟩:∃ r1,szN sz (k + 1) = r1:=⟨_,rfl⟩
      obtain ⟨N,hN⟩:∃ N,cntN sz k = N:=⟨_,rfl⟩
      obtain ⟨M,hM⟩:∃ M,midN sz k = M:=⟨_,rfl⟩
      rw [hc0] at p0 hm2 hpk z0
      rw [hr1] at p1 hm2 hm hpk z1
      rw [hN,hM] at hm2
      rw [hM] at hm
      rw [← hm] at hb1
      have Hpk:=Lib.hid hpk;have HN:=Lib.hid hN;have Hm:=Lib.hid hm
      have hki:(k:Int) + 1 < L:=by omega
      have hki0:(k:Int) < L:=by omega
      clear hc0 hr1 hpk hm hN hM hL2 hR
      go_wp2_with fail
      go_loopw [3,5] (fun v i wr => ∃ r:Nat,r ≤ r1 ∧ i = .int .i64 r ∧ wr.ownsRow w.heap.size 267 3 v (N + r * c0) (plV (plL sz k ++ plW k c0 (r * c0))) ∧ Below w.heap.size w wr) (fun _ i _ => r1 - (intOf i).toNat)
      case atStart =>
        refine ⟨0,Nat.zero_le _,rfl,?_,HW0.out⟩
        rw [Nat.zero_mul,show plW k c0 0 = [] from rfl,List.append_nil,Nat.add_zero,← HN.out]
        exact Ho0.out
      case round =>
        obtain ⟨w1,rfl⟩:∃ w1:World,w1 = wr:=⟨_,rfl⟩
        obtain ⟨r,hr,rfl,ho1,hW1⟩:=hrel
        obtain ⟨A1,d1,rfl,_⟩:=own_form ho1
        have p0r:=(hW1.cell (p:=⟨b,o + k,none⟩) hbl).trans p0
        have p1r:=(hW1.cell (p:=⟨b,o + (k + 1),none⟩) hbl).trans p1
        have Ho1:=Lib.hid ho1;have HW1:=Lib.hid hW1;clear ho1 hW1
        by_cases hlr:r < r1
        · have hrc:r * c0 + c0 ≤ r1 * c0:=by
            have:=Nat.mul_le_mul_right c0 (show r + 1 ≤ r1 by omega)
            rwa [Nat.succ_mul] at this
          have hrs:(r + 1) * c0 = r * c0 + c0:=Nat.succ_mul r c0
          obtain ⟨rc,hrce⟩:∃ rc,r * c0 = rc:=⟨_,rfl⟩
          obtain ⟨m1,hm1⟩:∃ m1,r1 * c0 = m1:=⟨_,rfl⟩
          have hsu:=fun j (hj:j < c0) => plW_succ k c0 r j hj
          rw [hrce] at hrc hrs hsu
          rw [hm1] at hrc hm2
          have Hsu:=Lib.hid hsu;have Hrs:=Lib.hid hrs;have Hrc:=Lib.hid hrce
          clear hsu hrs hrce hm1
          go_wp2_with fail
          go_loopw [3,6] (fun v i wr => ∃ j:Nat,j ≤ c0 ∧ i = .int .i64 j ∧ wr.ownsRow w.heap.size 267 3 v (N + (rc + j)) (plV (plL sz k ++ plW k c0 (rc + j))) ∧ Below w.heap.size w wr) (fun _ i _ => c0 - (intOf i).toNat)
          case atStart =>
            refine ⟨0,Nat.zero_le _,rfl,?_,HW1.out⟩
            rw [Nat.add_zero,← Hrc.out]
            exact Ho1.out
          case round =>
            obtain ⟨w2,rfl⟩:∃ w2:World,w2 = wr:=⟨_,rfl⟩
            obtain ⟨j,hj,rfl,ho2,hW2⟩:=hrel
            obtain ⟨A2,d2,rfl,_⟩:=own_form ho2
            have p0s:=(hW2.cell (p:=⟨b,o + k,none⟩) hbl).trans p0
            have hz:=hW2.size
            have Ho2:=Lib.hid ho2;have HW2:=Lib.hid hW2;clear ho2 hW2 p0r p1r
            by_cases hlj:j < c0
            · have hsj:=Hsu.out j hlj
              have Hsj:=Lib.hid hsj;clear hsj
              go_wp2_with (at_builtin;refine wpList_push et_pls w2 rfl (.tmp 32) (.tmp 37) rfl w.heap.size (.slice A2 (N + (rc + j)) d2) (N + (rc + j)) _ rfl Ho2.out [.int .i64 k,.int .i64 r,.int .i64 j] rfl rfl (by simp [Value.oneCell']) (by omega) (by unfold maxLen;omega) (by omega) ?_)
              intro g7 c7 w7 ho7 hb7 hg7
              have hB7:=HW2.out.trans hb7
              have HO7:=Lib.hid ho7;have HB7:=Lib.hid hB7;clear ho7 hb7 hg7 hB7
              go_wp2_with fail
              go_roundw
              case rel =>
                refine ⟨j + 1,by omega,by go_num,?_,HB7.out⟩
                have:=HO7.out
                rw [← plV_one (k,r,(j:Int)),← plV_append,List.append_assoc,← Hsj.out,show N + (rc + j) + 1 = N + (rc + (j + 1)) by omega,show rc + j + 1 = rc + (j + 1) by omega] at this
                exact this
              case measure => simp [intOf];omega
            · obtain rfl:j = c0:=by omega
              go_wp2_with fail
              go_roundw
              case rel =>
                refine ⟨r + 1,by omega,by go_num,?_,HW2.out⟩
                rw [Hrs.out]
                exact Ho2.out
              case measure => simp [intOf];omega
        · obtain rfl:r = r1:=by omega
          have Hm2:=Lib.hid hm2;clear hm2
          go_wp2_with fail
          go_loopw [3,7] (fun v i wr => ∃ t:Nat,t ≤ r ∧ i = .int .i64 t ∧ wr.ownsRow w.heap.size 267 3 v (M + t) (plV (plL sz k ++ plW k c0 (r * c0) ++ plB k t)) ∧ Below w.heap.size w wr) (fun _ i _ => r - (intOf i).toNat)
          case atStart =>
            refine ⟨0,Nat.zero_le _,rfl,?_,HW1.out⟩
            rw [show plB k 0 = [] from rfl,List.append_nil,Nat.add_zero,Hm2.out]
            exact Ho1.out
          case round =>
            obtain ⟨w2,rfl⟩:∃ w2:World,w2 = wr:=⟨_,rfl⟩
            obtain ⟨t,ht,rfl,ho2,hW2⟩:=hrel
            obtain ⟨A2,d2,rfl,_⟩:=own_form ho2
            have p1s:=(hW2.cell (p:=⟨b,o + (k + 1),none⟩) hbl).trans p1
            have hz:=hW2.size
            have Ho2:=Lib.hid ho2;have HW2:=Lib.hid hW2;clear ho2 hW2 p0r p1r
            by_cases hlj:t < r
            · go_wp2_with (at_builtin;refine wpList_push et_pls w2 rfl (.tmp 48) (.tmp 52) rfl w.heap.size (.slice A2 (M + t) d2) (M + t) _ rfl Ho2.out [.int .i64 k,.int .i64 t,.int .i64 (-1)] rfl rfl (by simp [Value.oneCell']) (by omega) (by unfold maxLen;omega) (by omega) ?_)
              intro g7 c7 w7 ho7 hb7 hg7
              have hB7:=HW2.out.trans hb7
              have HO7:=Lib.hid ho7;have HB7:=Lib.hid hB7;clear ho7 hb7 hg7 hB7
              go_wp2_with fail
              go_roundw
              case rel =>
                refine ⟨t + 1,by omega,by go_num,?_,HB7.out⟩
                have:=HO7.out
                rw [← plV_one (k,t,-1),← plV_append,show M + t + 1 = M + (t + 1) by omega] at this
                rw [plB_succ]
                simp only [List.append_assoc] at this ⊢
                exact this
              case measure => simp [intOf];omega
            · obtain rfl:t = r:=by omega
              go_wp2_with fail
              go_roundw
              case rel =>
                refine ⟨k + 1,by omega,by go_num,?_,HW2.out⟩
                rw [plL_succ,Hpk.out,← List.append_assoc,← Hm.out]
                exact Ho2.out
              case measure => simp [intOf];omega
    · obtain rfl:k = L - 1:=by omega
      have hki:¬ ((((L - 1:Nat):Int) + 1) < L):=by omega
      go_wp2_with fail
      go_ret
      exact ⟨_,_,rfl,Ho0.out,HW0.out⟩
end Go.Proofs.YtaccfnffmbndhaaGreat
