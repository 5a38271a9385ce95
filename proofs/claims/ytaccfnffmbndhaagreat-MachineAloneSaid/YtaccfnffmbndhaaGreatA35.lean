/- The reference's Sampler of a run. The reference's Next of a state. The reference's Batch. The reference's Train. No condition. -/
import Derived.Test.YtaccfnffmbndhaaGreatA34
import Derived.Test.YtaccfnffmbndhaaGreatA30
import Derived.Test.YtaccfnffmbndhaaGreatA22
import Derived.Test.YtaccfnffmbndhaaGreatA03
import Derived.Test.YtaccfnffmbndhaaGreatA31
import Derived.Test.YtaccfnffmbndhaaGreatA15
import Derived.Test.YtaccfnffmbndhaaGreatA21
import Derived.Test.YtaccfnffmbndhaaGreatA02
import Derived.Deep.RegionHeld3
import Derived.Test.YtaccfnffmbndhaaGreatA08
import Derived.Test.YtaccfnffmbndhaaGreatA33
import Derived.Test.YtaccfnffmbndhaaGreatA26
set_option linter.unusedSimpArgs false
set_option linter.unusedVariables false
namespace Go.Proofs.YtaccfnffmbndhaaGreat
open Go.RowKit
def epI (i:Inp):Nat:=epN i.data.length i.cfg.batch.toNat i.cfg.steps.toNat
def RSamp14Is (i:Inp) (w:World) (e:Ending) (w':World):Prop:=∃ A c,e = .returned (.agg #[.int .i64 i.data.length,.int .i64 i.cfg.batch,.int .i64 i.cfg.steps,.slice A (epI i) c]) ∧ (∃ vs,OrdI i.draws i.data.length w.heap.size (epI i) (.slice A (epI i) c) vs w') ∧ Below w.heap.size w w'
set_option maxRecDepth 100000 in
set_option maxHeartbeats 1000000 in
theorem rsamp14_any (A:Option Addr) (c:Nat) (D:Option Addr) (cd:Nat) (T:Option Addr) (ct:Nat) (R:Option Addr) (cr:Nat) (i:Inp) (w:World) (hg:GoodIn i) (hR:Rd w R (nums .u64 i.draws)) (hRl:i.draws.length ≤ 1048576) (hu:U64 i.draws) :
    Calls Tryz.prog 70 #[.agg (inpVals A c D cd T ct R cr i)] w (RSamp14Is i w):=by
  have hgb:=hg.b
  have hgd:=hg.d
  have hb1:1 ≤ i.cfg.batch:=by have:=hg.c.w;have:=hg.c.ba;omega
  have hst:=hg.c.st
  have hnew:=fun w' (q:Below w.heap.size w w') => rnew12_any i.data.length i.cfg.batch.toNat i.cfg.steps.toNat (epI i) cr R i.draws w' (hR.below q) hRl hu (by omega) (by omega) hgb.2 (by omega) rfl hgd
  rw [Int.toNat_of_nonneg (show 0 ≤ i.cfg.batch by omega),Int.toNat_of_nonneg (show 0 ≤ i.cfg.steps by omega)] at hnew
  have hbl:(w.alloc (.cells (inpVals A c D cd T ct R cr i) 29)).heap.size = w.heap.size + 1:=by simp
  have hbx:=blk_new w (inpVals A c D cd T ct R cr i) 29 rfl
  have hb0:Below w.heap.size w (w.alloc (.cells (inpVals A c D cd T ct R cr i) 29)):=(Below.refl _ w).alloc (Nat.le_refl _) _
  have hbx2:=blk_alloc hbx (.cells #[.int .i64 0,.int .i64 0,.int .i64 0,.slice none 0 0] 159)
  have hby2:=blk_new _ #[.int .i64 0,.int .i64 0,.int .i64 0,.slice none 0 0] 159 hbl
  have hb2:=hb0.alloc (by rw [hbl];omega) (.cells #[.int .i64 0,.int .i64 0,.int .i64 0,.slice none 0 0] 159)
  obtain ⟨W1,hW1⟩:∃ W1,W1 = (w.alloc (.cells (inpVals A c D cd T ct R cr i) 29)).alloc (.cells #[.int .i64 0,.int .i64 0,.int .i64 0,.slice none 0 0] 159):=⟨_,rfl⟩
  rw [← hW1] at hbx2 hby2 hb2
  have Hq:=Lib.hid (show 0 ≤ i.cfg.batch ∧ 0 ≤ i.cfg.steps by omega)
  have HX:=Lib.hid hbx2;have HY:=Lib.hid hby2;have HB:=Lib.hid hb2;have Hnew:=Lib.hid hnew
  clear hbx hbx2 hby2 hb2 hnew hb0 hbl hgb hgd hb1 hst hu hRl hR hg
  dsimp only [inpVals] at hW1
  go_enter Tryz.func70,Tryz.ntmps70
  dsimp only [inpVals]
  go_wp2_with fail
  rw [← hW1]
  refine (Hnew.out W1 HB.out).mono ?_
  rintro e w2 ⟨A2,c2,rfl,⟨vs,hO⟩,hb2⟩
  have hy2:=(hb2.block _ (lt_of_block HY.out)).trans HY.out
  have hB2:=HB.out.trans (hb2.mono HB.out.size)
  rw [Int.toNat_of_nonneg Hq.out.1,Int.toNat_of_nonneg Hq.out.2]
  obtain ⟨e4,k4⟩:=store4 w2 (w.heap.size + 1) (.int .i64 i.data.length) (.int .i64 i.cfg.batch) (.int .i64 i.cfg.steps) (.slice A2 (epI i) c2) hy2
  have e5:=blk_alloc e4 (.cells #[.int .i64 i.data.length,.int .i64 i.cfg.batch,.int .i64 i.cfg.steps,.slice A2 (epI i) c2] 159)
  have hB4:=hB2.trans (k4.toBelow hB2.size (fun j hj => by omega))
  have hB5:=hB4.alloc hB4.size (.cells #[.int .i64 i.data.length,.int .i64 i.cfg.batch,.int .i64 i.cfg.steps,.slice A2 (epI i) c2] 159)
  have hO5:=((hO.keep k4 (fun j hj => by have:=lt_of_block HY.out;omega)).base HB.out.size).below ((Below.refl _ _).alloc (Nat.le_refl _) (.cells #[.int .i64 i.data.length,.int .i64 i.cfg.batch,.int .i64 i.cfg.steps,.slice A2 (epI i) c2] 159))
  have ly:=lt_of_block hy2
  obtain ⟨⟨y0,y1,y2,y3⟩,yf⟩:=bx4 hy2
  have E5:=Lib.hid e5;have HB5:=Lib.hid hB5;have HO5:=Lib.hid hO5
  clear e4 k4 e5 hB4 hB5 hO5 hO hb2 hB2 hy2
  go_wp2_with fail
  have e5:=E5.out;have hB5:=HB5.out;have hO5:=HO5.out
  generalize ((((w2.setCell ⟨w.heap.size + 1,0,none⟩ (.int .i64 i.data.length)).setCell ⟨w.heap.size + 1,1,none⟩ (.int .i64 i.cfg.batch)).setCell ⟨w.heap.size + 1,2,none⟩ (.int .i64 i.cfg.steps)).setCell ⟨w.heap.size + 1,3,none⟩ (.slice A2 (epI i) c2)).alloc (.cells #[.int .i64 i.data.length,.int .i64 i.cfg.batch,.int .i64 i.cfg.steps,.slice A2 (epI i) c2] 159) = W9 at e5 hB5 hO5 ⊢
  clear y0 y1 y2 y3 yf
  obtain ⟨⟨r0,r1,r2,r3⟩,rf⟩:=bx4 e5
  exact bodyPost_ret (v:=.agg #[.int .i64 i.data.length,.int .i64 i.cfg.batch,.int .i64 i.cfg.steps,.slice A2 (epI i) c2]) (by simp [results,Tryz.results70,go_sem,r0,r1,r2,r3]) rfl ⟨_,_,rfl,⟨_,hO5⟩,hB5⟩
end Go.Proofs.YtaccfnffmbndhaaGreat
namespace Go.Proofs.YtaccfnffmbndhaaGreat
open Go.RowKit
def NxtI (ra mo q:Int) (P M g:List Int) (b B k:Nat) (W0 w:World):Prop:=∃ A1 c1 A2 c2,w.heap[b]? = some (.cells #[.slice A1 k c1,.slice A2 k c2] 39 (0,0)) ∧
  w.ownsRow B 2 1 (.slice A1 k c1) k (nums .i64 (upTo k fun j => stepP ra q (nth P j) (stepM mo q (nth M j) (nth g j)))) ∧
  w.ownsRow B 2 1 (.slice A2 k c2) k (nums .i64 (upTo k fun j => stepM mo q (nth M j) (nth g j))) ∧
  (∀ i,(Value.slice A1 k c1).ownBlock = some i → (Value.slice A2 k c2).ownBlock ≠ some i) ∧ Keep (fun j => j = b) W0 w
theorem nx_lt {n k:Nat} (h:k < n):(k:Int) < n:=by omega
theorem nx_m {n k:Nat} (h:k < n):n - (k + 1) < n - k:=by omega
def RNext13Is (ra mo q:Int) (P M g:List Int) (n:Nat) (w:World) (e:Ending) (w':World):Prop:=∃ A1 c1 A2 c2,e = .returned (.tuple #[.agg #[.slice A1 n c1,.slice A2 n c2],.bool true]) ∧
  w'.ownsRow w.heap.size 2 1 (.slice A1 n c1) n (nums .i64 (nextP ra mo q P M g)) ∧ w'.ownsRow w.heap.size 2 1 (.slice A2 n c2) n (nums .i64 (nextM mo q M g)) ∧ Below w.heap.size w w'
set_option maxRecDepth 100000 in
set_option maxHeartbeats 1000000 in
theorem rnext13_any (ra mo q:Int) (A B G:Option Addr) (P M g:List Int) (n ca cb cg:Nat) (w:World) (hA:Rd w A (nums .i64 P)) (hB:Rd w B (nums .i64 M)) (hG:Rd w G (nums .i64 g)) (hP:P.length = n) (hM:M.length = n) (hg:g.length = n) (hn:n ≤ 1048576) (wM:W64 M) (wr':-9223372036854775808 ≤ ra ∧ ra ≤ 9223372036854775807) (wm':-9223372036854775808 ≤ mo ∧ mo ≤ 9223372036854775807) :
    Calls Tryz.prog 80 #[.agg #[.int .i64 ra,.int .i64 mo,.int .i64 q],.agg #[.slice A n ca,.slice B n cb],.slice G n cg] w (RNext13Is ra mo q P M g n w):=by
  have hm1:=fun k w' => refMul mo (nth M k) q w' wm' (wM.nth k)
  have hm2:=fun x w' (hx:-9223372036854775808 ≤ x ∧ x ≤ 9223372036854775807) => refMul ra x q w' wr' hx
  have HAz:=Lib.hid hA;have HB:=Lib.hid hB;have HG:=Lib.hid hG;have HP:=Lib.hid hP;have HM:=Lib.hid hM;have Hg:=Lib.hid hg;have Hm1:=Lib.hid hm1;have Hm2:=Lib.hid hm2
  clear hA hB hG hP hM hg wM wr' wm' hm1 hm2
  go_enter Tryz.func80,Tryz.ntmps80
  go_wp2_with fail
  have s1:=size_of_alloc (w:=w) rfl (.cells #[.int .i64 ra,.int .i64 mo,.int .i64 q] 168)
  have r1:=blk_new w #[.int .i64 ra,.int .i64 mo,.int .i64 q] 168 rfl
  have b1:Below w.heap.size w (w.alloc (.cells #[.int .i64 ra,.int .i64 mo,.int .i64 q] 168)):=(Below.refl _ w).alloc (Nat.le_refl _) _
  generalize w.alloc (.cells #[.int .i64 ra,.int .i64 mo,.int .i64 q] 168) = W1 at s1 r1 b1 ⊢
  have s2:=size_of_alloc s1 (.cells #[.slice A n ca,.slice B n cb] 39)
  have r2:=blk_alloc r1 (.cells #[.slice A n ca,.slice B n cb] 39)
  have t2:=blk_new W1 #[.slice A n ca,.slice B n cb] 39 s1
  have b2:=b1.alloc (by omega) (.cells #[.slice A n ca,.slice B n cb] 39)
  generalize W1.alloc (.cells #[.slice A n ca,.slice B n cb] 39) = W2 at s2 r2 t2 b2 ⊢
  clear s1 r1 b1
  have s3:=size_of_alloc s2 (.cells #[.slice none 0 0,.slice none 0 0] 39)
  have r3:=blk_alloc r2 (.cells #[.slice none 0 0,.slice none 0 0] 39)
  have t3:=blk_alloc t2 (.cells #[.slice none 0 0,.slice none 0 0] 39)
  have u3:=blk_new W2 #[.slice none 0 0,.slice none 0 0] 39 s2
  have b3:=b2.alloc (by omega) (.cells #[.slice none 0 0,.slice none 0 0] 39)
  generalize W2.alloc (.cells #[.slice none 0 0,.slice none 0 0] 39) = W3 at s3 r3 t3 u3 b3 ⊢
  clear s2 r2 t2 b2
  have s4:=size_of_alloc s3 (.cells #[.slice none 0 0,.slice none 0 0] 39)
  have r4:=blk_alloc r3 (.cells #[.slice none 0 0,.slice none 0 0] 39)
  have t4:=blk_alloc t3 (.cells #[.slice none 0 0,.slice none 0 0] 39)
  have u4:=blk_alloc u3 (.cells #[.slice none 0 0,.slice none 0 0] 39)
  have v4:=blk_new W3 #[.slice none 0 0,.slice none 0 0] 39 s3
  have b4:=b3.alloc (by omega) (.cells #[.slice none 0 0,.slice none 0 0] 39)
  generalize W3.alloc (.cells #[.slice none 0 0,.slice none 0 0] 39) = W0 at s4 r4 t4 u4 v4 b4 ⊢
  clear s3 r3 t3 u3 b3
  have S4:=Lib.hid s4;have R4:=Lib.hid r4;have T4:=Lib.hid t4;have U4:=Lib.hid u4;have V4:=Lib.hid v4;have B4:=Lib.hid b4
  clear s4 r4 t4 u4 v4 b4
  go_loopw [9] (fun x wr => ∃ k:Nat,k ≤ n ∧ x = .int .i64 k ∧ NxtI ra mo q P M g (w.heap.size + 1 + 1 + 1) (w.heap.size + 4) k W0 wr) (fun x _ => n - (intOf x).toNat)
  case atStart => exact ⟨0,Nat.zero_le _,rfl,none,0,none,0,V4.out,World.ownsRow_nil _ _ _ _,World.ownsRow_nil _ _ _ _,fun i h => by simp [Value.ownBlock] at h,Keep.refl _ _⟩
  case round =>
    obtain ⟨k,hk,rfl,A1,c1,A2,c2,hv,ho1,ho2,hne,hK⟩:=hrel
    have hrs:=hK.size
    rw [S4.out] at hrs
    by_cases hlt:k < n
    · have hlti:=nx_lt hlt
      have hrr:=(hK.block _ (by rw [S4.out];omega) (by omega)).trans R4.out
      have hrt:=(hK.block _ (by rw [S4.out];omega) (by omega)).trans T4.out
      obtain ⟨ba,oa,rfl,pa⟩:=HAz.out.num (show k < P.length by rw [HP.out];exact hlt)
      obtain ⟨bm,om,rfl,pm⟩:=HB.out.num (show k < M.length by rw [HM.out];exact hlt)
      obtain ⟨bg,og,rfl,pg⟩:=HG.out.num (show k < g.length by rw [Hg.out];exact hlt)
      have la:ba < w.heap.size:=lt_of_cell pa
      have lm:bm < w.heap.size:=lt_of_cell pm
      have lg:bg < w.heap.size:=lt_of_cell pg
      have pa:=hK.cell (B4.out.cell (p:=⟨ba,oa + k,none⟩) la |>.trans pa) (by dsimp only;omega)
      have pm:=hK.cell (B4.out.cell (p:=⟨bm,om + k,none⟩) lm |>.trans pm) (by dsimp only;omega)
      have pg:=hK.cell (B4.out.cell (p:=⟨bg,og + k,none⟩) lg |>.trans pg) (by dsimp only;omega)
      obtain ⟨⟨x0,x1,x2⟩,xf⟩:=bx3 hrr
      obtain ⟨⟨y0,y1⟩,yf⟩:=bx2 hrt
      have HV:=Lib.hid hv;have HO1:=Lib.hid ho1;have HO2:=Lib.hid ho2;have HNE:=Lib.hid hne;have HK:=Lib.hid hK;have HRS:=Lib.hid hrs
      have HRR:=Lib.hid hrr;have HRT:=Lib.hid hrt;have HPA:=Lib.hid pa
      clear hv ho1 ho2 hne hK hrr hrt hrs pa
      go_wp2_with fail
      have hSw:(fun w':World => w'.cell? ⟨w.heap.size,1,none⟩ = some (.int .i64 mo) ∧ w'.cell? ⟨w.heap.size,2,none⟩ = some (.int .i64 q) ∧ w'.cell? ⟨w.heap.size + 1,1,none⟩ = some (.slice (some ⟨bm,om,none⟩) n cb) ∧ w'.cell? ⟨bm,om + k,none⟩ = some (.int .i64 (nth M k)) ∧ w'.cell? ⟨bg,og + k,none⟩ = some (.int .i64 (nth g k))) wr.drew:=⟨x1,x2,y1,pm,pg⟩
      refine HA.g (fun w':World => w'.cell? ⟨w.heap.size,1,none⟩ = some (.int .i64 mo) ∧ w'.cell? ⟨w.heap.size,2,none⟩ = some (.int .i64 q) ∧ w'.cell? ⟨w.heap.size + 1,1,none⟩ = some (.slice (some ⟨bm,om,none⟩) n cb) ∧ w'.cell? ⟨bm,om + k,none⟩ = some (.int .i64 (nth M k)) ∧ w'.cell? ⟨bg,og + k,none⟩ = some (.int .i64 (nth g k))) ?_
      refine HA.t ?_ [0,1,2,3,4,5,6,7,8,10,11,12,13] hSw ?_
      refine HA.o 9 (fun K hK => ?_)
      go_simp
      refine (Hm1.out k _).mono ?_
      rintro e w9 ⟨rfl,rfl⟩
      dsimp only
      refine hK.out _ _ hSw (fun hSw => ?_)
      clear hK K
      refine HA.t ?_ [14,15] hSw ?_
      refine HA.d ?_
      clear hSw pm pg x0 x1 x2 xf y0 y1 yf
      have hmx:-9223372036854775808 ≤ stepM mo q (nth M k) (nth g k) ∧ stepM mo q (nth M k) (nth g k) ≤ 9223372036854775807:=wrap64_bd _
      have hmv:IntKind.i64.wrap (mulQ mo (nth M k) q + nth g k) = stepM mo q (nth M k) (nth g k):=by rw [IntKind.wrap_i64];unfold stepM wrap64;rfl
      obtain ⟨mv,hmv2⟩:∃ mv,stepM mo q (nth M k) (nth g k) = mv:=⟨_,rfl⟩
      rw [hmv2] at hmx hmv
      rw [hmv]
      have hm2:=Hm2.out mv
      have Hmx:=Lib.hid hmx;have Hmv2:=Lib.hid hmv2;have HM2:=Lib.hid hm2
      have hv:=HV.out
      obtain ⟨⟨z0,z1⟩,zf⟩:=bx2 hv
      have hlv:=lt_of_block hv
      clear hm2 hmx hmv2 hv hmv
      have hr7:=Nat.le_trans HRS.out (Nat.le_refl _)
      go_wp2_with (at_builtin;refine wpList_app et_ri64s _ rfl (.tmp 49) (.tmp 51) rfl (w.heap.size + 4) (.slice A2 k c2) k _ rfl (HO2.out.alloc _) (some ⟨wr.heap.size,0,none⟩) 1 1 [.int .i64 mv] rfl (rd_newN wr _ _ _ rfl) rfl (by simp [Value.oneCell']) (by omega) (by unfold maxLen;omega) (by simp;omega) ?_)
      intro A7 c7 w7 ho7 hb7 hg7 hv7
      have ho7:w7.ownsRow (w.heap.size + 4) 2 1 (.slice A7 (k + 1) c7) (k + 1) (nums .i64 (upTo (k + 1) fun j => stepM mo q (nth M j) (nth g j))):=by rw [upTo_succ,nums_append,Hmv2.out];exact ho7
      have hb7':Below (w.heap.size + 4) wr w7:=(((Below.refl _ wr).alloc (by omega) _).drew).trans hb7
      have hp7:w7.ownsRow (w.heap.size + 4) 2 1 (.slice A1 k c1) k (nums .i64 (upTo k fun j => stepP ra q (nth P j) (stepM mo q (nth M j) (nth g j)))):=by
        refine (own_drewN (HO1.out.alloc (.cells #[.int .i64 mv] 2)) 1).kept hg7 ?_
        cases hu:(Value.slice A1 k c1).ownBlock with
        | none => exact .inl rfl
        | some i => exact .inr fun e => HNE.out i hu e.symm
      have hne7:∀ i,(Value.slice A1 k c1).ownBlock = some i → (Value.slice A7 (k + 1) c7).ownBlock ≠ some i:=fun i hi e => by
        rcases hv7 with h | h
        · exact HNE.out i hi (h.symm.trans e)
        · have h1:=(HO1.out.lt i hi).2
          rw [h] at e;injection e with e;omega
      have hv7a:=(hb7'.block _ (by omega)).trans HV.out
      have hr7':=(hb7'.block _ (by omega)).trans HRR.out
      have ht7:=(hb7'.block _ (by omega)).trans HRT.out
      have pa7:=(hb7'.cell (p:=⟨ba,oa + k,none⟩) (by dsimp only;omega)).trans HPA.out
      have hK7:=HK.out.below2 (hb7'.mono (by rw [S4.out];omega))
      have hK8:=Keep.setCell (S:=fun j => j = w.heap.size + 1 + 1 + 1) hK7 ⟨w.heap.size + 1 + 1 + 1,1,none⟩ (.inr rfl) (.slice A7 (k + 1) c7)
      have hk8:Keep (fun j => j = w.heap.size + 1 + 1 + 1) w7 (w7.setCell ⟨w.heap.size + 1 + 1 + 1,1,none⟩ (.slice A7 (k + 1) c7)):=Keep.setCell (S:=fun j => j = w.heap.size + 1 + 1 + 1) (Keep.refl _ _) _ (.inr rfl) _
      have hv8:=heap_setCell_same w7 (w.heap.size + 1 + 1 + 1) 1 _ _ (.slice A7 (k + 1) c7) hv7a
      have hr8:=(hk8.block _ (lt_of_block hr7') (by omega)).trans hr7'
      have ht8:=(hk8.block _ (lt_of_block ht7) (by omega)).trans ht7
      have pa8:=hk8.cell pa7 (by dsimp only;omega)
      have hp8:=hk8.own hp7 (fun j hj e => by have:=(hp7.lt j hj).1;omega)
      have ho8:=hk8.own ho7 (fun j hj e => by have:=(ho7.lt j hj).1;omega)
      obtain ⟨⟨z0,z1⟩,zf⟩:=bx2 hv7a
      have hlv7:=lt_of_block hv7a
      have Hb7:=Lib.hid hb7';have HNE7:=Lib.hid hne7;have HK8:=Lib.hid hK8;have HV8:=Lib.hid hv8;have HR8:=Lib.hid hr8;have HT8:=Lib.hid ht8;have HA8:=Lib.hid pa8;have HP8:=Lib.hid hp8;have HO8:=Lib.hid ho8
      clear hb7' hp7 hne7 hv7a hr7' ht7 pa7 hK7 hK8 hk8 hv8 hr8 ht8 pa8 hp8 ho8 ho7 hb7 hg7 hv7
      go_wp2_with fail
      have hv8:=HV8.out;have hr8:=HR8.out;have ht8:=HT8.out;have pa8:=HA8.out;have hp8:=HP8.out;have ho8:=HO8.out;have hK8:=HK8.out
      have hz8:w7.heap.size = (w7.setCell ⟨w.heap.size + 1 + 1 + 1,1,none⟩ (.slice A7 (k + 1) c7)).heap.size:=by simp
      clear z0 z1 zf HV8 HR8 HT8 HA8 HP8 HO8 HK8
      have hzz:=Nat.le_trans HRS.out Hb7.out.size
      rw [hz8] at hlv7 hzz
      generalize w7.setCell ⟨w.heap.size + 1 + 1 + 1,1,none⟩ (.slice A7 (k + 1) c7) = w8 at hv8 hr8 ht8 pa8 hp8 ho8 hK8 hlv7 hzz ⊢
      clear hz8
      have hv8:w8.heap[w.heap.size + 1 + 1 + 1]? = some (.cells #[.slice A1 k c1,.slice A7 (k + 1) c7] 39 (0,0)):=by simpa using hv8
      obtain ⟨⟨x0,x1,x2⟩,xf⟩:=bx3 hr8
      obtain ⟨⟨y0,y1⟩,yf⟩:=bx2 ht8
      obtain ⟨⟨z0,z1⟩,zf⟩:=bx2 hv8
      have HV8:=Lib.hid hv8;have HP8:=Lib.hid hp8;have HO8:=Lib.hid ho8;have HK8:=Lib.hid hK8
      clear hv8 hr8 ht8 hp8 ho8 hK8
      have hSw:(fun w':World => w'.cell? ⟨w.heap.size,0,none⟩ = some (.int .i64 ra) ∧ w'.cell? ⟨w.heap.size,2,none⟩ = some (.int .i64 q) ∧ w'.cell? ⟨w.heap.size + 1,0,none⟩ = some (.slice (some ⟨ba,oa,none⟩) n ca) ∧ w'.cell? ⟨ba,oa + k,none⟩ = some (.int .i64 (nth P k)) ∧ w'.cell? ⟨w.heap.size + 1 + 1 + 1,0,none⟩ = some (.slice A1 k c1)) w8.drew:=⟨x0,x2,y0,pa8,z0⟩
      refine XA.g 16 (fun w':World => w'.cell? ⟨w.heap.size,0,none⟩ = some (.int .i64 ra) ∧ w'.cell? ⟨w.heap.size,2,none⟩ = some (.int .i64 q) ∧ w'.cell? ⟨w.heap.size + 1,0,none⟩ = some (.slice (some ⟨ba,oa,none⟩) n ca) ∧ w'.cell? ⟨ba,oa + k,none⟩ = some (.int .i64 (nth P k)) ∧ w'.cell? ⟨w.heap.size + 1 + 1 + 1,0,none⟩ = some (.slice A1 k c1)) ?_
      refine XA.t ?_ [0,1,2,3,4,5,6,7,8,9,10,11] hSw ?_
      refine XA.o 12 (fun K hK => ?_)
      go_simp
      refine (HM2.out w8.drew Hmx.out).mono ?_
      rintro e w9 ⟨rfl,rfl⟩
      dsimp only
      refine hK.out _ _ hSw (fun hSw => ?_)
      clear hK K
      refine XA.t ?_ [13] hSw ?_
      refine XA.o 14 (fun K hK => ?_)
      go_simp
      refine hK.out _ _ ⟨cell_alloc hSw.1 _,cell_alloc hSw.2.1 _,cell_alloc hSw.2.2.1 _,cell_alloc hSw.2.2.2.1 _,cell_alloc hSw.2.2.2.2 _⟩ (fun hSw => ?_)
      clear hK K
      refine XA.o 15 (fun K hK => ?_)
      refine step_appX et_ri64s (.tmp 55) (.tmp 68) rfl rfl (w.heap.size + 4) (.slice A1 k c1) k _ rfl (own_drewN (HP8.out.alloc _) 1) (some ⟨w8.heap.size,0,none⟩) 1 1 [.int .i64 (IntKind.i64.wrap (nth P k - mulQ ra mv q))] rfl (rd_newN w8 _ _ _ rfl) rfl (by simp [Value.oneCell']) (by omega) (by unfold maxLen;omega) (by simp;omega) ?_
      intro A9 c9 w9 ho9 hb9 hg9 hv9
      have hb9':Below (w.heap.size + 4) w8 w9:=(((Below.refl _ w8).alloc (by omega) _).drew).trans hb9
      have hS9:=And.intro ((hb9.cell (p:=⟨w.heap.size,0,none⟩) (by dsimp only;omega)).trans hSw.1) (And.intro ((hb9.cell (p:=⟨w.heap.size,2,none⟩) (by dsimp only;omega)).trans hSw.2.1) (And.intro ((hb9.cell (p:=⟨w.heap.size + 1,0,none⟩) (by dsimp only;omega)).trans hSw.2.2.1) (And.intro ((hb9.cell (p:=⟨ba,oa + k,none⟩) (by dsimp only;omega)).trans hSw.2.2.2.1) ((hb9.cell (p:=⟨w.heap.size + 1 + 1 + 1,0,none⟩) (by dsimp only;omega)).trans hSw.2.2.2.2))))
      have hsp:IntKind.i64.wrap (nth P k - mulQ ra mv q) = stepP ra q (nth P k) (stepM mo q (nth M k) (nth g k)):=by rw [IntKind.wrap_i64,Hmv2.out];unfold stepP wrap64;rfl
      have ho9:w9.ownsRow (w.heap.size + 4) 2 1 (.slice A9 (k + 1) c9) (k + 1) (nums .i64 (upTo (k + 1) fun j => stepP ra q (nth P j) (stepM mo q (nth M j) (nth g j)))):=by rw [upTo_succ,nums_append,← hsp];exact ho9
      have hm9:w9.ownsRow (w.heap.size + 4) 2 1 (.slice A7 (k + 1) c7) (k + 1) (nums .i64 (upTo (k + 1) fun j => stepM mo q (nth M j) (nth g j))):=by
        refine (own_drewN (HO8.out.alloc (.cells #[.int .i64 (IntKind.i64.wrap (nth P k - mulQ ra mv q))] 2)) 1).kept hg9 ?_
        cases hu:(Value.slice A7 (k + 1) c7).ownBlock with
        | none => exact .inl rfl
        | some i => exact .inr fun e => HNE7.out i e.symm hu
      have hne9:∀ i,(Value.slice A9 (k + 1) c9).ownBlock = some i → (Value.slice A7 (k + 1) c7).ownBlock ≠ some i:=fun i hi e => by
        rcases hv9 with h | h
        · exact HNE7.out i (h.symm.trans hi) e
        · have h1:=(HO8.out.lt i e).2
          rw [h] at hi;injection hi with hi;simp at hi;omega
      have hx9:=(hb9'.block _ (by omega)).trans HV8.out
      have hK9:=HK8.out.below2 (hb9'.mono (by rw [S4.out];omega))
      have hx10:=heap_setCell_same w9 (w.heap.size + 1 + 1 + 1) 0 _ _ (.slice A9 (k + 1) c9) hx9
      have hk10:Keep (fun j => j = w.heap.size + 1 + 1 + 1) w9 (w9.setCell ⟨w.heap.size + 1 + 1 + 1,0,none⟩ (.slice A9 (k + 1) c9)):=Keep.setCell (S:=fun j => j = w.heap.size + 1 + 1 + 1) (Keep.refl _ _) _ (.inr rfl) _
      have hI:NxtI ra mo q P M g (w.heap.size + 1 + 1 + 1) (w.heap.size + 4) (k + 1) W0 (w9.setCell ⟨w.heap.size + 1 + 1 + 1,0,none⟩ (.slice A9 (k + 1) c9)):=
        ⟨A9,c9,A7,c7,by simpa using hx10,hk10.own ho9 (fun j hj e => by have:=(ho9.lt j hj).1;omega),hk10.own hm9 (fun j hj e => by have:=(hm9.lt j hj).1;omega),hne9,hK9.trans hk10⟩
      have HI:=Lib.hid hI
      clear x0 x1 x2 xf y0 y1 yf z0 z1 zf
      obtain ⟨⟨z0,z1⟩,zf⟩:=bx2 hx9
      have hl9:=lt_of_block hx9
      clear ho9 hb9 hg9 hv9 hb9' hsp hm9 hne9 hx9 hK9 hx10 hk10 hI hSw
      dsimp only
      refine hK.out _ _ hS9 (fun hSw => ?_)
      clear hK K hS9 hSw
      refine XA.e ?_
      simp only [List.drop_succ_cons,List.drop_zero]
      go_wp2_with fail
      go_roundw
      case rel => exact ⟨k + 1,hlt,by go_num,HI.out⟩
      case measure => exact nx_m hlt
    · obtain rfl:n = k:=by omega
      have hz6:=(hK.block _ (by rw [S4.out];omega) (by omega)).trans U4.out
      have hBw:Below w.heap.size w wr:=B4.out.trans (hK.toBelow (by rw [S4.out];omega) (fun j hj => by omega))
      obtain ⟨e2,k2⟩:=store2 wr (w.heap.size + 1 + 1) (.slice A1 n c1) (.slice A2 n c2) hz6
      have h1:=own_base (base':=w.heap.size) (k2.own ho1 (fun j hj e => by have:=(ho1.lt j hj).1;omega)) (by omega)
      have h2:=own_base (base':=w.heap.size) (k2.own ho2 (fun j hj e => by have:=(ho2.lt j hj).1;omega)) (by omega)
      have h3:=hBw.trans (k2.toBelow hBw.size (fun j hj => by omega))
      obtain ⟨⟨y0,y1⟩,yf⟩:=bx2 hv
      obtain ⟨⟨z0,z1⟩,zf⟩:=bx2 hz6
      have E2:=Lib.hid e2;have F1:=Lib.hid h1;have F2:=Lib.hid h2;have F3:=Lib.hid h3
      have hlv:=lt_of_block hv
      have hlz:=lt_of_block hz6
      clear e2 k2 h1 h2 h3 ho1 ho2 hK hv hz6 hBw hne
      go_wp2_with fail
      have e3:=E2.out;have h1:=F1.out;have h2:=F2.out;have h3:=F3.out
      generalize (wr.setCell ⟨w.heap.size + 1 + 1,0,none⟩ (.slice A1 n c1)).setCell ⟨w.heap.size + 1 + 1,1,none⟩ (.slice A2 n c2) = W9 at e3 h1 h2 h3 ⊢
      clear y0 y1 yf z0 z1 zf
      obtain ⟨⟨r0,r1⟩,rf⟩:=bx2 e3
      exact bodyPost_ret (v:=.tuple #[.agg #[.slice A1 n c1,.slice A2 n c2],.bool true]) (by simp [results,Tryz.results80,go_sem,r0,r1]) rfl ⟨_,_,_,_,rfl,by unfold nextP;rw [HP.out];exact h1,by unfold nextM;rw [HM.out];exact h2,h3⟩
end Go.Proofs.YtaccfnffmbndhaaGreat
namespace Go.Proofs.YtaccfnffmbndhaaGreat
open Go.RowKit
set_option maxRecDepth 100000 in
set_option maxHeartbeats 200000 in
theorem rbatch_any (n b steps t E c:Nat) (A:Option Addr) (l:List Int) (w:World) (hA:SlRd rVec 1 w A (ordersN l n E)) (hb:1 ≤ b) (hbn:b ≤ n) (hn:n ≤ 1048576) (hst:steps ≤ 1048576) (ht:t < steps) (hE:E = epN n b steps) :
    Calls Tryz.prog 79 #[.agg #[.int .i64 n,.int .i64 b,.int .i64 steps,.slice A E c],.int .i64 t] w fun e w' => ∃ A c,e = .returned (.slice A b c) ∧ b ≤ c ∧ Rd w' A (nums .i64 (batchN l n b t)) ∧ Below w.heap.size w w':=by
  have hnb:1 ≤ n / b:=Nat.div_pos hbn hb
  have hep:=fun w' => repoch_any n b steps t c A E w' ⟨hb,hbn⟩ hn hst ht
  have hlt:t / (n / b) < E:=by rw [hE];exact epoch_lt ht
  have hel:E ≤ steps:=by rw [hE];exact cntQ_le _ _
  have hbt:batchN l n b t = ((permN l n ((t / (n / b)) * (n - 1))).drop (t % (n / b) * b)).take b:=rfl
  have hwm:t % (n / b) * b + b ≤ n:=whole_le n b _ (Nat.mod_lt _ (by omega))
  rw [hbt]
  have hx:=ordersN_at l n hlt
  obtain ⟨pl,hpl⟩:∃ pl,permN l n ((t / (n / b)) * (n - 1)) = pl:=⟨_,rfl⟩
  have hpn:pl.length = n:=by rw [← hpl];exact permN_len _ _ _
  rw [hpl] at hx ⊢
  obtain ⟨e0,he0⟩:∃ e0,t / (n / b) = e0:=⟨_,rfl⟩
  obtain ⟨p0,hp0⟩:∃ p0,t % (n / b) = p0:=⟨_,rfl⟩
  rw [he0] at hep hlt hx
  rw [hp0] at hep hwm ⊢
  obtain ⟨lo,hlo⟩:∃ lo,p0 * b = lo:=⟨_,rfl⟩
  rw [hlo] at hwm ⊢
  obtain ⟨bo,oo,A1,c1,rfl,hb1,q2,k3,h11,h9⟩:=rVec_cell hA hx
  rw [hpn] at h9 h11 q2
  obtain ⟨bg,og,rfl,q3⟩:=k3.num (show 0 < pl.length by omega)
  have he2:(e0:Int) < E:=by omega
  have hl1:(lo:Int) ≤ ((lo + b:Nat):Int):=by omega
  have hl4:lo + b ≤ c1:=by omega
  have hp0l:(p0:Int) * b = (lo:Int):=by rw [← hlo];push_cast;rfl
  have Hep:=Lib.hid hep;have K3:=Lib.hid k3
  clear hep k3 hE he0 hp0 hlo hpl hA hbt q3 hx
  have hz:=heap_alloc_new w (.cells #[.int .i64 n,.int .i64 b,.int .i64 steps,.slice (some ⟨bo,oo,none⟩) E c] 159)
  have hB0:Below w.heap.size w (w.alloc (.cells #[.int .i64 n,.int .i64 b,.int .i64 steps,.slice (some ⟨bo,oo,none⟩) E c] 159)):=(Below.refl _ w).alloc (Nat.le_refl _) _
  go_enter Tryz.func79,Tryz.ntmps79
  obtain ⟨W0,hW0⟩:∃ W0,W0 = w.alloc (.cells #[.int .i64 n,.int .i64 b,.int .i64 steps,.slice (some ⟨bo,oo,none⟩) E c] 159):=⟨_,rfl⟩
  go_wp2_with fail
  rw [← hW0] at hz hB0 ⊢
  clear hW0
  refine (Hep.out _).mono ?_
  rintro e w1 ⟨rfl,hb1'⟩
  have hz1:=(hb1'.block _ (lt_of_block hz)).trans hz
  have hbb:=hB0.trans (hb1'.mono hB0.size)
  have q2':=cell_below hbb q2
  have hbs:bo < w1.heap.size:=by have:=hbb.size;omega
  have hbz:=lt_of_block hz1
  obtain ⟨⟨y0,y1,y2,y3⟩,yf⟩:=bx4 hz1
  have HB:=Lib.hid hbb
  clear q2 hz hB0 hb1' hz1 hbb hl1
  go_upto_region 4 with (fail)
  have hw1':IntKind.i64.wrap ((lo:Int) + b) = (lo:Int) + b:=IntWalk.i64_in _ (by omega)
  have hw0':IntKind.i64.wrap (lo:Int) = (lo:Int):=IntWalk.i64_in _ (by omega)
  have hl6:(lo:Int) + b ≤ c1:=by omega
  have hl7:((lo:Int) + b).toNat = lo + b:=by omega
  have hl8:(0:Int) ≤ (lo:Int) + b:=by omega
  have hl9:(lo:Int) ≤ (lo:Int) + b:=by omega
  have hl0:lo + b - lo = b:=by omega
  have hlx:¬ (lo + b = lo):=by omega
  go_quiet (fail)
  go_wp2_with fail
  go_ret
  refine ⟨_,_,rfl,?_,?_,below_drewN HB.out _⟩
  · omega
  · have:=(((K3.out.below HB.out).drewN nq).drop lo).take b
    rwa [nums_drop,nums_take] at this
end Go.Proofs.YtaccfnffmbndhaaGreat
namespace Go.Proofs.YtaccfnffmbndhaaGreat
open Go.RowKit
theorem et_rsts:ElemT Tryz.prog 40 39 (.agg #[.slice none 0 0,.slice none 0 0]) 2 48:=⟨Tryz.underlying40,info_parts (by kernel_rfl),rfl,by decide⟩
def RdOr (Z:Option Addr) (w0 w:World) (u:Value) (zs:List Int):Prop:=(∃ c,u = .slice Z zs.length c ∧ zs.length ≤ c ∧ Rd w0 Z (nums .i64 zs) ∧ Rd w Z (nums .i64 zs)) ∨ w.ownsRow w0.heap.size 2 1 u zs.length (nums .i64 zs)
theorem RdOr.below {Z:Option Addr} {w0 w w':World} {u:Value} {zs:List Int} (h:RdOr Z w0 w u zs) (hb:Below w.heap.size w w'):RdOr Z w0 w' u zs:=by
  rcases h with ⟨c,e,hc,h0,h1⟩ | h
  · exact .inl ⟨c,e,hc,h0,h1.below hb⟩
  · exact .inr (own_below h hb)
theorem RdOr.box {Z:Option Addr} {w0 w w':World} {u:Value} {zs:List Int} (h:RdOr Z w0 w u zs) {b:Nat} {cs:Array Value} {t:TypeId} {sg:Nat × Nat} (hb:w.heap[b]? = some (.cells cs t sg)) (ht:t ≠ 2) (hw:w0.heap.size ≤ b) (k:Keep (fun j => j = b) w w'):RdOr Z w0 w' u zs:=by
  rcases h with ⟨c,e,hc,h0,h1⟩ | h
  · exact .inl ⟨c,e,hc,h0,keep_rd k h0 h1 (fun j hj => by omega)⟩
  · exact .inr (k.own h (fun j hj e => block_notrow hb ht h (by rw [hj,e])))
theorem RdOr.pushed {Z:Option Addr} {w0 w w':World} {u v:Value} {zs:List Int} {e size n base:Nat} {xs:List Value} (h:RdOr Z w0 w u zs) (hv:w.ownsRow base e size v n xs) (hbs:w0.heap.size ≤ base) (hg:w.grownBy w' v.ownBlock) (h1:e ≠ 2):RdOr Z w0 w' u zs:=by
  rcases h with ⟨c,e,hc,h0,h2⟩ | h
  · refine .inl ⟨c,e,hc,h0,?_⟩
    cases zs with
    | nil => exact Rd.nil _ _
    | cons z zs =>
      obtain ⟨b,o,rfl,c0⟩:=h0.num (k:=0) (by simp)
      refine h2.grown hg fun a ha => ?_
      injection ha with ha
      intro e9
      have h5:=(hv.lt _ e9.symm).1
      have h6:b < w0.heap.size:=lt_of_cell c0
      rw [← ha] at h5
      dsimp only at h5
      omega
  · exact .inr (own_pushed h hv hg h1)
theorem RdOr.form {Z:Option Addr} {w0 w:World} {u:Value} {zs:List Int} (h:RdOr Z w0 w u zs):∃ A c,u = .slice A zs.length c ∧ zs.length ≤ c ∧ Rd w A (nums .i64 zs):=by
  rcases h with ⟨c,e,hc,h0,h1⟩ | h
  · exact ⟨Z,c,e,hc,h1⟩
  · obtain ⟨A,c,rfl,hc⟩:=own_form h
    exact ⟨A,c,rfl,hc,Rd.own h⟩
def RSt (Z:Option Addr) (w0 w:World) (cs:List Value) (x:Ex):Prop:=∃ u v,cs = [u,v] ∧ RdOr Z w0 w u x.1 ∧ RdOr Z w0 w v x.2 ∧ x.1.length ≤ 1048576 ∧ x.2.length ≤ 1048576 ∧ W64 x.1 ∧ W64 x.2
theorem RSt.rd {Z:Option Addr} {w0 w:World} {cs:List Value} {x:Ex} (h:RSt Z w0 w cs x):rEx w cs x:=by
  obtain ⟨u,v,rfl,h1,h2,h3,h4,h5,h6⟩:=h
  obtain ⟨A,c,rfl,hc,r1⟩:=h1.form
  obtain ⟨B,d,rfl,hd,r2⟩:=h2.form
  exact ⟨A,c,B,d,rfl,⟨hc,by omega,r1,h5⟩,⟨hd,by omega,r2,h6⟩⟩
theorem RSt.below {Z:Option Addr} {w0 w w':World} {cs:List Value} {x:Ex} (h:RSt Z w0 w cs x) (hb:Below w.heap.size w w'):RSt Z w0 w' cs x:=by
  obtain ⟨u,v,e,h1,h2,h3⟩:=h;exact ⟨u,v,e,h1.below hb,h2.below hb,h3⟩
theorem RSt.box {Z:Option Addr} {w0 w w':World} {cs:List Value} {x:Ex} (h:RSt Z w0 w cs x) {b:Nat} {ds:Array Value} {t:TypeId} {sg:Nat × Nat} (hb:w.heap[b]? = some (.cells ds t sg)) (ht:t ≠ 2) (hw:w0.heap.size ≤ b) (k:Keep (fun j => j = b) w w'):RSt Z w0 w' cs x:=by
  obtain ⟨u,v,e,h1,h2,h3⟩:=h;exact ⟨u,v,e,h1.box hb ht hw k,h2.box hb ht hw k,h3⟩
theorem RSt.pushed {Z:Option Addr} {w0 w w':World} {cs:List Value} {x:Ex} {v:Value} {e size n base:Nat} {xs:List Value} (h:RSt Z w0 w cs x) (hv:w.ownsRow base e size v n xs) (hbs:w0.heap.size ≤ base) (hg:w.grownBy w' v.ownBlock) (h1:e ≠ 2):RSt Z w0 w' cs x:=by
  obtain ⟨u,v,e,k1,k2,k3⟩:=h;exact ⟨u,v,e,k1.pushed hv hbs hg h1,k2.pushed hv hbs hg h1,k3⟩
def MapR (Z:Option Addr) (w0:World) (base:Nat) (w:World) (i:Inp) (n:Nat) (v:Value):Prop:=∃ rows,w.ownsRow base 39 2 v n (List.flatten rows) ∧ rows.length = n ∧ (∀ r ∈ rows,r.length = 2) ∧ (∀ j,j < n → RSt Z w0 w (rowOf rows j) (traj i j))
theorem MapR.form {Z:Option Addr} {w0 w:World} {base n:Nat} {i:Inp} {v:Value} (h:MapR Z w0 base w i n v):∃ A c,v = .slice A n c ∧ n ≤ c:=by
  obtain ⟨rows,h1,_⟩:=h;exact own_form h1
theorem MapR.below {Z:Option Addr} {w0 w w':World} {base n:Nat} {i:Inp} {v:Value} (h:MapR Z w0 base w i n v) (hb:Below w.heap.size w w'):MapR Z w0 base w' i n v:=by
  obtain ⟨rows,h1,h2,h3,h4⟩:=h
  exact ⟨rows,own_below h1 hb,h2,h3,fun j hj => (h4 j hj).below hb⟩
theorem MapR.box {Z:Option Addr} {w0 w w':World} {base n:Nat} {i:Inp} {v:Value} (h:MapR Z w0 base w i n v) {b:Nat} {ds:Array Value} {t:TypeId} {sg:Nat × Nat} (hb:w.heap[b]? = some (.cells ds t sg)) (ht:t ≠ 2) (hw:w0.heap.size ≤ b) (hbb:b < base) (k:Keep (fun j => j = b) w w'):MapR Z w0 base w' i n v:=by
  obtain ⟨rows,h1,h2,h3,h4⟩:=h
  exact ⟨rows,k.own h1 (fun j hj e => by have:=(h1.lt j hj).1;omega),h2,h3,fun j hj => (h4 j hj).box hb ht hw k⟩
theorem MapR.rd {Z:Option Addr} {w0 w:World} {base n c:Nat} {i:Inp} {A:Option Addr} (h:MapR Z w0 base w i n (.slice A n c)):SlRd rEx 2 w A (trajL i n):=by
  obtain ⟨rows,h1,h2,h3,h4⟩:=h
  exact ⟨rows,Rd.own h1,by rw [trajL_len];exact h2,h3,fun j x hx => by
    have hj:j < n:=by have:=(List.getElem?_eq_some_iff.1 hx).1;rwa [trajL_len] at this
    rw [trajL_at i hj] at hx
    injection hx with hx
    rw [← hx]
    exact (h4 j hj).rd⟩
theorem MapR.push {Z:Option Addr} {w0 w w':World} {base k:Nat} {i:Inp} {v v' u1 u2:Value} {rows:List (List Value)} (h1:w.ownsRow base 39 2 v k (List.flatten rows)) (h2:rows.length = k) (h3:∀ r ∈ rows,r.length = 2) (h4:∀ j,j < k → RSt Z w0 w (rowOf rows j) (traj i j)) (hbs:w0.heap.size ≤ base)
    (hu:RSt Z w0 w [u1,u2] (traj i k)) (ho:w'.ownsRow base 39 2 v' (k + 1) (List.flatten rows ++ [u1,u2])) (hg:w.grownBy w' v.ownBlock):MapR Z w0 base w' i (k + 1) v':=by
  refine ⟨rows ++ [[u1,u2]],by rw [List.flatten_append,List.flatten_cons,List.flatten_nil,List.append_nil];exact ho,by simp [h2],?_,?_⟩
  · intro r hr
    rcases List.mem_append.1 hr with hr | hr
    · exact h3 r hr
    · rw [List.mem_singleton.1 hr];rfl
  · intro j hj
    rcases Nat.lt_or_ge j k with h | h
    · have e:rowOf (rows ++ [[u1,u2]]) j = rowOf rows j:=by simp [rowOf,List.getElem?_append_left (show j < rows.length by omega)]
      rw [e];exact (h4 j h).pushed h1 hbs hg (by decide)
    · obtain rfl:j = k:=by omega
      have e:rowOf (rows ++ [[u1,u2]]) j = [u1,u2]:=by rw [← h2];simp [rowOf]
      rw [e];exact hu.pushed h1 hbs hg (by decide)
theorem MapR.one {Z:Option Addr} {w0 w:World} {base:Nat} {i:Inp} {u1 u2:Value} (hb:base ≤ w.heap.size) (hu:RSt Z w0 w [u1,u2] (traj i 0)):MapR Z w0 base (w.alloc (.cells #[u1,u2] 39)) i 1 (.slice (some ⟨w.heap.size,0,none⟩) 1 1):=by
  refine ⟨[[u1,u2]],⟨by simp,.inr ⟨w.heap.size,1,#[u1,u2],rfl,hb,heap_alloc_new w _,Nat.le_refl _,by unfold maxLen;omega,by simp,by simp⟩⟩,rfl,by simp,fun j hj => ?_⟩
  obtain rfl:j = 0:=by omega
  exact hu.below ((Below.refl _ _).alloc (Nat.le_refl _) _)
theorem traj_W64 (i:Inp) (h:W64 i.start):∀ k,W64 (traj i k).1 ∧ W64 (traj i k).2:=by
  intro k
  cases k with
  | zero => exact ⟨h,fun k hk => by rw [traj] at hk ⊢;rw [nth_eq _ _ hk];simp⟩
  | succ k => exact ⟨nextP_W64 _ _ _ _ _ _,nextM_W64 _ _ _ _⟩
def RTrainT (T:Option Addr) (i:Inp) (w:World) (e:Ending) (w':World):Prop:=Below w.heap.size w w' ∧ ∃ A c base,e = .returned (.tuple #[.slice A (i.cfg.steps.toNat + 1) c,.int .i64 0]) ∧ MapR T w base w' i (i.cfg.steps.toNat + 1) (.slice A (i.cfg.steps.toNat + 1) c) ∧ w.heap.size ≤ base
end Go.Proofs.YtaccfnffmbndhaaGreat
