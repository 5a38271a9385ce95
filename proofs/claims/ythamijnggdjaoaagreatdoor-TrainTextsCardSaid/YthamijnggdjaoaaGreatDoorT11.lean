/- Texts of a report: the first part. -/
import Derived.Test.YthamijnggdjaoaaGreatDoorT01
import Derived.Test.YthamijnggdjaoaaGreatDoorT05
import Derived.Test.YthamijnggdjaoaaGreatDoorT06
import Derived.Deep.RegionHeld3
import Derived.Test.YthamijnggdjaoaaGreatDoorT10
import Derived.Test.YthamijnggdjaoaaGreatDoorT03
import Derived.BigQuiet
import Derived.Deep.QuietTactic
import Derived.Lib.ItoaNum
import Derived.Test.YthamijnggdjaoaaGreatDoorProg
import Derived.Test.YthamijnggdjaoaaGreatDoorT09
import Derived.Lib.ItoaMem
import Derived.Laws.Strings2
import Derived.Laws.IdiomStrings
import Derived.KernelRfl
import Derived.Deep.DeepCutAuto
set_option linter.unusedSimpArgs false
set_option linter.unusedVariables false
namespace Go.Proofs.YthamijnggdjaoaaGreatDoor
open Go.RowKit
set_option maxRecDepth 100000 in
set_option maxHeartbeats 2000000 in
theorem refloss_any (As Ap X Y:Option Addr) (sz ps x y:List Int) (cs cp cx cy:Nat) (q:Int) (w:World) (h:RNet w As Ap sz ps cs) (hX:Rd w X (nums .i64 x)) (hx:x.length = szN sz 0) (wx:W64 x) (hcx:x.length ≤ cx) (hY:Rd w Y (nums .i64 y)) (hy:y.length = szN sz (sz.length - 1)) :
    Calls Tryz.prog 80 #[.agg #[.slice As sz.length cs,.slice Ap ps.length cp,.int .i64 q],.slice X x.length cx,.slice Y y.length cy] w fun e w' => e = .returned (.int .i64 (lossN sz ps q x y)) ∧ Below w.heap.size w w':=by
  have hl16:=h.hg.1.1
  have hmb:=(h.hg.1.at (k:=sz.length - 1) (by omega)).2.1
  have hla:=fun w' => rlast_any As Ap sz.length ps.length cs cp q w' (by omega)
  have htr:=fun w' (hb:Below w.heap.size w w') => rtrace_any As Ap X sz ps x cs cp cx q w' (h.below hb) (hX.below hb) hx wx hcx
  have her:=fun V cv vals w' (hb:Below w.heap.size w w') (hV:Rd w' V vals) (hva:VecsAt w' vals sz.length (valL sz ps q x)) => rerr_any As Ap Y V sz ps x y cs cp cy cv q vals hx wx hy 0 w' (by omega) (h.below hb) (hY.below hb) hV hva
  have hel:=errD_len (sz:=sz) (ps:=ps) (q:=q) (x:=x) (y:=y) hx 0
  have wel:=errD_W64 sz ps q x y 0
  have hlo:lossN sz ps q x y = dotN (errD sz ps q x y 0) (errD sz ps q x y 0) q (errD sz ps q x y 0).length:=rfl
  rw [Nat.sub_zero,← hy] at hel
  simp only [Nat.sub_zero,← hy] at her
  rw [hlo,hel]
  obtain ⟨ev,hev⟩:∃ ev,errD sz ps q x y 0 = ev:=⟨_,rfl⟩
  obtain ⟨L,hL⟩:∃ L,sz.length = L:=⟨_,rfl⟩
  obtain ⟨m,hm⟩:∃ m,ps.length = m:=⟨_,rfl⟩
  obtain ⟨Y0,hY0⟩:∃ Y0,y.length = Y0:=⟨_,rfl⟩
  obtain ⟨X0,hX0⟩:∃ X0,x.length = X0:=⟨_,rfl⟩
  rw [hev] at hel wel her ⊢
  rw [hL] at hla htr her ⊢
  rw [hm] at hla htr her ⊢
  rw [hY0] at hel her ⊢
  rw [← hy,hY0] at hmb
  rw [hX0] at htr ⊢
  have Hla:=Lib.hid hla;have Htr:=Lib.hid htr;have Her:=Lib.hid her;have Hel:=Lib.hid hel;have WEL:=Lib.hid wel
  clear hla htr her hel wel h hX hx wx hcx hY hy hlo hev hL hm hY0 hX0
  go_enter Tryz.func80,Tryz.ntmps80
  go_wp2_with fail
  obtain ⟨V0,hV0⟩:∃ V0,V0 = w.alloc (.cells #[.slice As L cs,.slice Ap m cp,.int .i64 q] 165):=⟨_,rfl⟩
  have hbx0:V0.heap[w.heap.size]? = some (.cells #[.slice As L cs,.slice Ap m cp,.int .i64 q] 165 (0,0)):=by rw [hV0];exact heap_alloc_new w _
  have hB0:Below w.heap.size w V0:=by rw [hV0];exact (Below.refl _ w).alloc (Nat.le_refl _) _
  rw [← hV0]
  clear hV0
  obtain ⟨⟨y0,y1,y2⟩,yf⟩:=bx3 hbx0
  have Hbx0:=Lib.hid hbx0;have HB0:=Lib.hid hB0;clear hbx0 hB0
  have hSw:(fun w':World => w'.cell? ⟨w.heap.size,0,none⟩ = some (.slice As L cs) ∧ w'.cell? ⟨w.heap.size,1,none⟩ = some (.slice Ap m cp) ∧ w'.cell? ⟨w.heap.size,2,none⟩ = some (.int .i64 q)) V0.drew:=⟨y0,y1,y2⟩
  refine HA.g (fun w':World => w'.cell? ⟨w.heap.size,0,none⟩ = some (.slice As L cs) ∧ w'.cell? ⟨w.heap.size,1,none⟩ = some (.slice Ap m cp) ∧ w'.cell? ⟨w.heap.size,2,none⟩ = some (.int .i64 q)) ?_
  refine HA.t ?_ [0,1,3,4,6] hSw ?_
  refine HA.o 2 (fun K hK => ?_)
  go_simp
  refine (Hla.out _).mono ?_
  rintro e w1 ⟨rfl,hb1⟩
  have hB1:=HB0.out.drew.trans (hb1.mono HB0.out.size)
  have hS1:=And.intro (cell_below hb1 y0) (And.intro (cell_below hb1 y1) (cell_below hb1 y2))
  have hbx1:=(hb1.block _ (lt_of_block (w:=V0.drew) Hbx0.out)).trans Hbx0.out
  have HB1:=Lib.hid hB1;have Hbx1:=Lib.hid hbx1;clear hb1 hB1 hbx1 hSw
  dsimp only
  refine hK.out _ _ hS1 (fun hSw => ?_)
  clear hK K hS1
  refine HA.o 5 (fun K hK => ?_)
  go_simp
  refine (Htr.out _ HB1.out).mono ?_
  rintro e w2 ⟨V,cv,vals,rfl,hV,hva,hcv,hb2⟩
  have hB2:=HB1.out.trans (hb2.mono HB1.out.size)
  have hS2:=And.intro (cell_below hb2 hSw.1) (And.intro (cell_below hb2 hSw.2.1) (cell_below hb2 hSw.2.2))
  have hbx2:=(hb2.block _ (lt_of_block Hbx1.out)).trans Hbx1.out
  have her2:=Her.out V cv vals w2 hB2 hV hva
  have HB2:=Lib.hid hB2;have Hbx2:=Lib.hid hbx2;have Her2:=Lib.hid her2;clear hb2 hB2 hbx2 hSw hV hva hcv her2
  dsimp only
  refine hK.out _ _ hS2 (fun hSw => ?_)
  clear hK K hS2
  refine HA.o 7 (fun K hK => ?_)
  go_simp
  refine Her2.out.mono ?_
  rintro e w3 ⟨E,ce,rfl,ho3,hb3⟩
  have hB3:=HB2.out.trans (hb3.mono HB2.out.size)
  have hS3:=And.intro (cell_below hb3 hSw.1) (And.intro (cell_below hb3 hSw.2.1) (cell_below hb3 hSw.2.2))
  have hrd:=Rd.own ho3
  have y2':=hS3.2.2
  have hl3:w.heap.size < w3.heap.size:=lt_of_cell y2'
  have HB3:=Lib.hid hB3;have Hrd:=Lib.hid hrd;clear hb3 hB3 hrd ho3 hSw
  dsimp only
  refine hK.out _ _ hS3 (fun hSw => ?_)
  clear hK K hS3
  refine HA.t ?_ [8] hSw ?_
  refine HA.d ?_
  clear hSw y0 y1 y2 yf
  go_wp2_with fail
  go_loopw [8,9] (fun s i wr => ∃ k:Nat,k ≤ Y0 ∧ i = .int .i64 k ∧ s = .int .i64 (dotN ev ev q k) ∧ Below w3.heap.size w3 wr) (fun _ i _ => Y0 - (intOf i).toNat)
  case atStart => exact ⟨0,Nat.zero_le _,rfl,rfl,Below.refl _ _⟩
  case round =>
    obtain ⟨k,hk,rfl,rfl,hW⟩:=hrel
    by_cases hlt:k < Y0
    · obtain ⟨be,oe,rfl,pe⟩:=Hrd.out.num (show k < ev.length by rw [Hel.out];exact hlt)
      have per:=(hW.cell (p:=⟨be,oe + k,none⟩) (lt_of_cell pe)).trans pe
      have y2r:=(hW.cell (p:=⟨w.heap.size,2,none⟩) hl3).trans y2'
      have hmu:=fun w' => refMul (nth ev k) (nth ev k) q w' (WEL.out.nth _) (WEL.out.nth _)
      have Hmu:=Lib.hid hmu;have HW:=Lib.hid hW;clear hmu hW pe
      have hki:(k:Int) < Y0:=by omega
      go_wp2_with fail
      go_region_held3 (fun w' => w'.cell? ⟨be,oe + k,none⟩ = some (.int .i64 (nth ev k)) ∧ w'.cell? ⟨w.heap.size,2,none⟩ = some (.int .i64 q)) (simp [go_sem, *]) ((go_at_call 122;refine (Hmu.out _).mono ?_;rintro e w4 ⟨rfl,rfl⟩))
      go_wp2_with fail
      go_roundw
      case rel => exact ⟨k + 1,by omega,by go_num,by rw [IntKind.wrap_i64,dotN,wrap64],HW.out.drew⟩
      case measure => simp [intOf];omega
    · obtain rfl:k = Y0:=by omega
      have HW:=Lib.hid hW;clear hW
      go_wp2_with fail
      go_ret
      exact ⟨rfl,HB3.out.trans (HW.out.mono HB3.out.size)⟩
end Go.Proofs.YthamijnggdjaoaaGreatDoor
namespace Go.Proofs.YthamijnggdjaoaaGreatDoor
open Go.RowKit
def RLoss14Is (i:Inp) (P idx:List Int) (w:World) (e:Ending) (w':World):Prop:=Below w.heap.size w w' ∧
  ((allGood i idx ∧ e = .returned (.tuple #[.int .i64 (lossAcc i P (pickL i.data idx)),.bool true])) ∨ (¬ allGood i idx ∧ e = .returned (.tuple #[.int .i64 0,.bool false])))
set_option maxRecDepth 100000 in
set_option maxHeartbeats 2000000 in
theorem rloss14_any (A:Option Addr) (c:Nat) (D:Option Addr) (cd:Nat) (T:Option Addr) (ct:Nat) (R:Option Addr) (cr:Nat) (i:Inp) (Ap X:Option Addr) (P idx:List Int) (n cp cx:Nat) (w:World) (hA:Rd w A (nums .i64 i.cfg.sizes)) (hc:i.cfg.sizes.length ≤ c) (hD:SlRd rEx 2 w D i.data) (hg:GoodIn i) (hP:Rd w Ap (nums .i64 P)) (hPl:P.length = n) (hn:cnt i = n) (wP:W64 P) (hX:Rd w X (nums .i64 idx)) (hil:idx.length ≤ 17592186043904) :
    Calls Tryz.prog 26 #[.agg (inpVals A c D cd T ct R cr i),.slice Ap n cp,.slice X idx.length cx] w (RLoss14Is i P idx w):=by
  have hcb:=hg.c.z.bound (k:=i.cfg.sizes.length - 1) (by have:=hg.c.z.1.1;omega)
  have hcn:cntN i.cfg.sizes (i.cfg.sizes.length - 1) = n:=hn
  rw [hcn] at hcb
  have hnet:=fun w' => rnet14_any A c D cd T ct R cr i Ap n cp w'
  have hgr:=fun w' (q:Below w.heap.size w w') X1 Y1 x c1 c2 (hf:fitEx (inN i) (outN i) x) (r1:NumsRd w' X1 x.1 c1) (r2:NumsRd w' Y1 x.2 c2) => refloss_any A Ap X1 Y1 i.cfg.sizes P x.1 x.2 c cp c1 c2 i.cfg.shift w' ⟨hA.below q,hP.below q,hg.c.z,by rw [hPl,hcn],hc,wP⟩ r1.hr hf.1 r1.hw r1.hc r2.hr hf.2
  rw [hPl] at hgr
  obtain ⟨m,hm⟩:∃ m,idx.length = m:=⟨_,rfl⟩
  obtain ⟨N,hN⟩:∃ N,i.data.length = N:=⟨_,rfl⟩
  have hNb:N ≤ 1048576:=by rw [← hN];exact hg.b.2
  rw [hm] at hil ⊢
  have hbl:(w.alloc (.cells (inpVals A c D cd T ct R cr i) 29)).heap.size = w.heap.size + 1:=by simp
  have hbx:=blk_new w (inpVals A c D cd T ct R cr i) 29 rfl
  have hb0:Below w.heap.size w (w.alloc (.cells (inpVals A c D cd T ct R cr i) 29)):=(Below.refl _ w).alloc (Nat.le_refl _) _
  obtain ⟨W1,hW1⟩:∃ W1,W1 = w.alloc (.cells (inpVals A c D cd T ct R cr i) 29):=⟨_,rfl⟩
  rw [← hW1] at hbl hbx hb0
  have HD:=Lib.hid hD;have HX:=Lib.hid hX;have Hnet:=Lib.hid hnet;have Hgr:=Lib.hid hgr;have Hm:=Lib.hid hm;have HN:=Lib.hid hN;have HG:=Lib.hid hg;have HBx2:=Lib.hid hbx;have HB2:=Lib.hid hb0;have Hbl:=Lib.hid hbl;have Hn:=Lib.hid hn
  clear hA hc hD hg hP hPl hn wP hX hnet hgr hm hN hbl hbx hb0 hcn hcb
  go_enter Tryz.func26,Tryz.ntmps26
  dsimp only [inpVals]
  go_wp2_with fail
  rw [← hW1]
  clear hW1
  go_loopw [8,9] (fun v x wr => ∃ k:Nat,k ≤ m ∧ x = .int .i64 k ∧ v = .int .i64 (lossAcc i P (pickL i.data (idx.take k))) ∧ Hid (∀ j,j < k → goodI N (nth idx j)) ∧ Below (w.heap.size + 1) W1 wr) (fun _ x _ => m - (intOf x).toNat)
  case atStart => exact ⟨0,Nat.zero_le _,rfl,by simp [lossAcc,pickL],Lib.hid fun j hj => by omega,Below.refl _ _⟩
  case round =>
    obtain ⟨k,hk,rfl,rfl,Hall,hbw⟩:=hrel
    have hbx:=(hbw.block _ (by omega)).trans HBx2.out
    have hB:=HB2.out.trans (hbw.mono (Nat.le_succ _))
    have hrs:=hB.size
    have HBW:=Lib.hid hbw;have HB:=Lib.hid hB;have HBX:=Lib.hid hbx
    dsimp only [inpVals] at hbx
    obtain ⟨⟨t0,t1,t2,t3,t4,t5,t6,t7,t8,t9,t10,t11,t12,t13,t14⟩,tf⟩:=bx15 hbx
    have hlx:=lt_of_block hbx
    clear hbw hB hbx
    by_cases hlt:k < m
    · have hlti:(k:Int) < m:=by omega
      obtain ⟨bx,ox,rfl,px⟩:=HX.out.num (show k < idx.length by rw [Hm.out];exact hlt)
      have px':=(HB.out.cell (p:=⟨bx,ox + k,none⟩) (lt_of_cell px)).trans px
      clear px
      by_cases hgd:goodI N (nth idx k)
      · obtain ⟨j,hj⟩:∃ j:Nat,nth idx k = (j:Int):=⟨(nth idx k).toNat,by have:=hgd.1;omega⟩
        have hjN:j < N:=by have:=hgd.2;omega
        rw [hj] at px'
        obtain ⟨x,hx⟩:∃ x,i.data[j]? = some x:=⟨_,List.getElem?_eq_getElem (by rw [HN.out];exact hjN)⟩
        obtain ⟨bd,od,X1,c1,Y1,c2,rfl,hbd,p1,p2,r1,r2⟩:=ex_cells (HD.out.below stays_ex HB.out) hx
        have hfit:fitEx (inN i) (outN i) x:=HG.out.f _ (by obtain ⟨q1,q2⟩:=List.getElem?_eq_some_iff.1 hx;rw [← q2];exact List.getElem_mem _)
        have hgr:=fun w' (q:Below wr.heap.size wr w') => Hgr.out w' (HB.out.trans (q.mono HB.out.size)) X1 Y1 x c1 c2 hfit (r1.below q) (r2.below q)
        have hps:=pick_snoc i.data idx (k:=k) (by rw [Hm.out];exact hlt) hj hx
        have q1:¬ ((j:Int) < 0):=by omega
        have hN:=HN.out
        have q2:¬ ((i.data.length:Int) ≤ j):=by omega
        have q3:(j:Int) < i.data.length:=by omega
        have Hj:=Lib.hid hj;have Hgr2:=Lib.hid hgr;have Hps:=Lib.hid hps;have Hgd:=Lib.hid hgd
        obtain ⟨n1,hn1⟩:∃ n1,x.1.length = n1:=⟨_,rfl⟩
        obtain ⟨n2,hn2⟩:∃ n2,x.2.length = n2:=⟨_,rfl⟩
        rw [hn1] at p1;rw [hn2] at p2
        have Hn1:=Lib.hid hn1;have Hn2:=Lib.hid hn2
        clear hj hx r1 r2 hfit hgr hps hgd hN hn1 hn2
        go_upto_region 8 with (fail)
        clear px' t0 t1 t2 t3 t4 t5 t6 t7 t8 t9 t10 t11 t12 t13 t14 tf
        have hbx:=HBX.out
        dsimp only [inpVals] at hbx
        have hSw:(fun w':World => w'.heap[w.heap.size]? = some (.cells #[.slice A i.cfg.sizes.length c,.int .i64 i.cfg.shift,.int .i64 i.cfg.rate,.int .i64 i.cfg.mom,.int .i64 i.cfg.workers,.int .i64 i.cfg.batch,.int .i64 i.cfg.micros,.int .i64 i.cfg.steps,.int .i64 i.cfg.bucket,.int .i64 i.cfg.chunk,.int .i64 i.cfg.window,.int .i64 i.cfg.cap,.slice (some ⟨bd,od,none⟩) i.data.length cd,.slice T i.start.length ct,.slice R i.draws.length cr] 29 (0,0)) ∧ w'.cell? ⟨bd,od + j * 2,none⟩ = some (.slice X1 n1 c1) ∧ w'.cell? ⟨bd,od + j * 2 + 1,none⟩ = some (.slice Y1 n2 c2)) wr.drew:=⟨hbx,p1,p2⟩
        refine HA.g (fun w':World => w'.heap[w.heap.size]? = some (.cells #[.slice A i.cfg.sizes.length c,.int .i64 i.cfg.shift,.int .i64 i.cfg.rate,.int .i64 i.cfg.mom,.int .i64 i.cfg.workers,.int .i64 i.cfg.batch,.int .i64 i.cfg.micros,.int .i64 i.cfg.steps,.int .i64 i.cfg.bucket,.int .i64 i.cfg.chunk,.int .i64 i.cfg.window,.int .i64 i.cfg.cap,.slice (some ⟨bd,od,none⟩) i.data.length cd,.slice T i.start.length ct,.slice R i.draws.length cr] 29 (0,0)) ∧ w'.cell? ⟨bd,od + j * 2,none⟩ = some (.slice X1 n1 c1) ∧ w'.cell? ⟨bd,od + j * 2 + 1,none⟩ = some (.slice Y1 n2 c2)) ?_
        refine HA.t ?_ [0,1,2,4,5,6,7,8,9,10,11,12,13,14,15] hSw ?_
        refine HA.o 3 (fun K hK => ?_)
        clear hbx
        have hnet:=Hnet.out wr.drew
        dsimp only [inpVals] at hnet
        go_simp
        refine hnet.mono ?_
        clear hnet
        rintro e w3 ⟨rfl,hb3⟩
        have hS3:=And.intro ((hb3.block _ hlx).trans hSw.1) (And.intro (cell_below hb3 hSw.2.1) (cell_below hb3 hSw.2.2))
        have HB3:=Lib.hid (show Below wr.heap.size wr w3 from (Below.refl _ wr).drew.trans hb3)
        clear hb3 hSw
        dsimp only
        refine hK.out _ _ hS3 (fun hSw => ?_)
        clear hK K hS3
        refine HA.o 16 (fun K hK => ?_)
        have hgr:=Hgr2.out w3 HB3.out
        rw [Hn1.out,Hn2.out] at hgr
        go_simp
        refine hgr.mono ?_
        clear hgr
        rintro e w4 ⟨rfl,hb4⟩
        have hS4:=And.intro ((hb4.block _ (lt_of_block hSw.1)).trans hSw.1) (And.intro (cell_below hb4 hSw.2.1) (cell_below hb4 hSw.2.2))
        have HB4:=Lib.hid (HBW.out.trans ((HB3.out.trans (hb4.mono HB3.out.size)).mono hlx))
        clear hb4 hSw
        dsimp only
        refine hK.out _ _ hS4 (fun hSw => ?_)
        clear hK K hS4
        refine HA.t ?_ [17,18] hSw ?_
        refine HA.d ?_
        clear hSw p1 p2
        go_wp2_with fail
        go_roundw
        case rel =>
          refine ⟨k + 1,hlt,by go_num,?_,Lib.hid fun t ht => ?_,HB4.out⟩
          · rw [Hps.out,lossAcc_snoc,IntKind.wrap_i64,wrap64]
          · rcases Nat.lt_or_ge t k with h | h
            · exact Hall.out t h
            · obtain rfl:t = k:=by omega
              exact Hgd.out
        case measure => exact nx_m2 hlt
      · have hgi:nth idx k < 0 ∨ (i.data.length:Int) ≤ nth idx k:=by
          have hN:=HN.out
          unfold goodI at hgd;omega
        have hng:¬ allGood i idx:=fun h => hgd (by rw [← HN.out];exact h k (by rw [Hm.out];exact hlt))
        have Hng:=Lib.hid hng
        obtain ⟨z,hz⟩:∃ z,nth idx k = z:=⟨_,rfl⟩
        rw [hz] at px' hgi
        clear hng hgd hz
        by_cases hz0:z < 0
        · clear hgi
          go_wp2_with fail
          go_ret2
          exact ⟨HB.out,.inr ⟨Hng.out,rfl⟩⟩
        · have hz1:(i.data.length:Int) ≤ z:=by omega
          clear hgi
          go_wp2_with fail
          go_ret2
          exact ⟨HB.out,.inr ⟨Hng.out,rfl⟩⟩
    · obtain rfl:m = k:=by omega
      go_wp2_with fail
      go_ret2
      have h9:lossAcc i P (pickL i.data (idx.take m)) = lossAcc i P (pickL i.data idx):=by rw [← Hm.out,List.take_length]
      exact ⟨HB.out,.inl ⟨fun j hj => by rw [HN.out];exact Hall.out j (by rw [← Hm.out];exact hj),by rw [← h9];rfl⟩⟩
end Go.Proofs.YthamijnggdjaoaaGreatDoor
namespace Go.Proofs.YthamijnggdjaoaaGreatDoor
open Go.RowKit
theorem et_rints:ElemT Tryz.prog 22 3 (.int .i64 0) 1 8:=⟨Tryz.underlying22,info_parts (by kernel_rfl),rfl,by decide⟩
theorem et_rmks:ElemT Tryz.prog 40 87 (.agg #[.int .i64 0,.int .i64 0]) 2 16:=⟨Tryz.underlying40,info_parts (by kernel_rfl),rfl,by decide⟩
theorem rt_rrep:RowTy Tryz.prog 42 5:=⟨⟨_,Tryz.underlying42,rfl⟩,by kernel_rfl⟩
def mkV:List (Int × Int) → List Value
  | [] => []
  | z :: l => .int .i64 z.1 :: .int .i64 z.2 :: mkV l
theorem mkV_snoc (l:List (Int × Int)) (z:Int × Int):mkV (l ++ [z]) = mkV l ++ [.int .i64 z.1,.int .i64 z.2]:=by
  induction l with
  | nil => rfl
  | cons a l ih => simp [mkV,ih]
theorem mkV_flat (l:List (Int × Int)):List.flatten (l.map fun z => [Value.int .i64 z.1,.int .i64 z.2]) = mkV l:=by
  induction l with
  | nil => rfl
  | cons a l ih => simp [mkV,ih]
def SmMk (l:List (Int × Int)):Prop:=∀ z ∈ l,z.1.natAbs ≤ 2 ^ 50 ∧ z.2.natAbs ≤ 2 ^ 50
theorem mkV_sl {w:World} {base n c:Nat} {A:Option Addr} {l:List (Int × Int)} (hl:SmMk l) (hn:l.length = n) (o:w.ownsRow base 87 2 (.slice A n c) n (mkV l)):SlRd rMk 2 w A l:=by
  refine ⟨l.map fun z => [Value.int .i64 z.1,.int .i64 z.2],?_,by rw [List.length_map],(fun r hr => by obtain ⟨z,_,rfl⟩:=List.mem_map.1 hr;rfl),fun j z hz => ?_⟩
  · rw [mkV_flat]
    exact Rd.own o
  · refine ⟨?_,hl z (List.mem_of_getElem? hz)⟩
    simp [rowOf,hz]
theorem pick_all (l:List Ex):pickL l (upTo l.length fun k => (k:Int)) = l:=by
  refine List.ext_getElem? fun j => ?_
  rcases Nat.lt_or_ge j l.length with h | h
  · rw [pickL_at _ _ (by rw [upTo_len];exact h),upTo_nth _ h]
    simp [List.getD_eq_getElem?_getD,List.getElem?_eq_getElem h]
  · rw [List.getElem?_eq_none (by rw [pickL_len,upTo_len];exact h),List.getElem?_eq_none h]
theorem all_good (i:Inp):allGood i (upTo i.data.length fun k => (k:Int)):=fun k hk => by
  rw [upTo_len] at hk
  rw [upTo_nth _ hk]
  unfold goodI
  omega
set_option maxRecDepth 100000 in
set_option maxHeartbeats 4000000 in
theorem rrun_bad (A:Option Addr) (c:Nat) (D:Option Addr) (cd:Nat) (T:Option Addr) (ct:Nat) (R:Option Addr) (cr:Nat) (i:Inp) (w:World) (h:InpRd w A c D T ct R i) (hbad:inCode i ≠ 0) :
    Calls Tryz.prog 7 #[.agg (inpVals A c D cd T ct R cr i),.int .i64 1] w fun e w' => ∃ vs,e = .returned (.tuple #[.agg vs,.int .i64 (inCode i)]) ∧ RRepAt w' i vs ∧ Below w.heap.size w w':=by
  have htr:=fun w' (q:Below w.heap.size w w') => rtrain_bad A c D cd T ct R cr i w' (h.below q) hbad
  have hng:¬ GoodIn i:=fun hg => hbad (in_good.2 hg)
  have hrep:=bad_rep hng
  obtain ⟨C,hC⟩:∃ C,inCode i = C:=⟨_,rfl⟩
  unfold RTrainIs at htr
  simp only [hC] at htr
  rw [hC] at hbad ⊢
  obtain ⟨W1,hW1⟩:∃ W1,(w.alloc (.cells (inpVals A c D cd T ct R cr i) 29)).alloc (.cells #[.int .i64 0,.slice none 0 0,.slice none 0 0,.slice none 0 0,.slice none 0 0] 42) = W1:=⟨_,rfl⟩
  have k1:Below w.heap.size w W1:=by rw [← hW1];exact ((br w).alloc (Nat.le_refl _) _).alloc (by simp) _
  have g1:W1.heap[w.heap.size + 1]? = some (.cells #[.int .i64 0,.slice none 0 0,.slice none 0 0,.slice none 0 0,.slice none 0 0] 42 (0,0)):=by
    have:=heap_alloc_new (w.alloc (.cells (inpVals A c D cd T ct R cr i) 29)) (.cells #[.int .i64 0,.slice none 0 0,.slice none 0 0,.slice none 0 0,.slice none 0 0] 42)
    rw [show (w.alloc (.cells (inpVals A c D cd T ct R cr i) 29)).heap.size = w.heap.size + 1 by simp] at this
    rw [← hW1];exact this
  have l1:=lt_of_block g1
  dsimp only [inpVals] at htr hW1 ⊢
  have Htr:=Lib.hid htr;have HC:=Lib.hid hC;have HW:=Lib.hid hW1;have G1:=Lib.hid g1;have K1:=Lib.hid k1;have HR:=Lib.hid hrep;have HN:=Lib.hid hng
  clear htr hC h hW1 g1 k1 hrep hng
  go_enter Tryz.func7,Tryz.ntmps7
  go_wp2_with fail
  rw [HW.out]
  refine (Htr.out W1 K1.out).mono ?_
  rintro e w2 ⟨k2,⟨hg,-⟩ | ⟨-,rfl⟩⟩
  case inl => exact absurd hg HN.out
  have g2:=(k2.block _ l1).trans G1.out
  have G2:=Lib.hid g2;have K2:=Lib.hid (K1.out.trans (k2.mono K1.out.size))
  clear g2 k2 G1 K1 l1
  go_wp2_with (refine wpl_store G2.out rt_rrep rfl rfl rfl rfl rfl rfl rfl ?_;intro w9 e9 k9;have E9:=Lib.hid e9;have K9:=Lib.hid (K2.out.trans (k9.toBelow K2.out.size (fun j hj => by omega)));clear e9 k9)
  refine bodyPost_ret (res_cell_tmp rfl rfl E9.out rt_rrep) rfl ?_
  obtain ⟨r1,r2,r3,r4,r5⟩:=HR.out
  refine ⟨_,rfl,?_,K9.out⟩
  refine ⟨none,0,none,0,none,0,none,0,by rw [r1,r2];rfl,by rw [r1];exact SlRd.nil _ _ _ _,by rw [r3];exact Rd.nil _ _,by rw [r4];exact Rd.nil _ _,by rw [r5];exact SlRd.nil _ _ _ _⟩
def RI (bO base:Nat) (sh:Int) (B:Option Addr) (n d k:Nat) (ls hs:List Int) (mk:List (Int × Int)) (w9 wr:World):Prop:=∃ L dl H dh M dm,
  wr.heap[bO]? = some (.cells #[.int .i64 sh,.slice B n d,.slice L k dl,.slice H k dh,.slice M k dm] 42 (0,0)) ∧
  wr.ownsRow base 2 1 (.slice L k dl) k (nums .i64 ls) ∧ wr.ownsRow base 76 1 (.slice H k dh) k (nums .u64 hs) ∧ wr.ownsRow base 87 2 (.slice M k dm) k (mkV mk) ∧ SmMk mk ∧ Keep (fun j => j = bO ∨ base ≤ j) w9 wr
set_option maxRecDepth 100000 in
set_option maxHeartbeats 4000000 in
theorem rrun_good (A:Option Addr) (c:Nat) (D:Option Addr) (cd:Nat) (T:Option Addr) (ct:Nat) (R:Option Addr) (cr:Nat) (i:Inp) (w:World) (h:InpRd w A c D T ct R i) (hg:GoodIn i) :
    Calls Tryz.prog 7 #[.agg (inpVals A c D cd T ct R cr i),.int .i64 1] w fun e w' => ∃ vs,e = .returned (.tuple #[.agg vs,.int .i64 0]) ∧ RRepAt w' i vs ∧ Below w.heap.size w w':=by
  have htr:=fun w' (q:Below w.heap.size w w') => rtrain_goodT A c D cd T ct R cr i w' (h.below q) hg
  have hT:∀ a,T = some a → a.block < w.heap.size:=fun a ha => by
    have h1:=cnt_pos hg.c.z
    obtain ⟨b,o,hb,hc⟩:=h.t.hr.num (k:=0) (by have:=hg.s;omega)
    rw [ha] at hb
    cases hb
    exact lt_of_cell hc
  have hsh:shR i = i.cfg.shift:=by unfold shR;rw [if_pos hg]
  have hrl:resL i = trajL i (i.cfg.steps.toNat + 1):=by unfold resL;rw [if_pos hg]
  obtain ⟨s,hs⟩:∃ s,i.cfg.steps.toNat = s:=⟨_,rfl⟩
  unfold RTrainT at htr
  rw [hs] at hrl
  simp only [hs] at htr
  have hsB:s ≤ 1048576:=by have:=hg.c.st;omega
  obtain ⟨N,hN⟩:∃ N,i.data.length = N:=⟨_,rfl⟩
  have hdB:N ≤ 1048576:=by rw [← hN];exact h.dl
  obtain ⟨W1,hW1⟩:∃ W1,(w.alloc (.cells (inpVals A c D cd T ct R cr i) 29)).alloc (.cells #[.int .i64 0,.slice none 0 0,.slice none 0 0,.slice none 0 0,.slice none 0 0] 42) = W1:=⟨_,rfl⟩
  have k1:Below w.heap.size w W1:=by rw [← hW1];exact ((br w).alloc (Nat.le_refl _) _).alloc (by simp) _
  have g0:W1.heap[w.heap.size]? = some (.cells (inpVals A c D cd T ct R cr i) 29 (0,0)):=by
    rw [← hW1];exact (Below.heap_alloc (w.alloc (.cells (inpVals A c D cd T ct R cr i) 29)) (.cells #[.int .i64 0,.slice none 0 0,.slice none 0 0,.slice none 0 0,.slice none 0 0] 42) w.heap.size (by simp)).trans (heap_alloc_new w _)
  have g1:W1.heap[w.heap.size + 1]? = some (.cells #[.int .i64 0,.slice none 0 0,.slice none 0 0,.slice none 0 0,.slice none 0 0] 42 (0,0)):=by
    have:=heap_alloc_new (w.alloc (.cells (inpVals A c D cd T ct R cr i) 29)) (.cells #[.int .i64 0,.slice none 0 0,.slice none 0 0,.slice none 0 0,.slice none 0 0] 42)
    rw [show (w.alloc (.cells (inpVals A c D cd T ct R cr i) 29)).heap.size = w.heap.size + 1 by simp] at this
    rw [← hW1];exact this
  have l1:=lt_of_block g1
  have hlo:=fun X cx Ap P n cp w' (q:Below w.heap.size w w') hP hPl hn wP hX => rloss14_any A c D cd T ct R cr i Ap X P (upTo N fun k => (k:Int)) n cp cx w' (h.c.hr.below q) h.c.hc (h.d.below stays_ex q) hg hP hPl hn wP hX (by rw [upTo_len];omega)
  unfold RLoss14Is at hlo
  rw [upTo_len] at hlo
  have hal:allGood i (upTo N fun k => (k:Int)):=by rw [← hN];exact all_good i
  have hpa:pickL i.data (upTo N fun k => (k:Int)) = i.data:=by rw [← hN];exact pick_all i.data
  rw [hpa] at hlo
  dsimp only [inpVals] at htr hW1 g0 hlo ⊢
  rw [hN] at htr hW1 g0 hlo ⊢
  have Htr:=Lib.hid htr;have HT:=Lib.hid hT;have HW:=Lib.hid hW1;have G0:=Lib.hid g0;have G1:=Lib.hid g1;have K1:=Lib.hid k1;have Hrl:=Lib.hid hrl;have Hs:=Lib.hid hs;have Hsh:=Lib.hid hsh;have HG:=Lib.hid hg;have HI:=Lib.hid h;have Hlo:=Lib.hid hlo;have HA':=Lib.hid hal
  clear htr hT hrl hs h hW1 g0 g1 k1 hsh hg hlo hal hpa hN
  go_enter Tryz.func7,Tryz.ntmps7
  go_wp2_with fail
  rw [HW.out]
  refine (Htr.out W1 K1.out).mono ?_
  rintro e w2 ⟨k2,B,d,base,rfl,hmR,hbase⟩
  have HMR:=Lib.hid hmR;have HBS:=Lib.hid hbase
  have hst:=hmR.rd
  have l0:w.heap.size < W1.heap.size:=by omega
  have K2:=Lib.hid (K1.out.trans (k2.mono K1.out.size));have G02:=Lib.hid ((k2.block _ l0).trans G0.out);have G12:=Lib.hid ((k2.block _ l1).trans G1.out);have HST:=Lib.hid hst
  have SW1:=Lib.hid (show w.heap.size + 1 < W1.heap.size from lt_of_block G1.out)
  clear k2 HW l0 l1 G0 G1 K1 hst hmR hbase
  have l0:=lt_of_block G02.out
  have t0:∀ w',Below w2.heap.size w2 w' → w'.cell? ⟨w.heap.size,12,none⟩ = some (.slice D N cd):=fun w' q => cell_of_row w' w.heap.size 12 _ _ _ (sb G02.out w' q)
  have t1:∀ w',Below w2.heap.size w2 w' → w'.cell? ⟨w.heap.size,1,none⟩ = some (.int .i64 i.cfg.shift):=fun w' q => cell_of_row w' w.heap.size 1 _ _ _ (sb G02.out w' q)
  have q2:=br w2
  go_wp2_with fail
  go_loopw [8,9] (fun x y wr => ∃ k:Nat,k ≤ N ∧ y = .int .i64 k ∧ wr.ownsRow w2.heap.size 3 1 x k (nums .i64 (upTo k fun k => (k:Int))) ∧ Below w2.heap.size w2 wr) (fun _ y _ => N - (intOf y).toNat)
  case atStart => exact ⟨0,Nat.zero_le _,rfl,World.ownsRow_nil _ _ _ _,br w2⟩
  case round =>
    obtain ⟨k,hk,rfl,o,q⟩:=hrel
    obtain ⟨X,cx,rfl,hcx⟩:=own_form o
    by_cases hlt:k < N
    · have hlti:(k:Int) < (N:Int):=by omega
      have hsz:=q.size
      have HO:=Lib.hid o;have Q:=Lib.hid q
      clear o
      go_wp2_with (at_builtin;refine wpList_push et_rints _ rfl (.tmp 37) (.tmp 39) rfl w2.heap.size (.slice X k cx) k _ rfl HO.out [.int .i64 (k:Int)] rfl rfl (nums_cell .i64 [_]) (by omega) (by unfold maxLen;omega) hsz ?_)
      intro g c' w3 o3 b3 g3
      have Q3:=Lib.hid (Q.out.trans b3)
      have O3:=Lib.hid o3
      clear o3 b3 g3 q
      go_wp2_with fail
      go_roundw
      case rel => exact ⟨k + 1,hlt,by go_num,by rw [upTo_succ,nums_append];exact O3.out,Q3.out⟩
      case measure => simp [intOf];omega
    · obtain rfl:N = k:=by omega
      obtain ⟨w3,rfl⟩:∃ w3:World,w3 = wr:=⟨_,rfl⟩
      have hsz:=q.size
      have K3:=Lib.hid (K2.out.trans (q.mono K2.out.size));have Q3:=Lib.hid q;have OX:=Lib.hid o
      clear o
      go_wp2_with fail
      obtain ⟨W4,hW4⟩:∃ W4,w3.alloc (.cells #[.int .i64 i.cfg.shift,.slice B (s + 1) d,.slice none 0 0,.slice none 0 0,.slice none 0 0] 42) = W4:=⟨_,rfl⟩
      have k4:Below w2.heap.size w2 W4:=by rw [← hW4];exact q.alloc q.size _
      have k34:Below w3.heap.size w3 W4:=by rw [← hW4];exact (br w3).alloc (Nat.le_refl _) _
      have g4:W4.heap[w3.heap.size]? = some (.cells #[.int .i64 i.cfg.shift,.slice B (s + 1) d,.slice none 0 0,.slice none 0 0,.slice none 0 0] 42 (0,0)):=by rw [← hW4];exact heap_alloc_new w3 _
      have oX4:=own_below OX.out k34
      rw [hW4]
      have s4:w3.heap.size + 1 = W4.heap.size:=by rw [← hW4];simp
      have BX:=Lib.hid (fun j (hj:(Value.slice X N cx).ownBlock = some j) => (OX.out.lt j hj).2)
      have S4:=Lib.hid s4;have Q4:=Lib.hid k4;have G4:=Lib.hid g4;have OX4:=Lib.hid oX4
      clear hW4 k4 k34 g4 oX4 s4 q OX
      go_loopw [11] (fun y wr => ∃ k:Nat,k ≤ s + 1 ∧ y = .int .i64 k ∧ RI w3.heap.size W4.heap.size i.cfg.shift B (s + 1) d k ((trajL i k).map fun x => lossAcc i x.1 i.data) ((trajL i k).map fun x => hashF 1 x.1) ((trajL i k).map fun x => markL x.1) W4 wr) (fun y _ => s + 1 - (intOf y).toNat)
      case atStart => exact ⟨0,Nat.zero_le _,rfl,none,0,none,0,none,0,G4.out,World.ownsRow_nil _ _ _ _,World.ownsRow_nil _ _ _ _,World.ownsRow_nil _ _ _ _,fun z hz => by simp [trajL] at hz,Keep.refl _ _⟩
      case round =>
        obtain ⟨k,hk,rfl,L,dl,H,dh,M,dm,gb,o1,o2,o3,hsm,kp⟩:=hrel
        have zr:=kp.size
        have b4:w3.heap.size < W4.heap.size:=by have:=S4.out;omega
        have qw:Below w2.heap.size w2 wr:=Q4.out.trans (kp.toBelow Q4.out.size (fun j hj => by rcases hj with hj | hj <;> omega))
        by_cases hlt:k < s + 1
        · have hlti:(k:Int) < ((s + 1:Nat):Int):=by omega
          have hx:(trajL i (s + 1))[k]? = some (traj i k):=trajL_at i hlt
          obtain ⟨bB,oB,A1,c1,A2,c2,rfl,hbB,p1,p2,r1,r2⟩:=ex_cells HST.out hx
          have hcb:cnt i ≤ 1048576:=HG.out.c.z.bound (k:=i.cfg.sizes.length - 1) (by have:=HG.out.c.z.1.1;omega)
          have hln:=(traj_len i HG.out.s k).1
          have hlo:=fun cx' w' (q':Below w2.heap.size w2 w') (hX:Rd w' X (nums .i64 (upTo N fun k => (k:Int)))) => Hlo.out X cx' A1 (traj i k).1 (traj i k).1.length c1 w' (K2.out.trans (q'.mono K2.out.size)) (r1.hr.below q') rfl hln.symm r1.hw hX
          have hha:=fun w' (q:Below w2.heap.size w2 w') => rhash_any A1 (traj i k).1 c1 w' (r1.hr.below q) (by omega)
          have hma:=fun w' (q:Below w2.heap.size w2 w') => rof_any A1 (traj i k).1 c1 w' (r1.hr.below q) (by omega)
          have hmb:=markL_bd (l:=(traj i k).1) (by omega)
          have hsn:=trajL_snoc i k
          obtain ⟨x,hxx⟩:∃ x,traj i k = x:=⟨_,rfl⟩
          rw [hxx] at p1 p2 r1 r2 hln hha hma hmb hlo hsn
          obtain ⟨n1,hn1⟩:∃ n1,x.1.length = n1:=⟨_,rfl⟩
          rw [hn1] at p1 hlo hha hma
          have tP:∀ w',Below w2.heap.size w2 w' → w'.cell? ⟨bB,oB + k * 2,none⟩ = some (.slice A1 n1 c1):=fun w' q => (q.cell hbB).trans p1
          have GB:=Lib.hid gb;have O1:=Lib.hid o1;have O2:=Lib.hid o2;have O3:=Lib.hid o3;have HSM:=Lib.hid hsm;have KP:=Lib.hid kp;have QW:=Lib.hid qw
          have Hha:=Lib.hid hha;have Hma:=Lib.hid hma;have Hmb:=Lib.hid hmb;have Hlo2:=Lib.hid hlo;have Hsn':=Lib.hid hsn
          have lbw:w3.heap.size < wr.heap.size:=lt_of_block gb
          have oXr:Rd wr X (nums .i64 (upTo N fun k => (k:Int))):=Rd.own (kp.own OX4.out fun j hj e => by have:=BX.out j hj;rcases e with e | e <;> omega)
          have OXr:=Lib.hid oXr
          clear gb o1 o2 o3 hsm kp hha hma hmb hlo hsn hln hn1 hxx r1 r2 p1 p2 hx oXr
          go_wp2_with fail
          have q0:Below wr.heap.size wr wr.drew:=(br wr).drew
          have tP':∀ w',Below wr.heap.size wr w' → w'.cell? ⟨bB,oB + k * 2,none⟩ = some (.slice A1 n1 c1):=fun w' q => tP w' (QW.out.trans (q.mono QW.out.size))
          refine HA.g (fun w':World => Below wr.heap.size wr w') ?_
          refine HA.ld 0 #[.slice A i.cfg.sizes.length c,.int .i64 i.cfg.shift,.int .i64 i.cfg.rate,.int .i64 i.cfg.mom,.int .i64 i.cfg.workers,.int .i64 i.cfg.batch,.int .i64 i.cfg.micros,.int .i64 i.cfg.steps,.int .i64 i.cfg.bucket,.int .i64 i.cfg.chunk,.int .i64 i.cfg.window,.int .i64 i.cfg.cap,.slice D N cd,.slice T i.start.length ct,.slice R i.draws.length cr] (fun w' q => sb (sb G02.out _ QW.out) w' q) rt_inp q0 ?_
          refine HA.t ?_ [1,2,3,4,5,6] q0 ?_
          refine HA.c 7 (Hlo2.out cx wr.drew (QW.out.drew) (OXr.out.below q0)) ?_
          rintro e w5 ⟨k5,⟨-,rfl⟩ | ⟨hno,-⟩⟩
          case inr => exact absurd HA'.out hno
          have q5:=bt q0 k5
          refine ⟨_,rfl,q5,fun _ => ?_⟩
          refine HA.t ?_ [8,9,10,11,12] q5 ?_
          refine HA.d ?_
          obtain ⟨z,hz⟩:∃ z,lossAcc i x.1 i.data = z:=⟨_,rfl⟩
          rw [hz]
          have hn2:∀ j,(Value.slice L k dl).ownBlock = some j → ¬ j = w3.heap.size:=fun j hj e => block_notrow GB.out (by decide) O1.out (by rw [hj,e])
          have OL:=own_below O1.out q5
          have OH:=own_below O2.out q5
          have OM:=own_below O3.out q5
          have gO:=(q5.block w3.heap.size lbw).trans GB.out
          have c2:=cell_of_row w5 w3.heap.size 2 _ _ _ gO
          have lO:w3.heap.size < w5.heap.size:=lt_of_block gO
          have sz:W4.heap.size ≤ w5.heap.size:=Nat.le_trans zr q5.size
          have KP5:=Lib.hid (KP.out.trans (Keep.below q5))
          have HZ:=Lib.hid hz;have HL:=Lib.hid OL;have HH:=Lib.hid OH;have HM:=Lib.hid OM;have HO:=Lib.hid gO;have HN2:=Lib.hid hn2;have SZ:=Lib.hid sz;have Q5:=Lib.hid (QW.out.trans (q5.mono QW.out.size))
          clear hz OL OH OM gO hn2 sz q0 k5 q5 tP' GB O1 O2 O3 KP QW
          go_wp2_with (at_builtin;refine wpList_push et_ri64s _ rfl (.tmp 64) (.tmp 66) rfl W4.heap.size (.slice L k dl) k _ rfl HL.out [.int .i64 z] rfl rfl (nums_cell .i64 [_]) (by omega) (by unfold maxLen;omega) SZ.out ?_)
          intro L' dl' w8 oL8 b8 g8
          have kG:Keep (fun j => (Value.slice L k dl).ownBlock = some j) w5 w8:=(Keep.refl _ w5).grown g8 fun j hj => .inr hj
          have gO8:=(kG.block w3.heap.size lO (fun e => HN2.out _ e rfl)).trans HO.out
          have oH8:=kG.own HH.out fun j hj e => own_apt HL.out HH.out (by decide) j e hj
          have oM8:=kG.own HM.out fun j hj e => own_apt HL.out HM.out (by decide) j e hj
          obtain ⟨⟨y0,y1,y2,y3,y4⟩,yf⟩:=bx5 gO8
          have e9:=heap_setCell_same w8 w3.heap.size 2 _ _ (.slice (some ⟨L',0,none⟩) (k + 1) dl') gO8
          have kS:Keep (fun j => j = w3.heap.size) w8 (w8.setCell ⟨w3.heap.size,2,none⟩ (.slice (some ⟨L',0,none⟩) (k + 1) dl')):=Keep.setCell (S:=fun j => j = w3.heap.size) (Keep.refl _ _) ⟨w3.heap.size,2,none⟩ (.inr rfl) _
          have oL9:=kS.own oL8 fun j hj e => block_notrow gO8 (by decide) oL8 (by rw [hj,e])
          have oH9:=kS.own oH8 fun j hj e => block_notrow gO8 (by decide) oH8 (by rw [hj,e])
          have oM9:=kS.own oM8 fun j hj e => block_notrow gO8 (by decide) oM8 (by rw [hj,e])
          have kA:=(KP5.out.trans (kG.mono fun j _ e => .inr (HL.out.lt j e).1)).trans (kS.mono fun j _ e => .inl e)
          have E9':=Lib.hid e9;have OL9:=Lib.hid oL9;have OH9:=Lib.hid oH9;have OM9:=Lib.hid oM9;have KA:=Lib.hid kA
          clear kG gO8 oH8 oM8 e9 kS oL9 oH9 oM9 kA oL8 b8 g8 c2
          go_wp2_with fail
          obtain ⟨wA,hwA⟩:∃ wA,w8.setCell ⟨w3.heap.size,2,none⟩ (.slice (some ⟨L',0,none⟩) (k + 1) dl') = wA:=⟨_,rfl⟩
          rw [hwA] at E9' OL9 OH9 OM9 KA ⊢
          clear hwA y0 y1 y2 y3 y4 yf
          have zA:=KA.out.size
          have lA:w3.heap.size < wA.heap.size:=lt_of_block E9'.out
          have q0:Keep (fun j => (Value.slice H k dh).ownBlock = some j ∨ wA.heap.size ≤ j) wA wA.drew:=(Keep.refl _ _).drew
          have up:∀ w',Keep (fun j => (Value.slice H k dh).ownBlock = some j ∨ wA.heap.size ≤ j) wA w' → Keep (fun j => j = w3.heap.size ∨ W4.heap.size ≤ j) W4 w':=fun w' q => KA.out.trans (q.mono fun j _ e => .inr (by rcases e with e | e;exact (OH9.out.lt j e).1;omega))
          have up2:∀ w',Keep (fun j => j = w3.heap.size ∨ W4.heap.size ≤ j) W4 w' → Below w2.heap.size w2 w':=fun w' q => Q4.out.trans (q.toBelow Q4.out.size (fun j hj => by rcases hj with hj | hj <;> omega))
          have tH:∀ w',Keep (fun j => (Value.slice H k dh).ownBlock = some j ∨ wA.heap.size ≤ j) wA w' → w'.cell? ⟨w3.heap.size,3,none⟩ = some (.slice H k dh):=fun w' q => cell_of_row w' w3.heap.size 3 _ _ _ ((q.block _ lA (fun e => by rcases e with e | e;exact block_notrow E9'.out (by decide) OH9.out e.symm;omega)).trans E9'.out)
          have tX:∀ w',Keep (fun j => (Value.slice H k dh).ownBlock = some j ∨ wA.heap.size ≤ j) wA w' → w'.cell? ⟨bB,oB + k * 2,none⟩ = some (.slice A1 n1 c1):=fun w' q => tP w' (up2 w' (up w' q))
          refine XA.g 11 (fun w':World => Keep (fun j => (Value.slice H k dh).ownBlock = some j ∨ wA.heap.size ≤ j) wA w') ?_
          refine XA.t ?_ [0,1,2,3,4,5,6] q0 ?_
          refine XA.c 7 (Hha.out wA.drew (up2 _ (up _ q0))) ?_
          rintro e wB ⟨rfl,rfl⟩
          obtain ⟨hv,hhv⟩:∃ hv,hashF 1 x.1 = hv:=⟨_,rfl⟩
          rw [hhv]
          refine ⟨_,rfl,q0,fun _ => ?_⟩
          have SA:wA.drew.heap.size = wA.heap.size:=World.size_drew _
          have hgA:=heap_alloc_new wA.drew (.cells #[.int .u64 hv] 76)
          rw [SA] at hgA
          have qa:=q0.alloc (.cells #[.int .u64 hv] 76)
          refine XA.va 8 (wA.drew.alloc (.cells #[.int .u64 hv] 76)) (.slice (some ⟨wA.heap.size,0,none⟩) 1 1) qa ?_
          refine XA.o 9 (fun K' hK => ?_)
          refine step_appX et_u64s (.tmp 70) (.tmp 77) rfl rfl W4.heap.size (.slice H k dh) k _ rfl (OH9.out.drew.alloc _) (some ⟨wA.heap.size,0,none⟩) 1 1 [.int .u64 hv] rfl (rd_whole hgA) rfl (nums_cell .u64 [_]) (by omega) (by unfold maxLen;omega) (by simp;omega) ?_
          intro H' dh' wC oC bC gC _
          have qC:=qa.grown gC fun j hj => .inr (.inl hj)
          refine hK.out _ _ qC fun _ => ?_
          refine XA.t ?_ [10] qC ?_
          refine XA.e ?_
          simp only [List.drop_succ_cons,List.drop_zero]
          have gC':=(qC.block _ lA (fun e => by rcases e with e | e;exact block_notrow E9'.out (by decide) OH9.out e.symm;omega)).trans E9'.out
          have oLC:=qC.own OL9.out fun j hj e => by rcases e with e | e;exact own_apt OL9.out OH9.out (by decide) j hj e;have:=(OL9.out.lt j hj).2;omega
          have oMC:=qC.own OM9.out fun j hj e => by rcases e with e | e;exact own_apt OM9.out OH9.out (by decide) j hj e;have:=(OM9.out.lt j hj).2;omega
          obtain ⟨⟨y0,y1,y2,y3,y4⟩,yf⟩:=bx5 gC'
          have e10:=heap_setCell_same wC w3.heap.size 3 _ _ (.slice H' (k + 1) dh') gC'
          have kS:Keep (fun j => j = w3.heap.size) wC (wC.setCell ⟨w3.heap.size,3,none⟩ (.slice H' (k + 1) dh')):=Keep.setCell (S:=fun j => j = w3.heap.size) (Keep.refl _ _) ⟨w3.heap.size,3,none⟩ (.inr rfl) _
          have oLD:=kS.own oLC fun j hj e => block_notrow gC' (by decide) oLC (by rw [hj,e])
          have oMD:=kS.own oMC fun j hj e => block_notrow gC' (by decide) oMC (by rw [hj,e])
          have oHD:=kS.own oC fun j hj e => block_notrow gC' (by decide) oC (by rw [hj,e])
          have kD:=(up _ qC).trans (kS.mono fun j _ e => .inl e)
          have ED:=Lib.hid e10;have OLD:=Lib.hid oLD;have OMD:=Lib.hid oMD;have OHD:=Lib.hid oHD;have KD:=Lib.hid kD;have HHv:=Lib.hid hhv
          clear gC' oLC oMC e10 kS oLD oMD oHD kD hhv tH tX up q0 qa qC oC bC gC hgA SA hK K' zA lA E9' OL9 OH9 OM9 KA
          go_wp2_with fail
          obtain ⟨wD,hwD⟩:∃ wD,wC.setCell ⟨w3.heap.size,3,none⟩ (.slice H' (k + 1) dh') = wD:=⟨_,rfl⟩
          rw [hwD] at ED OLD OMD OHD KD ⊢
          clear hwD y0 y1 y2 y3 y4 yf
          have zD:=KD.out.size
          have lD:w3.heap.size < wD.heap.size:=lt_of_block ED.out
          have q0:Keep (fun j => (Value.slice M k dm).ownBlock = some j ∨ wD.heap.size ≤ j) wD wD.drew:=(Keep.refl _ _).drew
          have up:∀ w',Keep (fun j => (Value.slice M k dm).ownBlock = some j ∨ wD.heap.size ≤ j) wD w' → Keep (fun j => j = w3.heap.size ∨ W4.heap.size ≤ j) W4 w':=fun w' q => KD.out.trans (q.mono fun j _ e => .inr (by rcases e with e | e;exact (OMD.out.lt j e).1;omega))
          have tH:∀ w',Keep (fun j => (Value.slice M k dm).ownBlock = some j ∨ wD.heap.size ≤ j) wD w' → w'.cell? ⟨w3.heap.size,4,none⟩ = some (.slice M k dm):=fun w' q => cell_of_row w' w3.heap.size 4 _ _ _ ((q.block _ lD (fun e => by rcases e with e | e;exact block_notrow ED.out (by decide) OMD.out e.symm;omega)).trans ED.out)
          have tX:∀ w',Keep (fun j => (Value.slice M k dm).ownBlock = some j ∨ wD.heap.size ≤ j) wD w' → w'.cell? ⟨bB,oB + k * 2,none⟩ = some (.slice A1 n1 c1):=fun w' q => tP w' (up2 w' (up w' q))
          refine XA.g 11 (fun w':World => Keep (fun j => (Value.slice M k dm).ownBlock = some j ∨ wD.heap.size ≤ j) wD w') ?_
          refine XA.t ?_ [0,1,2,3,4,5,6] q0 ?_
          refine XA.c 7 (Hma.out wD.drew (up2 _ (up _ q0))) ?_
          rintro e wE ⟨rfl,kE⟩
          have qE:Keep (fun j => (Value.slice M k dm).ownBlock = some j ∨ wD.heap.size ≤ j) wD wE:=q0.trans (Keep.below kE)
          refine ⟨_,rfl,qE,fun _ => ?_⟩
          obtain ⟨mz,hmz⟩:∃ mz,markL x.1 = mz:=⟨_,rfl⟩
          rw [hmz] at Hmb ⊢
          have hgA:=heap_alloc_new wE (.cells #[.int .i64 mz.1,.int .i64 mz.2] 87)
          have qa:=qE.alloc (.cells #[.int .i64 mz.1,.int .i64 mz.2] 87)
          have zE:=qE.size
          refine XA.va 8 (wE.alloc (.cells #[.int .i64 mz.1,.int .i64 mz.2] 87)) (.slice (some ⟨wE.heap.size,0,none⟩) 1 1) qa ?_
          refine XA.o 9 (fun K' hK => ?_)
          refine step_appX et_rmks (.tmp 81) (.tmp 88) rfl rfl W4.heap.size (.slice M k dm) k _ rfl ((own_below OMD.out.drew kE).alloc _) (some ⟨wE.heap.size,0,none⟩) 1 1 [.int .i64 mz.1,.int .i64 mz.2] rfl (rd_whole hgA) rfl (nums_cell .i64 [_,_]) (by omega) (by unfold maxLen;omega) (by simp;omega) ?_
          intro M' dm' wF oF bF gF _
          have qF:=qa.grown gF fun j hj => .inr (.inl hj)
          refine hK.out _ _ qF fun _ => ?_
          refine XA.t ?_ [10] qF ?_
          refine XA.e ?_
          simp only [List.drop_succ_cons,List.drop_zero]
          have gC':=(qF.block _ lD (fun e => by rcases e with e | e;exact block_notrow ED.out (by decide) OMD.out e.symm;omega)).trans ED.out
          have oLC:=qF.own OLD.out fun j hj e => by rcases e with e | e;exact own_apt OLD.out OMD.out (by decide) j hj e;have:=(OLD.out.lt j hj).2;omega
          have oHC:=qF.own OHD.out fun j hj e => by rcases e with e | e;exact own_apt OHD.out OMD.out (by decide) j hj e;have:=(OHD.out.lt j hj).2;omega
          obtain ⟨⟨y0,y1,y2,y3,y4⟩,yf⟩:=bx5 gC'
          have e10:=heap_setCell_same wF w3.heap.size 4 _ _ (.slice M' (k + 1) dm') gC'
          have kS:Keep (fun j => j = w3.heap.size) wF (wF.setCell ⟨w3.heap.size,4,none⟩ (.slice M' (k + 1) dm')):=Keep.setCell (S:=fun j => j = w3.heap.size) (Keep.refl _ _) ⟨w3.heap.size,4,none⟩ (.inr rfl) _
          have oLG:=kS.own oLC fun j hj e => block_notrow gC' (by decide) oLC (by rw [hj,e])
          have oHG:=kS.own oHC fun j hj e => block_notrow gC' (by decide) oHC (by rw [hj,e])
          have oMG:=kS.own oF fun j hj e => block_notrow gC' (by decide) oF (by rw [hj,e])
          have kG:=(up _ qF).trans (kS.mono fun j _ e => .inl e)
          have ED':=Lib.hid e10;have OLG:=Lib.hid oLG;have OHG:=Lib.hid oHG;have OMG:=Lib.hid oMG;have KG:=Lib.hid kG;have HMz:=Lib.hid hmz
          clear gC' oLC oHC e10 kS oLG oHG oMG kG hmz tH tX up q0 qa qE oF bF gF hgA hK K' zD lD OLD OMD OHD KD qF kE zE
          go_wp2_with fail
          go_roundw
          case rel => exact ⟨k + 1,by omega,by go_num,_,_,_,_,_,_,ED'.out,by rw [Hsn'.out,List.map_append];simpa [nums,HZ.out] using OLG.out,by rw [Hsn'.out,List.map_append];simpa [nums,HHv.out] using OHG.out,by rw [Hsn'.out,List.map_append];simp only [List.map_cons,List.map_nil,HMz.out];rw [mkV_snoc];exact OMG.out,by rw [Hsn'.out,List.map_append];simp only [List.map_cons,List.map_nil,HMz.out];exact (fun z hz => by rcases List.mem_append.1 hz with hz | hz;exact HSM.out z hz;rw [List.mem_singleton.1 hz];exact Hmb.out),KG.out⟩
          case measure => simp [intOf];omega
        · obtain rfl:k = s + 1:=by omega
          have g19:=(kp.block (w.heap.size + 1) (by have:=lt_of_block G12.out;have:=Q4.out.size;omega) (fun e => by have:=lt_of_block G12.out;have:=Q4.out.size;omega)).trans ((Q4.out.block _ (lt_of_block G12.out)).trans G12.out)
          have GB:=Lib.hid gb;have GR:=Lib.hid g19;have O1:=Lib.hid o1;have O2:=Lib.hid o2;have O3:=Lib.hid o3;have HSM:=Lib.hid hsm;have QW:=Lib.hid qw
          have lO:=lt_of_block gb;have lR:=lt_of_block g19
          clear gb g19 o1 o2 o3 hsm kp qw
          go_wp2_with (first | refine wpl_load #[.int .i64 i.cfg.shift,.slice B (s + 1) d,.slice L (s + 1) dl,.slice H (s + 1) dh,.slice M (s + 1) dm] GB.out rt_rrep rfl rfl rfl rfl ?_ | (refine wpl_store GR.out rt_rrep rfl rfl rfl rfl rfl rfl rfl ?_;intro wZ eZ kZ;have EZ:=Lib.hid eZ;have KZ:=Lib.hid kZ;clear eZ kZ))
          refine bodyPost_ret (res_cell_tmp rfl rfl EZ.out rt_rrep) rfl ?_
          have hB2:Below w.heap.size w wr:=K2.out.trans (QW.out.mono K2.out.size)
          have hB:Below w.heap.size w wZ:=hB2.trans (KZ.out.toBelow hB2.size (fun j hj => by omega))
          have nb:∀ j,W4.heap.size ≤ j → ¬ j = w.heap.size + 1:=fun j hj => by have:=lt_of_block G12.out;have:=Q4.out.size;omega
          have hl:=Hrl.out
          have hlen:(resL i).length = s + 1:=by rw [hl,trajL_len]
          refine ⟨_,rfl,⟨B,d,L,dl,H,dh,M,dm,by rw [hlen,Hsh.out],?_,?_,?_,?_⟩,hB⟩
          · rw [hl]
            have:=SW1.out
            have m2:=(HMR.out.below QW.out).old (S:=fun j => j = w.heap.size + 1) (fun a ha e => by have:=HT.out a ha;omega) (fun j e => by omega) HBS.out KZ.out
            exact m2.rd
          · unfold lsL
            rw [hl]
            exact Rd.own (KZ.out.own O1.out fun j hj e => nb j (O1.out.lt j hj).1 e)
          · unfold hsL
            rw [hl]
            exact Rd.own (KZ.out.own O2.out fun j hj e => nb j (O2.out.lt j hj).1 e)
          · unfold mkL
            rw [hl]
            exact mkV_sl HSM.out (by rw [List.length_map,trajL_len]) (KZ.out.own O3.out fun j hj e => nb j (O3.out.lt j hj).1 e)
end Go.Proofs.YthamijnggdjaoaaGreatDoor
namespace Go.Proofs.YthamijnggdjaoaaGreatDoor
open Go.RowKit Go.ChangeShapes Go.WideShapes Go.ChangeAt
theorem opens_l:Opens Tryz.prog 2 1 (rInt .i64):=opens_int Tryz.underlying2 (by kernel_rfl)
theorem opens_u64s:Opens Tryz.prog 27 1 (rNums .u64):=opens_nums Tryz.underlying27 Tryz.underlying76 (by kernel_rfl) (by kernel_rfl) (by kernel_rfl)
theorem wf_U64 {l:List Int} (h:∀ z ∈ l,(Lit.int .u64 z).wf = true):U64 l:=fun k hk => by
  have:=h _ (nth_mem hk)
  simpa [Lit.wf,IntKind.min,IntKind.max,IntKind.signed,IntKind.bits] using this
theorem wf_one {z:Int} (h:(Lit.int .i64 z).wf = true):-9223372036854775808 ≤ z ∧ z ≤ 9223372036854775807:=by
  simpa [Lit.wf,IntKind.min,IntKind.max,IntKind.signed,IntKind.bits] using h
theorem cells_exO:Tryz.prog.cellsOf 72 = 2:=by kernel_rfl
theorem cells_cfgO:Tryz.prog.cellsOf 24 = 12:=by kernel_rfl
theorem cells_inpO:Tryz.prog.cellsOf 29 = 15:=by kernel_rfl
theorem rNums_rd {w:World} {A:Option Addr} {zs:List Int} {c:Nat} (h2:zs.length ≤ c) (h6:zs.length ≤ 17592186043904) (h4:Rd w A (nums .i64 zs)) (h5:∀ z ∈ zs,(Lit.int .i64 z).wf = true):NumsRd w A zs c:=⟨h2,h6,h4,wf_W64 h5⟩
set_option maxRecDepth 100000 in
theorem opens_ex:Opens Tryz.prog 72 2 rEx:=⟨cells_exO,fun {H enc W fuel cs x} h hlt => by
  obtain ⟨xs,n,_,hx,hl,hlen,hf⟩:=DataW.trod_struct Tryz.underlying72 h
  rw [cells_exO] at hl
  have hlen':xs.length = 2:=hlen
  obtain ⟨x1,A,c,a1,a2,a3,a4,a5,a6⟩:=field_opens opens_i64s Tryz.underlying72 hx hlt (hf 0 _ rfl) (by omega) rfl
  obtain ⟨y1,B,d,b1,b2,b3,b4,b5,b6⟩:=field_opens opens_i64s Tryz.underlying72 hx hlt (hf 1 _ rfl) (by omega) rfl
  clear h hf hlen hlen' hx hlt
  match cs,hl with
  | [c0,c1],_ =>
    simp at a1 b1
    exact ⟨rfl,⟨x1,y1⟩,A,c,B,d,by simp [a1,b1],rNums_rd a2 a4 a5 a6,rNums_rd b2 b4 b5 b6⟩⟩
theorem opens_exs:Opens Tryz.prog 25 1 (rSl rEx 2):=opens_slice Tryz.underlying25 opens_ex (by kernel_rfl) (of_decide_eq_true (by kernel_rfl))
def rCfg:Reader Cfg:=fun w cs k => ∃ A c,cs = (cfgVals A c k).toList ∧ CfgRd w A c k ∧ (-9223372036854775808 ≤ k.rate ∧ k.rate ≤ 9223372036854775807) ∧ (-9223372036854775808 ≤ k.mom ∧ k.mom ≤ 9223372036854775807) ∧ W64 k.sizes ∧ W64 [k.shift,k.workers,k.batch,k.micros,k.steps,k.bucket,k.chunk,k.window,k.cap]
set_option maxRecDepth 100000 in
set_option maxHeartbeats 1000000 in
theorem opens_cfg:Opens Tryz.prog 24 12 rCfg:=⟨cells_cfgO,fun {H enc W fuel cs x} h hlt => by
  obtain ⟨xs,n,_,hx,hl,hlen,hf⟩:=DataW.trod_struct Tryz.underlying24 h
  rw [cells_cfgO] at hl
  have hlen':xs.length = 12:=hlen
  obtain ⟨sz,A,c,a1,a2,a3,a4,a5,a6⟩:=field_opens opens_ints Tryz.underlying24 hx hlt (hf 0 _ rfl) (by omega) rfl
  obtain ⟨z1,h1,g1⟩:=field_opens opens_i Tryz.underlying24 hx hlt (hf 1 _ rfl) (by omega) rfl
  obtain ⟨z2,h2,g2⟩:=field_opens opens_l Tryz.underlying24 hx hlt (hf 2 _ rfl) (by omega) rfl
  obtain ⟨z3,h3,g3⟩:=field_opens opens_l Tryz.underlying24 hx hlt (hf 3 _ rfl) (by omega) rfl
  obtain ⟨z4,h4,g4⟩:=field_opens opens_i Tryz.underlying24 hx hlt (hf 4 _ rfl) (by omega) rfl
  obtain ⟨z5,h5,g5⟩:=field_opens opens_i Tryz.underlying24 hx hlt (hf 5 _ rfl) (by omega) rfl
  obtain ⟨z6,h6,g6⟩:=field_opens opens_i Tryz.underlying24 hx hlt (hf 6 _ rfl) (by omega) rfl
  obtain ⟨z7,h7,g7⟩:=field_opens opens_i Tryz.underlying24 hx hlt (hf 7 _ rfl) (by omega) rfl
  obtain ⟨z8,h8,g8⟩:=field_opens opens_i Tryz.underlying24 hx hlt (hf 8 _ rfl) (by omega) rfl
  obtain ⟨z9,h9,g9⟩:=field_opens opens_i Tryz.underlying24 hx hlt (hf 9 _ rfl) (by omega) rfl
  obtain ⟨z10,h10,g10⟩:=field_opens opens_i Tryz.underlying24 hx hlt (hf 10 _ rfl) (by omega) rfl
  obtain ⟨z11,h11,g11⟩:=field_opens opens_i Tryz.underlying24 hx hlt (hf 11 _ rfl) (by omega) rfl
  clear h hf hlen hlen' hx hlt
  match cs,hl with
  | [c0,c1,c2,c3,c4,c5,c6,c7,c8,c9,c10,c11],_ =>
    simp at a1 h1 h2 h3 h4 h5 h6 h7 h8 h9 h10 h11
    refine ⟨rfl,⟨sz,z1,z2,z3,z4,z5,z6,z7,z8,z9,z10,z11⟩,A,c,by simp [cfgVals,a1,h1,h2,h3,h4,h5,h6,h7,h8,h9,h10,h11],⟨a2,a3,a4,a5⟩,wf_one g2,wf_one g3,wf_W64 a6,?_⟩
    refine wf_W64 fun z hz => ?_
    simp only [List.mem_cons,List.not_mem_nil,or_false] at hz
    rcases hz with rfl | rfl | rfl | rfl | rfl | rfl | rfl | rfl | rfl <;> assumption⟩
def rInpA:Reader Inp:=fun w cs i => ∃ A c D cd T ct R cr,cs = (inpVals A c D cd T ct R cr i).toList ∧ InpRaw w A c D T ct R i ∧ i.data.length ≤ cd ∧ cd ≤ 9223372036854775807 ∧ i.draws.length ≤ cr ∧ cr ≤ 9223372036854775807 ∧ ct ≤ 9223372036854775807 ∧ W64 i.cfg.sizes ∧ W64 [i.cfg.shift,i.cfg.workers,i.cfg.batch,i.cfg.micros,i.cfg.steps,i.cfg.bucket,i.cfg.chunk,i.cfg.window,i.cfg.cap]
set_option maxRecDepth 100000 in
set_option maxHeartbeats 1000000 in
theorem opens_inp:Opens Tryz.prog 29 15 rInpA:=⟨cells_inpO,fun {H enc W fuel cs x} h hlt => by
  obtain ⟨xs,n,_,hx,hl,hlen,hf⟩:=DataW.trod_struct Tryz.underlying29 h
  rw [cells_inpO] at hl
  have hlen':xs.length = 4:=hlen
  obtain ⟨k,A,c,k1,k2,k3,k4,k5,k6⟩:=field_opens opens_cfg Tryz.underlying29 hx hlt (hf 0 _ rfl) (by omega) rfl
  obtain ⟨da,D,cd,d1,d2,d3,d4,d5⟩:=field_opens opens_exs Tryz.underlying29 hx hlt (hf 1 _ rfl) (by omega) rfl
  obtain ⟨st,T,ct,t1,t2,t3,t4,t5,t6⟩:=field_opens opens_i64s Tryz.underlying29 hx hlt (hf 2 _ rfl) (by omega) rfl
  obtain ⟨dr,R,cr,r1,r2,r3,r4,r5,r6⟩:=field_opens opens_u64s Tryz.underlying29 hx hlt (hf 3 _ rfl) (by omega) rfl
  clear h hf hlen hlen' hx hlt
  match cs,hl with
  | [c0,c1,c2,c3,c4,c5,c6,c7,c8,c9,c10,c11,c12,c13,c14],_ =>
    simp [cfgVals] at k1 d1 t1 r1
    exact ⟨rfl,⟨k,da,st,dr⟩,A,c,D,cd,T,ct,R,cr,by simp [inpVals,k1,d1,t1,r1],⟨k2,d5,d4,rNums_rd t2 t4 t5 t6,r5,r4,wf_U64 r6,k3,k4⟩,d2,d3,r2,r3,t3,k5,k6⟩⟩
set_option maxRecDepth 100000 in
theorem open_inp {H:Type} {enc:TypeId × Value → H} {W:World} {base:Nat} {v:Value} {d:DataW H} {p:List MemPlace} (o:Value.okWide Tryz.prog W .any base 29 v) (h:DataW.Trod enc Tryz.prog W 0 (fun _ => true) true 29 v d p) (z:Light Tryz.prog 29 d) :
    ∃ (A:Option Addr) (c:Nat) (D:Option Addr) (cd:Nat) (T:Option Addr) (ct:Nat) (R:Option Addr) (cr:Nat) (i:Inp),v = .agg (inpVals A c D cd T ct R cr i) ∧ InpRaw W A c D T ct R i ∧ i.data.length ≤ cd ∧ cd ≤ 9223372036854775807 ∧ i.draws.length ≤ cr ∧ cr ≤ 9223372036854775807 ∧ ct ≤ 9223372036854775807 ∧ W64 i.cfg.sizes ∧ W64 [i.cfg.shift,i.cfg.workers,i.cfg.batch,i.cfg.micros,i.cfg.steps,i.cfg.bucket,i.cfg.chunk,i.cfg.window,i.cfg.cap]:=by
  obtain ⟨cs,rfl,_⟩:=okWide_struct Tryz.underlying29 o
  obtain ⟨i,⟨A,c,D,cd,T,ct,R,cr,e,h1⟩,_⟩:=opens_param opens_inp h z
  refine ⟨A,c,D,cd,T,ct,R,cr,i,?_,h1⟩
  obtain ⟨l⟩:=cs
  have e':l = _:=e
  rw [e']
end Go.Proofs.YthamijnggdjaoaaGreatDoor
namespace Go.Proofs.YthamijnggdjaoaaGreatDoor
open Go.RowKit
def bst (l:List Int):Nat → Nat
  | 0 => 0
  | k + 1 => if nth l k < nth l (bst l k) then k else bst l k
theorem bst_lt (l:List Int):∀ k,0 < k → bst l k < k
  | 0,h => absurd h (Nat.lt_irrefl _)
  | 1,_ => by unfold bst;split <;> exact Nat.one_pos
  | k + 2,_ => by
    have:=bst_lt l (k + 1) (Nat.succ_pos k)
    unfold bst;split <;> omega
theorem bst_le (l:List Int):∀ k j,j < k → nth l (bst l k) ≤ nth l j
  | 0,j,h => absurd h (Nat.not_lt_zero j)
  | k + 1,j,h => by
    have ih:=bst_le l k
    unfold bst
    by_cases e:j = k
    · subst e;split <;> omega
    · have:=ih j (by omega);split <;> omega
theorem bst_first (l:List Int):∀ k j,j < bst l k → nth l (bst l k) < nth l j
  | 0,j,h => absurd h (Nat.not_lt_zero j)
  | k + 1,j,h => by
    have ih:=bst_first l k;have le:=bst_le l k
    unfold bst at h ⊢
    split
    · rename_i c;rw [if_pos c] at h;have:=le j h;omega
    · rename_i c;rw [if_neg c] at h;exact ih j h
theorem bst_min (l:List Int) (k:Nat):nth l (bst l (k + 1)) = min (nth l (bst l k)) (nth l k):=by
  show nth l (if nth l k < nth l (bst l k) then k else bst l k) = _
  split <;> omega
set_option maxRecDepth 100000 in
theorem min_any (A:Option Addr) (l:List Int) (c:Nat) (w:World) (h:Rd w A (nums .i64 l)) (hl:l.length ≤ 1048577) (h0:0 < l.length) :
    Calls Tryz.prog 39 #[.slice A l.length c] w fun e w' => e = .returned (.int .i64 (nth l (bst l l.length))) ∧ w' = w:=by
  obtain ⟨m,hm⟩:∃ m,l.length = m:=⟨_,rfl⟩
  rw [hm] at hl h0 ⊢
  obtain ⟨b,o,rfl,hc⟩:=h.num (k:=0) (by omega)
  have hc:w.cell? ⟨b,o,none⟩ = some (.int .i64 (nth l 0)):=hc
  have H:=Lib.hid h;have HM:=Lib.hid hm
  have g:decide ((m:Int) < 1) = false:=by simp;omega
  clear h hm
  go_enter Tryz.func39,Tryz.ntmps39
  go_wp2_with fail
  go_loopw [3,4] (fun v y wr => ∃ k:Nat,0 < k ∧ k ≤ m ∧ y = .int .i64 k ∧ v = .int .i64 (nth l (bst l k)) ∧ wr = w) (fun _ y _ => m - (intOf y).toNat)
  case atStart => exact ⟨1,Nat.one_pos,h0,rfl,by unfold bst;simp [bst],rfl⟩
  case round =>
    clear hc
    obtain ⟨k,hk0,hk,rfl,rfl,rfl⟩:=hrel
    by_cases hlt:k < m
    · have hlti:(k:Int) < m:=by omega
      have hll:k < l.length:=by rw [HM.out];exact hlt
      obtain ⟨b',o',hA,hc⟩:=H.out.num hll
      cases hA
      have Ht:=Lib.hid (bst_min l k)
      generalize nth l (bst l k) = v at Ht ⊢
      generalize nth l k = x at hc Ht
      go_wp2_with fail
      go_roundw
      case rel => exact ⟨k + 1,by omega,by omega,by go_num,by rw [Ht.out] <;> (congr 1;split <;> omega),trivial⟩
      case measure => simp [intOf];omega
    · obtain rfl:k = m:=by omega
      go_wp2_with fail
      go_ret
      exact ⟨rfl,rfl⟩
set_option maxRecDepth 100000 in
theorem idx_any (A:Option Addr) (l:List Int) (c:Nat) (w:World) (h:Rd w A (nums .i64 l)) (hl:l.length ≤ 1048577) (h0:0 < l.length) :
    Calls Tryz.prog 38 #[.slice A l.length c,.int .i64 (nth l (bst l l.length))] w fun e w' => e = .returned (.int .i64 (bst l l.length)) ∧ w' = w:=by
  obtain ⟨m,hm⟩:∃ m,l.length = m:=⟨_,rfl⟩
  have hb:=bst_lt l l.length h0
  have hf:=bst_first l l.length
  rw [hm] at hl h0 hb hf ⊢
  obtain ⟨q,hq⟩:∃ q,bst l m = q:=⟨_,rfl⟩
  rw [hq] at hb hf ⊢
  obtain ⟨z,hz⟩:∃ z,nth l q = z:=⟨_,rfl⟩
  rw [hz] at hf ⊢
  have H:=Lib.hid h;have HM:=Lib.hid hm;have HF:=Lib.hid hf;have HZ:=Lib.hid hz
  clear h hm hf hq hz
  go_enter Tryz.func38,Tryz.ntmps38
  go_wp2_with fail
  go_loopw [5,8] (fun _ y wr => ∃ k:Nat,k ≤ q ∧ y = .int .i64 k ∧ wr = w) (fun _ y _ => q - (intOf y).toNat)
  case atStart => exact ⟨0,Nat.zero_le _,rfl,rfl⟩
  case round =>
    obtain ⟨k,hk,rfl,rfl⟩:=hrel
    have hlti:(k:Int) < m:=by omega
    have hll:k < l.length:=by rw [HM.out];omega
    obtain ⟨b,o,rfl,hc⟩:=H.out.num hll
    by_cases hlt:k < q
    · have e:=HF.out k hlt
      generalize nth l k = x at hc e
      have g:(z == x) = false:=by simp;omega
      go_wp2_with fail
      go_roundw
      case rel => exact ⟨k + 1,by omega,by go_num,trivial⟩
      case measure => simp [intOf];omega
    · obtain rfl:k = q:=by omega
      rw [HZ.out] at hc
      have g:(z == z) = true:=by simp
      go_wp2_with fail
      go_ret
      exact ⟨rfl,rfl⟩
theorem best_any (vs:Array Value) (i:Inp) (w:World) (h:RepAt w i vs) :
    Calls Tryz.prog 10 #[.agg vs] w fun e w' => e = .returned (.tuple #[.int .i64 (bst (lsL i) (resL i).length),.bool (decide (0 < (resL i).length))]) ∧ Below w.heap.size w w':=by
  have hlen:=lsL_len i
  have hnl:=resL_len i
  obtain ⟨A,c,L,d,H,e,M,f,rfl,-,h2,-⟩:=h
  obtain ⟨l,hl⟩:∃ l,lsL i = l:=⟨_,rfl⟩
  obtain ⟨n,hn⟩:∃ n,(resL i).length = n:=⟨_,rfl⟩
  obtain ⟨s,hs⟩:∃ s,shR i = s:=⟨_,rfl⟩
  rw [hl] at hlen h2 ⊢
  rw [hn] at hlen hnl ⊢
  rw [hs]
  clear hl hn hs
  obtain ⟨W0,hW⟩:∃ W0,w.alloc (.cells #[.int .i64 s,.slice A n c,.slice L n d,.slice H n e,.slice M n f] 35) = W0:=⟨_,rfl⟩
  have k0:Below w.heap.size w W0:=by rw [← hW];exact (br w).alloc (Nat.le_refl _) _
  have g0:W0.heap[w.heap.size]? = some (.cells #[.int .i64 s,.slice A n c,.slice L n d,.slice H n e,.slice M n f] 35 (0,0)):=by rw [← hW];exact heap_alloc_new w _
  have R0:=Lib.hid (h2.below k0)
  have HW:=Lib.hid hW;have K0:=Lib.hid k0;have G0:=Lib.hid g0
  clear hW k0 g0 h2
  go_enter Tryz.func10,Tryz.ntmps10
  by_cases hz:n = 0
  · subst hz
    go_wp2_with fail
    go_ret2
    rw [HW.out]
    refine ⟨?_,K0.out⟩
    have e:bst l 0 = 0:=rfl
    simp [e]
  · have g:((n:Int) == 0) = false:=by simp [hz]
    have hi:=fun w' (q:Below W0.heap.size W0 w') => idx_any L l d w' (R0.out.below q) (by omega) (by omega)
    have hmi:=fun w' (q:Below W0.heap.size W0 w') => min_any L l d w' (R0.out.below q) (by omega) (by omega)
    rw [hlen] at hi hmi
    have Hi:=Lib.hid hi;have Hmi:=Lib.hid hmi
    clear hi hmi
    go_upto_region 3 with (fail)
    rw [HW.out]
    have rg:∀ w',Below W0.heap.size W0 w' → w'.cell? ⟨w.heap.size,2,none⟩ = some (.slice L n d):=fun w' h => cell_of_row w' w.heap.size 2 _ _ _ (sb G0.out w' h)
    refine HA.g (fun w':World => Below W0.heap.size W0 w') ?_
    have q0:=(br W0).drew
    refine HA.t ?_ [0,1,2,3] q0 ?_
    refine HA.c 4 (Hmi.out _ q0) ?_
    rintro e w1 ⟨rfl,rfl⟩
    refine ⟨_,rfl,q0,fun _ => ?_⟩
    refine HA.c 5 (Hi.out _ q0) ?_
    rintro e w1 ⟨rfl,rfl⟩
    refine ⟨_,rfl,q0,fun _ => ?_⟩
    refine HA.t ?_ [6,7] q0 ?_
    refine HA.d ?_
    have Q0:=Lib.hid (K0.out.trans (q0.mono K0.out.size))
    clear q0
    go_wp2_with fail
    go_ret2
    refine ⟨?_,Q0.out⟩
    rw [show decide (0 < n) = true from by simp;omega]
    rfl
theorem rbest_any (vs:Array Value) (i:Inp) (w:World) (h:RRepAt w i vs) :
    Calls Tryz.prog 11 #[.agg vs] w fun e w' => e = .returned (.tuple #[.int .i64 (bst (lsL i) (resL i).length),.bool (decide (0 < (resL i).length))]) ∧ Below w.heap.size w w':=by
  have hlen:=lsL_len i
  have hnl:=resL_len i
  obtain ⟨A,c,L,d,H,e,M,f,rfl,-,h2,-⟩:=h
  obtain ⟨l,hl⟩:∃ l,lsL i = l:=⟨_,rfl⟩
  obtain ⟨n,hn⟩:∃ n,(resL i).length = n:=⟨_,rfl⟩
  obtain ⟨s,hs⟩:∃ s,shR i = s:=⟨_,rfl⟩
  rw [hl] at hlen h2 ⊢
  rw [hn] at hlen hnl ⊢
  rw [hs]
  clear hl hn hs
  obtain ⟨W0,hW⟩:∃ W0,w.alloc (.cells #[.int .i64 s,.slice A n c,.slice L n d,.slice H n e,.slice M n f] 42) = W0:=⟨_,rfl⟩
  have k0:Below w.heap.size w W0:=by rw [← hW];exact (br w).alloc (Nat.le_refl _) _
  have g0:W0.heap[w.heap.size]? = some (.cells #[.int .i64 s,.slice A n c,.slice L n d,.slice H n e,.slice M n f] 42 (0,0)):=by rw [← hW];exact heap_alloc_new w _
  have R0:=Lib.hid (h2.below k0)
  have HW:=Lib.hid hW;have K0:=Lib.hid k0;have G0:=Lib.hid g0;have HN:=Lib.hid hlen
  clear hW k0 g0 h2 hlen
  go_enter Tryz.func11,Tryz.ntmps11
  go_wp2_with fail
  rw [HW.out]
  have rg:∀ w',Below W0.heap.size W0 w' → w'.cell? ⟨w.heap.size,2,none⟩ = some (.slice L n d):=fun w' h => cell_of_row w' w.heap.size 2 _ _ _ (sb G0.out w' h)
  have Rg:=Lib.hid rg
  clear rg
  go_loopw [4,5] (fun v y wr => ∃ k:Nat,k ≤ n ∧ y = .int .i64 k ∧ v = .int .i64 (bst l k) ∧ Below W0.heap.size W0 wr) (fun _ y _ => n - (intOf y).toNat)
  case atStart => exact ⟨0,Nat.zero_le _,rfl,rfl,br W0⟩
  case round =>
    obtain ⟨k,hk,rfl,rfl,q⟩:=hrel
    have c2:=Rg.out _ q
    by_cases hlt:k < n
    · have hlti:(k:Int) < n:=by omega
      have hll:k < l.length:=by rw [HN.out];exact hlt
      obtain ⟨b,o,rfl,hc⟩:=R0.out.num hll
      have hb1:bst l k < l.length:=by
        rcases Nat.eq_zero_or_pos k with h | h
        · subst h;exact hll
        · have:=bst_lt l k h;omega
      obtain ⟨b',o',hA,hd⟩:=R0.out.num hb1
      cases hA
      have hbn:bst l k < n:=by have:=HN.out;omega
      have hst:bst l (k + 1) = if nth l k < nth l (bst l k) then k else bst l k:=rfl
      have HS:=Lib.hid hst
      clear hst hb1 hll
      have Q:=Lib.hid q
      clear q
      generalize hB:bst l k = B at hd hbn HS ⊢
      generalize hx:nth l k = x at hc HS
      generalize hy:nth l B = y at hd HS
      have hbni:(B:Int) < n:=by omega
      have HC:=Lib.hid hc;have HD:=Lib.hid hd
      clear hc hd
      by_cases hxy:x < y
      · have g:decide (x < y) = true:=by simp [hxy]
        go_upto_region 5 with (fail)
        refine HA.g (fun w':World => Below W0.heap.size W0 w') ?_
        have q0:=Q.out.drew
        have rg:=Rg.out
        have rc:=fun w' (q:Below W0.heap.size W0 w') => cell_below q HC.out
        have rd:=fun w' (q:Below W0.heap.size W0 w') => cell_below q HD.out
        clear c2
        refine HA.t ?_ [0,1,2,3,4,5,6,7,8,9,10] q0 ?_
        refine HA.d ?_
        have Q0:=Lib.hid q0
        clear q0 rg rc rd
        go_wp2_with fail
        go_roundw
        case rel => exact ⟨k + 1,by omega,by go_num,by rw [HS.out,if_pos hxy],Q0.out⟩
        case measure => simp [intOf];omega
      · have g:decide (x < y) = false:=by simp;omega
        go_upto_region 5 with (fail)
        refine HA.g (fun w':World => Below W0.heap.size W0 w') ?_
        have q0:=Q.out.drew
        have rg:=Rg.out
        have rc:=fun w' (q:Below W0.heap.size W0 w') => cell_below q HC.out
        have rd:=fun w' (q:Below W0.heap.size W0 w') => cell_below q HD.out
        clear c2
        refine HA.t ?_ [0,1,2,3,4,5,6,7,8,9,10] q0 ?_
        refine HA.d ?_
        have Q0:=Lib.hid q0
        clear q0 rg rc rd
        go_wp2_with fail
        go_roundw
        case rel => exact ⟨k + 1,by omega,by go_num,by rw [HS.out,if_neg hxy],Q0.out⟩
        case measure => simp [intOf];omega
    · obtain rfl:k = n:=by omega
      have Q:=Lib.hid q
      clear q
      go_upto_region 7 with (fail)
      refine HA.g (fun w':World => Below W0.heap.size W0 w') ?_
      have q0:=Q.out.drew
      have rg:=Rg.out
      clear c2
      refine HA.t ?_ [0,1,2,3,4,5,6] q0 ?_
      refine HA.d ?_
      have Q0:=Lib.hid (K0.out.trans (q0.mono K0.out.size))
      clear q0 rg
      go_wp2_with fail
      go_ret2
      refine ⟨?_,Q0.out⟩
      simp
end Go.Proofs.YthamijnggdjaoaaGreatDoor
namespace Go.Proofs.YthamijnggdjaoaaGreatDoor
def frac (q:Nat):Nat → Nat → List Nat
  | 0,_ => []
  | f + 1,r => if r = 0 then [] else 10 * r / 2 ^ q :: frac q f (10 * r % 2 ^ q)
def halvD:Nat → List Nat → List Nat
  | c,[] => if 0 < c then [5] else []
  | c,d :: ds => (10 * c + d) / 2 :: halvD ((10 * c + d) % 2) ds
def refD (n:Nat):Nat → List Nat
  | 0 => []
  | i + 1 => halvD (n / 2 ^ i % 2) (refD n i)
def trimD:List Nat → List Nat
  | [] => []
  | d :: ds => if d = 0 ∧ trimD ds = [] then [] else d :: trimD ds
def valD:List Nat → Nat
  | [] => 0
  | d :: ds => d * 10 ^ ds.length + valD ds
theorem halvD_dig:∀ (l:List Nat) (c:Nat),c ≤ 1 → (∀ d ∈ l,d ≤ 9) → ∀ d ∈ halvD c l,d ≤ 9
  | [],c,_,_,d,hd => by
    unfold halvD at hd
    split at hd
    · simp at hd;omega
    · cases hd
  | x :: l,c,hc,hl,d,hd => by
    unfold halvD at hd
    have hx:=hl x (List.mem_cons_self ..)
    rcases List.mem_cons.1 hd with rfl | hd
    · omega
    · exact halvD_dig l _ (by omega) (fun y hy => hl y (List.mem_cons_of_mem _ hy)) d hd
theorem halvD_len:∀ (l:List Nat) (c:Nat),(halvD c l).length ≤ l.length + 1
  | [],c => by unfold halvD;split <;> simp
  | x :: l,c => by
    unfold halvD
    have:=halvD_len l ((10 * c + x) % 2)
    simp only [List.length_cons]
    omega
theorem halvD_val:∀ (l:List Nat) (c:Nat),c ≤ 1 → valD (halvD c l) * 2 * 10 ^ l.length = (c * 10 ^ l.length + valD l) * 10 ^ (halvD c l).length
  | [],c,hc => by
    unfold halvD
    split
    · obtain rfl:c = 1:=by omega
      decide
    · obtain rfl:c = 0:=by omega
      decide
  | x :: l,c,hc => by
    have ih:=halvD_val l ((10 * c + x) % 2) (by omega)
    rw [show halvD c (x :: l) = (10 * c + x) / 2 :: halvD ((10 * c + x) % 2) l from rfl]
    generalize halvD ((10 * c + x) % 2) l = h at ih
    simp only [valD,List.length_cons]
    have e:2 * ((10 * c + x) / 2) + (10 * c + x) % 2 = 10 * c + x:=by omega
    generalize (10 * c + x) / 2 = a at e
    generalize (10 * c + x) % 2 = b at e ih
    rw [Nat.pow_succ,Nat.pow_succ]
    generalize 10 ^ l.length = L at ih
    generalize 10 ^ h.length = H at ih
    calc (a * H + valD h) * 2 * (L * 10) = 10 * (valD h * 2 * L) + 2 * a * H * L * 10:=by grind
      _ = 10 * ((b * L + valD l) * H) + 2 * a * H * L * 10:=by rw [ih]
      _ = ((2 * a + b) * L + valD l) * (H * 10):=by grind
      _ = (c * (L * 10) + (x * L + valD l)) * (H * 10):=by rw [e];grind
theorem refD_dig (n:Nat):∀ i,∀ d ∈ refD n i,d ≤ 9
  | 0,_,h => by cases h
  | i + 1,d,h => halvD_dig _ _ (by omega) (refD_dig n i) d h
theorem refD_len (n:Nat):∀ i,(refD n i).length ≤ i
  | 0 => Nat.le_refl _
  | i + 1 => by have:=refD_len n i;have:=halvD_len (refD n i) (n / 2 ^ i % 2);unfold refD;omega
theorem mod_bit (n i:Nat):n % 2 ^ (i + 1) = n / 2 ^ i % 2 * 2 ^ i + n % 2 ^ i:=by
  rw [Nat.pow_succ,Nat.mod_mul,Nat.mul_comm,Nat.add_comm]
theorem refD_val (n:Nat):∀ i,valD (refD n i) * 2 ^ i = n % 2 ^ i * 10 ^ (refD n i).length
  | 0 => by simp [refD,valD];omega
  | i + 1 => by
    have ih:=refD_val n i
    have hv:=halvD_val (refD n i) (n / 2 ^ i % 2) (by omega)
    rw [show refD n (i + 1) = halvD (n / 2 ^ i % 2) (refD n i) from rfl,mod_bit,Nat.pow_succ]
    generalize halvD (n / 2 ^ i % 2) (refD n i) = h at hv
    generalize n / 2 ^ i % 2 = b at hv
    generalize n % 2 ^ i = m at ih
    have hp:0 < 10 ^ (refD n i).length:=Nat.pow_pos (by decide)
    generalize 10 ^ (refD n i).length = L at ih hv hp
    generalize 10 ^ h.length = H at hv
    generalize valD (refD n i) = v at ih hv
    generalize 2 ^ i = T at ih
    refine Nat.eq_of_mul_eq_mul_right hp ?_
    calc valD h * (T * 2) * L = valD h * 2 * L * T:=by grind
      _ = (b * L + v) * H * T:=by rw [hv]
      _ = (b * T * L + v * T) * H:=by grind
      _ = (b * T * L + m * L) * H:=by rw [ih]
      _ = (b * T + m) * H * L:=by grind
theorem valD_lt:∀ l:List Nat,(∀ d ∈ l,d ≤ 9) → valD l < 10 ^ l.length
  | [],_ => by decide
  | x :: l,h => by
    have hx:=h x (List.mem_cons_self ..)
    have ih:=valD_lt l fun y hy => h y (List.mem_cons_of_mem _ hy)
    simp only [valD,List.length_cons,Nat.pow_succ]
    have:x * 10 ^ l.length ≤ 9 * 10 ^ l.length:=Nat.mul_le_mul_right _ hx
    omega
theorem frac_zero (q f:Nat):frac q f 0 = []:=by cases f <;> simp [frac]
theorem trim_frac (q:Nat):∀ (l:List Nat) (f r:Nat),(∀ d ∈ l,d ≤ 9) → valD l * 2 ^ q = r * 10 ^ l.length → l.length ≤ f → trimD l = frac q f r
  | [],f,r,_,h,_ => by
    simp only [valD,List.length_nil,Nat.pow_zero,Nat.mul_one,Nat.zero_mul] at h
    subst h
    rw [frac_zero];rfl
  | x :: l,f,r,hl,h,hf => by
    obtain ⟨g,rfl⟩:∃ g,f = g + 1:=⟨f - 1,by simp only [List.length_cons] at hf;omega⟩
    have hl':∀ d ∈ l,d ≤ 9:=fun y hy => hl y (List.mem_cons_of_mem _ hy)
    have hlt:=valD_lt l hl'
    simp only [List.length_cons] at hf
    simp only [valD,List.length_cons,Nat.pow_succ] at h
    have hp:0 < 10 ^ l.length:=Nat.pow_pos (by decide)
    have hT:0 < 2 ^ q:=Nat.two_pow_pos q
    have hv:∀ r',valD l * 2 ^ q = r' * 10 ^ l.length → trimD l = frac q g r':=fun r' h' => trim_frac q l g r' hl' h' (by omega)
    generalize 10 ^ l.length = L at h hlt hp hv
    generalize hTq:2 ^ q = T at h hT hv
    have hge:x * T ≤ 10 * r:=by
      refine Nat.le_of_mul_le_mul_right (c:=L) ?_ hp
      have:(x * L + valD l) * T = x * T * L + valD l * T:=by grind
      have:r * (L * 10) = 10 * r * L:=by grind
      omega
    have hr:valD l * T = (10 * r - x * T) * L:=by
      rw [Nat.sub_mul]
      have e1:(x * L + valD l) * T = x * T * L + valD l * T:=by grind
      have e2:r * (L * 10) = 10 * r * L:=by grind
      omega
    have hlt2:10 * r - x * T < T:=by
      refine Nat.lt_of_mul_lt_mul_right (a:=L) ?_
      rw [← hr,Nat.mul_comm T L]
      exact Nat.mul_lt_mul_of_pos_right hlt hT
    have hd:10 * r / T = x:=by
      refine Nat.div_eq_of_lt_le (by omega) ?_
      rw [Nat.add_mul,Nat.one_mul]
      omega
    have hm:10 * r % T = 10 * r - x * T:=by
      have:=Nat.div_add_mod (10 * r) T
      rw [hd,Nat.mul_comm] at this
      omega
    show (if x = 0 ∧ trimD l = [] then [] else x :: trimD l) = (if r = 0 then [] else 10 * r / 2 ^ q :: frac q g (10 * r % 2 ^ q))
    rw [hTq,hd,hm,hv _ hr]
    by_cases hr0:r = 0
    · subst hr0
      have hx0:x = 0:=by
        rcases Nat.eq_zero_or_pos x with h0 | h0
        · exact h0
        · have:=Nat.mul_le_mul_right T h0;omega
      subst hx0
      rw [if_pos rfl,Nat.zero_mul,frac_zero,if_pos ⟨rfl,rfl⟩]
    · rw [if_neg hr0,if_neg]
      rintro ⟨rfl,he⟩
      rw [Nat.zero_mul] at he hr
      cases g with
      | zero =>
        obtain rfl:l = []:=List.eq_nil_of_length_eq_zero (by omega)
        simp only [valD,Nat.zero_mul,Nat.sub_zero] at hr
        have:0 < 10 * r * L:=Nat.mul_pos (by omega) hp
        omega
      | succ g =>
        simp only [frac,Nat.sub_zero] at he
        rw [if_neg (by omega)] at he
        cases he
def dgB (d:Nat):UInt8:=UInt8.ofNat (48 + d)
def digB (l:List Nat):List UInt8:=l.map dgB
def fixT (x:Int) (q:Nat):List UInt8:=
  (if x < 0 then [45] else []) ++ Lib.decDigits (x.natAbs / 2 ^ q) ++ (if x.natAbs % 2 ^ q = 0 then [] else 46 :: digB (frac q q (x.natAbs % 2 ^ q)))
theorem ref_frac (n q:Nat):trimD (refD n q) = frac q q (n % 2 ^ q):=trim_frac q _ _ _ (refD_dig n q) (refD_val n q) (refD_len n q)
theorem frac_nil {q r:Nat} (hq:r < 2 ^ q):frac q q r = [] ↔ r = 0:=by
  cases q with
  | zero => simp [frac];omega
  | succ q =>
    unfold frac
    split
    · rename_i h;simp [h]
    · rename_i h;simp [h]
theorem rest_dvd {q j r:Nat} (h:2 ^ j ∣ r):2 ^ (j + 1) ∣ 10 * r % 2 ^ q ∨ 10 * r % 2 ^ q = 0:=by
  by_cases hj:j + 1 ≤ q
  · left
    refine (Nat.dvd_mod_iff (Nat.pow_dvd_pow 2 hj)).2 ?_
    rw [Nat.pow_succ,Nat.mul_comm (2 ^ j)]
    exact Nat.mul_dvd_mul (by decide) h
  · right
    refine Nat.mod_eq_zero_of_dvd (Nat.dvd_trans (Nat.pow_dvd_pow 2 (show q ≤ j + 1 by omega)) ?_)
    rw [Nat.pow_succ,Nat.mul_comm (2 ^ j)]
    exact Nat.mul_dvd_mul (by decide) h
def markT (z:Int × Int):List UInt8:=Lib.itoa z.1 ++ (if 0 ≤ z.2 then [43] else []) ++ Lib.itoa z.2 ++ [105]
end Go.Proofs.YthamijnggdjaoaaGreatDoor
namespace Go.Proofs.YthamijnggdjaoaaGreatDoor
open Go.RowKit
theorem dig_fin:∀ p:Fin 10,(ByteArray.mk #[48,49,50,51,52,53,54,55,56,57]).extract p.val (p.val + 1) = ⟨#[dgB p.val]⟩:=by decide +kernel
theorem dig_piece (u:Nat):(ByteArray.mk #[48,49,50,51,52,53,54,55,56,57]).extract ((u:Int) % 10).toNat ((u:Int) % 10 + 1).toNat = ⟨#[dgB (u % 10)]⟩:=by
  rw [show ((u:Int) % 10).toNat = u % 10 by omega,show ((u:Int) % 10 + 1).toNat = u % 10 + 1 by omega]
  exact dig_fin ⟨u % 10,by omega⟩
theorem wrap_nat {u:Nat} (h:u < 18446744073709551616):IntKind.u64.wrap (u:Int) = (u:Int):=by rw [wu64];unfold M64;omega
theorem ba_append (a b:List UInt8):(⟨a.toArray⟩:ByteArray) ++ ⟨b.toArray⟩ = ⟨(a ++ b).toArray⟩:=by
  apply ByteArray.ext;simp
@[go_sem] theorem cat_str (t:TypeId) (a b:List UInt8) (h:a.length + b.length ≤ 1000000):binOp .add t (.string ⟨a.toArray⟩) (.string ⟨b.toArray⟩) = pure (.string ⟨(a ++ b).toArray⟩):=by
  rw [binOp_string_add]
  unfold Op.stringOp
  dsimp only
  rw [if_neg,ba_append]
  show ¬ (((a.length + b.length:Nat):Int) > 9223372036854775807)
  omega
theorem dec_len {u:Nat} (h:u < 18446744073709551616):(Lib.decDigits u).length ≤ 20:=by
  rw [Lib.decDigits_length]
  by_cases h0:u = 0
  · subst h0;rw [Lib.nDigits_small (by decide)];decide
  · obtain ⟨h1,h2⟩:=Lib.numDigits_eq u (by omega) h
    split at h1 <;> omega
set_option maxRecDepth 20000 in
theorem unsigned_any:∀ (u:Nat) (w:World),u < 18446744073709551616 →
    Calls Tryz.prog 35 #[.int .u64 u] w fun e w' => e = .returned (.string ⟨(Lib.decDigits u).toArray⟩) ∧ ∃ n,w' = w.drewN n:=by
  intro u
  induction u using Nat.strongRecOn with
  | _ u ih =>
  intro w hu
  have IH:=Lib.hid ih
  have Hu:=Lib.hid hu
  have hr0:0 ≤ (u:Int) % 10:=by omega
  have hr1:(u:Int) % 10 ≤ (u:Int) % 10 + 1:=by omega
  have hr2:(u:Int) % 10 + 1 ≤ ((ByteArray.mk #[48,49,50,51,52,53,54,55,56,57]).size:Int):=by
    show _ ≤ ((10:Nat):Int);omega
  have hsl:=run_slice_string (P:=Tryz.prog) w 9 _ .u64 .u64 _ _ Tryz.underlying9 hr0 hr1 hr2
  rw [dig_piece] at hsl
  clear ih hu hr0 hr1 hr2
  go_enter Tryz.func35,Tryz.ntmps35
  go_wp2_with fail
  · have hu:u < 10:=by rename_i h;omega
    go_ret
    refine ⟨?_,0,rfl⟩
    rw [Nat.mod_eq_of_lt hu,Lib.decDigits_one hu];rfl
  · have hu:¬ u < 10:=by rename_i h;omega
    have hu2:=Hu.out
    rw [show (u:Int) / 10 = ((u / 10:Nat):Int) by omega,wrap_nat (by omega)]
    refine (IH.out (u / 10) (by omega) w (by omega)).mono ?_
    intro e w1 he
    obtain ⟨he,n,hw⟩:=he
    subst he;subst hw
    have hl:=dec_len (u:=u / 10) (by omega)
    have hc:(Lib.decDigits (u / 10)).length + [dgB (u % 10)].length ≤ 1000000:=by simp only [List.length_singleton];omega
    go_wp2_with fail
    go_ret
    refine ⟨?_,n,rfl⟩
    rw [Lib.decDigits.eq_1 u,dif_neg hu,← ba_append]
    rfl
theorem neg_u64 {n:Int} (h0:n < 0) (h1:-9223372036854775808 ≤ n):IntKind.u64.wrap (-(IntKind.u64.wrap n)) = ((n.natAbs:Nat):Int):=by
  rw [wu64,wu64];unfold M64;omega
theorem pos_u64 {n:Int} (h0:0 ≤ n) (h1:n ≤ 9223372036854775807):IntKind.u64.wrap n = ((n.natAbs:Nat):Int):=by
  rw [wu64];unfold M64;omega
theorem itoa_eq (n:Int):Lib.itoa n = (if n < 0 then [45] else []) ++ Lib.decDigits n.natAbs:=by
  unfold Lib.itoa
  split
  · rfl
  · rw [show n.toNat = n.natAbs by omega];rfl
theorem decimal_any (n:Int) (w:World) (h0:-9223372036854775808 ≤ n) (h1:n ≤ 9223372036854775807) :
    Calls Tryz.prog 92 #[.int .i64 n] w fun e w' => e = .returned (.string ⟨(Lib.itoa n).toArray⟩) ∧ ∃ k,w' = w.drewN k:=by
  have hl:=dec_len (u:=n.natAbs) (by omega)
  have HL:=Lib.hid hl
  have H0:=Lib.hid h0;have H1:=Lib.hid h1
  clear hl h0 h1
  go_enter Tryz.func92,Tryz.ntmps92
  by_cases hn:n < 0
  · have g:decide (n < 0) = true:=by simp [hn]
    go_wp2_with fail
    rw [neg_u64 hn H0.out]
    refine (unsigned_any _ w (by have:=H0.out;omega)).mono ?_
    intro e w1 he
    obtain ⟨he,k,hw⟩:=he
    subst he;subst hw
    have hc:[(45:UInt8)].length + (Lib.decDigits n.natAbs).length ≤ 1000000:=by have:=HL.out;simp only [List.length_singleton];omega
    go_wp2_with fail
    go_ret
    refine ⟨?_,k,rfl⟩
    rw [itoa_eq,if_pos hn,← ba_append]
    rfl
  · have g:decide (n < 0) = false:=by simp;omega
    go_wp2_with fail
    rw [pos_u64 (by omega) H1.out]
    refine (unsigned_any _ w (by have:=H1.out;omega)).mono ?_
    intro e w1 he
    obtain ⟨he,k,hw⟩:=he
    subst he;subst hw
    go_wp2_with fail
    go_ret
    refine ⟨?_,k,rfl⟩
    rw [itoa_eq,if_neg (by omega)]
    rfl
theorem digB_len (l:List Nat):(digB l).length = l.length:=by simp [digB]
theorem dec_one {q:Nat} (h:q < 10):Lib.decDigits q = [dgB q]:=Lib.decDigits_one h
theorem dgB_nat {d:Nat} (h:d ≤ 9):(dgB d).toNat = 48 + d:=by
  unfold dgB
  rw [UInt8.toNat_ofNat']
  omega
theorem digB_at {l:List Nat} {S:ByteArray} (hS:(⟨(digB l).toArray⟩:ByteArray) = S) (hd:∀ d ∈ l,d ≤ 9) {k:Nat} (hk:k < l.length):∀ h:k < S.size,(S[k]'h).toNat = 48 + l[k]:=by
  subst hS
  intro h
  show ((digB l).toArray[k]'h).toNat = _
  simp only [List.getElem_toArray,digB,List.getElem_map]
  exact dgB_nat (hd _ (List.getElem_mem hk))
theorem halved_any (l:List Nat) (hd:∀ d ∈ l,d ≤ 9) (hn:l.length ≤ 1000) (w:World) :
    Calls Tryz.prog 132 #[.string ⟨(digB l).toArray⟩] w fun e w' => e = .returned (.string ⟨(digB (halvD 0 l)).toArray⟩) ∧ ∃ k,w' = w.drewN k:=by
  generalize hS:(⟨(digB l).toArray⟩:ByteArray) = S
  have hz:S.size = l.length:=by rw [← hS];exact digB_len l
  have HS:=Lib.hid hS;have HD:=Lib.hid hd
  clear hS hd
  go_enter Tryz.func132,Tryz.ntmps132
  go_wp2_with fail
  go_loopw [3,4,5] (fun o c i wr => ∃ (k:Nat) (a:List Nat) (b:Nat),k ≤ l.length ∧ o = .string ⟨(digB a).toArray⟩ ∧ c = .int .i64 b ∧ b ≤ 1 ∧ i = .int .i64 k ∧ halvD 0 l = a ++ halvD b (l.drop k) ∧ a.length = k ∧ ∃ n,wr = w.drewN n) (fun _ _ i _ => l.length - (intOf i).toNat)
  case atStart => exact ⟨0,[],0,Nat.zero_le _,rfl,rfl,by decide,rfl,rfl,rfl,0,rfl⟩
  case round =>
    obtain ⟨k,a,b,hk,rfl,rfl,hb,rfl,ha,hl,n,rfl⟩:=hrel
    have HA:=Lib.hid ha
    clear ha
    by_cases hlt:k < l.length
    · have hx:=digB_at HS.out HD.out hlt
      have hk9:=HD.out _ (List.getElem_mem hlt)
      obtain ⟨d,hdk⟩:∃ d,d = l[k]:=⟨_,rfl⟩
      rw [← hdk] at hx hk9
      have Hx:=Lib.hid hx;have Hdk:=Lib.hid hdk
      clear hx hdk
      go_wp2_with fail
      rw [Hx.out,show (10 * (b:Int) + (((48 + d:Nat):Int) - 48) % 256) / 2 = (((10 * b + d) / 2:Nat):Int) by omega]
      refine (unsigned_any _ _ (by omega)).mono ?_
      intro e w1 he
      obtain ⟨he,n1,hw⟩:=he
      subst he;subst hw
      rw [dec_one (show (10 * b + d) / 2 < 10 by omega)]
      have hc:(digB a).length + [dgB ((10 * b + d) / 2)].length ≤ 1000000:=by rw [digB_len];simp only [List.length_singleton];omega
      go_wp2_with fail
      go_roundw
      case rel =>
        have ha:=HA.out
        have hak:=hl
        refine ⟨k + 1,a ++ [(10 * b + d) / 2],(10 * b + d) % 2,by omega,?_,?_,by omega,by push_cast;rfl,?_,by simp [hak],_,rfl⟩
        · rw [show digB (a ++ [(10 * b + d) / 2]) = digB a ++ [dgB ((10 * b + d) / 2)] from by simp [digB],← ba_append]
        · congr 1;omega
        · rw [ha,Hdk.out,List.append_assoc]
          congr 1
          rw [List.drop_eq_getElem_cons hlt]
          rfl
      case measure => simp [intOf];omega
    · have hkl:k = l.length:=by omega
      have ha:=HA.out
      rw [hkl,List.drop_length] at ha
      by_cases hb1:0 < b
      · have hc:(digB a).length + [(53:UInt8)].length ≤ 1000000:=by rw [digB_len];simp only [List.length_singleton];omega
        have HA2:=Lib.hid ha
        clear ha
        go_wp2_with fail
        go_ret
        refine ⟨?_,n,rfl⟩
        rw [HA2.out,show halvD b [] = [5] from if_pos hb1,show digB (a ++ [5]) = digB a ++ [53] from by simp [digB];rfl,← ba_append]
        rfl
      · have HA2:=Lib.hid ha
        clear ha
        have g:decide (0 < b) = false:=by simp;omega
        go_wp2_with fail
        go_ret
        refine ⟨?_,n,rfl⟩
        rw [HA2.out,show halvD b [] = [] from if_neg hb1,List.append_nil]
        rfl
set_option maxRecDepth 20000 in
theorem half_any (l:List Nat) (b:Nat) (hb:b ≤ 1) (hd:∀ d ∈ l,d ≤ 9) (hn:l.length ≤ 900) (w:World) :
    Calls Tryz.prog 91 #[.int .i64 b,.string ⟨(digB l).toArray⟩] w fun e w' => e = .returned (.string ⟨(digB (halvD b l)).toArray⟩) ∧ Below w.heap.size w w':=by
  have hd2:∀ d ∈ b :: l,d ≤ 9:=fun d h => by
    rcases List.mem_cons.1 h with rfl | h
    · omega
    · exact hd d h
  have HD:=Lib.hid hd2
  clear hd hd2
  have hc:[dgB b].length + (digB l).length ≤ 1000000:=by rw [digB_len];simp only [List.length_singleton];omega
  go_enter Tryz.func91,Tryz.ntmps91
  go_wp2_with fail
  have hq:∀ k (hk:k < [dgB b].length),(w.alloc (Obj.cells #[Value.int IntKind.u8 (48 + b)] 5)).cell? ((⟨w.heap.size,0,none⟩:Addr).add k) = some (.int .u8 (([dgB b][k]).toNat:Int)):=fun k hk => by
    obtain rfl:k = 0:=by simpa using hk
    rw [show (⟨w.heap.size,0,none⟩:Addr).add 0 = ⟨w.heap.size,0,none⟩ from rfl,show [dgB b][0] = dgB b from rfl,dgB_nat (by omega)]
    rw [cell_of_row _ _ 0 _ _ _ (heap_alloc_new w (.cells #[Value.int IntKind.u8 (48 + b)] 5))]
    rfl
  have hcv:=run_convert_bytes_back _ 100 9 5 ⟨w.heap.size,0,none⟩ 1 [dgB b] Tryz.underlying100 Tryz.underlying5 Tryz.underlying9 hq
  rw [show [dgB b].length = 1 from rfl] at hcv
  rw [hcv]
  go_wp2_with fail
  rw [ba_append,show [dgB b] ++ digB l = digB (b :: l) from rfl]
  refine (halved_any (b :: l) HD.out (by simp only [List.length_cons];omega) _).mono ?_
  intro e w1 he
  obtain ⟨he,n1,hw⟩:=he
  subst he;subst hw
  have hv:halvD 0 (b :: l) = 0 :: halvD b l:=by
    show (10 * 0 + b) / 2 :: halvD ((10 * 0 + b) % 2) l = _
    rw [show (10 * 0 + b) / 2 = 0 by omega,show (10 * 0 + b) % 2 = b by omega]
  rw [hv]
  generalize hS:(⟨(digB (0 :: halvD b l)).toArray⟩:ByteArray) = S
  have hs1:(1:Int) ≤ S.size:=by
    rw [← hS]
    show (1:Int) ≤ (((digB (0 :: halvD b l)).length:Nat):Int)
    rw [digB_len,List.length_cons];omega
  have hs0:(0:Int) ≤ 1:=by decide
  go_wp2_with fail
  go_ret
  refine ⟨?_,((Below.refl _ w).alloc (Nat.le_refl _) _).trans ⟨rfl,rfl,rfl,Nat.le_refl _,fun _ _ => rfl⟩⟩
  have hx:S.extract 1 S.size = ⟨(digB (halvD b l)).toArray⟩:=by
    have hlen:S.size = (halvD b l).length + 1:=by rw [← hS];exact (digB_len _).trans (by simp)
    rw [hlen,← hS,ByteArray.extract_mk]
    congr 2
    show List.take _ (digB (halvD b l)) = _
    rw [List.take_of_length_le (by rw [digB_len];omega)]
  rw [← hx]
  rfl
end Go.Proofs.YthamijnggdjaoaaGreatDoor
namespace Go.Proofs.YthamijnggdjaoaaGreatDoor
end Go.Proofs.YthamijnggdjaoaaGreatDoor
