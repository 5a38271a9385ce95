/- The reference's Train of a right input. The walk of MachineAlone. No condition. -/
import Derived.Test.YtaccfnffmbndhaaGreatA03
import Derived.Test.YtaccfnffmbndhaaGreatA35
import Derived.Test.YtaccfnffmbndhaaGreatA44
import Derived.Test.YtaccfnffmbndhaaGreatA36
import Derived.Test.YtaccfnffmbndhaaGreatA25
import Derived.Test.YtaccfnffmbndhaaGreatA29
import Derived.Test.YtaccfnffmbndhaaGreatA30
set_option linter.unusedSimpArgs false
set_option linter.unusedVariables false
namespace Go.Proofs.YtaccfnffmbndhaaGreat
open Go.RowKit
theorem OrdI.pushed {l:List Int} {n B k:Nat} {v:Value} {vs:List Value} {w w':World} {e size m base:Nat} {u:Value} {xs:List Value} (h:OrdI l n B k v vs w) (hv:w.ownsRow base e size u m xs) (hg:w.grownBy w' u.ownBlock) (h1:e ≠ 22) (h2:e ≠ 3):OrdI l n B k v vs w':=
  ⟨own_pushed h.1 hv hg h1,fun j hj => by obtain ⟨A',c',k1,k2,k3⟩:=h.2 j hj;exact ⟨A',c',k1,k2,own_pushed k3 hv hg h2⟩⟩
theorem block_past {W W':World} {b:Nat} {cs:Array Value} {t e:TypeId} {sg:Nat × Nat} (h:W.heap[b]? = some (.cells cs t sg)) {base size k:Nat} {v:Value} {xs:List Value} (hr:W.ownsRow base e size v k xs) (hg:W.grownBy W' v.ownBlock) (hte:t ≠ e):W'.heap[b]? = some (.cells cs t sg):=
  (hg.block b (lt_of_block h) (block_notrow h hte hr)).trans h
def TrB (Z:Option Addr) (w0:World) (b5 b7:Nat) (X Y:Array Value) (i:Inp) (m:Nat) (v va:Value) (vs:List Value) (w:World):Prop:=MapR Z w0 (b5 + 1) w i m v ∧ w.heap[w0.heap.size]? = some (.cells X 29 (0,0)) ∧ w.heap[b7]? = some (.cells Y 159 (0,0)) ∧ OrdI i.draws i.data.length (b5 + 1) (epI i) va vs w ∧ Below w0.heap.size w0 w
theorem TrB.below {Z:Option Addr} {w0 w w':World} {b5 b7 m:Nat} {X Y:Array Value} {i:Inp} {v va:Value} {vs:List Value} (h:TrB Z w0 b5 b7 X Y i m v va vs w) (hb:Below w.heap.size w w'):TrB Z w0 b5 b7 X Y i m v va vs w':=
  ⟨h.1.below hb,(hb.block _ (lt_of_block h.2.1)).trans h.2.1,(hb.block _ (lt_of_block h.2.2.1)).trans h.2.2.1,h.2.2.2.1.below hb,h.2.2.2.2.trans (hb.mono h.2.2.2.2.size)⟩
theorem TrB.set5 {Z:Option Addr} {w0 w w':World} {b5 b7 m:Nat} {X Y:Array Value} {i:Inp} {v va:Value} {vs:List Value} (h:TrB Z w0 b5 b7 X Y i m v va vs w) {ds:Array Value} (h5:w.heap[b5]? = some (.cells ds 39 (0,0))) (hw:w0.heap.size < b5) (h7:b5 + 1 < b7) (k:Keep (fun j => j = b5) w w'):TrB Z w0 b5 b7 X Y i m v va vs w':=
  ⟨h.1.box h5 (by decide) (by omega) (by omega) k,(k.block _ (lt_of_block h.2.1) (by omega)).trans h.2.1,(k.block _ (lt_of_block h.2.2.1) (by omega)).trans h.2.2.1,h.2.2.2.1.keep k (fun j hj => by omega),h.2.2.2.2.trans (k.toBelow h.2.2.2.2.size (fun j hj => by omega))⟩
set_option maxRecDepth 100000 in
set_option maxHeartbeats 2000000 in
theorem rtrain_goodT (A:Option Addr) (c:Nat) (D:Option Addr) (cd:Nat) (T:Option Addr) (ct:Nat) (R:Option Addr) (cr:Nat) (i:Inp) (w:World) (h:InpRd w A c D T ct R i) (hg:GoodIn i) :
    Calls Tryz.prog 28 #[.agg (inpVals A c D cd T ct R cr i)] w (RTrainT T i w):=by
  have hgb:=hg.b
  have hb1:1 ≤ i.cfg.batch:=by have:=hg.c.w;have:=hg.c.ba;omega
  have hst:=hg.c.st
  have hcb:=hg.c.z.bound (k:=i.cfg.sizes.length - 1) (by have:=hg.c.z.1.1;omega)
  obtain ⟨s,hs⟩:∃ s:Nat,i.cfg.steps = (s:Int):=⟨i.cfg.steps.toNat,by omega⟩
  obtain ⟨bt,hbt⟩:∃ bt:Nat,i.cfg.batch = (bt:Int):=⟨i.cfg.batch.toNat,by omega⟩
  have hsT:i.cfg.steps.toNat = s:=by omega
  have Hsb:=Lib.hid (show s ≤ 1048576 by omega)
  have hbT:i.cfg.batch.toNat = bt:=by omega
  obtain ⟨n,hn⟩:∃ n,cnt i = n:=⟨_,rfl⟩
  have hnb:n ≤ 1048576:=by rw [← hn];exact hcb
  have hsl:i.start.length = n:=by rw [← hn];exact hg.s
  have hnbt:1 ≤ i.data.length / bt:=Nat.div_pos (by omega) (by omega)
  have hin:=fun w' (q:Below w.heap.size w w') => rinput_any A c D cd T ct R cr i w' (h.below q)
  rw [in_good.2 hg] at hin
  have hstart:=fun w' => rstart_any T n ct w' hnb
  have hsamp:=fun w' (q:Below w.heap.size w w') => rsamp14_any A c D cd T ct R cr i w' hg (h.r.below q) h.rl h.ru
  unfold RSamp14Is at hsamp
  have hbat:=fun k w' (A':Option Addr) c' (hk:k < s) (hA:SlRd rVec 1 w' A' (ordersN i.draws i.data.length (epI i))) => rbatch_any i.data.length bt s k (epI i) c' A' i.draws w' hA (by omega) (by omega) hgb.2 (by omega) hk (by unfold epI;rw [hsT,hbT])
  have hgr:=fun w' (q:Below w.heap.size w w') k P (hP:P.length = n) (wP:W64 P) Ap cp X cx (rP:Rd w' Ap (nums .i64 P)) (rX:Rd w' X (nums .i64 (batchN i.draws i.data.length bt k))) => rgrad14_any A c D cd T ct R cr i Ap X P (batchN i.draws i.data.length bt k) n cp cx w' (h.c.hr.below q) h.c.hc (h.d.below stays_ex q) hg rP hP hn wP rX (by rw [batchN_len _ hnbt];omega)
  simp only [batchN_len _ hnbt] at hgr
  have hrule:=fun w' => rule_any A c i.cfg w'
  have hnx:=fun w' P M g Ap Bp Gp ca cb cg (hP:P.length = n) (hM:M.length = n) (hg':g.length = n) (r1:Rd w' Ap (nums .i64 P)) (r2:Rd w' Bp (nums .i64 M)) (r3:Rd w' Gp (nums .i64 g)) (wM:W64 M) => rnext13_any i.cfg.rate i.cfg.mom i.cfg.shift Ap Bp Gp P M g n ca cb cg w' r1 r2 r3 hP hM hg' hnb wM h.ra h.rm
  have htl:=fun k => traj_len i hg.s k
  simp only [hn] at htl
  have htw:=fun k => traj_W64 i h.t.hw k
  have hstep:∀ k:Nat,traj i (k + 1) = (nextP i.cfg.rate i.cfg.mom i.cfg.shift (traj i k).1 (traj i k).2 (stepG i (traj i k).1 k),nextM i.cfg.mom i.cfg.shift (traj i k).2 (stepG i (traj i k).1 k)):=fun k => rfl
  have hgd:=fun k => batch_good hg k
  rw [hbT] at hgd
  have hsg:∀ P k,stepG i P k = gradAcc i P (pickL i.data (batchN i.draws i.data.length bt k)):=fun P k => by unfold stepG;rw [hbT]
  have HR:=Lib.hid h;have HG:=Lib.hid hg;have Hin:=Lib.hid hin;have Hstart:=Lib.hid hstart;have Hsamp:=Lib.hid hsamp;have Hbat:=Lib.hid hbat;have Hgr:=Lib.hid hgr;have Hrule:=Lib.hid hrule;have Hnx:=Lib.hid hnx;have Htl:=Lib.hid htl;have Htw:=Lib.hid htw;have Hstep:=Lib.hid hstep;have Hgd:=Lib.hid hgd;have Hsg:=Lib.hid hsg
  have Hs:=Lib.hid hs;have Hbt:=Lib.hid hbt;have HsT:=Lib.hid hsT;have Hn:=Lib.hid hn;have Hsl:=Lib.hid hsl
  clear h hg hin hstart hsamp hbat hgr hrule hnx htl htw hstep hgd hsg hgb hb1 hst hcb hbT hnbt
  have hbx:=blk_new w (inpVals A c D cd T ct R cr i) 29 rfl
  have hb0:Below w.heap.size w (w.alloc (.cells (inpVals A c D cd T ct R cr i) 29)):=(Below.refl _ w).alloc (Nat.le_refl _) _
  obtain ⟨W1,hW1⟩:∃ W1,W1 = w.alloc (.cells (inpVals A c D cd T ct R cr i) 29):=⟨_,rfl⟩
  rw [← hW1] at hb0 hbx
  have HB0:=Lib.hid hb0;have HX0:=Lib.hid hbx;clear hb0 hbx
  dsimp only [inpVals] at hW1
  rw [hsl,hs,hbt] at hW1
  have hin:=Hin.out W1 HB0.out
  dsimp only [inpVals] at hin
  rw [hsl,hs,hbt] at hin
  have Hin2:=Lib.hid hin;clear hin
  go_enter Tryz.func28,Tryz.ntmps28
  dsimp only [inpVals]
  rw [hsl,hs,hbt]
  clear hs hbt hsl hsT hn
  go_wp2_with fail
  rw [← hW1]
  clear hW1
  refine Hin2.out.mono ?_
  rintro e w2 ⟨rfl,hb2⟩
  have hB2:=HB0.out.trans (hb2.mono HB0.out.size)
  have hx2:=(hb2.block _ (lt_of_block HX0.out)).trans HX0.out
  have HB2:=Lib.hid hB2;have HX2:=Lib.hid hx2
  have hlx2:=lt_of_block hx2
  dsimp only [inpVals] at hx2
  rw [Hsl.out,Hs.out,Hbt.out] at hx2
  obtain ⟨⟨t0,t1,t2,t3,t4,t5,t6,t7,t8,t9,t10,t11,t12,t13,t14⟩,tf⟩:=bx15 hx2
  clear hB2 hb2 hx2 Hin2 HB0 HX0 W1
  go_wp2_with fail
  refine (Hstart.out w2).mono ?_
  rintro e w3 ⟨A0,rfl,ho3,hb3⟩
  have hB3:=HB2.out.trans (hb3.mono HB2.out.size)
  have hx3:=(hb3.block _ hlx2).trans HX2.out
  have hst0:RSt T w w3 [.slice T n ct,.slice A0 n n] (traj i 0):=by
    refine ⟨_,_,rfl,.inl ⟨ct,?_,?_,HR.out.t.hr,(HR.out.t.below hB3).hr⟩,.inr ?_,?_,?_,(Htw.out 0).1,(Htw.out 0).2⟩
    · rw [(Htl.out 0).1]
    · exact HR.out.t.hc
    · rw [(Htl.out 0).2]
      have:(traj i 0).2 = List.replicate n 0:=by unfold traj;rw [Hn.out]
      rw [this];exact own_base ho3 HB2.out.size
    · rw [(Htl.out 0).1];exact hnb
    · rw [(Htl.out 0).2];exact hnb
  clear t0 t1 t2 t3 t4 t5 t6 t7 t8 t9 t10 t11 t12 t13 t14 tf
  obtain ⟨b5,hb5⟩:∃ b5,w3.heap.size = b5:=⟨_,rfl⟩
  have hw5:w.heap.size < b5:=by rw [← hb5];exact Nat.lt_of_lt_of_le hlx2 hb3.size
  have hv4:=blk_new w3 #[.slice T n ct,.slice A0 n n] 39 hb5
  have hx4:=blk_alloc hx3 (.cells #[.slice T n ct,.slice A0 n n] 39)
  have hs4:=size_of_alloc hb5 (.cells #[.slice T n ct,.slice A0 n n] 39)
  have hB4:=hB3.alloc hB3.size (.cells #[.slice T n ct,.slice A0 n n] 39)
  have hst4:=hst0.below ((Below.refl w3.heap.size w3).alloc (Nat.le_refl _) (.cells #[.slice T n ct,.slice A0 n n] 39))
  obtain ⟨w4,hw4⟩:∃ w4,w4 = w3.alloc (.cells #[.slice T n ct,.slice A0 n n] 39):=⟨_,rfl⟩
  rw [← hw4] at hv4 hx4 hs4 hB4 hst4
  have hM5:=MapR.one (i:=i) (base:=b5 + 1) (by rw [hs4];exact Nat.le_refl _) hst4
  rw [hs4] at hM5
  have hv5:=blk_alloc hv4 (.cells #[.slice T n ct,.slice A0 n n] 39)
  have hx5:=blk_alloc hx4 (.cells #[.slice T n ct,.slice A0 n n] 39)
  have hB5:=hB4.alloc hB4.size (.cells #[.slice T n ct,.slice A0 n n] 39)
  have HS5:=Lib.hid (show b5 + 1 ≤ (w4.alloc (.cells #[.slice T n ct,.slice A0 n n] 39)).heap.size by rw [size_of_alloc hs4];omega)
  have hst5:=hst4.below ((Below.refl w4.heap.size w4).alloc (Nat.le_refl _) (.cells #[.slice T n ct,.slice A0 n n] 39))
  obtain ⟨w5,hw5e⟩:∃ w5,w5 = w4.alloc (.cells #[.slice T n ct,.slice A0 n n] 39):=⟨_,rfl⟩
  rw [← hw5e] at hM5 hv5 hx5 hB5 hst5 HS5
  have Hw5:=Lib.hid hw5e;have Hw4:=Lib.hid hw4;have Hb5:=Lib.hid hb5
  have HM5:=Lib.hid hM5;have HV5:=Lib.hid hv5;have HX5:=Lib.hid hx5;have HB5:=Lib.hid hB5;have HST5:=Lib.hid hst5;have HWW:=Lib.hid hw5
  have hlx:=lt_of_block hx3
  dsimp only [inpVals] at hx3
  rw [Hsl.out,Hs.out,Hbt.out] at hx3
  obtain ⟨⟨t0,t1,t2,t3,t4,t5,t6,t7,t8,t9,t10,t11,t12,t13,t14⟩,tf⟩:=bx15 hx3
  clear hst0 hv4 hx4 hs4 hB4 hst4 hM5 hv5 hx5 hB5 hst5 ho3 hB3 hw5e hw4 hb5 hw5 hb3 hx3 HX2 hlx2
  go_wp2_with fail
  rw [← Hw4.out,← Hw5.out,Hb5.out]
  have hsamp:=Hsamp.out w5 HB5.out
  dsimp only [inpVals] at hsamp
  rw [Hsl.out,Hs.out,Hbt.out] at hsamp
  refine hsamp.mono ?_
  clear hsamp Hw4 Hw5 Hb5 t0 t1 t2 t3 t4 t5 t6 t7 t8 t9 t10 t11 t12 t13 t14 tf Hstart Hsamp hlx HB2
  rintro e w6 ⟨A6,c6,rfl,⟨vs,hO6⟩,hb6⟩
  have hv6:=(hb6.block _ (lt_of_block HV5.out)).trans HV5.out
  have hx6:=(hb6.block _ (lt_of_block HX5.out)).trans HX5.out
  have hB6:=HB5.out.trans (hb6.mono HB5.out.size)
  have hM6:=HM5.out.below hb6
  have hst6:=HST5.out.below hb6
  obtain ⟨b7,hb7⟩:∃ b7,w6.heap.size = b7:=⟨_,rfl⟩
  have hy7:=blk_new w6 #[.int .i64 i.data.length,.int .i64 bt,.int .i64 s,.slice A6 (epI i) c6] 159 hb7
  have hv7:=blk_alloc hv6 (.cells #[.int .i64 i.data.length,.int .i64 bt,.int .i64 s,.slice A6 (epI i) c6] 159)
  have hx7:=blk_alloc hx6 (.cells #[.int .i64 i.data.length,.int .i64 bt,.int .i64 s,.slice A6 (epI i) c6] 159)
  have hB7:=hB6.alloc hB6.size (.cells #[.int .i64 i.data.length,.int .i64 bt,.int .i64 s,.slice A6 (epI i) c6] 159)
  have hbA:Below w6.heap.size w6 (w6.alloc (.cells #[.int .i64 i.data.length,.int .i64 bt,.int .i64 s,.slice A6 (epI i) c6] 159)):=(Below.refl _ _).alloc (Nat.le_refl _) _
  have hM7:=hM6.below hbA
  have hst7:=hst6.below hbA
  have hO7:=(hO6.base HS5.out).below hbA
  have h57:b5 + 1 < b7:=by
    obtain ⟨rows,q1,_⟩:=hM6
    rw [← hb7]
    exact (q1.lt (b5 + 1) rfl).2
  obtain ⟨w7,hw7⟩:∃ w7,w7 = w6.alloc (.cells #[.int .i64 i.data.length,.int .i64 bt,.int .i64 s,.slice A6 (epI i) c6] 159):=⟨_,rfl⟩
  rw [← hw7] at hy7 hv7 hx7 hB7 hM7 hst7 hO7
  have HY:=Lib.hid hy7;have HV:=Lib.hid hv7;have HX:=Lib.hid hx7;have HB:=Lib.hid hB7;have HM:=Lib.hid hM7;have HST:=Lib.hid hst7;have HO:=Lib.hid hO7;have H57:=Lib.hid h57;have Hw7:=Lib.hid hw7;have Hb7:=Lib.hid hb7
  have hlx6:=lt_of_block hx6
  dsimp only [inpVals] at hx6
  rw [Hsl.out,Hs.out,Hbt.out] at hx6
  obtain ⟨⟨t0,t1,t2,t3,t4,t5,t6,t7,t8,t9,t10,t11,t12,t13,t14⟩,tf⟩:=bx15 hx6
  clear hv6 hx6 hB6 hM6 hst6 hy7 hv7 hx7 hB7 hbA hM7 hst7 hO6 hO7 h57 hw7 hb7 hb6 HM5 HV5 HX5 HB5 HST5
  go_upto_region 7 with (fail)
  rw [← Hw7.out,Hb7.out]
  clear Hw7 Hb7 t0 t1 t2 t3 t4 t5 t6 t7 t8 t9 t10 t11 t12 t13 t14 tf hlx6 HS5 w2 w3 w4 w5 w6
  have H0:∃ (k:Nat) (u1 u2:Value),k ≤ s ∧ Value.int .i64 0 = .int .i64 (k:Int) ∧ w7.heap[b5]? = some (.cells #[u1,u2] 39 (0,0)) ∧ RSt T w w7 [u1,u2] (traj i k) ∧ TrB T w b5 b7 (inpVals A c D cd T ct R cr i) #[.int .i64 i.data.length,.int .i64 bt,.int .i64 s,.slice A6 (epI i) c6] i (k + 1) (.slice (some ⟨b5 + 1,0,none⟩) 1 1) (.slice A6 (epI i) c6) vs w7:=
    ⟨0,_,_,Nat.zero_le _,rfl,HV.out,HST.out,HM.out,HX.out,HY.out,HO.out,HB.out⟩
  have HH0:=Lib.hid H0
  clear H0 HV HST HM HX HY HO HB
  go_wp2_with fail
  go_loopw [6,8] (fun v x wr => ∃ (k:Nat) (u1 u2:Value),k ≤ s ∧ x = .int .i64 (k:Int) ∧ wr.heap[b5]? = some (.cells #[u1,u2] 39 (0,0)) ∧ RSt T w wr [u1,u2] (traj i k) ∧ TrB T w b5 b7 (inpVals A c D cd T ct R cr i) #[.int .i64 i.data.length,.int .i64 bt,.int .i64 s,.slice A6 (epI i) c6] i (k + 1) v (.slice A6 (epI i) c6) vs wr) (fun _ x _ => s - (intOf x).toNat)
  case atStart => exact HH0.out
  case round =>
    obtain ⟨k,u1,u2,hk,rfl,hv,hst,hT⟩:=hrel
    obtain ⟨Av,cv,rfl,_⟩:=hT.1.form
    have hx:=hT.2.1
    have hlx:=lt_of_block hx
    dsimp only [inpVals] at hx
    rw [Hsl.out,Hs.out,Hbt.out] at hx
    have HXr:=Lib.hid hx
    obtain ⟨⟨t0,t1,t2,t3,t4,t5,t6,t7,t8,t9,t10,t11,t12,t13,t14⟩,tf⟩:=bx15 hx
    have HT:=Lib.hid hT;have HV:=Lib.hid hv
    clear hx hT
    by_cases hlt:k < s
    · have hlti:(k:Int) < s:=by omega
      obtain ⟨_,_,e9,f1,f2,_⟩:=hst
      injection e9 with e9 e8;injection e8 with e8 _;subst e9;subst e8
      have l1:=(Htl.out k).1;have l2:=(Htl.out k).2
      obtain ⟨P1,d1,e1,hd1,rp⟩:=f1.form
      obtain ⟨M1,d2,e2,hd2,rm⟩:=f2.form
      rw [l1] at e1;rw [l2] at e2
      subst e1;subst e2
      have HF1:=Lib.hid f1;have HF2:=Lib.hid f2
      obtain ⟨PP,hPP⟩:∃ PP,(traj i k).1 = PP:=⟨_,rfl⟩
      obtain ⟨MM,hMM⟩:∃ MM,(traj i k).2 = MM:=⟨_,rfl⟩
      have hwP:=(Htw.out k).1;have hwM:=(Htw.out k).2
      rw [hPP] at rp l1 hwP;rw [hMM] at rm l2 hwM
      have hst1:=Hstep.out k
      rw [hPP,hMM,Hsg.out] at hst1
      have Hrp:=Lib.hid rp;have Hrm:=Lib.hid rm;have Hl1:=Lib.hid l1;have Hl2:=Lib.hid l2;have HwP:=Lib.hid hwP;have HwM:=Lib.hid hwM;have Hst1:=Lib.hid hst1
      obtain ⟨⟨p0,p1⟩,pf⟩:=bx2 hv
      have hy:=HT.out.2.2.1
      obtain ⟨⟨q0,q1,q2,q3⟩,qf⟩:=bx4 hy
      have hlv:=lt_of_block hv;have hly:=lt_of_block hy
      clear f1 f2 rp rm hv hd1 hd2 hPP hMM l1 l2 hwP hwM hst1 hy
      go_upto_region 10 with (fail)
      clear t0 t1 t2 t3 t4 t5 t6 t7 t8 t9 t10 t11 t12 t13 t14 tf
      have hSw:(fun w':World => w'.heap[w.heap.size]? = some (.cells #[.slice A i.cfg.sizes.length c,.int .i64 i.cfg.shift,.int .i64 i.cfg.rate,.int .i64 i.cfg.mom,.int .i64 i.cfg.workers,.int .i64 bt,.int .i64 i.cfg.micros,.int .i64 s,.int .i64 i.cfg.bucket,.int .i64 i.cfg.chunk,.int .i64 i.cfg.window,.int .i64 i.cfg.cap,.slice D i.data.length cd,.slice T n ct,.slice R i.draws.length cr] 29 (0,0)) ∧ w'.cell? ⟨b5,0,none⟩ = some (.slice P1 n d1) ∧ w'.cell? ⟨b7,0,none⟩ = some (.int .i64 i.data.length) ∧ w'.cell? ⟨b7,1,none⟩ = some (.int .i64 bt) ∧ w'.cell? ⟨b7,2,none⟩ = some (.int .i64 s) ∧ w'.cell? ⟨b7,3,none⟩ = some (.slice A6 (epI i) c6)) wr.drew:=⟨HXr.out,p0,q0,q1,q2,q3⟩
      refine HA.g (fun w':World => w'.heap[w.heap.size]? = some (.cells #[.slice A i.cfg.sizes.length c,.int .i64 i.cfg.shift,.int .i64 i.cfg.rate,.int .i64 i.cfg.mom,.int .i64 i.cfg.workers,.int .i64 bt,.int .i64 i.cfg.micros,.int .i64 s,.int .i64 i.cfg.bucket,.int .i64 i.cfg.chunk,.int .i64 i.cfg.window,.int .i64 i.cfg.cap,.slice D i.data.length cd,.slice T n ct,.slice R i.draws.length cr] 29 (0,0)) ∧ w'.cell? ⟨b5,0,none⟩ = some (.slice P1 n d1) ∧ w'.cell? ⟨b7,0,none⟩ = some (.int .i64 i.data.length) ∧ w'.cell? ⟨b7,1,none⟩ = some (.int .i64 bt) ∧ w'.cell? ⟨b7,2,none⟩ = some (.int .i64 s) ∧ w'.cell? ⟨b7,3,none⟩ = some (.slice A6 (epI i) c6)) ?_
      refine HA.t ?_ [0,1,2,3,4] hSw ?_
      refine HA.o 5 (fun K hK => ?_)
      have hbat:=Hbat.out k wr.drew A6 c6 hlt (HT.out.2.2.2.1.rd HG.out.b.2)
      go_simp
      refine hbat.mono ?_
      clear hbat
      rintro e w3 ⟨A3,c3,rfl,_,hr3,hb3⟩
      have hS3:=And.intro ((hb3.block _ hlx).trans hSw.1) (And.intro (cell_below hb3 hSw.2.1) (And.intro (cell_below hb3 hSw.2.2.1) (And.intro (cell_below hb3 hSw.2.2.2.1) (And.intro (cell_below hb3 hSw.2.2.2.2.1) (cell_below hb3 hSw.2.2.2.2.2)))))
      have HB3:=Lib.hid (show Below wr.heap.size wr w3 from (Below.refl _ wr).drew.trans hb3)
      have HR3:=Lib.hid hr3
      clear hb3 hSw hr3
      dsimp only
      refine hK.out _ _ hS3 (fun hSw => ?_)
      clear hK K hS3
      refine HA.o 6 (fun K hK => ?_)
      have hgr:=Hgr.out w3 (HT.out.2.2.2.2.trans (HB3.out.mono HT.out.2.2.2.2.size)) k PP Hl1.out HwP.out P1 d1 A3 c3 (Hrp.out.below HB3.out) HR3.out
      unfold RGrad14Is at hgr
      dsimp only [inpVals] at hgr
      rw [Hsl.out,Hs.out,Hbt.out,Hn.out] at hgr
      go_simp
      refine hgr.mono ?_
      clear hgr
      rintro e w4 ⟨hb4,hres⟩
      obtain ⟨_,v4,rfl,ho4⟩ | ⟨hbad,_⟩:=hres
      · obtain ⟨A4,c4,rfl,_⟩:=own_form ho4
        have hS4:=And.intro ((hb4.block _ (lt_of_block hSw.1)).trans hSw.1) (And.intro (cell_below hb4 hSw.2.1) (And.intro (cell_below hb4 hSw.2.2.1) (And.intro (cell_below hb4 hSw.2.2.2.1) (And.intro (cell_below hb4 hSw.2.2.2.2.1) (cell_below hb4 hSw.2.2.2.2.2)))))
        have hB4:=HB3.out.trans (hb4.mono HB3.out.size)
        have HO4:=Lib.hid (Rd.own ho4)
        have HT4:=Lib.hid (HT.out.below hB4)
        have HP4:=Lib.hid (Hrp.out.below hB4);have HM4:=Lib.hid (Hrm.out.below hB4)
        have HV4:=Lib.hid ((hB4.block _ hlv).trans HV.out)
        have HX4:=Lib.hid ((hB4.block _ hlx).trans HXr.out)
        clear hb4 hSw ho4 hB4
        dsimp only
        refine hK.out _ _ hS4 (fun hSw => ?_)
        clear hK K hS4
        refine HA.t ?_ [7,8,9,10,11] hSw ?_
        refine HA.d ?_
        clear hSw p0 p1 pf q0 q1 q2 q3 qf HV HXr hlv hlx hly
        have hv4:=HV4.out
        obtain ⟨⟨p0,p1⟩,pf⟩:=bx2 hv4
        have hlv:=lt_of_block hv4
        clear hv4
        go_upto_region 11 with (fail)
        have hSw:(fun w':World => w'.heap[w.heap.size]? = some (.cells #[.slice A i.cfg.sizes.length c,.int .i64 i.cfg.shift,.int .i64 i.cfg.rate,.int .i64 i.cfg.mom,.int .i64 i.cfg.workers,.int .i64 bt,.int .i64 i.cfg.micros,.int .i64 s,.int .i64 i.cfg.bucket,.int .i64 i.cfg.chunk,.int .i64 i.cfg.window,.int .i64 i.cfg.cap,.slice D i.data.length cd,.slice T n ct,.slice R i.draws.length cr] 29 (0,0)) ∧ w'.cell? ⟨b5,0,none⟩ = some (.slice P1 n d1) ∧ w'.cell? ⟨b5,1,none⟩ = some (.slice M1 n d2)) w4.drew:=⟨HX4.out,p0,p1⟩
        refine XA.g 9 (fun w':World => w'.heap[w.heap.size]? = some (.cells #[.slice A i.cfg.sizes.length c,.int .i64 i.cfg.shift,.int .i64 i.cfg.rate,.int .i64 i.cfg.mom,.int .i64 i.cfg.workers,.int .i64 bt,.int .i64 i.cfg.micros,.int .i64 s,.int .i64 i.cfg.bucket,.int .i64 i.cfg.chunk,.int .i64 i.cfg.window,.int .i64 i.cfg.cap,.slice D i.data.length cd,.slice T n ct,.slice R i.draws.length cr] 29 (0,0)) ∧ w'.cell? ⟨b5,0,none⟩ = some (.slice P1 n d1) ∧ w'.cell? ⟨b5,1,none⟩ = some (.slice M1 n d2)) ?_
        refine XA.t ?_ [0,1,3,4] hSw ?_
        refine XA.o 2 (fun K hK => ?_)
        have hrule:=Hrule.out w4.drew
        dsimp only [cfgVals] at hrule
        rw [Hs.out,Hbt.out] at hrule
        go_simp
        refine hrule.mono ?_
        clear hrule
        rintro e w5 ⟨rfl,hb5⟩
        have hS5:=And.intro ((hb5.block _ (lt_of_block hSw.1)).trans hSw.1) (And.intro (cell_below hb5 hSw.2.1) (cell_below hb5 hSw.2.2))
        have HB5:=Lib.hid (show Below w4.heap.size w4 w5 from (Below.refl _ w4).drew.trans hb5)
        clear hb5 hSw
        dsimp only
        refine hK.out _ _ hS5 (fun hSw => ?_)
        clear hK K hS5
        refine XA.o 5 (fun K hK => ?_)
        have hnx:=Hnx.out w5 PP MM (gradAcc i PP (pickL i.data (batchN i.draws i.data.length bt k))) P1 M1 A4 d1 d2 c4 Hl1.out Hl2.out (by rw [gradAcc_len];exact Hn.out) (HP4.out.below HB5.out) (HM4.out.below HB5.out) (HO4.out.below HB5.out) HwM.out
        go_simp
        refine hnx.mono ?_
        clear hnx
        rintro e w6 ⟨N1,e1,N2,e2,rfl,h1,h2,hb6⟩
        have hS6:=And.intro ((hb6.block _ (lt_of_block hSw.1)).trans hSw.1) (And.intro (cell_below hb6 hSw.2.1) (cell_below hb6 hSw.2.2))
        have hB6:=HB5.out.trans (hb6.mono HB5.out.size)
        have hT6:=HT4.out.below hB6
        have hv6:=(hB6.block _ hlv).trans HV4.out
        have hz5:=Nat.le_trans hT6.2.2.2.2.size (Nat.le_refl _)
        have hz6:w.heap.size ≤ w5.heap.size:=Nat.le_trans HT4.out.2.2.2.2.size HB5.out.size
        have hst6:RSt T w w6 [.slice N1 n e1,.slice N2 n e2] (traj i (k + 1)):=by
          have l1:=(Htl.out (k + 1)).1;have l2:=(Htl.out (k + 1)).2
          have w1:=(Htw.out (k + 1)).1;have w2:=(Htw.out (k + 1)).2
          rw [Hst1.out] at l1 l2 w1 w2 ⊢
          exact ⟨_,_,rfl,.inr (by rw [l1];exact own_base h1 hz6),.inr (by rw [l2];exact own_base h2 hz6),by rw [l1];exact hnb,by rw [l2];exact hnb,w1,w2⟩
        obtain ⟨e7,k7⟩:=store2 w6 b5 (.slice N1 n e1) (.slice N2 n e2) hv6
        have hT7:=hT6.set5 hv6 HWW.out H57.out k7
        have hst7:=hst6.box hv6 (by decide) (by have:=HWW.out;omega) k7
        have HT7:=Lib.hid hT7;have HST7:=Lib.hid hst7;have HE7:=Lib.hid e7
        clear p0 p1 pf
        obtain ⟨⟨p0,p1⟩,pf⟩:=bx2 hv6
        have hlv6:=lt_of_block hv6
        clear hb6 hB6 hT6 hv6 hst6 e7 k7 hT7 hst7 h1 h2 hSw
        dsimp only
        refine hK.out _ _ hS6 (fun hSw => ?_)
        clear hK K hS6
        refine XA.t ?_ [6,7] hSw ?_
        refine XA.t0 ?_ [8] hSw ?_
        refine XA.e ?_
        simp only [List.drop_succ_cons,List.drop_zero]
        clear hSw
        go_upto_region 12 with (fail)
        have hT7:=HT7.out;have hst7:=HST7.out;have he7:=HE7.out
        clear HT7 HST7 HE7 p0 p1 pf hlv6 hlv HV4 HX4
        generalize (w6.setCell ⟨b5,0,none⟩ (.slice N1 n e1)).setCell ⟨b5,1,none⟩ (.slice N2 n e2) = w7 at hT7 hst7 he7 ⊢
        obtain ⟨⟨p0,p1⟩,pf⟩:=bx2 he7
        obtain ⟨rows,r1,r2,r3,r4⟩:=hT7.1
        have hbs:=hT7.2.2.2.2.size
        have hbs7:b5 + 1 ≤ w7.heap.size:=lt_of_block he7
        have R1:=Lib.hid r1;have R2:=Lib.hid r2;have R3:=Lib.hid r3;have R4:=Lib.hid r4;have HT7:=Lib.hid hT7;have HST7:=Lib.hid hst7;have HE7:=Lib.hid he7
        have hlv7:=lt_of_block he7
        have hkb:k + 1 + 1 ≤ 1048578:=by have:=Hsb.out;omega
        clear r1 r2 r3 r4 hT7 hst7 he7
        go_wp2_with (at_builtin;refine wpList_push et_rsts w7 rfl (.tmp 49) (.tmp 51) rfl (b5 + 1) (.slice Av (k + 1) cv) (k + 1) _ rfl R1.out [.slice N1 n e1,.slice N2 n e2] rfl rfl (by simp [Value.oneCell']) (by omega) (by unfold maxLen;omega) hbs7 ?_)
        intro g8 c8 w8 ho8 hb8 hg8
        have hM8:=MapR.push R1.out R2.out R3.out R4.out (by have:=HWW.out;omega) HST7.out ho8 hg8
        have hst8:=HST7.out.pushed R1.out (by have:=HWW.out;omega) hg8 (by decide)
        have hT8:TrB T w b5 b7 (inpVals A c D cd T ct R cr i) #[.int .i64 i.data.length,.int .i64 bt,.int .i64 s,.slice A6 (epI i) c6] i (k + 1 + 1) (.slice (some ⟨g8,0,none⟩) (k + 1 + 1) c8) (.slice A6 (epI i) c6) vs w8:=
          ⟨hM8,(hb8.block _ (by have:=HWW.out;omega)).trans HT7.out.2.1,(block_past HT7.out.2.2.1 R1.out hg8 (by decide)),HT7.out.2.2.2.1.pushed R1.out hg8 (by decide) (by decide),HT7.out.2.2.2.2.trans (hb8.mono (by have:=HWW.out;omega))⟩
        have hv8:=(hb8.block b5 (by omega)).trans HE7.out
        have HT8:=Lib.hid hT8;have HST8:=Lib.hid hst8;have HV8:=Lib.hid hv8
        clear ho8 hb8 hg8 hM8 hst8 hT8 hv8 p0 p1 pf
        go_wp2_with fail
        go_roundw
        case rel => exact ⟨k + 1,_,_,hlt,by go_num,HV8.out,HST8.out,HT8.out⟩
        case measure => exact nx_m2 hlt
      · exact absurd (Hgd.out k) hbad
    · obtain rfl:s = k:=by omega
      clear hst
      go_wp2_with fail
      go_ret2
      exact ⟨HT.out.2.2.2.2,_,_,_,by rw [HsT.out];rfl,by rw [HsT.out];exact HT.out.1,by have:=HWW.out;omega⟩
end Go.Proofs.YtaccfnffmbndhaaGreat
namespace Go.Proofs.YtaccfnffmbndhaaGreat
open Go.RowKit Go.ChangeShapes Go.WideShapes Go.ChangeAt
theorem lonS_rc {i:Inp} (hg:i.start.length = cnt i) (st:Nat):∀ y ∈ (lonS i st).rc,y.1.length = i.start.length ∧ y.2.length = i.start.length:=fun y hy => by
  simp only [lonS,trajL,List.mem_map] at hy
  obtain ⟨k,_,rfl⟩:=hy
  have:=traj_len i hg k
  exact ⟨this.1.trans hg.symm,this.2.trans hg.symm⟩
set_option maxRecDepth 100000 in
set_option maxHeartbeats 4000000 in
theorem MachineAlone_walk {H:Type} {enc:TypeId × Value → H} {base:Nat} {v0:Value} {d0:DataW H} {p0:List MemPlace} (W:World)
    (o0:Value.okWide Tryz.prog W .any base 29 v0) (h0:DataW.Trod enc Tryz.prog W 0 (fun _ => true) true 29 v0 d0 p0) (z0:Light Tryz.prog 29 d0) :
    Calls Tryz.prog 6 #[v0] W fun e w' => e = .returned (.bool true) ∧ Below W.heap.size W w':=by
  obtain ⟨A,c,D,cd,T,ct,R,cr,i,rfl,hI,_⟩:=open_inp o0 h0 z0
  clear o0 h0 z0
  have hfew:=fun w' (q:Below W.heap.size W w') => rfew21_any A c D cd T ct R cr i w' (hI.below q)
  have hin:=fun w' (q:Below W.heap.size W w') (hs:SmallI i) => rinput_any A c D cd T ct R cr i w' ((hI.below q).rd hs)
  have hrd:=fun w' (q:Below W.heap.size W w') (hs:SmallI i) => (hI.below q).rd hs
  unfold FewI at hfew
  obtain ⟨z,hz⟩:∃ z,inCode i = z:=⟨_,rfl⟩
  simp only [hz] at hin
  obtain ⟨W1,hW1⟩:∃ W1,W.alloc (.cells (inpVals A c D cd T ct R cr i) 29) = W1:=⟨_,rfl⟩
  have hx:W1.heap[W.heap.size]? = some (.cells (inpVals A c D cd T ct R cr i) 29 (0,0)):=by rw [← hW1];exact heap_alloc_new W _
  have hB:Below W.heap.size W W1:=by rw [← hW1];exact (br W).alloc (Nat.le_refl _) _
  have HX0:=Lib.hid hx;have HW1:=Lib.hid hW1;have Hfew:=Lib.hid hfew;have Hin:=Lib.hid hin;have Hrd:=Lib.hid hrd;have HB:=Lib.hid hB;have Hz:=Lib.hid hz
  have Hx:=Lib.hid (fun w' (q:Below W1.heap.size W1 w') => hB.trans (q.mono hB.size));have Hal:=Lib.hid (fun w' (q:Below W1.heap.size W1 w') => (alive21_any w').mono fun e w'' (h:_ ∧ Below _ _ _) => (⟨h.1,hB.trans ((q.trans (h.2.mono q.size)).mono hB.size)⟩:e = .returned (.bool true) ∧ Below W.heap.size W w''))
  clear hfew hin hrd hI hx hB hW1 hz
  go_enter Tryz.func6,Tryz.ntmps6
  go_wp2_with (refine wpl_load (inpVals A c D cd T ct R cr i) (b:=W.heap.size) (by rw [HW1.out];exact HX0.out) rt_inp rfl rfl rfl rfl ?_)
  rw [HW1.out]
  have q1:=br W1
  refine (Hfew.out W1 (Hx.out _ q1)).mono ?_
  rintro e w2 ⟨⟨b,rfl,hbs⟩,k2⟩
  have q2:=bt q1 k2
  clear q1 k2
  rcases bool_ft b with rfl | rfl
  · clear hbs
    go_wp2_with fail
    refine (Hal.out _ q2).mono ?_
    rintro e w3 ⟨rfl,h3⟩
    go_wp2_with fail
    go_ret
    exact ⟨rfl,h3⟩
  have Hs:=Lib.hid (hbs rfl)
  clear hbs
  go_wp2_with (refine wpl_ldg (inpVals A c D cd T ct R cr i) (sb HX0.out _ q2) rt_inp rfl rfl rfl rfl ?_)
  refine (Hin.out w2 (Hx.out _ q2) Hs.out.1).mono ?_
  rintro e w3 ⟨rfl,k3⟩
  have q3:=bt q2 k3
  clear q2 k3
  by_cases hz0:z ≠ 0
  · have hzb:(z != 0) = true:=by rw [bne_iff_ne];exact hz0
    go_wp2_with fail
    refine (Hal.out _ q3).mono ?_
    rintro e w4 ⟨rfl,h4⟩
    go_wp2_with fail
    go_ret
    exact ⟨rfl,h4⟩
  obtain rfl:z = 0:=by omega
  clear hz0
  have hsm0:=Hs.out.sm Hz.out
  have h3:=sb HX0.out _ q3
  have h3':=h3
  dsimp only [inpVals] at h3'
  have c4:=cell_of_row w3 W.heap.size 4 _ _ _ h3'
  have f4:=frozen_of_row w3 W.heap.size 4 _ _ h3'
  have l3:=lt_of_block h3
  have h5:(w3.setCell ⟨W.heap.size,4,none⟩ (.int .i64 1)).heap[W.heap.size]? = some (.cells (inpVals A c D cd T ct R cr (oneI i)) 29 (0,0)):=by
    dsimp only [inpVals,oneI]
    exact ss h3'
  have B5:Below W.heap.size W (w3.setCell ⟨W.heap.size,4,none⟩ (.int .i64 1)):=(Hx.out _ q3).setCell (Nat.le_refl _) _
  have hI5:=oneI_rd (Hrd.out _ B5 Hs.out.1)
  have hsm1:=oneI_sm hsm0
  have hW0:(plnI (oneI i)).W = 1:=rfl
  have H3:=Lib.hid h3;have H5:=Lib.hid h5;have BB5:=Lib.hid B5;have HI5:=Lib.hid hI5;have HSM1:=Lib.hid hsm1;have HWone:=Lib.hid hW0
  clear h3 h3' h5 B5 hI5 hsm1 hsm0 hW0 q3
  go_upto_region 4 with (fail)
  obtain ⟨W5,hW5⟩:∃ W5,w3.setCell ⟨W.heap.size,4,none⟩ (.int .i64 1) = W5:=⟨_,rfl⟩
  obtain ⟨i1,hi1⟩:∃ i1,oneI i = i1:=⟨_,rfl⟩
  rw [hW5,hi1] at H5 HI5
  rw [hW5] at BB5 ⊢
  rw [hi1] at HSM1 HWone
  clear c4 f4 l3 hW5 hi1 H3
  have hs:=HSM1.out
  have hc:=hs.g.c
  have hnew:=mnew_good A c D cd T ct R cr i1 0 W5 HI5.out hs (by rw [HWone.out];decide)
  rw [show ((0:Nat):Int) = 0 from rfl] at hnew
  have hx5:=fun w' (q:Below W5.heap.size W5 w') => BB5.out.trans (q.mono BB5.out.size)
  have ew:(((plnI i1).W:Nat):Int) = i1.cfg.workers:=by have:=hc.w;simp only [plnI];omega
  have em:(((plnI i1).mi:Nat):Int) = i1.cfg.micros:=by have:=hc.mi;simp only [plnI];omega
  have eu:(((plnI i1).bu:Nat):Int) = i1.cfg.bucket:=by have:=hc.bu;simp only [plnI];omega
  have ec:(((plnI i1).ck:Nat):Int) = i1.cfg.chunk:=by have:=hc.ch;simp only [plnI];omega
  have ewi:(((plnI i1).wi:Nat):Int) = i1.cfg.window:=by have:=hc.wi;simp only [plnI];omega
  have en:(plnI i1).n = i1.start.length:=rfl
  have hplan:=fun w' => rplan21_any A i1.cfg.sizes.length c i1.cfg.shift i1.cfg.rate i1.cfg.mom i1.cfg.workers i1.cfg.batch i1.cfg.micros i1.cfg.steps i1.cfg.bucket i1.cfg.chunk i1.cfg.window i1.cfg.cap D i1.data.length cd T i1.start.length ct R i1.draws.length cr w'
  have hits:=fun w' => ritems_any (plnI i1) 0 0 (.slice A i1.cfg.sizes.length c) (.int .i64 i1.cfg.shift) (.int .i64 i1.cfg.rate) (.int .i64 i1.cfg.mom) (.int .i64 i1.cfg.batch) (.int .i64 i1.cfg.steps) (.int .i64 i1.cfg.cap) w' hs.ok (by have:=hc.bu;simp only [plnI];omega) (by have:=hc.wi;simp only [plnI];omega) (by rw [HWone.out];decide)
  simp only [ew,em,eu,ec,ewi,en,show ((0:Nat):Int) = 0 from rfl] at hits
  have hil:=itemsL_le hs.ok 0 0
  obtain ⟨IL,hIL⟩:∃ IL,(itemsL (plnI i1) 0 0).length = IL:=⟨_,rfl⟩
  obtain ⟨sn,hsn⟩:∃ sn:Nat,i1.cfg.steps.toNat = sn:=⟨_,rfl⟩
  have hst:i1.cfg.steps = (sn:Int):=by have:=hc.st;omega
  have hsn6:sn ≤ 6:=by have:=hs.s;omega
  rw [hIL] at hil
  have hN:IL * sn ≤ 48000000:=by have:=Nat.mul_le_mul hil hsn6;omega
  have hmul:IntKind.i64.wrap ((IL:Int) * i1.cfg.steps) = ((IL * sn:Nat):Int):=by rw [hst,IntWalk.i64_in _ (by rw [← Int.natCast_mul];omega)];push_cast;rfl
  obtain ⟨N,hN'⟩:∃ N,IL * sn = N:=⟨_,rfl⟩
  rw [hN'] at hN hmul
  simp only [hIL] at hits
  have HN:=Lib.hid hnew;have Hx5:=Lib.hid hx5;have Hplan:=Lib.hid hplan;have Hits:=Lib.hid hits;have HIL:=Lib.hid hIL;have Hsn:=Lib.hid hsn;have HNe:=Lib.hid hN';have Hmul:=Lib.hid hmul;have HNb:=Lib.hid hN;have Hsn6:=Lib.hid hsn6
  clear hnew hx5 hplan hits hIL hsn hN' hmul hN hst hil hsn6 ew em eu ec ewi en hc hs Hx Hal
  go_wp2_with (refine wpl_load (inpVals A c D cd T ct R cr i1) (b:=W.heap.size) H5.out rt_inp rfl rfl rfl rfl ?_)
  refine HN.out.mono ?_
  rintro e w6 ⟨b,a,rfl,k6,hmu,hmach⟩
  have hM:=hmach (fun _ => False) w6 (Keep.refl _ _) (fun _ h => h.elim)
  have HM:=Lib.hid hM;have HMu:=Lib.hid hmu;have K6:=Lib.hid k6
  clear hM hmu k6 hmach HN
  go_upto_region 7 with (fail)
  have q7:Below W5.heap.size W5 w6.drew:=K6.out.drew
  have t7:∀ w',Below W5.heap.size W5 w' → w'.cell? ⟨W.heap.size,7,none⟩ = some (.int .i64 i1.cfg.steps):=fun w' q => cell_of_row w' W.heap.size 7 _ _ _ (sb H5.out w' q)
  have tl:=sl H5.out
  have hmul:=Hmul.out
  refine HA.g (fun w':World => Below W5.heap.size W5 w') ?_
  refine HA.ld 0 (inpVals A c D cd T ct R cr i1) (fun w' q => sb H5.out w' q) rt_inp q7 ?_
  refine HA.t ?_ [4,5,6] q7 ?_
  refine HA.c 1 (Hplan.out _) ?_
  rintro e w7 ⟨rfl,k7⟩
  have q8:=bt q7 k7
  refine ⟨_,rfl,q8,fun _ => ?_⟩
  refine HA.c 2 (Hits.out _) ?_
  rintro e w8 ⟨v8,rfl,o8,k8⟩
  obtain ⟨A8,c8,rfl,_⟩:=own_form o8
  have q9:=bt q8 k8
  refine ⟨_,rfl,q9,fun _ => ?_⟩
  refine HA.t ?_ [3,7,8] q9 ?_
  refine HA.d ?_
  have hM8:=HM.out.below (bt (bt (br w6).drew k7) k8) (fun _ _ h => h)
  have HM8:=Lib.hid hM8;have Q9:=Lib.hid q9
  clear hM8 q7 q8 q9 k7 k8 o8 t7 tl hmul
  go_wp2_with fail
  go_loopw [35] (fun v wr => ∃ (k:Nat) (a:MAd) (m:Mst),k ≤ N ∧ v = .int .i64 k ∧ LonK i1 k m ∧ MachAt (fun _ => False) wr b i1 0 a m ∧ (∀ k,Mut b a k → W5.heap.size ≤ k) ∧ Below W5.heap.size W5 wr) (fun v _ => N - (intOf v).toNat)
  case atStart => exact ⟨0,a,mst0 i1,Nat.zero_le _,rfl,LonK.zero HSM1.out,HM8.out,HMu.out,Q9.out⟩
  case round =>
    obtain ⟨k,a',m,hk,rfl,hlon,hmr,hmut,qr⟩:=hrel
    by_cases hlt:k < N
    · have hki:(k:Int) < N:=by omega
      have hwk:IntKind.i64.wrap ((k:Int) + 1) = ((k + 1:Nat):Int):=by have:=HNb.out;rw [IntWalk.i64_in _ (by omega)];push_cast;rfl
      obtain ⟨y,hy,hok,hnx⟩:=hlon.next HSM1.out HWone.out (by rw [HIL.out,Hsn.out,HNe.out];exact hlt)
      have Hdo:=Lib.hid (mdo_lone hmr (fun _ _ h => h) (fun _ _ h => h) HSM1.out hy hok HI5.out.ra HI5.out.rm none none)
      have Hnx:=Lib.hid hnx;have Hmut:=Lib.hid hmut;have QR:=Lib.hid qr
      clear hlon hmr hmut qr hy hok hnx
      go_wp2_with fail
      refine Hdo.out.mono ?_
      rintro e w10 ⟨rfl,a2,m1,hM2,-,-,hk2,hmu2,rfl⟩
      have HM2:=Lib.hid hM2;have HMu2:=Lib.hid (fun j (hj:Mut b a2 j) => (hmu2 j hj).elim (Hmut.out j) (Nat.le_trans QR.out.size));have Q10:=Lib.hid (QR.out.trans (hk2.toBelow QR.out.size (fun j hj => hj.elim (Hmut.out j) False.elim)))
      clear hM2 hk2 hmu2
      go_wp2_with fail
      go_roundw
      case rel => exact ⟨k + 1,a2,_,by omega,by go_num,Hnx.out,HM2.out,HMu2.out,Q10.out⟩
      case measure => simp [intOf];omega
    · obtain rfl:k = N:=by omega
      have hki:¬ (k:Int) < k:=by omega
      obtain rfl:=LonK.done (by rw [HIL.out,Hsn.out,HNe.out];exact hlon)
      obtain ⟨V,rfl⟩:∃ V:World,V = wr:=⟨_,rfl⟩
      have hrt:=rtrain_goodT A c D cd T ct R cr i1 V (HI5.out.below qr) HSM1.out.g
      have HRT:=Lib.hid hrt;have HMr:=Lib.hid hmr;have QR:=Lib.hid qr
      clear hlon hmr hmut qr hrt
      go_wp2_with (refine wpl_load (inpVals A c D cd T ct R cr i1) (sb H5.out _ QR.out) rt_inp rfl rfl rfl rfl ?_)
      refine HRT.out.mono ?_
      rintro e w11 ⟨k11,A11,c11,bs,rfl,r11,-⟩
      have s11:=r11.rd
      rw [Hsn.out] at s11 ⊢
      have S11:=Lib.hid s11;have K11:=Lib.hid k11
      clear s11 k11 r11
      go_wp2_with fail
      refine (alive21_any w11).mono ?_
      rintro e w12 ⟨rfl,k12⟩
      have hM12:=HMr.out.below (bt K11.out k12) (fun _ _ h => h)
      have hend:=mdo_end hM12 (by show (curL i1 0 i1.cfg.steps.toNat).length ≤ 0;unfold curL;rw [if_neg (by omega)];exact Nat.le_refl _) (.pointer none) (.pointer none)
      have HM12:=Lib.hid hM12;have Hend:=Lib.hid hend;have K12:=Lib.hid k12
      clear hM12 hend k12
      go_wp2_with fail
      refine Hend.out.mono ?_
      rintro e w13 ⟨rfl,k13⟩
      have hM13:=HM12.out.below k13 (fun _ _ h => h)
      have htr:=mtraj_any hM13 (lonS_rc HSM1.out.g.s _) HSM1.out.n (by show (trajL i1 (i1.cfg.steps.toNat + 1)).length ≤ 100;rw [trajL_len,Hsn.out];have:=Hsn6.out;omega)
      have erc:(lonS i1 i1.cfg.steps.toNat).rc = trajL i1 (sn + 1):=by rw [Hsn.out];rfl
      rw [erc] at htr
      have Htr:=Lib.hid htr;have K13:=Lib.hid k13
      clear htr hM13 k13 erc
      go_wp2_with fail
      refine Htr.out.mono ?_
      rintro e w14 ⟨v14,rfl,s14,k14⟩
      obtain ⟨A14,c14,rfl,_⟩:=s14.form
      have hbk:=backs_any A14 (trajL i1 (sn + 1)) c14 w14 s14.rd (by rw [trajL_len];have:=Hsn6.out;omega)
      have Hbk:=Lib.hid hbk;have K14:=Lib.hid k14
      clear hbk s14 k14
      rw [trajL_len] at Hbk ⊢
      go_wp2_with fail
      refine Hbk.out.mono ?_
      rintro e w15 ⟨A15,c15,rfl,s15,k15⟩
      have k1115:=bt (bt (bt K12.out K13.out) K14.out) k15
      have hsm:=stall_any A15 A11 (trajL i1 (sn + 1)) (trajL i1 (sn + 1)) c15 c11 w15 s15 (S11.out.below stays_ex k1115) (by rw [trajL_len];have:=Hsn6.out;omega) (by rw [trajL_len];have:=Hsn6.out;omega)
      simp only [trajL_len,decide_true] at hsm
      have Hsm:=Lib.hid hsm;have K15:=Lib.hid k15
      clear hsm s15 k15 k1115
      go_wp2_with fail
      refine Hsm.out.mono ?_
      rintro e w16 ⟨rfl,k16⟩
      have Q16:=Lib.hid (Hx5.out _ (bt (bt (bt (bt (bt (bt QR.out K11.out) K12.out) K13.out) K14.out) K15.out) k16))
      go_wp2_with fail
      go_ret
      exact ⟨rfl,Q16.out⟩
end Go.Proofs.YtaccfnffmbndhaaGreat
