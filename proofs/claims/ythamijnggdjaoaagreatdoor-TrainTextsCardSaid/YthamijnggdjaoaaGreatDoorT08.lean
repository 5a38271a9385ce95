/- The reference's Train of a right input. A run of package serial: New, State, Steps. serial.New where the input is right. mat.New. The walk of net.New. Run.each: a function is called for some examples. Regions that draw their order, where two or three steps may come up. Whole structs, loaded and stored by rows: nothing is opened cell by cell. Free calls and allocs in a region that draws its order, in one loop. No condition. -/
import Derived.Test.YthamijnggdjaoaaGreatDoorT01
import Derived.Test.YthamijnggdjaoaaGreatDoorT07
import Derived.Test.YthamijnggdjaoaaGreatDoorT06
import Derived.Test.YthamijnggdjaoaaGreatDoorT05
import Derived.Test.YthamijnggdjaoaaGreatDoorT02
import Derived.Test.YthamijnggdjaoaaGreatDoorT04
import Derived.Deep.DeepCutAuto
import Derived.Deep.MidRow
set_option linter.unusedSimpArgs false
set_option linter.unusedVariables false
namespace Go.Proofs.YthamijnggdjaoaaGreatDoor
open Go.RowKit
theorem OrdI.pushed {l:List Int} {n B k:Nat} {v:Value} {vs:List Value} {w w':World} {e size m base:Nat} {u:Value} {xs:List Value} (h:OrdI l n B k v vs w) (hv:w.ownsRow base e size u m xs) (hg:w.grownBy w' u.ownBlock) (h1:e ≠ 22) (h2:e ≠ 3):OrdI l n B k v vs w':=
  ⟨own_pushed h.1 hv hg h1,fun j hj => by obtain ⟨A',c',k1,k2,k3⟩:=h.2 j hj;exact ⟨A',c',k1,k2,own_pushed k3 hv hg h2⟩⟩
theorem block_past {W W':World} {b:Nat} {cs:Array Value} {t e:TypeId} {sg:Nat × Nat} (h:W.heap[b]? = some (.cells cs t sg)) {base size k:Nat} {v:Value} {xs:List Value} (hr:W.ownsRow base e size v k xs) (hg:W.grownBy W' v.ownBlock) (hte:t ≠ e):W'.heap[b]? = some (.cells cs t sg):=
  (hg.block b (lt_of_block h) (block_notrow h hte hr)).trans h
def TrB (Z:Option Addr) (w0:World) (b5 b7:Nat) (X Y:Array Value) (i:Inp) (m:Nat) (v va:Value) (vs:List Value) (w:World):Prop:=MapR Z w0 (b5 + 1) w i m v ∧ w.heap[w0.heap.size]? = some (.cells X 29 (0,0)) ∧ w.heap[b7]? = some (.cells Y 153 (0,0)) ∧ OrdI i.draws i.data.length (b5 + 1) (epI i) va vs w ∧ Below w0.heap.size w0 w
theorem TrB.below {Z:Option Addr} {w0 w w':World} {b5 b7 m:Nat} {X Y:Array Value} {i:Inp} {v va:Value} {vs:List Value} (h:TrB Z w0 b5 b7 X Y i m v va vs w) (hb:Below w.heap.size w w'):TrB Z w0 b5 b7 X Y i m v va vs w':=
  ⟨h.1.below hb,(hb.block _ (lt_of_block h.2.1)).trans h.2.1,(hb.block _ (lt_of_block h.2.2.1)).trans h.2.2.1,h.2.2.2.1.below hb,h.2.2.2.2.trans (hb.mono h.2.2.2.2.size)⟩
theorem TrB.set5 {Z:Option Addr} {w0 w w':World} {b5 b7 m:Nat} {X Y:Array Value} {i:Inp} {v va:Value} {vs:List Value} (h:TrB Z w0 b5 b7 X Y i m v va vs w) {ds:Array Value} (h5:w.heap[b5]? = some (.cells ds 84 (0,0))) (hw:w0.heap.size < b5) (h7:b5 + 1 < b7) (k:Keep (fun j => j = b5) w w'):TrB Z w0 b5 b7 X Y i m v va vs w':=
  ⟨h.1.box h5 (by decide) (by omega) (by omega) k,(k.block _ (lt_of_block h.2.1) (by omega)).trans h.2.1,(k.block _ (lt_of_block h.2.2.1) (by omega)).trans h.2.2.1,h.2.2.2.1.keep k (fun j hj => by omega),h.2.2.2.2.trans (k.toBelow h.2.2.2.2.size (fun j hj => by omega))⟩
set_option maxRecDepth 100000 in
set_option maxHeartbeats 2000000 in
theorem rtrain_goodT (A:Option Addr) (c:Nat) (D:Option Addr) (cd:Nat) (T:Option Addr) (ct:Nat) (R:Option Addr) (cr:Nat) (i:Inp) (w:World) (h:InpRd w A c D T ct R i) (hg:GoodIn i) :
    Calls Tryz.prog 25 #[.agg (inpVals A c D cd T ct R cr i)] w (RTrainT T i w):=by
  have hgb:=hg.b
  have hb1:1 ≤ i.cfg.batch:=by have:=hg.c.w;have:=hg.c.ba;omega
  have hst:=hg.c.st
  have hcb:=hg.c.z.bound (k:=i.cfg.sizes.length - 1) (by have:=hg.c.z.1.1;omega)
  obtain ⟨s,hs⟩:∃ s:Nat,i.cfg.steps = (s:Int):=⟨i.cfg.steps.toNat,by omega⟩
  obtain ⟨bt,hbt⟩:∃ bt:Nat,i.cfg.batch = (bt:Int):=⟨i.cfg.batch.toNat,by omega⟩
  have hsT:i.cfg.steps.toNat = s:=by omega
  have Hsb:=Lib.hid (show s ≤ 1048576 by omega)
  have hbT:i.cfg.batch.toNat = bt:=by omega
  obtain ⟨n,hn⟩:∃ n,cnt i = n:=⟨_,rfl⟩
  have hnb:n ≤ 1048576:=by rw [← hn];exact hcb
  have hsl:i.start.length = n:=by rw [← hn];exact hg.s
  have hnbt:1 ≤ i.data.length / bt:=Nat.div_pos (by omega) (by omega)
  have hin:=fun w' (q:Below w.heap.size w w') => rinput_any A c D cd T ct R cr i w' (h.below q)
  rw [in_good.2 hg] at hin
  have hstart:=fun w' => rstart_any T n ct w' hnb
  have hsamp:=fun w' (q:Below w.heap.size w w') => rsamp14_any A c D cd T ct R cr i w' hg (h.r.below q) h.rl h.ru
  unfold RSamp14Is at hsamp
  have hbat:=fun k w' (A':Option Addr) c' (hk:k < s) (hA:SlRd rVec 1 w' A' (ordersN i.draws i.data.length (epI i))) => rbatch_any i.data.length bt s k (epI i) c' A' i.draws w' hA (by omega) (by omega) hgb.2 (by omega) hk (by unfold epI;rw [hsT,hbT])
  have hgr:=fun w' (q:Below w.heap.size w w') k P (hP:P.length = n) (wP:W64 P) Ap cp X cx (rP:Rd w' Ap (nums .i64 P)) (rX:Rd w' X (nums .i64 (batchN i.draws i.data.length bt k))) => rgrad14_any A c D cd T ct R cr i Ap X P (batchN i.draws i.data.length bt k) n cp cx w' (h.c.hr.below q) h.c.hc (h.d.below stays_ex q) hg rP hP hn wP rX (by rw [batchN_len _ hnbt];omega)
  simp only [batchN_len _ hnbt] at hgr
  have hrule:=fun w' => rule_any A c i.cfg w'
  have hnx:=fun w' P M g Ap Bp Gp ca cb cg (hP:P.length = n) (hM:M.length = n) (hg':g.length = n) (r1:Rd w' Ap (nums .i64 P)) (r2:Rd w' Bp (nums .i64 M)) (r3:Rd w' Gp (nums .i64 g)) (wM:W64 M) => rnext13_any i.cfg.rate i.cfg.mom i.cfg.shift Ap Bp Gp P M g n ca cb cg w' r1 r2 r3 hP hM hg' hnb wM h.ra h.rm
  have htl:=fun k => traj_len i hg.s k
  simp only [hn] at htl
  have htw:=fun k => traj_W64 i h.t.hw k
  have hstep:∀ k:Nat,traj i (k + 1) = (nextP i.cfg.rate i.cfg.mom i.cfg.shift (traj i k).1 (traj i k).2 (stepG i (traj i k).1 k),nextM i.cfg.mom i.cfg.shift (traj i k).2 (stepG i (traj i k).1 k)):=fun k => rfl
  have hgd:=fun k => batch_good hg k
  rw [hbT] at hgd
  have hsg:∀ P k,stepG i P k = gradAcc i P (pickL i.data (batchN i.draws i.data.length bt k)):=fun P k => by unfold stepG;rw [hbT]
  have HR:=Lib.hid h;have HG:=Lib.hid hg;have Hin:=Lib.hid hin;have Hstart:=Lib.hid hstart;have Hsamp:=Lib.hid hsamp;have Hbat:=Lib.hid hbat;have Hgr:=Lib.hid hgr;have Hrule:=Lib.hid hrule;have Hnx:=Lib.hid hnx;have Htl:=Lib.hid htl;have Htw:=Lib.hid htw;have Hstep:=Lib.hid hstep;have Hgd:=Lib.hid hgd;have Hsg:=Lib.hid hsg
  have Hs:=Lib.hid hs;have Hbt:=Lib.hid hbt;have HsT:=Lib.hid hsT;have Hn:=Lib.hid hn;have Hsl:=Lib.hid hsl
  clear h hg hin hstart hsamp hbat hgr hrule hnx htl htw hstep hgd hsg hgb hb1 hst hcb hbT hnbt
  have hbx:=blk_new w (inpVals A c D cd T ct R cr i) 29 rfl
  have hb0:Below w.heap.size w (w.alloc (.cells (inpVals A c D cd T ct R cr i) 29)):=(Below.refl _ w).alloc (Nat.le_refl _) _
  obtain ⟨W1,hW1⟩:∃ W1,W1 = w.alloc (.cells (inpVals A c D cd T ct R cr i) 29):=⟨_,rfl⟩
  rw [← hW1] at hb0 hbx
  have HB0:=Lib.hid hb0;have HX0:=Lib.hid hbx;clear hb0 hbx
  dsimp only [inpVals] at hW1
  rw [hsl,hs,hbt] at hW1
  have hin:=Hin.out W1 HB0.out
  dsimp only [inpVals] at hin
  rw [hsl,hs,hbt] at hin
  have Hin2:=Lib.hid hin;clear hin
  go_enter Tryz.func25,Tryz.ntmps25
  dsimp only [inpVals]
  rw [hsl,hs,hbt]
  clear hs hbt hsl hsT hn
  go_wp2_with fail
  rw [← hW1]
  clear hW1
  refine Hin2.out.mono ?_
  rintro e w2 ⟨rfl,hb2⟩
  have hB2:=HB0.out.trans (hb2.mono HB0.out.size)
  have hx2:=(hb2.block _ (lt_of_block HX0.out)).trans HX0.out
  have HB2:=Lib.hid hB2;have HX2:=Lib.hid hx2
  have hlx2:=lt_of_block hx2
  dsimp only [inpVals] at hx2
  rw [Hsl.out,Hs.out,Hbt.out] at hx2
  obtain ⟨⟨t0,t1,t2,t3,t4,t5,t6,t7,t8,t9,t10,t11,t12,t13,t14⟩,tf⟩:=bx15 hx2
  clear hB2 hb2 hx2 Hin2 HB0 HX0 W1
  go_wp2_with fail
  refine (Hstart.out w2).mono ?_
  rintro e w3 ⟨A0,rfl,ho3,hb3⟩
  have hB3:=HB2.out.trans (hb3.mono HB2.out.size)
  have hx3:=(hb3.block _ hlx2).trans HX2.out
  have hst0:RSt T w w3 [.slice T n ct,.slice A0 n n] (traj i 0):=by
    refine ⟨_,_,rfl,.inl ⟨ct,?_,?_,HR.out.t.hr,(HR.out.t.below hB3).hr⟩,.inr ?_,?_,?_,(Htw.out 0).1,(Htw.out 0).2⟩
    · rw [(Htl.out 0).1]
    · exact HR.out.t.hc
    · rw [(Htl.out 0).2]
      have:(traj i 0).2 = List.replicate n 0:=by unfold traj;rw [Hn.out]
      rw [this];exact own_base ho3 HB2.out.size
    · rw [(Htl.out 0).1];exact hnb
    · rw [(Htl.out 0).2];exact hnb
  clear t0 t1 t2 t3 t4 t5 t6 t7 t8 t9 t10 t11 t12 t13 t14 tf
  obtain ⟨b5,hb5⟩:∃ b5,w3.heap.size = b5:=⟨_,rfl⟩
  have hw5:w.heap.size < b5:=by rw [← hb5];exact Nat.lt_of_lt_of_le hlx2 hb3.size
  have hv4:=blk_new w3 #[.slice T n ct,.slice A0 n n] 84 hb5
  have hx4:=blk_alloc hx3 (.cells #[.slice T n ct,.slice A0 n n] 84)
  have hs4:=size_of_alloc hb5 (.cells #[.slice T n ct,.slice A0 n n] 84)
  have hB4:=hB3.alloc hB3.size (.cells #[.slice T n ct,.slice A0 n n] 84)
  have hst4:=hst0.below ((Below.refl w3.heap.size w3).alloc (Nat.le_refl _) (.cells #[.slice T n ct,.slice A0 n n] 84))
  obtain ⟨w4,hw4⟩:∃ w4,w4 = w3.alloc (.cells #[.slice T n ct,.slice A0 n n] 84):=⟨_,rfl⟩
  rw [← hw4] at hv4 hx4 hs4 hB4 hst4
  have hM5:=MapR.one (i:=i) (base:=b5 + 1) (by rw [hs4];exact Nat.le_refl _) hst4
  rw [hs4] at hM5
  have hv5:=blk_alloc hv4 (.cells #[.slice T n ct,.slice A0 n n] 84)
  have hx5:=blk_alloc hx4 (.cells #[.slice T n ct,.slice A0 n n] 84)
  have hB5:=hB4.alloc hB4.size (.cells #[.slice T n ct,.slice A0 n n] 84)
  have HS5:=Lib.hid (show b5 + 1 ≤ (w4.alloc (.cells #[.slice T n ct,.slice A0 n n] 84)).heap.size by rw [size_of_alloc hs4];omega)
  have hst5:=hst4.below ((Below.refl w4.heap.size w4).alloc (Nat.le_refl _) (.cells #[.slice T n ct,.slice A0 n n] 84))
  obtain ⟨w5,hw5e⟩:∃ w5,w5 = w4.alloc (.cells #[.slice T n ct,.slice A0 n n] 84):=⟨_,rfl⟩
  rw [← hw5e] at hM5 hv5 hx5 hB5 hst5 HS5
  have Hw5:=Lib.hid hw5e;have Hw4:=Lib.hid hw4;have Hb5:=Lib.hid hb5
  have HM5:=Lib.hid hM5;have HV5:=Lib.hid hv5;have HX5:=Lib.hid hx5;have HB5:=Lib.hid hB5;have HST5:=Lib.hid hst5;have HWW:=Lib.hid hw5
  have hlx:=lt_of_block hx3
  dsimp only [inpVals] at hx3
  rw [Hsl.out,Hs.out,Hbt.out] at hx3
  obtain ⟨⟨t0,t1,t2,t3,t4,t5,t6,t7,t8,t9,t10,t11,t12,t13,t14⟩,tf⟩:=bx15 hx3
  clear hst0 hv4 hx4 hs4 hB4 hst4 hM5 hv5 hx5 hB5 hst5 ho3 hB3 hw5e hw4 hb5 hw5 hb3 hx3 HX2 hlx2
  go_wp2_with fail
  rw [← Hw4.out,← Hw5.out,Hb5.out]
  have hsamp:=Hsamp.out w5 HB5.out
  dsimp only [inpVals] at hsamp
  rw [Hsl.out,Hs.out,Hbt.out] at hsamp
  refine hsamp.mono ?_
  clear hsamp Hw4 Hw5 Hb5 t0 t1 t2 t3 t4 t5 t6 t7 t8 t9 t10 t11 t12 t13 t14 tf Hstart Hsamp hlx HB2
  rintro e w6 ⟨A6,c6,rfl,⟨vs,hO6⟩,hb6⟩
  have hv6:=(hb6.block _ (lt_of_block HV5.out)).trans HV5.out
  have hx6:=(hb6.block _ (lt_of_block HX5.out)).trans HX5.out
  have hB6:=HB5.out.trans (hb6.mono HB5.out.size)
  have hM6:=HM5.out.below hb6
  have hst6:=HST5.out.below hb6
  obtain ⟨b7,hb7⟩:∃ b7,w6.heap.size = b7:=⟨_,rfl⟩
  have hy7:=blk_new w6 #[.int .i64 i.data.length,.int .i64 bt,.int .i64 s,.slice A6 (epI i) c6] 153 hb7
  have hv7:=blk_alloc hv6 (.cells #[.int .i64 i.data.length,.int .i64 bt,.int .i64 s,.slice A6 (epI i) c6] 153)
  have hx7:=blk_alloc hx6 (.cells #[.int .i64 i.data.length,.int .i64 bt,.int .i64 s,.slice A6 (epI i) c6] 153)
  have hB7:=hB6.alloc hB6.size (.cells #[.int .i64 i.data.length,.int .i64 bt,.int .i64 s,.slice A6 (epI i) c6] 153)
  have hbA:Below w6.heap.size w6 (w6.alloc (.cells #[.int .i64 i.data.length,.int .i64 bt,.int .i64 s,.slice A6 (epI i) c6] 153)):=(Below.refl _ _).alloc (Nat.le_refl _) _
  have hM7:=hM6.below hbA
  have hst7:=hst6.below hbA
  have hO7:=(hO6.base HS5.out).below hbA
  have h57:b5 + 1 < b7:=by
    obtain ⟨rows,q1,_⟩:=hM6
    rw [← hb7]
    exact (q1.lt (b5 + 1) rfl).2
  obtain ⟨w7,hw7⟩:∃ w7,w7 = w6.alloc (.cells #[.int .i64 i.data.length,.int .i64 bt,.int .i64 s,.slice A6 (epI i) c6] 153):=⟨_,rfl⟩
  rw [← hw7] at hy7 hv7 hx7 hB7 hM7 hst7 hO7
  have HY:=Lib.hid hy7;have HV:=Lib.hid hv7;have HX:=Lib.hid hx7;have HB:=Lib.hid hB7;have HM:=Lib.hid hM7;have HST:=Lib.hid hst7;have HO:=Lib.hid hO7;have H57:=Lib.hid h57;have Hw7:=Lib.hid hw7;have Hb7:=Lib.hid hb7
  have hlx6:=lt_of_block hx6
  dsimp only [inpVals] at hx6
  rw [Hsl.out,Hs.out,Hbt.out] at hx6
  obtain ⟨⟨t0,t1,t2,t3,t4,t5,t6,t7,t8,t9,t10,t11,t12,t13,t14⟩,tf⟩:=bx15 hx6
  clear hv6 hx6 hB6 hM6 hst6 hy7 hv7 hx7 hB7 hbA hM7 hst7 hO6 hO7 h57 hw7 hb7 hb6 HM5 HV5 HX5 HB5 HST5
  go_upto_region 7 with (fail)
  rw [← Hw7.out,Hb7.out]
  clear Hw7 Hb7 t0 t1 t2 t3 t4 t5 t6 t7 t8 t9 t10 t11 t12 t13 t14 tf hlx6 HS5 w2 w3 w4 w5 w6
  have H0:∃ (k:Nat) (u1 u2:Value),k ≤ s ∧ Value.int .i64 0 = .int .i64 (k:Int) ∧ w7.heap[b5]? = some (.cells #[u1,u2] 84 (0,0)) ∧ RSt T w w7 [u1,u2] (traj i k) ∧ TrB T w b5 b7 (inpVals A c D cd T ct R cr i) #[.int .i64 i.data.length,.int .i64 bt,.int .i64 s,.slice A6 (epI i) c6] i (k + 1) (.slice (some ⟨b5 + 1,0,none⟩) 1 1) (.slice A6 (epI i) c6) vs w7:=
    ⟨0,_,_,Nat.zero_le _,rfl,HV.out,HST.out,HM.out,HX.out,HY.out,HO.out,HB.out⟩
  have HH0:=Lib.hid H0
  clear H0 HV HST HM HX HY HO HB
  go_wp2_with fail
  go_loopw [6,8] (fun v x wr => ∃ (k:Nat) (u1 u2:Value),k ≤ s ∧ x = .int .i64 (k:Int) ∧ wr.heap[b5]? = some (.cells #[u1,u2] 84 (0,0)) ∧ RSt T w wr [u1,u2] (traj i k) ∧ TrB T w b5 b7 (inpVals A c D cd T ct R cr i) #[.int .i64 i.data.length,.int .i64 bt,.int .i64 s,.slice A6 (epI i) c6] i (k + 1) v (.slice A6 (epI i) c6) vs wr) (fun _ x _ => s - (intOf x).toNat)
  case atStart => exact HH0.out
  case round =>
    obtain ⟨k,u1,u2,hk,rfl,hv,hst,hT⟩:=hrel
    obtain ⟨Av,cv,rfl,_⟩:=hT.1.form
    have hx:=hT.2.1
    have hlx:=lt_of_block hx
    dsimp only [inpVals] at hx
    rw [Hsl.out,Hs.out,Hbt.out] at hx
    have HXr:=Lib.hid hx
    obtain ⟨⟨t0,t1,t2,t3,t4,t5,t6,t7,t8,t9,t10,t11,t12,t13,t14⟩,tf⟩:=bx15 hx
    have HT:=Lib.hid hT;have HV:=Lib.hid hv
    clear hx hT
    by_cases hlt:k < s
    · have hlti:(k:Int) < s:=by omega
      obtain ⟨_,_,e9,f1,f2,_⟩:=hst
      injection e9 with e9 e8;injection e8 with e8 _;subst e9;subst e8
      have l1:=(Htl.out k).1;have l2:=(Htl.out k).2
      obtain ⟨P1,d1,e1,hd1,rp⟩:=f1.form
      obtain ⟨M1,d2,e2,hd2,rm⟩:=f2.form
      rw [l1] at e1;rw [l2] at e2
      subst e1;subst e2
      have HF1:=Lib.hid f1;have HF2:=Lib.hid f2
      obtain ⟨PP,hPP⟩:∃ PP,(traj i k).1 = PP:=⟨_,rfl⟩
      obtain ⟨MM,hMM⟩:∃ MM,(traj i k).2 = MM:=⟨_,rfl⟩
      have hwP:=(Htw.out k).1;have hwM:=(Htw.out k).2
      rw [hPP] at rp l1 hwP;rw [hMM] at rm l2 hwM
      have hst1:=Hstep.out k
      rw [hPP,hMM,Hsg.out] at hst1
      have Hrp:=Lib.hid rp;have Hrm:=Lib.hid rm;have Hl1:=Lib.hid l1;have Hl2:=Lib.hid l2;have HwP:=Lib.hid hwP;have HwM:=Lib.hid hwM;have Hst1:=Lib.hid hst1
      obtain ⟨⟨p0,p1⟩,pf⟩:=bx2 hv
      have hy:=HT.out.2.2.1
      obtain ⟨⟨q0,q1,q2,q3⟩,qf⟩:=bx4 hy
      have hlv:=lt_of_block hv;have hly:=lt_of_block hy
      clear f1 f2 rp rm hv hd1 hd2 hPP hMM l1 l2 hwP hwM hst1 hy
      go_upto_region 10 with (fail)
      clear t0 t1 t2 t3 t4 t5 t6 t7 t8 t9 t10 t11 t12 t13 t14 tf
      have hSw:(fun w':World => w'.heap[w.heap.size]? = some (.cells #[.slice A i.cfg.sizes.length c,.int .i64 i.cfg.shift,.int .i64 i.cfg.rate,.int .i64 i.cfg.mom,.int .i64 i.cfg.workers,.int .i64 bt,.int .i64 i.cfg.micros,.int .i64 s,.int .i64 i.cfg.bucket,.int .i64 i.cfg.chunk,.int .i64 i.cfg.window,.int .i64 i.cfg.cap,.slice D i.data.length cd,.slice T n ct,.slice R i.draws.length cr] 29 (0,0)) ∧ w'.cell? ⟨b5,0,none⟩ = some (.slice P1 n d1) ∧ w'.cell? ⟨b7,0,none⟩ = some (.int .i64 i.data.length) ∧ w'.cell? ⟨b7,1,none⟩ = some (.int .i64 bt) ∧ w'.cell? ⟨b7,2,none⟩ = some (.int .i64 s) ∧ w'.cell? ⟨b7,3,none⟩ = some (.slice A6 (epI i) c6)) wr.drew:=⟨HXr.out,p0,q0,q1,q2,q3⟩
      refine HA.g (fun w':World => w'.heap[w.heap.size]? = some (.cells #[.slice A i.cfg.sizes.length c,.int .i64 i.cfg.shift,.int .i64 i.cfg.rate,.int .i64 i.cfg.mom,.int .i64 i.cfg.workers,.int .i64 bt,.int .i64 i.cfg.micros,.int .i64 s,.int .i64 i.cfg.bucket,.int .i64 i.cfg.chunk,.int .i64 i.cfg.window,.int .i64 i.cfg.cap,.slice D i.data.length cd,.slice T n ct,.slice R i.draws.length cr] 29 (0,0)) ∧ w'.cell? ⟨b5,0,none⟩ = some (.slice P1 n d1) ∧ w'.cell? ⟨b7,0,none⟩ = some (.int .i64 i.data.length) ∧ w'.cell? ⟨b7,1,none⟩ = some (.int .i64 bt) ∧ w'.cell? ⟨b7,2,none⟩ = some (.int .i64 s) ∧ w'.cell? ⟨b7,3,none⟩ = some (.slice A6 (epI i) c6)) ?_
      refine HA.t ?_ [0,1,2,3,4] hSw ?_
      refine HA.o 5 (fun K hK => ?_)
      have hbat:=Hbat.out k wr.drew A6 c6 hlt (HT.out.2.2.2.1.rd HG.out.b.2)
      go_simp
      refine hbat.mono ?_
      clear hbat
      rintro e w3 ⟨A3,c3,rfl,_,hr3,hb3⟩
      have hS3:=And.intro ((hb3.block _ hlx).trans hSw.1) (And.intro (cell_below hb3 hSw.2.1) (And.intro (cell_below hb3 hSw.2.2.1) (And.intro (cell_below hb3 hSw.2.2.2.1) (And.intro (cell_below hb3 hSw.2.2.2.2.1) (cell_below hb3 hSw.2.2.2.2.2)))))
      have HB3:=Lib.hid (show Below wr.heap.size wr w3 from (Below.refl _ wr).drew.trans hb3)
      have HR3:=Lib.hid hr3
      clear hb3 hSw hr3
      dsimp only
      refine hK.out _ _ hS3 (fun hSw => ?_)
      clear hK K hS3
      refine HA.o 6 (fun K hK => ?_)
      have hgr:=Hgr.out w3 (HT.out.2.2.2.2.trans (HB3.out.mono HT.out.2.2.2.2.size)) k PP Hl1.out HwP.out P1 d1 A3 c3 (Hrp.out.below HB3.out) HR3.out
      unfold RGrad14Is at hgr
      dsimp only [inpVals] at hgr
      rw [Hsl.out,Hs.out,Hbt.out,Hn.out] at hgr
      go_simp
      refine hgr.mono ?_
      clear hgr
      rintro e w4 ⟨hb4,hres⟩
      obtain ⟨_,v4,rfl,ho4⟩ | ⟨hbad,_⟩:=hres
      · obtain ⟨A4,c4,rfl,_⟩:=own_form ho4
        have hS4:=And.intro ((hb4.block _ (lt_of_block hSw.1)).trans hSw.1) (And.intro (cell_below hb4 hSw.2.1) (And.intro (cell_below hb4 hSw.2.2.1) (And.intro (cell_below hb4 hSw.2.2.2.1) (And.intro (cell_below hb4 hSw.2.2.2.2.1) (cell_below hb4 hSw.2.2.2.2.2)))))
        have hB4:=HB3.out.trans (hb4.mono HB3.out.size)
        have HO4:=Lib.hid (Rd.own ho4)
        have HT4:=Lib.hid (HT.out.below hB4)
        have HP4:=Lib.hid (Hrp.out.below hB4);have HM4:=Lib.hid (Hrm.out.below hB4)
        have HV4:=Lib.hid ((hB4.block _ hlv).trans HV.out)
        have HX4:=Lib.hid ((hB4.block _ hlx).trans HXr.out)
        clear hb4 hSw ho4 hB4
        dsimp only
        refine hK.out _ _ hS4 (fun hSw => ?_)
        clear hK K hS4
        refine HA.t ?_ [7,8,9,10,11] hSw ?_
        refine HA.d ?_
        clear hSw p0 p1 pf q0 q1 q2 q3 qf HV HXr hlv hlx hly
        have hv4:=HV4.out
        obtain ⟨⟨p0,p1⟩,pf⟩:=bx2 hv4
        have hlv:=lt_of_block hv4
        clear hv4
        go_upto_region 11 with (fail)
        have hSw:(fun w':World => w'.heap[w.heap.size]? = some (.cells #[.slice A i.cfg.sizes.length c,.int .i64 i.cfg.shift,.int .i64 i.cfg.rate,.int .i64 i.cfg.mom,.int .i64 i.cfg.workers,.int .i64 bt,.int .i64 i.cfg.micros,.int .i64 s,.int .i64 i.cfg.bucket,.int .i64 i.cfg.chunk,.int .i64 i.cfg.window,.int .i64 i.cfg.cap,.slice D i.data.length cd,.slice T n ct,.slice R i.draws.length cr] 29 (0,0)) ∧ w'.cell? ⟨b5,0,none⟩ = some (.slice P1 n d1) ∧ w'.cell? ⟨b5,1,none⟩ = some (.slice M1 n d2)) w4.drew:=⟨HX4.out,p0,p1⟩
        refine XA.g 9 (fun w':World => w'.heap[w.heap.size]? = some (.cells #[.slice A i.cfg.sizes.length c,.int .i64 i.cfg.shift,.int .i64 i.cfg.rate,.int .i64 i.cfg.mom,.int .i64 i.cfg.workers,.int .i64 bt,.int .i64 i.cfg.micros,.int .i64 s,.int .i64 i.cfg.bucket,.int .i64 i.cfg.chunk,.int .i64 i.cfg.window,.int .i64 i.cfg.cap,.slice D i.data.length cd,.slice T n ct,.slice R i.draws.length cr] 29 (0,0)) ∧ w'.cell? ⟨b5,0,none⟩ = some (.slice P1 n d1) ∧ w'.cell? ⟨b5,1,none⟩ = some (.slice M1 n d2)) ?_
        refine XA.t ?_ [0,1,3,4] hSw ?_
        refine XA.o 2 (fun K hK => ?_)
        have hrule:=Hrule.out w4.drew
        dsimp only [cfgVals] at hrule
        rw [Hs.out,Hbt.out] at hrule
        go_simp
        refine hrule.mono ?_
        clear hrule
        rintro e w5 ⟨rfl,hb5⟩
        have hS5:=And.intro ((hb5.block _ (lt_of_block hSw.1)).trans hSw.1) (And.intro (cell_below hb5 hSw.2.1) (cell_below hb5 hSw.2.2))
        have HB5:=Lib.hid (show Below w4.heap.size w4 w5 from (Below.refl _ w4).drew.trans hb5)
        clear hb5 hSw
        dsimp only
        refine hK.out _ _ hS5 (fun hSw => ?_)
        clear hK K hS5
        refine XA.o 5 (fun K hK => ?_)
        have hnx:=Hnx.out w5 PP MM (gradAcc i PP (pickL i.data (batchN i.draws i.data.length bt k))) P1 M1 A4 d1 d2 c4 Hl1.out Hl2.out (by rw [gradAcc_len];exact Hn.out) (HP4.out.below HB5.out) (HM4.out.below HB5.out) (HO4.out.below HB5.out) HwM.out
        go_simp
        refine hnx.mono ?_
        clear hnx
        rintro e w6 ⟨N1,e1,N2,e2,rfl,h1,h2,hb6⟩
        have hS6:=And.intro ((hb6.block _ (lt_of_block hSw.1)).trans hSw.1) (And.intro (cell_below hb6 hSw.2.1) (cell_below hb6 hSw.2.2))
        have hB6:=HB5.out.trans (hb6.mono HB5.out.size)
        have hT6:=HT4.out.below hB6
        have hv6:=(hB6.block _ hlv).trans HV4.out
        have hz5:=Nat.le_trans hT6.2.2.2.2.size (Nat.le_refl _)
        have hz6:w.heap.size ≤ w5.heap.size:=Nat.le_trans HT4.out.2.2.2.2.size HB5.out.size
        have hst6:RSt T w w6 [.slice N1 n e1,.slice N2 n e2] (traj i (k + 1)):=by
          have l1:=(Htl.out (k + 1)).1;have l2:=(Htl.out (k + 1)).2
          have w1:=(Htw.out (k + 1)).1;have w2:=(Htw.out (k + 1)).2
          rw [Hst1.out] at l1 l2 w1 w2 ⊢
          exact ⟨_,_,rfl,.inr (by rw [l1];exact own_base h1 hz6),.inr (by rw [l2];exact own_base h2 hz6),by rw [l1];exact hnb,by rw [l2];exact hnb,w1,w2⟩
        obtain ⟨e7,k7⟩:=store2 w6 b5 (.slice N1 n e1) (.slice N2 n e2) hv6
        have hT7:=hT6.set5 hv6 HWW.out H57.out k7
        have hst7:=hst6.box hv6 (by decide) (by have:=HWW.out;omega) k7
        have HT7:=Lib.hid hT7;have HST7:=Lib.hid hst7;have HE7:=Lib.hid e7
        clear p0 p1 pf
        obtain ⟨⟨p0,p1⟩,pf⟩:=bx2 hv6
        have hlv6:=lt_of_block hv6
        clear hb6 hB6 hT6 hv6 hst6 e7 k7 hT7 hst7 h1 h2 hSw
        dsimp only
        refine hK.out _ _ hS6 (fun hSw => ?_)
        clear hK K hS6
        refine XA.t ?_ [6,7] hSw ?_
        refine XA.t0 ?_ [8] hSw ?_
        refine XA.e ?_
        simp only [List.drop_succ_cons,List.drop_zero]
        clear hSw
        go_upto_region 12 with (fail)
        have hT7:=HT7.out;have hst7:=HST7.out;have he7:=HE7.out
        clear HT7 HST7 HE7 p0 p1 pf hlv6 hlv HV4 HX4
        generalize (w6.setCell ⟨b5,0,none⟩ (.slice N1 n e1)).setCell ⟨b5,1,none⟩ (.slice N2 n e2) = w7 at hT7 hst7 he7 ⊢
        obtain ⟨⟨p0,p1⟩,pf⟩:=bx2 he7
        obtain ⟨rows,r1,r2,r3,r4⟩:=hT7.1
        have hbs:=hT7.2.2.2.2.size
        have hbs7:b5 + 1 ≤ w7.heap.size:=lt_of_block he7
        have R1:=Lib.hid r1;have R2:=Lib.hid r2;have R3:=Lib.hid r3;have R4:=Lib.hid r4;have HT7:=Lib.hid hT7;have HST7:=Lib.hid hst7;have HE7:=Lib.hid he7
        have hlv7:=lt_of_block he7
        have hkb:k + 1 + 1 ≤ 1048578:=by have:=Hsb.out;omega
        clear r1 r2 r3 r4 hT7 hst7 he7
        go_wp2_with (at_builtin;refine wpList_push et_rsts w7 rfl (.tmp 49) (.tmp 51) rfl (b5 + 1) (.slice Av (k + 1) cv) (k + 1) _ rfl R1.out [.slice N1 n e1,.slice N2 n e2] rfl rfl (by simp [Value.oneCell']) (by omega) (by unfold maxLen;omega) hbs7 ?_)
        intro g8 c8 w8 ho8 hb8 hg8
        have hM8:=MapR.push R1.out R2.out R3.out R4.out (by have:=HWW.out;omega) HST7.out ho8 hg8
        have hst8:=HST7.out.pushed R1.out (by have:=HWW.out;omega) hg8 (by decide)
        have hT8:TrB T w b5 b7 (inpVals A c D cd T ct R cr i) #[.int .i64 i.data.length,.int .i64 bt,.int .i64 s,.slice A6 (epI i) c6] i (k + 1 + 1) (.slice (some ⟨g8,0,none⟩) (k + 1 + 1) c8) (.slice A6 (epI i) c6) vs w8:=
          ⟨hM8,(hb8.block _ (by have:=HWW.out;omega)).trans HT7.out.2.1,(block_past HT7.out.2.2.1 R1.out hg8 (by decide)),HT7.out.2.2.2.1.pushed R1.out hg8 (by decide) (by decide),HT7.out.2.2.2.2.trans (hb8.mono (by have:=HWW.out;omega))⟩
        have hv8:=(hb8.block b5 (by omega)).trans HE7.out
        have HT8:=Lib.hid hT8;have HST8:=Lib.hid hst8;have HV8:=Lib.hid hv8
        clear ho8 hb8 hg8 hM8 hst8 hT8 hv8 p0 p1 pf
        go_wp2_with fail
        go_roundw
        case rel => exact ⟨k + 1,_,_,hlt,by go_num,HV8.out,HST8.out,HT8.out⟩
        case measure => exact nx_m2 hlt
      · exact absurd (Hgd.out k) hbad
    · obtain rfl:s = k:=by omega
      clear hst
      go_wp2_with fail
      go_ret2
      exact ⟨HT.out.2.2.2.2,_,_,_,by rw [HsT.out];rfl,by rw [HsT.out];exact HT.out.1,by have:=HWW.out;omega⟩
end Go.Proofs.YthamijnggdjaoaaGreatDoor
namespace Go.Proofs.YthamijnggdjaoaaGreatDoor
open Go.RowKit
def RunAt (w:World) (b:Nat) (i:Inp) (P M:List Int) (k:Nat):Prop:=∃ V F E ce S Ap cp Am cm,
  w.heap[b]? = some (.cells #[.pointer (some ⟨F,0,none⟩),.slice E i.data.length ce,.pointer (some ⟨S,0,none⟩),.int .i64 i.cfg.rate,.int .i64 i.cfg.mom,.int .i64 i.cfg.shift,.slice Ap (cnt i) cp,.slice Am (cnt i) cm,.int .i64 k] 292 (0,0)) ∧
  ShapeAt 123 V F i.cfg.sizes ∧ SlRd rEx 2 V E i.data ∧ SampAt V S i.data.length i.cfg.batch.toNat i.cfg.steps.toNat i.draws ∧ V.heap.size ≤ b ∧ Below V.heap.size V w ∧
  Rd w Ap (nums .i64 P) ∧ Rd w Am (nums .i64 M) ∧ P.length = cnt i ∧ M.length = cnt i ∧ W64 P ∧ W64 M ∧ (∀ a,Ap = some a → a.block ≠ b) ∧ (∀ a,Am = some a → a.block ≠ b) ∧ w.ownsRow 0 2 1 (.slice Ap (cnt i) cp) (cnt i) (nums .i64 P) ∧ w.ownsRow 0 2 1 (.slice Am (cnt i) cm) (cnt i) (nums .i64 M)
theorem RunAt.below {w w':World} {b k:Nat} {i:Inp} {P M:List Int} (h:RunAt w b i P M k) (hb:Below w.heap.size w w'):RunAt w' b i P M k:=by
  obtain ⟨V,F,E,ce,S,Ap,cp,Am,cm,h0,h1,h2,h3,h4,h5,h6,h7,h8,h9,h10,h11,h12,h13,h14,h15⟩:=h
  exact ⟨V,F,E,ce,S,Ap,cp,Am,cm,(hb.block b (lt_of_block h0)).trans h0,h1,h2,h3,h4,h5.trans (hb.mono h5.size),h6.below hb,h7.below hb,h8,h9,h10,h11,h12,h13,own_below h14 hb,own_below h15 hb⟩
theorem RunAt.grown {w w':World} {b k base n:Nat} {i:Inp} {P M:List Int} {e:TypeId} {v:Value} {xs:List Value} (h:RunAt w b i P M k) (hv:w.ownsRow base e 2 v n xs) (hb:Below base w w') (hg:w.grownBy w' v.ownBlock) (hbb:b < base) (he:e ≠ 2):RunAt w' b i P M k:=by
  obtain ⟨V,F,E,ce,S,Ap,cp,Am,cm,h0,h1,h2,h3,h4,h5,h6,h7,h8,h9,h10,h11,h12,h13,h14,h15⟩:=h
  have k1:=own_pushed h14 hv hg he
  have k2:=own_pushed h15 hv hg he
  exact ⟨V,F,E,ce,S,Ap,cp,Am,cm,(hb.block b hbb).trans h0,h1,h2,h3,h4,h5.trans (hb.mono (by omega)),Rd.own k1,Rd.own k2,h8,h9,h10,h11,h12,h13,k1,k2⟩
theorem RunAt.lt {w:World} {b k:Nat} {i:Inp} {P M:List Int} (h:RunAt w b i P M k):b < w.heap.size:=by
  obtain ⟨V,F,E,ce,S,Ap,cp,Am,cm,h0,_⟩:=h
  exact lt_of_block h0
def StateIs (n:Nat) (P M:List Int) (w:World) (e:Ending) (w':World):Prop:=∃ A1 c1 A2 c2,e = .returned (.agg #[.slice A1 n c1,.slice A2 n c2]) ∧ n ≤ c1 ∧ n ≤ c2 ∧ w'.ownsRow w.heap.size 2 1 (.slice A1 n c1) n (nums .i64 P) ∧ w'.ownsRow w.heap.size 2 1 (.slice A2 n c2) n (nums .i64 M) ∧
  (∀ j,(Value.slice A1 n c1).ownBlock = some j → (Value.slice A2 n c2).ownBlock ≠ some j) ∧ Below w.heap.size w w'
set_option maxRecDepth 100000 in
theorem state_any (b k:Nat) (i:Inp) (P M:List Int) (w:World) (h:RunAt w b i P M k) (hc:cnt i ≤ 1048576):Calls Tryz.prog 136 #[.pointer (some ⟨b,0,none⟩)] w (StateIs (cnt i) P M w):=by
  obtain ⟨V,F,E,ce,S,Ap,cp,Am,cm,h0,h1,h2,h3,h4,h5,h6,h7,h8,h9,h10,h11,h12,h13⟩:=h
  have hcl:=fun w' (q:Below w.heap.size w w') => stclone_any Ap Am (cnt i) cp cm P M w' (h6.below q) (h7.below q) h8 h9 hc
  unfold StateIs
  obtain ⟨n,hn⟩:∃ n,cnt i = n:=⟨_,rfl⟩
  rw [hn] at h0 hcl hc ⊢
  obtain ⟨⟨r0,r1,r2,r3,r4,r5,r6,r7,r8⟩,rf⟩:=bx9 h0
  have hl:=lt_of_block h0
  have Hcl:=Lib.hid hcl
  clear h0 h1 h2 h3 h4 h5 h6 h7 h8 h9 h10 h11 h12 h13 hn hcl
  go_enter Tryz.func136,Tryz.ntmps136
  go_wp2_with fail
  refine (Hcl.out _ ?_).mono ?_
  · (focus (repeat' (first | (with_reducible exact Below.refl _ _) | (with_reducible assumption) | (with_reducible refine Below.setCell ?_ ?_ _) | (with_reducible refine Below.alloc ?_ ?_ _) | (with_reducible refine below_drewN ?_ _) | (with_reducible refine Below.drew ?_) | (with_reducible exact Nat.le_refl _) | omega | (simp;done) | (simp;omega))))
  rintro e w1 ⟨A1,c1,A2,c2,rfl,hc1,hc2,ho1,ho2,hdis,hb1⟩
  have hz:w1.heap[w.heap.size]? = some (.cells #[.slice none 0 0,.slice none 0 0] 67 (0,0)):=(hb1.block w.heap.size (by simp)).trans (heap_alloc_new w _)
  have hB1:Below w.heap.size w w1:=((Below.refl _ w).alloc (Nat.le_refl _) _).trans (hb1.mono (by simp))
  have lz:=lt_of_block hz
  obtain ⟨⟨z0,z1⟩,zf⟩:=bx2 hz
  have Hz:=Lib.hid hz;have HB1:=Lib.hid hB1;have Hc1:=Lib.hid hc1;have Hc2:=Lib.hid hc2;have Ho1:=Lib.hid (own_base (base':=w.heap.size) ho1 (by simp));have Ho2:=Lib.hid (own_base (base':=w.heap.size) ho2 (by simp));have Hdis:=Lib.hid hdis
  clear hz hB1 hb1 hc1 hc2 ho1 ho2 hdis r0 r1 r2 r3 r4 r5 r6 r7 r8 rf
  go_wp2_with fail
  have e1:=heap_setCell_same w1 w.heap.size 0 _ _ (.slice A1 n c1) Hz.out
  have e2:=heap_setCell_same _ w.heap.size 1 _ _ (.slice A2 n c2) e1
  have e3:((w1.setCell ⟨w.heap.size,0,none⟩ (.slice A1 n c1)).setCell ⟨w.heap.size,1,none⟩ (.slice A2 n c2)).heap[w.heap.size]? = some (.cells #[.slice A1 n c1,.slice A2 n c2] 67 (0,0)):=by simpa using e2
  have hk:Keep (fun j => j = w.heap.size) w1 ((w1.setCell ⟨w.heap.size,0,none⟩ (.slice A1 n c1)).setCell ⟨w.heap.size,1,none⟩ (.slice A2 n c2)):=Keep.setCell (S:=fun j => j = w.heap.size) (Keep.setCell (S:=fun j => j = w.heap.size) (Keep.refl _ _) ⟨w.heap.size,0,none⟩ (.inr rfl) _) ⟨w.heap.size,1,none⟩ (.inr rfl) _
  obtain ⟨W9,hW9⟩:∃ W9,W9 = (w1.setCell ⟨w.heap.size,0,none⟩ (.slice A1 n c1)).setCell ⟨w.heap.size,1,none⟩ (.slice A2 n c2):=⟨_,rfl⟩
  rw [← hW9] at e3 hk ⊢
  obtain ⟨⟨x0,x1⟩,xf⟩:=bx2 e3
  have hp9:=hk.own Ho1.out (fun j hj e => block_notrow Hz.out (by decide) Ho1.out (by rw [hj,e]))
  have hm9:=hk.own Ho2.out (fun j hj e => block_notrow Hz.out (by decide) Ho2.out (by rw [hj,e]))
  exact bodyPost_ret (v:=.agg #[.slice A1 n c1,.slice A2 n c2]) (by simp [results,Tryz.results136,go_sem,x0,x1]) rfl ⟨A1,c1,A2,c2,rfl,Hc1.out,Hc2.out,hp9,hm9,Hdis.out,HB1.out.trans (hk.toBelow HB1.out.size (fun j hj => by omega))⟩
end Go.Proofs.YthamijnggdjaoaaGreatDoor
namespace Go.Proofs.YthamijnggdjaoaaGreatDoor
open Go.RowKit
def NewT (B:Nat) (w:World) (b:Nat) (i:Inp):Prop:=∃ V F E ce S Ap cp Am cm,
  w.heap[b]? = some (.cells #[.pointer (some ⟨F,0,none⟩),.slice E i.data.length ce,.pointer (some ⟨S,0,none⟩),.int .i64 i.cfg.rate,.int .i64 i.cfg.mom,.int .i64 i.cfg.shift,.slice Ap (cnt i) cp,.slice Am (cnt i) cm,.int .i64 (0:Nat)] 292 (0,0)) ∧
  ShapeAt 123 (topW B V) F i.cfg.sizes ∧ SlRd rEx 2 (topW B V) E i.data ∧ SampAt (topW B V) S i.data.length i.cfg.batch.toNat i.cfg.steps.toNat i.draws ∧ V.heap.size = b ∧ Below V.heap.size V w ∧ B ≤ b ∧
  i.start.length = cnt i ∧ W64 i.start ∧ W64 (List.replicate (cnt i) 0) ∧ (∀ a,Ap = some a → a.block ≠ b) ∧ (∀ a,Am = some a → a.block ≠ b) ∧ w.ownsRow B 2 1 (.slice Ap (cnt i) cp) (cnt i) (nums .i64 i.start) ∧ w.ownsRow B 2 1 (.slice Am (cnt i) cm) (cnt i) (nums .i64 (List.replicate (cnt i) 0))
theorem NewT.run {B b:Nat} {w w':World} {i:Inp} (h:NewT B w b i) (hk:Keep (fun j => j < B) w w'):RunAt w' b i i.start (List.replicate (cnt i) 0) 0:=by
  obtain ⟨V,F,E,ce,S,Ap,cp,Am,cm,h0,h1,h2,h3,h4,h5,h6,h7,h8,h9,h10,h11,h12,h13⟩:=h
  have hb:=lt_of_block h0
  have hs:=hk.size
  obtain ⟨U,hU⟩:∃ U:World,U = { w' with heap:=w'.heap.extract 0 b }:=⟨_,rfl⟩
  have u1:U.heap.size = b:=by rw [hU];simp;omega
  have u2:∀ k,k < b → w'.heap[k]? = U.heap[k]?:=fun k hk => by rw [hU];simp [Array.getElem?_extract];omega
  have u3:Agr B V U:=fun k hB hl => by
    rw [← u2 k (by omega),hk.block k (by omega) (by omega),h5.block k hl]
  have o1:=hk.own h12 fun j hj => by have:=(h12.lt j hj).1;omega
  have o2:=hk.own h13 fun j hj => by have:=(h13.lt j hj).1;omega
  exact ⟨U,F,E,ce,S,Ap,cp,Am,cm,(hk.block b hb (by omega)).trans h0,top_shape h1 u3,top_sl tops_ex h2 u3,top_samp h3 u3,by omega,⟨by rw [hU],by rw [hU],by rw [hU],by omega,fun k hk => u2 k (by omega)⟩,Rd.own o1,Rd.own o2,h7,by simp,h8,h9,h10,h11,own_base o1 (Nat.zero_le _),own_base o2 (Nat.zero_le _)⟩
set_option maxRecDepth 100000 in
set_option maxHeartbeats 4000000 in
theorem sernew_goodT (A:Option Addr) (c:Nat) (D:Option Addr) (cd:Nat) (T:Option Addr) (ct:Nat) (R:Option Addr) (cr:Nat) (i:Inp) (w:World) (h:InpRd w A c D T ct R i) (hgood:GoodIn i) :
    Calls Tryz.prog 135 #[.agg (inpVals A c D cd T ct R cr i)] w fun e w' => ∃ b,e = .returned (.tuple #[.pointer (some ⟨b,0,none⟩),.int .i64 0]) ∧ NewT w.heap.size w' b i ∧ w.heap.size ≤ b ∧ Below w.heap.size w w':=by
  have hin:=fun w' (q:Below w.heap.size w w') => input_any A c D cd T ct R cr i w' (h.below q)
  rw [in_good.2 hgood] at hin
  have hsn:=fun w' (q:Below w.heap.size w w') => snew_codeT A i.cfg.sizes c w' (h.c.hr.below q) h.c.hc h.c.hm
  have hcn:=hgood.c.z.bound (k:=i.cfg.sizes.length - 1) (by have:=hgood.c.z.1.1;omega)
  have hcnp:=cnt_pos hgood.c.z
  have hsl:=hgood.s
  have g1:=hgood.c.w;have g2:=hgood.c.ba;have g3:=hgood.c.st;have gb:=hgood.b;have gd:=hgood.d;have gz:=hgood.c.z
  unfold needN at gd
  have hsp:=fun w' (q:Below w.heap.size w w') => sampler_newT R i.draws cr i.data.length i.cfg.batch.toNat i.cfg.steps.toNat w' (h.r.below q) h.rl h.ru (by omega) (by omega) gb.2 (by omega) gd
  have hdc:=fun w' (q:Below w.heap.size w w') => dclone_anyT D i.data cd w' (h.d.below stays_ex q) h.dl
  have hst:=fun w' (q:Below w.heap.size w w') => start_any T (cnt i) ct i.start w' (h.t.hr.below q) hsl (by unfold cnt;exact hcn)
  have hw1:=h.t.hw
  have hrep:W64 (List.replicate (cnt i) 0):=fun k hk => by
    rw [nth_eq _ _ hk];simp
  unfold NewT
  clear h hgood hcn
  obtain ⟨CN,hCN⟩:∃ CN,cnt i = CN:=⟨_,rfl⟩
  rw [hCN] at hst hsl hcnp hrep
  simp only [hCN]
  obtain ⟨⟨sz,sh,ra,mo,wk,ba,mi,st,bu,ch,wi,ca⟩,data,start,draws⟩:=i
  dsimp only [inpVals] at *
  obtain ⟨bt,rfl⟩:∃ bt:Nat,ba = bt:=⟨ba.toNat,by omega⟩
  obtain ⟨sn,rfl⟩:∃ sn:Nat,st = sn:=⟨st.toNat,by omega⟩
  rw [Int.toNat_natCast,Int.toNat_natCast] at *
  obtain ⟨L,hL⟩:∃ L,sz.length = L:=⟨_,rfl⟩
  obtain ⟨N,hN⟩:∃ N,data.length = N:=⟨_,rfl⟩
  obtain ⟨M,hM⟩:∃ M,start.length = M:=⟨_,rfl⟩
  obtain ⟨Q,hQ⟩:∃ Q,draws.length = Q:=⟨_,rfl⟩
  rw [hM] at hsl
  subst hsl
  rw [hL] at hin hsn ⊢
  rw [hN] at hin hsp hdc ⊢
  rw [hM] at hin ⊢
  rw [hQ] at hin hsp ⊢
  have Hin:=Lib.hid hin;have Hsn:=Lib.hid hsn;have Hsp:=Lib.hid hsp;have Hdc:=Lib.hid hdc;have Hst:=Lib.hid hst;have HGZ:=Lib.hid gz;have HM:=Lib.hid hM;have HW:=Lib.hid hw1;have HRep:=Lib.hid hrep
  clear hin hsn hsp hdc hst hL hN hM hQ g1 g2 g3 gb gd gz hCN hw1 hrep
  go_enter Tryz.func135,Tryz.ntmps135
  go_wp2_with fail
  have hz:=heap_alloc_new w (.cells #[.slice A L c,.int .i64 sh,.int .i64 ra,.int .i64 mo,.int .i64 wk,.int .i64 bt,.int .i64 mi,.int .i64 sn,.int .i64 bu,.int .i64 ch,.int .i64 wi,.int .i64 ca,.slice D N cd,.slice T M ct,.slice R Q cr] 29)
  have hB:Below w.heap.size w (w.alloc (.cells #[.slice A L c,.int .i64 sh,.int .i64 ra,.int .i64 mo,.int .i64 wk,.int .i64 bt,.int .i64 mi,.int .i64 sn,.int .i64 bu,.int .i64 ch,.int .i64 wi,.int .i64 ca,.slice D N cd,.slice T M ct,.slice R Q cr] 29)):=(Below.refl _ w).alloc (Nat.le_refl _) _
  refine (Hin.out _ hB).mono ?_
  rintro e w1 ⟨rfl,hb1⟩
  have hz1:=(hb1.block _ (lt_of_block hz)).trans hz
  have HB:=Lib.hid (hB.trans (hb1.mono hB.size))
  obtain ⟨⟨z0,z1,z2,z3,z4,z5,z6,z7,z8,z9,z10,z11,z12,z13,z14⟩,zf⟩:=bx15 hz1
  have lz:=lt_of_block hz1
  have HZ:=Lib.hid hz1
  clear hz hB hb1 hz1
  go_wp2_with fail
  have hB2:=HB.out.alloc HB.out.size (.cells #[.slice A L c,.int .i64 sh,.int .i64 ra,.int .i64 mo,.int .i64 wk,.int .i64 bt,.int .i64 mi,.int .i64 sn,.int .i64 bu,.int .i64 ch,.int .i64 wi,.int .i64 ca] 24)
  have hz2:=(Below.heap_alloc w1 (.cells #[.slice A L c,.int .i64 sh,.int .i64 ra,.int .i64 mo,.int .i64 wk,.int .i64 bt,.int .i64 mi,.int .i64 sn,.int .i64 bu,.int .i64 ch,.int .i64 wi,.int .i64 ca] 24) _ (lt_of_block HZ.out)).trans HZ.out
  have hy2:=heap_alloc_new w1 (.cells #[.slice A L c,.int .i64 sh,.int .i64 ra,.int .i64 mo,.int .i64 wk,.int .i64 bt,.int .i64 mi,.int .i64 sn,.int .i64 bu,.int .i64 ch,.int .i64 wi,.int .i64 ca] 24)
  refine (Hsn.out _ hB2).mono ?_
  rintro e w3 ⟨hb3,hs⟩
  obtain ⟨F,rfl,hF⟩:∃ S,e = .returned (.tuple #[.pointer (some ⟨S,0,none⟩),.int .i64 0]) ∧ ShapeAt 123 (topW w.heap.size w3) S sz:=by
    rcases hs with ⟨_,S,he,hS,_⟩ | ⟨hng,_⟩
    · exact ⟨S,he,top_shape hS (agr_top hB2.size)⟩
    · exact absurd HGZ.out hng
  have hz3:=(hb3.block _ (lt_of_block hz2)).trans hz2
  have hy3:=(hb3.block _ (lt_of_block hy2)).trans hy2
  have hB3:=hB2.trans (hb3.mono hB2.size)
  clear z0 z1 z2 z3 z4 z5 z6 z7 z8 z9 z10 z11 z12 z13 z14 zf lz hs
  obtain ⟨⟨z0,z1,z2,z3,z4,z5,z6,z7,z8,z9,z10,z11,z12,z13,z14⟩,zf⟩:=bx15 hz3
  obtain ⟨⟨y0,y1,y2,y3,y4,y5,y6,y7,y8,y9,y10,y11⟩,yf⟩:=bx12 hy3
  have lz:=lt_of_block hz3;have ly:=lt_of_block hy3
  have HZ3:=Lib.hid hz3;have HY3:=Lib.hid hy3;have HB3:=Lib.hid hB3;have HF:=Lib.hid hF
  clear hz2 hy2 hB2 hb3 hz3 hy3 hB3 hF
  go_wp2_with fail
  refine (Hsp.out _ HB3.out).mono ?_
  rintro e w4 ⟨S,rfl,hS,_,hb4⟩
  replace hS:=top_samp hS (agr_top HB3.out.size)
  have hz4:=(hb4.block _ lz).trans HZ3.out
  have hy4:=(hb4.block _ ly).trans HY3.out
  have hB4:=HB3.out.trans (hb4.mono HB3.out.size)
  have hF4:=HF.out.below (top_below hb4)
  clear z0 z1 z2 z3 z4 z5 z6 z7 z8 z9 z10 z11 z12 z13 z14 zf y0 y1 y2 y3 y4 y5 y6 y7 y8 y9 y10 y11 yf lz ly
  obtain ⟨⟨z0,z1,z2,z3,z4,z5,z6,z7,z8,z9,z10,z11,z12,z13,z14⟩,zf⟩:=bx15 hz4
  obtain ⟨⟨y0,y1,y2,y3,y4,y5,y6,y7,y8,y9,y10,y11⟩,yf⟩:=bx12 hy4
  have lz:=lt_of_block hz4;have ly:=lt_of_block hy4
  have HZ4:=Lib.hid hz4;have HB4:=Lib.hid hB4;have HF4:=Lib.hid hF4;have HS:=Lib.hid hS
  clear hz4 hy4 hB4 hF4 hS hb4
  go_wp2_with fail
  have hx5:=heap_alloc_new w4 (.cells #[.int .i64 ra,.int .i64 mo,.int .i64 sh] 286)
  have hz5:=(Below.heap_alloc w4 (.cells #[.int .i64 ra,.int .i64 mo,.int .i64 sh] 286) _ lz).trans HZ4.out
  have hb5:=(Below.refl _ w4).alloc (Nat.le_refl _) (.cells #[.int .i64 ra,.int .i64 mo,.int .i64 sh] 286)
  obtain ⟨W5,hW5⟩:∃ W5,W5 = w4.alloc (.cells #[.int .i64 ra,.int .i64 mo,.int .i64 sh] 286):=⟨_,rfl⟩
  rw [← hW5] at hx5 hz5 hb5 ⊢
  clear hW5
  have hB5:=HB4.out.trans (hb5.mono HB4.out.size)
  have hF5:=HF4.out.below (top_below hb5)
  have hS5:=HS.out.below (top_below hb5)
  clear z0 z1 z2 z3 z4 z5 z6 z7 z8 z9 z10 z11 z12 z13 z14 zf y0 y1 y2 y3 y4 y5 y6 y7 y8 y9 y10 y11 yf lz ly
  obtain ⟨⟨z0,z1,z2,z3,z4,z5,z6,z7,z8,z9,z10,z11,z12,z13,z14⟩,zf⟩:=bx15 hz5
  obtain ⟨⟨x0,x1,x2⟩,xf⟩:=bx3 hx5
  have HB5:=Lib.hid hB5;have HF5:=Lib.hid hF5;have HS5:=Lib.hid hS5
  clear hx5 hz5 hb5 hB5 hF5 hS5
  have hSw:(fun w':World => w'.cell? ⟨w.heap.size,12,none⟩ = some (.slice D N cd) ∧ w'.cell? ⟨w.heap.size,13,none⟩ = some (.slice T M ct) ∧ w'.cell? ⟨w4.heap.size,0,none⟩ = some (.int .i64 ra) ∧ w'.cell? ⟨w4.heap.size,1,none⟩ = some (.int .i64 mo) ∧ w'.cell? ⟨w4.heap.size,2,none⟩ = some (.int .i64 sh)) W5.drew:=⟨z12,z13,x0,x1,x2⟩
  refine HA.g (fun w':World => w'.cell? ⟨w.heap.size,12,none⟩ = some (.slice D N cd) ∧ w'.cell? ⟨w.heap.size,13,none⟩ = some (.slice T M ct) ∧ w'.cell? ⟨w4.heap.size,0,none⟩ = some (.int .i64 ra) ∧ w'.cell? ⟨w4.heap.size,1,none⟩ = some (.int .i64 mo) ∧ w'.cell? ⟨w4.heap.size,2,none⟩ = some (.int .i64 sh)) ?_
  refine HA.t ?_ [0,1,2,4,5,7,8] hSw ?_
  refine HA.o 3 (fun K hK => ?_)
  go_simp
  refine (Hdc.out _ HB5.out.drew).mono ?_
  rintro e w6 ⟨E,ce,rfl,hE,hb6⟩
  have hS6:=And.intro (cell_below hb6 hSw.1) (And.intro (cell_below hb6 hSw.2.1) (And.intro (cell_below hb6 hSw.2.2.1) (And.intro (cell_below hb6 hSw.2.2.2.1) (cell_below hb6 hSw.2.2.2.2))))
  have hb6':Below W5.heap.size W5 w6:=(Below.refl W5.heap.size W5).drew.trans hb6
  have HB6:=Lib.hid (HB5.out.trans (hb6'.mono HB5.out.size));have HF6:=Lib.hid (HF5.out.below (top_below hb6'));have HS6:=Lib.hid (HS5.out.below (top_below hb6'));have HE:=Lib.hid (top_sl tops_ex hE (agr_top (B:=w.heap.size) HB5.out.size))
  clear hb6 hb6' hE hSw
  dsimp only
  refine hK.out _ _ hS6 (fun hSw => ?_)
  clear hK K hS6
  refine HA.t ?_ [6] hSw ?_
  refine HA.o 9 (fun K hK => ?_)
  go_simp
  refine (Hst.out _ HB6.out).mono ?_
  rintro e w7 ⟨Ap,cp,Am,cm,rfl,hc1,hc2,hp,hm,hb7⟩
  have hS7:=And.intro (cell_below hb7 hSw.1) (And.intro (cell_below hb7 hSw.2.1) (And.intro (cell_below hb7 hSw.2.2.1) (And.intro (cell_below hb7 hSw.2.2.2.1) (cell_below hb7 hSw.2.2.2.2))))
  have hpo:=hp;have hmo:=hm
  replace hp:=Rd.own hp;replace hm:=Rd.own hm
  have HPo:=Lib.hid (own_base (base':=w.heap.size) hpo HB6.out.size);have HMo:=Lib.hid (own_base (base':=w.heap.size) hmo HB6.out.size)
  clear hpo hmo
  have HB7:=Lib.hid (HB6.out.trans (hb7.mono HB6.out.size));have HF7:=Lib.hid (HF6.out.below (top_below hb7));have HS7:=Lib.hid (HS6.out.below (top_below hb7));have hE7:SlRd rEx 2 (topW w.heap.size w7) E data:=HE.out.below stays_ex (top_below hb7);have HE7:=Lib.hid hE7;have HP:=Lib.hid hp;have HMm:=Lib.hid hm
  clear hb7 hp hm hSw hc1 hc2 hE7
  dsimp only
  refine hK.out _ _ hS7 (fun hSw => ?_)
  clear hK K hS7
  refine HA.t ?_ [10] hSw ?_
  refine HA.o 11 (fun K hK => ?_)
  go_simp
  refine hK.out _ _ ⟨cell_alloc hSw.1 _,cell_alloc hSw.2.1 _,cell_alloc hSw.2.2.1 _,cell_alloc hSw.2.2.2.1 _,cell_alloc hSw.2.2.2.2 _⟩ (fun hSw => ?_)
  clear hK K
  refine HA.t ?_ [12,13] hSw ?_
  refine HA.d ?_
  clear hSw z0 z1 z2 z3 z4 z5 z6 z7 z8 z9 z10 z11 z12 z13 z14 zf x0 x1 x2 xf
  go_wp2_with fail
  go_ret2
  exact ⟨_,rfl,⟨w7,F,E,ce,S,Ap,cp,Am,cm,heap_alloc_new w7 _,HF7.out,HE7.out,HS7.out,rfl,(Below.refl _ w7).alloc (Nat.le_refl _) _,HB7.out.size,trivial,HW.out,HRep.out,
    fun a ha e => by have:=rd_lt HP.out (by rw [HM.out];omega) a ha;omega,fun a ha e => by have:=rd_lt HMm.out (by rw [List.length_replicate];omega) a ha;omega,HPo.out.alloc _,HMo.out.alloc _⟩,HB7.out.size,HB7.out.alloc HB7.out.size _⟩
theorem sernew_good (A:Option Addr) (c:Nat) (D:Option Addr) (cd:Nat) (T:Option Addr) (ct:Nat) (R:Option Addr) (cr:Nat) (i:Inp) (w:World) (h:InpRd w A c D T ct R i) (hgood:GoodIn i) :
    Calls Tryz.prog 135 #[.agg (inpVals A c D cd T ct R cr i)] w fun e w' => ∃ b,e = .returned (.tuple #[.pointer (some ⟨b,0,none⟩),.int .i64 0]) ∧ RunAt w' b i i.start (List.replicate (cnt i) 0) 0 ∧ w.heap.size ≤ b ∧ Below w.heap.size w w':=by
  refine (sernew_goodT A c D cd T ct R cr i w h hgood).mono ?_
  rintro e w' ⟨b,he,hn,hb,hk⟩
  exact ⟨b,he,hn.run (Keep.refl _ _),hb,hk⟩
end Go.Proofs.YthamijnggdjaoaaGreatDoor
namespace Go.Proofs.YthamijnggdjaoaaGreatDoor
open Go.RowKit
theorem box3_set {w:World} {b:Nat} {x0 x1 x2:Value} {t:TypeId} (y0 y1 y2:Value) (h:w.heap[b]? = some (.cells #[x0,x1,x2] t (0,0))) :
    (((w.setCell ⟨b,0,none⟩ y0).setCell ⟨b,1,none⟩ y1).setCell ⟨b,2,none⟩ y2).heap[b]? = some (.cells #[y0,y1,y2] t (0,0)):=by
  have h1:=heap_setCell_same w b 0 _ _ y0 h
  have h2:=heap_setCell_same _ b 1 _ _ y1 h1
  exact heap_setCell_same _ b 2 _ _ y2 h2
theorem box3_keep {w:World} {b:Nat} (y0 y1 y2:Value):Keep (fun i => i = b) w (((w.setCell ⟨b,0,none⟩ y0).setCell ⟨b,1,none⟩ y1).setCell ⟨b,2,none⟩ y2):=
  Keep.setCell (S:=fun i => i = b) (Keep.setCell (S:=fun i => i = b) (Keep.setCell (S:=fun i => i = b) (Keep.refl _ w) ⟨b,0,none⟩ (.inr rfl) y0) ⟨b,1,none⟩ (.inr rfl) y1) ⟨b,2,none⟩ (.inr rfl) y2
theorem mnew_any (r c:Nat) (w:World) (hr:1 ≤ r ∧ r ≤ 1048576) (hc:1 ≤ c ∧ c ≤ 1048576) (hm:r * c ≤ 1048576) :
    Calls Tryz.prog 286 #[.int .i64 r,.int .i64 c] w fun e w' => ∃ A,e = .returned (.agg #[.int .i64 r,.int .i64 c,.slice A (r * c) (r * c)]) ∧ w'.ownsRow w.heap.size 2 1 (.slice A (r * c) (r * c)) (r * c) (nums .i64 (List.replicate (r * c) 0)) ∧ Below w.heap.size w w':=by
  have e1:(r:Int) * (c:Int) = ((r * c:Nat):Int):=(Int.natCast_mul r c).symm
  have hs:=fun w' => sides_any r c w' ⟨by omega,by omega⟩ ⟨by omega,by omega⟩
  obtain ⟨p,hp⟩:∃ p,r * c = p:=⟨_,rfl⟩
  rw [hp] at e1 hm ⊢
  clear hp
  have hmk:(8:Nat) * p ≤ 281474976710656:=by omega
  have Hmk:=Lib.hid hmk;have Hs:=Lib.hid hs;clear hmk hs
  go_enter Tryz.func286,Tryz.ntmps286
  go_wp2_with fail
  refine (Hs.out _).mono ?_
  rintro e w1 ⟨rfl,hw1⟩
  subst hw1
  go_wp2_with (at_make;refine wpList_mk et_vec _ rfl (.tmp 20) (.tmp 20) rfl rfl p rfl rfl Hmk.out (by unfold maxLen;omega) ?_)
  intro w2 hown hb
  rw [nums_rep] at hown
  have hres:=(hb.block w.heap.size (by simp)).trans (heap_alloc_new w _)
  obtain ⟨⟨r0,r1,r2⟩,rf⟩:=bx3 hres
  have hs1:w.heap.size < w2.heap.size:=lt_of_block hres
  have HO:=Lib.hid hown;have HB:=Lib.hid hb;have HR:=Lib.hid hres;clear hown hb hres
  go_wp2_with fail
  have h3:=box3_set (.int .i64 r) (.int .i64 c) (.slice (some ⟨w.heap.size + 1,0,none⟩) p p) HR.out
  have k3:=box3_keep (w:=w2) (b:=w.heap.size) (.int .i64 r) (.int .i64 c) (.slice (some ⟨w.heap.size + 1,0,none⟩) p p)
  obtain ⟨w3,hw3⟩:∃ w3,w3 = (((w2.setCell ⟨w.heap.size,0,none⟩ (.int .i64 r)).setCell ⟨w.heap.size,1,none⟩ (.int .i64 c)).setCell ⟨w.heap.size,2,none⟩ (.slice (some ⟨w.heap.size + 1,0,none⟩) p p)):=⟨_,rfl⟩
  rw [← hw3] at h3 k3 ⊢
  clear hw3 r0 r1 r2 rf
  obtain ⟨⟨q0,q1,q2⟩,qf⟩:=bx3 h3
  refine bodyPost_ret (v:=.agg #[.int .i64 r,.int .i64 c,.slice (some ⟨w.heap.size + 1,0,none⟩) p p]) (by simp [results,Tryz.results286,go_sem,q0,q1,q2]) rfl ⟨_,rfl,?_,?_⟩
  · refine own_base (base:=w.heap.size + 1) (k3.own HO.out (fun k hk e => ?_)) (by omega)
    simp [Value.ownBlock] at hk
    omega
  · exact (Below.trans ((Below.refl _ w).alloc (Nat.le_refl _) _) (HB.out.mono (by simp))).trans (k3.toBelow (by omega) (fun k hk => by omega))
end Go.Proofs.YthamijnggdjaoaaGreatDoor
namespace Go.Proofs.YthamijnggdjaoaaGreatDoor
open Go.RowKit
theorem et_links:ElemT Tryz.prog 128 137 (.agg #[.int .i64 0,.int .i64 0,.slice none 0 0,.slice none 0 0]) 4 64:=⟨Tryz.underlying128,info_parts (by kernel_rfl),rfl,by decide⟩
theorem net_no_shift (S:Nat) (v:Value) (q:Int) (w:World) (h:¬ (0 ≤ q ∧ q ≤ 62)):Calls Tryz.prog 20 #[.pointer (some ⟨S,0,none⟩),v,.int .i64 q] w fun e w' => e = .returned (.tuple #[.pointer none,.bool false]) ∧ w = w':=by
  by_cases h1:q < 0
  · go_enter Tryz.func20,Tryz.ntmps20
    go_wp2
    go_ret2
    exact ⟨rfl,rfl⟩
  · have h2:62 < q:=by omega
    go_enter Tryz.func20,Tryz.ntmps20
    go_wp2
    go_ret2
    exact ⟨rfl,rfl⟩
theorem net_no_len (S:Nat) (sz ps:List Int) (A:Option Addr) (c:Nat) (q:Int) (w:World) (hS:ShapeAt 123 w S sz) (h:¬ (ps.length = cntN sz (sz.length - 1))):Calls Tryz.prog 20 #[.pointer (some ⟨S,0,none⟩),.slice A ps.length c,.int .i64 q] w fun e w' => e = .returned (.tuple #[.pointer none,.bool false]) ∧ w = w':=by
  by_cases hq:0 ≤ q ∧ q ≤ 62
  · have hc:=shape_count S sz w hS
    obtain ⟨n,hn⟩:∃ n,cntN sz (sz.length - 1) = n:=⟨_,rfl⟩
    rw [hn] at hc h
    have hb:((ps.length:Int) != (n:Int)) = true:=by simp;omega
    obtain ⟨h1,h2⟩:=hq
    have Hc:=Lib.hid hc;clear hc hn h
    go_enter Tryz.func20,Tryz.ntmps20
    go_wp2_with fail
    refine Hc.out.mono ?_
    rintro e w' ⟨rfl,rfl⟩
    go_wp2
    go_ret2
    exact ⟨rfl,rfl⟩
  · exact net_no_shift S _ q w hq
theorem own_num' {w:World} {base n g c:Nat} {xs:List Int} {e:TypeId} (h:w.ownsRow base e 1 (.slice (some ⟨g,0,none⟩) n c) n (nums .i64 xs)) {k:Nat} (hk:k < n):w.cell? ⟨g,k,none⟩ = some (.int .i64 (nth xs k)):=own_num h hk
def NetI (sz ps:List Int) (q:Int) (S gp cp b b0:Nat) (As:Option Addr) (cs:Nat) (k:Nat) (w0 w:World):Prop:=
  ∃ Al cl rows,w.heap[b]? = some (.cells #[.pointer (some ⟨S,0,none⟩),.slice (some ⟨gp,0,none⟩) ps.length cp,.int .i64 q,.slice Al k cl] 130 (0,0)) ∧
    w.ownsRow b 137 4 (.slice Al k cl) k (List.flatten rows) ∧ rows.length = k ∧ (∀ r ∈ rows,r.length = 4) ∧
    w.ownsRow b0 2 1 (.slice (some ⟨gp,0,none⟩) ps.length cp) ps.length (nums .i64 ps) ∧
    (∀ j,j < k → ∃ g d,rowOf rows j = [.int .i64 (szN sz (j + 1):Int),.int .i64 (szN sz j:Int),.slice (some ⟨g,0,none⟩) (szN sz (j + 1) * szN sz j) d,.slice (some ⟨gp,midN sz j,none⟩) (szN sz (j + 1)) (cp - midN sz j)] ∧
      szN sz (j + 1) * szN sz j ≤ d ∧ w.ownsRow b0 2 1 (.slice (some ⟨g,0,none⟩) (szN sz (j + 1) * szN sz j) d) (szN sz (j + 1) * szN sz j) (nums .i64 (wL sz ps j))) ∧
    w.ownsRow b 3 1 (.slice As sz.length cs) sz.length (nums .i64 sz) ∧ Below b w0 w
def NetP (w:World) (base b:Nat) (ps:List Int):Prop:=∃ s Ap cp q l,w.heap[b]? = some (.cells #[s,.slice Ap ps.length cp,q,l] 130 (0,0)) ∧ w.ownsRow base 2 1 (.slice Ap ps.length cp) ps.length (nums .i64 ps) ∧ base ≤ b
def NetO (w:World) (base b S:Nat) (sz ps:List Int) (q:Int):Prop:=∃ g cp Al cl rows,
  w.heap[b]? = some (.cells #[.pointer (some ⟨S,0,none⟩),.slice (some ⟨g,0,none⟩) ps.length cp,.int .i64 q,.slice Al (sz.length - 1) cl] 130 (0,0)) ∧ base ≤ b ∧
    w.ownsRow base 2 1 (.slice (some ⟨g,0,none⟩) ps.length cp) ps.length (nums .i64 ps) ∧ w.ownsRow base 137 4 (.slice Al (sz.length - 1) cl) (sz.length - 1) (List.flatten rows) ∧ rows.length = sz.length - 1 ∧ (∀ r ∈ rows,r.length = 4) ∧
    ∀ j,j < sz.length - 1 → ∃ g9 d,rowOf rows j = [.int .i64 (szN sz (j + 1):Int),.int .i64 (szN sz j:Int),.slice (some ⟨g9,0,none⟩) (szN sz (j + 1) * szN sz j) d,.slice (some ⟨g,midN sz j,none⟩) (szN sz (j + 1)) (cp - midN sz j)] ∧
      szN sz (j + 1) * szN sz j ≤ d ∧ w.ownsRow base 2 1 (.slice (some ⟨g9,0,none⟩) (szN sz (j + 1) * szN sz j) d) (szN sz (j + 1) * szN sz j) (nums .i64 (wL sz ps j))
theorem NetO.keep {w w':World} {base b S0:Nat} {sz ps:List Int} {q:Int} (h:NetO w base b S0 sz ps q) {S:Nat → Prop} (k:Keep S w w') (hS:∀ j,S j → j < base):NetO w' base b S0 sz ps q:=by
  obtain ⟨g,cp,Al,cl,rows,h0,h1,h2,h3,h4,h5,h6⟩:=h
  have hno:∀ {e' size n m:Nat} {v:Value} {xs:List Value},w.ownsRow base e' size v n xs → w'.ownsRow base e' size v n xs:=fun hr => k.own hr (fun i hi hs => by have:=hS i hs;have:=(hr.lt i hi).1;omega)
  exact ⟨g,cp,Al,cl,rows,(k.block b (lt_of_block h0) (fun hs => by have:=hS b hs;omega)).trans h0,h1,k.own h2 (fun i hi hs => by have:=hS i hs;have:=(h2.lt i hi).1;omega),k.own h3 (fun i hi hs => by have:=hS i hs;have:=(h3.lt i hi).1;omega),h4,h5,fun j hj => by
    obtain ⟨g9,d,e1,e2,e3⟩:=h6 j hj
    exact ⟨g9,d,e1,e2,k.own e3 (fun i hi hs => by have:=hS i hs;have:=(e3.lt i hi).1;omega)⟩⟩
theorem NetO.below {w w':World} {base b S0:Nat} {sz ps:List Int} {q:Int} (h:NetO w base b S0 sz ps q) (hb:Below w.heap.size w w'):NetO w' base b S0 sz ps q:=h.keep (S:=fun _ => False) (Keep.below hb) (fun _ h => h.elim)
theorem NetO.at {w:World} {base b S:Nat} {sz ps:List Int} {q:Int} (h:NetO w base b S sz ps q) (hS:ShapeAt 123 w S sz) (hg:GoodSz sz) (hl:ps.length = cntN sz (sz.length - 1)):NetAt 123 130 w b sz ps q:=by
  obtain ⟨g,cp,Al,cl,rows,h0,h1,h2,h3,h4,h5,h6⟩:=h
  refine ⟨S,some ⟨g,0,none⟩,cp,Al,cl,rows,h0,hS,Rd.own h2,Rd.own h3,h4,h5,fun j hj => ?_⟩
  obtain ⟨g9,d9,h91,h92,h93⟩:=h6 j hj
  have hroom:=Nat.le_trans (cntN_mono sz (show j + 1 ≤ sz.length - 1 by omega)) (Nat.le_of_eq hl.symm)
  have hnext:=midN_eq sz j
  have hb0:bL sz ps j = (ps.drop (midN sz j)).take (szN sz (j + 1)):=(eq_upTo (by rw [List.length_take,List.length_drop];omega) fun i hi => by rw [nth_take hi,nth_drop]).symm
  refine ⟨g9,0,d9,some ⟨g,midN sz j,none⟩,cp - midN sz j,h91,h92,Rd.own h93,?_⟩
  have:=((Rd.own h2).drop (midN sz j)).take (szN sz (j + 1))
  rwa [Nat.zero_add,nums_drop,nums_take,← hb0] at this
set_option maxRecDepth 100000 in
set_option maxHeartbeats 2000000 in
theorem net_new_own (S:Nat) (sz ps:List Int) (A:Option Addr) (c:Nat) (q:Int) (w:World) (hS:ShapeAt 123 w S sz) (hg:GoodSz sz) (hq:0 ≤ q ∧ q ≤ 62) (hl:ps.length = cntN sz (sz.length - 1)) (hA:Rd w A (nums .i64 ps)) :
    Calls Tryz.prog 20 #[.pointer (some ⟨S,0,none⟩),.slice A ps.length c,.int .i64 q] w fun e w' => ∃ b,e = .returned (.tuple #[.pointer (some ⟨b,0,none⟩),.bool true]) ∧ NetAt 123 130 w' b sz ps q ∧ NetP w' w.heap.size b ps ∧ NetO w' w.heap.size b S sz ps q ∧ Below w.heap.size w w':=by
  obtain ⟨q1,q2⟩:=hq
  have hc:=shape_count S sz w hS
  have hcl:=vclone_any A ps c w hA (by have:=hg.2;omega)
  have hsi:=fun w' (k:Below w.heap.size w w') => shape_sizes S sz w' (hS.below k) (by have:=hg.1.1.2;omega)
  have hlk:=fun w' (k:Below w.heap.size w w') => shape_links S sz w' (hS.below k)
  have hwt:=fun j w' (k:Below w.heap.size w w') => shape_weights S sz j w' (hS.below k) (by have:=hg.1.1.2;omega)
  have hbi:=fun j w' (k:Below w.heap.size w w') => shape_biases S sz j w' (hS.below k) (by have:=hg.1.1.2;omega)
  rw [← hl] at hc
  obtain ⟨n,hn⟩:∃ n,sz.length - 1 = n:=⟨_,rfl⟩
  obtain ⟨N,hN⟩:∃ N,ps.length = N:=⟨_,rfl⟩
  rw [hn] at hlk hwt hbi hl
  rw [hN] at hc hcl hl ⊢
  have hnn:1 ≤ n ∧ n ≤ 15:=by have:=hg.1.1;omega
  have hNb:N ≤ 1048576:=by have:=hg.2;rw [hn] at this;omega
  have Hc:=Lib.hid hc;have Hcl:=Lib.hid hcl;have Hsi:=Lib.hid hsi;have Hlk:=Lib.hid hlk;have Hwt:=Lib.hid hwt;have Hbi:=Lib.hid hbi;have HG:=Lib.hid hg;have Hn:=Lib.hid hn;have HN:=Lib.hid hN;have HS:=Lib.hid hS;have HAz:=Lib.hid hA;have Hl:=Lib.hid hl
  clear hc hcl hsi hlk hwt hbi hg hn hN hS hA hl
  go_enter Tryz.func20,Tryz.ntmps20
  go_wp2_with fail
  refine Hc.out.mono ?_
  rintro e w' ⟨rfl,rfl⟩
  go_wp2_with fail
  refine Hcl.out.mono ?_
  rintro e w1 ⟨A',cp,rfl,hcp,hown,hb⟩
  have Hown:=Lib.hid hown;have Hb:=Lib.hid hb;have Hcp:=Lib.hid hcp;clear hown hb hcp
  go_wp2_with fail
  refine (Hsi.out _ ?_).mono ?_
  · have hb:=Hb.out
    have hbz:=hb.size
    (focus (repeat' (first | (with_reducible exact Below.refl _ _) | (with_reducible assumption) | (with_reducible refine Below.setCell ?_ ?_ _) | (with_reducible refine Below.alloc ?_ ?_ _) | (with_reducible refine below_drewN ?_ _) | (with_reducible refine Below.drew ?_) | (with_reducible exact Nat.le_refl _) | omega | (simp;done) | (simp;omega))))
  rintro e w2 ⟨As,cs,rfl,hos,hb2⟩
  have Hos:=Lib.hid hos;have Hb2:=Lib.hid hb2;clear hos hb2
  go_wp2_with fail
  refine (Hlk.out _ ?_).mono ?_
  · have hb:=Hb.out
    have hb2:=Hb2.out
    exact hb.trans ((((Below.refl _ w1).alloc (Nat.le_refl _) _).trans (hb2.mono (by simp))).mono hb.size)
  rintro e w' ⟨rfl,rfl⟩
  go_wp2_with fail
  have hNpos:1 ≤ N:=by
    have h0:=Hl.out
    have h1:=(HG.out.1.at (k:=1) (by have:=HG.out.1.1;omega)).1
    have h2:=cntN_mono sz (show 1 ≤ n by omega)
    have h3:midN sz 0 + szN sz 1 = cntN sz 1:=midN_eq sz 0
    omega
  obtain ⟨gp,cp',hvp,hgp,_⟩:=Hown.out.form (by omega)
  simp only [Value.slice.injEq] at hvp
  obtain ⟨rfl,hvx,rfl⟩:=hvp
  clear hvx
  go_loopw [42] (fun i wr => ∃ k:Nat,k ≤ n ∧ i = .int .i64 k ∧ NetI sz ps q S gp cp w1.heap.size w.heap.size As cs k w1 wr) (fun i _ => n - (intOf i).toNat)
  case atStart =>
    have hb2:=Hb2.out
    have hk:Below w1.heap.size w1 w2:=((Below.refl _ w1).alloc (Nat.le_refl _) _).trans (hb2.mono (by simp))
    have hnb:=(hb2.block w1.heap.size (by simp)).trans (heap_alloc_new w1 _)
    refine ⟨0,Nat.zero_le _,rfl,none,0,[],?_,World.ownsRow_nil _ _ _ _,rfl,by simp,?_,fun j hj => by omega,own_base Hos.out (by simp),hk⟩
    · rw [HN.out];exact hnb
    · rw [HN.out];exact own_below Hown.out hk
  case round =>
    obtain ⟨k,hk,rfl,Al,cl,rows,hN0,hol,hr1,hr2,hop,hrow,hoz,hW⟩:=hrel
    rw [HN.out] at hN0 hop
    obtain ⟨⟨x0,x1,x2,x3⟩,xf⟩:=bx4 hN0
    have hbl:=lt_of_block hN0
    have hbw:Below w.heap.size w wr:=Hb.out.trans (hW.mono Hb.out.size)
    have HN0:=Lib.hid hN0;have Hol:=Lib.hid hol;have Hr1:=Lib.hid hr1;have Hr2:=Lib.hid hr2;have Hop:=Lib.hid hop;have Hrow:=Lib.hid hrow;have Hoz:=Lib.hid hoz;have HW:=Lib.hid hW;have Hbw:=Lib.hid hbw
    clear hN0 hol hr1 hr2 hop hrow hoz hW hbw
    by_cases hlt:k < n
    · have hR:=HG.out.1
      have hk1:k + 1 < sz.length:=by have:=Hn.out;have:=hR.1;omega
      have z0:=hR.at (k:=k) (by omega)
      have z1:=hR.at hk1
      have hmul:=HG.out.mul hk1
      have hpos:1 ≤ szN sz (k + 1) * szN sz k:=Nat.mul_pos z1.1 z0.1
      have hmid:midN sz k = cntN sz k + szN sz (k + 1) * szN sz k:=rfl
      have hnext:=midN_eq sz k
      have hroom:=Nat.le_trans (cntN_mono sz (show k + 1 ≤ n by omega)) (Nat.le_of_eq Hl.out.symm)
      have hwtk:=Hwt.out k
      have hbik:=Hbi.out k
      have hw0:wL sz ps k = (ps.drop (cntN sz k)).take (szN sz (k + 1) * szN sz k):=(eq_upTo (by rw [List.length_take,List.length_drop];have:=HN.out;omega) fun i hi => by rw [nth_take hi,nth_drop]).symm
      have hb0:bL sz ps k = (ps.drop (midN sz k)).take (szN sz (k + 1)):=(eq_upTo (by rw [List.length_take,List.length_drop];have:=HN.out;omega) fun i hi => by rw [nth_take hi,nth_drop]).symm
      obtain ⟨g5,c5,hv5,hg5,_⟩:=Hoz.out.form (by omega)
      simp only [Value.slice.injEq] at hv5
      obtain ⟨rfl,hx5,rfl⟩:=hv5
      clear hx5
      have p0:=own_num' Hoz.out (show k < sz.length by omega)
      have p1:=own_num' Hoz.out hk1
      rw [z0.2.2] at p0
      rw [z1.2.2] at p1
      rw [hmid,← hnext,hmid] at hbik
      rw [hmid] at hwtk hb0
      have hrdp:=Rd.own Hop.out
      obtain ⟨lo,hlo⟩:∃ lo,cntN sz k = lo:=⟨_,rfl⟩
      obtain ⟨r,hr⟩:∃ r,szN sz (k + 1) = r:=⟨_,rfl⟩
      obtain ⟨c0,hc0⟩:∃ c0,szN sz k = c0:=⟨_,rfl⟩
      obtain ⟨nn,hnn⟩:∃ nn,r * c0 = nn:=⟨_,rfl⟩
      rw [← hnext,hmid] at hroom
      rw [hlo,hr,hc0,hnn] at hbik hwtk hroom
      rw [hr,hc0,hnn] at hpos hmul
      rw [hr] at p1 z1
      rw [hc0] at p0 z0
      rw [hlo,hr,hc0,hnn] at hw0 hb0
      have hrw:Rd wr (some ⟨gp,lo,none⟩) (nums .i64 (wL sz ps k)):=by
        have:=(hrdp.drop lo).take nn
        rwa [Nat.zero_add,nums_drop,nums_take,← hw0] at this
      have hwl:(wL sz ps k).length = nn:=by rw [wL_len,hr,hc0,hnn]
      have hof:=fun W (h:Below wr.heap.size wr W) => of_any r c0 (some ⟨gp,lo,none⟩) (wL sz ps k) (cp - lo) W ⟨z1.1,z1.2.1⟩ ⟨z0.1,z0.2.1⟩ (hwl.trans hnn.symm) (by omega) (hrw.below h)
      rw [hwl] at hof
      have Hwtk:=Lib.hid hwtk;have Hbik:=Lib.hid hbik;have Hof:=Lib.hid hof;have Hlo:=Lib.hid hlo;have Hr:=Lib.hid hr;have Hc0:=Lib.hid hc0;have Hnn:=Lib.hid hnn;have Hb0:=Lib.hid hb0
      have hcp2:=Hcp.out
      clear hwtk hbik hof hmid hnext hw0 hb0 hlo hr hc0 hnn hrdp hrw hwl
      go_wp2_with fail
      refine (Hwtk.out _ Hbw.out (by omega)).mono ?_
      rintro e w3 ⟨rfl,hb3⟩
      have Hb3:=Lib.hid hb3;clear hb3
      go_wp2_with fail
      refine (Hbik.out _ (Hbw.out.trans (Hb3.out.mono Hbw.out.size)) (by omega)).mono ?_
      rintro e w4 ⟨rfl,hb4⟩
      have hb34:=Hb3.out.trans (hb4.mono Hb3.out.size)
      have x1':=(hb34.cell (p:=⟨w1.heap.size,1,none⟩) hbl).trans x1
      have p0':=(hb34.cell (p:=⟨g5,k,none⟩) (lt_of_cell p0)).trans p0
      have p1':=(hb34.cell (p:=⟨g5,k + 1,none⟩) (lt_of_cell p1)).trans p1
      have hbl4:w1.heap.size < w4.heap.size:=by have:=hb34.size;omega
      have hg54:g5 < w4.heap.size:=lt_of_cell p0'
      have Hb34:=Lib.hid hb34;clear hb34 hb4 Hb3 x0 x1 x2 x3 xf p0 p1
      have hki:(k:Int) + 1 < sz.length:=by omega
      have hc1:¬ (cp = lo):=by omega
      have hc2:lo + nn ≤ cp:=by omega
      go_wp2_with fail
      go_cut [13,14] (fun v _ wx => ∃ M A d,v = .pointer (some ⟨M,0,none⟩) ∧ wx.heap[M]? = some (.cells #[.int .i64 r,.int .i64 c0,.slice A nn d] 133 (0,0)) ∧ nn ≤ d ∧ wx.ownsRow w4.heap.size 2 1 (.slice A nn d) nn (nums .i64 (wL sz ps k)) ∧ w4.heap.size + 2 ≤ wx.heap.size ∧
        Below (w4.heap.size + 2) ((w4.alloc (.cells #[.int .i64 lo,.int .i64 ((lo:Int) + nn)] 125)).alloc (.cells #[.int .i64 ((lo:Int) + nn),.int .i64 ((lo:Int) + nn + r)] 125)) wx)
      case first =>
        have hSw:(fun w':World => w'.cell? ⟨g5,k + 1,none⟩ = some (.int .i64 r) ∧ w'.cell? ⟨g5,k,none⟩ = some (.int .i64 c0) ∧ w'.cell? ⟨w1.heap.size,1,none⟩ = some (.slice (some ⟨gp,0,none⟩) N cp) ∧ w'.cell? ⟨w4.heap.size,0,none⟩ = some (.int .i64 lo) ∧ w'.cell? ⟨w4.heap.size,1,none⟩ = some (.int .i64 ((lo:Int) + nn))) ((w4.alloc (.cells #[.int .i64 lo,.int .i64 ((lo:Int) + nn)] 125)).alloc (.cells #[.int .i64 ((lo:Int) + nn),.int .i64 ((lo:Int) + nn + r)] 125)).drew:=
          ⟨cell_alloc (cell_alloc p1' _) _,cell_alloc (cell_alloc p0' _) _,cell_alloc (cell_alloc x1' _) _,cell_alloc (cell_of_row _ w4.heap.size 0 _ _ _ (heap_alloc_new w4 _)) _,cell_alloc (cell_of_row _ w4.heap.size 1 _ _ _ (heap_alloc_new w4 _)) _⟩
        have hg0:Below wr.heap.size wr ((w4.alloc (.cells #[.int .i64 lo,.int .i64 ((lo:Int) + nn)] 125)).alloc (.cells #[.int .i64 ((lo:Int) + nn),.int .i64 ((lo:Int) + nn + r)] 125)).drew:=
          (((Hb34.out.alloc (by have:=Hb34.out.size;omega) _).alloc (by have:=Hb34.out.size;simp;omega) _)).drew
        have Hg0:=Lib.hid hg0;clear hg0
        have hkl:k < sz.length:=by omega
        have hw1:IntKind.i64.wrap ((k:Int) + 1) = (k:Int) + 1:=IntWalk.i64_in _ (by omega)
        have hw2:(0:Int) ≤ (k:Int) + 1:=by omega
        have hw3:((k:Int) + 1).toNat = k + 1:=by omega
        have hw4:((lo:Int) + nn).toNat = lo + nn:=by omega
        have hw5:(0:Int) ≤ (lo:Int) + nn:=by omega
        have hw6:(lo:Int) + nn ≤ cp:=by omega
        have hw7:(lo:Int) ≤ (lo:Int) + nn:=by omega
        refine wp_region_X 23 (fun w':World => w'.cell? ⟨g5,k + 1,none⟩ = some (.int .i64 r) ∧ w'.cell? ⟨g5,k,none⟩ = some (.int .i64 c0) ∧ w'.cell? ⟨w1.heap.size,1,none⟩ = some (.slice (some ⟨gp,0,none⟩) N cp) ∧ w'.cell? ⟨w4.heap.size,0,none⟩ = some (.int .i64 lo) ∧ w'.cell? ⟨w4.heap.size,1,none⟩ = some (.int .i64 ((lo:Int) + nn))) (by kernel_rfl) ?_
        refine wX 0 hSw ?_
        refine wX 1 hSw ?_
        refine wX 2 hSw ?_
        refine wX 3 hSw ?_
        refine wX 4 hSw ?_
        refine wX 5 hSw ?_
        refine wX 6 hSw ?_
        refine wX 7 hSw ?_
        refine wX 8 hSw ?_
        refine wX 9 hSw ?_
        refine wX 10 hSw ?_
        refine wX 11 hSw ?_
        refine wX 12 hSw ?_
        refine wX 13 hSw ?_
        refine wX 14 hSw ?_
        refine wX 15 hSw ?_
        refine wX 16 hSw ?_
        refine wX 17 hSw ?_
        simp only [List.getElem_toArray,List.getElem_cons_succ,List.getElem_cons_zero,Act.put,List.setIfInBounds_toArray,List.set_cons_zero,List.set_cons_succ]
        refine wpAnyX_ready (rs:=[18,22]) (by kernel_rfl) (by simp) ?_
        refine AllReadyX.cons rfl (fun K hK => ?_) (AllReadyX.cons rfl (fun K hK => ?_) AllReadyX.nil)
        · simp only [List.getElem_toArray,List.getElem_cons_succ,List.getElem_cons_zero]
          go_simp
          refine (Hof.out _ Hg0.out).mono ?_
          rintro e w6 ⟨A6,d6,rfl,hd6,ho6,hb6⟩
          have hS6:=And.intro (cell_below hb6 hSw.1) (And.intro (cell_below hb6 hSw.2.1) (And.intro (cell_below hb6 hSw.2.2.1) (And.intro (cell_below hb6 hSw.2.2.2.1) (cell_below hb6 hSw.2.2.2.2))))
          have Hd6:=Lib.hid hd6;have Ho6:=Lib.hid ho6;have Hb6:=Lib.hid hb6;clear hd6 ho6 hb6 hSw
          dsimp only
          refine hK.out _ _ hS6 (fun hSw => ?_)
          clear hK K hS6
          refine wX 19 hSw ?_
          refine wX 20 hSw ?_
          simp only [List.getElem_toArray,List.getElem_cons_succ,List.getElem_cons_zero,Act.put,List.setIfInBounds_toArray,List.set_cons_zero,List.set_cons_succ]
          refine wX0 21 hSw ?_
          simp only [List.getElem_toArray,List.getElem_cons_succ,List.getElem_cons_zero,Act.put,List.setIfInBounds_toArray,List.set_cons_zero,List.set_cons_succ]
          refine wpAnyX_ready (rs:=[22]) (by kernel_rfl) (by simp) ?_
          refine AllReadyX.cons rfl (fun K hK => ?_) AllReadyX.nil
          simp only [List.getElem_toArray,List.getElem_cons_succ,List.getElem_cons_zero]
          go_simp
          refine hK.out _ _ ⟨cell_alloc hSw.1 _,cell_alloc hSw.2.1 _,cell_alloc hSw.2.2.1 _,cell_alloc hSw.2.2.2.1 _,cell_alloc hSw.2.2.2.2 _⟩ (fun hSw => ?_)
          clear hK K hSw
          refine wpAnyX_tail (by rfl) (by kernel_rfl) ?_
          simp only [List.drop_succ_cons,List.drop_zero]
          go_wp2_with fail
          go_meet
          have hz6:=Hb6.out.size
          simp at hz6
          refine ⟨w6.heap.size,A6,d6,rfl,heap_alloc_new w6 _,Hd6.out,own_base (Ho6.out.alloc _) (by first | omega | (simp;done) | (simp;omega)),(by first | omega | (simp;done) | (simp;omega)),?_⟩
          exact (((Below.refl _ _).drew).trans (Hb6.out.mono (by first | omega | (simp;done) | (simp;omega)))).alloc (by first | omega | (simp;done) | (simp;omega)) _
        · simp only [List.getElem_toArray,List.getElem_cons_succ,List.getElem_cons_zero]
          go_simp
          refine hK.out _ _ ⟨cell_alloc hSw.1 _,cell_alloc hSw.2.1 _,cell_alloc hSw.2.2.1 _,cell_alloc hSw.2.2.2.1 _,cell_alloc hSw.2.2.2.2 _⟩ (fun hSw => ?_)
          clear hK K
          refine wpAnyX_ready (rs:=[18]) (by kernel_rfl) (by simp) ?_
          refine AllReadyX.cons rfl (fun K hK => ?_) AllReadyX.nil
          simp only [List.getElem_toArray,List.getElem_cons_succ,List.getElem_cons_zero]
          go_simp
          refine (Hof.out _ (Hg0.out.alloc Hg0.out.size _)).mono ?_
          rintro e w6 ⟨A6,d6,rfl,hd6,ho6,hb6⟩
          have hS6:=And.intro (cell_below hb6 hSw.1) (And.intro (cell_below hb6 hSw.2.1) (And.intro (cell_below hb6 hSw.2.2.1) (And.intro (cell_below hb6 hSw.2.2.2.1) (cell_below hb6 hSw.2.2.2.2))))
          have hM6:=(hb6.block _ (by simp)).trans (heap_alloc_new _ _)
          simp only [World.size_alloc,World.size_drew] at hM6
          obtain ⟨⟨m0,m1,m2⟩,mf⟩:=bx3 hM6
          have hMl:=lt_of_block hM6
          have Hd6:=Lib.hid hd6;have Ho6:=Lib.hid ho6;have Hb6:=Lib.hid hb6;have HM6:=Lib.hid hM6;clear hd6 ho6 hb6 hSw hM6
          dsimp only
          refine hK.out _ _ hS6 (fun hSw => ?_)
          clear hK K hS6
          refine wX 19 hSw ?_
          refine wX 20 hSw ?_
          simp only [List.getElem_toArray,List.getElem_cons_succ,List.getElem_cons_zero,Act.put,List.setIfInBounds_toArray,List.set_cons_zero,List.set_cons_succ]
          refine wX0 21 hSw ?_
          simp only [List.getElem_toArray,List.getElem_cons_succ,List.getElem_cons_zero,Act.put,List.setIfInBounds_toArray,List.set_cons_zero,List.set_cons_succ]
          clear hSw
          refine wpAnyX_tail (by rfl) (by kernel_rfl) ?_
          simp only [List.drop_succ_cons,List.drop_zero]
          go_wp2_with fail
          go_meet
          have hz6:=Hb6.out.size
          simp at hz6
          have k3:=box3_keep (w:=w6) (b:=w4.heap.size + 1 + 1) (.int .i64 r) (.int .i64 c0) (.slice A6 nn d6)
          have hz7:=k3.size
          refine ⟨w4.heap.size + 1 + 1,A6,d6,rfl,box3_set _ _ _ HM6.out,Hd6.out,own_base (k3.own Ho6.out (fun i hi e => block_notrow HM6.out (by decide) Ho6.out (by rw [hi,e]))) (by first | omega | (simp;done) | (simp;omega)),by first | omega | (simp;omega),?_⟩
          exact ((((Below.refl _ _).drew).alloc (by first | omega | (simp;done) | (simp;omega)) _).trans (Hb6.out.mono (by first | omega | (simp;done) | (simp;omega)))).trans (k3.toBelow (by first | omega | (simp;done) | (simp;omega)) (fun i hi => by first | omega | (simp;omega)))
      case rest =>
        obtain ⟨M,A6,d6,rfl,hM,hd6,ho6,hsz,hBW⟩:=hcut
        have hWb:Below w4.heap.size w4 ((w4.alloc (.cells #[.int .i64 lo,.int .i64 ((lo:Int) + nn)] 125)).alloc (.cells #[.int .i64 ((lo:Int) + nn),.int .i64 ((lo:Int) + nn + r)] 125)):=((Below.refl _ _).alloc (Nat.le_refl _) _).alloc (by simp) _
        have hW12:((w4.alloc (.cells #[.int .i64 lo,.int .i64 ((lo:Int) + nn)] 125)).alloc (.cells #[.int .i64 ((lo:Int) + nn),.int .i64 ((lo:Int) + nn + r)] 125)).heap[w4.heap.size + 1]? = some (.cells #[.int .i64 ((lo:Int) + nn),.int .i64 ((lo:Int) + nn + r)] 125 (0,0)):=by
          have:=heap_alloc_new (w4.alloc (.cells #[.int .i64 lo,.int .i64 ((lo:Int) + nn)] 125)) (.cells #[.int .i64 ((lo:Int) + nn),.int .i64 ((lo:Int) + nn + r)] 125)
          simpa using this
        have h12:=(hBW.block (w4.heap.size + 1) (by omega)).trans hW12
        have hbc:Below w4.heap.size w4 wc:=hWb.trans (hBW.mono (by omega))
        have hrc:=Hb34.out.trans (hbc.mono Hb34.out.size)
        have hNc:=(hrc.block _ (lt_of_block HN0.out)).trans HN0.out
        have holc:=own_below Hol.out hrc
        have hopc:=own_below Hop.out hrc
        have hozc:=own_below Hoz.out hrc
        obtain ⟨⟨n0,n1,n2,n3⟩,nf⟩:=bx4 hNc
        obtain ⟨⟨m0,m1,m2⟩,mf⟩:=bx3 hM
        obtain ⟨⟨t0,t1⟩,tf⟩:=bx2 h12
        have H12c:=Lib.hid h12;have Hrc:=Lib.hid hrc;have HNc:=Lib.hid hNc;have Holc:=Lib.hid holc;have Hopc:=Lib.hid hopc;have Hozc:=Lib.hid hozc;have HMc:=Lib.hid hM;have Ho6:=Lib.hid ho6;have Hd6:=Lib.hid hd6
        clear hrc hNc holc hopc hozc hM ho6 hd6 hbc hWb hW12 h12 hBW x1' p0' p1'
        have hlc:w1.heap.size < wc.heap.size:=lt_of_block HNc.out
        go_wp2_with fail
        have hSw:(fun w':World => w'.cell? ⟨w1.heap.size,3,none⟩ = some (.slice Al k cl) ∧ w'.cell? ⟨M,0,none⟩ = some (.int .i64 r) ∧ w'.cell? ⟨M,1,none⟩ = some (.int .i64 c0) ∧ w'.cell? ⟨M,2,none⟩ = some (.slice A6 nn d6) ∧ w'.cell? ⟨w1.heap.size,1,none⟩ = some (.slice (some ⟨gp,0,none⟩) N cp) ∧ w'.cell? ⟨w4.heap.size + 1,0,none⟩ = some (.int .i64 ((lo:Int) + nn)) ∧ w'.cell? ⟨w4.heap.size + 1,1,none⟩ = some (.int .i64 ((lo:Int) + nn + r))) wc.drew:=⟨n3,m0,m1,m2,n1,t0,t1⟩
        have hq1:¬ (cp = lo + nn):=by omega
        have hq2:(lo:Int) + nn + r ≤ cp:=by omega
        have hq3:(lo:Int) + nn ≤ (lo:Int) + nn + r:=by omega
        have hq4:((lo:Int) + nn + r).toNat = lo + nn + r:=by omega
        have hq5:((lo:Int) + nn).toNat = lo + nn:=by omega
        have hq6:(0:Int) ≤ (lo:Int) + nn:=by omega
        have hq7:(0:Int) ≤ (lo:Int) + nn + r:=by omega
        refine XA.g 18 (fun w':World => w'.cell? ⟨w1.heap.size,3,none⟩ = some (.slice Al k cl) ∧ w'.cell? ⟨M,0,none⟩ = some (.int .i64 r) ∧ w'.cell? ⟨M,1,none⟩ = some (.int .i64 c0) ∧ w'.cell? ⟨M,2,none⟩ = some (.slice A6 nn d6) ∧ w'.cell? ⟨w1.heap.size,1,none⟩ = some (.slice (some ⟨gp,0,none⟩) N cp) ∧ w'.cell? ⟨w4.heap.size + 1,0,none⟩ = some (.int .i64 ((lo:Int) + nn)) ∧ w'.cell? ⟨w4.heap.size + 1,1,none⟩ = some (.int .i64 ((lo:Int) + nn + r))) ?_
        refine XA.t ?_ [0,1,2,3,4,5,6,7,8,9,10,11,12,13,14,15] hSw ?_
        refine XA.o 16 (fun K hK => ?_)
        go_simp
        refine hK.out _ _ ⟨cell_alloc hSw.1 _,cell_alloc hSw.2.1 _,cell_alloc hSw.2.2.1 _,cell_alloc hSw.2.2.2.1 _,cell_alloc hSw.2.2.2.2.1 _,cell_alloc hSw.2.2.2.2.2.1 _,cell_alloc hSw.2.2.2.2.2.2 _⟩ (fun hSw => ?_)
        clear hK K
        refine XA.o 17 (fun K hK => ?_)
        refine step_appX et_links (.tmp 77) (.tmp 89) rfl rfl w1.heap.size (.slice Al k cl) k (List.flatten rows) rfl (own_drewN (Holc.out.alloc _) 1) (some ⟨wc.heap.size,0,none⟩) 1 1 [.int .i64 r,.int .i64 c0,.slice A6 nn d6,.slice (some ⟨gp,lo + nn,none⟩) r (cp - (lo + nn))] rfl (rd_newN wc _ _ _ rfl) rfl (by simp [Value.oneCell']) (by omega) (by unfold maxLen;omega) (by simp;omega) ?_
        intro A7 c7 w7 ho7 hb7 hg7 hv7
        have hg7:=grown_undrew hg7
        have hN7:=block_grown (o:=.cells #[.int .i64 r,.int .i64 c0,.slice A6 nn d6,.slice (some ⟨gp,lo + nn,none⟩) r (cp - (lo + nn))] 137 (0,0)) HNc.out (by decide) Holc.out hg7
        have i0:=cell_of_row w7 _ 3 _ _ _ hN7
        have i1:=cell_of_row w7 _ 1 _ _ _ hN7
        have i3:=frozen_of_row w7 _ 3 _ _ hN7
        have hM7:=block_grown (o:=.cells #[.int .i64 r,.int .i64 c0,.slice A6 nn d6,.slice (some ⟨gp,lo + nn,none⟩) r (cp - (lo + nn))] 137 (0,0)) HMc.out (by decide) Holc.out hg7
        have H12:=block_grown (o:=.cells #[.int .i64 r,.int .i64 c0,.slice A6 nn d6,.slice (some ⟨gp,lo + nn,none⟩) r (cp - (lo + nn))] 137 (0,0)) H12c.out (by decide) Holc.out hg7
        have i4:=cell_of_row w7 _ 0 _ _ _ hM7
        have i5:=cell_of_row w7 _ 1 _ _ _ hM7
        have i6:=cell_of_row w7 _ 2 _ _ _ hM7
        have i7:=cell_of_row w7 _ 0 _ _ _ H12
        have i8:=cell_of_row w7 _ 1 _ _ _ H12
        have HO7:=Lib.hid ho7;have HN7:=Lib.hid hN7;have Hg7:=Lib.hid hg7;have Hb7:=Lib.hid hb7;clear ho7 hN7 hg7 hv7 hb7 hM7 H12
        dsimp only
        refine hK.out _ _ ⟨i0,i4,i5,i6,i1,i7,i8⟩ (fun hSw => ?_)
        clear hK K hSw
        refine XA.e ?_
        simp only [List.drop_succ_cons,List.drop_zero]
        go_wp2_with fail
        have hN8:=heap_setCell_same w7 w1.heap.size 3 _ _ (.slice A7 (k + 1) c7) HN7.out
        have hk8:Keep (fun i => i = w1.heap.size) w7 (w7.setCell ⟨w1.heap.size,3,none⟩ (.slice A7 (k + 1) c7)):=Keep.setCell (S:=fun i => i = w1.heap.size) (Keep.refl _ _) ⟨w1.heap.size,3,none⟩ (.inr rfl) _
        have ho8:=hk8.own HO7.out (fun i hi e => block_notrow HN7.out (by decide) HO7.out (by rw [hi,e]))
        have hW8:Below w1.heap.size w1 (w7.setCell ⟨w1.heap.size,3,none⟩ (.slice A7 (k + 1) c7)):=
          (((HW.out.trans (Hrc.out.mono HW.out.size)).alloc (by omega) _).drew.trans Hb7.out).setCell (by simp) _
        have hpast:∀ {b':Nat} {u:Value} {m:Nat} {ys:List Value} {e':TypeId},wc.ownsRow b' e' 1 u m ys → 137 ≠ e' → 130 ≠ e' → (w7.setCell ⟨w1.heap.size,3,none⟩ (.slice A7 (k + 1) c7)).ownsRow b' e' 1 u m ys:=fun h h1 h2 => own_past h Holc.out Hg7.out HN7.out h1 h2
        go_roundw
        case rel =>
          refine ⟨k + 1,by omega,by go_num,A7,c7,rows ++ [[.int .i64 r,.int .i64 c0,.slice A6 nn d6,.slice (some ⟨gp,lo + nn,none⟩) r (cp - (lo + nn))]],?_,?_,by simp [Hr1.out],?_,?_,?_,hpast Hozc.out (by decide) (by decide),hW8⟩
          · rw [HN.out];exact hN8
          · rw [List.flatten_append,List.flatten_cons,List.flatten_nil,List.append_nil];exact ho8
          · intro x hx
            rcases List.mem_append.1 hx with hx | hx
            · exact Hr2.out x hx
            · rw [List.mem_singleton.1 hx];rfl
          · rw [HN.out];exact hpast Hopc.out (by decide) (by decide)
          · intro j hj
            rcases Nat.lt_or_ge j k with hjk | hjk
            · obtain ⟨g9,d9,h91,h92,h93⟩:=Hrow.out j hjk
              refine ⟨g9,d9,?_,h92,hpast (own_below h93 Hrc.out) (by decide) (by decide)⟩
              rw [← h91]
              simp [rowOf,List.getElem?_append_left (show j < rows.length by rw [Hr1.out];exact hjk)]
            · obtain rfl:j = k:=by omega
              obtain ⟨g9,d9,hv9,hg9,_⟩:=Ho6.out.form (by omega)
              simp only [Value.slice.injEq] at hv9
              obtain ⟨rfl,_,rfl⟩:=hv9
              have e1:=Hr.out;have e2:=Hc0.out;have e3:=Hlo.out;have e4:=Hnn.out
              refine ⟨g9,d6,?_,?_,?_⟩
              · have e5:midN sz j = lo + nn:=by unfold midN;rw [e1,e2,e3,e4]
                rw [e5,e1,e2,e4]
                have:=Hr1.out
                simp [rowOf,← this]
              · rw [e1,e2,e4];exact Hd6.out
              · rw [e1,e2,e4];exact own_base (hpast Ho6.out (by decide) (by decide)) (by have:=Hb.out.size;omega)
        case measure => simp [intOf];omega
    · obtain rfl:k = n:=by omega
      have hsh:NetAt 123 130 wr w1.heap.size sz ps q:=by
        refine ⟨S,some ⟨gp,0,none⟩,cp,Al,cl,rows,?_,HS.out.below Hbw.out,Rd.own Hop.out,Rd.own Hol.out,?_,Hr2.out,?_⟩
        · rw [HN.out,Hn.out];exact HN0.out
        · rw [Hn.out];exact Hr1.out
        · intro j hj
          rw [Hn.out] at hj
          obtain ⟨g9,d9,h91,h92,h93⟩:=Hrow.out j hj
          have hR:=HG.out.1
          have hk1:j + 1 < sz.length:=by have:=Hn.out;have:=hR.1;omega
          have hroom:=Nat.le_trans (cntN_mono sz (show j + 1 ≤ k by omega)) (Nat.le_of_eq Hl.out.symm)
          have hnext:=midN_eq sz j
          have hb0:bL sz ps j = (ps.drop (midN sz j)).take (szN sz (j + 1)):=(eq_upTo (by rw [List.length_take,List.length_drop];have:=HN.out;omega) fun i hi => by rw [nth_take hi,nth_drop]).symm
          refine ⟨g9,0,d9,some ⟨gp,midN sz j,none⟩,cp - midN sz j,h91,h92,Rd.own h93,?_⟩
          have:=((Rd.own Hop.out).drop (midN sz j)).take (szN sz (j + 1))
          rwa [Nat.zero_add,nums_drop,nums_take,← hb0] at this
      have hnp:NetP wr w.heap.size w1.heap.size ps:=by unfold NetP;rw [HN.out];exact ⟨_,_,_,_,_,HN0.out,Hop.out,Hb.out.size⟩
      have hno:NetO wr w.heap.size w1.heap.size S sz ps q:=by
        unfold NetO
        rw [HN.out,Hn.out]
        exact ⟨gp,cp,Al,cl,rows,HN0.out,Hb.out.size,Hop.out,own_base Hol.out Hb.out.size,Hr1.out,Hr2.out,Hrow.out⟩
      have Hsh:=Lib.hid hsh;have Hnp:=Lib.hid hnp;have Hno:=Lib.hid hno;clear hsh hnp hno
      go_wp2_with fail
      go_ret2
      exact ⟨_,rfl,Hsh.out,Hnp.out,Hno.out,Hbw.out⟩
theorem net_new (S:Nat) (sz ps:List Int) (A:Option Addr) (c:Nat) (q:Int) (w:World) (hS:ShapeAt 123 w S sz) (hg:GoodSz sz) (hq:0 ≤ q ∧ q ≤ 62) (hl:ps.length = cntN sz (sz.length - 1)) (hA:Rd w A (nums .i64 ps)) :
    Calls Tryz.prog 20 #[.pointer (some ⟨S,0,none⟩),.slice A ps.length c,.int .i64 q] w fun e w' => ∃ b,e = .returned (.tuple #[.pointer (some ⟨b,0,none⟩),.bool true]) ∧ NetAt 123 130 w' b sz ps q ∧ NetP w' w.heap.size b ps ∧ Below w.heap.size w w':=
  (net_new_own S sz ps A c q w hS hg hq hl hA).mono fun e w' ⟨b,h1,h2,h3,_,h5⟩ => ⟨b,h1,h2,h3,h5⟩
end Go.Proofs.YthamijnggdjaoaaGreatDoor
namespace Go.Proofs.YthamijnggdjaoaaGreatDoor
open Go.RowKit
def EachIs (N:Nat) (idx:List Int) (G:Nat → Prop) (J:Nat → World → Prop) (w:World) (e:Ending) (w':World):Prop:=Keep G w w' ∧
  (((∀ k,k < idx.length → goodI N (nth idx k)) ∧ e = .returned (.bool true) ∧ J idx.length w') ∨ ((¬ ∀ k,k < idx.length → goodI N (nth idx k)) ∧ e = .returned (.bool false) ∧ J 0 w'))
set_option maxRecDepth 100000 in
set_option maxHeartbeats 4000000 in
theorem each_any (g X b k d:Nat) (B:Option Addr) (i:Inp) (P M idx:List Int) (G:Nat → Prop) (J:Nat → World → Prop) (w:World) (heg:∀ args w,(callFunc g args).run Tryz.prog w = .ok (.enter g args) w) (h:RunAt w b i P M k) (hg:GoodIn i) (hB:Rd w B (nums .i64 idx)) (hil:idx.length ≤ 1048576)
    (hG1:∀ j,G j → j < w.heap.size) (hG2:∀ j,G j → b < j) (hJ:∀ j w' w'',J j w' → Below w'.heap.size w' w'' → J j w'') (h0:J 0 w)
    (hcl:∀ j x net A1 c1 A2 c2 w',(∀ k,k < idx.length → goodI i.data.length (nth idx k)) → j < idx.length → (pickL i.data idx)[j]? = some x → NetAt 123 130 w' net i.cfg.sizes P i.cfg.shift → NumsRd w' A1 x.1 c1 → NumsRd w' A2 x.2 c2 → J j w' →
      Calls Tryz.prog g #[.pointer (some ⟨net,0,none⟩),.agg #[.slice A1 x.1.length c1,.slice A2 x.2.length c2],.pointer (some ⟨X,0,none⟩)] w' fun e w'' => e = .returned (.tuple #[]) ∧ J (j + 1) w'' ∧ Keep G w' w'') :
    Calls Tryz.prog 224 #[.pointer (some ⟨b,0,none⟩),.slice B idx.length d,.func (.func g) #[] #[.pointer (some ⟨X,0,none⟩)]] w (EachIs i.data.length idx G J w):=by
  obtain ⟨V,F,E,ce,S,Ap,cp,Am,cm,hb0,hF,hE,hS,hVb,hVw,hP,hMm,hPl,hMl,wP,wM,hne1,hne2⟩:=h
  have hpk:=fun w' (q:Below w.heap.size w w') => pick_own ce d E B i.data idx w' (hE.below stays_ex (hVw.trans (q.mono hVw.size))) hg.b.2 (hB.below q) hil
  have hnn:=fun w' (q:Below w.heap.size w w') => net_new_own F i.cfg.sizes P Ap cp i.cfg.shift w' (hF.below (hVw.trans (q.mono hVw.size))) hg.c.z ⟨by have:=hg.c.s;omega,by have:=hg.c.s;omega⟩ hPl (hP.below q)
  have hgz:=hg.c.z
  have hpl:=pickL_len i.data idx
  unfold EachIs
  obtain ⟨n,hn⟩:∃ n,idx.length = n:=⟨_,rfl⟩
  obtain ⟨N,hN⟩:∃ N,i.data.length = N:=⟨_,rfl⟩
  obtain ⟨CN,hCN⟩:∃ CN,cnt i = CN:=⟨_,rfl⟩
  obtain ⟨q,hq⟩:∃ q,i.cfg.shift = q:=⟨_,rfl⟩
  obtain ⟨pl,hpl'⟩:∃ pl,pickL i.data idx = pl:=⟨_,rfl⟩
  have hPc:P.length = cntN i.cfg.sizes (i.cfg.sizes.length - 1):=hPl
  obtain ⟨sz,hsz⟩:∃ sz,i.cfg.sizes = sz:=⟨_,rfl⟩
  rw [hsz] at hF hPc hgz hnn hcl
  rw [hpl'] at hpk hpl hcl
  rw [hq] at hb0 hnn hcl
  rw [hCN] at hb0 hPl
  rw [hN] at hb0 hpk hcl ⊢
  rw [hn] at hpk hil hpl hcl ⊢
  rw [hPl] at hnn
  obtain ⟨⟨r0,r1,r2,r3,r4,r5,r6,r7,r8⟩,rf⟩:=bx9 hb0
  have hbl:=lt_of_block hb0
  have Heg:=Lib.hid heg;have Hpk:=Lib.hid hpk;have Hnn:=Lib.hid hnn;have HF:=Lib.hid hF;have HVb:=Lib.hid hVb;have HVw:=Lib.hid hVw;have HG1:=Lib.hid hG1;have HG2:=Lib.hid hG2;have HJ:=Lib.hid hJ;have H0:=Lib.hid h0;have Hcl:=Lib.hid hcl;have HGZ:=Lib.hid hgz;have Hpl:=Lib.hid hpl;have HPc:=Lib.hid hPc;have Hb0:=Lib.hid hb0
  clear heg hpk hnn hF hVb hVw hG1 hG2 hJ h0 hcl hgz hpl hPc hb0 hE hS hP hMm hPl hMl wP wM hne1 hne2 hB hg hn hN hCN hq hpl' hsz
  go_enter Tryz.func224,Tryz.ntmps224
  go_wp2_with fail
  refine (Hpk.out w (Below.refl _ _)).mono ?_
  rintro e w1 ⟨hb1,hp⟩
  have hbx:=(hb1.block _ hbl).trans Hb0.out
  clear r0 r1 r2 r3 r4 r5 r6 r7 r8 rf
  obtain ⟨⟨r0,r1,r2,r3,r4,r5,r6,r7,r8⟩,rf⟩:=bx9 hbx
  have hl1:=lt_of_block hbx
  have Hb1:=Lib.hid hb1
  clear hb1 hbx
  obtain ⟨ok,Lv,ln,lc,rfl,hln,hok⟩:∃ (ok:Bool) (Lv:Option Addr) (ln lc:Nat),e = .returned (.tuple #[.slice Lv ln lc,.bool ok]) ∧ ln ≤ n ∧ (((∀ k,k < n → goodI N (nth idx k)) ∧ ok = true ∧ ln = n ∧ MapO w.heap.size w1 pl n (.slice Lv n lc)) ∨ ((¬ ∀ k,k < n → goodI N (nth idx k)) ∧ ok = false ∧ ln = 0)):=by
    rcases hp with ⟨h1,A',c',rfl,h2⟩ | ⟨h1,rfl⟩
    · exact ⟨true,A',n,c',rfl,Nat.le_refl _,.inl ⟨h1,rfl,rfl,h2⟩⟩
    · exact ⟨false,none,0,0,rfl,Nat.zero_le _,.inr ⟨h1,rfl,rfl⟩⟩
  have Hok:=Lib.hid hok
  clear hp hok
  go_wp2_with fail
  have hSw:(fun w':World => w'.cell? ⟨b,0,none⟩ = some (.pointer (some ⟨F,0,none⟩)) ∧ w'.cell? ⟨b,6,none⟩ = some (.slice Ap CN cp) ∧ w'.cell? ⟨b,5,none⟩ = some (.int .i64 q)) w1.drew:=⟨r0,r6,r5⟩
  refine HA.g (fun w':World => w'.cell? ⟨b,0,none⟩ = some (.pointer (some ⟨F,0,none⟩)) ∧ w'.cell? ⟨b,6,none⟩ = some (.slice Ap CN cp) ∧ w'.cell? ⟨b,5,none⟩ = some (.int .i64 q)) ?_
  refine HA.t ?_ [0,1,2,3,4,5,6,7,8,9,10,11,12,13,14,15] hSw ?_
  refine HA.o 16 (fun K hK => ?_)
  go_simp
  refine (Hnn.out _ Hb1.out.drew).mono ?_
  rintro e w2 ⟨net,rfl,_,_,hno,hb2⟩
  have hS2:=And.intro (cell_below hb2 hSw.1) (And.intro (cell_below hb2 hSw.2.1) (cell_below hb2 hSw.2.2))
  have hb2':Below w1.heap.size w1 w2:=(Below.refl w1.heap.size w1).drew.trans hb2
  have Hno:=Lib.hid hno;have Hb2:=Lib.hid hb2'
  clear hb2 hb2' hno hSw
  dsimp only
  refine hK.out _ _ hS2 (fun hSw => ?_)
  clear hK K hS2
  refine HA.t ?_ [17,18,19,20,21] hSw ?_
  refine HA.d ?_
  clear hSw r0 r1 r2 r3 r4 r5 r6 r7 r8 rf
  have hbase:w.heap.size ≤ w1.heap.size:=Hb1.out.size
  have hno2:NetO w2 w.heap.size net F sz P q:=by
    obtain ⟨g,cp',Al,cl,rows,e0,e1,e2,e3,e4,e5,e6⟩:=Hno.out
    exact ⟨g,cp',Al,cl,rows,e0,Nat.le_trans hbase e1,own_base e2 hbase,own_base e3 hbase,e4,e5,fun j hj => by
      obtain ⟨g9,d9,k1,k2,k3⟩:=e6 j hj
      exact ⟨g9,d9,k1,k2,own_base k3 hbase⟩⟩
  have hJ2:J 0 w2:=HJ.out 0 w w2 H0.out (Hb1.out.trans (Hb2.out.mono hbase))
  have hV2:Below V.heap.size V w2:=HVw.out.trans ((Hb1.out.trans (Hb2.out.mono hbase)).mono HVw.out.size)
  have hK2:Keep G w w2:=Keep.below (Hb1.out.trans (Hb2.out.mono hbase))
  have hM2:ln = n → (∀ k,k < n → goodI N (nth idx k)) → True:=fun _ _ => trivial
  clear hM2
  have hmo:∃ good:Bool,(good = true → MapO w.heap.size w2 pl n (.slice Lv n lc) ∧ ln = n ∧ ∀ k,k < n → goodI N (nth idx k)) ∧ (good = false → ln = 0):=by
    rcases Hok.out with ⟨e0,_,e1,e2⟩ | ⟨_,_,e1⟩
    · exact ⟨true,fun _ => ⟨e2.below Hb2.out,e1,e0⟩,fun h => absurd h (by decide)⟩
    · exact ⟨false,fun h => absurd h (by decide),fun _ => e1⟩
  obtain ⟨good,hmo1,hmo2⟩:=hmo
  have Hno2:=Lib.hid hno2;have HJ2:=Lib.hid hJ2;have HV2:=Lib.hid hV2;have HK2:=Lib.hid hK2;have Hmo1:=Lib.hid hmo1;have Hmo2:=Lib.hid hmo2
  clear hno2 hJ2 hV2 hK2 hmo1 hmo2
  go_wp2_with fail
  go_loopw [47] (fun x wr => ∃ k:Nat,k ≤ ln ∧ x = .int .i64 k ∧ J k wr ∧ NetO wr w.heap.size net F sz P q ∧ Below V.heap.size V wr ∧ Keep G w wr ∧ (good = true → MapO w.heap.size wr pl n (.slice Lv n lc))) (fun x _ => ln - (intOf x).toNat)
  case atStart => exact ⟨0,Nat.zero_le _,rfl,HJ2.out,Hno2.out,HV2.out,HK2.out,fun h => (Hmo1.out h).1⟩
  case round =>
    obtain ⟨k,hk,rfl,hJk,hnk,hVk,hKk,hMk⟩:=hrel
    by_cases hlt:k < ln
    · have hgt:good = true:=by
        cases hgg:good with
        | true => rfl
        | false => have:=Hmo2.out hgg;omega
      have hlnn:=(Hmo1.out hgt).2.1
      have hall:=(Hmo1.out hgt).2.2
      have hM:=hMk hgt
      have hkn:k < n:=by omega
      obtain ⟨x,hx⟩:∃ x,pl[k]? = some x:=⟨_,List.getElem?_eq_getElem (by rw [Hpl.out];exact hkn)⟩
      obtain ⟨b',o,A1,c1,A2,c2,rfl,hbl',p1,p2,r1,r2⟩:=ex_cells (hM.rd Hpl.out) hx
      have hcc:=fun w' (q':Below wr.heap.size wr w') => Hcl.out k x net A1 c1 A2 c2 w' hall hkn hx ((hnk.below q').at (HF.out.below (hVk.trans (q'.mono hVk.size))) HGZ.out HPc.out) (r1.below q') (r2.below q') (HJ.out _ _ _ hJk q')
      obtain ⟨n1,hn1⟩:∃ n1,x.1.length = n1:=⟨_,rfl⟩
      obtain ⟨n2,hn2⟩:∃ n2,x.2.length = n2:=⟨_,rfl⟩
      rw [hn1] at p1 hcc;rw [hn2] at p2 hcc
      have Hcc:=Lib.hid hcc;have HNk:=Lib.hid hnk;have HVk:=Lib.hid hVk;have HKk:=Lib.hid hKk;have HMk:=Lib.hid hM;have Hgt:=Lib.hid hgt
      clear hcc hnk hVk hKk hM hMk hJk hx r1 r2 hn1 hn2 hgt hlnn hall
      have heg:=Heg.out
      go_wp2_with fail
      clear heg
      refine (Hcc.out _ ?_).mono ?_
      · (focus (repeat' (first | (with_reducible exact Below.refl _ _) | (with_reducible assumption) | (with_reducible refine Below.setCell ?_ ?_ _) | (with_reducible refine Below.alloc ?_ ?_ _) | (with_reducible refine below_drewN ?_ _) | (with_reducible refine Below.drew ?_) | (with_reducible exact Nat.le_refl _) | omega | (simp;done) | (simp;omega))))
      rintro e w5 ⟨rfl,hJ5,hK5⟩
      have hba:Below wr.heap.size wr (wr.alloc (.cells #[.slice A1 n1 c1,.slice A2 n2 c2] 72)):=(Below.refl _ _).alloc (Nat.le_refl _) _
      have hn5:=(HNk.out.below hba).keep hK5 HG1.out
      have hV5:Below V.heap.size V w5:=(HVk.out.trans (hba.mono HVk.out.size)).trans (hK5.toBelow (by have:=HVk.out.size;simp;omega) (fun j hj => by have:=HG2.out j hj;have:=HVb.out;omega))
      have hk5:Keep G w w5:=(HKk.out.trans (Keep.below hba)).trans hK5
      have hm5:=(HMk.out.below hba).keep hK5 HG1.out
      have HJ5:=Lib.hid hJ5;have HN5:=Lib.hid hn5;have HV5:=Lib.hid hV5;have HK5:=Lib.hid hk5;have HM5:=Lib.hid hm5
      clear hJ5 hn5 hV5 hk5 hm5 hK5 hba p1 p2
      go_wp2_with fail
      go_roundw
      case rel => exact ⟨k + 1,by omega,by go_num,HJ5.out,HN5.out,HV5.out,HK5.out,fun _ => HM5.out⟩
      case measure => simp [intOf];omega
    · obtain rfl:ln = k:=by omega
      have HJk:=Lib.hid hJk;have HKk:=Lib.hid hKk
      clear hJk hKk hnk hVk hMk
      go_wp2_with fail
      go_ret
      refine ⟨HKk.out,?_⟩
      rcases Hok.out with ⟨e1,rfl,e2,_⟩ | ⟨e1,rfl,e2⟩
      · exact .inl ⟨e1,rfl,by rw [← e2];exact HJk.out⟩
      · exact .inr ⟨e1,rfl,by rw [← e2];exact HJk.out⟩
end Go.Proofs.YthamijnggdjaoaaGreatDoor
namespace Go.Proofs.YthamijnggdjaoaaGreatDoor
section
variable {P:Program} {ops:Array Oper} {Q:Exit → Act → World → Prop} {S:World → Prop}
structure HAS (P:Program) (ops:Array Oper) (Q:Exit → Act → World → Prop) (S:World → Prop) (i:Nat) (L:List Nat) (a:Act) (w:World):Prop where
  out:∃ o,ops[i]? = some o ∧ ∀ K':Act → World → Prop,Shut (∀ a w,S w → (S w → HA P ops Q S (i :: L) a w) → K' a w) → if Region.wanted o (yielded ops a.tmps) = true then Oper.wp P o a w K' Q else K' (a.put o.dst undef) w
theorem HAS.c {L:List Nat} {a:Act} {w:World} {i:Nat} {f:FuncId} {args:Array Value} {R:Ending → World → Prop} {o:Oper} (hc:Calls P f args w R)
    (k:∀ e w',R e w' → ∃ v,e = .returned v ∧ S w' ∧ (S w' → HA P ops Q S (i :: L) (a.put o.dst v) w')) (ho:ops[i]? = some o:=by (simp only [List.getElem?_toArray,List.getElem?_cons_succ,List.getElem?_cons_zero];rfl))
    (hw:Region.wanted o (yielded ops a.tmps) = true:=by rfl) (he:(execOp a.eval o).run P w = .ok (.enter f args) w:=by go_simp):HAS P ops Q S i L a w:=by
  refine ⟨o,ho,fun K' hK => ?_⟩
  rw [if_pos hw]
  unfold Oper.wp
  rw [he]
  refine hc.mono fun e w' hR => ?_
  obtain ⟨v,rfl,hS,h⟩:=k e w' hR
  exact hK.out _ _ hS h
theorem HAS.v {L:List Nat} {a:Act} {w:World} {i:Nat} {o:Oper} (w':World) (v:Value) (hS:S w') (k:HA P ops Q S (i :: L) (a.put o.dst v) w') (ho:ops[i]? = some o:=by (simp only [List.getElem?_toArray,List.getElem?_cons_succ,List.getElem?_cons_zero];rfl))
    (hw:Region.wanted o (yielded ops a.tmps) = true:=by rfl) (he:(execOp a.eval o).run P w = .ok (.value v) w':=by go_simp):HAS P ops Q S i L a w:=by
  refine ⟨o,ho,fun K' hK => ?_⟩
  rw [if_pos hw]
  unfold Oper.wp
  rw [he]
  exact hK.out _ _ hS fun _ => k
theorem HA.two {L:List Nat} {a:Act} {w:World} (i j:Nat) (hi:HAS P ops Q S i L a w) (hj:HAS P ops Q S j L a w) (hr:readyF ops L = [i,j]:=by decide +kernel):HA P ops Q S L a w:=by
  obtain ⟨oi,hoi,hi⟩:=hi
  obtain ⟨oj,hoj,hj⟩:=hj
  have ei:unl (marked ops.size L) = unl (marked ops.size (i :: L)) + 1:=marked_ready (by rw [hr];simp)
  have ej:unl (marked ops.size L) = unl (marked ops.size (j :: L)) + 1:=marked_ready (by rw [hr];simp)
  have ee:unl (marked ops.size (j :: L)) = unl (marked ops.size (i :: L)):=by omega
  refine ⟨?_⟩
  rw [ei]
  refine wpAnyH_ready (by rw [readyF_eq];exact hr) (by simp) (AllReadyH.cons hoi (fun K' hK => hi K' fun a w hS hw => hK.out a w hS fun hS' => (hw hS').out) (AllReadyH.cons hoj (fun K' hK => hj K' fun a w hS hw => hK.out a w hS fun hS' => ?_) AllReadyH.nil))
  have:=(hw hS').out
  rw [ee] at this
  exact this
theorem HA.three {L:List Nat} {a:Act} {w:World} (i j k:Nat) (hi:HAS P ops Q S i L a w) (hj:HAS P ops Q S j L a w) (hk:HAS P ops Q S k L a w) (hr:readyF ops L = [i,j,k]:=by decide +kernel):HA P ops Q S L a w:=by
  obtain ⟨oi,hoi,hi⟩:=hi
  obtain ⟨oj,hoj,hj⟩:=hj
  obtain ⟨ok,hok,hk⟩:=hk
  have ei:unl (marked ops.size L) = unl (marked ops.size (i :: L)) + 1:=marked_ready (by rw [hr];simp)
  have ej:unl (marked ops.size L) = unl (marked ops.size (j :: L)) + 1:=marked_ready (by rw [hr];simp)
  have ek:unl (marked ops.size L) = unl (marked ops.size (k :: L)) + 1:=marked_ready (by rw [hr];simp)
  have e1:unl (marked ops.size (j :: L)) = unl (marked ops.size (i :: L)):=by omega
  have e2:unl (marked ops.size (k :: L)) = unl (marked ops.size (i :: L)):=by omega
  refine ⟨?_⟩
  rw [ei]
  refine wpAnyH_ready (by rw [readyF_eq];exact hr) (by simp) (AllReadyH.cons hoi (fun K' hK => hi K' fun a w hS hw => hK.out a w hS fun hS' => (hw hS').out) (AllReadyH.cons hoj (fun K' hK => hj K' fun a w hS hw => hK.out a w hS fun hS' => ?_) (AllReadyH.cons hok (fun K' hK => hk K' fun a w hS hw => hK.out a w hS fun hS' => ?_) AllReadyH.nil)))
  · have:=(hw hS').out
    rw [e1] at this
    exact this
  · have:=(hw hS').out
    rw [e2] at this
    exact this
end
end Go.Proofs.YthamijnggdjaoaaGreatDoor
namespace Go.Proofs.YthamijnggdjaoaaGreatDoor
open Go.RowKit
section
variable {P:Program}
structure RowTy (P:Program) (t:TypeId) (n:Nat):Prop where
  d:∃ d,P.underlying t = some d ∧ d.isRow = true
  s:(P.info? t).map (·.size) = some n
theorem range_block {w:World} {b:Nat} {xs:Array Value} {t:TypeId} {fr:Nat × Nat} (h:w.heap[b]? = some (.cells xs t fr)) (o:Nat) {cs:List Value} (hcs:(xs.toList.drop o).take cs.length = cs):w.rangeAt b o cs:=fun j v hv => by
  rw [cell_of_row w b (o + j) xs t fr h]
  rw [← hcs,List.getElem?_take] at hv
  split at hv
  · rw [List.getElem?_drop] at hv;simpa using hv
  · cases hv
theorem setRow_keep (w:World) (g:Nat) (cs:Array Value):Keep (fun j => j = g) w (w.setRow g cs):=by
  refine ⟨rfl,rfl,rfl,by simp [World.setRow],fun k hk hs => ?_⟩
  simp only [World.setRow,Array.getElem?_modify]
  rw [if_neg (fun e => hs e.symm)]
theorem wpl_load {ops:Array Oper} {rest:List Oper} {op:Oper} {a:Act} {w:World} {Q:Exit → Act → World → Prop} {ty:TypeId} {x:Operand} {b o:Nat} {xs:Array Value} {t:TypeId} {fr:Nat × Nat} (cs:Array Value)
    (hb:w.heap[b]? = some (.cells xs t fr)) (hr:RowTy P ty cs.size) (hgd:op.guard = none) (ho:op.op = .load ty x) (hx:a.eval x = .pointer (some ⟨b,o,none⟩)) (hcs:(xs.toList.drop o).take cs.toList.length = cs.toList)
    (h:wpList P ops Q rest (a.put op.dst (.agg cs)) w):wpList P ops Q (op :: rest) a w:=by
  obtain ⟨⟨d,h1,h2⟩,h3⟩:=hr
  exact wpList_load_mid hgd ty x ho b o hx cs.toList d (range_block hb o hcs) h1 h2 (by simpa using h3) (by simpa using h)
theorem wpl_store {ops:Array Oper} {rest:List Oper} {op:Oper} {a:Act} {w:World} {Q:Exit → Act → World → Prop} {ty:TypeId} {x y:Operand} {b n:Nat} {xs ys:Array Value} {t:TypeId}
    (hb:w.heap[b]? = some (.cells xs t (0,0))) (hr:RowTy P ty n) (hgd:op.guard = none) (ho:op.op = .store ty x y) (hx:a.eval x = .pointer (some ⟨b,0,none⟩)) (hy:a.eval y = .agg ys)
    (hn:ys.size = n) (hs:xs.size = ys.size) (h1:ys.toList.all (·.oneCell') = true)
    (h:∀ w',w'.heap[b]? = some (.cells ys t (0,0)) → Keep (fun j => j = b) w w' → wpList P ops Q rest (a.put op.dst undef) w'):wpList P ops Q (op :: rest) a w:=by
  refine wpList_plain hgd fun K hK => ?_
  unfold Oper.wp execOp
  simp only [ho,hx,hy,Instr.storeAt,Instr.sureAddr,Sem.run_bind,Sem.run_pure,Result.andThen_ok,run_storeVar_row w b t ty xs ys hb (by rw [hn];exact hr.s) hs (by rw [← Array.all_toList];exact h1)]
  exact hK _ _ (h _ (setRow_heap w b xs ys t (0,0) hb) (setRow_keep w b ys))
theorem res_cell {f:Func} {x:Tmp} {ty:TypeId} (h:f.results = #[.cell x ty]) {tmps:Array Value} {w:World} {b:Nat} {xs:Array Value} {t:TypeId} {fr:Nat × Nat} (hx:tmps.getD x undef = .pointer (some ⟨b,0,none⟩))
    (hb:w.heap[b]? = some (.cells xs t fr)) (hr:RowTy P ty xs.size):(results f tmps).run P w = .ok (.agg xs) w:=by
  obtain ⟨⟨d,h1,h2⟩,h3⟩:=hr
  have:=run_loadVar_mid (P:=P) w b 0 ty xs.toList d (range_block hb 0 (by rw [List.drop_zero,List.take_length])) h1 h2 (by simpa using h3)
  rw [Array.toArray_toList] at this
  have hx':tmps[x]?.getD undef = .pointer (some ⟨b,0,none⟩):=by simpa using hx
  simp [results,h,hx',asAddr,this]
theorem res_cell_tmp {f:Func} {x y:Tmp} {ty:TypeId} (h:f.results = #[.cell x ty,.tmp y]) {tmps:Array Value} {w:World} {b:Nat} {xs:Array Value} {t:TypeId} {fr:Nat × Nat} (hx:tmps.getD x undef = .pointer (some ⟨b,0,none⟩))
    (hb:w.heap[b]? = some (.cells xs t fr)) (hr:RowTy P ty xs.size):(results f tmps).run P w = .ok (.tuple #[.agg xs,tmps.getD y undef]) w:=by
  obtain ⟨⟨d,h1,h2⟩,h3⟩:=hr
  have:=run_loadVar_mid (P:=P) w b 0 ty xs.toList d (range_block hb 0 (by rw [List.drop_zero,List.take_length])) h1 h2 (by simpa using h3)
  rw [Array.toArray_toList] at this
  have hx':tmps[x]?.getD undef = .pointer (some ⟨b,0,none⟩):=by simpa using hx
  simp [results,h,hx',asAddr,this]
end
section
variable {P:Program} {ops:Array Oper} {Q:Exit → Act → World → Prop} {S:World → Prop} {n:Nat}
theorem yields_ld {S:World → Prop} {a:Act} {o:Oper} {ty:TypeId} {x:Operand} {b off:Nat} {xs:Array Value} {t:TypeId} {fr:Nat × Nat} (cs:Array Value) (hb:∀ w',S w' → w'.heap[b]? = some (.cells xs t fr)) (hr:RowTy P ty cs.size)
    (hop:o.op = .load ty x) (hx:a.eval x = .pointer (some ⟨b,off,none⟩)) (hcs:(xs.toList.drop off).take cs.toList.length = cs.toList) (hg:Region.wanted o (yielded ops a.tmps) = true):YieldsIf P ops S o (.agg cs) a:=by
  obtain ⟨⟨d,h1,h2⟩,h3⟩:=hr
  have:=yieldsIf_load_mid (P:=P) (ops:=ops) (S:=S) (op:=o) (a:=a) hg ty x hop b off hx cs.toList d (fun w' q => range_block (hb w' q) off hcs) h1 h2 (by simpa using h3)
  simpa using this
theorem HA.ld {L:List Nat} {a:Act} {w:World} (i:Nat) (cs:Array Value) {o:Oper} {ty:TypeId} {x:Operand} {b off:Nat} {xs:Array Value} {t:TypeId} {fr:Nat × Nat} (hb:∀ w',S w' → w'.heap[b]? = some (.cells xs t fr)) (hr:RowTy P ty cs.size) (hS:S w)
    (k:HA P ops Q S (i :: L) (a.put o.dst (.agg cs)) w)
    (ho:ops[i]? = some o:=by (simp only [List.getElem?_toArray,List.getElem?_cons_succ,List.getElem?_cons_zero];rfl)) (hop:o.op = .load ty x:=by rfl) (hx:a.eval x = .pointer (some ⟨b,off,none⟩):=by rfl) (hcs:(xs.toList.drop off).take cs.toList.length = cs.toList:=by rfl) (hg:Region.wanted o (yielded ops a.tmps) = true:=by rfl)
    (hs:Region.noSelect ops = true:=by decide +kernel) (hQ:∀ c a w d v,Q (.panic c) (Act.put a d v) w → Q (.panic c) a w:=by (intro _ _ _ d _ h;cases d <;> exact h)) (hc:takesB ops L [i] = true:=by decide +kernel):HA P ops Q S L a w:=
  HA.takes hs hQ hS [i] hc (Ys.cons ho (yields_ld cs hb hr hop hx hcs hg) Ys.nil) (by simpa using k)
theorem HA.lr {L:List Nat} {a:Act} {w:World} (i:Nat) {cs:List Value} {o:Oper} {ty:TypeId} {x:Operand} {b off:Nat} (hb:∀ w',S w' → w'.rangeAt b off cs) (hr:RowTy P ty cs.length) (hS:S w)
    (k:HA P ops Q S (i :: L) (a.put o.dst (.agg cs.toArray)) w)
    (ho:ops[i]? = some o:=by (simp only [List.getElem?_toArray,List.getElem?_cons_succ,List.getElem?_cons_zero];rfl)) (hop:o.op = .load ty x:=by rfl) (hx:a.eval x = .pointer (some ⟨b,off,none⟩):=by rfl) (hg:Region.wanted o (yielded ops a.tmps) = true:=by rfl)
    (hs:Region.noSelect ops = true:=by decide +kernel) (hQ:∀ c a w d v,Q (.panic c) (Act.put a d v) w → Q (.panic c) a w:=by (intro _ _ _ d _ h;cases d <;> exact h)) (hc:takesB ops L [i] = true:=by decide +kernel):HA P ops Q S L a w:=by
  obtain ⟨⟨d,h1,h2⟩,h3⟩:=hr
  exact HA.takes hs hQ hS [i] hc (Ys.cons ho (yieldsIf_load_mid hg ty x hop b off hx cs d hb h1 h2 h3) Ys.nil) (by simpa using k)
theorem HA.st {L:List Nat} {a:Act} {w:World} (i:Nat) {o:Oper} {ty:TypeId} {x y:Operand} {b m:Nat} {xs ys:Array Value} {t:TypeId} (hb:w.heap[b]? = some (.cells xs t (0,0))) (hr:RowTy P ty m)
    (k:∀ w',w'.heap[b]? = some (.cells ys t (0,0)) → Keep (fun j => j = b) w w' → S w' ∧ HA P ops Q S (i :: L) (a.put o.dst undef) w')
    (ho:ops[i]? = some o:=by (simp only [List.getElem?_toArray,List.getElem?_cons_succ,List.getElem?_cons_zero];rfl)) (hop:o.op = .store ty x y:=by rfl) (hx:a.eval x = .pointer (some ⟨b,0,none⟩):=by rfl) (hy:a.eval y = .agg ys:=by rfl)
    (hn:ys.size = m:=by rfl) (hs:xs.size = ys.size:=by rfl) (h1:ys.toList.all (·.oneCell') = true:=by rfl) (hrd:readyF ops L = [i]:=by decide +kernel) (hw:Region.wanted o (yielded ops a.tmps) = true:=by rfl):HA P ops Q S L a w:=by
  obtain ⟨hS,k⟩:=k _ (setRow_heap w b xs ys t (0,0) hb) (setRow_keep w b ys)
  refine HA.s i _ hS k ho hrd hw ?_
  unfold execOp
  simp only [hop,hx,hy,Instr.storeAt,Instr.sureAddr,Sem.run_bind,Sem.run_pure,Result.andThen_ok,run_storeVar_row w b t ty xs ys hb (by rw [hn];exact hr.s) hs (by rw [← Array.all_toList];exact h1)]
end
end Go.Proofs.YthamijnggdjaoaaGreatDoor
namespace Go.Proofs.YthamijnggdjaoaaGreatDoor
open Go.RowKit
section
variable {P:Program} {ops:Array Oper} {Q:Exit → Act → World → Prop} {S:World → Prop}
theorem HA.sole {L:List Nat} {a:Act} {w:World} (i:Nat) (hi:HAS P ops Q S i L a w) (hr:readyF ops L = [i]:=by decide +kernel):HA P ops Q S L a w:=by
  obtain ⟨o,ho,h⟩:=hi
  exact HA.one i ho hr h
end
theorem put_two {w wb w8 w9:World} {U V:Nat} {x y:Array Value} {t:TypeId} (ne:U ≠ V) (gU:w.heap.size ≤ U) (gV:w.heap.size ≤ V) (hb:Below w.heap.size w wb) (e8:w8.heap[U]? = some (.cells x t (0,0))) (k8:Keep (fun j => j = U) wb w8)
    (e9:w9.heap[V]? = some (.cells y t (0,0))) (k9:Keep (fun j => j = V) w8 w9):w9.heap[U]? = some (.cells x t (0,0)) ∧ w9.heap[V]? = some (.cells y t (0,0)) ∧ U ≠ V ∧ w.heap.size ≤ U ∧ w.heap.size ≤ V ∧ Below w.heap.size w w9:=
  have h8:=hb.trans (k8.toBelow hb.size (fun j e => by rw [e];exact gU))
  ⟨(k9.block U (lt_of_block e8) ne).trans e8,e9,ne,gU,gV,h8.trans (k9.toBelow h8.size (fun j e => by rw [e];exact gV))⟩
theorem below_st {w w8:World} {B U:Nat} {W1:World} (q:Below B W1 w) (k:Keep (fun j => j = U) w w8) (hB:B ≤ w.heap.size) (gU:B ≤ U):Below B W1 w8:=q.trans (k.toBelow hB (fun j e => by rw [e];exact gU))
end Go.Proofs.YthamijnggdjaoaaGreatDoor
