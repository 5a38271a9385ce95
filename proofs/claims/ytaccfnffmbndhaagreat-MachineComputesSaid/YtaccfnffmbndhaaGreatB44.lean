/- The walk of MachineComputes. No condition. -/
import Derived.Test.YtaccfnffmbndhaaGreatB43
import Derived.Test.YtaccfnffmbndhaaGreatB30
set_option linter.unusedSimpArgs false
set_option linter.unusedVariables false
namespace Go.Proofs.YtaccfnffmbndhaaGreat
open Go.RowKit Go.ChangeShapes Go.WideShapes Go.ChangeAt
def comM (i:Inp) (x k:Nat):Mst:={ mst0 i with G:=(List.range k).foldl (fun g a => gradOn i i.start g (pickL i.data (micE i x 0 a))) (List.replicate i.start.length 0),nx:=k }
theorem comM_succ (i:Inp) (x k:Nat):(comM i x (k + 1)).G = gradOn i i.start (comM i x k).G (pickL i.data (micE i x 0 k)):=by
  unfold comM
  rw [List.range_succ,List.foldl_append]
  rfl
theorem itemsL_comp {p:Pln} {x st k:Nat} (hk:k < p.mi):(itemsL p x st)[k]? = some ⟨1,st,k,none⟩:=by
  unfold itemsL
  rw [List.append_assoc,List.getElem?_append_left (by simpa using hk)]
  simp [hk]
theorem itemsL_gt (p:Pln) (x st:Nat):p.mi < (itemsL p x st).length:=by
  unfold itemsL
  simp only [List.length_append,List.length_map,List.length_range,List.length_singleton]
  omega
theorem rl_zero (w:World):RL w #[.int .i64 0,.slice none 0 0,.int .i64 0,.int .i64 0] ⟨0,[],0,0⟩:=⟨none,0,rfl,MsgsRd.nil w none,Nat.le_refl _⟩
set_option maxRecDepth 100000 in
set_option maxHeartbeats 4000000 in
theorem MachineComputes_walk {H:Type} {enc:TypeId × Value → H} {base:Nat} {v0 v1:Value} {d0 d1:DataW H} {p0 p1:List MemPlace} (W:World)
    (o0:Value.okWide Tryz.prog W .any base 29 v0) (h0:DataW.Trod enc Tryz.prog W 0 (fun _ => true) true 29 v0 d0 p0) (z0:Light Tryz.prog 29 d0)
    (o1:Value.okWide Tryz.prog W .any base 5 v1) (h1:DataW.Trod enc Tryz.prog W 0 (fun _ => true) true 5 v1 d1 p1) (z1:Light Tryz.prog 5 d1) :
    Calls Tryz.prog 5 #[v0,v1] W fun e w' => e = .returned (.bool true) ∧ Below W.heap.size W w':=by
  obtain ⟨A,c,D,cd,T,ct,R,cr,i,rfl,hI,_⟩:=open_inp o0 h0 z0
  obtain ⟨nn,rfl,_,_,hnn⟩:=open_int Tryz.underlying5 o1 h1
  have hnb:0 ≤ nn ∧ nn ≤ 255:=by simpa [Lit.wf,IntKind.min,IntKind.max,IntKind.signed,IntKind.bits] using hnn
  clear o0 h0 z0 o1 h1 z1 hnn
  have hfew:=fun w' (q:Below W.heap.size W w') => rfew21_any A c D cd T ct R cr i w' (hI.below q)
  have hrd:=fun w' (q:Below W.heap.size W w') (hs:SmallI i) => (hI.below q).rd hs
  unfold FewI at hfew
  obtain ⟨W1,hW1⟩:∃ W1,W.alloc (.cells (inpVals A c D cd T ct R cr i) 29) = W1:=⟨_,rfl⟩
  have hx:W1.heap[W.heap.size]? = some (.cells (inpVals A c D cd T ct R cr i) 29 (0,0)):=by rw [← hW1];exact heap_alloc_new W _
  have hB:Below W.heap.size W W1:=by rw [← hW1];exact (br W).alloc (Nat.le_refl _) _
  have t7:∀ w',Below W1.heap.size W1 w' → w'.cell? ⟨W.heap.size,7,none⟩ = some (.int .i64 i.cfg.steps):=fun w' q => cell_of_row w' W.heap.size 7 _ _ _ (sb hx w' q)
  have tl:=sl hx
  have HX0:=Lib.hid hx;have HW1:=Lib.hid hW1;have Hfew:=Lib.hid hfew;have Hrd:=Lib.hid hrd;have HB:=Lib.hid hB
  have Hx:=Lib.hid (fun w' (q:Below W1.heap.size W1 w') => hB.trans (q.mono hB.size));have Hal:=Lib.hid (fun w' (q:Below W1.heap.size W1 w') => (alive21_any w').mono fun e w'' (h:_ ∧ Below _ _ _) => (⟨h.1,hB.trans ((q.trans (h.2.mono q.size)).mono hB.size)⟩:e = .returned (.bool true) ∧ Below W.heap.size W w''))
  clear hfew hrd hI hx hB hW1
  go_enter Tryz.func5,Tryz.ntmps5
  go_wp2_with (refine wpl_load (inpVals A c D cd T ct R cr i) (b:=W.heap.size) (by rw [HW1.out];exact HX0.out) rt_inp rfl rfl rfl rfl ?_)
  rw [HW1.out]
  have q1:=br W1
  refine (Hfew.out W1 (Hx.out _ q1)).mono ?_
  rintro e w2 ⟨⟨b,rfl,hbs⟩,k2⟩
  have q2:=bt q1 k2
  clear q1 k2
  rcases bool_ft b with rfl | rfl
  · clear hbs
    go_wp2_with fail
    refine (Hal.out _ q2).mono ?_
    rintro e w3 ⟨rfl,h3⟩
    go_wp2_with fail
    go_ret
    exact ⟨rfl,h3⟩
  have Hs:=Lib.hid (hbs rfl)
  clear hbs
  go_wp2_with (refine wpl_ldg (inpVals A c D cd T ct R cr i) (sb HX0.out _ q2) rt_inp rfl rfl rfl rfl ?_)
  refine (rinput_any A c D cd T ct R cr i w2 (Hrd.out w2 (Hx.out _ q2) Hs.out.1)).mono ?_
  rintro e w3 ⟨rfl,k3⟩
  have q3:=bt q2 k3
  clear q2 k3
  by_cases hc:inCode i = 0
  rotate_left
  · have hcb:(inCode i != 0) = true:=by rw [bne_iff_ne];exact hc
    clear hc
    go_wp2_with fail
    refine (Hal.out _ q3).mono ?_
    rintro e w4 ⟨rfl,h3⟩
    go_wp2_with fail
    go_ret
    exact ⟨rfl,h3⟩
  have hsm:=Hs.out.sm hc
  have Hc:=Lib.hid hc;have Hsm:=Lib.hid hsm
  rw [hc]
  clear hc hsm
  by_cases hst0:i.cfg.steps = 0
  · have hsb:(i.cfg.steps == 0) = true:=by rw [beq_iff_eq];exact hst0
    go_wp2_with fail
    refine (Hal.out _ q3).mono ?_
    rintro e w4 ⟨rfl,h3⟩
    go_wp2_with fail
    go_ret
    exact ⟨rfl,h3⟩
  have hsb:(i.cfg.steps == 0) = false:=by rw [beq_eq_false_iff_ne];exact hst0
  have Hst0:=Lib.hid (show 0 < i.cfg.steps.toNat by have:=Hsm.out.g.c.st;omega)
  clear hst0
  have hW:=Hsm.out.g.c.w
  have hW8:=Hsm.out.w
  have hnw:IntKind.i64.wrap nn = nn:=IntWalk.i64_in _ (by omega)
  have hw0:i.cfg.workers ≠ 0:=by omega
  obtain ⟨x,hx,hxW⟩:∃ x:Nat,nn.tmod i.cfg.workers = (x:Int) ∧ x < (plnI i).W:=by
    rw [Int.tmod_eq_emod_of_nonneg hnb.1]
    have h1:=Int.emod_nonneg nn hw0
    have h2:=Int.emod_lt_of_pos nn (show 0 < i.cfg.workers by omega)
    exact ⟨(nn % i.cfg.workers).toNat,by omega,by simp only [plnI];omega⟩
  have hxw:IntKind.i64.wrap (x:Int) = x:=IntWalk.i64_in _ (by have:((plnI i).W:Int) = i.cfg.workers:=by { simp only [plnI];omega };omega)
  have h3:=sb HX0.out _ q3
  have H3:=Lib.hid h3
  clear h3
  go_upto_region 4 with (first | (refine wpl_load #[.slice A i.cfg.sizes.length c,.int .i64 i.cfg.shift,.int .i64 i.cfg.rate,.int .i64 i.cfg.mom,.int .i64 i.cfg.workers,.int .i64 i.cfg.batch,.int .i64 i.cfg.micros,.int .i64 i.cfg.steps,.int .i64 i.cfg.bucket,.int .i64 i.cfg.chunk,.int .i64 i.cfg.window,.int .i64 i.cfg.cap] (b:=W.heap.size) H3.out rt_cfg rfl rfl rfl rfl ?_) | (refine wpl_store (heap_alloc_new _ _) rt_cfg rfl rfl rfl rfl rfl rfl rfl ?_;intro W5 e5 k5;have E5:=Lib.hid e5;have K5:=Lib.hid (new_below2 k5);clear e5 k5))
  have q5:=bt q3 K5.out
  have c4:W5.cell? ⟨w3.heap.size,4,none⟩ = some (.int .i64 i.cfg.workers):=cell_of_row W5 _ 4 _ _ _ E5.out
  have l4:=lt_of_block E5.out
  have Q5:=Lib.hid q5
  clear q3 q5 t7 tl H3
  go_wp2_with (refine wpl_load (inpVals A c D cd T ct R cr i) (sb HX0.out _ Q5.out) rt_inp rfl rfl rfl rfl ?_)
  refine (mnew_good A c D cd T ct R cr i x W5 (Hrd.out W5 (Hx.out _ Q5.out) Hs.out.1) Hsm.out hxW).mono ?_
  rintro e w10 ⟨b,a,rfl,k10,hmu,hmach⟩
  have q10:=bt Q5.out k10
  clear c4 l4 hnw hw0 hx hxw hsb
  go_wp2_with (refine wpl_load (inpVals A c D cd T ct R cr i) (sb HX0.out _ q10) rt_inp rfl rfl rfl rfl ?_)
  refine (rmnew_good A c D cd T ct R cr i x w10 (Hrd.out w10 (Hx.out _ q10) Hs.out.1) Hsm.out hxW).mono ?_
  rintro e w11 ⟨vs,rfl,hsz,hone,k11,hrm⟩
  have Hsz:=Lib.hid hsz;have Hone:=Lib.hid hone;have HM:=Lib.hid hmach;have HRM:=Lib.hid hrm;have K10:=Lib.hid k10;have K11:=Lib.hid k11;have HMu:=Lib.hid hmu;have HxW:=Lib.hid hxW
  clear hsz hone hmach hrm k10 k11 hmu q10 hW hW8 hnb
  go_upto_region 7 with (refine wpl_store (heap_alloc_new _ _) rt_rm rfl rfl rfl rfl Hsz.out (by rw [Hsz.out];rfl) Hone.out ?_;intro W12 e12 k12;have E12:=Lib.hid e12;have B12:=Lib.hid (new_below k12);clear e12 k12)
  have B512:=Lib.hid (bt (bt K10.out K11.out) B12.out)
  have hm10:=HM.out (fun _ => False) w10 (Keep.refl _ _) (fun _ h => h.elim)
  have hml:=hm10.mlt
  have s1011:=K11.out.size
  have hnX:∀ j,Mut b a j → ¬ j = w11.heap.size:=fun j hj e => by have:=hml j hj;omega
  have m12:MachAt (fun j => j = w11.heap.size) W12 b i x a (mst0 i):=hm10.step (Keep.below (bt K11.out B12.out)) (fun j hl e => by omega) hnX
  have hxs:=(Hx.out _ Q5.out).size
  have s510:=K10.out.size
  have r12:RMach (hideW (fun j => Mut b a j ∨ j = w11.heap.size) W12) vs i x (mst0 i):=HRM.out _ (((Keep.below (S:=fun j => j < w10.heap.size ∨ w11.heap.size ≤ j) B12.out).trans ((hide_keep (fun j => Mut b a j ∨ j = w11.heap.size) W12).mono fun j _ hj => hj.elim (fun h => .inl (hml j h)) (fun h => .inr (Nat.le_of_eq h.symm)))).mono fun j hl hj => hj.elim id (fun h => by omega))
    (Hrd.out _ ((Hx.out _ (bt Q5.out B512.out)).trans ((hide_keep (fun j => Mut b a j ∨ j = w11.heap.size) W12).toBelow (Hx.out _ (bt Q5.out B512.out)).size (fun j hj => hj.elim (fun h => Nat.le_trans hxs (HMu.out j h)) (fun h => by omega)))) Hs.out.1)
  have c6:W12.cell? ⟨w3.heap.size,6,none⟩ = some (.int .i64 i.cfg.micros):=cell_of_row W12 _ 6 _ _ _ (sb E5.out _ B512.out)
  have l6:=lt_of_block (sb E5.out _ B512.out)
  obtain ⟨mi,hmi⟩:∃ mi:Nat,i.cfg.micros = (mi:Int):=⟨i.cfg.micros.toNat,by have:=Hsm.out.g.c.mi;omega⟩
  have Hmi:=Lib.hid hmi;have Hmi2:=Lib.hid (show mi ≤ 20 by have:=Hsm.out.m;omega);have Hmi3:=Lib.hid (show (plnI i).mi = mi by simp only [plnI];omega)
  rw [hmi] at c6
  have M12:=Lib.hid m12;have R12:=Lib.hid r12;have HnX:=Lib.hid hnX
  clear hm10 hml m12 r12 hnX hmi HM HRM
  go_wp2_with fail
  go_loopw [49] (fun v wr => ∃ (k:Nat) (a':MAd) (vs':Array Value),k ≤ mi ∧ v = .int .i64 k ∧ MachAt (fun j => j = w11.heap.size) wr b i x a' (comM i x k) ∧ (∀ j,Mut b a' j → ¬ j = w11.heap.size) ∧ (∀ j,Mut b a' j → W5.heap.size ≤ j) ∧ wr.heap[w11.heap.size]? = some (.cells vs' 43 (0,0)) ∧ vs'.size = 22 ∧ (vs'.toList.all (·.oneCell') = true) ∧
    RMach (hideW (fun j => Mut b a' j ∨ j = w11.heap.size) wr) vs' i x (comM i x k) ∧ Below W5.heap.size W5 wr) (fun v _ => mi - (intOf v).toNat)
  case atStart => exact ⟨0,a,vs,Nat.zero_le _,rfl,M12.out,HnX.out,HMu.out,E12.out,Hsz.out,Hone.out,R12.out,B512.out⟩
  case round =>
    obtain ⟨k,a',vs',hk,rfl,hm,hnx,hmu,hX,hz,h1,hr,hb5⟩:=hrel
    by_cases hlt:k < mi
    · have hki:(k:Int) < mi:=by omega
      have hwk:IntKind.i64.wrap ((k:Int) + 1) = ((k + 1:Nat):Int):=by have:=Hmi2.out;rw [IntWalk.i64_in _ (by omega)];push_cast;rfl
      have hkp:k < (plnI i).mi:=by rw [Hmi3.out];exact hlt
      have hy0:=itemsL_comp (x:=x) (st:=0) hkp
      have hy:(curL i x (comM i x k).st)[(comM i x k).nx]? = some ⟨1,0,k,none⟩:=by
        show (curL i x 0)[k]? = _
        unfold curL
        rw [if_pos Hst0.out];exact hy0
      have hnew:∀ j,wr.heap.size ≤ j → ¬ j = w11.heap.size:=fun j hj e => by have:=lt_of_block hX;omega
      obtain ⟨V,rfl⟩:∃ V:World,V = wr:=⟨_,rfl⟩
      have Hnxt:=Lib.hid (next_some hm hy)
      have HMr:=Lib.hid hm;have HNx:=Lib.hid hnx;have HMur:=Lib.hid hmu;have HXr:=Lib.hid hX;have HZ:=Lib.hid hz;have H1r:=Lib.hid h1;have HRr:=Lib.hid hr;have HB5:=Lib.hid hb5;have Hy:=Lib.hid hy;have Hy0:=Lib.hid hy0;have Hnew:=Lib.hid hnew
      clear hm hnx hmu hX hz h1 hr hb5 hy hy0 hnew c6 l6 hkp
      go_wp2_with fail
      refine Hnxt.out.mono ?_
      rintro e w13 ⟨rfl,k13⟩
      have hyf:(itCells ⟨1,0,k,none⟩).toArray = #[.int .i64 1,.int .i64 0,.int .i64 (k:Nat),.bool false,.bool false,.int .i64 0,.int .i64 0,.int .i64 0,.int .i64 0,.int .i64 0,.int .i64 0,.int .i64 0]:=rfl
      rw [hyf]
      have K13:=Lib.hid k13
      clear k13 hyf
      go_upto_region 10 with (refine wpl_store (heap_alloc_new _ _) rt_item rfl rfl rfl rfl rfl rfl rfl ?_;intro W14 e14 k14;have E14:=Lib.hid e14;have B14:=Lib.hid (new_below2 k14);clear e14 k14)
      have B1314:=Lib.hid (bt K13.out B14.out)
      have y0:W14.cell? ⟨w13.heap.size,0,none⟩ = some (.int .i64 1):=cell_of_row W14 _ 0 _ _ _ E14.out
      have l0:=lt_of_block E14.out
      have Hdo:=Lib.hid (mdo_comp (HMr.out.below B1314.out HNx.out) HNx.out (fun j hj => Hnew.out j (Nat.le_trans B1314.out.size hj)) Hsm.out Hy.out rfl none none)
      go_wp2_with fail
      refine Hdo.out.mono ?_
      rintro e w15 ⟨rfl,a2,m1,hM2,-,-,hk2,hmu2,rfl⟩
      have hadv:adv i x { comM i x k with G:=gradOn i (comM i x k).P (comM i x k).G (pickL i.data (micE i x (comM i x k).st (Itm.mk 1 0 k none).n)) } = comM i x (k + 1):=by
        have hcl:k + 1 < (curL i x 0).length:=by unfold curL;rw [if_pos Hst0.out];have:=itemsL_gt (plnI i) x 0;have:=Hmi3.out;omega
        unfold adv
        rw [if_pos (show (comM i x k).nx + 1 < (curL i x (comM i x k).st).length from hcl)]
        have:=comM_succ i x k
        show Mst.mk _ _ _ _ _ _ _ = Mst.mk _ _ _ _ _ _ _
        congr 1
        exact this.symm
      rw [hadv] at hM2
      have e15:=(hk2.block _ (Nat.lt_of_lt_of_le (lt_of_block HXr.out) B1314.out.size) (fun h => h.elim (fun h => HNx.out _ h rfl) id)).trans (sb HXr.out _ B1314.out)
      have hkk:Keep (Mut b a') V w15:=(Keep.below B1314.out).trans (hk2.mono fun j _ h => h.elim id False.elim)
      have hle:=B1314.out.size
      have hr15:RMach (hideW (fun j => Mut b a2 j ∨ j = w11.heap.size) w15) vs' i x (comM i x k):=ext_rmach HRr.out (ext_step (S:=(fun j => Mut b a' j ∨ j = w11.heap.size)) (hkk.mono fun j _ h => .inl h) fun j hl hj => hj.elim (fun hj => (hmu2 j hj).elim .inl (fun h => by omega)) .inr)
      have hml2:∀ j,(fun j => Mut b a2 j ∨ j = w11.heap.size) j → j < w15.heap.size:=fun j hj => hj.elim (hM2.mlt j) (fun h => by rw [h];exact lt_of_block e15)
      have hdn:doneN i x (comM i x (k + 1)) = doneN i x (comM i x k) + 1:=rfl
      have hyd:(allL i x)[doneN i x (comM i x k)]? = some ⟨1,0,k,none⟩:=by
        have:=allN_at Hsm.out.ok Hy0.out Hst0.out
        exact this
      have Hrdo:=Lib.hid (rdo_comp (hS:=hml2) hr15 (rl_zero _) (rl_zero _) Hsm.out hyd 0 k false false 0 0 0 0 0 0 0 rfl 0 k rfl rfl Hst0.out (by have:=Hmi.out;omega) (by have:=HxW.out;simpa only [plnI] using this) (comM i x (k + 1)) ⟨rfl,rfl,comM_succ i x k,rfl⟩ hdn)
      have HM2:=Lib.hid hM2;have E15:=Lib.hid e15;have HMu2:=Lib.hid hmu2;have HKK:=Lib.hid hkk;have HML2:=Lib.hid hml2;have Hle:=Lib.hid hle
      clear hM2 hk2 hmu2 hadv e15 hkk hr15 hml2 hdn hyd y0 l0 hle
      go_wp2_with (refine wpl_load vs' E15.out (by rw [HZ.out];exact rt_rm) rfl rfl rfl (by rw [List.drop_zero,List.take_length]) ?_)
      refine Hrdo.out.mono ?_
      rintro e w16 ⟨vs2,u2,v2,rfl,hz2,h12,hr2,-,-,k16⟩
      have e16:=sb E15.out _ k16
      have E16:=Lib.hid e16;have HZ2:=Lib.hid hz2;have H12:=Lib.hid h12;have HR2:=Lib.hid hr2;have K16:=Lib.hid k16
      clear e16 hz2 h12 hr2 k16
      go_upto_region 13 with (refine wpl_store E16.out rt_rm rfl rfl rfl rfl HZ2.out (by rw [HZ.out,HZ2.out]) H12.out ?_;intro W17 e17 k17;have E17:=Lib.hid e17;have K17:=Lib.hid k17;clear e17 k17)
      have hn17:∀ j,Mut b a2 j → ¬ j = w11.heap.size:=fun j hj e => (HMu2.out j hj).elim (fun h => HNx.out j h e) (fun h => by have:=lt_of_block HXr.out;have:=B1314.out.size;omega)
      have m17:=(HM2.out.below K16.out hn17).step K17.out (fun _ _ h => h) hn17
      have hS17:∀ j,Mut b a2 j → W5.heap.size ≤ j:=fun j hj => (HMu2.out j hj).elim (HMur.out j) (fun h => by have:=HB5.out.size;have:=Hle.out;omega)
      have r17:RMach (hideW (fun j => Mut b a2 j ∨ j = w11.heap.size) W17) vs2 i x (comM i x (k + 1)):=ext_rmach HR2.out (ext_step (S:=(fun j => Mut b a2 j ∨ j = w11.heap.size)) (K17.out.mono fun j _ h => .inr h) (fun _ _ h => h))
      have hb17:Below W5.heap.size W5 W17:=((HB5.out.trans (HKK.out.toBelow HB5.out.size (fun j hj => HMur.out j hj))).trans (K16.out.mono (by have:=HB5.out.size;have:=HKK.out.size;omega))).trans (K17.out.toBelow (by have:=HB5.out.size;have:=HKK.out.size;have:=K16.out.size;omega) (fun j hj => by have:=B512.out.size;have:=K10.out.size;have:=K11.out.size;omega))
      have HF:=Lib.hid (⟨k + 1,a2,vs2,by omega,by push_cast;rfl,m17,hn17,hS17,E17.out,HZ2.out,H12.out,r17,hb17⟩:∃ (k':Nat) (a':MAd) (vs':Array Value),k' ≤ mi ∧ Value.int .i64 ((k + 1:Nat):Int) = .int .i64 k' ∧ MachAt (fun j => j = w11.heap.size) W17 b i x a' (comM i x k') ∧ (∀ j,Mut b a' j → ¬ j = w11.heap.size) ∧ (∀ j,Mut b a' j → W5.heap.size ≤ j) ∧ W17.heap[w11.heap.size]? = some (.cells vs' 43 (0,0)) ∧ vs'.size = 22 ∧ (vs'.toList.all (·.oneCell') = true) ∧ RMach (hideW (fun j => Mut b a' j ∨ j = w11.heap.size) W17) vs' i x (comM i x k') ∧ Below W5.heap.size W5 W17)
      clear m17 hn17 hS17 r17 hb17
      go_wp2_with fail
      go_roundw
      case rel => exact HF.out
      case measure => simp [intOf];omega
    · obtain rfl:k = mi:=by omega
      have hki:¬ (k:Int) < k:=by omega
      have hn60:=Hsm.out.n
      obtain ⟨V,rfl⟩:∃ V:World,V = wr:=⟨_,rfl⟩
      obtain ⟨A',c',D',cd',T',ct',R',cr',PA,pc,MA,mc,GA,gc,SA,sc,IA,ic,rfl,-,-,-,hG,-,-,-,-,hGl⟩:=ext_rmach hr (ext_hide _ _)
      have x18:∀ w',Below V.heap.size V w' → w'.cell? ⟨w11.heap.size,18,none⟩ = some (.slice GA i.start.length gc):=fun w' q => cell_of_row w' _ 18 _ _ _ (sb hX w' q)
      have xl:=sl hX
      have c6':∀ w',Below V.heap.size V w' → w'.cell? ⟨w3.heap.size,6,none⟩ = some (.int .i64 (k:Nat)):=fun w' q => by rw [← Hmi.out];exact cell_of_row w' _ 6 _ _ _ (sb (sb E5.out _ hb5) w' q)
      have cl:=sl (sb E5.out _ hb5)
      have hgr:=fun w' (q:Below V.heap.size V w') => mgrad_any (hm.below q hnx) hn60
      have hct:=fun w' (q:Below V.heap.size V w') => mcount_any (hm.below q hnx)
      have hdk:doneN i x (comM i x k) = k:=by show 0 * _ + k = k;omega
      rw [hdk] at hct
      have hsg:=fun w' A1 d1 (q:Below V.heap.size V w') (r:Rd w' A1 (nums .i64 (comM i x k).G)) => same_any A1 GA (comM i x k).G (comM i x k).G d1 gc w' r (hG.below q).hr hG.hl hG.hl
      simp only [hGl,decide_true] at hsg
      have HGr:=Lib.hid hgr;have HCt:=Lib.hid hct;have HSg:=Lib.hid hsg;have HB5:=Lib.hid hb5
      clear hm hnx hmu hX hz h1 hr hb5 hG hGl hgr hct hsg hdk c6 l6 hn60
      go_upto_region 14 with (fail)
      have q0:=(br V).drew
      refine HA.g (fun w':World => Below V.heap.size V w') ?_
      refine HA.c 0 (alive21_any _) ?_
      rintro e w21 ⟨rfl,k21⟩
      have q1:=q0.trans (k21.mono q0.size)
      refine ⟨_,rfl,q1,fun _ => ?_⟩
      refine HA.t ?_ [1,2,4,5] q1 ?_
      refine HA.c 3 (HGr.out _ q1) ?_
      rintro e w22 ⟨A1,d1,rfl,-,o22,k22⟩
      have q2:=q1.trans (k22.mono q1.size)
      refine ⟨_,rfl,q2,fun _ => ?_⟩
      refine HA.c 6 (HSg.out w22 A1 d1 q2 (Rd.own o22)) ?_
      rintro e w23 ⟨rfl,n23,rfl⟩
      have q3:=below_drewN q2 n23
      refine ⟨_,rfl,q3,fun _ => ?_⟩
      refine HA.t ?_ [7,8,9,11,12] q3 ?_
      refine HA.c 10 (HCt.out _ q3) ?_
      rintro e w24 ⟨rfl,rfl⟩
      refine ⟨_,rfl,q3,fun _ => ?_⟩
      refine HA.t ?_ [13,14,15] q3 ?_
      refine HA.d ?_
      have HF:=Lib.hid (Hx.out _ (bt (bt Q5.out HB5.out) q3))
      clear q0 q1 q2 q3 k21 k22 o22 x18 xl c6' cl
      go_wp2_with fail
      go_ret
      exact ⟨rfl,HF.out⟩
end Go.Proofs.YtaccfnffmbndhaaGreat
