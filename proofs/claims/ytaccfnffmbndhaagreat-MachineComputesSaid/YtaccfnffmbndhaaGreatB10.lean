/- The walk of plan.setting.items. The walks of plan.New and Total. No condition. -/
import Derived.Test.YtaccfnffmbndhaaGreatB09
import Derived.Test.YtaccfnffmbndhaaGreatB02
set_option linter.unusedSimpArgs false
set_option linter.unusedVariables false
namespace Go.Proofs.YtaccfnffmbndhaaGreat
open Go.RowKit
theorem blkR_in2 {n s:Nat}:∀ r ∈ blkR n s,r.1 ≤ r.2 ∧ r.2 ≤ n:=by
  intro r hr
  simp only [blkR,List.mem_map,List.mem_range] at hr
  obtain ⟨i,hi,rfl⟩:=hr
  have:=cntQ_lt hi
  exact ⟨by simp only;omega,by simp only;omega⟩
theorem PlnOk.grp {p:Pln} (h:PlnOk p) {i:Nat} (hi:i < p.grps.length):(rgAt p.grps i).1 ≤ (rgAt p.grps i).2 ∧ (rgAt p.grps i).2 ≤ p.buks.length:=by
  have:=blkR_in2 _ (List.getElem_mem hi)
  rwa [← rgAt_eq _ _ hi] at this
theorem PlnOk.grps {p:Pln} (h:PlnOk p):p.grps.length ≤ 60:=by
  have:=cntQ_len p.buks.length p.wi
  have:=h.buks
  rw [Pln.grps,blkR_len];omega
theorem groupL_le {p:Pln} (h:PlnOk p) (w st:Nat) (g:Rg) (hg:g.2 - g.1 ≤ 60):(groupL p w st g).length ≤ 100920:=by
  unfold groupL
  rw [← roundsL_all]
  simp only [List.length_append,List.length_map,List.length_range']
  have h1:=roundsL_le (w:=w) (st:=st) (k:=2 * (p.W - 1)) (g:=g) (M:=120) (p:=p) (fun ph r j => h.round w st ph r j)
  have h2:=h.W8
  have h4:2 * (p.W - 1) * ((g.2 - g.1) * 120) ≤ 14 * (60 * 120):=Nat.mul_le_mul (by omega) (Nat.mul_le_mul hg (Nat.le_refl _))
  omega
def grpsL (p:Pln) (w st k:Nat):List Itm:=(List.range p.mi).map (fun a => (⟨1,st,a,none⟩:Itm)) ++ (p.grps.take k).flatMap (groupL p w st)
theorem grpsL_succ {p:Pln} (w st:Nat) {k:Nat} (hk:k < p.grps.length):grpsL p w st (k + 1) = grpsL p w st k ++ groupL p w st (rgAt p.grps k):=by
  unfold grpsL
  rw [List.take_succ_eq_append_getElem hk,← rgAt_eq _ _ hk,List.flatMap_append,← List.append_assoc]
  simp
theorem grpsL_le {p:Pln} (h:PlnOk p) (w st:Nat) {k:Nat} (hk:k ≤ p.grps.length):(grpsL p w st k).length ≤ 20 + k * 100920:=by
  induction k with
  | zero => have:=h.mi;simp [grpsL];omega
  | succ k ih =>
    have h1:=h.grp (show k < p.grps.length by omega)
    have h2:=h.buks
    have:=groupL_le h w st (rgAt p.grps k) (by omega)
    rw [grpsL_succ w st (by omega),List.length_append]
    have:=ih (by omega)
    omega
def launL (st lo n:Nat) (kd:Nat):List Itm:=(List.range' lo n).map (fun j => (⟨kd,st,j,none⟩:Itm))
theorem launL_succ (st lo n kd:Nat):launL st lo (n + 1) kd = launL st lo n kd ++ [(⟨kd,st,lo + n,none⟩:Itm)]:=by simp [launL,List.range'_concat]
theorem launL_len (st lo n kd:Nat):(launL st lo n kd).length = n:=by simp [launL]
theorem groupL_eq (p:Pln) (w st lo hi:Nat):groupL p w st (lo,hi) = launL st lo (hi - lo) 2 ++ roundsL p w st (lo,hi) (2 * (p.W - 1)) ++ launL st lo (hi - lo) 5:=by
  rw [roundsL_all];rfl
theorem microL_succ (st k:Nat):(List.range (k + 1)).map (fun a => (⟨1,st,a,none⟩:Itm)) = (List.range k).map (fun a => (⟨1,st,a,none⟩:Itm)) ++ [(⟨1,st,k,none⟩:Itm)]:=by simp [List.range_succ]
set_option maxRecDepth 100000 in
set_option maxHeartbeats 4000000 in
theorem items_any (p:Pln) (st x:Nat) (a0 a1 a2 a3 a5 a7 a8 a10 a11:Value) (BA GA:Option Addr) (bc gc:Nat) (w:World)
    (hp:PlnOk p) (hx:x < p.W) (hBr:Rd w BA (rgVals p.buks)) (hGr:Rd w GA (rgVals p.grps)) (hBa:∀ y,BA = some y → y.block < w.heap.size) (hGa:∀ y,GA = some y → y.block < w.heap.size) :
    Calls Tryz.prog 101 #[.agg #[a0,a1,a2,a3,.int .i64 (p.W:Nat),a5,.int .i64 (p.mi:Nat),a7,a8,.int .i64 (p.ck:Nat),a10,a11,.slice BA p.buks.length bc,.slice GA p.grps.length gc],.int .i64 x,.int .i64 (st:Nat)] w fun e w' => ∃ v,e = .returned v ∧ w'.ownsRow w.heap.size 56 12 v (itemsL p x st).length (itVals (itemsL p x st)) ∧ Below w.heap.size w w':=by
  obtain ⟨W0,hW0⟩:∃ W0,(w.alloc (.cells #[a0,a1,a2,a3,.int .i64 (p.W:Nat),a5,.int .i64 (p.mi:Nat),a7,a8,.int .i64 (p.ck:Nat),a10,a11,.slice BA p.buks.length bc,.slice GA p.grps.length gc] 197)).alloc (.cells #[.int .i64 (st:Nat),.slice none 0 0] 242) = W0:=⟨_,rfl⟩
  have g0:W0.heap[w.heap.size]? = some (.cells #[a0,a1,a2,a3,.int .i64 (p.W:Nat),a5,.int .i64 (p.mi:Nat),a7,a8,.int .i64 (p.ck:Nat),a10,a11,.slice BA p.buks.length bc,.slice GA p.grps.length gc] 197 (0,0)):=by
    rw [← hW0,Below.heap_alloc _ _ _ (by simp)];exact heap_alloc_new w _
  have g1:W0.heap[w.heap.size + 1]? = some (.cells #[.int .i64 (st:Nat),.slice none 0 0] 242 (0,0)):=by
    rw [← hW0];have:=heap_alloc_new (w.alloc (.cells #[a0,a1,a2,a3,.int .i64 (p.W:Nat),a5,.int .i64 (p.mi:Nat),a7,a8,.int .i64 (p.ck:Nat),a10,a11,.slice BA p.buks.length bc,.slice GA p.grps.length gc] 197)) (.cells #[.int .i64 (st:Nat),.slice none 0 0] 242);simpa using this
  have hB0:Below w.heap.size w W0:=by rw [← hW0];exact ((br w).alloc (Nat.le_refl _) _).alloc (by simp) _
  have hl0:LstAt W0 (w.heap.size + 1) (w.heap.size + 1) st (.slice none 0 0) []:=⟨g1,World.ownsRow_nil _ _ _ _⟩
  have hs0:w.heap.size + 1 + 1 = W0.heap.size:=by rw [← hW0];simp
  have hz:w.heap.size + 1 < W0.heap.size:=by omega
  have kS:=fun w' (q:Keep (fun j => j = w.heap.size + 1 ∨ (Value.slice none 0 0).ownBlock = some j) W0 w') => (q.block _ (lt_of_block g0) (fun e => e.elim (fun h => by omega) (fun h => by cases h))).trans g0
  have hBr0:Rd W0 BA (rgVals p.buks):=hBr.below hB0
  have hGr0:Rd W0 GA (rgVals p.grps):=hGr.below hB0
  have kB:=fun w' (q:Keep (fun j => j = w.heap.size + 1 ∨ (Value.slice none 0 0).ownBlock = some j) W0 w') => q.rd hBr0 (fun y hy => by
    have:=hBa y hy
    rintro (h | h)
    · omega
    · cases h)
  have kG:=fun w' (q:Keep (fun j => j = w.heap.size + 1 ∨ (Value.slice none 0 0).ownBlock = some j) W0 w') => q.rd hGr0 (fun y hy => by
    have:=hGa y hy
    rintro (h | h)
    · omega
    · cases h)
  have hgl:=hp.grps;have hbl:=hp.buks;have hmi:=hp.mi
  have HW0:=Lib.hid hW0;have HB0:=Lib.hid hB0;have HL0:=Lib.hid hl0;have HS:=Lib.hid kS;have HBk:=Lib.hid kB;have HGk:=Lib.hid kG;have Hs0:=Lib.hid hs0;have HBa:=Lib.hid hBa
  have tS:=fun w' (q:Below W0.heap.size W0 w') => bx14 (kS w' (Keep.below q))
  have q0:=br W0
  clear hW0 g0 g1 hB0 hl0 hBr hBr0 hGr hGr0 kS kB kG hs0 hBa hGa
  go_enter Tryz.func101,Tryz.ntmps101
  go_wp2_with fail
  rw [HW0.out]
  clear tS q0
  go_loopw [22] (fun y wr => ∃ k:Nat,k ≤ p.mi ∧ y = .int .i64 k ∧ ∃ v',LstAt wr (w.heap.size + 1) (w.heap.size + 1) st v' ((List.range k).map (fun a => (⟨1,st,a,none⟩:Itm))) ∧ Apd (w.heap.size + 1) W0 (Value.slice none 0 0) wr v') (fun y _ => p.mi - (intOf y).toNat)
  case atStart => exact ⟨0,Nat.zero_le _,rfl,_,HL0.out,Apd.refl _ _ _⟩
  case round =>
    obtain ⟨k,hk,rfl,v1,l1,A1⟩:=hrel
    by_cases hlt:k < p.mi
    · have hki:(k:Int) < p.mi:=by omega
      have hw1:IntKind.i64.wrap ((k:Int) + 1) = ((k + 1:Nat):Int):=by rw [IntWalk.i64_in _ (by omega)];push_cast;rfl
      have hc:=ladd_none (w.heap.size + 1) (w.heap.size + 1) st k 1 1 rfl v1 _ wr l1 (by have:=A1.1.size;have:=Hs0.out;omega) (by simp;omega)
      have Hc:=Lib.hid hc;have HA1:=Lib.hid A1
      clear hc A1 l1
      go_wp2_with fail
      refine Hc.out.mono ?_
      rintro e w5 ⟨rfl,v5,l5,A5⟩
      rw [← microL_succ] at l5
      have L5:=Lib.hid l5;have B5:=Lib.hid (HA1.out.trans A5)
      clear l5 A5
      go_wp2_with fail
      go_roundw
      case rel => exact ⟨k + 1,by omega,by go_num,v5,L5.out,B5.out⟩
      case measure => simp [intOf];omega
    · obtain rfl:p.mi = k:=by omega
      have hki:¬ ((p.mi:Int) < p.mi):=by omega
      have tS:=fun w' (q:Below wr.heap.size wr w') => bx14 (sb (HS.out wr A1.1) w' q)
      have q0:=br wr
      have HL1:=Lib.hid l1;have HA1:=Lib.hid A1
      clear l1 A1
      go_wp2_with fail
      clear tS q0
      go_loopw [33] (fun y wr => ∃ k:Nat,k ≤ p.grps.length ∧ y = .int .i64 k ∧ ∃ v',LstAt wr (w.heap.size + 1) (w.heap.size + 1) st v' (grpsL p x st k) ∧ Apd (w.heap.size + 1) W0 (Value.slice none 0 0) wr v') (fun y _ => p.grps.length - (intOf y).toNat)
      case atStart => exact ⟨0,Nat.zero_le _,rfl,_,by simpa [grpsL] using HL1.out,HA1.out⟩
      case round =>
        obtain ⟨k,hk,rfl,v2,l2,A2⟩:=hrel
        by_cases hlt:k < p.grps.length
        · have hki:(k:Int) < p.grps.length:=by omega
          have hw0:IntKind.i64.wrap ((k:Int) + 1) = ((k + 1:Nat):Int):=by rw [IntWalk.i64_in _ (by omega)];push_cast;rfl
          obtain ⟨wi,rfl⟩:∃ wi:World,wi = wr:=⟨_,rfl⟩
          have hrv:=rgVals_get hlt
          obtain ⟨bb,bo,rfl,cb0⟩:=HGk.out wi A2.1 _ _ hrv.1
          obtain ⟨bb',bo',e',cb1⟩:=HGk.out wi A2.1 _ _ hrv.2
          obtain ⟨rfl,rfl⟩:bb' = bb ∧ bo' = bo:=by simpa using e'.symm
          rw [← Nat.add_assoc] at cb1
          have hgr:=hp.grp hlt
          have hgsu:=grpsL_succ (p:=p) x st hlt
          have hgrl:=grpsL_le hp x st hk
          obtain ⟨lo,hi,hlh⟩:∃ lo hi,rgAt p.grps k = (lo,hi):=⟨_,_,rfl⟩
          rw [hlh] at hgr cb0 cb1 hgsu
          rw [groupL_eq] at hgsu
          dsimp only at hgr cb0 cb1
          obtain ⟨W3,hW3⟩:∃ W3,wi.alloc (.cells #[.int .i64 (lo:Nat),.int .i64 (hi:Nat)] 52) = W3:=⟨_,rfl⟩
          have h3:W3.heap[wi.heap.size]? = some (.cells #[.int .i64 (lo:Nat),.int .i64 (hi:Nat)] 52 (0,0)):=by rw [← hW3];exact heap_alloc_new wi _
          have k3:Below wi.heap.size wi W3:=by rw [← hW3];exact (br wi).alloc (Nat.le_refl _) _
          have hsw:(w.heap.size + 1) < wi.heap.size:=by have:=A2.1.size;have:=Hs0.out;omega
          have l3':=l2.below k3
          have hR3:=fun w' (q:Keep (fun j => j = (w.heap.size + 1) ∨ v2.ownBlock = some j) W3 w') => (q.block _ (lt_of_block h3) (fun e => e.elim (fun h => by omega) (fun h => block_notrow h3 (by decide) l3'.2 h.symm))).trans h3
          have hs3:(w.heap.size + 1) ≤ W3.heap.size:=by have:=k3.size;omega
          have A3':=A2.trans (Apd.below k3)
          have HW3:=Lib.hid hW3;have HR3:=Lib.hid hR3;have Hs3:=Lib.hid hs3;have HA3:=Lib.hid A3';have HL3:=Lib.hid l3';have Hgsu:=Lib.hid hgsu;have Hgrl:=Lib.hid hgrl
          clear hW3 h3 k3 l3' hR3 hs3 A3' hgsu hgrl l2 A2 hrv e' hlh
          go_wp2_with fail
          rw [HW3.out]
          clear cb0 cb1
          have hrl:(roundsL p x st (lo,hi) (2 * (p.W - 1))).length ≤ 100800:=by
            have h1:=roundsL_le (w:=x) (st:=st) (k:=2 * (p.W - 1)) (g:=(lo,hi)) (M:=120) (p:=p) (fun ph r j => hp.round x st ph r j)
            have h2:=hp.W8
            have h4:2 * (p.W - 1) * ((hi - lo) * 120) ≤ 14 * (60 * 120):=Nat.mul_le_mul (by omega) (Nat.mul_le_mul (by omega) (Nat.le_refl _))
            dsimp only at h1
            omega
          have Hrl:=Lib.hid hrl
          clear hrl
          go_loopw [12] (fun y wr => ∃ j:Nat,lo ≤ j ∧ j ≤ hi ∧ y = .int .i64 j ∧ ∃ v3,LstAt wr (w.heap.size + 1) (w.heap.size + 1) st v3 (grpsL p x st k ++ launL st lo (j - lo) 2) ∧ Apd (w.heap.size + 1) W3 v2 wr v3) (fun y _ => hi - (intOf y).toNat)
          case atStart => exact ⟨lo,Nat.le_refl _,hgr.1,rfl,v2,by simpa [launL] using HL3.out,Apd.refl _ _ _⟩
          case round =>
            obtain ⟨j,hj,hj2,rfl,v3,l3,A3⟩:=hrel
            have uR:=fun w' (q:Below wr.heap.size wr w') => bx2 (sb (HR3.out wr A3.1) w' q)
            have q1:=br wr
            by_cases hjl:j < hi
            · have hji:(j:Int) < hi:=by omega
              have hw1:IntKind.i64.wrap ((j:Int) + 1) = ((j + 1:Nat):Int):=by rw [IntWalk.i64_in _ (by omega)];push_cast;rfl
              have e:grpsL p x st k ++ launL st lo (j + 1 - lo) 2 = (grpsL p x st k ++ launL st lo (j - lo) 2) ++ [(⟨2,st,j,none⟩:Itm)]:=by rw [show j + 1 - lo = (j - lo) + 1 by omega,launL_succ,show lo + (j - lo) = j by omega];simp only [List.append_assoc]
              have hlen:(grpsL p x st k ++ launL st lo (j - lo) 2).length ≤ 8388608:=by
                have:=Hgrl.out
                have:=Hrl.out
                simp only [List.length_append,launL_len]
                omega
              have hc:=ladd_none (w.heap.size + 1) (w.heap.size + 1) st j 2 2 rfl v3 _ wr l3 (by have:=A3.1.size;have:=Hs3.out;omega) hlen
              have Hc:=Lib.hid hc;have HA4:=Lib.hid A3;have He:=Lib.hid e
              clear hc A3 e l3 hlen
              go_wp2_with fail
              refine Hc.out.mono ?_
              rintro e w5 ⟨rfl,v5,l5,A5⟩
              rw [← He.out] at l5
              have L5:=Lib.hid l5;have B5:=Lib.hid (HA4.out.trans A5)
              clear l5 A5 uR q1
              go_wp2_with fail
              go_roundw
              case rel => exact ⟨j + 1,by omega,by omega,by go_num,v5,L5.out,B5.out⟩
              case measure => simp [intOf];omega
            · have hji:¬ ((j:Int) < hi):=by omega
              obtain rfl:hi = j:=by omega
              have uS:=fun w' (q:Below wr.heap.size wr w') => bx14 (sb (HS.out wr (HA3.out.trans A3).1) w' q)
              have hro:=rounds_any p (w.heap.size + 1) (w.heap.size + 1) st x lo hi a0 a1 a2 a3 a5 (.int .i64 (p.mi:Nat)) a7 a8 a10 a11 (.slice (some ⟨bb',bo',none⟩) p.grps.length gc) BA bc v3 _ wr hp l3 (by have:=A3.1.size;have:=Hs3.out;omega) (HBk.out wr (HA3.out.trans A3).1) (fun y hy => by have:=HBa.out y hy;omega) (Nat.le_refl _) hx (by omega) (by
                have:=Hgrl.out
                simp only [List.length_append,launL_len]
                omega)
              have Hro:=Lib.hid hro;have HA4:=Lib.hid A3
              clear hro A3 l3
              go_wp2_with fail
              refine Hro.out.mono ?_
              rintro e w6 ⟨rfl,v6,l6,A6⟩
              have A7:=HA4.out.trans A6
              have uR6:=fun w' (q:Below w6.heap.size w6 w') => bx2 (sb (HR3.out w6 A7.1) w' q)
              have q6:=br w6
              have L6:=Lib.hid l6;have HA7:=Lib.hid A7
              clear l6 A7 A6 uR q1 uS
              go_wp2_with fail
              clear uR6 q6
              go_loopw [13] (fun y wr => ∃ j:Nat,lo ≤ j ∧ j ≤ hi ∧ y = .int .i64 j ∧ ∃ v3,LstAt wr (w.heap.size + 1) (w.heap.size + 1) st v3 ((grpsL p x st k ++ launL st lo (hi - lo) 2 ++ roundsL p x st (lo,hi) (2 * (p.W - 1))) ++ launL st lo (j - lo) 5) ∧ Apd (w.heap.size + 1) W3 v2 wr v3) (fun y _ => hi - (intOf y).toNat)
              case atStart => exact ⟨lo,Nat.le_refl _,hgr.1,rfl,v6,by simpa [launL] using L6.out,HA7.out⟩
              case round =>
                obtain ⟨j,hj,hj2,rfl,v3,l3,A3⟩:=hrel
                have uR:=fun w' (q:Below wr.heap.size wr w') => bx2 (sb (HR3.out wr A3.1) w' q)
                have q1:=br wr
                by_cases hjl:j < hi
                · have hji:(j:Int) < hi:=by omega
                  have hw1:IntKind.i64.wrap ((j:Int) + 1) = ((j + 1:Nat):Int):=by rw [IntWalk.i64_in _ (by omega)];push_cast;rfl
                  have e:(grpsL p x st k ++ launL st lo (hi - lo) 2 ++ roundsL p x st (lo,hi) (2 * (p.W - 1))) ++ launL st lo (j + 1 - lo) 5 = ((grpsL p x st k ++ launL st lo (hi - lo) 2 ++ roundsL p x st (lo,hi) (2 * (p.W - 1))) ++ launL st lo (j - lo) 5) ++ [(⟨5,st,j,none⟩:Itm)]:=by rw [show j + 1 - lo = (j - lo) + 1 by omega,launL_succ,show lo + (j - lo) = j by omega];simp only [List.append_assoc]
                  have hlen:((grpsL p x st k ++ launL st lo (hi - lo) 2 ++ roundsL p x st (lo,hi) (2 * (p.W - 1))) ++ launL st lo (j - lo) 5).length ≤ 8388608:=by
                    have:=Hgrl.out
                    have:=Hrl.out
                    simp only [List.length_append,launL_len]
                    omega
                  have hc:=ladd_none (w.heap.size + 1) (w.heap.size + 1) st j 5 5 rfl v3 _ wr l3 (by have:=A3.1.size;have:=Hs3.out;omega) hlen
                  have Hc:=Lib.hid hc;have HA4:=Lib.hid A3;have He:=Lib.hid e
                  clear hc A3 e l3 hlen
                  go_wp2_with fail
                  refine Hc.out.mono ?_
                  rintro e w5 ⟨rfl,v5,l5,A5⟩
                  rw [← He.out] at l5
                  have L5:=Lib.hid l5;have B5:=Lib.hid (HA4.out.trans A5)
                  clear l5 A5 uR q1
                  go_wp2_with fail
                  go_roundw
                  case rel => exact ⟨j + 1,by omega,by omega,by go_num,v5,L5.out,B5.out⟩
                  case measure => simp [intOf];omega
                · have hji:¬ ((j:Int) < hi):=by omega
                  obtain rfl:hi = j:=by omega
                  rw [List.append_assoc,List.append_assoc] at l3
                  rw [show grpsL p x st k ++ (launL st lo (hi - lo) 2 ++ (roundsL p x st (lo,hi) (2 * (p.W - 1)) ++ launL st lo (hi - lo) 5)) = grpsL p x st (k + 1) by rw [Hgsu.out];simp only [List.append_assoc]] at l3
                  have L9:=Lib.hid l3;have B9:=Lib.hid (HA3.out.trans A3)
                  clear l3 A3
                  go_wp2_with fail
                  go_roundw
                  case rel => exact ⟨k + 1,by omega,by go_num,v3,L9.out,B9.out⟩
                  case measure => simp [intOf];omega
        · have hki:¬ ((k:Int) < p.grps.length):=by omega
          have hke:k = p.grps.length:=by omega
          have hgrl:=grpsL_le hp x st hk
          have hc:=ladd_none (w.heap.size + 1) (w.heap.size + 1) st 0 6 6 rfl v2 _ wr l2 (by have:=A2.1.size;have:=Hs0.out;omega) (by omega)
          have e:grpsL p x st k ++ [(⟨6,st,0,none⟩:Itm)] = itemsL p x st:=by
            unfold grpsL itemsL
            rw [hke,List.take_length]
          rw [e] at hc
          have Hc:=Lib.hid hc;have HA2:=Lib.hid A2
          clear hc A2 l2 e hke hgrl
          go_wp2_with fail
          refine Hc.out.mono ?_
          rintro e w5 ⟨rfl,v5,l5,A5⟩
          have hbl:=(HA2.out.trans A5).1.toBelow (B:=w.heap.size) (by have:=Hs0.out;omega) (by
            rintro j (rfl | hj)
            · omega
            · cases hj)
          have xL:=bx2 l5.1
          have hz5:=lt_of_block l5.1
          have O5:=Lib.hid (own_base (base':=w.heap.size) l5.2 (by omega));have HB:=Lib.hid (HB0.out.trans hbl)
          clear l5 A5 hbl
          go_wp2_with fail
          go_ret
          exact ⟨_,rfl,O5.out,HB.out⟩
end Go.Proofs.YtaccfnffmbndhaaGreat
namespace Go.Proofs.YtaccfnffmbndhaaGreat
open Go.RowKit
def lensL (p:Pln) (m:Nat):List Int:=(List.range m).map fun x => ((itemsL p x 0).length:Int)
theorem lensL_succ (p:Pln) (m:Nat):lensL p (m + 1) = lensL p m ++ [((itemsL p m 0).length:Int)]:=by simp [lensL,List.range_succ]
theorem lensL_len (p:Pln) (m:Nat):(lensL p m).length = m:=by simp [lensL]
def PlanAt (w:World) (P:Nat) (p:Pln) (a0 a1 a2 a3 a5 a7 a11:Value):Prop:=∃ BA bc GA gc LA lc,w.heap[P]? = some (.cells #[a0,a1,a2,a3,.int .i64 (p.W:Nat),a5,.int .i64 (p.mi:Nat),a7,.int .i64 (p.bu:Nat),.int .i64 (p.ck:Nat),.int .i64 (p.wi:Nat),a11,.slice BA p.buks.length bc,.slice GA p.grps.length gc,.slice LA p.W lc] 199 (0,0)) ∧ Rd w BA (rgVals p.buks) ∧ Rd w GA (rgVals p.grps) ∧ Rd w LA (nums .i64 (lensL p p.W))
theorem PlanAt.below {w w':World} {P:Nat} {p:Pln} {a0 a1 a2 a3 a5 a7 a11:Value} (h:PlanAt w P p a0 a1 a2 a3 a5 a7 a11) (hb:Below w.heap.size w w'):PlanAt w' P p a0 a1 a2 a3 a5 a7 a11:=by
  obtain ⟨BA,bc,GA,gc,LA,lc,h1,h2,h3,h4⟩:=h
  exact ⟨BA,bc,GA,gc,LA,lc,sb h1 _ hb,h2.below hb,h3.below hb,h4.below hb⟩
theorem PlanAt.agr {B:Nat} {u v:World} {P:Nat} {p:Pln} {a0 a1 a2 a3 a5 a7 a11:Value} (h:PlanAt (topW B u) P p a0 a1 a2 a3 a5 a7 a11) (hb:Agr B u v):PlanAt v P p a0 a1 a2 a3 a5 a7 a11:=by
  obtain ⟨BA,bc,GA,gc,LA,lc,h1,h2,h3,h4⟩:=h
  exact ⟨BA,bc,GA,gc,LA,lc,top_heap (xs:=[_,_,_,_,_,_,_,_,_,_,_,_,_,_]) h1 hb,top_rd h2 hb,top_rd h3 hb,top_rd h4 hb⟩
set_option maxRecDepth 100000 in
set_option maxHeartbeats 4000000 in
theorem pnew_good (p:Pln) (a0 a1 a2 a3 a5 a7 a11:Value) (w:World) (hp:PlnOk p) (hn:1 ≤ p.n) (hbu:p.bu ≤ 1048576) (hwi:p.wi ≤ 1048576)
    (hck:∀ w',Below w.heap.size w w' → Calls Tryz.prog 88 #[.agg #[a0,a1,a2,a3,.int .i64 (p.W:Nat),a5,.int .i64 (p.mi:Nat),a7,.int .i64 (p.bu:Nat),.int .i64 (p.ck:Nat),.int .i64 (p.wi:Nat),a11]] w' fun e w'' => e = .returned (.int .i64 0) ∧ Below w'.heap.size w' w'') :
    Calls Tryz.prog 45 #[.agg #[a0,a1,a2,a3,.int .i64 (p.W:Nat),a5,.int .i64 (p.mi:Nat),a7,.int .i64 (p.bu:Nat),.int .i64 (p.ck:Nat),.int .i64 (p.wi:Nat),a11],.int .i64 (p.n:Nat)] w fun e w' => ∃ P,e = .returned (.tuple #[.pointer (some ⟨P,0,none⟩),.bool true]) ∧ w.heap.size ≤ P ∧ PlanAt (topW w.heap.size w') P p a0 a1 a2 a3 a5 a7 a11 ∧ Below w.heap.size w w':=by
  obtain ⟨W0,hW0⟩:∃ W0,w.alloc (.cells #[a0,a1,a2,a3,.int .i64 (p.W:Nat),a5,.int .i64 (p.mi:Nat),a7,.int .i64 (p.bu:Nat),.int .i64 (p.ck:Nat),.int .i64 (p.wi:Nat),a11] 24) = W0:=⟨_,rfl⟩
  have g0:W0.heap[w.heap.size]? = some (.cells #[a0,a1,a2,a3,.int .i64 (p.W:Nat),a5,.int .i64 (p.mi:Nat),a7,.int .i64 (p.bu:Nat),.int .i64 (p.ck:Nat),.int .i64 (p.wi:Nat),a11] 24 (0,0)):=by rw [← hW0];exact heap_alloc_new w _
  have hB0:Below w.heap.size w W0:=by rw [← hW0];exact (br w).alloc (Nat.le_refl _) _
  have hc0:=fun w' (q:Below W0.heap.size W0 w') => hck w' (hB0.trans (q.mono hB0.size))
  have t0:=fun w' q => bx12 (sb g0 w' q)
  have hn1:¬ ((p.n:Int) < 1):=by omega
  have hn60:=hp.n
  have hn2:¬ ((p.n:Int) > 1048576):=by omega
  have hn3:¬ (1048576 < (p.n:Int)):=by omega
  have hW1:=hp.W1;have hW8:=hp.W8;have hbu1:=hp.bu;have hwi1:=hp.wi
  have hbuk:p.buks = bukR p.n p.bu:=rfl
  have hgrp:p.grps = blkR p.buks.length p.wi:=rfl
  have hbl:=hp.buks
  have HW0:=Lib.hid hW0;have HB0:=Lib.hid hB0;have HC0:=Lib.hid hc0;have HG0:=Lib.hid g0;have Hbuk:=Lib.hid hbuk;have Hgrp:=Lib.hid hgrp
  have q0:=br W0
  clear hW0 g0 hB0 hc0 hck hbuk hgrp
  go_enter Tryz.func45,Tryz.ntmps45
  go_wp2_with fail
  rw [HW0.out]
  refine (HC0.out _ q0).mono ?_
  rintro e w1 ⟨rfl,k1⟩
  have q1:=bt q0 k1
  go_wp2_with fail
  refine (buckets_any p.n p.bu _ (by omega) hbu1 hbu).mono ?_
  rintro e w2 ⟨v2,rfl,o2,k2⟩
  have q2:=bt q1 k2
  rw [← Hbuk.out] at o2
  obtain ⟨BA,bc,rfl,_⟩:=own_form o2
  go_wp2_with fail
  refine HA.g (fun w':World => Below W0.heap.size W0 w') ?_
  refine HA.t ?_ [0,1,2,3,4,5] q2.drew ?_
  refine HA.c 6 (groups_any p.buks.length p.wi _ (by omega) hwi1 hwi) ?_
  rintro e w3 ⟨v3,rfl,o3,k3⟩
  have q3:=bt q2.drew k3
  rw [← Hgrp.out] at o3
  obtain ⟨GA,gc,rfl,_⟩:=own_form o3
  refine ⟨_,rfl,q3,fun _ => ?_⟩
  refine HA.t ?_ [7,8] q3 ?_
  obtain ⟨W5,hW5⟩:∃ W5,w3.alloc (.cells #[a0,a1,a2,a3,.int .i64 (p.W:Nat),a5,.int .i64 (p.mi:Nat),a7,.int .i64 (p.bu:Nat),.int .i64 (p.ck:Nat),.int .i64 (p.wi:Nat),a11,.slice BA p.buks.length bc,.slice GA p.grps.length gc,.slice none 0 0] 199) = W5:=⟨_,rfl⟩
  have k5:Below w3.heap.size w3 W5:=by rw [← hW5];exact (br w3).alloc (Nat.le_refl _) _
  refine HA.v 9 W5 (.pointer (some ⟨w3.heap.size,0,none⟩)) (bt q3 k5) ?_ (he:=by subst hW5;go_simp)
  refine HA.t ?_ [10] (bt q3 k5) ?_
  refine HA.d ?_
  simp only [Exit.then]
  have g5:W5.heap[w3.heap.size]? = some (.cells #[a0,a1,a2,a3,.int .i64 (p.W:Nat),a5,.int .i64 (p.mi:Nat),a7,.int .i64 (p.bu:Nat),.int .i64 (p.ck:Nat),.int .i64 (p.wi:Nat),a11,.slice BA p.buks.length bc,.slice GA p.grps.length gc,.slice none 0 0] 199 (0,0)):=by rw [← hW5];exact heap_alloc_new w3 _
  have hs5:W5.heap.size = w3.heap.size + 1:=by rw [← hW5];simp
  have q5:=bt q3 k5
  have hB2:=(HB0.out.trans (q2.mono HB0.out.size))
  have hwn:w.heap.size ≤ w3.heap.size:=Nat.le_trans hB2.size (Nat.le_trans (Nat.le_refl _) k3.size)
  have o2':=own_below (own_below (own_drewN o2 1) k3) k5
  have o3':=own_below o3 k5
  have rB2:=Rd.own o2'
  have rG2:=Rd.own o3'
  have hBA:∀ y,BA = some y → y.block < W5.heap.size:=fun y hy => (own_at o2' y hy).2
  have hGA:∀ y,GA = some y → y.block < W5.heap.size:=fun y hy => (own_at o3' y hy).2
  have hBA3:∀ y,BA = some y → w.heap.size ≤ y.block ∧ y.block < w3.heap.size:=fun y hy => ⟨Nat.le_trans (Nat.le_trans HB0.out.size q1.size) (own_at o2 y hy).1,Nat.lt_of_lt_of_le (own_at o2 y hy).2 k3.size⟩
  have hGA3:∀ y,GA = some y → w.heap.size ≤ y.block ∧ y.block < w3.heap.size:=fun y hy => ⟨Nat.le_trans hB2.size (own_at o3 y hy).1,(own_at o3 y hy).2⟩
  have HRB:=Lib.hid rB2;have HRG:=Lib.hid rG2;have HBA:=Lib.hid hBA3;have HGA:=Lib.hid hGA3;have H5:=Lib.hid g5;have Hs5:=Lib.hid hs5;have Hq5:=Lib.hid q5;have Hwn:=Lib.hid hwn
  have t5:=fun w' q => t0 w' (bt q5 q)
  have q55:=br W5
  clear hW5 g5 hs5 o2' o3' o2 o3 rB2 rG2 hBA hGA hBA3 hGA3 k3 k5 q0 q1 q2 q3 q5 t0 hwn
  go_wp2_with fail
  clear t5 q55
  go_loopw [36] (fun y wr => ∃ m:Nat,m ≤ p.W ∧ y = .int .i64 m ∧ ∃ v,wr.heap[w3.heap.size]? = some (.cells #[a0,a1,a2,a3,.int .i64 (p.W:Nat),a5,.int .i64 (p.mi:Nat),a7,.int .i64 (p.bu:Nat),.int .i64 (p.ck:Nat),.int .i64 (p.wi:Nat),a11,.slice BA p.buks.length bc,.slice GA p.grps.length gc,v] 199 (0,0)) ∧ wr.ownsRow W5.heap.size 3 1 v m (nums .i64 (lensL p m)) ∧ Keep (fun j => j = w3.heap.size) W5 wr) (fun y _ => p.W - (intOf y).toNat)
  case atStart => exact ⟨0,Nat.zero_le _,rfl,_,H5.out,World.ownsRow_nil _ _ _ _,Keep.refl _ _⟩
  case round =>
    obtain ⟨m,hm,rfl,v,hP,hO,hK⟩:=hrel
    by_cases hlt:m < p.W
    · have hmi:(m:Int) < p.W:=by omega
      have hw1:IntKind.i64.wrap ((m:Int) + 1) = ((m + 1:Nat):Int):=by rw [IntWalk.i64_in _ (by omega)];push_cast;rfl
      have hPl:=lt_of_block hP
      have kP:=fun w' (q:Keep (fun j => v.ownBlock = some j) wr w') => (q.block _ hPl (fun h => block_notrow hP (by decide) hO h.symm)).trans hP
      have tP:=fun w' q => bx15 (kP w' q)
      have hs5:=Hs5.out
      have hit:∀ w',Keep (fun j => v.ownBlock = some j) wr w' → Calls Tryz.prog 101 #[.agg #[a0,a1,a2,a3,.int .i64 (p.W:Nat),a5,.int .i64 (p.mi:Nat),a7,.int .i64 (p.bu:Nat),.int .i64 (p.ck:Nat),.int .i64 (p.wi:Nat),a11,.slice BA p.buks.length bc,.slice GA p.grps.length gc],.int .i64 (m:Nat),.int .i64 0] w' fun e w'' => ∃ v,e = .returned v ∧ w''.ownsRow w'.heap.size 56 12 v (itemsL p m 0).length (itVals (itemsL p m 0)) ∧ Below w'.heap.size w' w'':=fun w' q =>
        items_any p 0 m a0 a1 a2 a3 a5 a7 (.int .i64 (p.bu:Nat)) (.int .i64 (p.wi:Nat)) a11 BA GA bc gc w' hp hlt
          (q.rd (hK.rd HRB.out (fun y hy => by have:=HBA.out y hy;omega)) (fun y hy e => by have:=(hO.lt _ e).1;have:=HBA.out y hy;omega))
          (q.rd (hK.rd HRG.out (fun y hy => by have:=HGA.out y hy;omega)) (fun y hy e => by have:=(hO.lt _ e).1;have:=HGA.out y hy;omega))
          (fun y hy => by have:=HBA.out y hy;have:=q.size;have:=hK.size;omega) (fun y hy => by have:=HGA.out y hy;have:=q.size;have:=hK.size;omega)
      have hil:(itemsL p m 0).length ≤ 8000000:=by
        have h1:=grpsL_le hp m 0 (Nat.le_refl p.grps.length)
        have h2:=hp.grps
        have:(itemsL p m 0).length = (grpsL p m 0 p.grps.length).length + 1:=by simp [itemsL,grpsL];omega
        omega
      have hsz:=hK.size
      have HPk:=Lib.hid kP;have Hit:=Lib.hid hit;have HO:=Lib.hid hO;have HK:=Lib.hid hK
      have q0:Keep (fun j => v.ownBlock = some j) wr wr.drew:=(Keep.refl _ _).drew
      obtain ⟨n,hn⟩:∃ n,(itemsL p m 0).length = n:=⟨_,rfl⟩
      have hll:=lensL_succ p m
      rw [hn] at hil Hit hll
      have Hll:=Lib.hid hll
      clear kP hit hP hO hK hn hll
      go_wp2_with fail
      refine XA.g 14 (fun w':World => Keep (fun j => v.ownBlock = some j) wr w') ?_
      refine XA.t ?_ [0,1,2,3,4,5,6,7,8,9] q0 ?_
      refine XA.c 10 (Hit.out _ q0) ?_
      rintro e w6 ⟨v6,rfl,o6,k6⟩
      obtain ⟨A6,c6,rfl,_⟩:=own_form o6
      have q6:Keep (fun j => v.ownBlock = some j) wr w6:=q0.trans (Keep.below k6)
      refine ⟨_,rfl,q6,fun _ => ?_⟩
      refine XA.t ?_ [11] q6 ?_
      refine XA.v 12 (w6.alloc (.cells #[.int .i64 (n:Nat)] 3)) (.slice (some ⟨w6.heap.size,0,none⟩) 1 1) (q6.alloc _) ?_
      refine XA.o 13 (fun K' hK' => ?_)
      have hOw:=(own_below (HO.out.drew) k6).alloc (.cells #[.int .i64 (n:Nat)] 3)
      have hs6:=q6.size
      refine step_appX et_ints (.tmp 43) (.tmp 51) rfl rfl W5.heap.size v m _ rfl hOw (some ⟨w6.heap.size,0,none⟩) 1 1 [.int .i64 (n:Nat)] rfl (fun k u hu => ⟨_,_,rfl,by rw [Nat.zero_add,cell_of_row _ w6.heap.size k _ 3 (0,0) (heap_alloc_new w6 _)];simpa using hu⟩) rfl (by simp [Value.oneCell']) (by omega) (by unfold maxLen;omega) (by simp;omega) ?_
      intro A7 c7 w7 ho7 hb7 hg7 _
      have q7:Keep (fun j => v.ownBlock = some j) wr w7:=(q6.alloc _).grown hg7 (fun k hk => .inr hk)
      refine hK'.out _ _ q7 fun _ => ?_
      refine XA.e ?_
      simp only [List.drop_succ_cons,List.drop_zero]
      have hP7:=HPk.out w7 q7
      have e3:=heap_setCell_same w7 w3.heap.size 14 _ _ (.slice A7 (m + 1) c7) hP7
      have k1:Keep (fun j => j = w3.heap.size) w7 (w7.setCell ⟨w3.heap.size,14,none⟩ (.slice A7 (m + 1) c7)):=Keep.setCell (S:=fun j => j = w3.heap.size) (Keep.refl _ _) ⟨w3.heap.size,14,none⟩ (.inr rfl) _
      have o8:=k1.own ho7 (fun j hj e => block_notrow hP7 (by decide) ho7 (by rw [hj,e]))
      have kk:Keep (fun j => j = w3.heap.size) W5 (w7.setCell ⟨w3.heap.size,14,none⟩ (.slice A7 (m + 1) c7)):=by
        refine Keep.trans (b:=w7) ?_ k1
        have h1:=HK.out
        refine ⟨q7.os.trans h1.os,q7.tape.trans h1.tape,q7.output.trans h1.output,Nat.le_trans h1.size q7.size,fun j hj hn => (q7.block j (Nat.lt_of_lt_of_le hj h1.size) (fun e => by have:=(HO.out.lt _ e).1;omega)).trans (h1.block j hj hn)⟩
      rw [show nums .i64 (lensL p m) ++ [Value.int .i64 (n:Nat)] = nums .i64 (lensL p (m + 1)) by rw [Hll.out,nums_append];rfl] at o8
      have E3:=Lib.hid e3;have O8:=Lib.hid o8;have KK:=Lib.hid kk
      have xP:=tP w7 q7
      clear ho7 hb7 hg7 hP7 e3 k1 o8 kk tP hK' K' q7 q6 q0 hOw o6 k6
      go_wp2_with fail
      go_roundw
      case rel => exact ⟨m + 1,by omega,by go_num,_,by simpa using E3.out,O8.out,KK.out⟩
      case measure => simp [intOf];omega
    · have hmi:¬ ((m:Int) < p.W):=by omega
      have hme:m = p.W:=by omega
      have hs5:=Hs5.out
      have hsz:=hK.size
      obtain ⟨LA,lc,rfl,_⟩:=own_form hO
      rw [hme] at hO hP
      have hpa:PlanAt (topW w.heap.size wr) w3.heap.size p a0 a1 a2 a3 a5 a7 a11:=by
        have hw:=Hwn.out
        refine ⟨BA,bc,GA,gc,LA,lc,(top_blk hw).trans hP,(top_keep _ _).rd (hK.rd HRB.out (fun y hy => by have:=(HBA.out y hy).2;omega)) (fun y hy => by have:=(HBA.out y hy).1;omega),(top_keep _ _).rd (hK.rd HRG.out (fun y hy => by have:=(HGA.out y hy).2;omega)) (fun y hy => by have:=(HGA.out y hy).1;omega),Rd.own (own_top hO (by omega))⟩
      have HPa:=Lib.hid hpa
      have hBl:=HB0.out.trans (Hq5.out.mono HB0.out.size)
      have HBl:=Lib.hid (hBl.trans (hK.toBelow (B:=w.heap.size) hBl.size (fun j hj => by have:=Hwn.out;omega)))
      clear hP hO hK hpa hBl hme
      go_wp2_with fail
      go_ret2
      exact ⟨_,rfl,Hwn.out,HPa.out,HBl.out⟩
end Go.Proofs.YtaccfnffmbndhaaGreat
