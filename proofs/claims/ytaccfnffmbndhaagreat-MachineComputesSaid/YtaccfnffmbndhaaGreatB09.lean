/- plan.setting.rounds. The walk of plan.setting.rounds. No condition. -/
import Derived.Test.YtaccfnffmbndhaaGreatB08
set_option linter.unusedSimpArgs false
set_option linter.unusedVariables false
namespace Go.Proofs.YtaccfnffmbndhaaGreat
open Go.RowKit
theorem flat_at {α β:Type} {g:α → List β} {n:Nat} (hn:∀ a,(g a).length = n):∀ {l:List α} {i:Nat} {a:α},l[i]? = some a → ∀ f,f < n → (l.flatMap g)[i * n + f]? = (g a)[f]?
  | [],_,_,h,_,_ => by simp at h
  | x :: l,0,a,h,f,hf => by
    simp only [List.getElem?_cons_zero,Option.some.injEq] at h
    subst h
    rw [List.flatMap_cons,Nat.zero_mul,Nat.zero_add,List.getElem?_append_left (by rw [hn];exact hf)]
  | x :: l,i + 1,a,h,f,hf => by
    simp only [List.getElem?_cons_succ] at h
    rw [List.flatMap_cons,List.getElem?_append_right (by rw [hn,Nat.succ_mul];omega),hn,show (i + 1) * n + f - n = i * n + f by rw [Nat.succ_mul];omega]
    exact flat_at hn h f hf
theorem acn_len (a:Acn):(acnCells a).length = 9:=rfl
theorem acn_cell {w:World} {base n g c:Nat} {l:List Acn} {e:TypeId} (h:w.ownsRow base e 9 (.slice (some ⟨g,0,none⟩) n c) n (acnVals l)) {i:Nat} {a:Acn} (hi:l[i]? = some a) (hl:l.length = n) :
    ∀ f,f < 9 → w.cell? ⟨g,i * 9 + f,none⟩ = (acnCells a)[f]?:=fun f hf => by
  have h1:i < l.length:=(List.getElem?_eq_some_iff.1 hi).1
  have h2:=h.1
  have h3:=flat_at acn_len hi f hf
  rw [h.cellAt _ (by omega),acnVals,h3]
theorem segR_in2 {b:Rg} {k:Nat} {M:Nat} (h1:1 ≤ k) (hb1:b.1 ≤ b.2) (hb:b.2 ≤ M):∀ r ∈ segR b k,r.2 ≤ M:=by
  intro r hr
  simp only [segR,shR,evenR,List.map_map,List.mem_map,List.mem_range,Function.comp] at hr
  obtain ⟨i,hi,rfl⟩:=hr
  have c:=bdN_le (b.2 - b.1) k (i + 1) h1 (by omega)
  simp only
  omega
theorem cntQ_len (n c:Nat):cntQ n c ≤ n:=by
  unfold cntQ
  split
  · omega
  · have:=Nat.div_le_self (n - 1) c
    omega
theorem chR_le {b:Rg} {W c s M:Nat} (h1:1 ≤ W) (hb1:b.1 ≤ b.2) (hb:b.2 ≤ M):(chR (rgAt (segR b W) s) c).length ≤ M:=by
  rw [chR_len]
  have h:=cntQ_len ((rgAt (segR b W) s).2 - (rgAt (segR b W) s).1) c
  rcases Nat.lt_or_ge s (segR b W).length with hs | hs
  · have:=segR_in2 h1 hb1 hb _ (List.getElem_mem hs)
    rw [← rgAt_eq _ _ hs] at this
    omega
  · have:rgAt (segR b W) s = (0,0):=by simp [rgAt,List.getD,hs]
    rw [this] at h ⊢
    exact Nat.le_trans h (Nat.zero_le _)
theorem roundL_le {st bk:Nat} {b:Rg} {W c w ph r M:Nat} (h1:1 ≤ W) (hb1:b.1 ≤ b.2) (hb:b.2 ≤ M):(roundL st bk b W c w ph r).length ≤ 2 * M:=by
  rw [roundL_len]
  have h2:=chR_le (c:=c) (s:=segOut W w ph r) h1 hb1 hb
  have h3:=chR_le (c:=c) (s:=segIn W w ph r) h1 hb1 hb
  omega
def jobsL (p:Pln) (w st k lo:Nat) (n:Nat):List Itm:=(List.range' lo n).flatMap fun j => roundI p w st (k / (p.W - 1)) (k % (p.W - 1)) j
def roundsL (p:Pln) (w st:Nat) (g:Rg) (k:Nat):List Itm:=(List.range k).flatMap fun k => jobsL p w st k g.1 (g.2 - g.1)
theorem jobsL_succ (p:Pln) (w st k lo n:Nat):jobsL p w st k lo (n + 1) = jobsL p w st k lo n ++ roundI p w st (k / (p.W - 1)) (k % (p.W - 1)) (lo + n):=by
  simp [jobsL,List.range'_concat]
theorem roundsL_succ (p:Pln) (w st:Nat) (g:Rg) (k:Nat):roundsL p w st g (k + 1) = roundsL p w st g k ++ jobsL p w st k g.1 (g.2 - g.1):=by
  simp [roundsL,List.range_succ]
theorem jobsL_le {p:Pln} {w st k lo n M:Nat} (h:∀ ph r j,(roundI p w st ph r j).length ≤ M):(jobsL p w st k lo n).length ≤ n * M:=by
  induction n with
  | zero => simp [jobsL]
  | succ n ih => rw [jobsL_succ,List.length_append,Nat.succ_mul];have:=h (k / (p.W - 1)) (k % (p.W - 1)) (lo + n);omega
theorem roundsL_le {p:Pln} {w st k M:Nat} {g:Rg} (h:∀ ph r j,(roundI p w st ph r j).length ≤ M):(roundsL p w st g k).length ≤ k * ((g.2 - g.1) * M):=by
  induction k with
  | zero => simp [roundsL]
  | succ k ih => rw [roundsL_succ,List.length_append,Nat.succ_mul];have:=jobsL_le (w:=w) (st:=st) (k:=k) (lo:=g.1) (n:=g.2 - g.1) h;omega
theorem roundsL_at {p:Pln} {w st k lo n m:Nat} (hm:p.W - 1 = m) {ph r:Nat} (h1:k / m = ph) (h2:k % m = r):jobsL p w st k lo n = (List.range' lo n).flatMap fun j => roundI p w st ph r j:=by
  unfold jobsL
  rw [hm,h1,h2]
theorem roundsL_all (p:Pln) (w st:Nat) (g:Rg):roundsL p w st g (2 * (p.W - 1)) = (List.range 2).flatMap fun ph => (List.range (p.W - 1)).flatMap fun r => (List.range' g.1 (g.2 - g.1)).flatMap fun j => roundI p w st ph r j:=by
  obtain ⟨m,hm⟩:∃ m,p.W - 1 = m:=⟨_,rfl⟩
  obtain ⟨F,hF⟩:∃ F:Nat → Nat → List Itm,(fun ph r => (List.range' g.1 (g.2 - g.1)).flatMap fun j => roundI p w st ph r j) = F:=⟨_,rfl⟩
  have hF2:∀ ph r,((List.range' g.1 (g.2 - g.1)).flatMap fun j => roundI p w st ph r j) = F ph r:=fun ph r => by rw [← hF]
  have h0:∀ k,k ≤ m → roundsL p w st g k = (List.range k).flatMap (F 0):=by
    intro k
    induction k with
    | zero => intro _;rfl
    | succ k ih =>
      intro hk
      have e:=roundsL_at (w:=w) (st:=st) (lo:=g.1) (n:=g.2 - g.1) hm (Nat.div_eq_of_lt (show k < m by omega)) (Nat.mod_eq_of_lt (show k < m by omega))
      rw [roundsL_succ,ih (by omega),e,hF2,List.range_succ,List.flatMap_append]
      simp only [List.flatMap_cons,List.flatMap_nil,List.append_nil]
  have h1:∀ k,k ≤ m → roundsL p w st g (m + k) = roundsL p w st g m ++ (List.range k).flatMap (F 1):=by
    intro k
    induction k with
    | zero => intro _;simp only [Nat.add_zero,List.range_zero,List.flatMap_nil,List.append_nil]
    | succ k ih =>
      intro hk
      have d:(m + k) / m = 1:=by rw [Nat.add_div_left k (by omega),Nat.div_eq_of_lt (by omega)]
      have d2:(m + k) % m = k:=by rw [Nat.add_mod_left,Nat.mod_eq_of_lt (by omega)]
      have e:=roundsL_at (w:=w) (st:=st) (lo:=g.1) (n:=g.2 - g.1) hm d d2
      rw [← Nat.add_assoc,roundsL_succ,ih (by omega),e,hF2,List.range_succ,List.flatMap_append,List.append_assoc]
      simp only [List.flatMap_cons,List.flatMap_nil,List.append_nil]
  simp only [hF2]
  rw [hm,show 2 * m = m + m by omega,h1 m (Nat.le_refl _),h0 m (Nat.le_refl _)]
  show _ = List.flatMap (fun ph => (List.range m).flatMap (F ph)) [0,1]
  simp only [List.flatMap_cons,List.flatMap_nil,List.append_nil]
end Go.Proofs.YtaccfnffmbndhaaGreat
namespace Go.Proofs.YtaccfnffmbndhaaGreat
open Go.RowKit
structure PlnOk (p:Pln):Prop where
  W1:1 ≤ p.W
  W8:p.W ≤ 8
  mi:p.mi ≤ 20
  n:p.n ≤ 60
  bu:1 ≤ p.bu
  ck:1 ≤ p.ck
  ck2:p.ck ≤ 1048576
  wi:1 ≤ p.wi
theorem bukR_in {n s:Nat}:∀ r ∈ bukR n s,r.1 ≤ r.2 ∧ r.2 ≤ n:=by
  intro r hr
  simp only [bukR,List.mem_reverse,blkR,List.mem_map,List.mem_range] at hr
  obtain ⟨i,hi,rfl⟩:=hr
  have:=cntQ_lt hi
  exact ⟨by simp only;omega,by simp only;omega⟩
theorem PlnOk.buks {p:Pln} (h:PlnOk p):p.buks.length ≤ 60:=by
  have:=cntQ_len p.n p.bu
  have:=h.n
  rw [Pln.buks,bukR_len];omega
theorem PlnOk.buk {p:Pln} (h:PlnOk p) (j:Nat):(rgAt p.buks j).1 ≤ (rgAt p.buks j).2 ∧ (rgAt p.buks j).2 ≤ 60:=by
  rcases Nat.lt_or_ge j p.buks.length with hj | hj
  · have:=bukR_in _ (List.getElem_mem hj)
    rw [← rgAt_eq _ _ hj] at this
    have hn:=h.n
    exact ⟨this.1,by omega⟩
  · have:rgAt p.buks j = (0,0):=by simp [rgAt,List.getD,hj]
    rw [this];simp
theorem PlnOk.round {p:Pln} (h:PlnOk p) (w st ph r j:Nat):(roundI p w st ph r j).length ≤ 120:=by
  unfold roundI
  rw [List.length_map]
  exact roundL_le h.W1 (h.buk j).1 (h.buk j).2
set_option maxRecDepth 100000 in
set_option maxHeartbeats 4000000 in
theorem rounds_any (p:Pln) (L base st x:Nat) (lo hi:Nat) (a0 a1 a2 a3 a5 a6 a7 a8 a10 a11 a13:Value) (BA:Option Addr) (bc:Nat) (v:Value) (l:List Itm) (w:World)
    (hp:PlnOk p) (hl:LstAt w L base st v l) (hb:base ≤ w.heap.size) (hBr:Rd w BA (rgVals p.buks)) (hBa:∀ y,BA = some y → y.block < base)
    (hL:base ≤ L) (hx:x < p.W) (hg:hi ≤ p.buks.length) (hll:l.length ≤ 8000000) :
    Calls Tryz.prog 144 #[.agg #[a0,a1,a2,a3,.int .i64 (p.W:Nat),a5,a6,a7,a8,.int .i64 (p.ck:Nat),a10,a11,.slice BA p.buks.length bc,a13],.pointer (some ⟨L,0,none⟩),.int .i64 x,.agg #[.int .i64 (lo:Nat),.int .i64 (hi:Nat)]] w fun e w' => e = .returned (.tuple #[]) ∧
      ∃ v',LstAt w' L base st v' (l ++ roundsL p x st (lo,hi) (2 * (p.W - 1))) ∧ Apd L w v w' v':=by
  obtain ⟨W0,hW0⟩:∃ W0,(w.alloc (.cells #[a0,a1,a2,a3,.int .i64 (p.W:Nat),a5,a6,a7,a8,.int .i64 (p.ck:Nat),a10,a11,.slice BA p.buks.length bc,a13] 197)).alloc (.cells #[.int .i64 (lo:Nat),.int .i64 (hi:Nat)] 52) = W0:=⟨_,rfl⟩
  have g0:W0.heap[w.heap.size]? = some (.cells #[a0,a1,a2,a3,.int .i64 (p.W:Nat),a5,a6,a7,a8,.int .i64 (p.ck:Nat),a10,a11,.slice BA p.buks.length bc,a13] 197 (0,0)):=by
    rw [← hW0,Below.heap_alloc _ _ _ (by simp)];exact heap_alloc_new w _
  have g1:W0.heap[w.heap.size + 1]? = some (.cells #[.int .i64 (lo:Nat),.int .i64 (hi:Nat)] 52 (0,0)):=by
    rw [← hW0];have:=heap_alloc_new (w.alloc (.cells #[a0,a1,a2,a3,.int .i64 (p.W:Nat),a5,a6,a7,a8,.int .i64 (p.ck:Nat),a10,a11,.slice BA p.buks.length bc,a13] 197)) (.cells #[.int .i64 (lo:Nat),.int .i64 (hi:Nat)] 52);simpa using this
  have hB0:Below w.heap.size w W0:=by rw [← hW0];exact ((br w).alloc (Nat.le_refl _) _).alloc (by simp) _
  have hL0:=hl.below hB0
  have hls:=lt_of_block hL0.1
  have hlw:=lt_of_block hl.1
  have kS:=fun w' (q:Keep (fun j => j = L ∨ v.ownBlock = some j) W0 w') => (q.block _ (lt_of_block g0) (fun e => e.elim (fun h => by omega) (fun h => block_notrow g0 (by decide) hL0.2 h.symm))).trans g0
  have kG:=fun w' (q:Keep (fun j => j = L ∨ v.ownBlock = some j) W0 w') => (q.block _ (lt_of_block g1) (fun e => e.elim (fun h => by omega) (fun h => block_notrow g1 (by decide) hL0.2 h.symm))).trans g1
  have hBr0:Rd W0 BA (rgVals p.buks):=hBr.below hB0
  have kB:=fun w' (q:Keep (fun j => j = L ∨ v.ownBlock = some j) W0 w') => q.rd hBr0 (fun y hy => by
    have:=hBa y hy
    rintro (h | h)
    · omega
    · have:=(hl.2.lt _ h).1;omega)
  have hgs:=fun j => hp.buk j
  have hrl:=fun ph r j => hp.round x st ph r j
  obtain ⟨m,hm⟩:∃ m,p.W - 1 = m:=⟨_,rfl⟩
  have hW1:=hp.W1;have hW8:=hp.W8;have hck:=hp.ck;have hck2:=hp.ck2;have hbk:=hp.buks
  have hm1:(p.W:Int) - 1 = (m:Int):=by omega
  obtain ⟨T,hT⟩:∃ T,2 * m = T:=⟨_,rfl⟩
  have hm2:(2:Int) * (m:Int) = (T:Int):=by omega
  have hwm:IntKind.i64.wrap (m:Int) = m:=IntWalk.i64_in _ (by omega)
  have hwT:IntKind.i64.wrap (T:Int) = T:=IntWalk.i64_in _ (by omega)
  rw [hm,hT]
  have HW0:=Lib.hid hW0;have HB0:=Lib.hid hB0;have HL0:=Lib.hid hL0;have HS:=Lib.hid kS;have HG:=Lib.hid kG;have HB:=Lib.hid kB;have Hgs:=Lib.hid hgs;have Hrl:=Lib.hid hrl;have Hm:=Lib.hid hm;have HT:=Lib.hid hT
  have tS:=fun w' (q:Below W0.heap.size W0 w') => bx14 (kS w' (Keep.below q))
  have q0:=br W0
  clear hW0 g0 g1 hB0 hL0 hl hBr hBr0 kS kG kB hgs hrl hm hT hp hls hlw hBa
  go_enter Tryz.func144,Tryz.ntmps144
  go_wp2_with fail
  rw [HW0.out]
  clear tS q0
  go_loopw [19] (fun y wr => ∃ k:Nat,k ≤ T ∧ y = .int .i64 k ∧ ∃ v',LstAt wr L base st v' (l ++ roundsL p x st (lo,hi) k) ∧ Apd L W0 v wr v') (fun y _ => T - (intOf y).toNat)
  case atStart => exact ⟨0,Nat.zero_le _,rfl,v,by simpa [roundsL] using HL0.out,Apd.refl _ _ _⟩
  case round =>
    obtain ⟨k,hk,rfl,v1,hl1,A1⟩:=hrel
    by_cases hlt:k < T
    · have hki:(k:Int) < T:=by omega
      have hm0:0 < m:=by have:=HT.out;omega
      have hw1:IntKind.i64.wrap ((k:Int) + 1) = ((k + 1:Nat):Int):=by rw [IntWalk.i64_in _ (by omega)];push_cast;rfl
      obtain ⟨wq,rfl⟩:∃ wq:World,wq = wr:=⟨_,rfl⟩
      have uG:=fun w' (q:Below wq.heap.size wq w') => bx2 (sb (HG.out wq A1.1) w' q)
      have q1:=br wq
      have Hl1:=Lib.hid hl1;have HA1:=Lib.hid A1
      clear hl1 A1
      go_wp2_with fail
      clear uG q1
      go_loopw [9] (fun y wr => ∃ j:Nat,lo ≤ j ∧ (j ≤ hi ∨ j = lo) ∧ y = .int .i64 j ∧ ∃ v2,LstAt wr L base st v2 (l ++ roundsL p x st (lo,hi) k ++ jobsL p x st k lo (j - lo)) ∧ Apd L W0 v wr v2) (fun y _ => hi - (intOf y).toNat)
      case atStart => exact ⟨lo,Nat.le_refl _,.inr rfl,rfl,v1,by simpa [jobsL] using Hl1.out,HA1.out⟩
      case round =>
        obtain ⟨j,hj,hj2,rfl,v2,hl2,A2⟩:=hrel
        have uG:=fun w' (q:Below wr.heap.size wr w') => bx2 (sb (HG.out wr A2.1) w' q)
        by_cases hjl:j < hi
        · have hji:(j:Int) < hi:=by omega
          obtain ⟨wj,rfl⟩:∃ wj:World,wj = wr:=⟨_,rfl⟩
          have hjb:j < p.buks.length:=by omega
          have hjbI:(j:Int) < p.buks.length:=by omega
          have hrv:=rgVals_get hjb
          obtain ⟨bb,bo,rfl,cb0⟩:=HB.out wj A2.1 _ _ hrv.1
          obtain ⟨bb',bo',e',cb1⟩:=HB.out wj A2.1 _ _ hrv.2
          obtain ⟨rfl,rfl⟩:bb' = bb ∧ bo' = bo:=by simpa using e'.symm
          rw [← Nat.add_assoc] at cb1
          have hbl:=Hgs.out j
          obtain ⟨b1,hb1⟩:∃ b1,(rgAt p.buks j).1 = b1:=⟨_,rfl⟩
          obtain ⟨b2,hb2⟩:∃ b2,(rgAt p.buks j).2 = b2:=⟨_,rfl⟩
          rw [hb1] at cb0 hbl
          rw [hb2] at cb1 hbl
          have d0:=fun w' (q:Below wj.heap.size wj w') => cell_below q cb0
          have d1:=fun w' (q:Below wj.heap.size wj w') => cell_below q cb1
          have uS:=fun w' (q:Below wj.heap.size wj w') => bx14 (sb (HS.out wj A2.1) w' q)
          have uL:=fun w' (q:Below wj.heap.size wj w') => bx2 (sb hl2.1 w' q)
          have Hl2:=Lib.hid hl2;have HA2:=Lib.hid A2;have Hb1:=Lib.hid hb1;have Hb2:=Lib.hid hb2
          have q1:=br wj
          clear hl2 A2 hb1 hb2 hrv e' cb0 cb1
          go_wp2_with fail
          refine XA.g 18 (fun w':World => Below wj.heap.size wj w') ?_
          refine XA.t ?_ [0,1,2,3,4,5,6,7,8,9,10,11,12,13,14,15,16] q1.drew ?_
          refine XA.v 17 (wj.drew.alloc (.cells #[.int .i64 0,.int .i64 0,.int .i64 0,.int .i64 0,.int .i64 0,.int .i64 0] 275)) (.pointer (some ⟨wj.heap.size,0,none⟩)) (q1.drew.alloc (Nat.le_refl _) _) ?_
          refine XA.e ?_
          simp only [List.drop_succ_cons,List.drop_zero]
          have hwz:=lt_of_block (HG.out wj HA2.out.1)
          go_wp2_with fail
          obtain ⟨W7,hW7⟩:∃ W7,(wj.alloc (.cells #[.int .i64 (st:Nat),.int .i64 (j:Nat),.int .i64 (b1:Nat),.int .i64 (b2:Nat),.int .i64 (p.W:Nat),.int .i64 (p.ck:Nat)] 275)).drew = W7:=⟨_,rfl⟩
          have h7:W7.heap[wj.heap.size]? = some (.cells #[.int .i64 (st:Nat),.int .i64 (j:Nat),.int .i64 (b1:Nat),.int .i64 (b2:Nat),.int .i64 (p.W:Nat),.int .i64 (p.ck:Nat)] 275 (0,0)):=by rw [← hW7];exact heap_alloc_new wj _
          have k7:Below wj.heap.size wj W7:=by rw [← hW7];exact (q1.alloc (Nat.le_refl _) _).drew
          rw [hW7]
          have t7:=fun w' (q:Below W7.heap.size W7 w') => bx6 (sb h7 w' q)
          have t8:=fun w' (q:Below W7.heap.size W7 w') => uS w' (bt k7 q)
          have hd1:(k:Int).tdiv (m:Int) = ((k / m:Nat):Int):=rfl
          have hd2:(k:Int) / (m:Int) = ((k / m:Nat):Int):=rfl
          have hr1:(k:Int).tmod (m:Int) = ((k % m:Nat):Int):=rfl
          have hr2:(k:Int) % (m:Int) = ((k % m:Nat):Int):=rfl
          have hk0:¬ (m = 0):=by omega
          have hph:k / m < 2:=by rw [Nat.div_lt_iff_lt_mul hm0];have:=HT.out;omega
          have hrr:k % m < m:=Nat.mod_lt _ hm0
          have e8:roundI p x st (k / (p.W - 1)) (k % (p.W - 1)) j = (roundL st j (b1,b2) p.W p.ck x (k / m) (k % m)).map (itemOf st):=by
            unfold roundI
            rw [Hm.out,← Hb1.out,← Hb2.out]
          have hrl:=Hrl.out (k / (p.W - 1)) (k % (p.W - 1)) j
          rw [e8,List.length_map] at hrl
          obtain ⟨ph,hph0⟩:∃ q,k / m = q:=⟨_,rfl⟩
          obtain ⟨r,hr0⟩:∃ q,k % m = q:=⟨_,rfl⟩
          rw [hph0] at hd1 hd2 hph
          rw [hr0] at hr1 hr2 hrr
          rw [hph0,hr0] at e8 hrl
          have hw2:IntKind.i64.wrap (ph:Int) = ph:=IntWalk.i64_in _ (by omega)
          have H7:=Lib.hid hW7;have K7:=Lib.hid k7;have E8:=Lib.hid e8;have Hrn:=Lib.hid hrl
          have q7:=br W7
          clear hW7 h7 k7 uS uL uG d0 d1 q1 hph0 hr0 e8 hrl hwz
          refine HA.g (fun w':World => Below W7.heap.size W7 w') ?_
          refine HA.t ?_ [0,1,2,3,4,5,6,7,8,9,10,11,12,13,16] q7.drew ?_
          refine HA.c 14 (round_any st j b1 b2 p.W p.ck x ph r _ hW1 (by omega) hx hph (by have:=Hm.out;omega) (by omega) (by omega) hck hck2) ?_
          rintro e w8 ⟨v8,rfl,o8,k8⟩
          have q8:=bt q7.drew k8
          refine ⟨_,rfl,q8,fun _ => ?_⟩
          obtain ⟨A8,c8,rfl,_⟩:=own_form o8
          refine HA.t ?_ [15] q8 ?_
          refine HA.d ?_
          simp only [Exit.then]
          obtain ⟨X,hX⟩:∃ X,roundL st j (b1,b2) p.W p.ck x ph r = X:=⟨_,rfl⟩
          rw [hX] at E8 Hrn o8 ⊢
          obtain ⟨N,hN⟩:∃ N,X.length = N:=⟨_,rfl⟩
          rw [hN] at Hrn o8 ⊢
          have l8:=(Hl2.out.below K7.out).below q8
          have A8':Apd L W0 v w8 v2:=HA2.out.trans (Apd.below (bt K7.out q8))
          have hX8:=fun w' (q:Keep (fun j => j = L ∨ v2.ownBlock = some j) w8 w') => q.own o8 (fun k hk e => by
            have h1:=(o8.lt k hk).1
            have h2:=lt_of_block Hl2.out.1
            have h3:=K7.out.size
            rcases e with e | e
            · have h4:W7.heap.size ≤ k:=h1
              omega
            · have h5:k < wj.heap.size:=(Hl2.out.2.lt k e).2
              have h4:W7.heap.size ≤ k:=h1
              omega)
          have L8:=Lib.hid l8;have HA8:=Lib.hid A8';have HX8:=Lib.hid hX8;have HN:=Lib.hid hN
          clear o8 l8 A8' hX8 k8 q8 q7 t7 t8 hX hN hd1 hd2 hr1 hr2 hw2 hrr hph Hl2 HA2 H7
          go_wp2_with fail
          go_loopw [63] (fun y wr => ∃ i:Nat,i ≤ N ∧ y = .int .i64 i ∧ ∃ v3,LstAt wr L base st v3 (l ++ roundsL p x st (lo,hi) k ++ jobsL p x st k lo (j - lo) ++ (X.take i).map (itemOf st)) ∧ Apd L w8 v2 wr v3) (fun y _ => N - (intOf y).toNat)
          case atStart => exact ⟨0,Nat.zero_le _,rfl,v2,by simpa using L8.out,Apd.refl _ _ _⟩
          case round =>
            obtain ⟨i,hi',rfl,v3,l3,A3⟩:=hrel
            by_cases hil:i < N
            · have hii:(i:Int) < N:=by omega
              have hw5:IntKind.i64.wrap ((i:Int) + 1) = ((i + 1:Nat):Int):=by rw [IntWalk.i64_in _ (by have:=Hrn.out;omega)];push_cast;rfl
              have oX:=HX8.out wr A3.1
              obtain ⟨ga,rfl⟩:∃ ga,A8 = some ⟨ga,0,none⟩:=by
                obtain ⟨g,e,hv,_⟩:=oX.form (by omega)
                simp only [Value.slice.injEq] at hv
                exact ⟨g,hv.1⟩
              have hXi:i < X.length:=by rw [HN.out];exact hil
              obtain ⟨a,ha⟩:∃ a,X[i] = a:=⟨_,rfl⟩
              have ha2:X[i]? = some a:=by rw [← ha];simp
              have cf:=acn_cell oX ha2 HN.out
              have htk:X.take (i + 1) = X.take i ++ [a]:=by rw [List.take_succ_eq_append_getElem hXi,ha]
              have hlen:(l ++ roundsL p x st (lo,hi) k ++ jobsL p x st k lo (j - lo) ++ (X.take i).map (itemOf st)).length ≤ 8388608:=by
                have h1:=roundsL_le (w:=x) (st:=st) (k:=k) (g:=(lo,hi)) (M:=120) (p:=p) (fun ph r j => Hrl.out ph r j)
                have h2:=jobsL_le (w:=x) (st:=st) (k:=k) (lo:=lo) (n:=j - lo) (M:=120) (p:=p) (fun ph r j => Hrl.out ph r j)
                have h3:(X.take i).length ≤ 120:=by rw [List.length_take];have:=Hrn.out;omega
                have h4:k * ((hi - lo) * 120) ≤ 14 * (60 * 120):=Nat.mul_le_mul (by have:=HT.out;omega) (Nat.mul_le_mul (by omega) (Nat.le_refl _))
                have h5:(j - lo) * 120 ≤ 60 * 120:=Nat.mul_le_mul (by omega) (Nat.le_refl _)
                simp only [List.length_append,List.length_map]
                dsimp only at h1
                omega
              obtain ⟨snd,ad,st',bk',ph',rd',ch',at1,at2⟩:=a
              have c0:wr.cell? ⟨ga,i * 9,none⟩ = some (.bool snd):=cf 0 (by omega)
              have c1:wr.cell? ⟨ga,i * 9 + 1,none⟩ = some (.bool ad):=cf 1 (by omega)
              have c2:wr.cell? ⟨ga,i * 9 + 2,none⟩ = some (.int .i64 (st':Nat)):=cf 2 (by omega)
              have c3:wr.cell? ⟨ga,i * 9 + 3,none⟩ = some (.int .i64 (bk':Nat)):=cf 3 (by omega)
              have c4:wr.cell? ⟨ga,i * 9 + 4,none⟩ = some (.int .i64 (ph':Nat)):=cf 4 (by omega)
              have c5:wr.cell? ⟨ga,i * 9 + 5,none⟩ = some (.int .i64 (rd':Nat)):=cf 5 (by omega)
              have c6:wr.cell? ⟨ga,i * 9 + 6,none⟩ = some (.int .i64 (ch':Nat)):=cf 6 (by omega)
              have c7:wr.cell? ⟨ga,i * 9 + 7,none⟩ = some (.int .i64 (at1:Nat)):=cf 7 (by omega)
              have c8:wr.cell? ⟨ga,i * 9 + 8,none⟩ = some (.int .i64 (at2:Nat)):=cf 8 (by omega)
              have hadd:=fun (kd:Int) (kn:Nat) hk w' (q:Below wr.heap.size wr w') => ladd_some L base st kd kn hk ⟨snd,ad,st',bk',ph',rd',ch',at1,at2⟩ v3 _ w' (l3.below q) (Nat.le_trans (Nat.le_trans hb (Nat.le_trans HB0.out.size (HA8.out.trans A3).1.size)) q.size) hlen
              dsimp only at hadd
              have HA3:=Lib.hid A3;have Hadd:=Lib.hid hadd;have Htk:=Lib.hid htk
              clear oX cf l3 A3 hadd htk ha2 hlen
              cases snd
              · go_wp2_with fail
                refine (Hadd.out 4 4 rfl _ ((br wr).alloc (Nat.le_refl _) _)).mono ?_
                rintro e w9 ⟨rfl,v9,l9,A9⟩
                have L9:=Lib.hid l9
                have B9:=Lib.hid (HA3.out.trans ((Apd.below ((br wr).alloc (Nat.le_refl _) _)).trans A9))
                clear l9 A9 c0 c1 c2 c3 c4 c5 c6 c7 c8
                go_wp2_with fail
                go_roundw
                case rel => exact ⟨i + 1,by omega,by go_num,v9,by rw [Htk.out,List.map_append,← List.append_assoc];exact L9.out,B9.out⟩
                case measure => simp [intOf];omega
              · go_wp2_with fail
                refine (Hadd.out 3 3 rfl _ ((br wr).alloc (Nat.le_refl _) _)).mono ?_
                rintro e w9 ⟨rfl,v9,l9,A9⟩
                have L9:=Lib.hid l9
                have B9:=Lib.hid (HA3.out.trans ((Apd.below ((br wr).alloc (Nat.le_refl _) _)).trans A9))
                clear l9 A9 c0 c1 c2 c3 c4 c5 c6 c7 c8
                go_wp2_with fail
                go_roundw
                case rel => exact ⟨i + 1,by omega,by go_num,v9,by rw [Htk.out,List.map_append,← List.append_assoc];exact L9.out,B9.out⟩
                case measure => simp [intOf];omega
            · obtain rfl:N = i:=by omega
              have hii:¬ ((N:Int) < N):=by omega
              have hw6:IntKind.i64.wrap ((j:Int) + 1) = ((j + 1:Nat):Int):=by rw [IntWalk.i64_in _ (by omega)];push_cast;rfl
              rw [List.take_of_length_le (by rw [HN.out];exact Nat.le_refl _),← E8.out,List.append_assoc,show jobsL p x st k lo (j - lo) ++ roundI p x st (k / (p.W - 1)) (k % (p.W - 1)) j = jobsL p x st k lo (j + 1 - lo) from by rw [show j + 1 - lo = (j - lo) + 1 by omega,jobsL_succ,show lo + (j - lo) = j by omega]] at l3
              have L3:=Lib.hid l3
              have B3:=Lib.hid (HA8.out.trans A3)
              clear l3 A3
              go_wp2_with fail
              go_roundw
              case rel => exact ⟨j + 1,by omega,by omega,by go_num,v3,L3.out,B3.out⟩
              case measure => simp [intOf];omega
        · have hji:¬ ((j:Int) < hi):=by omega
          have q1:=br wr
          rw [show j - lo = hi - lo by omega] at hl2
          have e:=roundsL_succ p x st (lo,hi) k
          dsimp only at e
          rw [List.append_assoc,← e] at hl2
          have Hl2:=Lib.hid hl2;have HA2:=Lib.hid A2
          clear hl2 A2 e
          go_wp2_with fail
          go_roundw
          case rel => exact ⟨k + 1,by omega,by go_num,v2,Hl2.out,HA2.out⟩
          case measure => simp [intOf];omega
    · obtain rfl:T = k:=by omega
      have hki:¬ ((T:Int) < T):=by omega
      have Hl1:=Lib.hid hl1;have HA1:=Lib.hid A1
      clear hl1 A1
      go_wp2_with fail
      go_end0
      exact ⟨rfl,v1,Hl1.out,(Apd.below (v:=v) (bt (br w) (HB0.out))).trans HA1.out⟩
end Go.Proofs.YtaccfnffmbndhaaGreat
