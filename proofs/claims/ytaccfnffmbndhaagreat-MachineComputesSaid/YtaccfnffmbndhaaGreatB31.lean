/- The reference's New of a right input. No condition. -/
import Derived.Test.YtaccfnffmbndhaaGreatB30
set_option linter.unusedSimpArgs false
set_option linter.unusedVariables false
namespace Go.Proofs.YtaccfnffmbndhaaGreat
open Go.RowKit
def RMach (w:World) (vs:Array Value) (i:Inp) (x:Nat) (m:Mst):Prop:=∃ A c D cd T ct R cr PA pc MA mc GA gc SA sc IA ic,vs = #[.slice A i.cfg.sizes.length c,.int .i64 i.cfg.shift,.int .i64 i.cfg.rate,.int .i64 i.cfg.mom,.int .i64 i.cfg.workers,.int .i64 i.cfg.batch,.int .i64 i.cfg.micros,.int .i64 i.cfg.steps,.int .i64 i.cfg.bucket,.int .i64 i.cfg.chunk,.int .i64 i.cfg.window,.int .i64 i.cfg.cap,.slice D i.data.length cd,.slice T i.start.length ct,.slice R i.draws.length cr,.int .i64 (x:Nat),.slice PA i.start.length pc,.slice MA i.start.length mc,.slice GA i.start.length gc,.slice SA m.rc.length sc,.slice IA (allL i x).length ic,.int .i64 (doneN i x m:Nat)] ∧
  InpRd w A c D T ct R i ∧ NumsRd w PA m.P pc ∧ NumsRd w MA m.M mc ∧ NumsRd w GA m.G gc ∧ SlRd rEx 2 w SA m.rc ∧ Rd w IA (itVals (allL i x)) ∧ m.P.length = i.start.length ∧ m.M.length = i.start.length ∧ m.G.length = i.start.length
theorem allN_le {i:Inp} (h:SmIn i) (x:Nat) {k:Nat} (hk:k ≤ i.cfg.steps.toNat):(allN i x k).length ≤ 48000000:=by
  rw [allN_len h.ok]
  have h1:=itemsL_le h.ok x 0
  have h2:k ≤ 6:=by have:=h.s;omega
  have:=Nat.mul_le_mul h2 h1
  omega
theorem rep_W64 (n:Nat):W64 (List.replicate n 0):=by
  intro k hk
  rw [nth_eq _ _ hk];simp
def RNew (i:Inp) (x:Nat) (A:Option Addr) (c:Nat) (D:Option Addr) (T:Option Addr) (ct:Nat) (R:Option Addr) (w:World) (e:Ending) (w':World):Prop:=
  ∃ vs,e = .returned (.tuple #[.agg vs,.int .i64 0]) ∧ vs.size = 22 ∧ (vs.toList.all (·.oneCell') = true) ∧ Below w.heap.size w w' ∧ ∀ w'',Keep (fun k => k < w.heap.size) w' w'' → InpRd w'' A c D T ct R i → RMach w'' vs i x (mst0 i)
theorem it_one (l:List Itm):∀ u ∈ itVals l,u.oneCell' = true:=by
  intro u hu
  unfold itVals at hu
  obtain ⟨x,_,hx⟩:=List.mem_flatMap.1 hu
  obtain ⟨k,s,n,a⟩:=x
  cases a <;> simp only [itCells,actC,acnCells,List.mem_cons,List.not_mem_nil,or_false] at hx <;> (repeat (first | (rcases hx with rfl | hx;· rfl) | (subst hx;rfl)))
theorem rm_end {A:Option Addr} {c:Nat} {D:Option Addr} {cd:Nat} {T:Option Addr} {ct:Nat} {R:Option Addr} {cr:Nat} {i:Inp} {x:Nat} {w w9 w'':World} {A2:Option Addr} {g rb:Nat} {v:Value} (hn:i.start.length ≤ 60) (kk:Keep (fun k => k < w.heap.size) w9 w'') (hI:InpRd w'' A c D T ct R i)
    (oM:w9.ownsRow w.heap.size 2 1 (.slice A2 i.start.length i.start.length) i.start.length (nums .i64 (List.replicate i.start.length 0))) (oG:w9.ownsRow w.heap.size 2 1 (.slice (some ⟨g,0,none⟩) i.start.length i.start.length) i.start.length (nums .i64 (List.replicate i.start.length 0)))
    (hr:w9.heap[rb]? = some (.cells #[.slice T i.start.length ct,.slice A2 i.start.length i.start.length] 39 (0,0))) (hrb:w.heap.size ≤ rb) (oI:w9.ownsRow w.heap.size 136 12 v (allL i x).length (itVals (allL i x))):RMach w'' #[.slice A i.cfg.sizes.length c,.int .i64 i.cfg.shift,.int .i64 i.cfg.rate,.int .i64 i.cfg.mom,.int .i64 i.cfg.workers,.int .i64 i.cfg.batch,.int .i64 i.cfg.micros,.int .i64 i.cfg.steps,.int .i64 i.cfg.bucket,.int .i64 i.cfg.chunk,.int .i64 i.cfg.window,.int .i64 i.cfg.cap,.slice D i.data.length cd,.slice T i.start.length ct,.slice R i.draws.length cr,.int .i64 (x:Nat),.slice T i.start.length ct,.slice A2 i.start.length i.start.length,.slice (some ⟨g,0,none⟩) i.start.length i.start.length,.slice (some ⟨rb,0,none⟩) 1 1,v,.int .i64 0] i x (mst0 i):=by
  obtain ⟨IA,ic,rfl,_⟩:=own_form oI
  have hnk:∀ {u:Value} {e size n xs},w9.ownsRow w.heap.size e size u n xs → w''.ownsRow w.heap.size e size u n xs:=fun h => kk.own h fun k hk e => by have:=(h.lt k hk).1;omega
  have e0:doneN i x (mst0 i) = 0:=by simp [doneN,mst0]
  have hrep:(List.replicate i.start.length (0:Int)).length ≤ i.start.length:=by simp
  have hz:NumsRd w'' A2 (List.replicate i.start.length 0) i.start.length:=⟨hrep,by rw [List.length_replicate];omega,Rd.own (hnk oM),rep_W64 _⟩
  have hr2:w''.heap[rb]? = some (.cells #[.slice T i.start.length ct,.slice A2 i.start.length i.start.length] 39 (0,0)):=(kk.block _ (lt_of_block hr) (by omega)).trans hr
  refine ⟨A,c,D,cd,T,ct,R,cr,T,ct,A2,i.start.length,some ⟨g,0,none⟩,i.start.length,some ⟨rb,0,none⟩,1,IA,ic,?_,hI,hI.t,hz,⟨hrep,by show (List.replicate i.start.length (0:Int)).length ≤ _;rw [List.length_replicate];omega,Rd.own (hnk oG),rep_W64 _⟩,?_,Rd.own (hnk oI),rfl,by simp [mst0],by simp [mst0]⟩
  · rw [e0];rfl
  · refine ⟨[[.slice T i.start.length ct,.slice A2 i.start.length i.start.length]],fun k u hu => ⟨_,_,rfl,by rw [Nat.zero_add,cell_of_row _ rb k _ _ _ hr2];simpa using hu⟩,rfl,by simp,?_⟩
    intro j y hy
    cases j with
    | succ j => simp [mst0] at hy
    | zero =>
      simp only [mst0,List.getElem?_cons_zero,Option.some.injEq] at hy
      subst hy
      exact ⟨T,ct,A2,i.start.length,by simp [rowOf],hI.t,hz⟩
theorem rm_fin {W3 V w9:World} {n g rb b:Nat} {X:Obj} {Z:Array Value} {xs:List Value} (hq:Below W3.heap.size W3 V) (ho:V.ownsRow W3.heap.size 2 1 (.slice (some ⟨g,0,none⟩) n n) n xs) {Y:Array Value} (hr:V.heap[rb]? = some (.cells Y 39 (0,0))) (hb:W3.heap.size ≤ rb)
    (gB:V.heap[b]? = some (.cells Z 43 (0,0))) (hbb:W3.heap.size ≤ b) (e9:w9.heap[b]? = some X) (k9:Keep (fun j => j = b) V w9):w9.heap[b]? = some X ∧ w9.ownsRow W3.heap.size 2 1 (.slice (some ⟨g,0,none⟩) n n) n xs ∧ w9.heap[rb]? = some (.cells Y 39 (0,0)) ∧ W3.heap.size ≤ rb ∧ W3.heap.size ≤ b ∧ Below W3.heap.size W3 w9:=by
  refine ⟨e9,k9.own ho (fun k hk e => block_notrow gB (by decide) ho (by rw [hk,e])),(k9.block _ (lt_of_block hr) (fun e => ?_)).trans hr,hb,hbb,hq.trans (k9.toBelow hq.size (fun j hj => by rw [hj];exact hbb))⟩
  rw [← e,hr] at gB
  simp at gB
set_option maxRecDepth 100000 in
set_option maxHeartbeats 4000000 in
theorem rmnew_good (A:Option Addr) (c:Nat) (D:Option Addr) (cd:Nat) (T:Option Addr) (ct:Nat) (R:Option Addr) (cr:Nat) (i:Inp) (x:Nat) (w:World) (h:InpRd w A c D T ct R i) (hs:SmIn i) (hx:x < (plnI i).W) :
    Calls Tryz.prog 13 #[.agg (inpVals A c D cd T ct R cr i),.int .i64 (x:Nat)] w (RNew i x A c D T ct R w):=by
  have hc:=hs.g.c
  have ew:(((plnI i).W:Nat):Int) = i.cfg.workers:=by have:=hc.w;simp only [plnI];omega
  have em:(((plnI i).mi:Nat):Int) = i.cfg.micros:=by have:=hc.mi;simp only [plnI];omega
  have eu:(((plnI i).bu:Nat):Int) = i.cfg.bucket:=by have:=hc.bu;simp only [plnI];omega
  have ec:(((plnI i).ck:Nat):Int) = i.cfg.chunk:=by have:=hc.ch;simp only [plnI];omega
  have ei:(((plnI i).wi:Nat):Int) = i.cfg.window:=by have:=hc.wi;simp only [plnI];omega
  have en:(plnI i).n = i.start.length:=rfl
  obtain ⟨s,hst⟩:∃ s:Nat,i.cfg.steps = (s:Int):=⟨i.cfg.steps.toNat,by have:=hc.st;omega⟩
  have hsT:i.cfg.steps.toNat = s:=by omega
  have hs6:s ≤ 6:=by have:=hs.s;omega
  have hn:=hs.n
  have hxi:¬ i.cfg.workers ≤ (x:Int):=by omega
  have hx0:¬ (x:Int) < 0:=by omega
  have hall:=fun k (hk:k ≤ s) => allN_le hs x (k:=k) (by omega)
  have hil:=fun st => itemsL_le hs.ok x st
  have hstart:=fun w' => rstart_any T i.start.length ct w' (by omega)
  have hplan:=fun w' => rplan21_any A i.cfg.sizes.length c i.cfg.shift i.cfg.rate i.cfg.mom i.cfg.workers i.cfg.batch i.cfg.micros i.cfg.steps i.cfg.bucket i.cfg.chunk i.cfg.window i.cfg.cap D i.data.length cd T i.start.length ct R i.draws.length cr w'
  have hstep:=fun k (hk:k < s) w' => rstep_any (plnI i) k s x A i.cfg.sizes.length c i.cfg.shift i.cfg.rate i.cfg.mom i.cfg.batch i.cfg.cap w' hs.ok (by have:=hc.bu;simp only [plnI];omega) (by have:=hc.wi;simp only [plnI];omega) hx hk
  rw [← hst] at hstep
  simp only [ew,em,eu,ec,ei,en] at hstep
  have hx16:(x:Int) ≤ 1048576:=by have:=hc.w;omega
  obtain ⟨W0,W1,hW0,hW1,g0,g1,k1,-⟩:=rm_boxes w (inpVals A c D cd T ct R cr i) #[.slice none 0 0,.int .i64 0,.int .i64 0,.int .i64 0,.int .i64 0,.int .i64 0,.int .i64 0,.int .i64 0,.int .i64 0,.int .i64 0,.int .i64 0,.int .i64 0,.slice none 0 0,.slice none 0 0,.slice none 0 0,.int .i64 0,.slice none 0 0,.slice none 0 0,.slice none 0 0,.slice none 0 0,.slice none 0 0,.int .i64 0] 29 43
  have hi0:=rinput_any A c D cd T ct R cr i W1 (h.below k1)
  rw [in_good.2 hs.g] at hi0
  have HW0:=Lib.hid hW0;have HW1:=Lib.hid hW1;have Hi0:=Lib.hid hi0;have G0:=Lib.hid g0;have G1:=Lib.hid g1;have K1:=Lib.hid k1;have Hstart:=Lib.hid hstart;have Hplan:=Lib.hid hplan;have Hstep:=Lib.hid hstep
  have Hall:=Lib.hid hall;have Hil:=Lib.hid hil;have HT:=Lib.hid hsT;have Hst:=Lib.hid hst;have Hh:=Lib.hid h;have Hc:=Lib.hid hc
  have t4:∀ w',Below W1.heap.size W1 w' → w'.cell? ⟨w.heap.size,4,none⟩ = some (.int .i64 i.cfg.workers):=fun w' q => cell_of_row w' w.heap.size 4 _ _ _ (sb g0 w' q)
  have t13:∀ w',Below W1.heap.size W1 w' → w'.cell? ⟨w.heap.size,13,none⟩ = some (.slice T i.start.length ct):=fun w' q => cell_of_row w' w.heap.size 13 _ _ _ (sb g0 w' q)
  have tl:=sl g0
  have q0:=br W1
  clear hW0 hW1 g0 g1 hi0 h k1 hstart hplan hstep hall hil hsT hst ew em eu ec ei en hs hc
  go_enter Tryz.func13,Tryz.ntmps13
  go_wp2_with (refine wpl_load (b:=w.heap.size) (inpVals A c D cd T ct R cr i) (by rw [HW0.out,HW1.out];exact G0.out) rt_inp rfl rfl rfl rfl ?_)
  rw [HW0.out,HW1.out]
  refine Hi0.out.mono ?_
  rintro e w1 ⟨rfl,k2⟩
  have q1:=bt q0 k2
  clear k2 q0
  go_wp2_with fail
  refine (Hstart.out w1).mono ?_
  rintro e w2 ⟨A2,rfl,ho2,k3⟩
  have q2:=bt q1 k3
  have O2:=Lib.hid (own_base ho2 q1.size)
  clear ho2 k3 q1
  obtain ⟨W3,hW3⟩:∃ W3,w2.alloc (.cells #[.slice T i.start.length ct,.slice A2 i.start.length i.start.length] 39) = W3:=⟨_,rfl⟩
  have k3:Below w2.heap.size w2 W3:=by rw [← hW3];exact (br w2).alloc (Nat.le_refl _) _
  have g3:W3.heap[w2.heap.size]? = some (.cells #[.slice T i.start.length ct,.slice A2 i.start.length i.start.length] 39 (0,0)):=by rw [← hW3];exact heap_alloc_new w2 _
  have Q3:=Lib.hid (bt q2 k3);have HW3:=Lib.hid hW3;have G3:=Lib.hid g3;have O3:=Lib.hid (own_below O2.out k3)
  go_wp2_with fail
  clear g3 k3 hW3 q2
  go_cut [8] (fun v wx => ∃ b8 g rb,v = .pointer (some ⟨b8,0,none⟩) ∧ wx.heap[b8]? = some (.cells #[.slice A i.cfg.sizes.length c,.int .i64 i.cfg.shift,.int .i64 i.cfg.rate,.int .i64 i.cfg.mom,.int .i64 i.cfg.workers,.int .i64 i.cfg.batch,.int .i64 i.cfg.micros,.int .i64 i.cfg.steps,.int .i64 i.cfg.bucket,.int .i64 i.cfg.chunk,.int .i64 i.cfg.window,.int .i64 i.cfg.cap,.slice D i.data.length cd,.slice T i.start.length ct,.slice R i.draws.length cr,.int .i64 (x:Nat),.slice T i.start.length ct,.slice A2 i.start.length i.start.length,.slice (some ⟨g,0,none⟩) i.start.length i.start.length,.slice (some ⟨rb,0,none⟩) 1 1,.slice none 0 0,.int .i64 0] 43 (0,0)) ∧ wx.ownsRow W3.heap.size 2 1 (.slice (some ⟨g,0,none⟩) i.start.length i.start.length) i.start.length (nums .i64 (List.replicate i.start.length 0)) ∧ wx.heap[rb]? = some (.cells #[.slice T i.start.length ct,.slice A2 i.start.length i.start.length] 39 (0,0)) ∧ W3.heap.size ≤ rb ∧ W3.heap.size ≤ b8 ∧ Below W3.heap.size W3 wx)
  case first =>
    have s7:=fun w' q => bx2 (sb G3.out w' q)
    have sl7:=sl G3.out
    have t13b:=fun w' (q:Below W3.heap.size W3 w') => t13 w' (bt Q3.out q)
    have tlb:=fun w' (q:Below W3.heap.size W3 w') => tl w' (bt Q3.out q)
    clear t4 t13 tl
    have q3:Below W3.heap.size W3 W3.drew:=(br W3).drew
    refine HA.g (fun w':World => Below W3.heap.size W3 w') ?_
    refine HA.ld 0 (inpVals A c D cd T ct R cr i) (fun w' q => sb G0.out w' (bt Q3.out q)) rt_inp q3 ?_
    refine HA.t ?_ [1,2,3,4,5,7] q3 ?_
    obtain ⟨U,hU⟩:∃ U,W3.drew = U:=⟨_,rfl⟩
    rw [hU] at q3 ⊢
    clear hU
    have q:=q3
    clear q3
    refine HA.three 6 8 10 ?_ ?_ ?_
    · obtain ⟨V,hV,oG,bV⟩:=run_mk et_ri64s U rfl i.start.length (by omega) (by unfold maxLen;omega);rw [nums_rep] at oG;replace oG:=own_base oG q.size;replace q:=q.trans (bV.mono q.size);(try replace gR:=sb gR _ bV);(try replace gB:=sb gB _ bV);refine HAS.v V (.slice (some ⟨U.heap.size,0,none⟩) i.start.length i.start.length) q ?_;clear hV bV
      refine HA.two 8 10 ?_ ?_
      · have hRb:=q.size;have bV:=(br V).alloc (Nat.le_refl _) (.cells #[.slice T i.start.length ct,.slice A2 i.start.length i.start.length] 39);have gR:=heap_alloc_new V (.cells #[.slice T i.start.length ct,.slice A2 i.start.length i.start.length] 39);(try replace oG:=own_below oG bV);(try replace gB:=sb gB _ bV);replace q:=q.alloc q.size (.cells #[.slice T i.start.length ct,.slice A2 i.start.length i.start.length] 39);refine HAS.v (V.alloc (.cells #[.slice T i.start.length ct,.slice A2 i.start.length i.start.length] 39)) (.slice (some ⟨V.heap.size,0,none⟩) 1 1) q ?_;obtain ⟨V2,hv⟩:∃ V2,V.alloc (.cells #[.slice T i.start.length ct,.slice A2 i.start.length i.start.length] 39) = V2:=⟨_,rfl⟩;rw [hv] at bV gR q ⊢;(try rw [hv] at oG);(try rw [hv] at gB);clear hv bV
        refine HA.t ?_ [9] q ?_
        have hBb:=q.size;have bV:=(br V2).alloc (Nat.le_refl _) (.cells #[.slice none 0 0,.int .i64 0,.int .i64 0,.int .i64 0,.int .i64 0,.int .i64 0,.int .i64 0,.int .i64 0,.int .i64 0,.int .i64 0,.int .i64 0,.int .i64 0,.slice none 0 0,.slice none 0 0,.slice none 0 0,.int .i64 0,.slice none 0 0,.slice none 0 0,.slice none 0 0,.slice none 0 0,.slice none 0 0,.int .i64 0] 43);have gB:=heap_alloc_new V2 (.cells #[.slice none 0 0,.int .i64 0,.int .i64 0,.int .i64 0,.int .i64 0,.int .i64 0,.int .i64 0,.int .i64 0,.int .i64 0,.int .i64 0,.int .i64 0,.int .i64 0,.slice none 0 0,.slice none 0 0,.slice none 0 0,.int .i64 0,.slice none 0 0,.slice none 0 0,.slice none 0 0,.slice none 0 0,.slice none 0 0,.int .i64 0] 43);(try replace oG:=own_below oG bV);(try replace gR:=sb gR _ bV);replace q:=q.alloc q.size (.cells #[.slice none 0 0,.int .i64 0,.int .i64 0,.int .i64 0,.int .i64 0,.int .i64 0,.int .i64 0,.int .i64 0,.int .i64 0,.int .i64 0,.int .i64 0,.int .i64 0,.slice none 0 0,.slice none 0 0,.slice none 0 0,.int .i64 0,.slice none 0 0,.slice none 0 0,.slice none 0 0,.slice none 0 0,.slice none 0 0,.int .i64 0] 43);refine HA.v 10 (V2.alloc (.cells #[.slice none 0 0,.int .i64 0,.int .i64 0,.int .i64 0,.int .i64 0,.int .i64 0,.int .i64 0,.int .i64 0,.int .i64 0,.int .i64 0,.int .i64 0,.int .i64 0,.slice none 0 0,.slice none 0 0,.slice none 0 0,.int .i64 0,.slice none 0 0,.slice none 0 0,.slice none 0 0,.slice none 0 0,.slice none 0 0,.int .i64 0] 43)) (.pointer (some ⟨V2.heap.size,0,none⟩)) q ?_;obtain ⟨V3,hv⟩:∃ V3,V2.alloc (.cells #[.slice none 0 0,.int .i64 0,.int .i64 0,.int .i64 0,.int .i64 0,.int .i64 0,.int .i64 0,.int .i64 0,.int .i64 0,.int .i64 0,.int .i64 0,.int .i64 0,.slice none 0 0,.slice none 0 0,.slice none 0 0,.int .i64 0,.slice none 0 0,.slice none 0 0,.slice none 0 0,.slice none 0 0,.slice none 0 0,.int .i64 0] 43) = V3:=⟨_,rfl⟩;rw [hv] at bV gB q ⊢;(try rw [hv] at oG);(try rw [hv] at gR);clear hv bV
        refine HA.st 11 gB rt_rm (fun w9 e9 k9 => ?_);have F:=rm_fin q oG gR hRb gB hBb e9 k9;refine ⟨F.2.2.2.2.2,HA.d ?_⟩;clear s7 sl7 t13b tlb e9 k9;have HF:=Lib.hid F;clear F;go_wp2_with fail;go_meet;exact ⟨_,_,_,rfl,HF.out⟩
      · have hBb:=q.size;have bV:=(br V).alloc (Nat.le_refl _) (.cells #[.slice none 0 0,.int .i64 0,.int .i64 0,.int .i64 0,.int .i64 0,.int .i64 0,.int .i64 0,.int .i64 0,.int .i64 0,.int .i64 0,.int .i64 0,.int .i64 0,.slice none 0 0,.slice none 0 0,.slice none 0 0,.int .i64 0,.slice none 0 0,.slice none 0 0,.slice none 0 0,.slice none 0 0,.slice none 0 0,.int .i64 0] 43);have gB:=heap_alloc_new V (.cells #[.slice none 0 0,.int .i64 0,.int .i64 0,.int .i64 0,.int .i64 0,.int .i64 0,.int .i64 0,.int .i64 0,.int .i64 0,.int .i64 0,.int .i64 0,.int .i64 0,.slice none 0 0,.slice none 0 0,.slice none 0 0,.int .i64 0,.slice none 0 0,.slice none 0 0,.slice none 0 0,.slice none 0 0,.slice none 0 0,.int .i64 0] 43);(try replace oG:=own_below oG bV);(try replace gR:=sb gR _ bV);replace q:=q.alloc q.size (.cells #[.slice none 0 0,.int .i64 0,.int .i64 0,.int .i64 0,.int .i64 0,.int .i64 0,.int .i64 0,.int .i64 0,.int .i64 0,.int .i64 0,.int .i64 0,.int .i64 0,.slice none 0 0,.slice none 0 0,.slice none 0 0,.int .i64 0,.slice none 0 0,.slice none 0 0,.slice none 0 0,.slice none 0 0,.slice none 0 0,.int .i64 0] 43);refine HAS.v (V.alloc (.cells #[.slice none 0 0,.int .i64 0,.int .i64 0,.int .i64 0,.int .i64 0,.int .i64 0,.int .i64 0,.int .i64 0,.int .i64 0,.int .i64 0,.int .i64 0,.int .i64 0,.slice none 0 0,.slice none 0 0,.slice none 0 0,.int .i64 0,.slice none 0 0,.slice none 0 0,.slice none 0 0,.slice none 0 0,.slice none 0 0,.int .i64 0] 43)) (.pointer (some ⟨V.heap.size,0,none⟩)) q ?_;obtain ⟨V2,hv⟩:∃ V2,V.alloc (.cells #[.slice none 0 0,.int .i64 0,.int .i64 0,.int .i64 0,.int .i64 0,.int .i64 0,.int .i64 0,.int .i64 0,.int .i64 0,.int .i64 0,.int .i64 0,.int .i64 0,.slice none 0 0,.slice none 0 0,.slice none 0 0,.int .i64 0,.slice none 0 0,.slice none 0 0,.slice none 0 0,.slice none 0 0,.slice none 0 0,.int .i64 0] 43) = V2:=⟨_,rfl⟩;rw [hv] at bV gB q ⊢;(try rw [hv] at oG);(try rw [hv] at gR);clear hv bV
        have hRb:=q.size;have bV:=(br V2).alloc (Nat.le_refl _) (.cells #[.slice T i.start.length ct,.slice A2 i.start.length i.start.length] 39);have gR:=heap_alloc_new V2 (.cells #[.slice T i.start.length ct,.slice A2 i.start.length i.start.length] 39);(try replace oG:=own_below oG bV);(try replace gB:=sb gB _ bV);replace q:=q.alloc q.size (.cells #[.slice T i.start.length ct,.slice A2 i.start.length i.start.length] 39);refine HA.v 8 (V2.alloc (.cells #[.slice T i.start.length ct,.slice A2 i.start.length i.start.length] 39)) (.slice (some ⟨V2.heap.size,0,none⟩) 1 1) q ?_;obtain ⟨V3,hv⟩:∃ V3,V2.alloc (.cells #[.slice T i.start.length ct,.slice A2 i.start.length i.start.length] 39) = V3:=⟨_,rfl⟩;rw [hv] at bV gR q ⊢;(try rw [hv] at oG);(try rw [hv] at gB);clear hv bV
        refine HA.t ?_ [9] q ?_
        refine HA.st 11 gB rt_rm (fun w9 e9 k9 => ?_);have F:=rm_fin q oG gR hRb gB hBb e9 k9;refine ⟨F.2.2.2.2.2,HA.d ?_⟩;clear s7 sl7 t13b tlb e9 k9;have HF:=Lib.hid F;clear F;go_wp2_with fail;go_meet;exact ⟨_,_,_,rfl,HF.out⟩
    · have hRb:=q.size;have bV:=(br U).alloc (Nat.le_refl _) (.cells #[.slice T i.start.length ct,.slice A2 i.start.length i.start.length] 39);have gR:=heap_alloc_new U (.cells #[.slice T i.start.length ct,.slice A2 i.start.length i.start.length] 39);(try replace oG:=own_below oG bV);(try replace gB:=sb gB _ bV);replace q:=q.alloc q.size (.cells #[.slice T i.start.length ct,.slice A2 i.start.length i.start.length] 39);refine HAS.v (U.alloc (.cells #[.slice T i.start.length ct,.slice A2 i.start.length i.start.length] 39)) (.slice (some ⟨U.heap.size,0,none⟩) 1 1) q ?_;obtain ⟨V,hv⟩:∃ V,U.alloc (.cells #[.slice T i.start.length ct,.slice A2 i.start.length i.start.length] 39) = V:=⟨_,rfl⟩;rw [hv] at bV gR q ⊢;(try rw [hv] at oG);(try rw [hv] at gB);clear hv bV
      refine HA.two 6 10 ?_ ?_
      · obtain ⟨V2,hV,oG,bV⟩:=run_mk et_ri64s V rfl i.start.length (by omega) (by unfold maxLen;omega);rw [nums_rep] at oG;replace oG:=own_base oG q.size;replace q:=q.trans (bV.mono q.size);(try replace gR:=sb gR _ bV);(try replace gB:=sb gB _ bV);refine HAS.v V2 (.slice (some ⟨V.heap.size,0,none⟩) i.start.length i.start.length) q ?_;clear hV bV
        refine HA.t ?_ [9] q ?_
        have hBb:=q.size;have bV:=(br V2).alloc (Nat.le_refl _) (.cells #[.slice none 0 0,.int .i64 0,.int .i64 0,.int .i64 0,.int .i64 0,.int .i64 0,.int .i64 0,.int .i64 0,.int .i64 0,.int .i64 0,.int .i64 0,.int .i64 0,.slice none 0 0,.slice none 0 0,.slice none 0 0,.int .i64 0,.slice none 0 0,.slice none 0 0,.slice none 0 0,.slice none 0 0,.slice none 0 0,.int .i64 0] 43);have gB:=heap_alloc_new V2 (.cells #[.slice none 0 0,.int .i64 0,.int .i64 0,.int .i64 0,.int .i64 0,.int .i64 0,.int .i64 0,.int .i64 0,.int .i64 0,.int .i64 0,.int .i64 0,.int .i64 0,.slice none 0 0,.slice none 0 0,.slice none 0 0,.int .i64 0,.slice none 0 0,.slice none 0 0,.slice none 0 0,.slice none 0 0,.slice none 0 0,.int .i64 0] 43);(try replace oG:=own_below oG bV);(try replace gR:=sb gR _ bV);replace q:=q.alloc q.size (.cells #[.slice none 0 0,.int .i64 0,.int .i64 0,.int .i64 0,.int .i64 0,.int .i64 0,.int .i64 0,.int .i64 0,.int .i64 0,.int .i64 0,.int .i64 0,.int .i64 0,.slice none 0 0,.slice none 0 0,.slice none 0 0,.int .i64 0,.slice none 0 0,.slice none 0 0,.slice none 0 0,.slice none 0 0,.slice none 0 0,.int .i64 0] 43);refine HA.v 10 (V2.alloc (.cells #[.slice none 0 0,.int .i64 0,.int .i64 0,.int .i64 0,.int .i64 0,.int .i64 0,.int .i64 0,.int .i64 0,.int .i64 0,.int .i64 0,.int .i64 0,.int .i64 0,.slice none 0 0,.slice none 0 0,.slice none 0 0,.int .i64 0,.slice none 0 0,.slice none 0 0,.slice none 0 0,.slice none 0 0,.slice none 0 0,.int .i64 0] 43)) (.pointer (some ⟨V2.heap.size,0,none⟩)) q ?_;obtain ⟨V3,hv⟩:∃ V3,V2.alloc (.cells #[.slice none 0 0,.int .i64 0,.int .i64 0,.int .i64 0,.int .i64 0,.int .i64 0,.int .i64 0,.int .i64 0,.int .i64 0,.int .i64 0,.int .i64 0,.int .i64 0,.slice none 0 0,.slice none 0 0,.slice none 0 0,.int .i64 0,.slice none 0 0,.slice none 0 0,.slice none 0 0,.slice none 0 0,.slice none 0 0,.int .i64 0] 43) = V3:=⟨_,rfl⟩;rw [hv] at bV gB q ⊢;(try rw [hv] at oG);(try rw [hv] at gR);clear hv bV
        refine HA.st 11 gB rt_rm (fun w9 e9 k9 => ?_);have F:=rm_fin q oG gR hRb gB hBb e9 k9;refine ⟨F.2.2.2.2.2,HA.d ?_⟩;clear s7 sl7 t13b tlb e9 k9;have HF:=Lib.hid F;clear F;go_wp2_with fail;go_meet;exact ⟨_,_,_,rfl,HF.out⟩
      · have hBb:=q.size;have bV:=(br V).alloc (Nat.le_refl _) (.cells #[.slice none 0 0,.int .i64 0,.int .i64 0,.int .i64 0,.int .i64 0,.int .i64 0,.int .i64 0,.int .i64 0,.int .i64 0,.int .i64 0,.int .i64 0,.int .i64 0,.slice none 0 0,.slice none 0 0,.slice none 0 0,.int .i64 0,.slice none 0 0,.slice none 0 0,.slice none 0 0,.slice none 0 0,.slice none 0 0,.int .i64 0] 43);have gB:=heap_alloc_new V (.cells #[.slice none 0 0,.int .i64 0,.int .i64 0,.int .i64 0,.int .i64 0,.int .i64 0,.int .i64 0,.int .i64 0,.int .i64 0,.int .i64 0,.int .i64 0,.int .i64 0,.slice none 0 0,.slice none 0 0,.slice none 0 0,.int .i64 0,.slice none 0 0,.slice none 0 0,.slice none 0 0,.slice none 0 0,.slice none 0 0,.int .i64 0] 43);(try replace oG:=own_below oG bV);(try replace gR:=sb gR _ bV);replace q:=q.alloc q.size (.cells #[.slice none 0 0,.int .i64 0,.int .i64 0,.int .i64 0,.int .i64 0,.int .i64 0,.int .i64 0,.int .i64 0,.int .i64 0,.int .i64 0,.int .i64 0,.int .i64 0,.slice none 0 0,.slice none 0 0,.slice none 0 0,.int .i64 0,.slice none 0 0,.slice none 0 0,.slice none 0 0,.slice none 0 0,.slice none 0 0,.int .i64 0] 43);refine HAS.v (V.alloc (.cells #[.slice none 0 0,.int .i64 0,.int .i64 0,.int .i64 0,.int .i64 0,.int .i64 0,.int .i64 0,.int .i64 0,.int .i64 0,.int .i64 0,.int .i64 0,.int .i64 0,.slice none 0 0,.slice none 0 0,.slice none 0 0,.int .i64 0,.slice none 0 0,.slice none 0 0,.slice none 0 0,.slice none 0 0,.slice none 0 0,.int .i64 0] 43)) (.pointer (some ⟨V.heap.size,0,none⟩)) q ?_;obtain ⟨V2,hv⟩:∃ V2,V.alloc (.cells #[.slice none 0 0,.int .i64 0,.int .i64 0,.int .i64 0,.int .i64 0,.int .i64 0,.int .i64 0,.int .i64 0,.int .i64 0,.int .i64 0,.int .i64 0,.int .i64 0,.slice none 0 0,.slice none 0 0,.slice none 0 0,.int .i64 0,.slice none 0 0,.slice none 0 0,.slice none 0 0,.slice none 0 0,.slice none 0 0,.int .i64 0] 43) = V2:=⟨_,rfl⟩;rw [hv] at bV gB q ⊢;(try rw [hv] at oG);(try rw [hv] at gR);clear hv bV
        obtain ⟨V3,hV,oG,bV⟩:=run_mk et_ri64s V2 rfl i.start.length (by omega) (by unfold maxLen;omega);rw [nums_rep] at oG;replace oG:=own_base oG q.size;replace q:=q.trans (bV.mono q.size);(try replace gR:=sb gR _ bV);(try replace gB:=sb gB _ bV);refine HA.v 6 V3 (.slice (some ⟨V2.heap.size,0,none⟩) i.start.length i.start.length) q ?_;clear hV bV
        refine HA.t ?_ [9] q ?_
        refine HA.st 11 gB rt_rm (fun w9 e9 k9 => ?_);have F:=rm_fin q oG gR hRb gB hBb e9 k9;refine ⟨F.2.2.2.2.2,HA.d ?_⟩;clear s7 sl7 t13b tlb e9 k9;have HF:=Lib.hid F;clear F;go_wp2_with fail;go_meet;exact ⟨_,_,_,rfl,HF.out⟩
    · have hBb:=q.size;have bV:=(br U).alloc (Nat.le_refl _) (.cells #[.slice none 0 0,.int .i64 0,.int .i64 0,.int .i64 0,.int .i64 0,.int .i64 0,.int .i64 0,.int .i64 0,.int .i64 0,.int .i64 0,.int .i64 0,.int .i64 0,.slice none 0 0,.slice none 0 0,.slice none 0 0,.int .i64 0,.slice none 0 0,.slice none 0 0,.slice none 0 0,.slice none 0 0,.slice none 0 0,.int .i64 0] 43);have gB:=heap_alloc_new U (.cells #[.slice none 0 0,.int .i64 0,.int .i64 0,.int .i64 0,.int .i64 0,.int .i64 0,.int .i64 0,.int .i64 0,.int .i64 0,.int .i64 0,.int .i64 0,.int .i64 0,.slice none 0 0,.slice none 0 0,.slice none 0 0,.int .i64 0,.slice none 0 0,.slice none 0 0,.slice none 0 0,.slice none 0 0,.slice none 0 0,.int .i64 0] 43);(try replace oG:=own_below oG bV);(try replace gR:=sb gR _ bV);replace q:=q.alloc q.size (.cells #[.slice none 0 0,.int .i64 0,.int .i64 0,.int .i64 0,.int .i64 0,.int .i64 0,.int .i64 0,.int .i64 0,.int .i64 0,.int .i64 0,.int .i64 0,.int .i64 0,.slice none 0 0,.slice none 0 0,.slice none 0 0,.int .i64 0,.slice none 0 0,.slice none 0 0,.slice none 0 0,.slice none 0 0,.slice none 0 0,.int .i64 0] 43);refine HAS.v (U.alloc (.cells #[.slice none 0 0,.int .i64 0,.int .i64 0,.int .i64 0,.int .i64 0,.int .i64 0,.int .i64 0,.int .i64 0,.int .i64 0,.int .i64 0,.int .i64 0,.int .i64 0,.slice none 0 0,.slice none 0 0,.slice none 0 0,.int .i64 0,.slice none 0 0,.slice none 0 0,.slice none 0 0,.slice none 0 0,.slice none 0 0,.int .i64 0] 43)) (.pointer (some ⟨U.heap.size,0,none⟩)) q ?_;obtain ⟨V,hv⟩:∃ V,U.alloc (.cells #[.slice none 0 0,.int .i64 0,.int .i64 0,.int .i64 0,.int .i64 0,.int .i64 0,.int .i64 0,.int .i64 0,.int .i64 0,.int .i64 0,.int .i64 0,.int .i64 0,.slice none 0 0,.slice none 0 0,.slice none 0 0,.int .i64 0,.slice none 0 0,.slice none 0 0,.slice none 0 0,.slice none 0 0,.slice none 0 0,.int .i64 0] 43) = V:=⟨_,rfl⟩;rw [hv] at bV gB q ⊢;(try rw [hv] at oG);(try rw [hv] at gR);clear hv bV
      refine HA.two 6 8 ?_ ?_
      · obtain ⟨V2,hV,oG,bV⟩:=run_mk et_ri64s V rfl i.start.length (by omega) (by unfold maxLen;omega);rw [nums_rep] at oG;replace oG:=own_base oG q.size;replace q:=q.trans (bV.mono q.size);(try replace gR:=sb gR _ bV);(try replace gB:=sb gB _ bV);refine HAS.v V2 (.slice (some ⟨V.heap.size,0,none⟩) i.start.length i.start.length) q ?_;clear hV bV
        have hRb:=q.size;have bV:=(br V2).alloc (Nat.le_refl _) (.cells #[.slice T i.start.length ct,.slice A2 i.start.length i.start.length] 39);have gR:=heap_alloc_new V2 (.cells #[.slice T i.start.length ct,.slice A2 i.start.length i.start.length] 39);(try replace oG:=own_below oG bV);(try replace gB:=sb gB _ bV);replace q:=q.alloc q.size (.cells #[.slice T i.start.length ct,.slice A2 i.start.length i.start.length] 39);refine HA.v 8 (V2.alloc (.cells #[.slice T i.start.length ct,.slice A2 i.start.length i.start.length] 39)) (.slice (some ⟨V2.heap.size,0,none⟩) 1 1) q ?_;obtain ⟨V3,hv⟩:∃ V3,V2.alloc (.cells #[.slice T i.start.length ct,.slice A2 i.start.length i.start.length] 39) = V3:=⟨_,rfl⟩;rw [hv] at bV gR q ⊢;(try rw [hv] at oG);(try rw [hv] at gB);clear hv bV
        refine HA.t ?_ [9] q ?_
        refine HA.st 11 gB rt_rm (fun w9 e9 k9 => ?_);have F:=rm_fin q oG gR hRb gB hBb e9 k9;refine ⟨F.2.2.2.2.2,HA.d ?_⟩;clear s7 sl7 t13b tlb e9 k9;have HF:=Lib.hid F;clear F;go_wp2_with fail;go_meet;exact ⟨_,_,_,rfl,HF.out⟩
      · have hRb:=q.size;have bV:=(br V).alloc (Nat.le_refl _) (.cells #[.slice T i.start.length ct,.slice A2 i.start.length i.start.length] 39);have gR:=heap_alloc_new V (.cells #[.slice T i.start.length ct,.slice A2 i.start.length i.start.length] 39);(try replace oG:=own_below oG bV);(try replace gB:=sb gB _ bV);replace q:=q.alloc q.size (.cells #[.slice T i.start.length ct,.slice A2 i.start.length i.start.length] 39);refine HAS.v (V.alloc (.cells #[.slice T i.start.length ct,.slice A2 i.start.length i.start.length] 39)) (.slice (some ⟨V.heap.size,0,none⟩) 1 1) q ?_;obtain ⟨V2,hv⟩:∃ V2,V.alloc (.cells #[.slice T i.start.length ct,.slice A2 i.start.length i.start.length] 39) = V2:=⟨_,rfl⟩;rw [hv] at bV gR q ⊢;(try rw [hv] at oG);(try rw [hv] at gB);clear hv bV
        obtain ⟨V3,hV,oG,bV⟩:=run_mk et_ri64s V2 rfl i.start.length (by omega) (by unfold maxLen;omega);rw [nums_rep] at oG;replace oG:=own_base oG q.size;replace q:=q.trans (bV.mono q.size);(try replace gR:=sb gR _ bV);(try replace gB:=sb gB _ bV);refine HA.v 6 V3 (.slice (some ⟨V2.heap.size,0,none⟩) i.start.length i.start.length) q ?_;clear hV bV
        refine HA.t ?_ [9] q ?_
        refine HA.st 11 gB rt_rm (fun w9 e9 k9 => ?_);have F:=rm_fin q oG gR hRb gB hBb e9 k9;refine ⟨F.2.2.2.2.2,HA.d ?_⟩;clear s7 sl7 t13b tlb e9 k9;have HF:=Lib.hid F;clear F;go_wp2_with fail;go_meet;exact ⟨_,_,_,rfl,HF.out⟩
  case rest =>
    obtain ⟨b8,g,rb,rfl,h8,oG,hR,hrb,hb8,hB⟩:=hcut
    have qc:=bt Q3.out hB
    have hwl:=tl W1 (br W1)
    have hwl1:=lt_of_block G1.out
    have hW3:=Q3.out.size
    have gI:=sb G0.out wc qc
    have kI:=fun w' (q:Keep (fun j => j = b8) wc w') => (q.block w.heap.size (tl wc qc) (by omega)).trans gI
    have j7:∀ w',Keep (fun j => j = b8) wc w' → w'.cell? ⟨w.heap.size,7,none⟩ = some (.int .i64 i.cfg.steps):=fun w' q => cell_of_row w' w.heap.size 7 _ _ _ (kI w' q)
    have hl8:=lt_of_block h8
    have gZ:=sb G1.out wc qc
    have H8:=Lib.hid h8;have OG:=Lib.hid oG;have HR:=Lib.hid hR;have HB:=Lib.hid hB;have KI:=Lib.hid kI;have GZ:=Lib.hid gZ
    have qk0:=Keep.refl (fun j => j = b8) wc
    have hwc:w.heap.size < wc.heap.size:=tl wc qc
    clear t4 t13 tl h8 oG hR hB gI kI gZ qc
    go_wp2_with fail
    clear qk0
    go_loopw [9] (fun y wr => ∃ k:Nat,k ≤ s ∧ y = .int .i64 k ∧ ∃ v,wr.heap[b8]? = some (.cells #[.slice A i.cfg.sizes.length c,.int .i64 i.cfg.shift,.int .i64 i.cfg.rate,.int .i64 i.cfg.mom,.int .i64 i.cfg.workers,.int .i64 i.cfg.batch,.int .i64 i.cfg.micros,.int .i64 i.cfg.steps,.int .i64 i.cfg.bucket,.int .i64 i.cfg.chunk,.int .i64 i.cfg.window,.int .i64 i.cfg.cap,.slice D i.data.length cd,.slice T i.start.length ct,.slice R i.draws.length cr,.int .i64 (x:Nat),.slice T i.start.length ct,.slice A2 i.start.length i.start.length,.slice (some ⟨g,0,none⟩) i.start.length i.start.length,.slice (some ⟨rb,0,none⟩) 1 1,v,.int .i64 0] 43 (0,0)) ∧ wr.ownsRow wc.heap.size 136 12 v (allN i x k).length (itVals (allN i x k)) ∧ Keep (fun j => j = b8) wc wr) (fun y _ => s - (intOf y).toNat)
    case atStart => exact ⟨0,Nat.zero_le _,rfl,_,H8.out,by simpa [allN,itVals] using World.ownsRow_nil _ _ _ _,Keep.refl _ _⟩
    case round =>
      obtain ⟨k,hk,rfl,v,e8,oI,qk⟩:=hrel
      by_cases hlt:k < s
      · have hki:(k:Int) < i.cfg.steps:=by rw [Hst.out];omega
        have hw1:IntKind.i64.wrap ((k:Int) + 1) = ((k + 1:Nat):Int):=by rw [IntWalk.i64_in _ (by omega)];push_cast;rfl
        have hne:∀ j,j < wc.heap.size → ¬ v.ownBlock = some j:=fun j hj e => by have:=(oI.lt j e).1;omega
        have kb:=fun w' (q:Keep (fun j => v.ownBlock = some j) wr w') => (q.block b8 (lt_of_block e8) (hne b8 hl8)).trans e8
        have kj:=fun w' (q:Keep (fun j => v.ownBlock = some j) wr w') => (q.block w.heap.size (Nat.lt_of_lt_of_le hwc qk.size) (hne _ hwc)).trans (KI.out wr qk)
        have KB:=Lib.hid kb;have KJ:=Lib.hid kj;have OI:=Lib.hid oI;have QK:=Lib.hid qk
        go_wp2_with fail
        clear j7 qk
        have q20:∀ w',Keep (fun j => v.ownBlock = some j) wr w' → w'.cell? ⟨b8,20,none⟩ = some v:=fun w' q => cell_of_row w' b8 20 _ _ _ (KB.out w' q)
        have q0:Keep (fun j => v.ownBlock = some j) wr wr.drew:=(Keep.refl _ _).drew
        refine XA.g 8 (fun w':World => Keep (fun j => v.ownBlock = some j) wr w') ?_
        refine XA.t ?_ [0,1,4,5] q0 ?_
        refine XA.ld 2 (inpVals A c D cd T ct R cr i) (fun w' q => KJ.out w' q) rt_inp q0 ?_
        refine XA.c 3 (Hplan.out _) ?_
        rintro e w3 ⟨rfl,k3⟩
        refine ⟨_,rfl,q0.trans (Keep.below k3),fun _ => ?_⟩
        have q3:=q0.trans (Keep.below (S:=fun j => v.ownBlock = some j) k3)
        refine XA.c 6 (Hstep.out k hlt w3) ?_
        rintro e w4 ⟨u,rfl,oU,k4⟩
        have q4:=q3.trans (Keep.below (S:=fun j => v.ownBlock = some j) k4)
        refine ⟨_,rfl,q4,fun _ => ?_⟩
        obtain ⟨UA,uc,rfl,_⟩:=own_form oU
        have oI4:=own_below (own_below (OI.out.drew) k3) k4
        have hb4:Below wr.heap.size wr w4:=((br wr).drew.trans k3).trans (k4.mono k3.size)
        have hal:=Hall.out (k + 1) hlt
        rw [allN_succ,List.length_append] at hal
        have hln:((allN i x k).length + (itemsL (plnI i) x k).length) * 88 ≤ 140737488355328:=by omega
        refine XA.o 7 (fun K' hK => ?_)
        refine step_appX et_ritems (.tmp 47) (.tmp 52) rfl rfl wc.heap.size v _ _ rfl oI4 UA _ uc _ rfl (Rd.own oU) oU.1 (it_one _) hln (by unfold maxLen;omega) (Nat.le_trans QK.out.size hb4.size) ?_
        intro A7 c7 w7 o7 b7 g7 _
        have q7:Keep (fun j => v.ownBlock = some j) wr w7:=((Keep.below hb4).grown g7 (fun k hk => .inr hk))
        refine hK.out _ _ q7 fun _ => ?_
        refine XA.e ?_
        simp only [List.drop_succ_cons,List.drop_zero]
        have e7:=KB.out w7 q7
        have f7:=frozen_of_row w7 b8 20 _ _ e7
        have l7:=lt_of_block e7
        rw [← itVals_app,← allN_succ,← List.length_append,← allN_succ] at o7
        have k8:Keep (fun j => j = b8) wc (w7.setCell ⟨b8,20,none⟩ (.slice A7 ((allN i x (k + 1)).length) c7)):=((QK.out.trans (Keep.below hb4)).grown g7 (fun k hk => .inl (by have:=(OI.out.lt k hk).1;omega))).setCell _ (.inr rfl) _
        have e8':=ss (i:=20) (v:=.slice A7 ((allN i x (k + 1)).length) c7) e7 rfl
        have o8:=(Keep.setCell (S:=fun j => j = b8) (Keep.refl _ w7) ⟨b8,20,none⟩ (.inr rfl) (.slice A7 ((allN i x (k + 1)).length) c7)).own o7 (fun j hj e => by have:=(o7.lt j hj).1;omega)
        have K8:=Lib.hid k8;have E8:=Lib.hid e8';have O8:=Lib.hid o8
        rw [← List.length_append,← allN_succ]
        have c20:=q20 w7 q7
        clear hK K' k8 e8' o8 o7 b7 g7 q7 e7 q20 q0 q3 q4 hb4 oI4 k3 k4 hal hln oU
        go_wp2_with fail
        go_roundw
        case rel => exact ⟨k + 1,by omega,by go_num,_,by simpa using E8.out,O8.out,K8.out⟩
        case measure => simp [intOf];omega
      · obtain rfl:k = s:=by omega
        have hki:¬ (k:Int) < i.cfg.steps:=by rw [Hst.out];omega
        obtain ⟨IA,ic,rfl,_⟩:=own_form oI
        have gZ:=(qk.block (w.heap.size + 1) (lt_of_block GZ.out) (by omega)).trans GZ.out
        have E8:=Lib.hid e8;have GZr:=Lib.hid gZ;have OI:=Lib.hid oI;have QK:=Lib.hid qk
        clear e8 gZ oI
        go_wp2_with (first | (refine wpl_load #[.slice A i.cfg.sizes.length c,.int .i64 i.cfg.shift,.int .i64 i.cfg.rate,.int .i64 i.cfg.mom,.int .i64 i.cfg.workers,.int .i64 i.cfg.batch,.int .i64 i.cfg.micros,.int .i64 i.cfg.steps,.int .i64 i.cfg.bucket,.int .i64 i.cfg.chunk,.int .i64 i.cfg.window,.int .i64 i.cfg.cap,.slice D i.data.length cd,.slice T i.start.length ct,.slice R i.draws.length cr,.int .i64 (x:Nat),.slice T i.start.length ct,.slice A2 i.start.length i.start.length,.slice (some ⟨g,0,none⟩) i.start.length i.start.length,.slice (some ⟨rb,0,none⟩) 1 1,.slice IA (allN i x k).length ic,.int .i64 0] E8.out rt_rm rfl rfl rfl rfl ?_) | (refine wpl_store GZr.out rt_rm rfl rfl rfl rfl rfl rfl rfl ?_;intro w9 e9 k9;have E9:=Lib.hid e9;have K9:=Lib.hid k9;clear e9 k9))
        refine bodyPost_ret (res_cell_tmp rfl rfl E9.out rt_rm) rfl ⟨_,rfl,rfl,rfl,?_,fun w'' kk hI => ?_⟩
        · exact ((K1.out.trans (Q3.out.mono K1.out.size)).trans (HB.out.mono (by omega))).trans ((QK.out.toBelow (by omega) (fun j hj => by omega)).trans (K9.out.toBelow (by have:=QK.out.size;omega) (fun j hj => by omega)))
        · have kf:∀ {u:Value} {e size n xs base},base ≤ wc.heap.size → W1.heap.size ≤ base → wc.ownsRow base e size u n xs → (∀ j,u.ownBlock = some j → j ≠ b8) → w9.ownsRow w.heap.size e size u n xs:=fun h1 h2 h3 h4 => own_base (K9.out.own (QK.out.own h3 (fun j hj e => h4 j hj e)) (fun j hj e => by have:=(h3.lt j hj).1;omega)) (by omega)
          have hne8:rb ≠ b8:=fun e => by
            have h8:=H8.out
            rw [← e,HR.out] at h8
            simp at h8
          have hr9:w9.heap[rb]? = some (.cells #[.slice T i.start.length ct,.slice A2 i.start.length i.start.length] 39 (0,0)):=((K9.out.block rb (Nat.lt_of_lt_of_le (lt_of_block HR.out) QK.out.size) (by omega)).trans (QK.out.block rb (lt_of_block HR.out) hne8)).trans HR.out
          have hT:=HT.out
          have oI9:=own_base (base':=w.heap.size) (K9.out.own OI.out (fun j hj e => by have:=(OI.out.lt j hj).1;omega)) (by omega)
          rw [← hT] at oI9 ⊢
          exact rm_end hn kk hI (kf (by have:=HB.out.size;have:=Q3.out.size;omega) (Nat.le_refl _) (own_below O3.out HB.out) (fun j hj => by have:=(O3.out.lt j hj).2;omega)) (kf HB.out.size hW3 OG.out (fun j hj e => block_notrow H8.out (by decide) OG.out (by rw [hj,e]))) hr9 (by omega) oI9
end Go.Proofs.YtaccfnffmbndhaaGreat
