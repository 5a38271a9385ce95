/- machine.New of a right input: a machine. The reference's plan of an input. The reference's check of a configuration. The reference's Epochs and Need. The reference's Check and Few of examples. No condition. -/
import Derived.Test.YtaccfnffmbndhaaGreatB24
import Derived.Test.YtaccfnffmbndhaaGreatB21
import Derived.Test.YtaccfnffmbndhaaGreatB11
import Derived.Test.YtaccfnffmbndhaaGreatB20
import Derived.Test.YtaccfnffmbndhaaGreatB18
import Derived.Deep.RegionHeld3
set_option linter.unusedSimpArgs false
set_option linter.unusedVariables false
namespace Go.Proofs.YtaccfnffmbndhaaGreat
open Go.RowKit
theorem win_ext {lo0:Nat} {w' w'':World} {ms:List Nat} {Q:World → Prop} {S:Nat → Prop} (h:Win lo0 w' ms Q) (hQ:∀ {u v},Q u → Ext u v → Q v) (hk:Keep (fun k => k < lo0) w' w'') (hS:∀ k,S k → k < lo0 ∨ k ∈ ms):Q (hideW S w''):=by
  obtain ⟨lo,u,h1,h2,h3,h4⟩:=h
  refine hQ h2 (ext_topA (fun k hB hl => (hk.block k (Nat.lt_of_lt_of_le hl h3.size) (by omega)).trans (h3.block k hl)) fun k hB hl hs => ?_)
  rcases hS k hs with h | h
  · omega
  · rcases h4 k h with h | h <;> omega
theorem newr_mach {H:Nat → Prop} {i:Inp} {x L:Nat} {A:Option Addr} {c:Nat} {w w' w'':World} {b:Nat} {a:MAd} (hr:NewR i.cfg.sizes x L i.cfg.workers.toNat i.cfg.batch.toNat i.cfg.micros.toNat i.cfg.steps.toNat i.cfg.bucket.toNat i.cfg.chunk.toNat i.cfg.window.toNat i.cfg.cap.toNat i.data.length i.start.length A c i.cfg.shift i.cfg.rate i.cfg.mom i.data i.start i.draws (curL i x 0) w w' b a)
    (hg:GoodCfg i.cfg) (hw:W64 i.start) (hl:i.start.length ≤ 1048576) (hx:x < (plnI i).W) (hk:Keep (fun k => k < w.heap.size) w' w'') (hH:∀ k,H k → k < w.heap.size):MachAt H w'' b i x a (mst0 i):=by
  have ho:∀ k,Mut b a k → k ∈ [b,a.bp,a.bm,a.bg,a.rb]:=by
    rintro k (rfl | rfl | rfl | rfl | rfl | h)
    · simp
    · simp
    · simp
    · simp
    · simp
    · rw [hr.ov] at h;exact absurd h (by simp [Value.ownBlock])
  have hS:∀ k,mutH H b a k → k < w.heap.size ∨ k ∈ [b,a.bp,a.bm,a.bg,a.rb]:=fun k hk => hk.elim (fun h => .inr (ho k h)) fun h => .inl (hH k h)
  have hlo:=hr.lo
  have hno:∀ k,k ∈ [b,a.bp,a.bm,a.bg,a.rb] → ¬ k < w.heap.size:=by
    intro k hk
    simp only [List.mem_cons,List.not_mem_nil,or_false] at hk
    rcases hk with rfl | rfl | rfl | rfl | rfl <;> omega
  have hrep:W64 (List.replicate i.start.length 0):=fun k hk => by
    rw [nth_eq _ _ hk];simp
  have hown:∀ {v:Value} {e size n:Nat} {xs:List Value},(∀ k,v.ownBlock = some k → Mut b a k) → w'.ownsRow 0 e size v n xs → w''.ownsRow 0 e size v n xs:=fun hv h => hk.own h fun k hk' hlt => hno k (ho k (hv k hk')) hlt
  have hblk:∀ {k:Nat} {o:Obj},Mut b a k → w'.heap[k]? = some o → w''.heap[k]? = some o:=fun hm hb => (hk.block _ (lt_of_block hb) (hno _ (ho _ hm))).trans hb
  obtain ⟨A1,c1,A2,c2,lc1,lc2,gR,r1,r2⟩:=hr.re
  have gR':=hblk (.inr (.inr (.inr (.inr (.inl rfl))))) gR
  have hrc:=hr.rc
  have ew:((i.cfg.workers.toNat:Nat):Int) = i.cfg.workers:=by have:=hg.w;omega
  have em:((i.cfg.micros.toNat:Nat):Int) = i.cfg.micros:=by have:=hg.mi;omega
  have hbk:=hblk (.inl rfl) hr.blk
  rw [ew,em] at hbk
  refine ⟨?_,win_ext hr.fo ext_shape hk hS,win_ext hr.ex (ext_sl exts_ex) hk hS,win_ext hr.sa ext_samp hk hS,⟨_,_,_,_,_,_,win_ext hr.pl ext_plan hk hS⟩,win_ext hr.bu ext_rd hk hS,win_ext hr.it ext_rd hk hS,?_,
    hown (fun k e => by cases e;exact .inr (.inl rfl)) hr.oP,hown (fun k e => by cases e;exact .inr (.inr (.inl rfl))) hr.oM,hown (fun k e => by cases e;exact .inr (.inr (.inr (.inl rfl)))) hr.oG,?_,hr.dj,fun k _ hm hh => hno k (ho k hm) (hH k hh),
    ⟨rfl,hw⟩,⟨by simp [mst0],hrep⟩,⟨by simp [mst0],hrep⟩,?_,hx⟩
  · have e0:doneN i x (mst0 i) = 0:=by simp [doneN,mst0]
    rw [e0,hr.ov]
    exact hbk
  · refine ⟨[[.slice A1 i.start.length c1,.slice A2 i.start.length c2]],⟨rfl,.inr ⟨a.rb,1,_,by rw [hrc];first | done | rfl,Nat.zero_le _,gR',Nat.le_refl _,by unfold maxLen;omega,by simp,rfl⟩⟩,rfl,by simp,?_⟩
    intro j y hy
    cases j with
    | succ j => simp [mst0] at hy
    | zero =>
      simp [mst0] at hy
      subst hy
      exact ⟨A1,c1,A2,c2,by simp [rowOf],⟨lc1,by dsimp only;omega,win_ext r1 ext_rd hk hS,hw⟩,⟨by rw [List.length_replicate];exact lc2,by rw [List.length_replicate];omega,win_ext r2 ext_rd hk hS,hrep⟩⟩
  · rw [hr.ov];exact World.ownsRow_nil _ _ _ _
  · show (0 < (curL i x 0).length) ∨ _
    unfold curL
    by_cases h:0 < i.cfg.steps.toNat
    · rw [if_pos h];exact .inl (items_pos _ _ _)
    · exact .inr ⟨rfl,by show i.cfg.steps.toNat ≤ 0;omega⟩
def NewM (i:Inp) (x:Nat) (w:World) (e:Ending) (w':World):Prop:=∃ b a,e = .returned (.tuple #[.pointer (some ⟨b,0,none⟩),.int .i64 0]) ∧ Below w.heap.size w w' ∧ (∀ k,Mut b a k → w.heap.size ≤ k) ∧
  ∀ (H:Nat → Prop) w'',Keep (fun k => k < w.heap.size) w' w'' → (∀ k,H k → k < w.heap.size) → MachAt H w'' b i x a (mst0 i)
theorem mnew_good (A:Option Addr) (c:Nat) (D:Option Addr) (cd:Nat) (T:Option Addr) (ct:Nat) (R:Option Addr) (cr:Nat) (i:Inp) (x:Nat) (w:World) (h:InpRd w A c D T ct R i) (hs:SmIn i) (hx:x < (plnI i).W) :
    Calls Tryz.prog 12 #[.agg (inpVals A c D cd T ct R cr i),.int .i64 (x:Nat)] w (NewM i x w):=by
  have hg:=hs.g.c
  have ew:((i.cfg.workers.toNat:Nat):Int) = i.cfg.workers:=by have:=hg.w;omega
  have eb:((i.cfg.batch.toNat:Nat):Int) = i.cfg.batch:=by have:=hg.ba;have:=hg.w;omega
  have em:((i.cfg.micros.toNat:Nat):Int) = i.cfg.micros:=by have:=hg.mi;omega
  have es:((i.cfg.steps.toNat:Nat):Int) = i.cfg.steps:=by have:=hg.st;omega
  have eu:((i.cfg.bucket.toNat:Nat):Int) = i.cfg.bucket:=by have:=hg.bu;omega
  have ec:((i.cfg.chunk.toNat:Nat):Int) = i.cfg.chunk:=by have:=hg.ch;omega
  have ei:((i.cfg.window.toNat:Nat):Int) = i.cfg.window:=by have:=hg.wi;omega
  have ea:((i.cfg.cap.toNat:Nat):Int) = i.cfg.cap:=by have:=hg.ca;omega
  have hv:inpVals A c D cd T ct R cr i = #[.slice A i.cfg.sizes.length c,.int .i64 i.cfg.shift,.int .i64 i.cfg.rate,.int .i64 i.cfg.mom,.int .i64 (i.cfg.workers.toNat:Nat),.int .i64 (i.cfg.batch.toNat:Nat),.int .i64 (i.cfg.micros.toNat:Nat),.int .i64 (i.cfg.steps.toNat:Nat),.int .i64 (i.cfg.bucket.toNat:Nat),.int .i64 (i.cfg.chunk.toNat:Nat),.int .i64 (i.cfg.window.toNat:Nat),.int .i64 (i.cfg.cap.toNat:Nat),.slice D i.data.length cd,.slice T i.start.length ct,.slice R i.draws.length cr]:=by
    rw [ew,eb,em,es,eu,ec,ei,ea]
  have hvc:cfgVals A c i.cfg = #[.slice A i.cfg.sizes.length c,.int .i64 i.cfg.shift,.int .i64 i.cfg.rate,.int .i64 i.cfg.mom,.int .i64 (i.cfg.workers.toNat:Nat),.int .i64 (i.cfg.batch.toNat:Nat),.int .i64 (i.cfg.micros.toNat:Nat),.int .i64 (i.cfg.steps.toNat:Nat),.int .i64 (i.cfg.bucket.toNat:Nat),.int .i64 (i.cfg.chunk.toNat:Nat),.int .i64 (i.cfg.window.toNat:Nat),.int .i64 (i.cfg.cap.toNat:Nat)]:=by
    rw [ew,eb,em,es,eu,ec,ei,ea]
  have hcn:=hs.g.s
  unfold cnt at hcn
  have hnc:NewC i.cfg.sizes i.cfg.sizes.length i.cfg.workers.toNat i.cfg.batch.toNat i.cfg.micros.toNat i.cfg.steps.toNat i.cfg.bucket.toNat i.cfg.chunk.toNat i.cfg.window.toNat i.cfg.cap.toNat i.start.length i.draws.length A c i.cfg.shift i.cfg.rate i.cfg.mom D cd T ct R cr i.data i.start i.draws w:=by
    constructor
    · intro N hN w' q
      subst hN
      have:=input_any A c D cd T ct R cr i w' (h.below q)
      rw [in_good.2 hs.g,hv] at this
      exact this
    · intro w' q
      refine (snew_codeT A i.cfg.sizes c w' (h.c.hr.below q) h.c.hc h.c.hm).mono ?_
      rintro e w'' ⟨hb,hs'⟩
      rcases hs' with ⟨_,S,he,hS,_⟩ | ⟨hng,_⟩
      · exact ⟨S,he,top_shape hS (agr_top q.size),hb⟩
      · exact absurd hg.z hng
    · intro N hN w' q
      subst hN
      have gd:=hs.g.d;have gb:=hs.g.b;have g1:=hg.w;have g2:=hg.ba;have g3:=hg.st
      unfold needN at gd
      refine (sampler_newT R i.draws cr i.data.length i.cfg.batch.toNat i.cfg.steps.toNat w' (h.r.below q) h.rl h.ru (by omega) (by omega) gb.2 (by omega) gd).mono ?_
      rintro e w'' ⟨S,he,hS,_,hb⟩
      exact ⟨S,he,top_samp hS (agr_top q.size),hb⟩
    · intro F w' hF
      have:=shape_count F i.cfg.sizes w' hF
      rw [← hcn] at this
      exact this
    · intro w' q
      have:=check_any A c i.cfg w' (h.c.below q)
      rw [cfg_good.2 hg,hvc] at this
      exact this
    · exact h.d
    · exact h.dl
    · exact h.t.hr
    · rfl
  rw [hv]
  refine mnew_walk i.cfg.sizes x i.cfg.sizes.length _ _ _ _ _ _ _ _ i.data.length i.start.length i.draws.length A c _ _ _ D cd T ct R cr i.data i.start i.draws w _ hnc rfl hx hs.ok hs.n1 (by have:=hg.bu;omega) (by have:=hg.wi;omega) (curL i x 0) ?_ ?_
  · intro P w' hP
    unfold curL
    by_cases h0:0 < i.cfg.steps.toNat
    · rw [if_pos h0]
      exact pstep_any (plnI i) P x 0 i.cfg.steps.toNat _ _ _ _ _ _ w' hs.ok hs.n1 hx h0 hP
    · rw [if_neg h0]
      refine (pstep_end (plnI i) P x 0 i.cfg.steps.toNat _ _ _ _ _ _ w' hx (by omega) hP).mono ?_
      rintro e w'' ⟨rfl,rfl⟩
      exact ⟨_,rfl,World.ownsRow_nil _ _ _ _,br _⟩
  · intro w' b a hr
    refine ⟨b,a,rfl,hr.k,?_,fun H w'' hk hH => newr_mach hr hg h.t.hw h.tl hx hk hH⟩
    have hlo:=hr.lo
    rintro k (rfl | rfl | rfl | rfl | rfl | hh)
    · exact hlo.1
    · exact hlo.2.1
    · exact hlo.2.2.1
    · exact hlo.2.2.2.1
    · exact hlo.2.2.2.2
    · rw [hr.ov] at hh;exact absurd hh (by simp [Value.ownBlock])
end Go.Proofs.YtaccfnffmbndhaaGreat
namespace Go.Proofs.YtaccfnffmbndhaaGreat
open Go.RowKit
set_option maxRecDepth 100000 in
set_option maxHeartbeats 2000000 in
theorem rplan21_any (A:Option Addr) (L c:Nat) (sh ra mo wk bh mi sn bu ch wi ca:Int) (D:Option Addr) (N cd:Nat) (T:Option Addr) (n ct:Nat) (R:Option Addr) (Q cr:Nat) (w:World) :
    Calls Tryz.prog 27 #[.agg #[.slice A L c,.int .i64 sh,.int .i64 ra,.int .i64 mo,.int .i64 wk,.int .i64 bh,.int .i64 mi,.int .i64 sn,.int .i64 bu,.int .i64 ch,.int .i64 wi,.int .i64 ca,.slice D N cd,.slice T (n:Nat) ct,.slice R Q cr]] w fun e w' => e = .returned (.agg #[.slice A L c,.int .i64 sh,.int .i64 ra,.int .i64 mo,.int .i64 wk,.int .i64 bh,.int .i64 mi,.int .i64 sn,.int .i64 bu,.int .i64 ch,.int .i64 wi,.int .i64 ca,.int .i64 (n:Nat)]) ∧ Below w.heap.size w w':=by
  obtain ⟨W0,hW0⟩:∃ W0,w.alloc (.cells #[.slice A L c,.int .i64 sh,.int .i64 ra,.int .i64 mo,.int .i64 wk,.int .i64 bh,.int .i64 mi,.int .i64 sn,.int .i64 bu,.int .i64 ch,.int .i64 wi,.int .i64 ca,.slice D N cd,.slice T (n:Nat) ct,.slice R Q cr] 29) = W0:=⟨_,rfl⟩
  have g0:W0.heap[w.heap.size]? = some (.cells #[.slice A L c,.int .i64 sh,.int .i64 ra,.int .i64 mo,.int .i64 wk,.int .i64 bh,.int .i64 mi,.int .i64 sn,.int .i64 bu,.int .i64 ch,.int .i64 wi,.int .i64 ca,.slice D N cd,.slice T (n:Nat) ct,.slice R Q cr] 29 (0,0)):=by rw [← hW0];exact heap_alloc_new w _
  have k0:Below w.heap.size w W0:=by rw [← hW0];exact (br w).alloc (Nat.le_refl _) _
  have hs0:W0.heap.size = w.heap.size + 1:=by rw [← hW0];exact Array.size_push _
  have g1:(W0.alloc (.cells #[.slice A L c,.int .i64 sh,.int .i64 ra,.int .i64 mo,.int .i64 wk,.int .i64 bh,.int .i64 mi,.int .i64 sn,.int .i64 bu,.int .i64 ch,.int .i64 wi,.int .i64 ca,.int .i64 (n:Nat)] 79)).heap[w.heap.size + 1]? = some (.cells #[.slice A L c,.int .i64 sh,.int .i64 ra,.int .i64 mo,.int .i64 wk,.int .i64 bh,.int .i64 mi,.int .i64 sn,.int .i64 bu,.int .i64 ch,.int .i64 wi,.int .i64 ca,.int .i64 (n:Nat)] 79 (0,0)):=by rw [← hs0];exact heap_alloc_new W0 _
  have HB:=Lib.hid (k0.alloc k0.size (.cells #[.slice A L c,.int .i64 sh,.int .i64 ra,.int .i64 mo,.int .i64 wk,.int .i64 bh,.int .i64 mi,.int .i64 sn,.int .i64 bu,.int .i64 ch,.int .i64 wi,.int .i64 ca,.int .i64 (n:Nat)] 79))
  have t0:=fun w' (q:Below W0.heap.size W0 w') => bx15 (sb g0 w' q)
  have HW0:=Lib.hid hW0;have G1:=Lib.hid g1
  have l0:=lt_of_block g0
  have p1:=br W0
  clear hW0 g0 g1 k0 hs0
  go_enter Tryz.func27,Tryz.ntmps27
  go_wp2_with fail
  rw [HW0.out]
  obtain ⟨⟨r0,r1,r2,r3,r4,r5,r6,r7,r8,r9,r10,r11,r12⟩,rf⟩:=bx13 G1.out
  exact bodyPost_ret (v:=.agg #[.slice A L c,.int .i64 sh,.int .i64 ra,.int .i64 mo,.int .i64 wk,.int .i64 bh,.int .i64 mi,.int .i64 sn,.int .i64 bu,.int .i64 ch,.int .i64 wi,.int .i64 ca,.int .i64 (n:Nat)]) (by simp [results,Tryz.results27,go_sem,r0,r1,r2,r3,r4,r5,r6,r7,r8,r9,r10,r11,r12]) rfl ⟨rfl,HB.out⟩
end Go.Proofs.YtaccfnffmbndhaaGreat
namespace Go.Proofs.YtaccfnffmbndhaaGreat
open Go.RowKit
def btB (x lo hi:Int):Bool:=decide (lo ≤ x ∧ x ≤ hi)
theorem btw_any (x lo hi:Int) (w:World):Calls Tryz.prog 60 #[.int .i64 x,.int .i64 lo,.int .i64 hi] w fun e w' => e = .returned (.bool (btB x lo hi)) ∧ w = w':=by
  by_cases h1:lo ≤ x
  · by_cases h2:x ≤ hi
    · go_enter Tryz.func60,Tryz.ntmps60
      go_wp2
      go_ret
      exact ⟨ret_bool (by unfold btB;simp [h1,h2]),rfl⟩
    · go_enter Tryz.func60,Tryz.ntmps60
      go_wp2
      go_ret
      exact ⟨ret_bool (by unfold btB;simp;omega),rfl⟩
  · go_enter Tryz.func60,Tryz.ntmps60
    go_wp2
    go_ret
    exact ⟨ret_bool (by unfold btB;simp;omega),rfl⟩
theorem rsz_code (A:Option Addr) (sz:List Int) (c:Nat) (w:World) (hA:Rd w A (nums .i64 sz)) (hl:sz.length ≤ 17592186043904) :
    Calls Tryz.prog 107 #[.slice A sz.length c] w fun e w' => e = .returned (.int .i64 (szCode sz)) ∧ ∃ n,w' = w.drewN n:=by
  by_cases h:2 ≤ sz.length ∧ sz.length ≤ 16
  · refine (rcheck_long A sz c w hA h).mono fun e w' ⟨h1,h2⟩ => ⟨?_,h2⟩
    rcases h1 with ⟨hR,rfl⟩ | ⟨hR,rfl⟩
    · refine ret_int ?_
      unfold codeN
      by_cases hc:1048576 < cntN sz (sz.length - 1)
      · rw [if_pos hc,szCode_long (fun hg => by have:=hg.2;omega) hR]
      · rw [if_neg hc,szCode_good ⟨hR,by omega⟩]
    · exact ret_int (szCode_wrong hR).symm
  · exact (rcheck_short A sz c w hl h).mono fun e w' ⟨h1,h2⟩ => ⟨by rw [h1,szCode_wrong (fun hr => h hr.1)],0,h2.symm⟩
theorem sixB_bad (a b c d e f:Int) {g:Bool} {l:List Int} (hl:[a,b,c,d,e,f] = l) {k:Nat} (hk:k < 5) (h:okB (nth l k) = false):(okB a && okB b && okB c && okB d && okB e && g) = false:=by
  subst hl
  match k,hk with
  | 0,_ => simp only [show nth [a,b,c,d,e,f] 0 = a from rfl] at h;simp [h]
  | 1,_ => simp only [show nth [a,b,c,d,e,f] 1 = b from rfl] at h;simp [h]
  | 2,_ => simp only [show nth [a,b,c,d,e,f] 2 = c from rfl] at h;simp [h]
  | 3,_ => simp only [show nth [a,b,c,d,e,f] 3 = d from rfl] at h;simp [h]
  | 4,_ => simp only [show nth [a,b,c,d,e,f] 4 = e from rfl] at h;simp [h]
theorem sixB_good (a b c d e f:Int) (g:Bool) {l:List Int} (hl:[a,b,c,d,e,f] = l) (h:∀ j,j < 5 → okB (nth l j) = true) (hg:g = true):(okB a && okB b && okB c && okB d && okB e && g) = true:=by
  subst hl
  have h0:okB a = true:=h 0 (by omega)
  have h1:okB b = true:=h 1 (by omega)
  have h2:okB c = true:=h 2 (by omega)
  have h3:okB d = true:=h 3 (by omega)
  have h4:okB e = true:=h 4 (by omega)
  simp [h0,h1,h2,h3,h4,hg]
set_option maxRecDepth 100000 in
set_option maxHeartbeats 4000000 in
theorem rcfg_any (A:Option Addr) (c:Nat) (k:Cfg) (w:World) (h:CfgRd w A c k) :
    Calls Tryz.prog 59 #[.agg (cfgVals A c k)] w fun e w' => e = .returned (.int .i64 (cfgCode k)) ∧ Below w.heap.size w w':=by
  have hsz:=fun w' (q:Below w.heap.size w w') => rsz_code A k.sizes c w' (h.hr.below q) h.hl
  have f6:=@cfg_6 k;have f9:=@cfg_9 k;have fs:=@cfg_s k;have f2:=@cfg_2 k;have f7:=@cfg_7 k;have f0:=@cfg_0 k
  unfold wkB shB numsB baB stepsB at *
  obtain ⟨code,hcode⟩:∃ code,cfgCode k = code:=⟨_,rfl⟩
  rw [hcode] at f6 f9 fs f2 f7 f0 ⊢
  clear hcode h
  obtain ⟨sz,sh,ra,mo,wk,ba,mi,st,bu,ch,wi,ca⟩:=k
  dsimp only [cfgVals] at *
  obtain ⟨L,hL⟩:∃ L,sz.length = L:=⟨_,rfl⟩
  obtain ⟨sc,hsc⟩:∃ sc,szCode sz = sc:=⟨_,rfl⟩
  rw [hL,hsc] at hsz
  rw [hsc] at fs f2 f7 f0
  rw [hL] at ⊢
  have Hsz:=Lib.hid hsz;have F6:=Lib.hid f6;have F9:=Lib.hid f9;have Fs:=Lib.hid fs;have F2:=Lib.hid f2;have F7:=Lib.hid f7;have F0:=Lib.hid f0
  clear hsz f6 f9 fs f2 f7 f0 hL hsc
  go_enter Tryz.func59,Tryz.ntmps59
  go_wp2_with fail
  have hz:=heap_alloc_new w (.cells #[.slice A L c,.int .i64 sh,.int .i64 ra,.int .i64 mo,.int .i64 wk,.int .i64 ba,.int .i64 mi,.int .i64 st,.int .i64 bu,.int .i64 ch,.int .i64 wi,.int .i64 ca] 24)
  have hB:=(Below.refl _ w).alloc (Nat.le_refl _) (.cells #[.slice A L c,.int .i64 sh,.int .i64 ra,.int .i64 mo,.int .i64 wk,.int .i64 ba,.int .i64 mi,.int .i64 st,.int .i64 bu,.int .i64 ch,.int .i64 wi,.int .i64 ca] 24)
  obtain ⟨W0,hW0⟩:∃ W0,W0 = w.alloc (.cells #[.slice A L c,.int .i64 sh,.int .i64 ra,.int .i64 mo,.int .i64 wk,.int .i64 ba,.int .i64 mi,.int .i64 st,.int .i64 bu,.int .i64 ch,.int .i64 wi,.int .i64 ca] 24):=⟨_,rfl⟩
  rw [← hW0] at hz hB ⊢
  clear hW0
  obtain ⟨⟨z0,z1,z2,z3,z4,z5,z6,z7,z8,z9,z10,z11⟩,zf⟩:=bx12 hz
  have HB:=Lib.hid hB;have HZ:=Lib.hid hz
  clear hB hz
  refine (btw_any wk 1 64 _).mono ?_
  rintro e w' ⟨rfl,rfl⟩
  obtain ⟨b1,hb1⟩:∃ b1,btB wk 1 64 = b1:=⟨_,rfl⟩
  have G1:=Lib.hid (show decide (1 ≤ wk ∧ wk ≤ 64) = b1 from hb1)
  rw [hb1]
  clear hb1
  rcases bool_ft b1 with rfl | rfl
  · go_wp2_with fail
    go_ret
    exact ⟨ret_int (F6.out G1.out).symm,HB.out⟩
  go_wp2_with fail
  refine (btw_any sh 1 62 _).mono ?_
  rintro e w' ⟨rfl,rfl⟩
  obtain ⟨b2,hb2⟩:∃ b2,btB sh 1 62 = b2:=⟨_,rfl⟩
  have G2:=Lib.hid (show decide (1 ≤ sh ∧ sh ≤ 62) = b2 from hb2)
  rw [hb2]
  clear hb2
  rcases bool_ft b2 with rfl | rfl
  · go_wp2_with fail
    go_ret
    exact ⟨ret_int (F9.out G1.out G2.out).symm,HB.out⟩
  go_wp2_with fail
  refine (Hsz.out _ HB.out).mono ?_
  rintro e w' ⟨rfl,d,rfl⟩
  have hb1:=below_drewN HB.out d
  have hz1:(W0.drewN d).heap[w.heap.size]? = some (.cells #[.slice A L c,.int .i64 sh,.int .i64 ra,.int .i64 mo,.int .i64 wk,.int .i64 ba,.int .i64 mi,.int .i64 st,.int .i64 bu,.int .i64 ch,.int .i64 wi,.int .i64 ca] 24 (0,0)):=HZ.out
  generalize W0.drewN d = W1 at hb1 hz1 ⊢
  clear z0 z1 z2 z3 z4 z5 z6 z7 z8 z9 z10 z11 zf HB HZ
  obtain ⟨⟨z0,z1,z2,z3,z4,z5,z6,z7,z8,z9,z10,z11⟩,zf⟩:=bx12 hz1
  have HB:=Lib.hid hb1;have HZ:=Lib.hid hz1
  clear hb1 hz1
  by_cases h3:sc ≠ 0
  · have hq:(sc != 0) = true:=by rw [bne_iff_ne];exact h3
    have H3:=Lib.hid h3;clear h3
    go_wp2_with fail
    go_ret
    exact ⟨ret_int (Fs.out G1.out G2.out H3.out).symm,HB.out⟩
  obtain rfl:sc = 0:=by omega
  clear h3
  have lz:w.heap.size < W1.heap.size:=lt_of_block HZ.out
  by_cases h4:st < 0
  · go_wp2_with fail
    go_ret
    exact ⟨ret_int (F2.out G1.out G2.out trivial (by rw [decide_eq_false (show ¬ (0 ≤ st ∧ st ≤ 1048576) by omega),Bool.and_false])).symm,HB.out.alloc HB.out.size _⟩
  by_cases h4':1048576 < st
  · go_wp2_with fail
    go_ret
    exact ⟨ret_int (F2.out G1.out G2.out trivial (by rw [decide_eq_false (show ¬ (0 ≤ st ∧ st ≤ 1048576) by omega),Bool.and_false])).symm,HB.out.alloc HB.out.size _⟩
  have GS:=Lib.hid (show decide (0 ≤ st ∧ st ≤ 1048576) = true by rw [decide_eq_true_eq];omega)
  have hrd:=rd_newN W1 (nums .i64 [mi,bu,ch,wi,ca,st + 1]) 3 _ rfl
  have hzz:=(Below.heap_alloc W1 (.cells (nums .i64 [mi,bu,ch,wi,ca,st + 1]).toArray 3) _ (lt_of_block HZ.out)).trans HZ.out
  have HRd:=Lib.hid hrd;have HZz:=Lib.hid hzz
  clear hrd hzz
  go_wp2_with fail
  clear z0 z1 z2 z3 z4 z5 z6 z7 z8 z9 z10 z11 zf
  have HB2:=Lib.hid (HB.out.alloc HB.out.size (.cells (nums .i64 [mi,bu,ch,wi,ca,st + 1]).toArray 3))
  obtain ⟨l,hl⟩:∃ l:List Int,[mi,bu,ch,wi,ca,st + 1] = l:=⟨_,rfl⟩
  have HL:=Lib.hid hl
  change Code.wp _ _ _ _ (W1.alloc (.cells (nums .i64 [mi,bu,ch,wi,ca,st + 1]).toArray 3))
  rw [hl] at HRd HZz HB2 ⊢
  clear hl HB HZ lz
  obtain ⟨p,hp⟩:∃ p,W1.heap.size = p:=⟨_,rfl⟩
  rw [hp] at HRd ⊢
  generalize W1.alloc (.cells (nums .i64 l).toArray 3) = W2 at HRd HZz HB2 ⊢
  clear hp
  go_loopw [5] (fun i wr => ∃ k:Nat,k ≤ 5 ∧ i = .int .i64 k ∧ Hid (∀ j,j < k → okB (nth l j) = true) ∧ wr = W2) (fun i _ => 5 - (intOf i).toNat)
  case atStart => exact ⟨0,Nat.zero_le _,rfl,Lib.hid fun j hj => by omega,rfl⟩
  case round =>
    obtain ⟨k,hk,rfl,Hall,rfl⟩:=hrel
    by_cases hlt:k < 5
    · have hlen:k < l.length:=by rw [← HL.out];simp only [List.length_cons,List.length_nil];omega
      obtain ⟨b',o,e1,hc⟩:=HRd.out.num hlen
      have hlti:(k:Int) < 5:=by omega
      injection e1 with e1;injection e1 with e1 e2 _;subst e1;subst e2
      obtain ⟨x,hx⟩:∃ x,nth l k = x:=⟨_,rfl⟩
      rw [hx,Nat.zero_add] at hc
      have Hx:=Lib.hid hx
      clear hx hlen
      go_wp2_with fail
      refine (btw_any x 1 1048576 _).mono ?_
      rintro e w' ⟨rfl,rfl⟩
      obtain ⟨b3,hb3⟩:∃ b3,btB x 1 1048576 = b3:=⟨_,rfl⟩
      have G3:=Lib.hid (show okB x = b3 from hb3)
      rw [hb3]
      clear hb3
      rcases bool_ft b3 with rfl | rfl
      · go_wp2_with fail
        go_ret
        exact ⟨ret_int (F2.out G1.out G2.out trivial (sixB_bad mi bu ch wi ca _ HL.out hlt (by rw [Hx.out];exact G3.out))).symm,HB2.out⟩
      go_wp2_with fail
      go_roundw
      case rel => exact ⟨k + 1,by omega,by go_num,Lib.hid (p:=∀ j,j < k + 1 → okB (nth l j) = true) fun j hj => by
        rcases Nat.lt_or_ge j k with h | h
        · exact Hall.out j h
        · obtain rfl:j = k:=by omega
          rw [Hx.out];exact G3.out,trivial⟩
      case measure => simp [intOf];omega
    · obtain rfl:k = 5:=by omega
      have hn:=sixB_good mi bu ch wi ca _ (decide (0 ≤ st ∧ st ≤ 1048576)) HL.out Hall.out GS.out
      have Hn:=Lib.hid hn;clear hn
      have hzz:=HZz.out
      obtain ⟨⟨z0,z1,z2,z3,z4,z5,z6,z7,z8,z9,z10,z11⟩,zf⟩:=bx12 hzz
      clear hzz
      go_wp2_with fail
      refine (btw_any ba wk 1048576 _).mono ?_
      rintro e w' ⟨rfl,rfl⟩
      obtain ⟨b3,hb3⟩:∃ b3,btB ba wk 1048576 = b3:=⟨_,rfl⟩
      have G3:=Lib.hid (show decide (wk ≤ ba ∧ ba ≤ 1048576) = b3 from hb3)
      rw [hb3]
      clear hb3
      rcases bool_ft b3 with rfl | rfl
      · go_wp2_with fail
        go_ret
        exact ⟨ret_int (F7.out G1.out G2.out trivial Hn.out G3.out).symm,HB2.out⟩
      go_wp2_with fail
      go_ret
      exact ⟨ret_int (F0.out G1.out G2.out trivial Hn.out G3.out).symm,HB2.out⟩
end Go.Proofs.YtaccfnffmbndhaaGreat
namespace Go.Proofs.YtaccfnffmbndhaaGreat
open Go.RowKit
theorem rpneed_any (n:Nat) (w:World) (hn:1 ≤ n) (hn2:n ≤ 1048576):Calls Tryz.prog 109 #[.int .i64 n] w fun e w' => e = .returned (.int .i64 ((n - 1:Nat):Int)) ∧ w = w':=by
  have h1:(0:Int) ≤ (n:Int) - 1:=by omega
  go_enter Tryz.func109,Tryz.ntmps109
  go_wp2
  all_goals
    go_ret
    exact ⟨ret_int (by omega),rfl⟩
theorem ceil_ge {sn per t:Nat} (hp:1 ≤ per) (h:t * per < sn):t < (sn + per - 1) / per:=by
  rw [Nat.lt_iff_add_one_le,Nat.le_div_iff_mul_le hp,Nat.succ_mul];omega
theorem ceil_lt {sn per t:Nat} (hp:1 ≤ per) (h:t < (sn + per - 1) / per):t * per < sn:=by
  rw [Nat.lt_iff_add_one_le,Nat.le_div_iff_mul_le hp,Nat.succ_mul] at h;omega
set_option maxRecDepth 100000 in
set_option maxHeartbeats 1000000 in
theorem repochs_any (A:Option Addr) (c n:Nat) (k:Cfg) (w:World) (h:CfgRd w A c k) (hg:GoodCfg k) (hn:k.batch ≤ n ∧ (n:Int) ≤ 1048576) :
    Calls Tryz.prog 108 #[.agg (cfgVals A c k),.int .i64 n] w fun e w' => e = .returned (.int .i64 (epN n k.batch.toNat k.steps.toNat:Int)) ∧ Below w.heap.size w w':=by
  have hck:=fun w' (q:Below w.heap.size w w') => rcfg_any A c k w' (h.below q)
  rw [cfg_good.2 hg] at hck
  have g1:=hg.w;have g2:=hg.ba;have g3:=hg.st
  clear h hg
  obtain ⟨sz,sh,ra,mo,wk,ba,mi,st,bu,ch,wi,ca⟩:=k
  dsimp only [cfgVals] at *
  obtain ⟨bt,rfl⟩:∃ bt:Nat,ba = bt:=⟨ba.toNat,by omega⟩
  obtain ⟨sn,rfl⟩:∃ sn:Nat,st = sn:=⟨st.toNat,by omega⟩
  rw [Int.toNat_natCast,Int.toNat_natCast]
  obtain ⟨L,hL⟩:∃ L,sz.length = L:=⟨_,rfl⟩
  rw [hL] at hck ⊢
  obtain ⟨per,hper⟩:∃ per,n / bt = per:=⟨_,rfl⟩
  have hper1:1 ≤ per:=by rw [← hper];exact Nat.div_pos (by omega) (by omega)
  have hper2:per ≤ n:=by rw [← hper];exact Nat.div_le_self _ _
  have hE:epN n bt sn = (sn + per - 1) / per:=by unfold epN;rw [hper,cntQ_eq _ _ hper1]
  rw [hE]
  have hEl:(sn + per - 1) / per ≤ sn + per - 1:=Nat.div_le_self _ _
  have hc1:=fun t => ceil_ge (sn:=sn) (t:=t) hper1
  have hc2:=fun t => ceil_lt (sn:=sn) (t:=t) hper1
  obtain ⟨E,hE2⟩:∃ E,(sn + per - 1) / per = E:=⟨_,rfl⟩
  rw [hE2] at hEl hc1 hc2 ⊢
  have hq1:(n:Int).tdiv (bt:Int) = (per:Int):=by rw [← hper];rfl
  have hq1':(n:Int) / (bt:Int) = (per:Int):=by rw [← hper];rfl
  have hq3:¬ (bt = 0):=by omega
  have Hck:=Lib.hid hck;have Hc1:=Lib.hid hc1;have Hc2:=Lib.hid hc2
  have hbt:btB (n:Int) (bt:Int) 1048576 = true:=by unfold btB;rw [decide_eq_true];omega
  have Hbt:=Lib.hid hbt
  clear hck hL hper hE hE2 hc1 hc2 hbt
  go_enter Tryz.func108,Tryz.ntmps108
  go_wp2_with fail
  have hz:=heap_alloc_new w (.cells #[.slice A L c,.int .i64 sh,.int .i64 ra,.int .i64 mo,.int .i64 wk,.int .i64 bt,.int .i64 mi,.int .i64 sn,.int .i64 bu,.int .i64 ch,.int .i64 wi,.int .i64 ca] 24)
  have hB:=(Below.refl _ w).alloc (Nat.le_refl _) (.cells #[.slice A L c,.int .i64 sh,.int .i64 ra,.int .i64 mo,.int .i64 wk,.int .i64 bt,.int .i64 mi,.int .i64 sn,.int .i64 bu,.int .i64 ch,.int .i64 wi,.int .i64 ca] 24)
  refine (Hck.out _ hB).mono ?_
  rintro e w1 ⟨rfl,hb1⟩
  have hz1:=(hb1.block _ (lt_of_block hz)).trans hz
  have HB:=Lib.hid (hB.trans (hb1.mono hB.size))
  obtain ⟨⟨z0,z1,z2,z3,z4,z5,z6,z7,z8,z9,z10,z11⟩,zf⟩:=bx12 hz1
  clear hz hB hb1 hz1
  go_wp2_with fail
  refine (btw_any n bt 1048576 _).mono ?_
  rintro e w' ⟨rfl,rfl⟩
  rw [Hbt.out]
  go_wp2_with fail
  go_loopw [5,6] (fun t i wr => ∃ k m:Nat,k ≤ E ∧ t = .int .i64 k ∧ i = .int .i64 m ∧ Hid (m = k * per) ∧ m < sn + per ∧ wr = w1) (fun _ i _ => sn - (intOf i).toNat)
  case atStart => exact ⟨0,0,Nat.zero_le _,rfl,rfl,Lib.hid (by omega),by omega,rfl⟩
  case round =>
    obtain ⟨k,m,hk,rfl,rfl,Hm,hm,rfl⟩:=hrel
    by_cases hlt:m < sn
    · have hlti:(m:Int) < sn:=by omega
      go_wp2_with fail
      go_roundw
      case rel => exact ⟨k + 1,m + per,Hc1.out k (by rw [← Hm.out];exact hlt),by go_num,by go_num,Lib.hid (by rw [Hm.out,Nat.succ_mul]),by omega,trivial⟩
      case measure => simp [intOf];omega
    · obtain rfl:k = E:=by
        rcases Nat.lt_or_ge k E with h | h
        · exact absurd (Hc2.out k h) (by rw [← Hm.out];exact hlt)
        · omega
      go_wp2_with fail
      go_ret
      exact ⟨rfl,HB.out⟩
set_option maxRecDepth 100000 in
theorem rneed_any (A:Option Addr) (c n:Nat) (k:Cfg) (w:World) (h:CfgRd w A c k) (hg:GoodCfg k) (hn:k.batch ≤ n ∧ (n:Int) ≤ 1048576) :
    Calls Tryz.prog 63 #[.agg (cfgVals A c k),.int .i64 n] w fun e w' => e = .returned (.int .i64 (needN n k.batch.toNat k.steps.toNat:Int)) ∧ Below w.heap.size w w':=by
  have hep:=fun w' (q:Below w.heap.size w w') => repochs_any A c n k w' (h.below q) hg hn
  have g1:=hg.w;have g2:=hg.ba;have g3:=hg.st
  have hpn:=fun w' => rpneed_any n w' (by omega) (by omega)
  have hle:=needN_le (n:=n) (b:=k.batch.toNat) (st:=k.steps.toNat) (by omega) (by omega)
  unfold needN at hle ⊢
  clear h hg
  obtain ⟨sz,sh,ra,mo,wk,ba,mi,st,bu,ch,wi,ca⟩:=k
  dsimp only [cfgVals] at *
  obtain ⟨L,hL⟩:∃ L,sz.length = L:=⟨_,rfl⟩
  rw [hL] at hep ⊢
  obtain ⟨E,hE⟩:∃ E,epN n ba.toNat st.toNat = E:=⟨_,rfl⟩
  obtain ⟨m,hm⟩:∃ m,n - 1 = m:=⟨_,rfl⟩
  rw [hE] at hep hle ⊢
  rw [hm] at hpn hle ⊢
  obtain ⟨y,hy⟩:∃ y,E * m = y:=⟨_,rfl⟩
  rw [hy] at hle ⊢
  have hmul:(E:Int) * (m:Int) = (y:Int):=by rw [← hy];push_cast;rfl
  have Hep:=Lib.hid hep;have Hpn:=Lib.hid hpn
  clear hep hpn hL hE hm hy
  go_enter Tryz.func63,Tryz.ntmps63
  go_wp2_with fail
  have hz:=heap_alloc_new w (.cells #[.slice A L c,.int .i64 sh,.int .i64 ra,.int .i64 mo,.int .i64 wk,.int .i64 ba,.int .i64 mi,.int .i64 st,.int .i64 bu,.int .i64 ch,.int .i64 wi,.int .i64 ca] 24)
  have hB:=(Below.refl _ w).alloc (Nat.le_refl _) (.cells #[.slice A L c,.int .i64 sh,.int .i64 ra,.int .i64 mo,.int .i64 wk,.int .i64 ba,.int .i64 mi,.int .i64 st,.int .i64 bu,.int .i64 ch,.int .i64 wi,.int .i64 ca] 24)
  refine (Hep.out _ hB).mono ?_
  rintro e w1 ⟨rfl,hb1⟩
  have HB:=Lib.hid (hB.trans (hb1.mono hB.size))
  clear hz hB hb1
  go_wp2_with fail
  refine (Hpn.out _).mono ?_
  rintro e w2 ⟨rfl,rfl⟩
  go_wp2_with fail
  go_ret
  exact ⟨rfl,HB.out⟩
end Go.Proofs.YtaccfnffmbndhaaGreat
namespace Go.Proofs.YtaccfnffmbndhaaGreat
open Go.RowKit
set_option maxRecDepth 100000 in
theorem rdcheck_any (a b c:Nat) (A:Option Addr) (l:List Ex) (w:World) (h:SlRd rEx 2 w A l) (hl:l.length ≤ 1048576) :
    Calls Tryz.prog 61 #[.slice A l.length c,.int .i64 a,.int .i64 b] w (DChkIs l a b w):=by
  unfold DChkIs
  obtain ⟨n,hn⟩:∃ n,l.length = n:=⟨_,rfl⟩
  rw [hn] at hl ⊢
  have H:=Lib.hid h;have Hn:=Lib.hid hn;clear h hn
  go_enter Tryz.func61,Tryz.ntmps61
  go_wp2_with fail
  go_loopw [8] (fun i wr => ∃ k:Nat,k ≤ n ∧ i = .int .i64 k ∧ Hid (∀ j x,j < k → l[j]? = some x → fitEx a b x) ∧ wr = w) (fun i _ => n - (intOf i).toNat)
  case atStart => exact ⟨0,Nat.zero_le _,rfl,Lib.hid fun j x hj => by omega,rfl⟩
  case round =>
    obtain ⟨k,hk,rfl,Hall,rfl⟩:=hrel
    by_cases hlt:k < n
    · obtain ⟨x,hx⟩:∃ x,l[k]? = some x:=⟨_,List.getElem?_eq_getElem (by rw [Hn.out];exact hlt)⟩
      obtain ⟨b',o,A1,c1,A2,c2,rfl,hbl,p1,p2,r1,r2⟩:=ex_cells H.out hx
      have Hx:=Lib.hid hx
      obtain ⟨n1,hn1⟩:∃ n1,x.1.length = n1:=⟨_,rfl⟩
      obtain ⟨n2,hn2⟩:∃ n2,x.2.length = n2:=⟨_,rfl⟩
      rw [hn1] at p1
      rw [hn2] at p2
      have hfi:fitEx a b x ↔ n1 = a ∧ n2 = b:=by unfold fitEx;rw [hn1,hn2]
      have Hf:=Lib.hid hfi
      have hlti:(k:Int) < n:=by omega
      clear r1 r2 hx hn1 hn2 hfi
      by_cases e1:n1 ≠ a
      · have hq:((n1:Int) != (a:Int)) = true:=by rw [bne_iff_ne];omega
        go_wp2_with fail
        go_ret2
        exact ⟨Below.refl _ _,k,.inr ⟨fun h => e1 (Hf.out.1 (h x (List.mem_of_getElem? Hx.out))).1,rfl⟩⟩
      have hq1:((n1:Int) != (a:Int)) = false:=by rw [bne_eq_false_iff_eq];omega
      by_cases e2:n2 ≠ b
      · have hq:((n2:Int) != (b:Int)) = true:=by rw [bne_iff_ne];omega
        have E2:=Lib.hid e2;clear e1 e2
        go_wp2_with fail
        go_ret2
        exact ⟨Below.refl _ _,k,.inr ⟨fun h => E2.out (Hf.out.1 (h x (List.mem_of_getElem? Hx.out))).2,rfl⟩⟩
      have hq2:((n2:Int) != (b:Int)) = false:=by rw [bne_eq_false_iff_eq];omega
      have He:=Lib.hid (Hf.out.2 ⟨by omega,by omega⟩)
      clear e1 e2
      go_wp2_with fail
      go_roundw
      case rel => exact ⟨k + 1,by omega,by go_num,Lib.hid (p:=∀ j x,j < k + 1 → l[j]? = some x → fitEx a b x) fun j y hj hy => by
        rcases Nat.lt_or_ge j k with h | h
        · exact Hall.out j y h hy
        · obtain rfl:j = k:=by omega
          have:=Hx.out;rw [hy] at this;injection this with this;rw [this];exact He.out,trivial⟩
      case measure => simp [intOf];omega
    · obtain rfl:n = k:=by omega
      go_wp2_with fail
      go_ret2
      exact ⟨Below.refl _ _,0,.inl ⟨fun x hx => by
        obtain ⟨j,hj,e⟩:=List.mem_iff_getElem.1 hx
        exact Hall.out j x (by rw [← Hn.out];exact hj) (by rw [List.getElem?_eq_getElem hj,e]),rfl⟩⟩
def FewB (q:Prop) (w:World) (e:Ending) (w':World):Prop:=(∃ b:Bool,e = .returned (.bool b) ∧ (b = true → q)) ∧ ∃ n,w' = w.drewN n
theorem fewB_any {q:Prop} (hq:q) (b:Bool) (w:World) (d:Nat):FewB q w (.returned (.bool b)) (w.drewN d):=⟨⟨b,rfl,fun _ => hq⟩,d,rfl⟩
theorem fewB_no (q:Prop) (w:World) (d:Nat):FewB q w (.returned (.bool false)) (w.drewN d):=⟨⟨false,rfl,fun h => by cases h⟩,d,rfl⟩
set_option maxRecDepth 100000 in
theorem rfew_any (c:Nat) (A:Option Addr) (l:List Ex) (w:World) (h:SlRd rEx 2 w A l) (hl:l.length ≤ 17592186043904) :
    Calls Tryz.prog 131 #[.slice A l.length c] w (FewB (l.length ≤ 60) w):=by
  obtain ⟨n,hn⟩:∃ n,l.length = n:=⟨_,rfl⟩
  rw [hn] at hl ⊢
  have H:=Lib.hid h;have Hn:=Lib.hid hn;clear h hn
  go_enter Tryz.func131,Tryz.ntmps131
  go_wp2_with fail
  go_loopw [3,4] (fun v i wr => ∃ k:Nat,∃ x:Int,k ≤ n ∧ i = .int .i64 k ∧ v = .int .i64 x ∧ ∃ d,wr = w.drewN d) (fun _ i _ => n - (intOf i).toNat)
  case atStart => exact ⟨0,0,Nat.zero_le _,rfl,rfl,0,rfl⟩
  case round =>
    obtain ⟨k,x,hk,rfl,rfl,d,rfl⟩:=hrel
    by_cases hlt:k < n
    · have hlti:(k:Int) < n:=by omega
      by_cases h100:k < 100
      · have h100i:(k:Int) < 100:=by omega
        obtain ⟨y,hy⟩:∃ y,l[k]? = some y:=⟨_,List.getElem?_eq_getElem (by rw [Hn.out];exact hlt)⟩
        obtain ⟨b',o,A1,c1,A2,c2,rfl,hbl,p1,p2,r1,r2⟩:=ex_cells H.out hy
        obtain ⟨n1,hn1⟩:∃ n1,y.1.length = n1:=⟨_,rfl⟩
        obtain ⟨n2,hn2⟩:∃ n2,y.2.length = n2:=⟨_,rfl⟩
        rw [hn1] at p1
        rw [hn2] at p2
        clear r1 r2 hy hn1 hn2
        have q1:(w.drewN d).cell? ⟨b',o + k * 2,none⟩ = some (.slice A1 n1 c1):=p1
        have q2:(w.drewN d).cell? ⟨b',o + k * 2 + 1,none⟩ = some (.slice A2 n2 c2):=p2
        generalize hW:w.drewN d = W at q1 q2 ⊢
        have HW:=Lib.hid hW;clear hW
        go_wp2_with fail
        go_region
        all_goals
          go_wp2_with fail
          go_roundw
          case rel => exact ⟨k + 1,_,by omega,by go_num,rfl,d + 1,by rw [← HW.out];rfl⟩
          case measure => simp [intOf];omega
      · have h100i:¬ ((k:Int) < 100):=by omega
        have h60:¬ ((n:Int) ≤ 60):=by omega
        have h60':¬ (n ≤ 60):=by omega
        go_wp2_with fail
        all_goals
          go_ret
          exact fewB_no _ _ _
    · obtain rfl:n = k:=by omega
      by_cases h60n:n ≤ 60
      · have h60:(n:Int) ≤ 60:=by omega
        have G:=Lib.hid h60n
        go_wp2_with fail
        all_goals
          go_ret
          exact fewB_any G.out _ _ _
      · have h60:¬ ((n:Int) ≤ 60):=by omega
        go_wp2_with fail
        all_goals
          go_ret
          exact fewB_no _ _ _
end Go.Proofs.YtaccfnffmbndhaaGreat
