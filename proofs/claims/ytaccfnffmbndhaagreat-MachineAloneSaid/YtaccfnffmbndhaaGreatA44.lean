/- One worker's step, plainly: what the items do, one after the other. One worker's step, plainly: the buckets lie one below the other. One worker's step, plainly: a group, all groups. One worker's step, plainly: all groups. One worker's step, plainly: all items of a step. A lone machine's Do at an item. A lone machine's state, counted by its Do calls. An input that came in. The walk of MachineMakes. No condition. -/
import Derived.Test.YtaccfnffmbndhaaGreatA43
import Derived.Test.YtaccfnffmbndhaaGreatA18
import Derived.Test.YtaccfnffmbndhaaGreatA30
import Derived.Test.YtaccfnffmbndhaaGreatA03
import Derived.Test.YtaccfnffmbndhaaGreatA19
import Derived.Test.YtaccfnffmbndhaaGreatA02
import Derived.Deep.RegionHeld3
import Derived.Test.YtaccfnffmbndhaaGreatA01
import Derived.WalkSpells
import Derived.Test.YtaccfnffmbndhaaGreatA26
import Derived.Test.YtaccfnffmbndhaaGreatA36
set_option linter.unusedSimpArgs false
set_option linter.unusedVariables false
namespace Go.Proofs.YtaccfnffmbndhaaGreat
open Go.RowKit
def mRun (i:Inp) (x:Nat) (m:Mst) (y:Itm):Mst:=
  if y.kind = 1 then { m with G:=gradOn i m.P m.G (pickL i.data (micE i x y.st y.n)) }
  else if y.kind = 2 then { m with op:=m.op ++ [y.n] }
  else if y.kind = 5 then
    { m with P:=apP i.cfg.rate i.cfg.mom i.cfg.shift m.P m.M ((m.G.drop (rgAt (plnI i).buks y.n).1).take ((rgAt (plnI i).buks y.n).2 - (rgAt (plnI i).buks y.n).1)) (rgAt (plnI i).buks y.n).1 ((rgAt (plnI i).buks y.n).2 - (rgAt (plnI i).buks y.n).1),
             M:=apM i.cfg.mom i.cfg.shift m.M ((m.G.drop (rgAt (plnI i).buks y.n).1).take ((rgAt (plnI i).buks y.n).2 - (rgAt (plnI i).buks y.n).1)) (rgAt (plnI i).buks y.n).1 ((rgAt (plnI i).buks y.n).2 - (rgAt (plnI i).buks y.n).1),op:=delL m.op y.n }
  else { m with rc:=m.rc ++ [(m.P,m.M)],G:=List.replicate i.start.length 0 }
def okAt (m:Mst) (y:Itm):Prop:=(y.kind = 1 ∨ y.kind = 2 ∨ y.kind = 5 ∨ y.kind = 6) ∧ m.op.length ≤ 1000 ∧ (y.kind = 5 → 0 < m.op.length) ∧ (y.kind = 6 → m.rc.length ≤ 1000)
def RunsOk (i:Inp) (x:Nat):Mst → List Itm → Prop
  | _,[] => True
  | m,y :: l => okAt m y ∧ RunsOk i x (mRun i x m y) l
theorem RunsOk_app (i:Inp) (x:Nat):∀ (l r:List Itm) (m:Mst),RunsOk i x m (l ++ r) ↔ RunsOk i x m l ∧ RunsOk i x (l.foldl (mRun i x) m) r
  | [],r,m => by simp [RunsOk]
  | y :: l,r,m => by
    have:=RunsOk_app i x l r (mRun i x m y)
    simp only [List.cons_append,RunsOk,List.foldl_cons,this,and_assoc]
theorem comp_fold (i:Inp) (x st:Nat):∀ (k:Nat) (m:Mst),((List.range k).map fun a => (⟨1,st,a,none⟩:Itm)).foldl (mRun i x) m = { m with G:=(List.range k).foldl (fun g a => gradOn i m.P g (pickL i.data (micE i x st a))) m.G }:=by
  intro k m
  induction k with
  | zero => rfl
  | succ k ih =>
    rw [List.range_succ,List.map_append,List.foldl_append,ih,List.foldl_append]
    rfl
theorem comp_ok (i:Inp) (x st:Nat) (m:Mst) (hm:m.op.length ≤ 1000):∀ k,RunsOk i x m ((List.range k).map fun a => (⟨1,st,a,none⟩:Itm)):=by
  intro k
  induction k with
  | zero => trivial
  | succ k ih =>
    rw [List.range_succ,List.map_append,RunsOk_app]
    refine ⟨ih,?_,trivial⟩
    rw [comp_fold]
    exact ⟨.inl rfl,hm,(fun e => by cases e),fun e => by cases e⟩
theorem launch_fold (i:Inp) (x st lo:Nat):∀ (k:Nat) (m:Mst),((List.range' lo k).map fun j => (⟨2,st,j,none⟩:Itm)).foldl (mRun i x) m = { m with op:=m.op ++ List.range' lo k }:=by
  intro k m
  induction k with
  | zero => simp
  | succ k ih =>
    rw [List.range'_concat,List.map_append,List.foldl_append,ih]
    simp [mRun]
theorem launch_ok (i:Inp) (x st lo:Nat) (m:Mst):∀ k,m.op.length + k ≤ 1000 → RunsOk i x m ((List.range' lo k).map fun j => (⟨2,st,j,none⟩:Itm)):=by
  intro k
  induction k with
  | zero => intro _;trivial
  | succ k ih =>
    intro hm
    rw [List.range'_concat,List.map_append,RunsOk_app]
    refine ⟨ih (by omega),?_,trivial⟩
    rw [launch_fold]
    refine ⟨.inr (.inl rfl),?_,(fun e => by cases e),fun e => by cases e⟩
    simp only [List.length_append,List.length_range']
    omega
end Go.Proofs.YtaccfnffmbndhaaGreat
namespace Go.Proofs.YtaccfnffmbndhaaGreat
open Go.RowKit
def bB (n s k:Nat):Nat:=min ((cntQ n s - k) * s) n
theorem buk_at {n s k:Nat} (hs:1 ≤ s) (hk:k < cntQ n s):rgAt (bukR n s) k = (bB n s (k + 1),bB n s k) ∧ bB n s (k + 1) < bB n s k ∧ bB n s k ≤ n:=by
  have h1:=cntQ_lt (n:=n) (size:=s) (k:=cntQ n s - 1 - k) (by omega)
  have e0:cntQ n s - (k + 1) = cntQ n s - 1 - k:=by omega
  have e1:(cntQ n s - k) * s = (cntQ n s - 1 - k) * s + s:=by
    rw [show cntQ n s - k = (cntQ n s - 1 - k) + 1 by omega,Nat.succ_mul]
  have hl:k < (bukR n s).length:=by rw [bukR_len];exact hk
  refine ⟨?_,?_,?_⟩
  · rw [rgAt_eq _ _ hl]
    simp only [bukR,List.getElem_reverse,blkR_len,blkR,List.getElem_map,List.getElem_range,List.length_map,List.length_range]
    unfold bB
    rw [e0,e1]
    simp only [Prod.mk.injEq,and_true]
    omega
  · unfold bB
    rw [e0,e1]
    omega
  · unfold bB
    omega
theorem bB_zero (n s:Nat) (hs:1 ≤ s):bB n s 0 = n:=by
  unfold bB cntQ
  by_cases h:n = 0
  · simp [h]
  · rw [if_neg h,Nat.sub_zero,Nat.succ_mul]
    have h1:=Nat.div_add_mod (n - 1) s
    have h2:=Nat.mod_lt (n - 1) (show 0 < s from hs)
    rw [Nat.mul_comm] at h1
    omega
theorem bB_end (n s:Nat):bB n s (cntQ n s) = 0:=by simp [bB]
def updS (i:Inp) (m:Mst) (k:Nat):Mst:=
  { m with P:=apP i.cfg.rate i.cfg.mom i.cfg.shift m.P m.M (m.G.drop (bB (plnI i).n (plnI i).bu k)) (bB (plnI i).n (plnI i).bu k) ((plnI i).n - bB (plnI i).n (plnI i).bu k),
           M:=apM i.cfg.mom i.cfg.shift m.M (m.G.drop (bB (plnI i).n (plnI i).bu k)) (bB (plnI i).n (plnI i).bu k) ((plnI i).n - bB (plnI i).n (plnI i).bu k) }
theorem upd_one (i:Inp) (x st:Nat) (m:Mst) (op:List Nat) (hs:1 ≤ (plnI i).bu) {k:Nat} (hk:k < (plnI i).buks.length) (hm:m.M.length = (plnI i).n) (hp:m.P.length = (plnI i).n) :
    mRun i x { updS i m k with op:=op } ⟨5,st,k,none⟩ = { updS i m (k + 1) with op:=delL op k }:=by
  rw [Pln.buks,bukR_len] at hk
  obtain ⟨h1,h2,h3⟩:=buk_at hs hk
  unfold mRun
  rw [if_neg (show ¬ (5 = 1) by decide),if_neg (show ¬ (5 = 2) by decide),if_pos rfl]
  unfold updS
  rw [Pln.buks,h1]
  simp only [Mst.mk.injEq,and_true]
  exact ⟨apP_glue (Nat.le_of_lt h2) h3 hm hp,apM_glue (Nat.le_of_lt h2) h3 hm⟩
end Go.Proofs.YtaccfnffmbndhaaGreat
namespace Go.Proofs.YtaccfnffmbndhaaGreat
open Go.RowKit
theorem delL_head (a c:Nat):delL (List.range' a (c + 1)) a = List.range' (a + 1) c:=by
  unfold delL
  rw [List.range'_succ,List.filter_cons,if_neg (by simp)]
  exact List.filter_eq_self.2 fun j hj => by
    rw [List.mem_range'_1] at hj
    simp only [decide_eq_true_eq]
    omega
theorem upd_fold (i:Inp) (x st a e:Nat) (m:Mst) (hs:1 ≤ (plnI i).bu) (he:e ≤ (plnI i).buks.length) (hm:m.M.length = (plnI i).n) (hp:m.P.length = (plnI i).n):∀ k,a + k ≤ e →
    ((List.range' a k).map fun j => (⟨5,st,j,none⟩:Itm)).foldl (mRun i x) { updS i m a with op:=List.range' a (e - a) } = { updS i m (a + k) with op:=List.range' (a + k) (e - a - k) }:=by
  intro k
  induction k with
  | zero => intro _;rfl
  | succ k ih =>
    intro hk
    rw [List.range'_concat,List.map_append,List.foldl_append,ih (by omega)]
    simp only [List.map_cons,List.map_nil,List.foldl_cons,List.foldl_nil,Nat.one_mul]
    rw [upd_one i x st m _ hs (by omega) hm hp,show e - a - k = (e - a - (k + 1)) + 1 by omega,delL_head]
    rfl
theorem upd_ok (i:Inp) (x st a e:Nat) (m:Mst) (hs:1 ≤ (plnI i).bu) (he:e ≤ (plnI i).buks.length) (he2:e ≤ 1000) (hm:m.M.length = (plnI i).n) (hp:m.P.length = (plnI i).n):∀ k,a + k ≤ e →
    RunsOk i x { updS i m a with op:=List.range' a (e - a) } ((List.range' a k).map fun j => (⟨5,st,j,none⟩:Itm)):=by
  intro k
  induction k with
  | zero => intro _;trivial
  | succ k ih =>
    intro hk
    rw [List.range'_concat,List.map_append,RunsOk_app]
    refine ⟨ih (by omega),?_,trivial⟩
    rw [upd_fold i x st a e m hs he hm hp k (by omega)]
    refine ⟨.inr (.inr (.inl rfl)),?_,(fun _ => ?_),fun e => by cases e⟩
    · simp only [List.length_range'];omega
    · simp only [List.length_range'];omega
theorem group_lone (p:Pln) (x st:Nat) (g:Rg) (hW:p.W = 1):groupL p x st g = (List.range' g.1 (g.2 - g.1)).map (fun j => (⟨2,st,j,none⟩:Itm)) ++ (List.range' g.1 (g.2 - g.1)).map (fun j => (⟨5,st,j,none⟩:Itm)):=by
  unfold groupL
  rw [hW]
  simp
theorem group_fold (i:Inp) (x st:Nat) (g:Rg) (m:Mst) (hW:(plnI i).W = 1) (hs:1 ≤ (plnI i).bu) (hg:g.1 ≤ g.2) (he:g.2 ≤ (plnI i).buks.length) (he2:g.2 ≤ 1000) (hm:m.M.length = (plnI i).n) (hp:m.P.length = (plnI i).n) (ho:m.op = []) :
    (groupL (plnI i) x st g).foldl (mRun i x) (updS i m g.1) = updS i m g.2 ∧ RunsOk i x (updS i m g.1) (groupL (plnI i) x st g):=by
  have e0:(updS i m g.1).op = []:=ho
  have e1:((List.range' g.1 (g.2 - g.1)).map fun j => (⟨2,st,j,none⟩:Itm)).foldl (mRun i x) (updS i m g.1) = { updS i m g.1 with op:=List.range' g.1 (g.2 - g.1) }:=by
    rw [launch_fold,e0];rfl
  rw [group_lone _ x st g hW,List.foldl_append,RunsOk_app,e1]
  refine ⟨?_,launch_ok i x st g.1 _ _ (by rw [e0];simp only [List.length_nil];omega),upd_ok i x st g.1 g.2 m hs he he2 hm hp _ (by omega)⟩
  rw [upd_fold i x st g.1 g.2 m hs he hm hp _ (by omega),show g.1 + (g.2 - g.1) = g.2 by omega,Nat.sub_self]
  show { updS i m g.2 with op:=[] } = updS i m g.2
  rw [← show (updS i m g.2).op = [] from ho]
end Go.Proofs.YtaccfnffmbndhaaGreat
namespace Go.Proofs.YtaccfnffmbndhaaGreat
open Go.RowKit
theorem groups_fold (i:Inp) (x st:Nat) (m:Mst) (hp0:PlnOk (plnI i)) (hW:(plnI i).W = 1) (hm:m.M.length = (plnI i).n) (hp:m.P.length = (plnI i).n) (ho:m.op = []):∀ k,k ≤ (plnI i).grps.length →
    (((plnI i).grps.take k).flatMap (groupL (plnI i) x st)).foldl (mRun i x) (updS i m 0) = updS i m (min (k * (plnI i).wi) (plnI i).buks.length) ∧ RunsOk i x (updS i m 0) (((plnI i).grps.take k).flatMap (groupL (plnI i) x st)):=by
  intro k
  induction k with
  | zero => intro _;exact ⟨by simp,trivial⟩
  | succ k ih =>
    intro hk
    obtain ⟨h1,h2⟩:=ih (by omega)
    have hkl:k < (plnI i).grps.length:=hk
    have hc:k < cntQ (plnI i).buks.length (plnI i).wi:=by rwa [Pln.grps,blkR_len] at hkl
    have hlt:=cntQ_lt hc
    have hb60:=hp0.buks
    have eg:(plnI i).grps[k] = (k * (plnI i).wi,min (k * (plnI i).wi + (plnI i).wi) (plnI i).buks.length):=by
      simp only [Pln.grps,blkR,List.getElem_map,List.getElem_range]
    have hf:=group_fold i x st (k * (plnI i).wi,min (k * (plnI i).wi + (plnI i).wi) (plnI i).buks.length) m hW hp0.bu (by show k * (plnI i).wi ≤ min _ _;omega) (by show min _ _ ≤ _;omega) (by show min _ _ ≤ _;omega) hm hp ho
    rw [List.take_succ_eq_append_getElem hkl,List.flatMap_append,List.foldl_append,RunsOk_app,h1,eg,show min (k * (plnI i).wi) (plnI i).buks.length = k * (plnI i).wi by omega]
    simp only [List.flatMap_cons,List.flatMap_nil,List.append_nil]
    rw [Nat.succ_mul]
    exact ⟨hf.1,h2,hf.2⟩
theorem updS_zero (i:Inp) (m:Mst) (hs:1 ≤ (plnI i).bu) (hm:m.M.length = (plnI i).n):updS i m 0 = m:=by
  unfold updS
  rw [bB_zero _ _ hs,Nat.sub_self,apP_zero,apM_zero]
theorem updS_end (i:Inp) (m:Mst) (hm:m.M.length = (plnI i).n) (hp:m.P.length = (plnI i).n):updS i m (plnI i).buks.length = { m with P:=nextP i.cfg.rate i.cfg.mom i.cfg.shift m.P m.M m.G,M:=nextM i.cfg.mom i.cfg.shift m.M m.G }:=by
  unfold updS
  rw [show bB (plnI i).n (plnI i).bu (plnI i).buks.length = 0 by rw [Pln.buks,bukR_len,bB_end],List.drop_zero,Nat.sub_zero]
  have e1:=apP_all i.cfg.rate i.cfg.mom i.cfg.shift m.P m.M m.G
  have e2:=apM_all i.cfg.mom i.cfg.shift m.M m.G
  rw [hp] at e1
  rw [hm] at e2
  rw [e1,e2]
end Go.Proofs.YtaccfnffmbndhaaGreat
namespace Go.Proofs.YtaccfnffmbndhaaGreat
open Go.RowKit
theorem step_fold (i:Inp) (st:Nat) (m:Mst) (hp0:PlnOk (plnI i)) (hW:(plnI i).W = 1) (hmi:0 < (plnI i).mi) (hc:i.start.length = cnt i) (hm:m.M.length = (plnI i).n) (hp:m.P.length = (plnI i).n) (ho:m.op = []) (hG:m.G = List.replicate i.start.length 0) (hrc:m.rc.length ≤ 1000) :
    (itemsL (plnI i) 0 st).foldl (mRun i 0) m = { m with P:=nextP i.cfg.rate i.cfg.mom i.cfg.shift m.P m.M (stepG i m.P st),M:=nextM i.cfg.mom i.cfg.shift m.M (stepG i m.P st),rc:=m.rc ++ [(nextP i.cfg.rate i.cfg.mom i.cfg.shift m.P m.M (stepG i m.P st),nextM i.cfg.mom i.cfg.shift m.M (stepG i m.P st))] } ∧ RunsOk i 0 m (itemsL (plnI i) 0 st):=by
  have eG:(List.range (plnI i).mi).foldl (fun g a => gradOn i m.P g (pickL i.data (micE i 0 st a))) m.G = stepG i m.P st:=by
    have e1:∀ a,micE i 0 st a = pieceL (batchN i.draws i.data.length i.cfg.batch.toNat st) (plnI i).mi a:=fun a => by
      unfold micE microN
      rw [show i.cfg.workers.toNat = 1 from hW,piece_one]
      rfl
    simp only [e1]
    rw [gradOn_pieces i m.P m.G i.data _ _ hmi,hG,hc]
    rfl
  have e0:=comp_fold i 0 st (plnI i).mi m
  rw [eG] at e0
  have hg:=groups_fold i 0 st { m with G:=stepG i m.P st } hp0 hW hm hp ho _ (Nat.le_refl _)
  rw [List.take_length,updS_zero i { m with G:=stepG i m.P st } hp0.bu hm] at hg
  have eN:min ((plnI i).grps.length * (plnI i).wi) (plnI i).buks.length = (plnI i).buks.length:=by
    have:=bB_zero (plnI i).buks.length (plnI i).wi hp0.wi
    unfold bB at this
    rw [Nat.sub_zero] at this
    rw [Pln.grps,blkR_len]
    exact this
  rw [eN,updS_end i { m with G:=stepG i m.P st } hm hp] at hg
  unfold itemsL
  rw [List.foldl_append,List.foldl_append,RunsOk_app,RunsOk_app,List.foldl_append,e0,hg.1]
  refine ⟨?_,⟨comp_ok i 0 st m (by rw [ho];simp) _,hg.2⟩,?_,trivial⟩
  · simp only [List.foldl_cons,List.foldl_nil]
    unfold mRun
    rw [if_neg (show ¬ (6 = 1) by decide),if_neg (show ¬ (6 = 2) by decide),if_neg (show ¬ (6 = 5) by decide)]
    simp only [Mst.mk.injEq,true_and,and_true]
    exact hG.symm
  · refine ⟨.inr (.inr (.inr rfl)),?_,(fun e => by cases e),fun _ => hrc⟩
    show m.op.length ≤ 1000
    rw [ho];simp
end Go.Proofs.YtaccfnffmbndhaaGreat
namespace Go.Proofs.YtaccfnffmbndhaaGreat
open Go.RowKit
theorem mdo_lone {H:Nat → Prop} {w:World} {b x:Nat} {i:Inp} {a:MAd} {m:Mst} (h:MachAt H w b i x a m) (hn:∀ k,Mut b a k → ¬ H k) (hnew:∀ k,w.heap.size ≤ k → ¬ H k) (hs:SmIn i) {y:Itm} (hy:(curL i x m.st)[m.nx]? = some y) (hk:okAt m y)
    (hra:-9223372036854775808 ≤ i.cfg.rate ∧ i.cfg.rate ≤ 9223372036854775807) (hrm:-9223372036854775808 ≤ i.cfg.mom ∧ i.cfg.mom ≤ 9223372036854775807) (u v:Option Addr) :
    Calls Tryz.prog 17 #[.pointer (some ⟨b,0,none⟩),.pointer u,.pointer v] w fun e w' => e = .returned (.int .i64 0) ∧ DidM H (fun _ => False) b i x a m (fun _ m1 => m1 = mRun i x m y) w w':=by
  obtain ⟨k0,ho,k5,k6⟩:=hk
  obtain ⟨h1,h2⟩:=cur_mem hy
  have hst:=cur_st hy
  have hp0:=hs.ok
  rcases k0 with k | k | k | k
  · refine (mdo_comp h hn hnew hs hy k u v).mono fun e w' q => ?_
    have e1:mRun i x m y = { m with G:=gradOn i m.P m.G (pickL i.data (micE i x m.st y.n)) }:=by
      unfold mRun;rw [if_pos k,hst]
    rw [e1];exact q
  · refine (mdo_launch h hn hnew hs hy k ho u v).mono fun e w' q => ?_
    have e1:mRun i x m y = { m with op:=m.op ++ [y.n] }:=by
      unfold mRun;rw [if_neg (by omega),if_pos k]
    rw [e1];exact q
  · obtain ⟨g,hg,g1,g2⟩:=itemsL_bk h2 (.inr k)
    obtain ⟨j,hj,rfl⟩:=List.getElem_of_mem hg
    have hgr:=hp0.grp hj
    rw [rgAt_eq _ _ hj] at hgr
    have hyn:y.n < (plnI i).buks.length:=by omega
    have hyn':=hyn
    rw [Pln.buks,bukR_len] at hyn'
    obtain ⟨b1,b2,b3⟩:=buk_at hp0.bu hyn'
    have hr:rgAt (plnI i).buks y.n = (bB (plnI i).n (plnI i).bu (y.n + 1),bB (plnI i).n (plnI i).bu y.n):=b1
    refine (mdo_upd h hn hnew hs hy k u v hyn (k5 k) ho hra hrm _ _ hr b2 b3).mono fun e w' q => ?_
    have e1:=mRun.eq_1 i x m y
    rw [if_neg (by omega),if_neg (by omega),if_pos k,hr] at e1
    rw [e1];exact q
  · refine (mdo_record h hn hnew hs hy k (k6 k) u v).mono fun e w' q => ?_
    have e1:mRun i x m y = { m with rc:=m.rc ++ [(m.P,m.M)],G:=List.replicate i.start.length 0 }:=by
      unfold mRun;rw [if_neg (by omega),if_neg (by omega),if_neg (by omega)]
    rw [e1];exact q
end Go.Proofs.YtaccfnffmbndhaaGreat
namespace Go.Proofs.YtaccfnffmbndhaaGreat
open Go.RowKit
theorem mRun_nx (i:Inp) (x:Nat) (m:Mst) (y:Itm) (n:Nat):mRun i x { m with nx:=n } y = { mRun i x m y with nx:=n }:=by
  unfold mRun
  split
  · rfl
  · split
    · rfl
    · split <;> rfl
theorem mRun_at (i:Inp) (x:Nat) (m:Mst) (y:Itm):(mRun i x m y).st = m.st ∧ (mRun i x m y).nx = m.nx:=by
  unfold mRun
  split
  · exact ⟨rfl,rfl⟩
  · split
    · exact ⟨rfl,rfl⟩
    · split <;> exact ⟨rfl,rfl⟩
theorem mFold_at (i:Inp) (x:Nat):∀ (l:List Itm) (m:Mst),(l.foldl (mRun i x) m).st = m.st ∧ (l.foldl (mRun i x) m).nx = m.nx
  | [],m => ⟨rfl,rfl⟩
  | y :: l,m => by
    have h1:=mFold_at i x l (mRun i x m y)
    have h2:=mRun_at i x m y
    exact ⟨h1.1.trans h2.1,h1.2.trans h2.2⟩
theorem RunsOk_at {i:Inp} {x:Nat}:∀ {l:List Itm} {m:Mst} {k:Nat} {y:Itm},RunsOk i x m l → l[k]? = some y → okAt ((l.take k).foldl (mRun i x) m) y
  | [],m,k,y,_,h => by simp at h
  | z :: l,m,0,y,hr,h => by
    simp only [List.getElem?_cons_zero,Option.some.injEq] at h
    subst h
    exact hr.1
  | z :: l,m,k + 1,y,hr,h => by
    rw [List.getElem?_cons_succ] at h
    exact RunsOk_at (l:=l) hr.2 h
def lonS (i:Inp) (st:Nat):Mst:=⟨(traj i st).1,(traj i st).2,List.replicate i.start.length 0,trajL i (st + 1),st,0,[]⟩
def lonM (i:Inp) (st nx:Nat):Mst:={ ((itemsL (plnI i) 0 st).take nx).foldl (mRun i 0) (lonS i st) with nx:=nx }
theorem trajL_succ (i:Inp) (n:Nat):trajL i (n + 1) = trajL i n ++ [traj i n]:=by
  unfold trajL
  rw [List.range_succ,List.map_append]
  rfl
theorem lonM_zero (i:Inp) (st:Nat):lonM i st 0 = lonS i st:=rfl
theorem mst0_lon {i:Inp} (h:i.start.length = cnt i):mst0 i = lonM i 0 0:=by
  have e1:trajL i (0 + 1) = [traj i 0]:=by simp [trajL]
  have e2:traj i 0 = (i.start,List.replicate i.start.length 0):=by rw [traj,h]
  rw [lonM_zero]
  unfold mst0 lonS
  rw [e1,e2]
theorem lonM_at (i:Inp) (st nx:Nat):(lonM i st nx).st = st ∧ (lonM i st nx).nx = nx:=⟨(mFold_at i 0 _ (lonS i st)).1,rfl⟩
theorem lon_fold {i:Inp} (hs:SmIn i) (hW:(plnI i).W = 1) {st:Nat} (hst:st < i.cfg.steps.toNat):(itemsL (plnI i) 0 st).foldl (mRun i 0) (lonS i st) = { lonS i (st + 1) with st:=st } ∧ RunsOk i 0 (lonS i st) (itemsL (plnI i) 0 st):=by
  have hl:=traj_len i hs.g.s st
  have hn:(plnI i).n = cnt i:=hs.g.s
  have h:=step_fold i st (lonS i st) hs.ok hW (by have:=hs.g.c.mi;simp only [plnI];omega) hs.g.s (hl.2.trans hn.symm) (hl.1.trans hn.symm) rfl rfl (by have:=hs.s;show (trajL i (st + 1)).length ≤ 1000;rw [trajL_len];omega)
  refine ⟨h.1.trans ?_,h.2⟩
  unfold lonS
  simp only [trajL_succ i (st + 1)]
  rfl
theorem lon_next {i:Inp} (hs:SmIn i) (hW:(plnI i).W = 1) {st nx:Nat} (hst:st < i.cfg.steps.toNat) {y:Itm} (hy:(itemsL (plnI i) 0 st)[nx]? = some y) :
    okAt (lonM i st nx) y ∧ adv i 0 (mRun i 0 (lonM i st nx) y) = if nx + 1 < (itemsL (plnI i) 0 st).length then lonM i st (nx + 1) else lonM i (st + 1) 0:=by
  obtain ⟨h1,h2⟩:=lon_fold hs hW hst
  refine ⟨RunsOk_at h2 hy,?_⟩
  obtain ⟨hlt,hge⟩:=List.getElem?_eq_some_iff.1 hy
  have e1:mRun i 0 (lonM i st nx) y = { ((itemsL (plnI i) 0 st).take (nx + 1)).foldl (mRun i 0) (lonS i st) with nx:=nx }:=by
    unfold lonM
    rw [mRun_nx,List.take_add_one,hy,List.foldl_append]
    rfl
  have e2:∀ n,(({ ((itemsL (plnI i) 0 st).take (nx + 1)).foldl (mRun i 0) (lonS i st) with nx:=n }:Mst)).st = st:=fun n => (mFold_at i 0 _ (lonS i st)).1
  have ec:curL i 0 st = itemsL (plnI i) 0 st:=if_pos hst
  have ec':∀ n,curL i 0 (({ ((itemsL (plnI i) 0 st).take (nx + 1)).foldl (mRun i 0) (lonS i st) with nx:=n }:Mst)).st = itemsL (plnI i) 0 st:=fun n => by rw [e2];exact ec
  rw [e1]
  unfold adv
  rw [ec']
  by_cases hc:nx + 1 < (itemsL (plnI i) 0 st).length
  · rw [if_pos hc,if_pos hc];rfl
  · rw [if_neg hc,if_neg hc]
    have e3:((itemsL (plnI i) 0 st).take (nx + 1)).foldl (mRun i 0) (lonS i st) = { lonS i (st + 1) with st:=st }:=by rw [List.take_of_length_le (by omega),h1]
    rw [e3]
    rfl
def LonK (i:Inp) (k:Nat) (m:Mst):Prop:=∃ st nx,m = lonM i st nx ∧ k = st * (itemsL (plnI i) 0 0).length + nx ∧ ((st < i.cfg.steps.toNat ∧ nx < (itemsL (plnI i) 0 0).length) ∨ (st = i.cfg.steps.toNat ∧ nx = 0))
theorem LonK.zero {i:Inp} (hs:SmIn i):LonK i 0 (mst0 i):=by
  refine ⟨0,0,mst0_lon hs.g.s,by simp,?_⟩
  by_cases h:0 < i.cfg.steps.toNat
  · exact .inl ⟨h,items_pos _ _ _⟩
  · exact .inr ⟨by omega,rfl⟩
theorem LonK.next {i:Inp} (hs:SmIn i) (hW:(plnI i).W = 1) {k:Nat} {m:Mst} (h:LonK i k m) (hk:k < (itemsL (plnI i) 0 0).length * i.cfg.steps.toNat) :
    ∃ y,(curL i 0 m.st)[m.nx]? = some y ∧ okAt m y ∧ LonK i (k + 1) (adv i 0 (mRun i 0 m y)):=by
  obtain ⟨st,nx,rfl,rfl,h | h⟩:=h
  · obtain ⟨h1,h2⟩:=h
    have e1:=items_lenS hs.ok 0 st
    have hy:=List.getElem?_eq_getElem (l:=itemsL (plnI i) 0 st) (i:=nx) (by omega)
    obtain ⟨ho,hn⟩:=lon_next hs hW h1 hy
    obtain ⟨a1,a2⟩:=lonM_at i st nx
    refine ⟨_,?_,ho,?_⟩
    · rw [a1,a2,show curL i 0 st = itemsL (plnI i) 0 st from if_pos h1];exact hy
    · rw [hn,e1]
      by_cases hc:nx + 1 < (itemsL (plnI i) 0 0).length
      · rw [if_pos hc];exact ⟨st,nx + 1,rfl,by omega,.inl ⟨h1,hc⟩⟩
      · rw [if_neg hc]
        refine ⟨st + 1,0,rfl,by rw [Nat.succ_mul];omega,?_⟩
        by_cases hd:st + 1 < i.cfg.steps.toNat
        · exact .inl ⟨hd,items_pos _ _ _⟩
        · exact .inr ⟨by omega,rfl⟩
  · obtain ⟨rfl,rfl⟩:=h
    rw [Nat.mul_comm] at hk
    omega
theorem LonK.done {i:Inp} {m:Mst} (h:LonK i ((itemsL (plnI i) 0 0).length * i.cfg.steps.toNat) m):m = lonS i i.cfg.steps.toNat:=by
  obtain ⟨st,nx,rfl,hk,h | h⟩:=h
  · obtain ⟨h1,h2⟩:=h
    have h3:=Nat.mul_le_mul_right (itemsL (plnI i) 0 0).length (show st + 1 ≤ i.cfg.steps.toNat from h1)
    rw [Nat.succ_mul] at h3
    rw [Nat.mul_comm] at hk
    omega
  · obtain ⟨rfl,rfl⟩:=h;rfl
def oneI (i:Inp):Inp:={ i with cfg:={ i.cfg with workers:=1 } }
theorem oneI_sm {i:Inp} (h:SmIn i):SmIn (oneI i):=by
  have hb:=h.g.c.w
  have hba:=h.g.c.ba
  exact ⟨⟨⟨⟨by show (1:Int) ≤ 1;omega,by show (1:Int) ≤ 64;omega⟩,h.g.c.s,h.g.c.z,h.g.c.mi,h.g.c.bu,h.g.c.ch,h.g.c.wi,h.g.c.ca,h.g.c.st,⟨by show (1:Int) ≤ i.cfg.batch;omega,hba.2⟩⟩,h.g.b,h.g.f,h.g.s,h.g.d⟩,h.n,by show (1:Int) ≤ 8;omega,h.m,h.s,h.d⟩
theorem oneI_rd {w:World} {A:Option Addr} {c:Nat} {D T R:Option Addr} {ct:Nat} {i:Inp} (h:InpRd w A c D T ct R i):InpRd w A c D T ct R (oneI i):=
  ⟨⟨h.c.hc,h.c.hm,h.c.hl,h.c.hr⟩,h.d,h.dl,h.t,h.tl,h.r,h.rl,h.ru,h.ra,h.rm⟩
end Go.Proofs.YtaccfnffmbndhaaGreat
namespace Go.Proofs.YtaccfnffmbndhaaGreat
open Go.RowKit Go.ChangeShapes Go.WideShapes Go.ChangeAt
theorem opens_l:Opens Tryz.prog 2 1 (rInt .i64):=opens_int Tryz.underlying2 (by kernel_rfl)
theorem opens_u64s:Opens Tryz.prog 27 1 (rNums .u64):=opens_nums Tryz.underlying27 Tryz.underlying231 (by kernel_rfl) (by kernel_rfl) (by kernel_rfl)
theorem wf_U64 {l:List Int} (h:∀ z ∈ l,(Lit.int .u64 z).wf = true):U64 l:=fun k hk => by
  have:=h _ (nth_mem hk)
  simpa [Lit.wf,IntKind.min,IntKind.max,IntKind.signed,IntKind.bits] using this
theorem wf_one {z:Int} (h:(Lit.int .i64 z).wf = true):-9223372036854775808 ≤ z ∧ z ≤ 9223372036854775807:=by
  simpa [Lit.wf,IntKind.min,IntKind.max,IntKind.signed,IntKind.bits] using h
theorem cells_exO:Tryz.prog.cellsOf 107 = 2:=by kernel_rfl
theorem cells_cfgO:Tryz.prog.cellsOf 24 = 12:=by kernel_rfl
theorem cells_inpO:Tryz.prog.cellsOf 29 = 15:=by kernel_rfl
theorem rNums_rd {w:World} {A:Option Addr} {zs:List Int} {c:Nat} (h2:zs.length ≤ c) (h6:zs.length ≤ 17592186043904) (h4:Rd w A (nums .i64 zs)) (h5:∀ z ∈ zs,(Lit.int .i64 z).wf = true):NumsRd w A zs c:=⟨h2,h6,h4,wf_W64 h5⟩
set_option maxRecDepth 100000 in
theorem opens_ex:Opens Tryz.prog 107 2 rEx:=⟨cells_exO,fun {H enc W fuel cs x} h hlt => by
  obtain ⟨xs,n,_,hx,hl,hlen,hf⟩:=DataW.trod_struct Tryz.underlying107 h
  rw [cells_exO] at hl
  have hlen':xs.length = 2:=hlen
  obtain ⟨x1,A,c,a1,a2,a3,a4,a5,a6⟩:=field_opens opens_i64s Tryz.underlying107 hx hlt (hf 0 _ rfl) (by omega) rfl
  obtain ⟨y1,B,d,b1,b2,b3,b4,b5,b6⟩:=field_opens opens_i64s Tryz.underlying107 hx hlt (hf 1 _ rfl) (by omega) rfl
  clear h hf hlen hlen' hx hlt
  match cs,hl with
  | [c0,c1],_ =>
    simp at a1 b1
    exact ⟨rfl,⟨x1,y1⟩,A,c,B,d,by simp [a1,b1],rNums_rd a2 a4 a5 a6,rNums_rd b2 b4 b5 b6⟩⟩
theorem opens_exs:Opens Tryz.prog 25 1 (rSl rEx 2):=opens_slice Tryz.underlying25 opens_ex (by kernel_rfl) (of_decide_eq_true (by kernel_rfl))
def rCfg:Reader Cfg:=fun w cs k => ∃ A c,cs = (cfgVals A c k).toList ∧ CfgRd w A c k ∧ (-9223372036854775808 ≤ k.rate ∧ k.rate ≤ 9223372036854775807) ∧ (-9223372036854775808 ≤ k.mom ∧ k.mom ≤ 9223372036854775807) ∧ W64 k.sizes ∧ W64 [k.shift,k.workers,k.batch,k.micros,k.steps,k.bucket,k.chunk,k.window,k.cap]
set_option maxRecDepth 100000 in
set_option maxHeartbeats 1000000 in
theorem opens_cfg:Opens Tryz.prog 24 12 rCfg:=⟨cells_cfgO,fun {H enc W fuel cs x} h hlt => by
  obtain ⟨xs,n,_,hx,hl,hlen,hf⟩:=DataW.trod_struct Tryz.underlying24 h
  rw [cells_cfgO] at hl
  have hlen':xs.length = 12:=hlen
  obtain ⟨sz,A,c,a1,a2,a3,a4,a5,a6⟩:=field_opens opens_ints Tryz.underlying24 hx hlt (hf 0 _ rfl) (by omega) rfl
  obtain ⟨z1,h1,g1⟩:=field_opens opens_i Tryz.underlying24 hx hlt (hf 1 _ rfl) (by omega) rfl
  obtain ⟨z2,h2,g2⟩:=field_opens opens_l Tryz.underlying24 hx hlt (hf 2 _ rfl) (by omega) rfl
  obtain ⟨z3,h3,g3⟩:=field_opens opens_l Tryz.underlying24 hx hlt (hf 3 _ rfl) (by omega) rfl
  obtain ⟨z4,h4,g4⟩:=field_opens opens_i Tryz.underlying24 hx hlt (hf 4 _ rfl) (by omega) rfl
  obtain ⟨z5,h5,g5⟩:=field_opens opens_i Tryz.underlying24 hx hlt (hf 5 _ rfl) (by omega) rfl
  obtain ⟨z6,h6,g6⟩:=field_opens opens_i Tryz.underlying24 hx hlt (hf 6 _ rfl) (by omega) rfl
  obtain ⟨z7,h7,g7⟩:=field_opens opens_i Tryz.underlying24 hx hlt (hf 7 _ rfl) (by omega) rfl
  obtain ⟨z8,h8,g8⟩:=field_opens opens_i Tryz.underlying24 hx hlt (hf 8 _ rfl) (by omega) rfl
  obtain ⟨z9,h9,g9⟩:=field_opens opens_i Tryz.underlying24 hx hlt (hf 9 _ rfl) (by omega) rfl
  obtain ⟨z10,h10,g10⟩:=field_opens opens_i Tryz.underlying24 hx hlt (hf 10 _ rfl) (by omega) rfl
  obtain ⟨z11,h11,g11⟩:=field_opens opens_i Tryz.underlying24 hx hlt (hf 11 _ rfl) (by omega) rfl
  clear h hf hlen hlen' hx hlt
  match cs,hl with
  | [c0,c1,c2,c3,c4,c5,c6,c7,c8,c9,c10,c11],_ =>
    simp at a1 h1 h2 h3 h4 h5 h6 h7 h8 h9 h10 h11
    refine ⟨rfl,⟨sz,z1,z2,z3,z4,z5,z6,z7,z8,z9,z10,z11⟩,A,c,by simp [cfgVals,a1,h1,h2,h3,h4,h5,h6,h7,h8,h9,h10,h11],⟨a2,a3,a4,a5⟩,wf_one g2,wf_one g3,wf_W64 a6,?_⟩
    refine wf_W64 fun z hz => ?_
    simp only [List.mem_cons,List.not_mem_nil,or_false] at hz
    rcases hz with rfl | rfl | rfl | rfl | rfl | rfl | rfl | rfl | rfl <;> assumption⟩
def rInpA:Reader Inp:=fun w cs i => ∃ A c D cd T ct R cr,cs = (inpVals A c D cd T ct R cr i).toList ∧ InpRaw w A c D T ct R i ∧ i.data.length ≤ cd ∧ cd ≤ 9223372036854775807 ∧ i.draws.length ≤ cr ∧ cr ≤ 9223372036854775807 ∧ ct ≤ 9223372036854775807 ∧ W64 i.cfg.sizes ∧ W64 [i.cfg.shift,i.cfg.workers,i.cfg.batch,i.cfg.micros,i.cfg.steps,i.cfg.bucket,i.cfg.chunk,i.cfg.window,i.cfg.cap]
set_option maxRecDepth 100000 in
set_option maxHeartbeats 1000000 in
theorem opens_inp:Opens Tryz.prog 29 15 rInpA:=⟨cells_inpO,fun {H enc W fuel cs x} h hlt => by
  obtain ⟨xs,n,_,hx,hl,hlen,hf⟩:=DataW.trod_struct Tryz.underlying29 h
  rw [cells_inpO] at hl
  have hlen':xs.length = 4:=hlen
  obtain ⟨k,A,c,k1,k2,k3,k4,k5,k6⟩:=field_opens opens_cfg Tryz.underlying29 hx hlt (hf 0 _ rfl) (by omega) rfl
  obtain ⟨da,D,cd,d1,d2,d3,d4,d5⟩:=field_opens opens_exs Tryz.underlying29 hx hlt (hf 1 _ rfl) (by omega) rfl
  obtain ⟨st,T,ct,t1,t2,t3,t4,t5,t6⟩:=field_opens opens_i64s Tryz.underlying29 hx hlt (hf 2 _ rfl) (by omega) rfl
  obtain ⟨dr,R,cr,r1,r2,r3,r4,r5,r6⟩:=field_opens opens_u64s Tryz.underlying29 hx hlt (hf 3 _ rfl) (by omega) rfl
  clear h hf hlen hlen' hx hlt
  match cs,hl with
  | [c0,c1,c2,c3,c4,c5,c6,c7,c8,c9,c10,c11,c12,c13,c14],_ =>
    simp [cfgVals] at k1 d1 t1 r1
    exact ⟨rfl,⟨k,da,st,dr⟩,A,c,D,cd,T,ct,R,cr,by simp [inpVals,k1,d1,t1,r1],⟨k2,d5,d4,rNums_rd t2 t4 t5 t6,r5,r4,wf_U64 r6,k3,k4⟩,d2,d3,r2,r3,t3,k5,k6⟩⟩
set_option maxRecDepth 100000 in
theorem open_inp {H:Type} {enc:TypeId × Value → H} {W:World} {base:Nat} {v:Value} {d:DataW H} {p:List MemPlace} (o:Value.okWide Tryz.prog W .any base 29 v) (h:DataW.Trod enc Tryz.prog W 0 (fun _ => true) true 29 v d p) (z:Light Tryz.prog 29 d) :
    ∃ (A:Option Addr) (c:Nat) (D:Option Addr) (cd:Nat) (T:Option Addr) (ct:Nat) (R:Option Addr) (cr:Nat) (i:Inp),v = .agg (inpVals A c D cd T ct R cr i) ∧ InpRaw W A c D T ct R i ∧ i.data.length ≤ cd ∧ cd ≤ 9223372036854775807 ∧ i.draws.length ≤ cr ∧ cr ≤ 9223372036854775807 ∧ ct ≤ 9223372036854775807 ∧ W64 i.cfg.sizes ∧ W64 [i.cfg.shift,i.cfg.workers,i.cfg.batch,i.cfg.micros,i.cfg.steps,i.cfg.bucket,i.cfg.chunk,i.cfg.window,i.cfg.cap]:=by
  obtain ⟨cs,rfl,_⟩:=okWide_struct Tryz.underlying29 o
  obtain ⟨i,⟨A,c,D,cd,T,ct,R,cr,e,h1⟩,_⟩:=opens_param opens_inp h z
  refine ⟨A,c,D,cd,T,ct,R,cr,i,?_,h1⟩
  obtain ⟨l⟩:=cs
  have e':l = _:=e
  rw [e']
end Go.Proofs.YtaccfnffmbndhaaGreat
namespace Go.Proofs.YtaccfnffmbndhaaGreat
open Go.RowKit Go.ChangeShapes Go.WideShapes Go.ChangeAt
theorem wpl_ldg {P:Program} {ops:Array Oper} {rest:List Oper} {op:Oper} {a:Act} {w:World} {Q:Exit → Act → World → Prop} {ty:TypeId} {x:Operand} {b o:Nat} {xs:Array Value} {t:TypeId} {fr:Nat × Nat} (cs:Array Value)
    (hb:w.heap[b]? = some (.cells xs t fr)) (hr:RowTy P ty cs.size) (hw:Region.wanted op (yielded ops a.tmps) = true) (ho:op.op = .load ty x) (hx:a.eval x = .pointer (some ⟨b,o,none⟩)) (hcs:(xs.toList.drop o).take cs.toList.length = cs.toList)
    (h:wpList P ops Q rest (a.put op.dst (.agg cs)) w):wpList P ops Q (op :: rest) a w:=by
  obtain ⟨⟨d,h1,h2⟩,h3⟩:=hr
  refine wpList_step fun K hK => ?_
  rw [if_pos hw]
  exact wp_load_mid ty x ho b o hx cs.toList d (range_block hb o hcs) h1 h2 (by simpa using h3) (hK _ _ (by simpa using h))
end Go.Proofs.YtaccfnffmbndhaaGreat
