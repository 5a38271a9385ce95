/- What a plan says, in plain numbers; how many items there are. Dividing a number evenly: what the code reckons, and what the reference counts. A region that draws its order: what is held need only be held till one certain operation has come (the store that ends it). No condition. -/
import Derived.Test.YtaccfnffmbndhaaGreatB02
import Derived.Test.YtaccfnffmbndhaaGreatB01
import Derived.StillTail
import Derived.OrdersHeld
import Derived.Deep.RegionHeld
set_option linter.unusedSimpArgs false
set_option linter.unusedVariables false
namespace Go.Proofs.YtaccfnffmbndhaaGreat
open Go.RowKit
abbrev Rg:=Nat × Nat
def rgVals (l:List Rg):List Value:=l.flatMap fun r => [.int .i64 (r.1:Int),.int .i64 (r.2:Int)]
theorem rgVals_app (a b:List Rg):rgVals (a ++ b) = rgVals a ++ rgVals b:=by simp [rgVals]
theorem rgVals_len:∀ l:List Rg,(rgVals l).length = l.length * 2
  | [] => rfl
  | r :: l => by have:=rgVals_len l;simp only [rgVals,List.flatMap_cons,List.length_append,List.length_cons,List.length_nil] at *;omega
theorem rgVals_at:∀ {l:List Rg} {j:Nat} {r:Rg},l[j]? = some r → (rgVals l)[j * 2]? = some (.int .i64 (r.1:Int)) ∧ (rgVals l)[j * 2 + 1]? = some (.int .i64 (r.2:Int))
  | [],_,_,h => by simp at h
  | x :: l,0,r,h => by simp only [List.getElem?_cons_zero,Option.some.injEq] at h;subst h;exact ⟨rfl,rfl⟩
  | x :: l,j + 1,r,h => by
    simp only [List.getElem?_cons_succ] at h
    have:=rgVals_at h
    have e:rgVals (x :: l) = [.int .i64 (x.1:Int),.int .i64 (x.2:Int)] ++ rgVals l:=by simp [rgVals]
    rw [e,List.getElem?_append_right (by simp;omega),List.getElem?_append_right (by simp;omega)]
    simp only [List.length_cons,List.length_nil]
    rw [show (j + 1) * 2 - (0 + 1 + 1) = j * 2 by omega,show (j + 1) * 2 + 1 - (0 + 1 + 1) = j * 2 + 1 by omega]
    exact this
def blkR (n s:Nat):List Rg:=(List.range (cntQ n s)).map fun j => (j * s,min (j * s + s) n)
theorem blkR_len (n s:Nat):(blkR n s).length = cntQ n s:=by simp [blkR]
theorem blkR_vals (n s:Nat):rgVals (blkR n s) = blkVals n s (cntQ n s):=by simp [rgVals,blkR,blkVals,List.flatMap_map]
def bdN (n k i:Nat):Nat:=i * (n / k) + min i (n % k)
def evenR (n k:Nat):List Rg:=(List.range k).map fun i => (bdN n k i,bdN n k (i + 1))
theorem evenR_len (n k:Nat):(evenR n k).length = k:=by simp [evenR]
def shR (d:Nat) (l:List Rg):List Rg:=l.map fun r => (r.1 + d,r.2 + d)
theorem shR_len (d:Nat) (l:List Rg):(shR d l).length = l.length:=by simp [shR]
def segR (b:Rg) (W:Nat):List Rg:=shR b.1 (evenR (b.2 - b.1) W)
theorem segR_len (b:Rg) (W:Nat):(segR b W).length = W:=by rw [segR,shR_len,evenR_len]
def chR (s:Rg) (c:Nat):List Rg:=shR s.1 (blkR (s.2 - s.1) c)
def bukR (n s:Nat):List Rg:=(blkR n s).reverse
theorem bukR_len (n s:Nat):(bukR n s).length = cntQ n s:=by rw [bukR,List.length_reverse,blkR_len]
def rgAt (l:List Rg) (j:Nat):Rg:=l.getD j (0,0)
structure Acn where
  send:Bool
  add:Bool
  st:Nat
  bk:Nat
  ph:Nat
  rd:Nat
  ch:Nat
  at':Rg
def segOut (W w ph r:Nat):Nat:=(w + (2 * W + ph - r)) % W
def segIn (W w ph r:Nat):Nat:=(w + (2 * W + ph - r - 1)) % W
def pairUp (x y:List Rg) (f g:Nat → Rg → Acn):List Acn:=
  (List.range (max x.length y.length)).flatMap fun i => (if i < x.length then [f i (rgAt x i)] else []) ++ (if i < y.length then [g i (rgAt y i)] else [])
theorem pairUp_len (x y:List Rg) (f g:Nat → Rg → Acn):(pairUp x y f g).length = x.length + y.length:=by
  have h:∀ m,((List.range m).flatMap fun i => (if i < x.length then [f i (rgAt x i)] else []) ++ (if i < y.length then [g i (rgAt y i)] else [])).length = min m x.length + min m y.length:=by
    intro m
    induction m with
    | zero => simp
    | succ m ih =>
      rw [List.range_succ,List.flatMap_append,List.length_append,ih]
      simp only [List.flatMap_cons,List.flatMap_nil,List.append_nil,List.length_append]
      by_cases h1:m < x.length <;> by_cases h2:m < y.length <;> simp [h1,h2] <;> omega
  unfold pairUp
  rw [h];omega
def roundL (st bk:Nat) (b:Rg) (W c w ph r:Nat):List Acn:=
  pairUp (chR (rgAt (segR b W) (segOut W w ph r)) c) (chR (rgAt (segR b W) (segIn W w ph r)) c) (fun i s => ⟨true,false,st,bk,ph,r,i,s⟩) (fun i s => ⟨false,ph == 0,st,bk,ph,r,i,s⟩)
structure Pln where
  W:Nat
  mi:Nat
  bu:Nat
  ck:Nat
  wi:Nat
  n:Nat
structure Itm where
  kind:Nat
  st:Nat
  n:Nat
  a:Option Acn
def Pln.buks (p:Pln):List Rg:=bukR p.n p.bu
def Pln.grps (p:Pln):List Rg:=blkR p.buks.length p.wi
def itemOf (st:Nat) (a:Acn):Itm:=⟨if a.send then 3 else 4,st,0,some a⟩
def roundI (p:Pln) (w st ph r j:Nat):List Itm:=(roundL st j (rgAt p.buks j) p.W p.ck w ph r).map (itemOf st)
def groupL (p:Pln) (w st:Nat) (g:Rg):List Itm:=
  (List.range' g.1 (g.2 - g.1)).map (fun j => ⟨2,st,j,none⟩) ++
  ((List.range 2).flatMap fun ph => (List.range (p.W - 1)).flatMap fun r => (List.range' g.1 (g.2 - g.1)).flatMap fun j => roundI p w st ph r j) ++
  (List.range' g.1 (g.2 - g.1)).map (fun j => ⟨5,st,j,none⟩)
def itemsL (p:Pln) (w st:Nat):List Itm:=
  (List.range p.mi).map (fun a => ⟨1,st,a,none⟩) ++ p.grps.flatMap (groupL p w st) ++ [⟨6,st,0,none⟩]
def sumN' (n:Nat) (f:Nat → Nat):Nat:=((List.range n).map f).sum
theorem sumN'_succ (n:Nat) (f:Nat → Nat):sumN' (n + 1) f = sumN' n f + f n:=by simp [sumN',List.range_succ]
theorem sumN'_congr {n:Nat} {f g:Nat → Nat} (h:∀ k,k < n → f k = g k):sumN' n f = sumN' n g:=by
  unfold sumN';congr 1;exact List.map_congr_left fun k hk => h k (List.mem_range.1 hk)
theorem sumN'_add (n:Nat) (f g:Nat → Nat):sumN' n (fun k => f k + g k) = sumN' n f + sumN' n g:=by
  induction n with
  | zero => rfl
  | succ n ih => rw [sumN'_succ,sumN'_succ,sumN'_succ,ih];omega
theorem sumN'_const (n c:Nat):sumN' n (fun _ => c) = n * c:=by
  induction n with
  | zero => simp [sumN']
  | succ n ih => rw [sumN'_succ,ih,Nat.succ_mul]
theorem sumN'_swap (n m:Nat) (f:Nat → Nat → Nat):sumN' n (fun i => sumN' m (f i)) = sumN' m (fun j => sumN' n (fun i => f i j)):=by
  induction n with
  | zero => simp only [sumN',List.range_zero,List.map_nil,List.sum_nil];rw [show (fun _:Nat => 0) = fun _ => 0 from rfl];exact (sumN'_const m 0).symm
  | succ n ih => rw [sumN'_succ,ih,← sumN'_add];exact sumN'_congr fun j _ => (sumN'_succ n (fun i => f i j)).symm
theorem sumN'_split (a b:Nat) (f:Nat → Nat):sumN' (a + b) f = sumN' a f + sumN' b (fun k => f (a + k)):=by
  induction b with
  | zero => simp [sumN']
  | succ b ih => rw [← Nat.add_assoc,sumN'_succ,ih,sumN'_succ];omega
theorem flat_range {β:Type} (n:Nat) (f:Nat → List β):((List.range n).flatMap f).length = sumN' n fun k => (f k).length:=by
  rw [List.length_flatMap];rfl
theorem flat_range' {β:Type} (a n:Nat) (f:Nat → List β):((List.range' a n).flatMap f).length = sumN' n fun k => (f (a + k)).length:=by
  rw [List.length_flatMap]
  unfold sumN'
  rw [List.range'_eq_map_range,List.map_map];rfl
theorem blkR_sum (n s:Nat) (hs:1 ≤ s) (f:Nat → Nat):((blkR n s).map fun g => sumN' (g.2 - g.1) fun k => f (g.1 + k)).sum = sumN' n f:=by
  have h:∀ m,m ≤ cntQ n s → (((List.range m).map fun j => (j * s,min (j * s + s) n)).map fun g:Rg => sumN' (g.2 - g.1) fun k => f (g.1 + k)).sum = sumN' (min (m * s) n) f:=by
    intro m
    induction m with
    | zero => intro _;simp [sumN']
    | succ m ih =>
      intro hm
      have h1:=cntQ_lt (n:=n) (size:=s) (k:=m) (by omega)
      rw [List.range_succ,List.map_append,List.map_append,List.sum_append,ih (by omega)]
      simp only [List.map_cons,List.map_nil,List.sum_cons,List.sum_nil,Nat.add_zero]
      rw [show min (m * s) n = m * s by omega,Nat.succ_mul]
      have:=sumN'_split (m * s) (min (m * s + s) n - m * s) f
      rw [show m * s + (min (m * s + s) n - m * s) = min (m * s + s) n by omega] at this
      exact this.symm
  have:=h (cntQ n s) (Nat.le_refl _)
  unfold blkR
  rw [this]
  congr 1
  rcases Nat.eq_zero_or_pos n with rfl | hn
  · simp
  · have:n ≤ cntQ n s * s:=by
      unfold cntQ
      rw [if_neg (by omega),Nat.succ_mul]
      have:=Nat.div_add_mod (n - 1) s
      have:=Nat.mod_lt (n - 1) (show 0 < s by omega)
      have:s * ((n - 1) / s) = (n - 1) / s * s:=Nat.mul_comm _ _
      omega
    omega
theorem roundL_len (st bk:Nat) (b:Rg) (W c w ph r:Nat):(roundL st bk b W c w ph r).length = (chR (rgAt (segR b W) (segOut W w ph r)) c).length + (chR (rgAt (segR b W) (segIn W w ph r)) c).length:=pairUp_len _ _ _ _
theorem groupL_len (p:Pln) (w st:Nat) (g:Rg):(groupL p w st g).length = sumN' (g.2 - g.1) fun k => 2 + sumN' 2 fun ph => sumN' (p.W - 1) fun r => (roundI p w st ph r (g.1 + k)).length:=by
  unfold groupL
  simp only [List.length_append,List.length_map,List.length_range',flat_range,flat_range']
  rw [sumN'_add,sumN'_const]
  have e:(sumN' 2 fun ph => sumN' (p.W - 1) fun r => sumN' (g.2 - g.1) fun k => (roundI p w st ph r (g.1 + k)).length) = sumN' (g.2 - g.1) fun k => sumN' 2 fun ph => sumN' (p.W - 1) fun r => (roundI p w st ph r (g.1 + k)).length:=by
    rw [sumN'_congr (g:=fun ph => sumN' (g.2 - g.1) fun k => sumN' (p.W - 1) fun r => (roundI p w st ph r (g.1 + k)).length) (fun ph _ => sumN'_swap _ _ _),sumN'_swap]
  rw [e];omega
theorem itemsL_len (p:Pln) (w st:Nat) (hw:1 ≤ p.wi):(itemsL p w st).length = p.mi + 1 + sumN' p.buks.length fun j => 2 + sumN' 2 fun ph => sumN' (p.W - 1) fun r => (roundI p w st ph r j).length:=by
  unfold itemsL
  simp only [List.length_append,List.length_map,List.length_range,List.length_flatMap,List.length_cons,List.length_nil]
  have:((p.grps.map fun a => (groupL p w st a).length)).sum = sumN' p.buks.length fun j => 2 + sumN' 2 fun ph => sumN' (p.W - 1) fun r => (roundI p w st ph r j).length:=by
    simp only [groupL_len]
    exact blkR_sum p.buks.length p.wi hw fun j => 2 + sumN' 2 fun ph => sumN' (p.W - 1) fun r => (roundI p w st ph r j).length
  rw [this];omega
end Go.Proofs.YtaccfnffmbndhaaGreat
namespace Go.Proofs.YtaccfnffmbndhaaGreat
theorem divmod_next (m k:Nat) (hk:0 < k):(m % k + 1 < k → (m + 1) / k = m / k ∧ (m + 1) % k = m % k + 1) ∧ (¬ m % k + 1 < k → (m + 1) / k = m / k + 1 ∧ (m + 1) % k = 0):=by
  have h1:=Nat.div_add_mod m k
  have h2:=Nat.mod_lt m hk
  constructor
  · intro h
    have e:m + 1 = (m % k + 1) + k * (m / k):=by omega
    rw [e,Nat.add_mul_div_left _ _ hk,Nat.add_mul_mod_self_left,Nat.div_eq_of_lt h,Nat.mod_eq_of_lt h]
    omega
  · intro h
    have e:m + 1 = k * (m / k + 1):=by rw [Nat.mul_succ];omega
    rw [e,Nat.mul_div_cancel_left _ hk,Nat.mul_mod_right]
    exact ⟨rfl,rfl⟩
def szE (k m i:Nat):Nat:=m / k + if i < m % k then 1 else 0
theorem szE_zero {k:Nat} (i:Nat):szE k 0 i = 0:=by simp [szE]
theorem szE_succ {k m i:Nat} (hi:i < k):szE k (m + 1) i = szE k m i + if i = m % k then 1 else 0:=by
  obtain ⟨h1,h2⟩:=divmod_next m k (by omega)
  have hm:=Nat.mod_lt m (show 0 < k by omega)
  unfold szE
  by_cases h:m % k + 1 < k
  · rw [(h1 h).1,(h1 h).2]
    split <;> split <;> split <;> omega
  · rw [(h2 h).1,(h2 h).2]
    split <;> split <;> split <;> omega
theorem bdN_succ (n k i:Nat):bdN n k (i + 1) = bdN n k i + szE k n i:=by
  unfold bdN szE
  rw [Nat.succ_mul]
  split <;> omega
theorem bdN_all (n k:Nat) (hk:0 < k):bdN n k k = n:=by
  unfold bdN
  have h1:=Nat.div_add_mod n k
  have h2:=Nat.mod_lt n hk
  omega
theorem bdN_mono (n k:Nat) {i j:Nat} (h:i ≤ j):bdN n k i ≤ bdN n k j:=by
  unfold bdN
  have:=Nat.mul_le_mul_right (n / k) h
  omega
theorem bdN_le (n k i:Nat) (hk:0 < k) (h:i ≤ k):bdN n k i ≤ n:=by
  have:=bdN_mono n k h
  rwa [bdN_all n k hk] at this
theorem evenR_succ (n k m:Nat):(List.range (m + 1)).map (fun i => (bdN n k i,bdN n k (i + 1))) = (List.range m).map (fun i => (bdN n k i,bdN n k (i + 1))) ++ [(bdN n k m,bdN n k (m + 1))]:=by
  rw [List.range_succ,List.map_append];rfl
end Go.Proofs.YtaccfnffmbndhaaGreat
namespace Go.Proofs.YtaccfnffmbndhaaGreat
open Go.RowKit
section
variable {P:Program} {ops:Array Oper} {Q:Exit → Act → World → Prop} {md:Region.Mode} {S:World → Prop} {n:Nat}
def wpAnyX (P:Program) (md:Region.Mode) (ops:Array Oper) (Q:Exit → Act → World → Prop) (S:World → Prop) (n:Nat):Nat → Array Bool → Act → World → Prop
  | 0,listed,a,w => Region.ready md ops listed = [] ∧ Q .normal a w
  | fuel + 1,listed,a,w =>
    (Region.ready md ops listed = [] → Q .normal a w) ∧
    ∀ i ∈ Region.ready md ops listed,wpOp P ops Q i (fun a' w' => ((listed.setIfInBounds i true).getD n true = false → S w') ∧ wpAnyX P md ops Q S n fuel (listed.setIfInBounds i true) a' w') a w
theorem wpAny_of_X:∀ (fuel:Nat) (listed:Array Bool) (a:Act) (w:World),wpAnyX P md ops Q S n fuel listed a w → wpAny P md ops Q fuel listed a w
  | 0,_,_,_,h => h
  | fuel + 1,_,_,_,h => ⟨h.1,fun i hi => wpOp_mono (fun a' w' h' => wpAny_of_X fuel _ a' w' h'.2) (h.2 i hi)⟩
theorem ready_ne {listed:Array Bool} {i j:Nat} (hB:Region.waitsFor md ops n i = true) (hi:i ∈ Region.ready md ops listed) (hj:j ∈ Region.ready md ops listed):j ≠ n:=fun hjn => by
  subst hjn
  obtain ⟨_,oj,hoj,hall⟩:=mem_ready.1 hj
  obtain ⟨o',ho',e,he,hb,hon⟩:=Region.waitsFor_spec hB
  have:o' = oj:=Option.some.inj (ho'.symm.trans hoj)
  subst this
  have h2:=hall e he hb
  rw [hon,getD_both (mem_ready.1 hi).1] at h2
  cases h2
theorem wpAnyX_first {i:Nat} {oi:Oper} {v:Value} (hB:Region.waitsFor md ops n i = true) (hni:i ≠ n) (hi:ops[i]? = some oi) (hsel:∀ (j:Nat) (o:Oper) cs b,ops[j]? = some o → o.op ≠ .select cs b)
    (hQ:∀ c a w,Q (.panic c) (a.put oi.dst v) w → Q (.panic c) a w) :
    ∀ (fuel:Nat) (listed:Array Bool) (a:Act) (w:World),
      (∀ j oj,ops[j]? = some oj → j ≠ i → listed.getD j true = false → (∀ e ∈ oj.after,Region.binds md e = true → e.on ≠ i) → oi.apart ops oj = true) →
      i ∈ Region.ready md ops listed → YieldsIf P ops S oi v a → listed.getD n true = false → S w →
      wpAnyX P md ops Q S n fuel (listed.setIfInBounds i true) (a.put oi.dst v) w → wpAnyX P md ops Q S n (fuel + 1) listed a w:=by
  intro fuel
  induction fuel with
  | zero =>
    intro listed a w _ hr hy hn hS H
    refine ⟨fun h => (by rw [h] at hr;cases hr),fun j hj => ?_⟩
    by_cases hji:j = i
    · subst hji;exact hy.wpOp hi hS ⟨fun _ => hS,H⟩
    · have:=ready_mono hj hji
      rw [H.1] at this
      cases this
  | succ fuel ih =>
    intro listed a w hfree hr hy hn hS H
    refine ⟨fun h => (by rw [h] at hr;cases hr),fun j hj => ?_⟩
    by_cases hji:j = i
    · subst hji;exact hy.wpOp hi hS ⟨fun _ => hS,H⟩
    · have h1:=H.2 j (ready_mono hj hji)
      have hjn:=ready_ne hB hr hj
      have getD_n:(listed.setIfInBounds j true).getD n true = false → ((listed.setIfInBounds i true).setIfInBounds j true).getD n true = false:=fun h => by
        rw [Array.setIfInBounds_comm _ _ (Ne.symm hji),getD_set_ne true hni];exact h
      obtain ⟨hjun,oj,hoj,hall⟩:=mem_ready.1 hj
      have hnot:∀ e ∈ oj.after,Region.binds md e = true → e.on ≠ i:=fun e he hb heq => by
        have h1:=hall e he hb
        rw [heq,getD_both (mem_ready.1 hr).1] at h1
        cases h1
      have h2:=wpOp_putIf hoj (hfree j oj hoj hji hjun hnot) (fun cs b => hsel i oi cs b hi) (fun cs b => hsel j oj cs b hoj) hQ hy h1
      have hfree':∀ k ok,ops[k]? = some ok → k ≠ i → (listed.setIfInBounds j true).getD k true = false →
          (∀ e ∈ ok.after,Region.binds md e = true → e.on ≠ i) → oi.apart ops ok = true:=fun k ok hk hki hun hno => by
        refine hfree k ok hk hki ?_ hno
        by_cases hjk:j = k
        · subst hjk;exact hjun
        · rw [getD_set_ne true hjk] at hun;exact hun
      refine wpOp_mono (fun a' w' h3 => ⟨(fun h => h3.2.1 (getD_n h)),ih (listed.setIfInBounds j true) a' w' hfree' (ready_mono hr (Ne.symm hji)) h3.1 (by rw [getD_set_ne true hjn];exact hn) (h3.2.1 (getD_n (by rw [getD_set_ne true hjn];exact hn))) ?_⟩) h2
      rw [Array.setIfInBounds_comm _ _ hji]
      exact h3.2.2
theorem wpAnyX_first0 {i:Nat} {oi:Oper} {v:Value} (hni:i ≠ n) (hi:ops[i]? = some oi) (hsel:∀ (j:Nat) (o:Oper) cs b,ops[j]? = some o → o.op ≠ .select cs b)
    (hQ:∀ c a w,Q (.panic c) (a.put oi.dst v) w → Q (.panic c) a w) :
    ∀ (fuel:Nat) (listed:Array Bool) (a:Act) (w:World),
      (∀ j oj,ops[j]? = some oj → j ≠ i → listed.getD j true = false → (∀ e ∈ oj.after,Region.binds md e = true → e.on ≠ i) → oi.apart ops oj = true) →
      i ∈ Region.ready md ops listed → YieldsIf P ops (fun _ => True) oi v a → (listed.getD n true = false → S w) →
      wpAnyX P md ops Q S n fuel (listed.setIfInBounds i true) (a.put oi.dst v) w → wpAnyX P md ops Q S n (fuel + 1) listed a w:=by
  intro fuel
  induction fuel with
  | zero =>
    intro listed a w _ hr hy hS H
    refine ⟨fun h => (by rw [h] at hr;cases hr),fun j hj => ?_⟩
    by_cases hji:j = i
    · subst hji;exact hy.wpOp hi trivial ⟨fun h => hS (by
        by_cases hin:j = n
        · subst hin;exact (mem_ready.1 hr).1
        · rwa [getD_set_ne true hin] at h),H⟩
    · have:=ready_mono hj hji
      rw [H.1] at this
      cases this
  | succ fuel ih =>
    intro listed a w hfree hr hy hS H
    refine ⟨fun h => (by rw [h] at hr;cases hr),fun j hj => ?_⟩
    by_cases hji:j = i
    · subst hji;exact hy.wpOp hi trivial ⟨fun h => hS (by
        by_cases hin:j = n
        · subst hin;exact (mem_ready.1 hr).1
        · rwa [getD_set_ne true hin] at h),H⟩
    · have h1:=H.2 j (ready_mono hj hji)
      have getD_n:(listed.setIfInBounds j true).getD n true = false → ((listed.setIfInBounds i true).setIfInBounds j true).getD n true = false:=fun h => by
        rw [Array.setIfInBounds_comm _ _ (Ne.symm hji),getD_set_ne true hni];exact h
      obtain ⟨hjun,oj,hoj,hall⟩:=mem_ready.1 hj
      have hnot:∀ e ∈ oj.after,Region.binds md e = true → e.on ≠ i:=fun e he hb heq => by
        have h1:=hall e he hb
        rw [heq,getD_both (mem_ready.1 hr).1] at h1
        cases h1
      have h2:=wpOp_putIf hoj (hfree j oj hoj hji hjun hnot) (fun cs b => hsel i oi cs b hi) (fun cs b => hsel j oj cs b hoj) hQ hy h1
      have hfree':∀ k ok,ops[k]? = some ok → k ≠ i → (listed.setIfInBounds j true).getD k true = false →
          (∀ e ∈ ok.after,Region.binds md e = true → e.on ≠ i) → oi.apart ops ok = true:=fun k ok hk hki hun hno => by
        refine hfree k ok hk hki ?_ hno
        by_cases hjk:j = k
        · subst hjk;exact hjun
        · rw [getD_set_ne true hjk] at hun;exact hun
      refine wpOp_mono (fun a' w' h3 => ⟨(fun h => h3.2.1 (getD_n h)),ih (listed.setIfInBounds j true) a' w' hfree' (ready_mono hr (Ne.symm hji)) h3.1 (fun h => h3.2.1 (getD_n h)) ?_⟩) h2
      rw [Array.setIfInBounds_comm _ _ hji]
      exact h3.2.2
theorem wpAnyX_take {i:Nat} {oi:Oper} {v:Value} {fuel:Nat} {listed:Array Bool} {a:Act} {w:World} (hi:ops[i]? = some oi) (hB:Region.waitsFor md ops n i = true) (hni:i ≠ n) (hn:listed.getD n true = false)
    (hs:Region.noSelect ops = true) (hf:Region.free md ops listed i = true) (hr:(Region.ready md ops listed).contains i = true)
    (hQ:∀ c a w,Q (.panic c) (a.put oi.dst v) w → Q (.panic c) a w) (hy:YieldsIf P ops S oi v a) (hS:S w)
    (h:wpAnyX P md ops Q S n fuel (listed.setIfInBounds i true) (a.put oi.dst v) w):wpAnyX P md ops Q S n (fuel + 1) listed a w:=
  wpAnyX_first hB hni hi (Region.noSelect_spec hs) hQ fuel listed a w (Region.free_spec hi hf) (by simpa using hr) hy hn hS h
theorem wpAnyX_take0 {i:Nat} {oi:Oper} {v:Value} {fuel:Nat} {listed:Array Bool} {a:Act} {w:World} (hi:ops[i]? = some oi) (hni:i ≠ n)
    (hs:Region.noSelect ops = true) (hf:Region.free md ops listed i = true) (hr:(Region.ready md ops listed).contains i = true)
    (hQ:∀ c a w,Q (.panic c) (a.put oi.dst v) w → Q (.panic c) a w) (hy:YieldsIf P ops (fun _ => True) oi v a) (hS:S w)
    (h:wpAnyX P md ops Q S n fuel (listed.setIfInBounds i true) (a.put oi.dst v) w):wpAnyX P md ops Q S n (fuel + 1) listed a w:=
  wpAnyX_first0 hni hi (Region.noSelect_spec hs) hQ fuel listed a w (Region.free_spec hi hf) (by simpa using hr) hy (fun _ => hS) h
def AllReadyX (P:Program) (md:Region.Mode) (ops:Array Oper) (Q:Exit → Act → World → Prop) (S:World → Prop) (n:Nat) (fuel:Nat) (listed:Array Bool) (a:Act) (w:World) (rs:List Nat):Prop:=
  ∀ i ∈ rs,wpOp P ops Q i (fun a' w' => ((listed.setIfInBounds i true).getD n true = false → S w') ∧ wpAnyX P md ops Q S n fuel (listed.setIfInBounds i true) a' w') a w
theorem AllReadyX.nil {fuel:Nat} {listed:Array Bool} {a:Act} {w:World}:AllReadyX P md ops Q S n fuel listed a w []:=fun _ h => by cases h
theorem AllReadyX.cons {fuel:Nat} {listed:Array Bool} {a:Act} {w:World} {i:Nat} {o:Oper} {rs:List Nat} (ho:ops[i]? = some o)
    (h:∀ K':Act → World → Prop,Shut (∀ a w,S w → (S w → wpAnyX P md ops Q S n fuel (listed.setIfInBounds i true) a w) → K' a w) → if Region.wanted o (yielded ops a.tmps) = true then Oper.wp P o a w K' Q else K' (a.put o.dst undef) w)
    (hs:AllReadyX P md ops Q S n fuel listed a w rs):AllReadyX P md ops Q S n fuel listed a w (i :: rs):=fun j hj => by
  rcases List.mem_cons.1 hj with rfl | hj
  · exact wpOp_step ho (fun K' hK => h K' (fun a w hS hW => hK a w ⟨fun _ => hS,hW hS⟩))
  · exact hs j hj
theorem wpAnyX_ready {rs:List Nat} {fuel:Nat} {listed:Array Bool} {a:Act} {w:World} (hr:Region.ready md ops listed = rs) (hne:rs ≠ [])
    (h:AllReadyX P md ops Q S n fuel listed a w rs):wpAnyX P md ops Q S n (fuel + 1) listed a w:=⟨fun h0 => absurd (hr ▸ h0) hne,hr ▸ h⟩
theorem wpAnyX_seq:∀ (l:List Oper) (k:Nat) (listed:Array Bool) (a:Act) (w:World),(k ≠ n → listed.getD n true = true) → (∀ j,l[j]? = ops[k + j]?) →
    Region.seqB md ops l.length k listed = true → wpList P ops Q l a w → wpAnyX P md ops Q S n l.length listed a w
  | [],_,_,_,_,_,_,hB,h => ⟨by simpa [Region.seqB] using hB,h⟩
  | o :: l,k,listed,a,w,hk,hl,hB,h => by
    have h0:ops[k]? = some o:=by simpa using (hl 0).symm
    simp only [List.length_cons,Region.seqB,Bool.and_eq_true,decide_eq_true_eq] at hB
    have hset:(listed.setIfInBounds k true).getD n true = true:=by
      by_cases hkn:k = n
      · subst hkn
        rcases Nat.lt_or_ge k listed.size with h' | h'
        · simp [h']
        · simp [Nat.not_lt.2 h']
      · rw [getD_set_ne true hkn];exact hk hkn
    refine ⟨fun h1 => (by rw [hB.1] at h1;cases h1),fun i hi => ?_⟩
    rw [hB.1] at hi
    have hik:i = k:=by simpa using hi
    subst hik
    have hw:wpOp P ops Q i (wpList P ops Q l) a w:=by unfold wpOp;simp only [h0];exact h
    exact wpOp_mono (fun a' w' h' => ⟨fun h => (by rw [hset] at h;cases h),wpAnyX_seq l (i + 1) _ a' w' (fun _ => hset) (fun j => by have:=hl (j + 1);simpa [Nat.add_assoc,Nat.add_comm 1 j] using this) hB.2 h'⟩) hw
theorem wpAnyX_tail {l:List Oper} {fuel:Nat} {listed:Array Bool} {a:Act} {w:World} (hf:fuel = (l.drop n).length) (hB:Region.seqB md l.toArray (l.drop n).length n listed = true) (h:wpList P l.toArray Q (l.drop n) a w) :
    wpAnyX P md l.toArray Q S n fuel listed a w:=by
  subst hf
  exact wpAnyX_seq (l.drop n) n listed a w (fun h => absurd rfl h) (fun j => by simp [List.getElem?_drop]) hB h
theorem step_appX {t e:TypeId} {z:Value} {size bytes:Nat} (T:ElemT P t e z size bytes) {w:World} {o:Oper} {tm:Array Value} {a:Act} {K:Act → World → Prop} {E:Prop}
    (s x:Operand) (hgd:o.guard = none) (ho:o.op = .call { callee:=.builtin .append,args:=#[s,x],argTypes:=#[t,t] })
    (base:Nat) (v:Value) (n:Nat) (xs:List Value) (hs:a.eval s = v) (hown:w.ownsRow base e size v n xs)
    (A:Option Addr) (m c:Nat) (us:List Value) (hx:a.eval x = .slice A m c) (hr:Rd w A us) (hus:us.length = m * size) (h1:∀ u ∈ us,u.oneCell' = true)
    (hb:(n + m) * bytes ≤ 140737488355328) (h63:n + m ≤ maxLen) (hbase:base ≤ w.heap.size)
    (h:∀ A' c' w',w'.ownsRow base e size (.slice A' (n + m) c') (n + m) (xs ++ us) → Below base w w' → w.grownBy w' v.ownBlock → ((Value.slice A' (n + m) c').ownBlock = v.ownBlock ∨ (Value.slice A' (n + m) c').ownBlock = some w.heap.size) → K (a.put o.dst (.slice A' (n + m) c')) w') :
    if Region.wanted o (yielded ops tm) = true then Oper.wp P o a w K Q else E:=by
  rw [if_pos (by simp [Region.wanted,hgd])]
  have:=step_app (ops:=ops) (K:=K) (Q:=Q) (E:=E) T hgd s x ho base v n xs hs hown A m c us hx hr hus h1 hb h63 hbase h
  rwa [if_pos (by simp [Region.wanted,hgd])] at this
theorem wp_region_X (n:Nat) (S:World → Prop) {id:Nat} {a:Act} {w:World} (hm:P.follows .mixedOrders = true)
    (h:wpAnyX P .any ops Q S n ops.size (Array.replicate ops.size false) a w.drew):(Code.region id ops true).wp P Q a w:=
  wp_region_any hm (wpAny_of_X _ _ _ _ h)
end
end Go.Proofs.YtaccfnffmbndhaaGreat
