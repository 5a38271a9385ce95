/- What a plan says, in plain numbers; how many items there are. -/
import Derived.Test.YtaccfnffmbndhaaBlkPlain
set_option linter.unusedSimpArgs false
set_option linter.unusedVariables false
namespace Go.Proofs.Ytaccfnffmbndhaa
open Go.RowKit

/-- Ranges. -/
abbrev Rg := Nat × Nat
def rgVals (l : List Rg) : List Value := l.flatMap fun r => [.int .i64 (r.1 : Int), .int .i64 (r.2 : Int)]
theorem rgVals_app (a b : List Rg) : rgVals (a ++ b) = rgVals a ++ rgVals b := by simp [rgVals]
theorem rgVals_len : ∀ l : List Rg, (rgVals l).length = l.length * 2
  | [] => rfl
  | r :: l => by have := rgVals_len l; simp only [rgVals, List.flatMap_cons, List.length_append, List.length_cons, List.length_nil] at *; omega
theorem rgVals_at : ∀ {l : List Rg} {j : Nat} {r : Rg}, l[j]? = some r → (rgVals l)[j * 2]? = some (.int .i64 (r.1 : Int)) ∧ (rgVals l)[j * 2 + 1]? = some (.int .i64 (r.2 : Int))
  | [], _, _, h => by simp at h
  | x :: l, 0, r, h => by simp only [List.getElem?_cons_zero, Option.some.injEq] at h; subst h; exact ⟨rfl, rfl⟩
  | x :: l, j + 1, r, h => by
    simp only [List.getElem?_cons_succ] at h
    have := rgVals_at h
    have e : rgVals (x :: l) = [.int .i64 (x.1 : Int), .int .i64 (x.2 : Int)] ++ rgVals l := by simp [rgVals]
    rw [e, List.getElem?_append_right (by simp; omega), List.getElem?_append_right (by simp; omega)]
    simp only [List.length_cons, List.length_nil]
    rw [show (j + 1) * 2 - (0 + 1 + 1) = j * 2 by omega, show (j + 1) * 2 + 1 - (0 + 1 + 1) = j * 2 + 1 by omega]
    exact this
/-- n numbers in blocks of a size. -/
def blkR (n s : Nat) : List Rg := (List.range (cntQ n s)).map fun j => (j * s, min (j * s + s) n)
theorem blkR_len (n s : Nat) : (blkR n s).length = cntQ n s := by simp [blkR]
theorem blkR_vals (n s : Nat) : rgVals (blkR n s) = blkVals n s (cntQ n s) := by simp [rgVals, blkR, blkVals, List.flatMap_map]
/-- Where range i of k begins. -/
def bdN (n k i : Nat) : Nat := i * (n / k) + min i (n % k)
def evenR (n k : Nat) : List Rg := (List.range k).map fun i => (bdN n k i, bdN n k (i + 1))
theorem evenR_len (n k : Nat) : (evenR n k).length = k := by simp [evenR]
def shR (d : Nat) (l : List Rg) : List Rg := l.map fun r => (r.1 + d, r.2 + d)
theorem shR_len (d : Nat) (l : List Rg) : (shR d l).length = l.length := by simp [shR]
def segR (b : Rg) (W : Nat) : List Rg := shR b.1 (evenR (b.2 - b.1) W)
theorem segR_len (b : Rg) (W : Nat) : (segR b W).length = W := by rw [segR, shR_len, evenR_len]
def chR (s : Rg) (c : Nat) : List Rg := shR s.1 (blkR (s.2 - s.1) c)
def bukR (n s : Nat) : List Rg := (blkR n s).reverse
theorem bukR_len (n s : Nat) : (bukR n s).length = cntQ n s := by rw [bukR, List.length_reverse, blkR_len]
def rgAt (l : List Rg) (j : Nat) : Rg := l.getD j (0, 0)
def msgsN (b : Rg) (W c : Nat) : Nat := ((segR b W).map fun s => (chR s c).length).sum

/-- An action. -/
structure Acn where
  send : Bool
  add : Bool
  st : Nat
  bk : Nat
  ph : Nat
  rd : Nat
  ch : Nat
  at' : Rg
/-- The segments that are sent and received in a round. -/
def segOut (W w ph r : Nat) : Nat := (w + (2 * W + ph - r)) % W
def segIn (W w ph r : Nat) : Nat := (w + (2 * W + ph - r - 1)) % W
def pairUp (x y : List Rg) (f g : Nat → Rg → Acn) : List Acn :=
  (List.range (max x.length y.length)).flatMap fun i => (if i < x.length then [f i (rgAt x i)] else []) ++ (if i < y.length then [g i (rgAt y i)] else [])
theorem pairUp_len (x y : List Rg) (f g : Nat → Rg → Acn) : (pairUp x y f g).length = x.length + y.length := by
  have h : ∀ m, ((List.range m).flatMap fun i => (if i < x.length then [f i (rgAt x i)] else []) ++ (if i < y.length then [g i (rgAt y i)] else [])).length = min m x.length + min m y.length := by
    intro m
    induction m with
    | zero => simp
    | succ m ih =>
      rw [List.range_succ, List.flatMap_append, List.length_append, ih]
      simp only [List.flatMap_cons, List.flatMap_nil, List.append_nil, List.length_append]
      by_cases h1 : m < x.length <;> by_cases h2 : m < y.length <;> simp [h1, h2] <;> omega
  unfold pairUp
  rw [h]; omega
def roundL (st bk : Nat) (b : Rg) (W c w ph r : Nat) : List Acn :=
  pairUp (chR (rgAt (segR b W) (segOut W w ph r)) c) (chR (rgAt (segR b W) (segIn W w ph r)) c) (fun i s => ⟨true, false, st, bk, ph, r, i, s⟩) (fun i s => ⟨false, ph == 0, st, bk, ph, r, i, s⟩)

/-- The numbers of a plan. -/
structure Pln where
  W : Nat
  mi : Nat
  bu : Nat
  ck : Nat
  wi : Nat
  n : Nat
/-- An item: its kind, its step, its number; an action, where there is one. -/
structure Itm where
  kind : Nat
  st : Nat
  n : Nat
  a : Option Acn
def Pln.buks (p : Pln) : List Rg := bukR p.n p.bu
def Pln.grps (p : Pln) : List Rg := blkR p.buks.length p.wi
def itemOf (st : Nat) (a : Acn) : Itm := ⟨if a.send then 3 else 4, st, 0, some a⟩
def roundI (p : Pln) (w st ph r j : Nat) : List Itm := (roundL st j (rgAt p.buks j) p.W p.ck w ph r).map (itemOf st)
def groupL (p : Pln) (w st : Nat) (g : Rg) : List Itm :=
  (List.range' g.1 (g.2 - g.1)).map (fun j => ⟨2, st, j, none⟩) ++
  ((List.range 2).flatMap fun ph => (List.range (p.W - 1)).flatMap fun r => (List.range' g.1 (g.2 - g.1)).flatMap fun j => roundI p w st ph r j) ++
  (List.range' g.1 (g.2 - g.1)).map (fun j => ⟨5, st, j, none⟩)
def itemsL (p : Pln) (w st : Nat) : List Itm :=
  (List.range p.mi).map (fun a => ⟨1, st, a, none⟩) ++ p.grps.flatMap (groupL p w st) ++ [⟨6, st, 0, none⟩]

/-! Counting. -/
def sumN' (n : Nat) (f : Nat → Nat) : Nat := ((List.range n).map f).sum
theorem sumN'_succ (n : Nat) (f : Nat → Nat) : sumN' (n + 1) f = sumN' n f + f n := by simp [sumN', List.range_succ]
theorem sumN'_congr {n : Nat} {f g : Nat → Nat} (h : ∀ k, k < n → f k = g k) : sumN' n f = sumN' n g := by
  unfold sumN'; congr 1; exact List.map_congr_left fun k hk => h k (List.mem_range.1 hk)
theorem sumN'_add (n : Nat) (f g : Nat → Nat) : sumN' n (fun k => f k + g k) = sumN' n f + sumN' n g := by
  induction n with
  | zero => rfl
  | succ n ih => rw [sumN'_succ, sumN'_succ, sumN'_succ, ih]; omega
theorem sumN'_const (n c : Nat) : sumN' n (fun _ => c) = n * c := by
  induction n with
  | zero => simp [sumN']
  | succ n ih => rw [sumN'_succ, ih, Nat.succ_mul]
theorem sumN'_swap (n m : Nat) (f : Nat → Nat → Nat) : sumN' n (fun i => sumN' m (f i)) = sumN' m (fun j => sumN' n (fun i => f i j)) := by
  induction n with
  | zero => simp only [sumN', List.range_zero, List.map_nil, List.sum_nil]; rw [show (fun _ : Nat => 0) = fun _ => 0 from rfl]; exact (sumN'_const m 0).symm
  | succ n ih => rw [sumN'_succ, ih, ← sumN'_add]; exact sumN'_congr fun j _ => (sumN'_succ n (fun i => f i j)).symm
theorem sumN'_split (a b : Nat) (f : Nat → Nat) : sumN' (a + b) f = sumN' a f + sumN' b (fun k => f (a + k)) := by
  induction b with
  | zero => simp [sumN']
  | succ b ih => rw [← Nat.add_assoc, sumN'_succ, ih, sumN'_succ]; omega
/-- A turn changes no sum. -/
theorem sumN'_turn (W a : Nat) (f : Nat → Nat) : sumN' W (fun w => f ((w + a) % W)) = sumN' W f := by
  rcases Nat.eq_zero_or_pos W with rfl | hW
  · rfl
  have h : ∀ d, d < W → sumN' W (fun w => f ((w + d) % W)) = sumN' W f := by
    intro d hd
    have e1 := sumN'_split (W - d) d (fun w => f ((w + d) % W))
    have e2 := sumN'_split d (W - d) f
    rw [show W - d + d = W by omega] at e1
    rw [show d + (W - d) = W by omega] at e2
    rw [e1, e2, Nat.add_comm]
    congr 1
    · exact sumN'_congr fun k hk => by
        congr 1
        rw [show W - d + k + d = k + W by omega, Nat.add_mod_right, Nat.mod_eq_of_lt (by omega)]
    · exact sumN'_congr fun k hk => by rw [Nat.mod_eq_of_lt (by omega), Nat.add_comm]
  rw [← h (a % W) (Nat.mod_lt _ hW)]
  exact sumN'_congr fun k _ => by rw [Nat.add_mod_mod]
theorem sumN'_list {α : Type} (l : List α) (d : α) (f : α → Nat) : (l.map f).sum = sumN' l.length fun k => f (l.getD k d) := by
  induction l with
  | nil => rfl
  | cons x l ih =>
    rw [List.map_cons, List.sum_cons, ih, List.length_cons, Nat.add_comm l.length 1, sumN'_split 1]
    have : sumN' 1 (fun k => f ((x :: l).getD k d)) = f x := by simp [sumN']
    rw [this]
    congr 1
    exact sumN'_congr fun k _ => by rw [Nat.add_comm 1 k, List.getD_cons_succ]
theorem flat_lenN {α β : Type} (l : List α) (d : α) (f : α → List β) : (l.flatMap f).length = sumN' l.length fun k => (f (l.getD k d)).length := by
  rw [List.length_flatMap, ← sumN'_list l d (fun a => (f a).length)]
theorem flat_range {β : Type} (n : Nat) (f : Nat → List β) : ((List.range n).flatMap f).length = sumN' n fun k => (f k).length := by
  rw [List.length_flatMap]; rfl
theorem flat_range' {β : Type} (a n : Nat) (f : Nat → List β) : ((List.range' a n).flatMap f).length = sumN' n fun k => (f (a + k)).length := by
  rw [List.length_flatMap]
  unfold sumN'
  rw [List.range'_eq_map_range, List.map_map]; rfl
/-- What the blocks hold together. -/
theorem blkR_sum (n s : Nat) (hs : 1 ≤ s) (f : Nat → Nat) : ((blkR n s).map fun g => sumN' (g.2 - g.1) fun k => f (g.1 + k)).sum = sumN' n f := by
  have h : ∀ m, m ≤ cntQ n s → (((List.range m).map fun j => (j * s, min (j * s + s) n)).map fun g : Rg => sumN' (g.2 - g.1) fun k => f (g.1 + k)).sum = sumN' (min (m * s) n) f := by
    intro m
    induction m with
    | zero => intro _; simp [sumN']
    | succ m ih =>
      intro hm
      have h1 := cntQ_lt (n := n) (size := s) (k := m) (by omega)
      rw [List.range_succ, List.map_append, List.map_append, List.sum_append, ih (by omega)]
      simp only [List.map_cons, List.map_nil, List.sum_cons, List.sum_nil, Nat.add_zero]
      rw [show min (m * s) n = m * s by omega, Nat.succ_mul]
      have := sumN'_split (m * s) (min (m * s + s) n - m * s) f
      rw [show m * s + (min (m * s + s) n - m * s) = min (m * s + s) n by omega] at this
      exact this.symm
  have := h (cntQ n s) (Nat.le_refl _)
  unfold blkR
  rw [this]
  congr 1
  rcases Nat.eq_zero_or_pos n with rfl | hn
  · simp
  · have : n ≤ cntQ n s * s := by
      unfold cntQ
      rw [if_neg (by omega), Nat.succ_mul]
      have := Nat.div_add_mod (n - 1) s
      have := Nat.mod_lt (n - 1) (show 0 < s by omega)
      have : s * ((n - 1) / s) = (n - 1) / s * s := Nat.mul_comm _ _
      omega
    omega
theorem roundL_len (st bk : Nat) (b : Rg) (W c w ph r : Nat) : (roundL st bk b W c w ph r).length = (chR (rgAt (segR b W) (segOut W w ph r)) c).length + (chR (rgAt (segR b W) (segIn W w ph r)) c).length := pairUp_len _ _ _ _
theorem msgsN_eq (b : Rg) (W c : Nat) : msgsN b W c = sumN' W fun s => (chR (rgAt (segR b W) s) c).length := by
  unfold msgsN
  rw [sumN'_list _ (0, 0), segR_len]; rfl
/-- All workers together, in a round. -/
theorem roundL_all (st bk : Nat) (b : Rg) (W c ph r : Nat) : sumN' W (fun w => (roundL st bk b W c w ph r).length) = 2 * msgsN b W c := by
  simp only [roundL_len, sumN'_add]
  unfold segOut segIn
  rw [sumN'_turn W _ (fun s => (chR (rgAt (segR b W) s) c).length), sumN'_turn W _ (fun s => (chR (rgAt (segR b W) s) c).length), ← msgsN_eq]
  omega
theorem groupL_len (p : Pln) (w st : Nat) (g : Rg) : (groupL p w st g).length = sumN' (g.2 - g.1) fun k => 2 + sumN' 2 fun ph => sumN' (p.W - 1) fun r => (roundI p w st ph r (g.1 + k)).length := by
  unfold groupL
  simp only [List.length_append, List.length_map, List.length_range', flat_range, flat_range']
  rw [sumN'_add, sumN'_const]
  have e : (sumN' 2 fun ph => sumN' (p.W - 1) fun r => sumN' (g.2 - g.1) fun k => (roundI p w st ph r (g.1 + k)).length) = sumN' (g.2 - g.1) fun k => sumN' 2 fun ph => sumN' (p.W - 1) fun r => (roundI p w st ph r (g.1 + k)).length := by
    rw [sumN'_congr (g := fun ph => sumN' (g.2 - g.1) fun k => sumN' (p.W - 1) fun r => (roundI p w st ph r (g.1 + k)).length) (fun ph _ => sumN'_swap _ _ _), sumN'_swap]
  rw [e]; omega
theorem itemsL_len (p : Pln) (w st : Nat) (hw : 1 ≤ p.wi) : (itemsL p w st).length = p.mi + 1 + sumN' p.buks.length fun j => 2 + sumN' 2 fun ph => sumN' (p.W - 1) fun r => (roundI p w st ph r j).length := by
  unfold itemsL
  simp only [List.length_append, List.length_map, List.length_range, List.length_flatMap, List.length_cons, List.length_nil]
  have : ((p.grps.map fun a => (groupL p w st a).length)).sum = sumN' p.buks.length fun j => 2 + sumN' 2 fun ph => sumN' (p.W - 1) fun r => (roundI p w st ph r j).length := by
    simp only [groupL_len]
    exact blkR_sum p.buks.length p.wi hw fun j => 2 + sumN' 2 fun ph => sumN' (p.W - 1) fun r => (roundI p w st ph r j).length
  rw [this]; omega
/-- The items of all workers in a step. -/
theorem items_all (p : Pln) (st : Nat) (hw : 1 ≤ p.wi) : sumN' p.W (fun w => (itemsL p w st).length) = p.W * (p.mi + 2 * p.buks.length + 1) + (p.buks.map fun b => 4 * (p.W - 1) * msgsN b p.W p.ck).sum := by
  simp only [itemsL_len p _ st hw]
  rw [sumN'_add, sumN'_const, sumN'_swap]
  have e : ∀ j, sumN' p.W (fun w => 2 + sumN' 2 fun ph => sumN' (p.W - 1) fun r => (roundI p w st ph r j).length) = 2 * p.W + 4 * (p.W - 1) * msgsN (rgAt p.buks j) p.W p.ck := by
    intro j
    rw [sumN'_add, sumN'_const, sumN'_swap]
    have : (sumN' 2 fun ph => sumN' p.W fun w => sumN' (p.W - 1) fun r => (roundI p w st ph r j).length) = sumN' 2 fun _ => (p.W - 1) * (2 * msgsN (rgAt p.buks j) p.W p.ck) := by
      refine sumN'_congr fun ph _ => ?_
      rw [sumN'_swap, ← sumN'_const]
      refine sumN'_congr fun r _ => ?_
      unfold roundI
      simp only [List.length_map]
      exact roundL_all _ _ _ _ _ _ _
    rw [this, sumN'_const, Nat.mul_comm p.W 2, show 2 * ((p.W - 1) * (2 * msgsN (rgAt p.buks j) p.W p.ck)) = 4 * (p.W - 1) * msgsN (rgAt p.buks j) p.W p.ck by rw [Nat.mul_left_comm (p.W - 1) 2, ← Nat.mul_assoc, ← Nat.mul_assoc]]
  rw [sumN'_congr (fun j _ => e j), sumN'_add, sumN'_const, sumN'_list _ (0, 0)]
  unfold rgAt
  have : p.W * (p.mi + 1) + p.buks.length * (2 * p.W) = p.W * (p.mi + 2 * p.buks.length + 1) := by
    rw [show p.mi + 2 * p.buks.length + 1 = p.mi + 1 + 2 * p.buks.length by omega, Nat.mul_add p.W (p.mi + 1), show p.buks.length * (2 * p.W) = p.W * (2 * p.buks.length) by rw [Nat.mul_left_comm, Nat.mul_comm p.buks.length, Nat.mul_left_comm]]
  omega
end Go.Proofs.Ytaccfnffmbndhaa
