/- bucket.later: ranges that begin later, as an iterator. -/
import Derived.Test.YtaccfnffmbndhaaRevR
import Derived.Test.YtaccfnffmbndhaaRfLib
set_option linter.unusedSimpArgs false
set_option linter.unusedVariables false
namespace Go.Proofs.Ytaccfnffmbndhaa
open Go.RowKit Go.Shelf
attribute [local go_sem] Oper.semAt_some

theorem run_store_func (P : Program) (w : World) (a : Addr) (fn : Fn) (fi ca : Array Value) (m : Mode) : (store a (.func fn fi ca) m).run P w = stored P w a (.func fn fi ca) m := run_store P w a _ m rfl
attribute [local go_sem] run_store_func

/-- The iterator's memory: the ranges, the shift. -/
structure LatAt (w : World) (L S B : Nat) (A : Option Addr) (rs : List Rg) (c d : Nat) (tf : TypeId) : Prop where
  l : w.heap[L]? = some (.cells #[.slice A rs.length c] 45 (0, 0))
  s : w.heap[S]? = some (.cells #[.func (.func 48) #[] #[.pointer (some ⟨B, 0, none⟩)]] tf (0, 0))
  b : w.heap[B]? = some (.cells #[.int .i64 d] 3 (0, 0))
  r : Rd w A (rgVals rs)
theorem LatAt.below {w w' : World} {L S B : Nat} {A : Option Addr} {rs : List Rg} {c d : Nat} {tf : TypeId} (h : LatAt w L S B A rs c d tf) (hb : Below w.heap.size w w') : LatAt w' L S B A rs c d tf :=
  ⟨sb h.l _ hb, sb h.s _ hb, sb h.b _ hb, h.r.below hb⟩

set_option maxRecDepth 100000 in
theorem later1_any (lo hi d B : Nat) (w : World) (hB : w.heap[B]? = some (.cells #[.int .i64 d] 3 (0, 0))) (h1 : lo ≤ 1048576) (h2 : hi ≤ 1048576) (h3 : d ≤ 1048576) :
    Calls Try.prog 48 #[.agg #[.int .i64 lo, .int .i64 hi], .pointer (some ⟨B, 0, none⟩)] w fun e w' => e = .returned (.agg #[.int .i64 ((lo + d : Nat) : Int), .int .i64 ((hi + d : Nat) : Int)]) ∧ Below w.heap.size w w' := by
  have hb := bx1 hB
  have hl := lt_of_block hB
  have e1 : ((lo + d : Nat) : Int) = (lo : Int) + d := by omega
  have e2 : ((hi + d : Nat) : Int) = (hi : Int) + d := by omega
  rw [e1, e2]
  clear e1 e2 hB
  go_enter Try.func48, Try.ntmps48
  go_wp2_with fail
  have e1 := heap_alloc_new (w.alloc (.cells #[.int .i64 lo, .int .i64 hi] 54)) (.cells #[.int .i64 ((lo : Int) + d), .int .i64 ((hi : Int) + d)] 54)
  obtain ⟨W9, hW9⟩ : ∃ W9, W9 = (w.alloc (.cells #[.int .i64 lo, .int .i64 hi] 54)).alloc (.cells #[.int .i64 ((lo : Int) + d), .int .i64 ((hi : Int) + d)] 54) := ⟨_, rfl⟩
  have hbW : Below w.heap.size w W9 := by rw [hW9]; exact ((Below.refl _ w).alloc (Nat.le_refl _) _).alloc (by simp) _
  rw [← hW9, World.size_alloc] at e1
  rw [← hW9]
  have x := bx2 e1
  exact bodyPost_ret (v := .agg #[.int .i64 ((lo : Int) + d), .int .i64 ((hi : Int) + d)]) (by simp [results, Try.results48, go_sem, x]) rfl ⟨rfl, hbW⟩

/-- A range as the loop's variable. -/
def rgEnc (r : Rg) : Array Value := #[.agg #[.int .i64 (r.1 : Int), .int .i64 (r.2 : Int)]]
theorem take_snoc {α : Type} {l : List α} {k : Nat} {x : α} (h : l[k]? = some x) : l.take (k + 1) = l.take k ++ [x] := by
  rw [List.take_add_one, h]; rfl

set_option maxRecDepth 100000 in
theorem later_any (A : Option Addr) (rs : List Rg) (c d : Nat) (w : World) (hr : Rd w A (rgVals rs)) :
    Calls Try.prog 34 #[.slice A rs.length c, .int .i64 d] w fun e w' => ∃ L S B, e = .returned (.func (.func 49) #[] #[.pointer (some ⟨L, 0, none⟩), .pointer (some ⟨S, 0, none⟩)]) ∧ LatAt w' L S B A rs c d 100 ∧ (w.heap.size ≤ L ∧ w.heap.size ≤ S ∧ w.heap.size ≤ B) ∧ Below w.heap.size w w' := by
  obtain ⟨n, hn⟩ : ∃ n, n = rs.length := ⟨_, rfl⟩
  rw [← hn]
  have Hn := Lib.hid hn
  have Hr := Lib.hid hr
  clear hn hr
  go_enter Try.func34, Try.ntmps34
  go_wp2_with fail
  have a1 := heap_alloc_new w (.cells #[.slice A n c] 45)
  have b1 : Below w.heap.size w (w.alloc (.cells #[.slice A n c] 45)) := (Below.refl _ w).alloc (Nat.le_refl _) _
  have s1 := World.size_alloc w (.cells #[.slice A n c] 45)
  generalize w.alloc (.cells #[.slice A n c] 45) = W1 at *
  have a2 := heap_alloc_new W1 (.cells #[.int .i64 d] 3)
  have b2 : Below W1.heap.size W1 (W1.alloc (.cells #[.int .i64 d] 3)) := (Below.refl _ W1).alloc (Nat.le_refl _) _
  have s2 := World.size_alloc W1 (.cells #[.int .i64 d] 3)
  generalize W1.alloc (.cells #[.int .i64 d] 3) = W2 at *
  have a3 := heap_alloc_new W2 (.cells #[.func (.func 48) #[] #[.pointer (some ⟨w.heap.size + 1, 0, none⟩)]] 100)
  have b3 : Below W2.heap.size W2 (W2.alloc (.cells #[.func (.func 48) #[] #[.pointer (some ⟨w.heap.size + 1, 0, none⟩)]] 100)) := (Below.refl _ W2).alloc (Nat.le_refl _) _
  generalize W2.alloc (.cells #[.func (.func 48) #[] #[.pointer (some ⟨w.heap.size + 1, 0, none⟩)]] 100) = W3 at *
  have b13 := b2.trans (b3.mono b2.size)
  have hbW := b1.trans (b13.mono b1.size)
  rw [s2, s1] at a3
  rw [s1] at a2
  exact bodyPost_ret (v := .func (.func 49) #[] #[.pointer (some ⟨w.heap.size, 0, none⟩), .pointer (some ⟨w.heap.size + 1 + 1, 0, none⟩)]) (by simp [results, Try.results34, go_sem]) rfl
    ⟨w.heap.size, w.heap.size + 1 + 1, w.heap.size + 1, rfl, ⟨by rw [← Hn.out]; exact sb a1 _ b13, a3, sb a2 _ b3, Hr.out.below hbW⟩, ⟨Nat.le_refl _, by omega, by omega⟩, hbW⟩

set_option maxRecDepth 100000 in
set_option maxHeartbeats 2000000 in
theorem later2_in (n l L S B : Nat) (A : Option Addr) (rs : List Rg) (c d : Nat) (Kp : World → World → Prop) (hKp : ∀ W W', LatAt W L S B A rs c d 100 → Kp W W' → LatAt W' L S B A rs c d 100) (hlen : rs.length ≤ 1048576) (hd : d ≤ 1048576) (hrs : ∀ r ∈ rs, r.1 ≤ 1048576 ∧ r.2 ≤ 1048576)
    (J Jx : List Rg → World → Prop) (Bx : Nat) (hJ : AbidesFrom Bx J)
    (hY : ∀ pre x W, J pre W → x ∈ shR d rs → pre.length < rs.length → YieldAt Fence.wide (n - 1) Try.prog l (rgEnc x) W fun e W' =>
      (e = .returned (.bool true) ∧ J (pre ++ [x]) W' ∧ Kp W W') ∨ (e = .returned (.bool false) ∧ Jx (pre ++ [x]) W'))
    (W : World) (hA : LatAt W L S B A rs c d 100) (h0 : J [] W) :
    CallsIn Fence.wide n Try.prog 49 #[.func (.yield l) #[] #[], .pointer (some ⟨L, 0, none⟩), .pointer (some ⟨S, 0, none⟩)] W fun e W' => (∃ v, e = .returned v) ∧
      ((∃ ys, ys = shR d rs ∧ J ys W') ∨ (∃ pre, True ∧ Jx pre W')) := by
  have xL := bx1 hA.l
  obtain ⟨nn, hnn⟩ : ∃ nn, nn = rs.length := ⟨_, rfl⟩
  rw [← hnn] at hY hlen xL
  have Hnn := Lib.hid hnn; have HA := Lib.hid hA; have HK := Lib.hid hKp
  clear hnn hA hKp
  refine callsIn_of_wp Try.func49 rfl trivial ?_ rfl
  simp only [Try.ntmps49, List.size_toArray, List.length_cons, List.length_nil, Nat.reduceAdd, Nat.reduceSub, Array.replicate_succ, Array.replicate_zero, List.push_toArray, List.append_toArray, List.nil_append, List.cons_append]
  gi_wp2
  gi_loopw [8] (fun i wr => ∃ k : Nat, k ≤ nn ∧ i = .int .i64 k ∧ J ((shR d rs).take k) wr ∧ LatAt wr L S B A rs c d 100) (fun i _ => nn - (intOf i).toNat)
  case atStart => exact ⟨0, Nat.zero_le _, rfl, h0, HA.out⟩
  case round =>
    obtain ⟨k, hk, rfl, hJs, hL⟩ := hrel
    clear xL h0 HA W
    by_cases hlt : k < nn
    · obtain ⟨r, hr⟩ : ∃ r, rs[k]? = some r := ⟨_, List.getElem?_eq_getElem (by rw [← Hnn.out]; exact hlt)⟩
      have hr2 := hrs r (List.mem_of_getElem? hr)
      have hrv := rgVals_at hr
      obtain ⟨g, o, rfl, c0⟩ := hL.r _ _ hrv.1
      obtain ⟨g', o', e', c1⟩ := hL.r _ _ hrv.2
      obtain ⟨rfl, rfl⟩ : g' = g ∧ o' = o := by simpa using e'.symm
      rw [← Nat.add_assoc] at c1
      have xS := bx1 hL.s
      have lS := lt_of_cell xS.1
      have HJs := Lib.hid hJs; have Hr := Lib.hid hr
      have HL := Lib.hid hL
      clear hJs hr hrv e' hL
      have hlen : ((shR d rs).take k).length < nn := by rw [List.length_take, shR_len]; omega
      have hx : (shR d rs)[k]? = some (r.1 + d, r.2 + d) := by simp [shR, Hr.out]
      have Hx := Lib.hid hx
      have qa : Below wr.heap.size wr (wr.alloc (.cells #[.int .i64 (r.1 : Int), .int .i64 (r.2 : Int)] 54)) := (Below.refl _ wr).alloc (Nat.le_refl _) _
      clear hx
      gi_wp2_with fail
      refine ⟨trivial, (fun h => by cases h), ?_⟩
      refine (callsIn_wide.2 (later1_any r.1 r.2 d B _ (HL.out.below qa).b hr2.1 hr2.2 hd)).mono ?_
      rintro e w3 ⟨rfl, hb3⟩
      have q13 := qa.trans (hb3.mono qa.size)
      have hJ3 := hJ _ _ _ none HJs.out (grown_none q13) (fun _ h => by cases h)
      obtain ⟨fn, tmps, assign, body, hy, hR⟩ := hY _ (r.1 + d, r.2 + d) w3 hJ3 (List.mem_of_getElem? Hx.out) hlen
      unfold rgEnc at hy
      dsimp only at hy
      rw [Int.natCast_add, Int.natCast_add] at hy
      have HL3 := Lib.hid (HL.out.below q13)
      clear hJ3 hb3 q13 qa xS lS c0 c1
      gi_wp2
      refine ⟨(fun h => by cases h), ?_⟩
      refine hR.mono ?_
      rintro e w5 (⟨rfl, hJ5, hk5⟩ | ⟨rfl, hJx5⟩)
      · have HJ5 := Lib.hid hJ5; have HK5 := Lib.hid hk5; clear hJ5 hk5
        gi_wp2
        go_roundw
        case rel => exact ⟨k + 1, by omega, by go_num, by rw [take_snoc Hx.out]; exact HJ5.out, HK.out _ _ HL3.out HK5.out⟩
        case measure => simp [intOf]; omega
      · gi_wp2
        refine bodyPost_ret (results_none rfl _ _ _) rfl ?_
        exact ⟨⟨_, rfl⟩, .inr ⟨_, trivial, hJx5⟩⟩
    · obtain rfl : k = nn := by omega
      have hall : (shR d rs).take k = shR d rs := List.take_of_length_le (by rw [shR_len, Hnn.out]; exact Nat.le_refl _)
      rw [hall] at hJs
      have HJs := Lib.hid hJs; clear hJs hall
      gi_wp2
      go_end0
      exact ⟨⟨_, rfl⟩, .inl ⟨_, rfl, HJs.out⟩⟩
/-- What lies from n₁ to n₂ is kept. -/
structure Kd (n₁ n₂ : Nat) (W W' : World) : Prop where
  size : W.heap.size ≤ W'.heap.size
  block : ∀ k, n₁ ≤ k → k < n₂ → W'.heap[k]? = W.heap[k]?
theorem Kd.trans {n₁ n₂ : Nat} {A B C : World} (h : Kd n₁ n₂ A B) (k : Kd n₁ n₂ B C) : Kd n₁ n₂ A C := ⟨Nat.le_trans h.size k.size, fun j h1 h2 => (k.block j h1 h2).trans (h.block j h1 h2)⟩
theorem kd_b {n₁ n₂ : Nat} {w : World} (hn : n₂ ≤ w.heap.size) (W : World) (l : Nat) (o o' : Obj) (hl : w.heap.size ≤ l) (h : W.heap[l]? = some o) (h1 : o.isCells = false) (h2 : o.isWalk = false) : Kd n₁ n₂ W (W.putObj l o') :=
  ⟨(belowK_b hn W l o o' hl h h1 h2).size, fun k _ hk => (belowK_b hn W l o o' hl h h1 h2).block k hk⟩
theorem kd_below {n₁ n₂ : Nat} {W W' : World} (h : Below n₂ W W') : Kd n₁ n₂ W W' := ⟨h.size, fun k _ hk => h.block k hk⟩
/-- Where the iterator's memory lies. -/
structure LatB (n₁ n₂ L S B : Nat) (A : Option Addr) : Prop where
  l : n₁ ≤ L ∧ L < n₂
  s : n₁ ≤ S ∧ S < n₂
  b : n₁ ≤ B ∧ B < n₂
  a : ∀ x, A = some x → n₁ ≤ x.block ∧ x.block < n₂
theorem LatAt.kd {n₁ n₂ : Nat} {W W' : World} {L S B : Nat} {A : Option Addr} {rs : List Rg} {c d : Nat} {tf : TypeId} (h : LatAt W L S B A rs c d tf) (hb : LatB n₁ n₂ L S B A) (k : Kd n₁ n₂ W W') : LatAt W' L S B A rs c d tf :=
  ⟨(k.block _ hb.l.1 hb.l.2).trans h.l, (k.block _ hb.s.1 hb.s.2).trans h.s, (k.block _ hb.b.1 hb.b.2).trans h.b, fun j x hx => by
    obtain ⟨b, o, e, hc⟩ := h.r j x hx
    refine ⟨b, o, e, ?_⟩
    have := hb.a _ e
    rw [World.cell?] at hc ⊢
    rw [k.block b this.1 this.2]
    exact hc⟩
theorem later_stops (n n₁ n₂ L S B : Nat) (A : Option Addr) (rs : List Rg) (c d : Nat) (w : World) (hA : LatAt w L S B A rs c d 100) (hB : LatB n₁ n₂ L S B A) (hlen : rs.length ≤ 1048576) (hd : d ≤ 1048576) (hrs : ∀ r ∈ rs, r.1 ≤ 1048576 ∧ r.2 ≤ 1048576) :
    SeqStopsK Fence.wide n Try.prog 49 #[.pointer (some ⟨L, 0, none⟩), .pointer (some ⟨S, 0, none⟩)] rgEnc (Kd n₁ n₂) (fun ys => ys = shR d rs) (fun _ => True) rs.length w := fun l J Jx W hW hJ _ hY h0 =>
  later2_in n l L S B A rs c d (Kd n₁ n₂) (fun _ _ h k => h.kd hB k) hlen hd hrs J Jx _ hJ (fun pre x W h _ => hY pre x W h) W (hA.below hW) h0
/-- The same, each range known to be one of them. -/
theorem later_stopsM (n n₁ n₂ L S B : Nat) (A : Option Addr) (rs : List Rg) (c d : Nat) (w : World) (hA : LatAt w L S B A rs c d 100) (hB : LatB n₁ n₂ L S B A) (hlen : rs.length ≤ 1048576) (hd : d ≤ 1048576) (hrs : ∀ r ∈ rs, r.1 ≤ 1048576 ∧ r.2 ≤ 1048576) :
    SeqStopsK Fence.wide n Try.prog 49 #[.pointer (some ⟨L, 0, none⟩), .pointer (some ⟨S, 0, none⟩)] (fun x : { r : Rg // r ∈ shR d rs } => rgEnc x.1) (Kd n₁ n₂) (fun ys => ys.map (·.1) = shR d rs) (fun _ => True) rs.length w := fun l J Jx W hW hJ _ hY h0 => by
  have h := later2_in n l L S B A rs c d (Kd n₁ n₂) (fun _ _ h k => h.kd hB k) hlen hd hrs (fun ls W => ∃ pre : List { r : Rg // r ∈ shR d rs }, pre.map (·.1) = ls ∧ J pre W) (fun ls W => ∃ pre : List { r : Rg // r ∈ shR d rs }, pre.map (·.1) = ls ∧ Jx pre W) W.heap.size
    (fun s A B row hs hg hr => by obtain ⟨pre, h1, h2⟩ := hs; exact ⟨pre, h1, hJ pre A B row h2 hg hr⟩)
    (fun ls x W1 hs hx hl => by
      obtain ⟨pre, rfl, h2⟩ := hs
      obtain ⟨fn, tmps, assign, body, hy, hR⟩ := hY pre ⟨x, hx⟩ W1 h2 (by simpa using hl)
      refine ⟨fn, tmps, assign, body, hy, hR.mono ?_⟩
      rintro e w5 (⟨rfl, hJ5, hk5⟩ | ⟨rfl, hJx5⟩)
      · exact .inl ⟨rfl, ⟨_, by simp, hJ5⟩, hk5⟩
      · exact .inr ⟨rfl, ⟨_, by simp, hJx5⟩⟩)
    W (hA.below hW) ⟨[], rfl, h0⟩
  refine h.mono ?_
  rintro e w' ⟨hv, ⟨ys, rfl, pre, h1, h2⟩ | ⟨ls, _, pre, h1, h2⟩⟩
  · exact ⟨hv, .inl ⟨pre, h1, h2⟩⟩
  · exact ⟨hv, .inr ⟨pre, trivial, h2⟩⟩
theorem own_at {w : World} {base : Nat} {e : TypeId} {size n c : Nat} {A : Option Addr} {xs : List Value} (h : w.ownsRow base e size (.slice A n c) n xs) : ∀ x, A = some x → base ≤ x.block ∧ x.block < w.heap.size := fun x hx => by
  rcases h.2 with ⟨hv, _⟩ | ⟨g, cap, cur, hv, hb, hg, _⟩
  · simp only [Value.slice.injEq] at hv; rw [hx] at hv; cases hv.1
  · simp only [Value.slice.injEq] at hv; rw [hx] at hv; cases hv.1; exact ⟨hb, lt_of_block hg⟩
end Go.Proofs.Ytaccfnffmbndhaa
