/- Permutations that draws make, in plain lists. The walks of draw.Many, perm.identity, Shuffle. Blocks and epochs, in plain numbers. The walks of package shape: the functions that New hands on. No condition. -/
import Derived.Test.YtfiojofcafjfeaaGreatJ01
import Derived.Test.YtfiojofcafjfeaaGreatJ12
import Derived.RegionTactic
import Derived.BigRegion
import Derived.Test.YtfiojofcafjfeaaGreatJ07
set_option linter.unusedSimpArgs false
set_option linter.unusedVariables false
namespace Go.Proofs.YtfiojofcafjfeaaGreat
open Go.RowKit

/-- Two elements exchanged. -/
def swp (p : List Int) (i j : Nat) : List Int := (p.set i (nth p j)).set j (nth p i)
theorem swp_len (p : List Int) (i j : Nat) : (swp p i j).length = p.length := by simp [swp]
theorem swp_nth {p : List Int} {i j : Nat} (hi : i < p.length) (hj : j < p.length) (k : Nat) : nth (swp p i j) k = if k = j then nth p i else if k = i then nth p j else nth p k := by
  unfold swp
  rw [nth_set, nth_set, List.length_set]
  simp only [hi, hj, and_true]
theorem swp_comm {p : List Int} {i j : Nat} (hi : i < p.length) (hj : j < p.length) : (p.set j (nth p i)).set i (nth p j) = swp p i j := by
  refine ext_nth (by simp [swp]) fun k hk => ?_
  rw [swp_nth hi hj, nth_set, nth_set, List.length_set]
  simp only [hi, hj, and_true]
  by_cases h1 : k = i
  · subst h1
    by_cases h2 : k = j
    · subst h2; simp
    · simp [h2]
  · simp [h1]
/-- 0, 1, 2 and so on. -/
def iota (n : Nat) : List Int := upTo n fun k => (k : Int)
theorem iota_len (n : Nat) : (iota n).length = n := upTo_len _ _
/-- Behind k exchanges. -/
def shufN (n : Nat) (d : Nat → Nat) : Nat → List Int
  | 0 => iota n
  | k + 1 => swp (shufN n d k) (n - 1 - k) (d k)
theorem shufN_len (n : Nat) (d : Nat → Nat) (k : Nat) : (shufN n d k).length = n := by
  induction k with
  | zero => exact iota_len n
  | succ k ih => rw [shufN, swp_len, ih]
theorem shufN_bd {n : Nat} {d : Nat → Nat} (k : Nat) (hd : ∀ j, j < k → d j < n - j) (hk : k ≤ n - 1) : ∀ i, i < n → 0 ≤ nth (shufN n d k) i ∧ nth (shufN n d k) i < n := by
  induction k with
  | zero => intro i hi; unfold shufN iota; rw [upTo_nth _ hi]; omega
  | succ k ih =>
    have ih := ih (fun j hj => hd j (by omega)) (by omega)
    have h1 := hd k (by omega)
    intro i hi
    rw [shufN, swp_nth (by rw [shufN_len]; omega) (by rw [shufN_len]; omega)]
    split
    · exact ih _ (by omega)
    · split
      · exact ih _ (by omega)
      · exact ih _ hi
/-- What a draw picks. -/
def drawN (l : List Int) (n i k : Nat) : Nat := (nth l (i + k) % ((n - k : Nat) : Int)).toNat
theorem drawN_lt (l : List Int) {n i k : Nat} (h : k < n) : drawN l n i k < n - k := by
  unfold drawN
  have h1 := Int.emod_nonneg (nth l (i + k)) (show ((n - k : Nat) : Int) ≠ 0 by omega)
  have h2 := Int.emod_lt_of_pos (nth l (i + k)) (show (0 : Int) < ((n - k : Nat) : Int) by omega)
  omega
theorem drawN_int (l : List Int) {n i k : Nat} (h : k < n) : (drawN l n i k : Int) = nth l (i + k) % ((n - k : Nat) : Int) := by
  unfold drawN
  have h1 := Int.emod_nonneg (nth l (i + k)) (show ((n - k : Nat) : Int) ≠ 0 by omega)
  omega
/-- The permutation of n numbers that the draws from i on make. -/
def permN (l : List Int) (n i : Nat) : List Int := shufN n (drawN l n i) (n - 1)
theorem permN_len (l : List Int) (n i : Nat) : (permN l n i).length = n := shufN_len _ _ _
theorem permN_bd (l : List Int) (n i : Nat) : ∀ k, k < n → 0 ≤ nth (permN l n i) k ∧ nth (permN l n i) k < n := shufN_bd _ (fun j hj => drawN_lt l (by omega)) (Nat.le_refl _)
/-- All permutations of a run: that of epoch e begins behind e (n - 1) draws. -/
def ordersN (l : List Int) (n e : Nat) : List (List Int) := (List.range e).map fun k => permN l n (k * (n - 1))
theorem ordersN_len (l : List Int) (n e : Nat) : (ordersN l n e).length = e := by simp [ordersN]
theorem ordersN_succ (l : List Int) (n e : Nat) : ordersN l n (e + 1) = ordersN l n e ++ [permN l n (e * (n - 1))] := by simp [ordersN, List.range_succ]
theorem ordersN_at (l : List Int) (n : Nat) {e k : Nat} (h : k < e) : (ordersN l n e)[k]? = some (permN l n (k * (n - 1))) := by simp [ordersN, h]
end Go.Proofs.YtfiojofcafjfeaaGreat
namespace Go.Proofs.YtfiojofcafjfeaaGreat
open Go.RowKit

theorem many1_no (n : Int) (w : World) (h : 1 ≤ n) : Calls Tryz.prog 137 #[.int .i64 n] w fun e w' => e = .returned (.bool false) ∧ w = w' := by
  have h1 : ¬ n < 1 := by omega
  go_enter Tryz.func137, Tryz.ntmps137
  go_wp2
  go_ret
  exact ⟨ret_bool (by first | rfl | (simp; omega) | (simp; done)), rfl⟩
theorem mindex_any (A : Option Addr) (l : List Int) (c : Nat) (w : World) (hA : Rd w A (nums .i64 l)) (hl : l.length ≤ 17592186043904) (hb : ∀ k, k < l.length → 1 ≤ nth l k) :
    Calls Tryz.prog 112 #[.slice A l.length c, .func (.func 137) #[] #[]] w fun e w' => e = .returned (.int .i64 (-1)) ∧ w = w' := by
  obtain ⟨n, hn⟩ : ∃ n, l.length = n := ⟨_, rfl⟩
  have hw := fun k (hk : k < l.length) => many1_no (nth l k) w (hb k hk)
  rw [hn] at hl hw ⊢
  have HA := Lib.hid hA; have Hn := Lib.hid hn; have Hw := Lib.hid hw; clear hA hn hw hb
  go_enter Tryz.func112, Tryz.ntmps112
  go_wp2_with fail
  go_loop [5, 8] (fun _ i => ∃ k : Nat, k ≤ n ∧ i = .int .i64 k) (fun _ i => n - (intOf i).toNat)
  case atStart => exact ⟨0, Nat.zero_le _, rfl⟩
  case round =>
    obtain ⟨k, hk, rfl⟩ := hrel
    by_cases hlt : k < n
    · obtain ⟨b, o, rfl, p⟩ := HA.out.num (show k < l.length by rw [Hn.out]; exact hlt)
      have hw := Hw.out k hlt
      have Hw2 := Lib.hid hw; clear hw
      go_wp2_with fail
      refine Hw2.out.mono ?_
      rintro e w' ⟨rfl, rfl⟩
      go_wp2_with fail
      go_round
      case rel => exact ⟨k + 1, by omega, by go_num⟩
      case measure => simp [intOf]; omega
    · obtain rfl : k = n := by omega
      go_wp2_with fail
      go_ret
      exact ⟨rfl, rfl⟩
theorem mcontains_no (A : Option Addr) (l : List Int) (c : Nat) (w : World) (hA : Rd w A (nums .i64 l)) (hl : l.length ≤ 17592186043904) (hb : ∀ k, k < l.length → 1 ≤ nth l k) :
    Calls Tryz.prog 76 #[.slice A l.length c, .func (.func 137) #[] #[]] w fun e w' => e = .returned (.bool false) ∧ w = w' := by
  have hi := mindex_any A l c w hA hl hb
  have Hi := Lib.hid hi; clear hi hA hb
  go_enter Tryz.func76, Tryz.ntmps76
  go_wp2_with fail
  refine Hi.out.mono ?_
  rintro e w' ⟨rfl, rfl⟩
  go_wp2
  go_ret
  exact ⟨rfl, rfl⟩

theorem ident_any (n : Nat) (w : World) (hn : n ≤ 1048576) :
    Calls Tryz.prog 114 #[.int .i64 n] w fun e w' => ∃ v, e = .returned v ∧ w'.ownsRow w.heap.size 3 1 v n (nums .i64 (iota n)) ∧ Below w.heap.size w w' := by
  go_enter Tryz.func114, Tryz.ntmps114
  go_wp2_with fail
  go_loopw [3, 6] (fun v i wr => ∃ k : Nat, k ≤ n ∧ i = .int .i64 k ∧ wr.ownsRow w.heap.size 3 1 v k (nums .i64 (iota k)) ∧ Below w.heap.size w wr) (fun _ i _ => n - (intOf i).toNat)
  case atStart => exact ⟨0, Nat.zero_le _, rfl, World.ownsRow_nil _ _ _ _, Below.refl _ _⟩
  case round =>
    obtain ⟨k, hk, rfl, hown, hb⟩ := hrel
    by_cases hlt : k < n
    · obtain ⟨Al, cl, rfl, _⟩ := own_form hown
      have Hown := Lib.hid hown; have Hb := Lib.hid hb; clear hown hb
      go_wp2_with (at_builtin; refine wpList_push et_ints _ rfl (.tmp 9) (.tmp 11) rfl w.heap.size (.slice Al k cl) k _ rfl Hown.out [.int .i64 (k : Int)] rfl rfl (nums_cell .i64 [_]) (by omega) (by unfold maxLen; omega) Hb.out.size ?_)
      intro g6 c6 w6 ho6 hb6 hg6
      have hb6' := Hb.out.trans hb6
      have HO6 := Lib.hid ho6; have HB6 := Lib.hid hb6'
      clear ho6 hb6 hg6 hb6'
      go_wp2_with fail
      go_roundw
      case rel =>
        refine ⟨k + 1, by omega, by go_num, ?_, HB6.out⟩
        have : iota (k + 1) = iota k ++ [(k : Int)] := upTo_succ _ _
        rw [this, nums_append]; exact HO6.out
      case measure => simp [intOf]; omega
    · obtain rfl : k = n := by omega
      have Hown := Lib.hid hown; have Hb := Lib.hid hb; clear hown hb
      go_wp2_with fail
      go_ret
      exact ⟨_, rfl, Hown.out, Hb.out⟩

theorem many_any (b c i : Nat) (A : Option Addr) (l : List Int) (B : Option Addr) (bs : List Int) (d : Nat) (w : World) (h : StreamAt w b A c l i) (hi : i + bs.length ≤ l.length) (hl : l.length ≤ 1048576) (hu : U64 l)
    (hB : Rd w B (nums .i64 bs)) (hne : ∀ a, B = some a → a.block ≠ b) (hbs : ∀ k, k < bs.length → 1 ≤ nth bs k ∧ nth bs k ≤ 1048576) :
    Calls Tryz.prog 113 #[.pointer (some ⟨b, 0, none⟩), .slice B bs.length d] w fun e w' => ∃ v, e = .returned (.tuple #[v, .bool true]) ∧ w'.ownsRow w.heap.size 3 1 v bs.length (nums .i64 (upTo bs.length fun k => nth l (i + k) % nth bs k)) ∧ StreamAt w' b A c l (i + bs.length) ∧ Keep (fun j => j = b) w w' := by
  have hle := stream_left b c i A l w h (by omega) (by omega)
  have hco := fun n => mcontains_no B bs d (w.drewN n) (hB.drewN n) (by omega) (fun k hk => (hbs k hk).1)
  have hnx := fun j m w' (h : StreamAt w' b A c l j) (hj : j < l.length) => stream_next b c j m A l w' h hj (by omega) hu
  obtain ⟨n, hn⟩ : ∃ n, bs.length = n := ⟨_, rfl⟩
  rw [hn] at hi hco hbs ⊢
  obtain ⟨N, hN⟩ : ∃ N, l.length = N := ⟨_, rfl⟩
  rw [hN] at hi hl hle hnx
  have hbw := h.lt
  have Hle := Lib.hid hle; have Hco := Lib.hid hco; have Hnx := Lib.hid hnx; have H := Lib.hid h; have HB := Lib.hid hB; have Hn := Lib.hid hn; have Hbs := Lib.hid hbs; have Hne := Lib.hid hne
  clear hle hco hnx h hB hn hbs hu hne hN
  have hq : decide (((N - i : Nat) : Int) < (n : Int)) = false := by simp; omega
  have hq' : decide (N - i < n) = false := by simp; omega
  go_enter Tryz.func113, Tryz.ntmps113
  go_wp2_with fail
  refine Hle.out.mono ?_
  rintro e w' ⟨rfl, a, rfl⟩
  go_wp2_with fail
  refine (Hco.out a).mono ?_
  rintro e w' ⟨rfl, rfl⟩
  clear hq hq'
  go_wp2_with fail
  go_loopw [6, 26] (fun v x wr => ∃ k : Nat, k ≤ n ∧ x = .int .i64 k ∧ wr.ownsRow w.heap.size 3 1 v k (nums .i64 (upTo k fun k => nth l (i + k) % nth bs k)) ∧ StreamAt wr b A c l (i + k) ∧ Keep (fun j => j = b) w wr) (fun _ x _ => n - (intOf x).toNat)
  case atStart => exact ⟨0, Nat.zero_le _, rfl, World.ownsRow_nil _ _ _ _, H.out.drewN a, (Keep.refl _ _).drewN a⟩
  case round =>
    obtain ⟨k, hk, rfl, hown, hS, hK⟩ := hrel
    by_cases hlt : k < n
    · obtain ⟨Al, cl, rfl, _⟩ := own_form hown
      have hB' := hK.rd HB.out (fun a ha e => Hne.out a ha e)
      obtain ⟨bB, oB, rfl, p⟩ := hB'.num (show k < bs.length by rw [Hn.out]; exact hlt)
      have hbk := Hbs.out k hlt
      obtain ⟨m, hm⟩ : ∃ m : Nat, nth bs k = (m : Int) := ⟨(nth bs k).toNat, by omega⟩
      rw [hm] at p hbk
      have hnx := Hnx.out (i + k) m wr hS (by omega) (by omega) (by omega)
      obtain ⟨y, hy⟩ : ∃ y, nth l (i + k) % (m : Int) = y := ⟨_, rfl⟩
      rw [hy] at hnx
      have hsz := hK.size
      have hlo := hown.lt
      have Hown := Lib.hid hown; have HK := Lib.hid hK; have Hm := Lib.hid hm; have Hnx2 := Lib.hid hnx; have Hy := Lib.hid hy; have Hlo := Lib.hid hlo; clear hown hK hS hB' hm hnx hy hlo
      go_wp2_with fail
      refine Hnx2.out.mono ?_
      rintro e w1 ⟨rfl, hS1, hK1⟩
      have hown1 := hK1.own Hown.out (fun x hx e => by have := (Hlo.out x hx).1; omega)
      have hsz1 := hK1.size
      have HS1 := Lib.hid hS1; have HK1 := Lib.hid hK1; have Hown1 := Lib.hid hown1; clear hS1 hK1 hown1
      go_wp2_with (at_builtin; refine wpList_push et_ints _ rfl (.tmp 36) (.tmp 38) rfl w.heap.size (.slice Al k cl) k _ rfl Hown1.out [.int .i64 y] rfl rfl (nums_cell .i64 [_]) (by omega) (by unfold maxLen; omega) (by omega) ?_)
      intro g6 c6 w6 ho6 hb6 hg6
      have HO6 := Lib.hid ho6; have HB6 := Lib.hid hb6
      have hK6 := (HK.out.trans HK1.out).below2 hb6
      have HK6 := Lib.hid hK6
      clear ho6 hb6 hg6 hK6
      go_wp2_with fail
      go_roundw
      case rel =>
        refine ⟨k + 1, by omega, by go_num, ?_, ?_, HK6.out⟩
        · rw [upTo_succ, nums_append, Hm.out, Hy.out]; exact HO6.out
        · exact ⟨(HB6.out.block b hbw).trans HS1.out.blk, HK6.out.rd H.out.rd (fun a ha e => H.out.ne a ha e), H.out.ne⟩
      case measure => simp [intOf]; omega
    · obtain rfl : k = n := by omega
      have Hown := Lib.hid hown; have HK := Lib.hid hK; have HS := Lib.hid hS; clear hown hK hS
      go_wp2_with fail
      go_ret2
      exact ⟨_, rfl, Hown.out, HS.out, HK.out⟩

theorem cell?_setCell_some {w : World} {p q : Addr} {x v : Value} (h : w.cell? q = some v) : ∃ v', (w.setCell p x).cell? q = some v' := by
  by_cases e : p = q
  · subst e; exact ⟨x, World.cell?_setCell_same w p x h⟩
  · exact ⟨v, (World.cell?_setCell_other w p q x e).trans h⟩
theorem own_addr {w : World} {base size n c m : Nat} {e : TypeId} {A : Option Addr} {xs : List Value} (h : w.ownsRow base e size (.slice A n c) m xs) : ∀ a, A = some a → base ≤ a.block ∧ a.block < w.heap.size := fun a ha => by
  subst ha
  rcases h.2 with ⟨hn, _⟩ | ⟨g, cap, cur, hv, _⟩
  · cases hn
  · simp only [Value.slice.injEq, Option.some.injEq] at hv
    obtain ⟨rfl, _, _⟩ := hv
    exact h.lt g rfl
theorem swap_any (P g n c base i j : Nat) (p : List Int) (w : World) (hP : w.heap[P]? = some (.cells #[.slice (some ⟨g, 0, none⟩) n c] 22 (0, 0))) (hown : w.ownsRow base 3 1 (.slice (some ⟨g, 0, none⟩) n c) n (nums .i64 p)) (hi : i < n) (hj : j < n) (hn : n ≤ 1048576) :
    Calls Tryz.prog 115 #[.int .i64 i, .int .i64 j, .pointer (some ⟨P, 0, none⟩)] w fun e w' => e = .returned (.tuple #[]) ∧ w'.ownsRow base 3 1 (.slice (some ⟨g, 0, none⟩) n c) n (nums .i64 (swp p i j)) ∧ Keep (fun k => k = g) w w' := by
  have hpl := own_len hown
  have p1 := own_num hown hi
  have p2 := own_num hown hj
  have f1 := hown.frozenAt i
  have f2 := hown.frozenAt j
  have hcm := swp_comm (p := p) (i := i) (j := j) (by omega) (by omega)
  have x0 := cell_of_row w _ 0 _ _ _ hP
  have xf := fun j => frozen_of_row w _ j _ _ hP
  have hii : (i : Int) < n := by omega
  have hjj : (j : Int) < n := by omega
  have hne : g ≠ P := fun e => block_notrow hP (by decide) hown (by rw [← e]; rfl)
  have hx1 := (World.cell?_setCell_other w ⟨g, i, none⟩ ⟨P, 0, none⟩ (.int .i64 (nth p j)) (by simp [hne])).trans x0
  have hx2 := (World.cell?_setCell_other w ⟨g, j, none⟩ ⟨P, 0, none⟩ (.int .i64 (nth p i)) (by simp [hne])).trans x0
  obtain ⟨v1, hy1⟩ := cell?_setCell_some (w := w) (p := ⟨g, i, none⟩) (x := .int .i64 (nth p j)) (q := ⟨g, j, none⟩) p2
  obtain ⟨v2, hy2⟩ := cell?_setCell_some (w := w) (p := ⟨g, j, none⟩) (x := .int .i64 (nth p i)) (q := ⟨g, i, none⟩) p1
  have HO := Lib.hid hown; have Hpl := Lib.hid hpl; have Hcm := Lib.hid hcm; clear hown hpl hP hcm
  go_enter Tryz.func115, Tryz.ntmps115
  go_wp2_with fail
  go_region
  all_goals go_wp2_with fail
  all_goals
    go_end0
    refine ⟨rfl, ?_, ?_⟩
  · exact own_drewN (own_put (own_put HO.out i _) j _) 1
  · exact (Keep.setCell (S := fun k => k = g) (Keep.setCell (S := fun k => k = g) (Keep.refl _ w) ⟨g, i, none⟩ (.inr rfl) _) ⟨g, j, none⟩ (.inr rfl) _).drew

set_option maxRecDepth 100000 in
set_option maxHeartbeats 1600000 in
theorem shuffle_any (n b c i : Nat) (A : Option Addr) (l : List Int) (w : World) (h : StreamAt w b A c l i) (hn : 1 ≤ n) (hn2 : n ≤ 1048576) (hi : i + (n - 1) ≤ l.length) (hl : l.length ≤ 1048576) (hu : U64 l) :
    Calls Tryz.prog 81 #[.int .i64 n, .pointer (some ⟨b, 0, none⟩)] w fun e w' => ∃ v, e = .returned (.tuple #[v, .bool true]) ∧ w'.ownsRow w.heap.size 3 1 v n (nums .i64 (permN l n i)) ∧ StreamAt w' b A c l (i + (n - 1)) ∧ Keep (fun j => j = b) w w' := by
  obtain ⟨m, hm⟩ : ∃ m, n - 1 = m := ⟨_, rfl⟩
  rw [hm] at hi ⊢
  have hpn : permN l n i = shufN n (drawN l n i) m := by unfold permN; rw [hm]
  rw [hpn]
  have hmn : m < n := by omega
  have hnm : n ≤ m + 1 := by omega
  clear hm hpn
  have hma := fun B d w' (h : StreamAt w' b A c l i) (hB : Rd w' B (nums .i64 (upTo m fun k => ((n - k : Nat) : Int)))) hne => many_any b c i A l B (upTo m fun k => ((n - k : Nat) : Int)) d w' h (by rw [upTo_len]; exact hi) hl hu hB hne (fun k hk => by rw [upTo_len] at hk; rw [upTo_nth _ hk]; omega)
  simp only [upTo_len] at hma
  have he : (upTo m fun k => nth l (i + k) % nth (upTo m fun k => ((n - k : Nat) : Int)) k) = upTo m fun k => (drawN l n i k : Int) := upTo_congr fun k hk => by rw [upTo_nth _ hk, drawN_int l (by omega)]
  rw [he] at hma
  have hid := fun w' => ident_any n w' hn2
  have hbw := h.lt
  have Hma := Lib.hid hma; have Hid' := Lib.hid hid; have H := Lib.hid h
  clear hma he hid h hu
  go_enter Tryz.func81, Tryz.ntmps81
  go_wp2_with fail
  go_loopw [6, 7] (fun v x wr => ∃ k : Nat, k ≤ m ∧ x = .int .i64 ((n : Int) - k) ∧ wr.ownsRow w.heap.size 3 1 v k (nums .i64 (upTo k fun k => ((n - k : Nat) : Int))) ∧ Below w.heap.size w wr) (fun _ x _ => (intOf x).toNat)
  case atStart => exact ⟨0, Nat.zero_le _, by go_num, World.ownsRow_nil _ _ _ _, Below.refl _ _⟩
  case round =>
    obtain ⟨k, hk, rfl, hown, hb⟩ := hrel
    by_cases hlt : k < m
    · obtain ⟨Al, cl, rfl, _⟩ := own_form hown
      have Hown := Lib.hid hown; have Hb := Lib.hid hb; clear hown hb
      go_wp2_with (at_builtin; refine wpList_push et_ints _ rfl (.tmp 29) (.tmp 31) rfl w.heap.size (.slice Al k cl) k _ rfl Hown.out [.int .i64 ((n : Int) - k)] rfl rfl (nums_cell .i64 [_]) (by omega) (by unfold maxLen; omega) Hb.out.size ?_)
      intro g6 c6 w6 ho6 hb6 hg6
      have hb6' := Hb.out.trans hb6
      have HO6 := Lib.hid ho6; have HB6 := Lib.hid hb6'
      clear ho6 hb6 hg6 hb6'
      go_wp2_with fail
      go_roundw
      case rel =>
        refine ⟨k + 1, by omega, by go_num, ?_, HB6.out⟩
        rw [upTo_succ, nums_append, show ((n - k : Nat) : Int) = (n : Int) - k by omega]; exact HO6.out
      case measure => simp [intOf]; omega
    · obtain rfl : m = k := by omega
      obtain ⟨Al, cl, rfl, _⟩ := own_form hown
      have hne : ∀ a, Al = some a → a.block ≠ b := fun a ha e => by
        subst ha
        have := own_addr hown a rfl
        omega
      have hmr := Hma.out Al cl wr (H.out.below hb) (Rd.own hown) hne
      have Hmr := Lib.hid hmr; have Hb := Lib.hid hb; clear hown hb hmr hne
      obtain ⟨wq, rfl⟩ : ∃ wq : World, wq = wr := ⟨_, rfl⟩
      go_wp2_with fail
      refine Hmr.out.mono ?_
      rintro e w1 ⟨v1, rfl, ho1, hS1, hK1⟩
      obtain ⟨A1, c1, rfl, _⟩ := own_form ho1
      have ha1 := own_addr ho1
      have hr1 := Rd.own ho1
      have hs1 := hK1.size
      have hKw := (Keep.below (S := fun j => j = b) Hb.out).trans hK1
      have hs0 := hKw.size
      have HS1 := Lib.hid hS1; have HK1 := Lib.hid hKw; have Hr1 := Lib.hid hr1; have Ha1 := Lib.hid ha1; clear hS1 hK1 hr1 ho1 ha1 hKw
      go_wp2_with fail
      refine (Hid'.out w1).mono ?_
      rintro e w2 ⟨v2, rfl, ho2, hb2⟩
      obtain ⟨g, c2, rfl, _⟩ := ho2.form hn
      have hs2 := hb2.size
      have hgl := ho2.lt g rfl
      have hP := heap_alloc_new w2 (.cells #[.slice (some ⟨g, 0, none⟩) n c2] 22)
      have hB3 := hb2.alloc hs2 (.cells #[.slice (some ⟨g, 0, none⟩) n c2] 22)
      have ho3 := ho2.alloc (.cells #[.slice (some ⟨g, 0, none⟩) n c2] 22)
      have hr3 := Hr1.out.below hB3
      have HP := Lib.hid hP; have HB3 := Lib.hid hB3; have Ho3 := Lib.hid ho3; have Hr3 := Lib.hid hr3; clear hP hB3 ho3 hr3 ho2 hb2
      go_wp2_with fail
      obtain ⟨W3, hW3⟩ : ∃ W3, W3 = w2.alloc (.cells #[.slice (some ⟨g, 0, none⟩) n c2] 22) := ⟨_, rfl⟩
      have hs3 : w2.heap.size < W3.heap.size := by rw [hW3]; simp
      have HP3 : Hid (W3.heap[w2.heap.size]? = some (.cells #[.slice (some ⟨g, 0, none⟩) n c2] 22 (0, 0))) := Lib.hid (by rw [hW3]; exact HP.out)
      have HB4 : Hid (Below w1.heap.size w1 W3) := Lib.hid (by rw [hW3]; exact HB3.out)
      have Ho4 : Hid (W3.ownsRow w1.heap.size 3 1 (.slice (some ⟨g, 0, none⟩) n c2) n (nums .i64 (iota n))) := Lib.hid (by rw [hW3]; exact Ho3.out)
      have Hr4 : Hid (Rd W3 A1 (nums .i64 (upTo m fun k => (drawN l n i k : Int)))) := Lib.hid (by rw [hW3]; exact Hr3.out)
      rw [← hW3]
      clear HP HB3 Ho3 Hr3 hW3
      go_loopw [46] (fun x wr => ∃ k : Nat, k ≤ m ∧ x = .int .i64 k ∧ wr.heap[w2.heap.size]? = some (.cells #[.slice (some ⟨g, 0, none⟩) n c2] 22 (0, 0)) ∧ wr.ownsRow w1.heap.size 3 1 (.slice (some ⟨g, 0, none⟩) n c2) n (nums .i64 (shufN n (drawN l n i) k)) ∧ Keep (fun j => j = g) W3 wr) (fun x _ => m - (intOf x).toNat)
      case atStart => exact ⟨0, Nat.zero_le _, rfl, HP3.out, Ho4.out, Keep.refl _ _⟩
      case round =>
        obtain ⟨k, hk, rfl, hP, hown, hK⟩ := hrel
        by_cases hlt : k < m
        · have hr := hK.rd Hr4.out (fun a ha e => by have := (Ha1.out a ha).2; omega)
          obtain ⟨bA, oA, rfl, p⟩ := hr.num (show k < _ by rw [upTo_len]; exact hlt)
          rw [upTo_nth _ hlt] at p
          have hdl := drawN_lt l (n := n) (i := i) (k := k) (by omega)
          have hsw := swap_any w2.heap.size g n c2 w1.heap.size (n - 1 - k) (drawN l n i k) (shufN n (drawN l n i) k) wr hP hown (by omega) (by omega) hn2
          rw [show ((n - 1 - k : Nat) : Int) = (n : Int) - 1 - k by omega] at hsw
          have hps := lt_of_block hP
          have Hsw := Lib.hid hsw; have HP := Lib.hid hP; have HK := Lib.hid hK; clear hsw hP hown hK hr
          obtain ⟨dk, hdk⟩ : ∃ dk, drawN l n i k = dk := ⟨_, rfl⟩
          rw [hdk] at p
          have hsw := Hsw.out
          rw [hdk] at hsw hdl
          have Hsw2 := Lib.hid hsw; have Hdk := Lib.hid hdk; clear Hsw hsw hdk
          go_wp2_with fail
          refine Hsw2.out.mono ?_
          rintro e w5 ⟨rfl, ho5, hK5⟩
          have hP5 := (hK5.block _ hps (by omega)).trans HP.out
          have HP5 := Lib.hid hP5; have Ho5 := Lib.hid ho5; have HK5 := Lib.hid (HK.out.trans hK5); clear hP5 ho5 hK5 p
          go_wp2_with fail
          go_roundw
          case rel =>
            refine ⟨k + 1, by omega, by go_num, HP5.out, ?_, HK5.out⟩
            rw [shufN, Hdk.out]; exact Ho5.out
          case measure => simp [intOf]; omega
        · obtain rfl : m = k := by omega
          have x0 := cell_of_row wr _ 0 _ _ _ hP
          have xf := fun j => frozen_of_row wr _ j _ _ hP
          have hKf : Keep (fun j => j = b) w wr := HK1.out.below2 ((HB4.out.mono (by omega)).trans (hK.toBelow (by omega) (fun j hj => by omega)))
          have hSf : StreamAt wr b A c l (i + m) := ⟨(hK.block b (by omega) (by omega)).trans ((HB4.out.block b (by omega)).trans HS1.out.blk), hKf.rd H.out.rd (fun a ha e => H.out.ne a ha e), H.out.ne⟩
          have HKf := Lib.hid hKf; have HSf := Lib.hid hSf; have Hown := Lib.hid (own_base (base' := w.heap.size) hown (by omega)); clear hKf hSf hown hK hP
          go_wp2_with fail
          go_ret2
          exact ⟨_, rfl, Hown.out, HSf.out, HKf.out⟩
end Go.Proofs.YtfiojofcafjfeaaGreat
namespace Go.Proofs.YtfiojofcafjfeaaGreat
open Go.RowKit

/-- How many blocks n numbers fill. -/
def cntQ (n size : Nat) : Nat := if n = 0 then 0 else (n - 1) / size + 1
theorem ediv_pred (n s : Nat) (hn : 1 ≤ n) : ((n : Int) - 1) / (s : Int) = (((n - 1) / s : Nat) : Int) := by
  rw [show ((n : Int) - 1) = ((n - 1 : Nat) : Int) by omega, ← Int.natCast_ediv]
theorem cntQ_le (n size : Nat) : cntQ n size ≤ n := by
  unfold cntQ
  split
  · omega
  · have := Nat.div_le_self (n - 1) size
    omega
theorem cntQ_lt {n size k : Nat} (h : k < cntQ n size) : k * size < n := by
  unfold cntQ at h
  split at h
  · omega
  · have h1 : k ≤ (n - 1) / size := by omega
    have h2 := Nat.mul_le_mul_right size h1
    have h3 := Nat.div_mul_le_self (n - 1) size
    omega
/-- The blocks, as cells. -/
def blkVals (n size k : Nat) : List Value := (List.range k).flatMap fun j => [.int .i64 ((j * size : Nat) : Int), .int .i64 ((min (j * size + size) n : Nat) : Int)]
theorem blkVals_succ (n size k : Nat) : blkVals n size (k + 1) = blkVals n size k ++ [.int .i64 ((k * size : Nat) : Int), .int .i64 ((min (k * size + size) n : Nat) : Int)] := by simp [blkVals, List.range_succ, List.flatMap_append]
theorem blkVals_len (n size k : Nat) : (blkVals n size k).length = k * 2 := by
  induction k with
  | zero => simp [blkVals]
  | succ k ih => rw [blkVals_succ, List.length_append, ih]; simp; omega
theorem blkVals_at (n size : Nat) {j k : Nat} (h : j < k) : (blkVals n size k)[j * 2]? = some (.int .i64 ((j * size : Nat) : Int)) ∧ (blkVals n size k)[j * 2 + 1]? = some (.int .i64 ((min (j * size + size) n : Nat) : Int)) := by
  induction k with
  | zero => omega
  | succ k ih =>
    rw [blkVals_succ]
    rcases Nat.lt_or_ge j k with hj | hj
    · obtain ⟨h1, h2⟩ := ih hj
      have hl := blkVals_len n size k
      rw [List.getElem?_append_left (by omega), List.getElem?_append_left (by omega)]
      exact ⟨h1, h2⟩
    · obtain rfl : j = k := by omega
      have hl := blkVals_len n size j
      rw [List.getElem?_append_right (by omega), List.getElem?_append_right (by omega), hl]
      simp
/-- A whole number of blocks. -/
theorem cntQ_whole (n batch : Nat) (hb : 1 ≤ batch) (hn : batch ≤ n) : cntQ (n - n % batch) batch = n / batch := by
  have h1 := Nat.div_add_mod n batch
  have h2 := Nat.div_pos hn hb
  have h3 : n - n % batch = batch * (n / batch) := by omega
  have h4 : 1 ≤ batch * (n / batch) := Nat.mul_pos hb h2
  unfold cntQ
  rw [if_neg (by omega), h3]
  have h5 : batch * (n / batch) - 1 = batch * (n / batch - 1) + (batch - 1) := by
    have : batch * (n / batch) = batch * (n / batch - 1) + batch := by rw [← Nat.mul_succ]; congr 1; omega
    omega
  rw [h5, Nat.mul_add_div hb, show (batch - 1) / batch = 0 from Nat.div_eq_of_lt (by omega)]
  omega
theorem whole_min (n batch j : Nat) (hb : 1 ≤ batch) (hj : j < n / batch) : min (j * batch + batch) (n - n % batch) = j * batch + batch := by
  have h1 := Nat.div_add_mod n batch
  have h2 : (j + 1) * batch ≤ (n / batch) * batch := Nat.mul_le_mul_right _ hj
  rw [Nat.succ_mul] at h2
  have h3 : (n / batch) * batch = batch * (n / batch) := Nat.mul_comm _ _
  omega
theorem whole_le (n batch j : Nat) (hj : j < n / batch) : j * batch + batch ≤ n := by
  have h1 := Nat.div_mul_le_self n batch
  have h2 : (j + 1) * batch ≤ (n / batch) * batch := Nat.mul_le_mul_right _ hj
  rw [Nat.succ_mul] at h2
  omega
/-- The epochs of a run: as the reference counts them, and as the code reckons them. -/
theorem cntQ_eq (n size : Nat) (hs : 1 ≤ size) : cntQ n size = (n + size - 1) / size := by
  unfold cntQ
  split
  · subst_vars; rw [Nat.zero_add, Nat.div_eq_of_lt (by omega)]
  · rw [show n + size - 1 = (n - 1) + size by omega, Nat.add_div_right _ hs]
end Go.Proofs.YtfiojofcafjfeaaGreat
namespace Go.Proofs.YtfiojofcafjfeaaGreat
open Go.RowKit

theorem wrong_any (n : Int) (w : World) : Calls Tryz.prog 75 #[.int .i64 n] w fun e w' => e = .returned (.bool (!decide (1 ≤ n ∧ n ≤ 1048576))) ∧ w = w' := by
  by_cases h1 : n < 1
  · go_enter Tryz.func75, Tryz.ntmps75
    go_wp2
    go_ret
    exact ⟨ret_bool (by first | (simp; omega) | (simp; done)), rfl⟩
  · by_cases h2 : 1048576 < n
    · go_enter Tryz.func75, Tryz.ntmps75
      go_wp2
      go_ret
      exact ⟨ret_bool (by first | (simp; omega) | (simp; done)), rfl⟩
    · go_enter Tryz.func75, Tryz.ntmps75
      go_wp2
      go_ret
      exact ⟨ret_bool (by first | (simp; omega) | (simp; done)), rfl⟩

/-- What IndexFunc answers, as far as it matters: below 0 just if no number is wrong. -/
def IndexIs (sz : List Int) (e : Ending) : Prop := ∃ d : Int, e = .returned (.int .i64 d) ∧ -1 ≤ d ∧ (d < 0 ↔ ∀ k, k < sz.length → 1 ≤ nth sz k ∧ nth sz k ≤ 1048576)

theorem index_any (A : Option Addr) (sz : List Int) (c : Nat) (w : World) (hA : Rd w A (nums .i64 sz)) (hl : sz.length ≤ 17592186043904) :
    Calls Tryz.prog 112 #[.slice A sz.length c, .func (.func 75) #[] #[]] w fun e w' => IndexIs sz e ∧ w = w' := by
  obtain ⟨n, hn⟩ : ∃ n, sz.length = n := ⟨_, rfl⟩
  have hw := fun z => wrong_any z w
  rw [hn] at hl ⊢
  have HA := Lib.hid hA; have Hn := Lib.hid hn; have Hw := Lib.hid hw; clear hA hn hw
  go_enter Tryz.func112, Tryz.ntmps112
  go_wp2_with fail
  go_loop [5, 8] (fun _ i => ∃ k : Nat, k ≤ n ∧ i = .int .i64 k ∧ Hid (∀ j, j < k → 1 ≤ nth sz j ∧ nth sz j ≤ 1048576)) (fun _ i => n - (intOf i).toNat)
  case atStart => exact ⟨0, Nat.zero_le _, rfl, Lib.hid fun j hj => by omega⟩
  case round =>
    obtain ⟨k, hk, rfl, Hall⟩ := hrel
    by_cases hlt : k < n
    · obtain ⟨b, o, rfl, p⟩ := HA.out.num (show k < sz.length by rw [Hn.out]; exact hlt)
      by_cases hz : 1 ≤ nth sz k ∧ nth sz k ≤ 1048576
      · have hd : (!decide (1 ≤ nth sz k ∧ nth sz k ≤ 1048576)) = false := by simp [hz.1, hz.2]
        have hw := Hw.out (nth sz k)
        rw [hd] at hw
        have Hz := Lib.hid hz; have Hw2 := Lib.hid hw; clear hz hw hd
        go_wp2_with fail
        refine Hw2.out.mono ?_
        rintro e w' ⟨rfl, rfl⟩
        go_wp2_with fail
        go_round
        case rel => exact ⟨k + 1, by omega, by go_num, Lib.hid (p := ∀ j, j < k + 1 → 1 ≤ nth sz j ∧ nth sz j ≤ 1048576) fun j hj => by
          rcases Nat.lt_or_ge j k with h | h
          · exact Hall.out j h
          · obtain rfl : j = k := by omega
            exact Hz.out⟩
        case measure => simp [intOf]; omega
      · have hd : (!decide (1 ≤ nth sz k ∧ nth sz k ≤ 1048576)) = true := by simp; omega
        have hw := Hw.out (nth sz k)
        rw [hd] at hw
        have Hz := Lib.hid hz; have Hw2 := Lib.hid hw; clear hz hw hd
        go_wp2_with fail
        refine Hw2.out.mono ?_
        rintro e w' ⟨rfl, rfl⟩
        go_wp2_with fail
        go_ret
        exact ⟨⟨k, rfl, by omega, fun h => by omega, fun h => absurd (h k (by rw [Hn.out]; exact hlt)) Hz.out⟩, rfl⟩
    · obtain rfl : k = n := by omega
      go_wp2_with fail
      go_ret
      exact ⟨⟨-1, rfl, by omega, fun _ => by rw [Hn.out]; exact Hall.out, fun _ => by omega⟩, rfl⟩

theorem contains_yes (A : Option Addr) (sz : List Int) (c : Nat) (w : World) (hA : Rd w A (nums .i64 sz)) (hl : sz.length ≤ 17592186043904) (h : ¬ ∀ k, k < sz.length → 1 ≤ nth sz k ∧ nth sz k ≤ 1048576) :
    Calls Tryz.prog 76 #[.slice A sz.length c, .func (.func 75) #[] #[]] w fun e w' => e = .returned (.bool true) ∧ w = w' := by
  have hi := index_any A sz c w hA hl
  have Hi := Lib.hid hi; have H := Lib.hid h; clear hi hA h
  go_enter Tryz.func76, Tryz.ntmps76
  go_wp2_with fail
  refine Hi.out.mono ?_
  rintro e w' ⟨⟨d, rfl, hd, hiff⟩, rfl⟩
  have h0 : 0 ≤ d := by
    rcases Int.lt_or_le d 0 with h | h
    · exact absurd (hiff.1 h) H.out
    · exact h
  clear hiff
  go_wp2
  go_ret
  exact ⟨ret_bool (by simp [h0]), rfl⟩

theorem contains_no (A : Option Addr) (sz : List Int) (c : Nat) (w : World) (hA : Rd w A (nums .i64 sz)) (hl : sz.length ≤ 17592186043904) (h : ∀ k, k < sz.length → 1 ≤ nth sz k ∧ nth sz k ≤ 1048576) :
    Calls Tryz.prog 76 #[.slice A sz.length c, .func (.func 75) #[] #[]] w fun e w' => e = .returned (.bool false) ∧ w = w' := by
  have hi := index_any A sz c w hA hl
  have Hi := Lib.hid hi; have H := Lib.hid h; clear hi hA h
  go_enter Tryz.func76, Tryz.ntmps76
  go_wp2_with fail
  refine Hi.out.mono ?_
  rintro e w' ⟨⟨d, rfl, hd, hiff⟩, rfl⟩
  have h0 : d < 0 := hiff.2 H.out
  clear hiff
  go_wp2
  go_ret
  exact ⟨ret_bool (by simp; omega), rfl⟩

/-- The next range. -/
theorem next_any (m N : Nat) (P S : Nat) (v0 v1 v2 : Value) (w : World) (hP : w.heap[P]? = some (.cells #[.pointer (some ⟨S, 0, none⟩)] 97 (0, 0)))
    (hS : w.heap[S]? = some (.cells #[v0, v1, v2, .int .i64 N] 138 (0, 0))) (hN : N ≤ 17592202821632) (hm : m ≤ 17592202821632) :
    Calls Tryz.prog 77 #[.int .i64 m, .pointer (some ⟨P, 0, none⟩)] w fun e w' => e = .returned (.agg #[.int .i64 N, .int .i64 ((N + m : Nat) : Int)]) ∧ w'.heap[S]? = some (.cells #[v0, v1, v2, .int .i64 ((N + m : Nat) : Int)] 138 (0, 0)) ∧ Keep (fun i => i = S) w w' := by
  have p0 := cell_of_row w _ 0 _ _ _ hP
  have pf := fun j => frozen_of_row w _ j _ _ hP
  have s0 := cell_of_row w _ 0 _ _ _ hS
  have s1 := cell_of_row w _ 1 _ _ _ hS
  have s2 := cell_of_row w _ 2 _ _ _ hS
  have s3 := cell_of_row w _ 3 _ _ _ hS
  have sf := fun j => frozen_of_row w _ j _ _ hS
  have hPl := lt_of_block hP
  have hSl := lt_of_block hS
  have HS := Lib.hid hS; clear hS hP
  rw [Int.natCast_add]
  go_enter Tryz.func77, Tryz.ntmps77
  go_wp2_with fail
  go_region
  all_goals go_wp2_with fail
  refine bodyPost_ret (v := .agg #[.int .i64 N, .int .i64 ((N : Int) + (m : Int))]) (by simp [results, Tryz.results77, go_sem]) rfl ⟨rfl, ?_, ?_⟩
  · have h1 : (w.setCell ⟨S, 3, none⟩ (.int .i64 ((N : Int) + (m : Int)))).heap[S]? = some (.cells #[v0, v1, v2, .int .i64 ((N : Int) + (m : Int))] 138 (0, 0)) := heap_setCell_same w S 3 _ _ _ HS.out
    have l1 := lt_of_block h1
    exact (Below.heap_alloc _ _ S (by simp at l1 ⊢; omega)).trans ((Below.heap_alloc _ _ S l1).trans h1)
  · exact (((Keep.setCell (S := fun i => i = S) (Keep.refl _ w) ⟨S, 3, none⟩ (.inr rfl) _).alloc _).alloc _).drew
end Go.Proofs.YtfiojofcafjfeaaGreat
