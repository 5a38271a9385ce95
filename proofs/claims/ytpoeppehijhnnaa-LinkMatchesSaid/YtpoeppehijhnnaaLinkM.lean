/- The link's Messages: copies of all messages that are there. -/
import Derived.Test.YtpoeppehijhnnaaLinkT
import Derived.Test.YtpoeppehijhnnaaLinkRef
namespace Go.Proofs.Ytpoeppehijhnnaa
open Go.RowKit

/-- A list of messages of one's own. -/
def MsgsOwn (w : World) (base : Nat) (v : Value) (ms : List Msg) : Prop :=
  ∃ rows, w.ownsRow base 37 6 v ms.length (List.flatten rows) ∧ rows.length = ms.length ∧ (∀ r ∈ rows, r.length = 6) ∧ ∀ j, j < ms.length → MsgOwn w base (rowAt rows j) (msgAt ms j)

/-- Two rows of one's own with different elements lie in different blocks. -/
theorem own_ne {w : World} {base base' : Nat} {e e' : TypeId} {size size' n n' : Nat} {v v' : Value} {xs xs' : List Value} (h : w.ownsRow base e size v n xs) (h' : w.ownsRow base' e' size' v' n' xs') (hne : e ≠ e') : ∀ k, v.ownBlock = some k → v'.ownBlock ≠ some k := fun k hk hk' => by
  rcases h.2 with ⟨hn, _⟩ | ⟨g, cap, cur, rfl, _, hg, _⟩
  · rw [hn] at hk; cases hk
  · obtain rfl : g = k := by simpa [Value.ownBlock] using hk
    rcases h'.2 with ⟨hn, _⟩ | ⟨g', cap', cur', rfl, _, hg', _⟩
    · rw [hn] at hk'; cases hk'
    · obtain rfl : g' = g := by simpa [Value.ownBlock] using hk'
      rw [hg] at hg'; injection hg' with hg'; injection hg' with _ hg'; exact hne hg'

/-- The rows behind one more message. -/
theorem msgs_push {wr w2 w5 : World} {base hb : Nat} {A A2 : Option Addr} {k c c2 gO cO : Nat} {rows : List (List Value)} {ms : List Msg} {t0 t1 t2 t3 t4 : Int} {zs : List Int} (hk : ms.length = k) (hbase : base ≤ wr.heap.size)
    (ho : wr.ownsRow base 37 6 (.slice A k c) k (List.flatten rows)) (h2 : rows.length = ms.length) (h6 : ∀ r ∈ rows, r.length = 6) (hm : ∀ j, j < ms.length → MsgOwn wr base (rowAt rows j) (msgAt ms j))
    (hB : Below wr.heap.size wr w2) (hown : w2.ownsRow hb 2 1 (.slice A2 zs.length c2) zs.length (nums .i64 zs)) (hhb : wr.heap.size < hb) {v : Value} (hg : (w2.setCell ⟨wr.heap.size, 5, none⟩ v).grownBy w5 (Value.slice A k c).ownBlock)
    (ho5 : w5.ownsRow base 37 6 (.slice (some ⟨gO, 0, none⟩) (k + 1) cO) (k + 1) (List.flatten rows ++ [.int .i64 t0, .int .i64 t1, .int .i64 t2, .int .i64 t3, .int .i64 t4, .slice A2 zs.length c2])) :
    MsgsOwn w5 base (.slice (some ⟨gO, 0, none⟩) (k + 1) cO) (ms ++ [⟨⟨t0, t1, t2, t3, t4⟩, zs⟩]) := by
  have K5 : Keep (fun i => (Value.slice A k c).ownBlock = some i) wr w5 := ((Keep.below hB).setCell _ (.inl (Nat.le_refl _)) _).grown hg fun i hi => .inr hi
  have K2 : Keep (fun i => i = wr.heap.size ∨ (Value.slice A k c).ownBlock = some i) w2 w5 := ((Keep.refl _ _).setCell _ (.inr (.inl rfl)) _).grown hg fun i hi => .inr (.inr hi)
  refine ⟨rows ++ [[.int .i64 t0, .int .i64 t1, .int .i64 t2, .int .i64 t3, .int .i64 t4, .slice A2 zs.length c2]], ?_, by simp [h2], ?_, ?_⟩
  · rw [List.flatten_append, List.flatten_cons, List.flatten_nil, List.append_nil, List.length_append, List.length_singleton, hk]
    exact ho5
  · intro r hr
    rcases List.mem_append.1 hr with hr | hr
    · exact h6 r hr
    · rw [List.mem_singleton.1 hr]; rfl
  · intro j hj
    rcases Nat.lt_or_ge j ms.length with h | h
    · rw [rowAt_app_left _ _ _ (by omega), msgAt_app_left _ _ _ h]
      obtain ⟨B, d, e, hv⟩ := hm j h
      exact ⟨B, d, e, K5.own hv fun i hi => own_ne hv ho (by decide) i hi⟩
    · obtain rfl : j = ms.length := by simp at hj; omega
      rw [msgAt_app_last, ← h2, rowAt_app_last]
      refine ⟨A2, c2, rfl, own_base (base := hb) (K2.own hown fun i hi => ?_) (by omega)⟩
      have := (hown.lt i hi).1
      rintro (rfl | h')
      · omega
      · have := (ho.lt i h').2; omega

theorem linkMsgs_nil (w : World) : Calls Try.prog 28 #[.pointer none] w fun e w' => e = .returned (.slice none 0 0) ∧ Below w.heap.size w w' := by
  have h := linkLen_nil w
  have H := Lib.hid h; clear h
  go_enter Try.func28, Try.ntmps28
  go_wp2_with fail
  refine H.out.mono ?_
  rintro e w' ⟨rfl, rfl⟩
  go_wp2_with fail
  go_loopw [8, 3] (fun i out wr => i = .int .i64 0 ∧ out = .slice none 0 0 ∧ Below w.heap.size w wr) (fun _ _ _ => 0)
  case atStart => exact ⟨rfl, rfl, Below.refl _ _⟩
  case round =>
    obtain ⟨rfl, rfl, hW⟩ := hrel
    go_wp2_with fail
    go_ret
    exact ⟨rfl, hW⟩

set_option maxHeartbeats 3200000 in
theorem linkMsgs (base b : Nat) (g : Option Nat) (s : LSt) (w : World) (h : LinkAt w base b g s) :
    Calls Try.prog 28 #[.pointer (some ⟨b, 0, none⟩)] w fun e w' => ∃ A c, e = .returned (.slice A (s.msgs.length - s.recv) c) ∧ MsgsOwn w' w.heap.size (.slice A (s.msgs.length - s.recv) c) (s.msgs.drop s.recv) ∧ Below w.heap.size w w' := by
  have hok := h.ok
  obtain ⟨ring, rows, hc, _⟩ := h.ex
  have hl := linkLen b _ _ _ _ _ _ hc hok.rs (by have := hok.many; omega)
  obtain ⟨n, hn⟩ : ∃ n, s.msgs.length - s.recv = n := ⟨_, rfl⟩
  have hn2 : (s.msgs.length : Int) - s.recv = (n : Int) := by have := hok.rs; omega
  rw [hn2] at hl
  rw [hn]
  have H := Lib.hid h; have Hl := Lib.hid hl; have Hok := Lib.hid hok; have Hn := Lib.hid hn; clear h hl hok hn hn2 hc
  go_enter Try.func28, Try.ntmps28
  go_wp2_with fail
  refine Hl.out.mono ?_
  rintro e w' ⟨rfl, k, rfl⟩
  go_wp2_with fail
  go_loopw [8, 3] (fun i out wr => ∃ k A c, k ≤ n ∧ i = .int .i64 (k : Int) ∧ out = .slice A k c ∧ MsgsOwn wr w.heap.size (.slice A k c) ((s.msgs.drop s.recv).take k) ∧ Below w.heap.size w wr) (fun i _ _ => n - (intOf i).toNat)
  case atStart =>
    refine ⟨0, none, 0, Nat.zero_le _, rfl, rfl, ⟨[], ?_, rfl, by simp, by simp⟩, below_drewN (Below.refl _ _) _⟩
    exact ⟨rfl, .inl ⟨rfl, rfl⟩⟩
  case round =>
    obtain ⟨k, A, c, hk, rfl, rfl, hM, hW⟩ := hrel
    by_cases hlt : k < n
    · have hat := (H.out.below (hW.mono (Nat.le_refl _))).at_ (s.recv + k) (by omega) (by have := Hn.out; omega)
      obtain ⟨gg, rc, A', c', _, hc1, hi, h6, hval⟩ := hat
      have hcap1 := Hok.out.cap1
      have hcap2 := Hok.out.cap2
      have hmany := Hok.out.many
      have hn2 := Hn.out
      obtain ⟨m, hm⟩ : ∃ m, msgAt s.msgs (s.recv + k) = m := ⟨_, rfl⟩
      have hzl : m.vals.length ≤ 17592186043904 := by
        refine Hok.out.vals m ?_
        rw [← hm, msgAt, List.getD, List.getElem?_eq_getElem (by omega)]
        exact List.getElem_mem _
      rw [hm] at h6 hval
      obtain ⟨i, hie⟩ : ∃ i, (s.recv + k) % s.cap = i := ⟨_, rfl⟩
      rw [hie] at hi h6
      obtain ⟨L, hL⟩ : ∃ L, min s.msgs.length s.cap = L := ⟨_, rfl⟩
      rw [hL] at hi hc1
      obtain ⟨⟨t0, t1, t2, t3, t4⟩, zs⟩ := m
      have hp := fun W' hW' => linkPlaceN b (.slice (some ⟨gg, 0, none⟩) L rc) s.cap s.msgs.length s.recv s.peak (s.recv + k) i W' hW' hcap1 hcap2 hie
      have c0 := hc1.c0
      have c3 := hc1.c3
      obtain ⟨d0, d1, d2, d3, d4, d5⟩ := h6
      dsimp only at d0 d1 d2 d3 d4 d5 hval hzl
      have hwa : IntKind.i64.wrap ((s.recv : Int) + (k : Int)) = ((s.recv + k : Nat) : Int) := by rw [IntWalk.i64_in _ (by omega)]; omega
      have hbw := lt_of_block hc1
      have hgw := lt_of_cell d0
      have Hp := Lib.hid hp; have Hc1 := Lib.hid hc1; have Hval := Lib.hid hval; have HM := Lib.hid hM; have HW := Lib.hid hW; have Hm := Lib.hid hm
      clear hp hc1 hval hM hW hm hie hL
      go_wp2_with fail
      go_region_held3 (fun w' => w'.cell? ⟨b, 0, none⟩ = some (.slice (some ⟨gg, 0, none⟩) L rc) ∧ w'.cell? ⟨b, 3, none⟩ = some (.int .i64 (s.recv : Int)) ∧ w'.cell? ⟨gg, i * 6, none⟩ = some (.int .i64 t0) ∧ w'.cell? ⟨gg, i * 6 + 1, none⟩ = some (.int .i64 t1) ∧
          w'.cell? ⟨gg, i * 6 + 2, none⟩ = some (.int .i64 t2) ∧ w'.cell? ⟨gg, i * 6 + 3, none⟩ = some (.int .i64 t3) ∧ w'.cell? ⟨gg, i * 6 + 4, none⟩ = some (.int .i64 t4) ∧ w'.cell? ⟨gg, i * 6 + 5, none⟩ = some (.slice A' zs.length c')) (simp [go_sem, *])
        ((go_at_call 44; refine (Hp.out _ ?_).mono ?_; (focus (repeat' (first | (with_reducible exact Hc1.out) | (with_reducible refine LinkCells.drew ?_) | (with_reducible refine LinkCells.drewN ?_ _) | (with_reducible refine LinkCells.alloc ?_ _) | (with_reducible refine LinkCells.set0 (ring := .slice RA L rc) ?_ _) | (with_reducible refine LinkCells.set2 (sent := s.msgs.length) ?_ _ _ ?_) | (with_reducible refine LinkCells.set4 (peak := s.peak) ?_ _ _ ?_) | (with_reducible refine LinkCells.far ?_ _ _ ?_) | omega | (push_cast; omega)))); rintro e w' ⟨rfl, rfl⟩))
      all_goals
        go_wp2_with fail
        refine (copied_any A' zs c' _ ?_ hzl).mono ?_
        · repeat' (first | exact Rd.own Hval.out | (with_reducible refine Rd.alloc ?_ _) | (with_reducible refine Rd.drewN ?_ _) | (with_reducible refine Rd.drew ?_))
        rintro e w2 ⟨v2, rfl, hown2, hb2⟩
        have e0 : w2.cell? ⟨wr.heap.size, 0, none⟩ = some (.int .i64 t0) := by rw [hb2.cell (by simp)]; simp [go_sem]
        have e1 : w2.cell? ⟨wr.heap.size, 1, none⟩ = some (.int .i64 t1) := by rw [hb2.cell (by simp)]; simp [go_sem]
        have e2 : w2.cell? ⟨wr.heap.size, 2, none⟩ = some (.int .i64 t2) := by rw [hb2.cell (by simp)]; simp [go_sem]
        have e3 : w2.cell? ⟨wr.heap.size, 3, none⟩ = some (.int .i64 t3) := by rw [hb2.cell (by simp)]; simp [go_sem]
        have e4 : w2.cell? ⟨wr.heap.size, 4, none⟩ = some (.int .i64 t4) := by rw [hb2.cell (by simp)]; simp [go_sem]
        have e5 : w2.cell? ⟨wr.heap.size, 5, none⟩ = some (.slice A' zs.length c') := by rw [hb2.cell (by simp)]; simp [go_sem]
        have f5 : w2.frozen? ⟨wr.heap.size, 5, none⟩ = false := by rw [hb2.frozen (by simp)]; simp [go_sem]
        obtain ⟨A2, c2, rfl, _⟩ := own_form hown2
        have hB2 : Below wr.heap.size wr w2 := by
          refine Below.trans ?_ (hb2.mono (by simp))
          (focus (repeat' (first | (with_reducible exact Below.refl _ _) | (with_reducible assumption) | (with_reducible refine Below.setCell ?_ ?_ _) | (with_reducible refine Below.alloc ?_ ?_ _) | (with_reducible refine below_drewN ?_ _) | (with_reducible refine Below.drew ?_) | (with_reducible exact Nat.le_refl _) | omega | (simp; done) | (simp; omega))))
        obtain ⟨rowsM, hMo, hMl, hM6, hMm⟩ := HM.out
        have hlk : ((s.msgs.drop s.recv).take k).length = k := by simp; omega
        rw [hlk] at hMo
        have hMo2 := (own_below hMo hB2)
        have hMo3 : (w2.setCell ⟨wr.heap.size, 5, none⟩ (.slice A2 zs.length c2)).ownsRow w.heap.size 37 6 (.slice A k c) k (List.flatten rowsM) := ownsRow_setCell_other hMo2 (fun e => by have := (hMo.lt _ e).2; simp at this) _
        have hsz2 : wr.heap.size < w2.heap.size := by have := hb2.size; simp at this; omega
        have Hown2 := Lib.hid hown2; have Hb2 := Lib.hid hB2; have Hlk := Lib.hid hlk; have HMm := Lib.hid hMm; have HMo3 := Lib.hid hMo3; have HMo := Lib.hid hMo; have HMl := Lib.hid hMl; have HM6 := Lib.hid hM6; clear hown2 hb2 hB2 hlk hMm hMo hMo2 hMo3 hMl hM6
        go_wp2_with (at_builtin; refine wpList_push et_msgs _ rfl (.tmp 30) (.tmp 32) rfl w.heap.size _ k _ rfl HMo3.out [.int .i64 t0, .int .i64 t1, .int .i64 t2, .int .i64 t3, .int .i64 t4, .slice A2 zs.length c2] (by simp [go_sem]) rfl (msg_one _ _ _ _ _ _ rfl) (by omega) (by unfold maxLen; omega) (by have := HW.out.size; simp; omega) ?_)
        intro gO cO w5 hown5 hb5 hg5
        have Hown5 := Lib.hid hown5; have Hb5 := Lib.hid hb5; have Hg5 := Lib.hid hg5; clear hown5 hb5 hg5
        go_wp2_with fail
        go_roundw
        case rel =>
          refine ⟨k + 1, some ⟨gO, 0, none⟩, cO, by omega, by go_num, rfl, ?_, ?_⟩
          · rw [show (s.msgs.drop s.recv).take (k + 1) = (s.msgs.drop s.recv).take k ++ [⟨⟨t0, t1, t2, t3, t4⟩, zs⟩] by
              rw [← Hm.out, List.take_add_one, msgAt, List.getD]
              simp [List.getElem?_drop, List.getElem?_eq_getElem (show s.recv + k < s.msgs.length by omega)]]
            exact msgs_push Hlk.out HW.out.size HMo.out HMl.out HM6.out HMm.out Hb2.out Hown2.out (by simp) Hg5.out Hown5.out
          · have hs := HW.out.size
            refine HW.out.trans (Below.trans (Hb2.out.mono hs) (Below.trans ((Below.refl _ _).setCell ?_ _) Hb5.out))
            exact hs
        case measure => simp [intOf]; omega
    · obtain rfl : k = n := by omega
      have HM := Lib.hid hM; have HW := Lib.hid hW; clear hM hW
      go_wp2_with fail
      go_ret
      refine ⟨A, c, rfl, ?_, HW.out⟩
      have := HM.out
      rwa [List.take_of_length_le (by simp; have := Hn.out; omega)] at this
end Go.Proofs.Ytpoeppehijhnnaa
