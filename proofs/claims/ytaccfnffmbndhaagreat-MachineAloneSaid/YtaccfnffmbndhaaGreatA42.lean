/- A machine launches a bucket. A machine records a state. No condition. -/
import Derived.Test.YtaccfnffmbndhaaGreatA41
import Derived.Lib.SliceRun
set_option linter.unusedSimpArgs false
set_option linter.unusedVariables false
namespace Go.Proofs.YtaccfnffmbndhaaGreat
open Go.RowKit
theorem MachAt.setO {H:Nat → Prop} {w w':World} {b x:Nat} {i:Inp} {a:MAd} {m:Mst} (h:MachAt H w b i x a m) (hn:∀ k,Mut b a k → ¬ H k) (hnew:∀ k,w.heap.size ≤ k → ¬ H k) (ov:Value) (op:List Nat)
    (hk:Keep (fun k => k = b ∨ a.ov.ownBlock = some k) w w') (hb:w'.heap[b]? = some (.cells #[.int .i64 (x:Nat),.int .i64 i.cfg.workers,.int .i64 i.cfg.micros,.pointer (some ⟨({ a with ov:=ov }:MAd).F,0,none⟩),.slice ({ a with ov:=ov }:MAd).E i.data.length ({ a with ov:=ov }:MAd).ce,.pointer (some ⟨({ a with ov:=ov }:MAd).S,0,none⟩),.pointer (some ⟨({ a with ov:=ov }:MAd).PP,0,none⟩),.slice ({ a with ov:=ov }:MAd).BA (plnI i).buks.length ({ a with ov:=ov }:MAd).bc,.int .i64 i.cfg.rate,.int .i64 i.cfg.mom,.int .i64 i.cfg.shift,.slice (some ⟨({ a with ov:=ov }:MAd).bp,0,none⟩) i.start.length ({ a with ov:=ov }:MAd).cp,.slice (some ⟨({ a with ov:=ov }:MAd).bm,0,none⟩) i.start.length ({ a with ov:=ov }:MAd).cm,.slice (some ⟨({ a with ov:=ov }:MAd).bg,0,none⟩) i.start.length ({ a with ov:=ov }:MAd).cg,.slice (some ⟨({ a with ov:=ov }:MAd).rb,0,none⟩) m.rc.length ({ a with ov:=ov }:MAd).rc,.slice ({ a with ov:=ov }:MAd).IA (curL i x m.st).length ({ a with ov:=ov }:MAd).ic,.int .i64 (m.nx:Nat),.int .i64 (doneN i x m:Nat),({ a with ov:=ov }:MAd).ov] 130 (0,0)))
    (oO:w'.ownsRow 0 3 1 ov op.length (nums .i64 (intsN op))) (hv:∀ k,ov.ownBlock = some k → a.ov.ownBlock = some k ∨ w.heap.size ≤ k):MachAt H w' b i x { a with ov:=ov } { m with op:=op } ∧ ∀ k,Mut b { a with ov:=ov } k → Mut b a k ∨ w.heap.size ≤ k:=by
  have hmu:∀ k,Mut b { a with ov:=ov } k → Mut b a k ∨ w.heap.size ≤ k:=by
    rintro k (h1 | h1 | h1 | h1 | h1 | h1)
    · exact .inl (.inl h1)
    · exact .inl (.inr (.inl h1))
    · exact .inl (.inr (.inr (.inl h1)))
    · exact .inl (.inr (.inr (.inr (.inl h1))))
    · exact .inl (.inr (.inr (.inr (.inr (.inl h1)))))
    · exact (hv k h1).imp (fun h2 => .inr (.inr (.inr (.inr (.inr h2))))) id
  have he:Ext (hideW (mutH H b a) w) (hideW (mutH H b { a with ov:=ov }) w'):=ext_step (hk.mono fun k _ e => .inl (e.imp id fun h2 => .inr (.inr (.inr (.inr h2))))) (fun k hl hS => hS.imp (fun h1 => (hmu k h1).elim id (fun h2 => by omega)) id)
  have ho:∀ {v:Value} {e:TypeId} {size n:Nat} {xs:List Value},e ≠ 130 → e ≠ 3 → w.ownsRow 0 e size v n xs → w'.ownsRow 0 e size v n xs:=fun h1 h2 ho => hk.own ho (fun j hj e => by
    rcases e with e | e
    · exact block_notrow h.blk (Ne.symm h1) ho (by rw [hj,e])
    · rcases h.oO.2 with ⟨e',_⟩ | ⟨r',_,_,e',_,hg,_⟩
      · rw [e'] at e;cases e
      · rw [e'] at e
        have e3:r' = j:=by simpa [Value.ownBlock] using e
        exact block_notrow hg (Ne.symm h2) ho (by rw [hj,e3]))
  obtain ⟨a0,a1,a2,a3,a5,a11,hp⟩:=h.pl
  obtain ⟨rows,r1,r2,r3,r4⟩:=h.re
  exact ⟨⟨hb,ext_shape h.sh he,ext_sl exts_ex h.ex he,ext_samp h.sa he,⟨a0,a1,a2,a3,a5,a11,ext_plan hp he⟩,ext_rd h.bu he,ext_rd h.it he,⟨rows,ho (by decide) (by decide) r1,r2,r3,fun j x hx => exts_ex (r4 j x hx) he⟩,
    ho (by decide) (by decide) h.oP,ho (by decide) (by decide) h.oM,ho (by decide) (by decide) h.oG,oO,h.dj,fun k _ hm => (hmu k hm).elim (hn k) (hnew k),h.wP,h.wM,h.wG,h.ox,h.xw⟩,hmu⟩
set_option maxRecDepth 100000 in
set_option maxHeartbeats 2000000 in
theorem mlaunch_any {H:Nat → Prop} {w:World} {b x:Nat} {i:Inp} {a:MAd} {m:Mst} (h:MachAt H w b i x a m) (hn:∀ k,Mut b a k → ¬ H k) (hnew:∀ k,w.heap.size ≤ k → ¬ H k) (hl:m.op.length ≤ 1000) (y:Itm) (u v:Value) (hu:u.oneCell' = true) (hv:v.oneCell' = true) :
    Calls Tryz.prog 111 #[.pointer (some ⟨b,0,none⟩),.agg (itCells y).toArray,.agg #[u,v]] w fun e w' => e = .returned (.int .i64 0) ∧ Did H (fun _ => False) b i x a m w.heap.size (fun _ m1 => m1 = { m with op:=m.op ++ [y.n] }) w w':=by
  have hblk:=h.blk
  obtain ⟨W0,W1,hW0,hW1,g0,g1,k1',-⟩:=rm_boxes w (itCells y).toArray #[u,v] 56 154
  have hb1:=sb hblk _ k1'
  have oO1:=own_below h.oO k1'
  have nt:=fun c cs t' sg (hb':W1.heap[c]? = some (.cells cs t' sg)) (hne:t' ≠ 3) (e:a.ov.ownBlock = some c) => block_notrow hb' hne oO1 e.symm
  have kb:=fun w' (q:Keep (fun j => a.ov.ownBlock = some j) W1 w') => (q.block b (lt_of_block hb1) (nt _ _ _ _ hb1 (by decide))).trans hb1
  have k0:=fun w' (q:Keep (fun j => a.ov.ownBlock = some j) W1 w') => (q.block w.heap.size (lt_of_block g0) (nt _ _ _ _ g0 (by decide))).trans g0
  have t18:∀ w',Keep (fun j => a.ov.ownBlock = some j) W1 w' → w'.cell? ⟨b,18,none⟩ = some a.ov:=fun w' q => cell_of_row w' b 18 _ _ _ (kb w' q)
  have s2:∀ w',Keep (fun j => a.ov.ownBlock = some j) W1 w' → w'.cell? ⟨w.heap.size,2,none⟩ = some (.int .i64 (y.n:Nat)):=fun w' q => cell_of_row w' w.heap.size 2 _ _ _ (k0 w' q)
  have HW0:=Lib.hid hW0;have HW1:=Lib.hid hW1;have KB:=Lib.hid kb;have O1:=Lib.hid oO1;have K1:=Lib.hid k1';have HM:=Lib.hid h;have Hn:=Lib.hid hn;have Hnew:=Lib.hid hnew;have NT:=Lib.hid (nt b _ _ _ hb1 (by decide))
  have q0:Keep (fun j => a.ov.ownBlock = some j) W1 W1.drew:=(Keep.refl _ _).drew
  have hWs:w.heap.size ≤ W1.heap.size:=k1'.size
  clear hW0 hW1 g0 g1 k1' hb1 oO1 nt kb k0 hblk h hn hnew
  go_enter Tryz.func111,Tryz.ntmps111
  go_wp2_with fail
  rw [HW0.out,HW1.out]
  refine XA.g 9 (fun w':World => Keep (fun j => a.ov.ownBlock = some j) W1 w') ?_
  refine XA.t ?_ [0,1,2,3,4,5,6] q0 ?_
  refine XA.v 7 (W1.drew.alloc (.cells #[.int .i64 (y.n:Nat)] 3)) (.slice (some ⟨W1.heap.size,0,none⟩) 1 1) (q0.alloc _) ?_
  refine XA.o 8 (fun K' hK => ?_)
  have hO:=(O1.out.drew).alloc (.cells #[.int .i64 (y.n:Nat)] 3)
  refine step_appX et_ints (.tmp 11) (.tmp 14) rfl rfl 0 a.ov m.op.length _ rfl hO (some ⟨W1.heap.size,0,none⟩) 1 1 [.int .i64 (y.n:Nat)] rfl (fun k u hu => ⟨_,_,rfl,by rw [Nat.zero_add,cell_of_row _ W1.heap.size k _ 3 (0,0) (heap_alloc_new W1.drew _)];simpa using hu⟩) rfl (by simp [Value.oneCell']) (by omega) (by unfold maxLen;omega) (Nat.zero_le _) ?_
  intro A5 c5 w5 o5 b5 g5 hnw
  have q5:=(q0.alloc (.cells #[.int .i64 (y.n:Nat)] 3)).grown g5 (fun k hk => .inr hk)
  refine hK.out _ _ q5 fun _ => ?_
  refine XA.e ?_
  simp only [List.drop_succ_cons,List.drop_zero]
  have g5':=KB.out w5 q5
  have e8:=ss (i:=18) (v:=.slice A5 (m.op.length + 1) c5) g5' rfl
  have k8:Keep (fun k => k = b) w5 (w5.setCell ⟨b,18,none⟩ (.slice A5 (m.op.length + 1) c5)):=Keep.setCell (S:=fun k => k = b) (Keep.refl _ _) _ (.inr rfl) _
  have o8:=k8.own o5 (fun j hj e => block_notrow g5' (by decide) o5 (by rw [hj,e]))
  have c18:w5.cell? ⟨b,18,none⟩ = some a.ov:=cell_of_row w5 b 18 _ _ _ g5'
  have f18:=frozen_of_row w5 b 18 _ _ g5'
  have l5:=lt_of_block g5'
  have hkk:Keep (fun k => k = b ∨ a.ov.ownBlock = some k) w (w5.setCell ⟨b,18,none⟩ (.slice A5 (m.op.length + 1) c5)):=((Keep.below K1.out).trans (q5.mono fun k _ e => .inr e)).trans (k8.mono fun k _ e => .inl e)
  have hop:nums .i64 (intsN m.op) ++ [.int .i64 (y.n:Nat)] = nums .i64 (intsN (m.op ++ [y.n])):=by simp [intsN,nums]
  rw [hop] at o8
  have hlen:(m.op ++ [y.n]).length = m.op.length + 1:=by simp
  rw [← hlen] at e8 o8 hkk
  have hset:=HM.out.setO Hn.out Hnew.out (.slice A5 (m.op ++ [y.n]).length c5) (m.op ++ [y.n]) hkk e8 o8 (fun k hk => by
    rcases hnw with h1 | h1
    · rw [hlen] at hk;exact .inl (by rw [← h1];exact hk)
    · rw [hlen] at hk;rw [h1] at hk;exact .inr (by simp at hk;omega))
  have HF:=Lib.hid (⟨{ a with ov:=.slice A5 (m.op ++ [y.n]).length c5 },{ m with op:=m.op ++ [y.n] },hset.1,rfl,rfl,hkk.sub (fun k e => .inl (e.elim .inl (fun e => .inr (.inr (.inr (.inr (.inr e))))))),hset.2,rfl⟩:Did H (fun _ => False) b i x a m w.heap.size (fun _ m1 => m1 = { m with op:=m.op ++ [y.n] }) w _)
  rw [hlen] at HF
  clear hset hkk hop o8 e8 k8 g5' hnw g5 b5 o5 q5 hO q0 t18 s2 hK K' hlen
  go_wp2_with fail
  go_ret
  exact ⟨rfl,HF.out⟩
end Go.Proofs.YtaccfnffmbndhaaGreat
namespace Go.Proofs.YtaccfnffmbndhaaGreat
open Go.RowKit
theorem own_setCells {e:TypeId} {base g n c:Nat}:∀ (vs:List Value) (o:Nat) (w:World) (xs:List Value),w.ownsRow base e 1 (.slice (some ⟨g,0,none⟩) n c) n xs → o + vs.length ≤ n → (w.setCells g o vs).ownsRow base e 1 (.slice (some ⟨g,0,none⟩) n c) n (xs.take o ++ vs ++ xs.drop (o + vs.length))
  | [],o,w,xs,h,_ => by simpa [World.setCells] using h
  | v :: vs,o,w,xs,h,hl => by
    have hx:xs.length = n:=by have:=h.1;omega
    simp only [List.length_cons] at hl
    have:=own_setCells vs (o + 1) _ _ (h.stored o v).1 (by omega)
    have e1:(xs.set o v).take (o + 1) = xs.take o ++ [v]:=by
      rw [List.take_add_one,List.take_set_of_le (Nat.le_refl o)]
      simp [show o < xs.length by omega]
    have e2:(xs.set o v).drop (o + 1 + vs.length) = xs.drop (o + (vs.length + 1)):=by
      rw [List.drop_set_of_lt (by omega)];congr 1;omega
    rw [e1,e2] at this
    simpa [World.setCells] using this
theorem keep_setCells {g:Nat}:∀ (vs:List Value) (o:Nat) (w:World),Keep (fun j => j = g) w (w.setCells g o vs)
  | [],_,w => Keep.refl _ w
  | v :: vs,o,w => (Keep.setCell (S:=fun j => j = g) (Keep.refl _ w) ⟨g,o,none⟩ (.inr rfl) v).trans (keep_setCells vs (o + 1) _)
theorem MachAt.setR {H:Nat → Prop} {w w':World} {b x:Nat} {i:Inp} {a:MAd} {m:Mst} (h:MachAt H w b i x a m) (hn:∀ k,Mut b a k → ¬ H k) (hnew:∀ k,w.heap.size ≤ k → ¬ H k) (rb rc:Nat) (e:Ex) (u1 u2:Value)
    (hk:Keep (fun k => k = b ∨ k = a.rb) w w') (hb:w'.heap[b]? = some (.cells #[.int .i64 (x:Nat),.int .i64 i.cfg.workers,.int .i64 i.cfg.micros,.pointer (some ⟨({ a with rb:=rb,rc:=rc }:MAd).F,0,none⟩),.slice ({ a with rb:=rb,rc:=rc }:MAd).E i.data.length ({ a with rb:=rb,rc:=rc }:MAd).ce,.pointer (some ⟨({ a with rb:=rb,rc:=rc }:MAd).S,0,none⟩),.pointer (some ⟨({ a with rb:=rb,rc:=rc }:MAd).PP,0,none⟩),.slice ({ a with rb:=rb,rc:=rc }:MAd).BA (plnI i).buks.length ({ a with rb:=rb,rc:=rc }:MAd).bc,.int .i64 i.cfg.rate,.int .i64 i.cfg.mom,.int .i64 i.cfg.shift,.slice (some ⟨({ a with rb:=rb,rc:=rc }:MAd).bp,0,none⟩) i.start.length ({ a with rb:=rb,rc:=rc }:MAd).cp,.slice (some ⟨({ a with rb:=rb,rc:=rc }:MAd).bm,0,none⟩) i.start.length ({ a with rb:=rb,rc:=rc }:MAd).cm,.slice (some ⟨({ a with rb:=rb,rc:=rc }:MAd).bg,0,none⟩) i.start.length ({ a with rb:=rb,rc:=rc }:MAd).cg,.slice (some ⟨({ a with rb:=rb,rc:=rc }:MAd).rb,0,none⟩) ({ m with rc:=m.rc ++ [e] }:Mst).rc.length ({ a with rb:=rb,rc:=rc }:MAd).rc,.slice ({ a with rb:=rb,rc:=rc }:MAd).IA (curL i x ({ m with rc:=m.rc ++ [e] }:Mst).st).length ({ a with rb:=rb,rc:=rc }:MAd).ic,.int .i64 (({ m with rc:=m.rc ++ [e] }:Mst).nx:Nat),.int .i64 (doneN i x m:Nat),({ a with rb:=rb,rc:=rc }:MAd).ov] 130 (0,0)))
    (rows:List (List Value)) (r2:rows.length = m.rc.length) (r3:∀ r ∈ rows,r.length = 2) (r4:∀ j x,m.rc[j]? = some x → rEx (hideW (mutH H b a) w) (rowOf rows j) x) (o':w'.ownsRow 0 68 2 (.slice (some ⟨rb,0,none⟩) (m.rc ++ [e]).length rc) (m.rc ++ [e]).length (List.flatten rows ++ [u1,u2]))
    (hu:ExOwn w' w.heap.size [u1,u2] e) (hv:rb = a.rb ∨ w.heap.size ≤ rb):MachAt H w' b i x { a with rb:=rb,rc:=rc } { m with rc:=m.rc ++ [e] } ∧ ∀ k,Mut b { a with rb:=rb,rc:=rc } k → Mut b a k ∨ w.heap.size ≤ k:=by
  have hmu:∀ k,Mut b { a with rb:=rb,rc:=rc } k → Mut b a k ∨ w.heap.size ≤ k:=by
    rintro k (h1 | h1 | h1 | h1 | h1 | h1)
    · exact .inl (.inl h1)
    · exact .inl (.inr (.inl h1))
    · exact .inl (.inr (.inr (.inl h1)))
    · exact .inl (.inr (.inr (.inr (.inl h1))))
    · have h1':k = rb:=h1
      exact hv.imp (fun h2 => .inr (.inr (.inr (.inr (.inl (h1'.trans h2)))))) (fun h2 => by omega)
    · exact .inl (.inr (.inr (.inr (.inr (.inr h1)))))
  have he:Ext (hideW (mutH H b a) w) (hideW (mutH H b { a with rb:=rb,rc:=rc }) w'):=ext_step (hk.mono fun k _ e => .inl (e.elim .inl fun h2 => .inr (.inr (.inr (.inr (.inl h2)))))) (fun k hl hS => hS.imp (fun h1 => (hmu k h1).elim id (fun h2 => by omega)) id)
  obtain ⟨a0,a1,a2,a3,a5,a11,hp⟩:=h.pl
  obtain ⟨_,r1,_⟩:=h.re
  have hor:∀ {v:Value} {e:TypeId} {size n:Nat} {xs:List Value},e ≠ 130 → e ≠ 68 → w.ownsRow 0 e size v n xs → w'.ownsRow 0 e size v n xs:=fun h1 h2 ho => hk.own ho (fun j hj e => by
    rcases e with e | e
    · exact block_notrow h.blk (Ne.symm h1) ho (by rw [hj,e])
    · rcases r1.2 with ⟨e',_⟩ | ⟨r',_,_,e',_,hg,_⟩
      · cases e'
      · simp only [Value.slice.injEq,Option.some.injEq,Addr.mk.injEq] at e'
        obtain ⟨⟨e1,_⟩,_⟩:=e'
        exact block_notrow hg (Ne.symm h2) ho (by rw [hj,e,e1]))
  obtain ⟨v1,v2,hcs,z1,z2,z3,z4,z5,z6⟩:=hu
  simp only [List.cons.injEq,and_true] at hcs
  obtain ⟨rfl,rfl⟩:=hcs
  obtain ⟨A1,c1,rfl,hc1⟩:=own_form z1
  obtain ⟨A2,c2,rfl,hc2⟩:=own_form z2
  have hfr:∀ {A:Option Addr} {n c:Nat} {xs:List Value},w'.ownsRow w.heap.size 2 1 (.slice A n c) n xs → ∀ y,A = some y → ¬ mutH H b { a with rb:=rb,rc:=rc } y.block:=fun hz y hy hm => by
    have h1:=(own_addr hz y hy).1
    rcases hm with hm | hm
    · rcases hm with hm | hm | hm | hm | hm | hm
      · have:=h.mlt _ (.inl hm);omega
      · have:=h.mlt _ (.inr (.inl hm));omega
      · have:=h.mlt _ (.inr (.inr (.inl hm)));omega
      · have:=h.mlt _ (.inr (.inr (.inr (.inl hm))));omega
      · have hm':y.block = rb:=hm
        rcases o'.2 with ⟨e',_⟩ | ⟨r',_,_,e',_,hg,_⟩
        · cases e'
        · simp only [Value.slice.injEq,Option.some.injEq,Addr.mk.injEq] at e'
          obtain ⟨⟨e1,_⟩,_⟩:=e'
          exact block_notrow hg (by decide) hz (by rw [hy];show some r' = some y.block;rw [hm',e1])
      · have:=h.mlt _ (.inr (.inr (.inr (.inr (.inr hm)))));omega
    · exact hnew _ h1 hm
  refine ⟨⟨hb,ext_shape h.sh he,ext_sl exts_ex h.ex he,ext_samp h.sa he,⟨a0,a1,a2,a3,a5,a11,ext_plan hp he⟩,ext_rd h.bu he,ext_rd h.it he,⟨rows ++ [[.slice A1 e.1.length c1,.slice A2 e.2.length c2]],?_,by simp [r2],?_,fun j z hz => ?_⟩,
    hor (by decide) (by decide) h.oP,hor (by decide) (by decide) h.oM,hor (by decide) (by decide) h.oG,hor (by decide) (by decide) h.oO,h.dj,fun k _ hm => (hmu k hm).elim (hn k) (hnew k),h.wP,h.wM,h.wG,h.ox,h.xw⟩,hmu⟩
  · rw [List.flatten_append,List.flatten_cons,List.flatten_nil,List.append_nil];exact o'
  · intro r hr
    rcases List.mem_append.1 hr with hr | hr
    · exact r3 r hr
    · rw [List.mem_singleton.1 hr];rfl
  · rcases Nat.lt_or_ge j m.rc.length with hj | hj
    · have hz':(m.rc ++ [e])[j]? = some z:=hz
      rw [List.getElem?_append_left hj] at hz'
      have e1:rowOf (rows ++ [[.slice A1 e.1.length c1,.slice A2 e.2.length c2]]) j = rowOf rows j:=by simp [rowOf,List.getElem?_append_left (show j < rows.length by omega)]
      rw [e1];exact exts_ex (r4 j z hz') he
    · have hz':(m.rc ++ [e])[j]? = some z:=hz
      have hj':j = m.rc.length:=by have:=(List.getElem?_eq_some_iff.1 hz').1;simp at this;omega
      subst hj'
      simp at hz'
      subst hz'
      have e1:rowOf (rows ++ [[.slice A1 e.1.length c1,.slice A2 e.2.length c2]]) m.rc.length = [.slice A1 e.1.length c1,.slice A2 e.2.length c2]:=by rw [← r2];simp [rowOf]
      rw [e1]
      exact ⟨A1,c1,A2,c2,rfl,⟨hc1,z3,rd_hide (Rd.own z1) (hfr z1),z5⟩,⟨hc2,z4,rd_hide (Rd.own z2) (hfr z2),z6⟩⟩
theorem clear_row {w:World} {g n c:Nat} {xs:List Value} (ty:TypeId) (h:w.ownsRow 0 2 1 (.slice (some ⟨g,0,none⟩) n c) n xs) (hn:0 < n) :
    (Builtin.clear_ #[64] ty #[.slice (some ⟨g,0,none⟩) n c]).run Tryz.prog w = .ok (.tuple #[]) (w.setCells g 0 (List.replicate n (.int .i64 0))):=by
  obtain ⟨i,hi,hz0,_⟩:=et_vec.info
  have hl:=h.1
  refine Lib.run_clear_slice w 64 2 ty (.int .i64 0) et_vec.und (fun w' => ?_) rfl rfl g 0 n c hn (fun j hj => ?_) (fun j hj => ?_)
  · simp [zeroValue,typeInfo,hi,hz0]
  · rw [Nat.zero_add,h.cellAt j (by omega),List.getElem?_eq_getElem (by omega)];rfl
  · rw [Nat.zero_add];exact h.frozenAt j
set_option maxRecDepth 100000 in
set_option maxHeartbeats 2000000 in
theorem mrecord_any {H:Nat → Prop} {w:World} {b x:Nat} {i:Inp} {a:MAd} {m:Mst} (h:MachAt H w b i x a m) (hn:∀ k,Mut b a k → ¬ H k) (hnew:∀ k,w.heap.size ≤ k → ¬ H k) (hs:SmIn i) (hl:m.rc.length ≤ 1000) (y:Itm) (u v:Value) (hu:u.oneCell' = true) (hv:v.oneCell' = true) :
    Calls Tryz.prog 115 #[.pointer (some ⟨b,0,none⟩),.agg (itCells y).toArray,.agg #[u,v]] w fun e w' => e = .returned (.int .i64 0) ∧ Did H (fun _ => False) b i x a m w.heap.size (fun _ m1 => m1 = { m with rc:=m.rc ++ [(m.P,m.M)],G:=List.replicate i.start.length 0 }) w w':=by
  have hblk:=h.blk
  have hn60:=hs.n
  have hn1:0 < i.start.length:=hs.n1
  obtain ⟨W0,W1,hW0,hW1,g0,g1,k1',-⟩:=rm_boxes w (itCells y).toArray #[u,v] 56 154
  obtain ⟨rows,r1,r2,r3,r4⟩:=h.re
  have hb1:=sb hblk _ k1'
  have oR1:=own_below r1 k1'
  have nt:b ≠ a.rb:=fun e => by
    rcases r1.2 with ⟨e',_⟩ | ⟨r',_,_,e',_,hg,_⟩
    · cases e'
    · simp only [Value.slice.injEq,Option.some.injEq,Addr.mk.injEq] at e'
      obtain ⟨⟨e1,_⟩,_⟩:=e'
      rw [e,e1,hg] at hblk
      simp at hblk
  have kb:=fun w' (q:Keep (fun j => j = a.rb) W1 w') => (q.block b (lt_of_block hb1) nt).trans hb1
  have t14:∀ w',Keep (fun j => j = a.rb) W1 w' → w'.cell? ⟨b,14,none⟩ = some (.slice (some ⟨a.rb,0,none⟩) m.rc.length a.rc):=fun w' q => cell_of_row w' b 14 _ _ _ (kb w' q)
  have t11:∀ w',Keep (fun j => j = a.rb) W1 w' → w'.cell? ⟨b,11,none⟩ = some (.slice (some ⟨a.bp,0,none⟩) i.start.length a.cp):=fun w' q => cell_of_row w' b 11 _ _ _ (kb w' q)
  have t12:∀ w',Keep (fun j => j = a.rb) W1 w' → w'.cell? ⟨b,12,none⟩ = some (.slice (some ⟨a.bm,0,none⟩) i.start.length a.cm):=fun w' q => cell_of_row w' b 12 _ _ _ (kb w' q)
  have hcl:=fun w' (q:Below W1.heap.size W1 w') => stclone_any (some ⟨a.bp,0,none⟩) (some ⟨a.bm,0,none⟩) i.start.length a.cp a.cm m.P m.M w' (Rd.own (own_below (own_below h.oP k1') q)) (Rd.own (own_below (own_below h.oM k1') q)) h.wP.1 h.wM.1 (by omega)
  have HW0:=Lib.hid hW0;have HW1:=Lib.hid hW1;have KB:=Lib.hid kb;have R1:=Lib.hid oR1;have K1:=Lib.hid k1';have HM:=Lib.hid h;have Hn:=Lib.hid hn;have Hnew:=Lib.hid hnew;have NT:=Lib.hid nt;have Hcl:=Lib.hid hcl;have R2:=Lib.hid r2;have R3:=Lib.hid r3;have R4:=Lib.hid r4
  have q0:Keep (fun j => j = a.rb) W1 W1.drew:=(Keep.refl _ _).drew
  have tl:=fun w' (q:Keep (fun j => j = a.rb) W1 w') => Nat.lt_of_lt_of_le (lt_of_block hb1) q.size
  clear hW0 hW1 g0 g1 k1' hb1 oR1 nt kb hblk h hn hnew hcl r1 r2 r3 r4
  go_enter Tryz.func115,Tryz.ntmps115
  go_wp2_with fail
  rw [HW0.out,HW1.out]
  refine XA.g 12 (fun w':World => Keep (fun j => j = a.rb) W1 w') ?_
  refine XA.t ?_ [0,1,2,3,4,5,6,7,8] q0 ?_
  refine XA.c 9 (Hcl.out _ ((br W1).drew)) ?_
  rintro e w3 ⟨A1,c1,A2,c2,rfl,hc1,hc2,o1,o2,-,k3⟩
  have b3:Below W1.heap.size W1 w3:=(br W1).drew.trans k3
  have q3:Keep (fun j => j = a.rb) W1 w3:=Keep.below b3
  refine ⟨_,rfl,q3,fun _ => ?_⟩
  refine XA.v 10 (w3.alloc (.cells #[.slice A1 i.start.length c1,.slice A2 i.start.length c2] 68)) (.slice (some ⟨w3.heap.size,0,none⟩) 1 1) (q3.alloc _) ?_
  refine XA.o 11 (fun K' hK => ?_)
  have hO:=(own_below R1.out b3).alloc (.cells #[.slice A1 i.start.length c1,.slice A2 i.start.length c2] 68)
  refine step_appX et_sts (.tmp 11) (.tmp 17) rfl rfl 0 (.slice (some ⟨a.rb,0,none⟩) m.rc.length a.rc) m.rc.length _ rfl hO (some ⟨w3.heap.size,0,none⟩) 1 1 [.slice A1 i.start.length c1,.slice A2 i.start.length c2] rfl (fun k u hu => ⟨_,_,rfl,by rw [Nat.zero_add,cell_of_row _ w3.heap.size k _ 68 (0,0) (heap_alloc_new w3 _)];simpa using hu⟩) rfl (by simp [Value.oneCell']) (by omega) (by unfold maxLen;omega) (Nat.zero_le _) ?_
  intro A5 c5 w5 o5 b5 g5 hnw
  have hA5:∃ g,A5 = some ⟨g,0,none⟩:=by
    obtain ⟨g,_,e,_⟩:=o5.form (by omega)
    simp only [Value.slice.injEq] at e
    exact ⟨g,e.1⟩
  obtain ⟨g,rfl⟩:=hA5
  have q5:=(q3.alloc (.cells #[.slice A1 i.start.length c1,.slice A2 i.start.length c2] 68)).grown g5 (fun k hk => .inr (by cases hk;rfl))
  refine hK.out _ _ q5 fun _ => ?_
  refine XA.e ?_
  simp only [List.drop_succ_cons,List.drop_zero]
  have g5':=KB.out w5 q5
  have hlen:(m.rc ++ [(m.P,m.M)]).length = m.rc.length + 1:=by simp
  have e8:=ss (i:=14) (v:=.slice (some ⟨g,0,none⟩) (m.rc.length + 1) c5) g5' rfl
  have k8:Keep (fun k => k = b) w5 (w5.setCell ⟨b,14,none⟩ (.slice (some ⟨g,0,none⟩) (m.rc.length + 1) c5)):=Keep.setCell (S:=fun k => k = b) (Keep.refl _ _) _ (.inr rfl) _
  have o8:=k8.own o5 (fun j hj e => block_notrow g5' (by decide) o5 (by rw [hj,e]))
  have z1:=own_pushed (o1.alloc (.cells #[.slice A1 i.start.length c1,.slice A2 i.start.length c2] 68)) hO g5 (by decide)
  have z2:=own_pushed (o2.alloc (.cells #[.slice A1 i.start.length c1,.slice A2 i.start.length c2] 68)) hO g5 (by decide)
  have z1':=own_base (base':=w.heap.size) (k8.own z1 (fun j hj e => block_notrow g5' (by decide) z1 (by rw [hj,e]))) (Nat.le_trans K1.out.size (br W1).drew.size)
  have z2':=own_base (base':=w.heap.size) (k8.own z2 (fun j hj e => block_notrow g5' (by decide) z2 (by rw [hj,e]))) (Nat.le_trans K1.out.size (br W1).drew.size)
  have c14:w5.cell? ⟨b,14,none⟩ = some (.slice (some ⟨a.rb,0,none⟩) m.rc.length a.rc):=cell_of_row w5 b 14 _ _ _ g5'
  have f14:=frozen_of_row w5 b 14 _ _ g5'
  have l5:=lt_of_block g5'
  have hkk:Keep (fun k => k = b ∨ k = a.rb) w (w5.setCell ⟨b,14,none⟩ (.slice (some ⟨g,0,none⟩) (m.rc.length + 1) c5)):=((Keep.below K1.out).trans (q5.mono fun k _ e => .inr e)).trans (k8.mono fun k _ e => .inl e)
  have c13:(w5.setCell ⟨b,14,none⟩ (.slice (some ⟨g,0,none⟩) (m.rc.length + 1) c5)).cell? ⟨b,13,none⟩ = some (.slice (some ⟨a.bg,0,none⟩) i.start.length a.cg):=cell_of_row _ b 13 _ _ _ e8
  rw [← hlen] at e8 o8 hkk c13
  have hex:ExOwn (w5.setCell ⟨b,14,none⟩ (.slice (some ⟨g,0,none⟩) (m.rc ++ [(m.P,m.M)]).length c5)) w.heap.size [.slice A1 i.start.length c1,.slice A2 i.start.length c2] (m.P,m.M):=by
    rw [hlen]
    refine ⟨_,_,rfl,?_,?_,?_,?_,HM.out.wP.2,HM.out.wM.2⟩
    · show World.ownsRow _ _ _ _ _ m.P.length _;rw [HM.out.wP.1];exact z1'
    · show World.ownsRow _ _ _ _ _ m.M.length _;rw [HM.out.wM.1];exact z2'
    · show m.P.length ≤ _;rw [HM.out.wP.1];omega
    · show m.M.length ≤ _;rw [HM.out.wM.1];omega
  have hset:=HM.out.setR Hn.out Hnew.out g c5 (m.P,m.M) _ _ hkk e8 rows R2.out R3.out R4.out o8 hex (by
    rcases hnw with h1 | h1
    · left;simpa [Value.ownBlock] using h1
    · right
      have h2:g = w3.heap.size + 1:=by simpa [Value.ownBlock] using h1
      have:=K1.out.size;have:=b3.size
      omega)
  rw [hlen] at hset c13 hkk
  obtain ⟨w8,hw8⟩:∃ w8,w5.setCell ⟨b,14,none⟩ (.slice (some ⟨g,0,none⟩) (m.rc.length + 1) c5) = w8:=⟨_,rfl⟩
  rw [hw8] at hset c13 hkk
  have lb8:b < w8.heap.size:=lt_of_cell c13
  have hclr:=fun ty => clear_row ty hset.1.oG hn1
  have k9:=keep_setCells (g:=a.bg) (List.replicate i.start.length (.int .i64 0)) 0 w8
  have o9:=own_setCells (List.replicate i.start.length (.int .i64 0)) 0 w8 _ hset.1.oG (by simp)
  have e9:(nums .i64 m.G).take 0 ++ List.replicate i.start.length (Value.int .i64 0) ++ (nums .i64 m.G).drop (0 + (List.replicate i.start.length (Value.int .i64 0)).length) = nums .i64 (List.replicate i.start.length 0):=by
    rw [List.take_zero,List.nil_append,List.length_replicate,Nat.zero_add,List.drop_eq_nil_of_le (by rw [nums_length,HM.out.wG.1];exact Nat.le_refl _),List.append_nil,nums_rep]
  rw [e9] at o9
  have hG:=hset.1.setG (fun k hk => (hset.2 k hk).elim (Hn.out k) (Hnew.out k)) k9 (List.replicate i.start.length 0) o9 ⟨by simp,rep_W64 _⟩
  have HF:=Lib.hid (⟨_,_,hG,rfl,rfl,(hkk.sub (fun k e => .inl (e.elim .inl (fun e => .inr (.inr (.inr (.inr (.inl e)))))))).trans (k9.sub (fun k e => .inl (.inr (.inr (.inr (.inl e)))))),hset.2,rfl⟩:Did H (fun _ => False) b i x a m w.heap.size (fun _ m1 => m1 = { m with rc:=m.rc ++ [(m.P,m.M)],G:=List.replicate i.start.length 0 }) w _)
  clear hG hset hkk o9 e9 k9 hex z1 z2 z1' z2' o8 e8 k8 g5' hnw g5 b5 o5 q5 hO q0 t14 t11 t12 hK K' hlen o1 o2 k3 b3 q3 tl
  go_wp2_with fail
  go_ret
  exact ⟨rfl,HF.out⟩
end Go.Proofs.YtaccfnffmbndhaaGreat
