/- The walks of package data: Clone, Pick. The walks of package data: Pick, Check. Permutations that draws make, in plain lists. No condition. -/
import Derived.Test.YtaccfnffmbndhaaGreatB02
import Derived.Test.YtaccfnffmbndhaaGreatB17
set_option linter.unusedSimpArgs false
set_option linter.unusedVariables false
namespace Go.Proofs.YtaccfnffmbndhaaGreat
open Go.RowKit
theorem ex_cells {w:World} {A:Option Addr} {l:List Ex} (h:SlRd rEx 2 w A l) {j:Nat} {x:Ex} (hx:l[j]? = some x) :
    ∃ b o A1 c1 A2 c2,A = some ⟨b,o,none⟩ ∧ b < w.heap.size ∧ w.cell? ⟨b,o + j * 2,none⟩ = some (.slice A1 x.1.length c1) ∧ w.cell? ⟨b,o + j * 2 + 1,none⟩ = some (.slice A2 x.2.length c2) ∧ NumsRd w A1 x.1 c1 ∧ NumsRd w A2 x.2 c2:=by
  obtain ⟨b,o,cs,rfl,hb,hl,⟨A1,c1,A2,c2,rfl,k1,k2⟩,h0,ht⟩:=h.get (by decide) hx
  exact ⟨b,o,A1,c1,A2,c2,rfl,hb,h0,ht 1 (by decide),k1,k2⟩
def MapI (w wr:World) (l:List Ex) (k:Nat) (v:Value):Prop:=∃ rows,wr.ownsRow w.heap.size 107 2 v k (List.flatten rows) ∧ rows.length = k ∧ (∀ r ∈ rows,r.length = 2) ∧
  (∀ j x,j < k → l[j]? = some x → ExOwn wr w.heap.size (rowOf rows j) x) ∧ Below w.heap.size w wr
theorem MapI.zero (w:World) (l:List Ex):MapI w w l 0 (.slice none 0 0):=⟨[],World.ownsRow_nil _ _ _ _,rfl,by simp,fun j x h => by omega,Below.refl _ _⟩
theorem MapI.form {w wr:World} {l:List Ex} {k:Nat} {v:Value} (h:MapI w wr l k v):∃ A c,v = .slice A k c:=by
  obtain ⟨rows,h1,_⟩:=h
  obtain ⟨A,c,e,_⟩:=own_form h1
  exact ⟨A,c,e⟩
theorem MapI.b {w wr:World} {l:List Ex} {k:Nat} {v:Value} (h:MapI w wr l k v):Below w.heap.size w wr:=by
  obtain ⟨rows,_,_,_,_,h⟩:=h
  exact h
theorem MapI.below {w wr w':World} {l:List Ex} {k:Nat} {v:Value} (h:MapI w wr l k v) (hb:Below wr.heap.size wr w'):MapI w w' l k v:=by
  obtain ⟨rows,h1,h2,h3,h4,h5⟩:=h
  exact ⟨rows,own_below h1 hb,h2,h3,fun j x hj hx => (h4 j x hj hx).below hb,h5.trans (hb.mono h5.size)⟩
theorem MapI.done {w wr:World} {l:List Ex} {A:Option Addr} {n c:Nat} (h:MapI w wr l n (.slice A n c)) (hn:l.length = n):SlRd rEx 2 wr A l:=by
  obtain ⟨rows,h1,h2,h3,h4,h5⟩:=h
  exact ⟨rows,Rd.own h1,by omega,h3,fun j x hx => (h4 j x (by have:=(List.getElem?_eq_some_iff.1 hx).1;omega) hx).rd⟩
theorem MapI.doneT {w wr:World} {l:List Ex} {A:Option Addr} {n c:Nat} (h:MapI w wr l n (.slice A n c)) (hn:l.length = n):SlRd rEx 2 (topW w.heap.size wr) A l:=by
  obtain ⟨rows,h1,h2,h3,h4,h5⟩:=h
  exact ⟨rows,Rd.own (own_top h1 (Nat.le_refl _)),by omega,h3,fun j x hx => by
    obtain ⟨u,v,e,k1,k2,k3⟩:=h4 j x (by have:=(List.getElem?_eq_some_iff.1 hx).1;omega) hx
    exact ExOwn.rd ⟨u,v,e,own_top k1 (Nat.le_refl _),own_top k2 (Nat.le_refl _),k3⟩⟩
theorem MapI.push {w W3 w6:World} {l:List Ex} {k:Nat} {v v':Value} {u1 u2:Value} {x:Ex} {rows:List (List Value)} (h1:W3.ownsRow w.heap.size 107 2 v k (List.flatten rows)) (h2:rows.length = k) (h3:∀ r ∈ rows,r.length = 2) (h4:∀ j x,j < k → l[j]? = some x → ExOwn W3 w.heap.size (rowOf rows j) x) (h5:Below w.heap.size w W3)
    (hx:l[k]? = some x) (hu:ExOwn W3 w.heap.size [u1,u2] x) (ho:w6.ownsRow w.heap.size 107 2 v' (k + 1) (List.flatten rows ++ [u1,u2])) (hb:Below w.heap.size W3 w6) (hg:W3.grownBy w6 v.ownBlock):MapI w w6 l (k + 1) v':=by
  refine ⟨rows ++ [[u1,u2]],by rw [List.flatten_append,List.flatten_cons,List.flatten_nil,List.append_nil];exact ho,by simp [h2],?_,?_,h5.trans hb⟩
  · intro r hr
    rcases List.mem_append.1 hr with hr | hr
    · exact h3 r hr
    · rw [List.mem_singleton.1 hr];rfl
  · intro j y hj hy
    rcases Nat.lt_or_ge j k with h | h
    · have e:rowOf (rows ++ [[u1,u2]]) j = rowOf rows j:=by simp [rowOf,List.getElem?_append_left (show j < rows.length by omega)]
      rw [e];exact (h4 j y h hy).pushed h1 hg (by decide)
    · obtain rfl:j = k:=by omega
      rw [hx] at hy
      injection hy with hy
      subst hy
      have e:rowOf (rows ++ [[u1,u2]]) j = [u1,u2]:=by rw [← h2];simp [rowOf]
      rw [e];exact hu.pushed h1 hg (by decide)
def ExRet (w:World) (x:Ex) (e:Ending) (w':World):Prop:=∃ A1 c1 A2 c2,e = .returned (.tuple #[.agg #[.slice A1 x.1.length c1,.slice A2 x.2.length c2],.bool true]) ∧ ExOwn w' w.heap.size [.slice A1 x.1.length c1,.slice A2 x.2.length c2] x ∧ Below w.heap.size w w'
theorem copied_at (A:Option Addr) (c:Nat) (B:Option Addr) (d:Nat) (x:Ex) (w:World) (h1:NumsRd w A x.1 c) (h2:NumsRd w B x.2 d) :
    Calls Tryz.prog 104 #[.agg #[.slice A x.1.length c,.slice B x.2.length d]] w fun e w' => ∃ A1 c1 A2 c2,e = .returned (.agg #[.slice A1 x.1.length c1,.slice A2 x.2.length c2]) ∧ ExOwn w' w.heap.size [.slice A1 x.1.length c1,.slice A2 x.2.length c2] x ∧ Below w.heap.size w w':=by
  refine (copied_any [.slice A x.1.length c,.slice B x.2.length d] x w ⟨A,c,B,d,rfl,h1,h2⟩).mono ?_
  rintro e w' ⟨us,rfl,⟨u,v,rfl,h3,h4,h5⟩,hb⟩
  obtain ⟨A1,c1,rfl,_⟩:=own_form h3
  obtain ⟨A2,c2,rfl,_⟩:=own_form h4
  exact ⟨A1,c1,A2,c2,rfl,⟨_,_,rfl,h3,h4,h5⟩,hb⟩
theorem copied_nm (n m:Nat) (A:Option Addr) (c:Nat) (B:Option Addr) (d:Nat) (x:Ex) (w:World) (hn:x.1.length = n) (hm:x.2.length = m) (h1:NumsRd w A x.1 c) (h2:NumsRd w B x.2 d) :
    Calls Tryz.prog 104 #[.agg #[.slice A n c,.slice B m d]] w fun e w' => ∃ A1 c1 A2 c2,e = .returned (.agg #[.slice A1 n c1,.slice A2 m c2]) ∧ ExOwn w' w.heap.size [.slice A1 n c1,.slice A2 m c2] x ∧ Below w.heap.size w w':=by
  subst hn;subst hm;exact copied_at A c B d x w h1 h2
set_option maxRecDepth 100000 in
theorem clone1_any (A:Option Addr) (c:Nat) (B:Option Addr) (d:Nat) (x:Ex) (w:World) (h1:NumsRd w A x.1 c) (h2:NumsRd w B x.2 d) :
    Calls Tryz.prog 103 #[.agg #[.slice A x.1.length c,.slice B x.2.length d]] w (ExRet w x):=by
  have hco:=fun n m (hn:x.1.length = n) (hm:x.2.length = m) w' (k:Below w.heap.size w w') => copied_nm n m A c B d x w' hn hm (h1.below k) (h2.below k)
  unfold ExRet
  obtain ⟨n,hn⟩:∃ n,x.1.length = n:=⟨_,rfl⟩
  obtain ⟨m,hm⟩:∃ m,x.2.length = m:=⟨_,rfl⟩
  have hco:=hco n m hn hm
  rw [hn,hm]
  have Hco:=Lib.hid hco;clear hco hn hm h1 h2
  go_enter Tryz.func103,Tryz.ntmps103
  go_wp2_with fail
  refine (Hco.out _ ?_).mono ?_
  · (focus (repeat' (first | (with_reducible exact Below.refl _ _) | (with_reducible assumption) | (with_reducible refine Below.setCell ?_ ?_ _) | (with_reducible refine Below.alloc ?_ ?_ _) | (with_reducible refine below_drewN ?_ _) | (with_reducible refine Below.drew ?_) | (with_reducible exact Nat.le_refl _) | omega | (simp;done) | (simp;omega))))
  rintro e w1 ⟨A1,c1,A2,c2,rfl,ho,hb1⟩
  have hz:w1.heap[w.heap.size + 1]? = some (.cells #[.slice none 0 0,.slice none 0 0] 107 (0,0)):=(hb1.block (w.heap.size + 1) (by simp)).trans (by rw [← show (w.alloc (.cells #[.slice A n c,.slice B m d] 107)).heap.size = w.heap.size + 1 by simp];exact heap_alloc_new (w.alloc (.cells #[.slice A n c,.slice B m d] 107)) (.cells #[.slice none 0 0,.slice none 0 0] 107))
  have hB1:Below w.heap.size w w1:=(((Below.refl _ w).alloc (Nat.le_refl _) _).alloc (by simp) _).trans (hb1.mono (by first | omega | (simp;done) | (simp;omega)))
  have ho1:=ho.base (base':=w.heap.size) (by first | omega | (simp;done) | (simp;omega))
  have lz:=lt_of_block hz
  obtain ⟨⟨z0,z1⟩,zf⟩:=bx2 hz
  have Hz:=Lib.hid hz;have HB1:=Lib.hid hB1;have Ho1:=Lib.hid ho1;clear hz hB1 ho1 hb1 ho
  go_wp2_with fail
  have e1:=heap_setCell_same w1 (w.heap.size + 1) 0 _ _ (.slice A1 n c1) Hz.out
  have e2:=heap_setCell_same _ (w.heap.size + 1) 1 _ _ (.slice A2 m c2) e1
  have e3:((w1.setCell ⟨w.heap.size + 1,0,none⟩ (.slice A1 n c1)).setCell ⟨w.heap.size + 1,1,none⟩ (.slice A2 m c2)).heap[w.heap.size + 1]? = some (.cells #[.slice A1 n c1,.slice A2 m c2] 107 (0,0)):=by simpa using e2
  have hk:Keep (fun j => j = w.heap.size + 1) w1 ((w1.setCell ⟨w.heap.size + 1,0,none⟩ (.slice A1 n c1)).setCell ⟨w.heap.size + 1,1,none⟩ (.slice A2 m c2)):=Keep.setCell (S:=fun j => j = w.heap.size + 1) (Keep.setCell (S:=fun j => j = w.heap.size + 1) (Keep.refl _ _) ⟨w.heap.size + 1,0,none⟩ (.inr rfl) _) ⟨w.heap.size + 1,1,none⟩ (.inr rfl) _
  obtain ⟨W9,hW9⟩:∃ W9,W9 = (w1.setCell ⟨w.heap.size + 1,0,none⟩ (.slice A1 n c1)).setCell ⟨w.heap.size + 1,1,none⟩ (.slice A2 m c2):=⟨_,rfl⟩
  rw [← hW9] at e3 hk ⊢
  obtain ⟨⟨x0,x1⟩,xf⟩:=bx2 e3
  have ho9:ExOwn W9 w.heap.size [.slice A1 n c1,.slice A2 m c2] x:=by
    obtain ⟨u,v,e,k1,k2,k3⟩:=Ho1.out
    exact ⟨u,v,e,hk.own k1 (fun j hj e => block_notrow Hz.out (by decide) k1 (by rw [hj,e])),hk.own k2 (fun j hj e => block_notrow Hz.out (by decide) k2 (by rw [hj,e])),k3⟩
  exact bodyPost_ret (v:=.tuple #[.agg #[.slice A1 n c1,.slice A2 m c2],.bool true]) (by simp [results,Tryz.results103,go_sem,x0,x1]) rfl ⟨A1,c1,A2,c2,rfl,ho9,HB1.out.trans (hk.toBelow HB1.out.size (fun j hj => by omega))⟩
set_option maxRecDepth 100000 in
set_option maxHeartbeats 1000000 in
theorem mapex_any (A:Option Addr) (l:List Ex) (c:Nat) (w:World) (h:SlRd rEx 2 w A l) (hl:l.length ≤ 1048576) :
    Calls Tryz.prog 102 #[.slice A l.length c,.func (.func 103) #[] #[]] w fun e w' => ∃ v,e = .returned (.tuple #[v,.bool true]) ∧ MapI w w' l l.length v:=by
  obtain ⟨n,hn⟩:∃ n,l.length = n:=⟨_,rfl⟩
  rw [hn] at hl ⊢
  have H:=Lib.hid h;have Hn:=Lib.hid hn;clear h hn
  go_enter Tryz.func102,Tryz.ntmps102
  go_wp2_with fail
  go_loopw [6,13] (fun v i wr => ∃ k:Nat,k ≤ n ∧ i = .int .i64 k ∧ MapI w wr l k v) (fun _ i _ => n - (intOf i).toNat)
  case atStart => exact ⟨0,Nat.zero_le _,rfl,MapI.zero w l⟩
  case round =>
    obtain ⟨k,hk,rfl,hM⟩:=hrel
    obtain ⟨Al,cl,rfl⟩:=hM.form
    by_cases hlt:k < n
    · obtain ⟨x,hx⟩:∃ x,l[k]? = some x:=⟨_,List.getElem?_eq_getElem (by rw [Hn.out];exact hlt)⟩
      have hb:=hM.b
      obtain ⟨b,o,A1,c1,A2,c2,rfl,hbl,p1,p2,r1,r2⟩:=ex_cells (H.out.below stays_ex hb) hx
      have hcl:=fun w' (q:Below wr.heap.size wr w') => clone1_any A1 c1 A2 c2 x w' (r1.below q) (r2.below q)
      unfold ExRet at hcl
      obtain ⟨n1,hn1⟩:∃ n1,x.1.length = n1:=⟨_,rfl⟩
      obtain ⟨n2,hn2⟩:∃ n2,x.2.length = n2:=⟨_,rfl⟩
      rw [hn1] at p1 hcl;rw [hn2] at p2 hcl
      have Hcl:=Lib.hid hcl;have HM:=Lib.hid hM;have Hx:=Lib.hid hx
      clear hcl hM hx r1 r2 hn1 hn2 hb
      go_wp2_with fail
      refine (Hcl.out _ ?_).mono ?_
      · (focus (repeat' (first | (with_reducible exact Below.refl _ _) | (with_reducible assumption) | (with_reducible refine Below.setCell ?_ ?_ _) | (with_reducible refine Below.alloc ?_ ?_ _) | (with_reducible refine below_drewN ?_ _) | (with_reducible refine Below.drew ?_) | (with_reducible exact Nat.le_refl _) | omega | (simp;done) | (simp;omega))))
      rintro e w3 ⟨B1,d1,B2,d2,rfl,ho,hb3⟩
      have hb3':Below wr.heap.size wr w3:=((Below.refl _ wr).alloc (Nat.le_refl _) _).trans (hb3.mono (by first | omega | (simp;done) | (simp;omega)))
      have hM3:=(HM.out.below hb3').below ((Below.refl _ _).alloc (Nat.le_refl _) (.cells #[.slice B1 n1 d1,.slice B2 n2 d2] 107))
      have ho3:=(ho.base (base':=w.heap.size) (by have:=HM.out.b.size;first | omega | (simp;done) | (simp;omega))).below ((Below.refl _ _).alloc (Nat.le_refl _) (.cells #[.slice B1 n1 d1,.slice B2 n2 d2] 107))
      have HM3:=Lib.hid hM3;have Ho3:=Lib.hid ho3;clear hM3 ho3 ho hb3 hb3' p1 p2
      obtain ⟨rows,h1,h2,h3,h4,h5⟩:=HM3.out
      have R1:=Lib.hid h1;have R2:=Lib.hid h2;have R3:=Lib.hid h3;have R4:=Lib.hid h4;have R5:=Lib.hid h5;clear h1 h2 h3 h4 h5
      have hsz9:=Lib.hid (show (w3.alloc (.cells #[.slice B1 n1 d1,.slice B2 n2 d2] 107)).heap.size = w3.heap.size + 1 by simp)
      go_wp2_with (at_builtin;refine wpList_push et_exs _ rfl (.tmp 25) (.tmp 27) rfl w.heap.size (.slice Al k cl) k _ rfl R1.out [.slice B1 n1 d1,.slice B2 n2 d2] (congrArg (fun b:Nat => Value.slice (some ⟨b,0,none⟩) 1 1) hsz9.out.symm) rfl (by simp [Value.oneCell']) (by omega) (by unfold maxLen;omega) R5.out.size ?_)
      intro g6 c6 w6 ho6 hb6 hg6
      have hM6:=MapI.push R1.out R2.out R3.out R4.out R5.out Hx.out Ho3.out ho6 hb6 hg6
      have HM6:=Lib.hid hM6
      clear ho6 hb6 hg6 hM6
      go_wp2_with fail
      go_roundw
      case rel => exact ⟨k + 1,by omega,by go_num,HM6.out⟩
      case measure => simp [intOf];omega
    · obtain rfl:n = k:=by omega
      have HM:=Lib.hid hM;clear hM
      go_wp2_with fail
      go_ret2
      exact ⟨_,rfl,HM.out⟩
theorem dclone_anyT (A:Option Addr) (l:List Ex) (c:Nat) (w:World) (h:SlRd rEx 2 w A l) (hl:l.length ≤ 1048576) :
    Calls Tryz.prog 48 #[.slice A l.length c] w fun e w' => ∃ A' c',e = .returned (.slice A' l.length c') ∧ SlRd rEx 2 (topW w.heap.size w') A' l ∧ Below w.heap.size w w':=by
  have hm:=mapex_any A l c w h hl
  obtain ⟨n,hn⟩:∃ n,l.length = n:=⟨_,rfl⟩
  rw [hn] at hm ⊢
  have Hm:=Lib.hid hm;have Hn:=Lib.hid hn;clear hm hn h
  go_enter Tryz.func48,Tryz.ntmps48
  go_wp2_with fail
  refine Hm.out.mono ?_
  rintro e w1 ⟨v,rfl,hM⟩
  obtain ⟨A',c',rfl⟩:=hM.form
  have HM:=Lib.hid hM;clear hM
  go_wp2
  go_ret
  exact ⟨_,_,rfl,HM.out.doneT Hn.out,HM.out.b⟩
def pickL (l:List Ex) (idx:List Int):List Ex:=idx.map fun i => l.getD i.toNat ([],[])
theorem pickL_len (l:List Ex) (idx:List Int):(pickL l idx).length = idx.length:=by simp [pickL]
theorem pickL_at (l:List Ex) (idx:List Int) {k:Nat} (h:k < idx.length):(pickL l idx)[k]? = some (l.getD (nth idx k).toNat ([],[])):=by simp [pickL,nth_eq _ _ h,h]
set_option maxRecDepth 100000 in
theorem pick1_bad (P n c:Nat) (A:Option Addr) (i:Int) (w:World) (hP:w.heap[P]? = some (.cells #[.slice A n c] 25 (0,0))) (hi:i < 0 ∨ (n:Int) ≤ i) :
    Calls Tryz.prog 174 #[.int .i64 i,.pointer (some ⟨P,0,none⟩)] w fun e w' => e = .returned (.tuple #[.agg #[.slice none 0 0,.slice none 0 0],.bool false]) ∧ Below w.heap.size w w':=by
  obtain ⟨p0,pf⟩:=bx1 hP
  have hPl:=lt_of_block hP
  clear hP
  rcases Int.lt_or_le i 0 with h0 | h0
  · have h0':i < 0:=h0
    clear hi
    go_enter Tryz.func174,Tryz.ntmps174
    go_wp2_with fail
    have e3:=heap_alloc_new w (.cells #[.slice none 0 0,.slice none 0 0] 107)
    obtain ⟨W9,hW9⟩:∃ W9,W9 = w.alloc (.cells #[.slice none 0 0,.slice none 0 0] 107):=⟨_,rfl⟩
    have hb:Below w.heap.size w W9:=by rw [hW9];exact (Below.refl _ _).alloc (Nat.le_refl _) _
    rw [← hW9] at e3 ⊢
    obtain ⟨⟨x0,x1⟩,xf⟩:=bx2 e3
    exact bodyPost_ret (v:=.tuple #[.agg #[.slice none 0 0,.slice none 0 0],.bool false]) (by simp [results,Tryz.results174,go_sem,x0,x1]) rfl ⟨rfl,hb⟩
  · have h1:(n:Int) ≤ i:=by omega
    have h2:¬ i < 0:=by omega
    clear hi
    go_enter Tryz.func174,Tryz.ntmps174
    go_wp2_with fail
    have e3:=heap_alloc_new w (.cells #[.slice none 0 0,.slice none 0 0] 107)
    obtain ⟨W9,hW9⟩:∃ W9,W9 = w.alloc (.cells #[.slice none 0 0,.slice none 0 0] 107):=⟨_,rfl⟩
    have hb:Below w.heap.size w W9:=by rw [hW9];exact (Below.refl _ _).alloc (Nat.le_refl _) _
    rw [← hW9] at e3 ⊢
    obtain ⟨⟨x0,x1⟩,xf⟩:=bx2 e3
    exact bodyPost_ret (v:=.tuple #[.agg #[.slice none 0 0,.slice none 0 0],.bool false]) (by simp [results,Tryz.results174,go_sem,x0,x1]) rfl ⟨rfl,hb⟩
set_option maxRecDepth 100000 in
theorem pick1_good (P c j:Nat) (A:Option Addr) (l:List Ex) (x:Ex) (w:World) (hP:w.heap[P]? = some (.cells #[.slice A l.length c] 25 (0,0))) (h:SlRd rEx 2 w A l) (hx:l[j]? = some x) :
    Calls Tryz.prog 174 #[.int .i64 j,.pointer (some ⟨P,0,none⟩)] w (ExRet w x):=by
  have hj:=(List.getElem?_eq_some_iff.1 hx).1
  obtain ⟨b,o,A1,c1,A2,c2,rfl,hbl,p1,p2,r1,r2⟩:=ex_cells h hx
  have hco:=fun n m (hn:x.1.length = n) (hm:x.2.length = m) w' (k:Below w.heap.size w w') => copied_nm n m A1 c1 A2 c2 x w' hn hm (r1.below k) (r2.below k)
  unfold ExRet
  obtain ⟨n,hn⟩:∃ n,x.1.length = n:=⟨_,rfl⟩
  obtain ⟨m,hm⟩:∃ m,x.2.length = m:=⟨_,rfl⟩
  have hco:=hco n m hn hm
  rw [hn] at p1;rw [hm] at p2
  rw [hn,hm]
  obtain ⟨N,hN⟩:∃ N,l.length = N:=⟨_,rfl⟩
  rw [hN] at hP hj
  obtain ⟨p0,pf⟩:=bx1 hP
  have hPl:=lt_of_block hP
  have hji:(j:Int) < N:=by omega
  have hj0:¬ ((j:Int) < 0):=by omega
  have hj1:¬ ((N:Int) ≤ j):=by omega
  have Hco:=Lib.hid hco;clear hco hn hm r1 r2 hx h hN hP
  go_enter Tryz.func174,Tryz.ntmps174
  go_wp2_with fail
  refine (Hco.out _ ?_).mono ?_
  · (focus (repeat' (first | (with_reducible exact Below.refl _ _) | (with_reducible assumption) | (with_reducible refine Below.setCell ?_ ?_ _) | (with_reducible refine Below.alloc ?_ ?_ _) | (with_reducible refine below_drewN ?_ _) | (with_reducible refine Below.drew ?_) | (with_reducible exact Nat.le_refl _) | omega | (simp;done) | (simp;omega))))
  rintro e w1 ⟨B1,d1,B2,d2,rfl,ho,hb1⟩
  have hz:w1.heap[w.heap.size]? = some (.cells #[.slice none 0 0,.slice none 0 0] 107 (0,0)):=(hb1.block w.heap.size (by simp)).trans (heap_alloc_new w _)
  have hB1:Below w.heap.size w w1:=((Below.refl _ w).alloc (Nat.le_refl _) _).trans (hb1.mono (by first | omega | (simp;done) | (simp;omega)))
  have ho1:=ho.base (base':=w.heap.size) (by first | omega | (simp;done) | (simp;omega))
  have lz:=lt_of_block hz
  obtain ⟨⟨z0,z1⟩,zf⟩:=bx2 hz
  have Hz:=Lib.hid hz;have HB1:=Lib.hid hB1;have Ho1:=Lib.hid ho1;clear hz hB1 ho1 hb1 ho p0 pf p1 p2
  go_wp2_with fail
  have e1:=heap_setCell_same w1 w.heap.size 0 _ _ (.slice B1 n d1) Hz.out
  have e2:=heap_setCell_same _ w.heap.size 1 _ _ (.slice B2 m d2) e1
  have e3:((w1.setCell ⟨w.heap.size,0,none⟩ (.slice B1 n d1)).setCell ⟨w.heap.size,1,none⟩ (.slice B2 m d2)).heap[w.heap.size]? = some (.cells #[.slice B1 n d1,.slice B2 m d2] 107 (0,0)):=by simpa using e2
  have hk:Keep (fun j => j = w.heap.size) w1 ((w1.setCell ⟨w.heap.size,0,none⟩ (.slice B1 n d1)).setCell ⟨w.heap.size,1,none⟩ (.slice B2 m d2)):=Keep.setCell (S:=fun j => j = w.heap.size) (Keep.setCell (S:=fun j => j = w.heap.size) (Keep.refl _ _) ⟨w.heap.size,0,none⟩ (.inr rfl) _) ⟨w.heap.size,1,none⟩ (.inr rfl) _
  obtain ⟨W9,hW9⟩:∃ W9,W9 = (w1.setCell ⟨w.heap.size,0,none⟩ (.slice B1 n d1)).setCell ⟨w.heap.size,1,none⟩ (.slice B2 m d2):=⟨_,rfl⟩
  rw [← hW9] at e3 hk ⊢
  obtain ⟨⟨x0,x1⟩,xf⟩:=bx2 e3
  have ho9:ExOwn W9 w.heap.size [.slice B1 n d1,.slice B2 m d2] x:=by
    obtain ⟨u,v,e,k1,k2,k3⟩:=Ho1.out
    exact ⟨u,v,e,hk.own k1 (fun j hj e => block_notrow Hz.out (by decide) k1 (by rw [hj,e])),hk.own k2 (fun j hj e => block_notrow Hz.out (by decide) k2 (by rw [hj,e])),k3⟩
  exact bodyPost_ret (v:=.tuple #[.agg #[.slice B1 n d1,.slice B2 m d2],.bool true]) (by simp [results,Tryz.results174,go_sem,x0,x1]) rfl ⟨B1,d1,B2,d2,rfl,ho9,HB1.out.trans (hk.toBelow HB1.out.size (fun j hj => by omega))⟩
end Go.Proofs.YtaccfnffmbndhaaGreat
namespace Go.Proofs.YtaccfnffmbndhaaGreat
open Go.RowKit
def goodI (n:Nat) (i:Int):Prop:=0 ≤ i ∧ i < n
instance (n:Nat) (i:Int):Decidable (goodI n i):=by unfold goodI;exact inferInstance
def PickIs (l:List Ex) (idx:List Int) (w:World) (e:Ending) (w':World):Prop:=Below w.heap.size w w' ∧
  (((∀ k,k < idx.length → goodI l.length (nth idx k)) ∧ ∃ v,e = .returned (.tuple #[v,.bool true]) ∧ MapI w w' (pickL l idx) idx.length v) ∨ ((¬ ∀ k,k < idx.length → goodI l.length (nth idx k)) ∧ e = .returned (.tuple #[.slice none 0 0,.bool false])))
set_option maxRecDepth 100000 in
set_option maxHeartbeats 1600000 in
theorem mapint_any (P c d:Nat) (A B:Option Addr) (l:List Ex) (idx:List Int) (w:World) (hP:w.heap[P]? = some (.cells #[.slice A l.length c] 25 (0,0))) (h:SlRd rEx 2 w A l) (hl:l.length ≤ 1048576) (hB:Rd w B (nums .i64 idx)) (hi:idx.length ≤ 1048576) :
    Calls Tryz.prog 173 #[.slice B idx.length d,.func (.func 174) #[] #[.pointer (some ⟨P,0,none⟩)]] w (PickIs l idx w):=by
  obtain ⟨n,hn⟩:∃ n,idx.length = n:=⟨_,rfl⟩
  unfold PickIs
  rw [hn] at hi ⊢
  obtain ⟨N,hN⟩:∃ N,l.length = N:=⟨_,rfl⟩
  have hpl:=pickL_len l idx
  have hpa:=fun k (hk:k < idx.length) => pickL_at l idx hk
  rw [hn] at hpl hpa
  have hPb:=hP
  rw [hN] at hl hP ⊢
  have H:=Lib.hid h;have Hn:=Lib.hid hn;have HN:=Lib.hid hN;have HB:=Lib.hid hB;have HP:=Lib.hid hP;have HPb:=Lib.hid hPb;have Hpl:=Lib.hid hpl;have Hpa:=Lib.hid hpa;clear h hn hN hB hP hPb hpl hpa
  go_enter Tryz.func173,Tryz.ntmps173
  go_wp2_with fail
  go_loopw [6,13] (fun v i wr => ∃ k:Nat,k ≤ n ∧ i = .int .i64 k ∧ MapI w wr (pickL l idx) k v ∧ Hid (∀ j,j < k → goodI N (nth idx j))) (fun _ i _ => n - (intOf i).toNat)
  case atStart => exact ⟨0,Nat.zero_le _,rfl,MapI.zero w _,Lib.hid fun j hj => by omega⟩
  case round =>
    obtain ⟨k,hk,rfl,hM,Hall⟩:=hrel
    obtain ⟨Al,cl,rfl⟩:=hM.form
    by_cases hlt:k < n
    · have hb:=hM.b
      obtain ⟨b,o,rfl,p⟩:=(HB.out.below hb).num (show k < idx.length by rw [Hn.out];exact hlt)
      obtain ⟨i,hi'⟩:∃ i,nth idx k = i:=⟨_,rfl⟩
      rw [hi'] at p
      have hPw:=(hb.block P (lt_of_block HP.out)).trans HP.out
      by_cases hg:goodI N i
      · obtain ⟨j,rfl⟩:∃ j:Nat,i = (j:Int):=⟨i.toNat,by have:=hg.1;omega⟩
        have hjN:j < N:=by have:=hg.2;omega
        have hpk:=Hpa.out k hlt
        rw [hi',Int.toNat_natCast] at hpk
        have hjl:j < l.length:=by rw [HN.out];exact hjN
        obtain ⟨x,hx⟩:∃ x,l[j]? = some x:=⟨_,List.getElem?_eq_getElem hjl⟩
        have hxd:l.getD j ([],[]) = x:=by simp [hx]
        rw [hxd] at hpk
        have hcl:=pick1_good P c j A l x wr (by rw [HN.out];exact hPw) (H.out.below stays_ex hb) hx
        unfold ExRet at hcl
        obtain ⟨n1,hn1⟩:∃ n1,x.1.length = n1:=⟨_,rfl⟩
        obtain ⟨n2,hn2⟩:∃ n2,x.2.length = n2:=⟨_,rfl⟩
        rw [hn1,hn2] at hcl
        have Hcl:=Lib.hid hcl;have HM:=Lib.hid hM;have Hx:=Lib.hid hpk;have Hg:=Lib.hid hg;have Hi:=Lib.hid hi'
        clear hcl hM hx hn1 hn2 hb hg hi' hpk hxd hPw hjl
        go_wp2_with fail
        refine Hcl.out.mono ?_
        rintro e w3 ⟨B1,d1,B2,d2,rfl,ho,hb3⟩
        have hM3:=(HM.out.below hb3).below ((Below.refl _ _).alloc (Nat.le_refl _) (.cells #[.slice B1 n1 d1,.slice B2 n2 d2] 107))
        have ho3:=(ho.base (base':=w.heap.size) HM.out.b.size).below ((Below.refl _ _).alloc (Nat.le_refl _) (.cells #[.slice B1 n1 d1,.slice B2 n2 d2] 107))
        have HM3:=Lib.hid hM3;have Ho3:=Lib.hid ho3;clear hM3 ho3 ho hb3 p
        obtain ⟨rows,h1,h2,h3,h4,h5⟩:=HM3.out
        have R1:=Lib.hid h1;have R2:=Lib.hid h2;have R3:=Lib.hid h3;have R4:=Lib.hid h4;have R5:=Lib.hid h5;clear h1 h2 h3 h4 h5
        have hsz9:=Lib.hid (show (w3.alloc (.cells #[.slice B1 n1 d1,.slice B2 n2 d2] 107)).heap.size = w3.heap.size + 1 by simp)
        go_wp2_with (at_builtin;refine wpList_push et_exs _ rfl (.tmp 25) (.tmp 27) rfl w.heap.size (.slice Al k cl) k _ rfl R1.out [.slice B1 n1 d1,.slice B2 n2 d2] (congrArg (fun b:Nat => Value.slice (some ⟨b,0,none⟩) 1 1) hsz9.out.symm) rfl (by simp [Value.oneCell']) (by omega) (by unfold maxLen;omega) R5.out.size ?_)
        intro g6 c6 w6 ho6 hb6 hg6
        have hM6:=MapI.push R1.out R2.out R3.out R4.out R5.out Hx.out Ho3.out ho6 hb6 hg6
        have HM6:=Lib.hid hM6
        clear ho6 hb6 hg6 hM6
        go_wp2_with fail
        go_roundw
        case rel => exact ⟨k + 1,by omega,by go_num,HM6.out,Lib.hid (p:=∀ j,j < k + 1 → goodI N (nth idx j)) fun t ht => by
          rcases Nat.lt_or_ge t k with h | h
          · exact Hall.out t h
          · obtain rfl:t = k:=by omega
            rw [Hi.out];exact Hg.out⟩
        case measure => simp [intOf];omega
      · have hg':i < 0 ∨ (N:Int) ≤ i:=by unfold goodI at hg;omega
        have hcl:=pick1_bad P N c A i wr hPw hg'
        have Hcl:=Lib.hid hcl;have HM:=Lib.hid hM;have Hg:=Lib.hid hg;have Hi:=Lib.hid hi'
        clear hcl hM hb hg hg' hi' hPw
        go_wp2_with fail
        refine Hcl.out.mono ?_
        rintro e w3 ⟨rfl,hb3⟩
        have HB3:=Lib.hid (HM.out.b.trans (hb3.mono HM.out.b.size));clear hb3 p
        go_wp2_with fail
        go_ret2
        exact ⟨HB3.out.alloc HB3.out.size _,.inr ⟨fun h => Hg.out (by have:=h k hlt;rwa [Hi.out] at this),rfl⟩⟩
    · obtain rfl:n = k:=by omega
      have HM:=Lib.hid hM;clear hM
      go_wp2_with fail
      go_ret2
      exact ⟨HM.out.b,.inl ⟨Hall.out,_,rfl,HM.out⟩⟩
def fitEx (a b:Nat) (x:Ex):Prop:=x.1.length = a ∧ x.2.length = b
instance (a b:Nat) (x:Ex):Decidable (fitEx a b x):=by unfold fitEx;exact inferInstance
theorem check1_any (P1 P2 n m a b c d:Nat) (A B:Option Addr) (w:World) (h1:w.heap[P1]? = some (.cells #[.int .i64 a] 3 (0,0))) (h2:w.heap[P2]? = some (.cells #[.int .i64 b] 3 (0,0))) :
    Calls Tryz.prog 134 #[.agg #[.slice A n c,.slice B m d],.pointer (some ⟨P1,0,none⟩),.pointer (some ⟨P2,0,none⟩)] w fun e w' => e = .returned (.bool (!decide (n = a ∧ m = b))) ∧ Below w.heap.size w w':=by
  obtain ⟨p0,pf⟩:=bx1 h1
  obtain ⟨q0,qf⟩:=bx1 h2
  have l1:=lt_of_block h1
  have l2:=lt_of_block h2
  clear h1 h2
  by_cases e1:n = a
  · by_cases e2:m = b
    · have hq1:((n:Int) != (a:Int)) = false:=by rw [e1];simp
      have hq2:((m:Int) != (b:Int)) = false:=by rw [e2];simp
      have hd:(!decide (n = a ∧ m = b)) = false:=by simp [e1,e2]
      rw [hd]
      clear e1 e2 hd
      go_enter Tryz.func134,Tryz.ntmps134
      go_wp2
      go_ret
      exact ⟨rfl,(Below.refl _ w).alloc (Nat.le_refl _) _⟩
    · have hq1:((n:Int) != (a:Int)) = false:=by rw [e1];simp
      have hq2:((m:Int) != (b:Int)) = true:=by rw [bne_iff_ne];omega
      have hd:(!decide (n = a ∧ m = b)) = true:=by simp [e2]
      rw [hd]
      clear e1 e2 hd
      go_enter Tryz.func134,Tryz.ntmps134
      go_wp2
      go_ret
      exact ⟨rfl,(Below.refl _ w).alloc (Nat.le_refl _) _⟩
  · have hq1:((n:Int) != (a:Int)) = true:=by rw [bne_iff_ne];omega
    have hd:(!decide (n = a ∧ m = b)) = true:=by simp [e1]
    rw [hd]
    clear e1 hd
    go_enter Tryz.func134,Tryz.ntmps134
    go_wp2
    go_ret
    exact ⟨rfl,(Below.refl _ w).alloc (Nat.le_refl _) _⟩
def ExIdxIs (l:List Ex) (a b:Nat) (w:World) (e:Ending) (w':World):Prop:=∃ d:Int,e = .returned (.int .i64 d) ∧ -1 ≤ d ∧ d ≤ 1048576 ∧ (d < 0 ↔ ∀ x ∈ l,fitEx a b x) ∧ Below w.heap.size w w'
set_option maxRecDepth 100000 in
theorem exindex_any (P1 P2 a b c:Nat) (A:Option Addr) (l:List Ex) (w:World) (h1:w.heap[P1]? = some (.cells #[.int .i64 a] 3 (0,0))) (h2:w.heap[P2]? = some (.cells #[.int .i64 b] 3 (0,0))) (h:SlRd rEx 2 w A l) (hl:l.length ≤ 1048576) :
    Calls Tryz.prog 133 #[.slice A l.length c,.func (.func 134) #[] #[.pointer (some ⟨P1,0,none⟩),.pointer (some ⟨P2,0,none⟩)]] w (ExIdxIs l a b w):=by
  unfold ExIdxIs
  have hck:=fun n m A c B d w' (k:Below w.heap.size w w') => check1_any P1 P2 n m a b c d A B w' ((k.block _ (lt_of_block h1)).trans h1) ((k.block _ (lt_of_block h2)).trans h2)
  obtain ⟨n,hn⟩:∃ n,l.length = n:=⟨_,rfl⟩
  rw [hn] at hl ⊢
  have H:=Lib.hid h;have Hn:=Lib.hid hn;have Hck:=Lib.hid hck;clear h hn hck h1 h2
  go_enter Tryz.func133,Tryz.ntmps133
  go_wp2_with fail
  go_loopw [5,8] (fun _ i wr => ∃ k:Nat,k ≤ n ∧ i = .int .i64 k ∧ Hid (∀ j x,j < k → l[j]? = some x → fitEx a b x) ∧ Below w.heap.size w wr) (fun _ i _ => n - (intOf i).toNat)
  case atStart => exact ⟨0,Nat.zero_le _,rfl,Lib.hid fun j x hj => by omega,Below.refl _ _⟩
  case round =>
    obtain ⟨k,hk,rfl,Hall,hb⟩:=hrel
    by_cases hlt:k < n
    · obtain ⟨x,hx⟩:∃ x,l[k]? = some x:=⟨_,List.getElem?_eq_getElem (by rw [Hn.out];exact hlt)⟩
      obtain ⟨b',o,A1,c1,A2,c2,rfl,hbl,p1,p2,r1,r2⟩:=ex_cells (H.out.below stays_ex hb) hx
      have hc:=Hck.out x.1.length x.2.length A1 c1 A2 c2 wr hb
      by_cases hf:fitEx a b x
      · have hd:(!decide (x.1.length = a ∧ x.2.length = b)) = false:=by
          have:=hf;unfold fitEx at this;simp [this.1,this.2]
        rw [hd] at hc
        have Hc:=Lib.hid hc;have Hx:=Lib.hid hx;have Hf:=Lib.hid hf;have Hb:=Lib.hid hb
        clear hc hx hf hd r1 r2 hb
        go_wp2_with fail
        refine Hc.out.mono ?_
        rintro e w1 ⟨rfl,hb1⟩
        have HB1:=Lib.hid (Hb.out.trans (hb1.mono Hb.out.size));clear hb1 p1 p2
        go_wp2_with fail
        go_roundw
        case rel => exact ⟨k + 1,by omega,by go_num,Lib.hid (p:=∀ j x,j < k + 1 → l[j]? = some x → fitEx a b x) fun j y hj hy => by
          rcases Nat.lt_or_ge j k with h | h
          · exact Hall.out j y h hy
          · obtain rfl:j = k:=by omega
            have:=Hx.out;rw [hy] at this;injection this with this;rw [this];exact Hf.out,HB1.out⟩
        case measure => simp [intOf];omega
      · have hd:(!decide (x.1.length = a ∧ x.2.length = b)) = true:=by
          have:=hf;unfold fitEx at this;simp only [Bool.not_eq_true',decide_eq_false_iff_not];exact this
        rw [hd] at hc
        have Hc:=Lib.hid hc;have Hx:=Lib.hid hx;have Hf:=Lib.hid hf;have Hb:=Lib.hid hb
        clear hc hx hf hd r1 r2 hb
        go_wp2_with fail
        refine Hc.out.mono ?_
        rintro e w1 ⟨rfl,hb1⟩
        have HB1:=Lib.hid (Hb.out.trans (hb1.mono Hb.out.size));clear hb1 p1 p2
        go_wp2_with fail
        go_ret
        exact ⟨k,rfl,by omega,by omega,⟨fun h => by omega,fun h => absurd (h x (List.mem_of_getElem? Hx.out)) Hf.out⟩,HB1.out⟩
    · obtain rfl:n = k:=by omega
      have Hb:=Lib.hid hb;clear hb
      go_wp2_with fail
      go_ret
      refine ⟨-1,rfl,by omega,by omega,⟨fun _ x hx => ?_,fun _ => by omega⟩,Hb.out⟩
      obtain ⟨j,hj⟩:=List.getElem?_of_mem hx
      exact Hall.out j x (by have:=(List.getElem?_eq_some_iff.1 hj).1;have:=Hn.out;omega) hj
def DChkIs (l:List Ex) (a b:Nat) (w:World) (e:Ending) (w':World):Prop:=Below w.heap.size w w' ∧ ∃ d:Int,((∀ x ∈ l,fitEx a b x) ∧ e = .returned (.tuple #[.int .i64 d,.bool true])) ∨ ((¬ ∀ x ∈ l,fitEx a b x) ∧ e = .returned (.tuple #[.int .i64 d,.bool false]))
set_option maxRecDepth 100000 in
theorem dcheck_any (a b c:Nat) (A:Option Addr) (l:List Ex) (w:World) (h:SlRd rEx 2 w A l) (hl:l.length ≤ 1048576) :
    Calls Tryz.prog 89 #[.slice A l.length c,.int .i64 a,.int .i64 b] w (DChkIs l a b w):=by
  have hW:∀ (o1 o2:Obj),Below w.heap.size w ((w.alloc o1).alloc o2):=fun o1 o2 => ((Below.refl _ w).alloc (Nat.le_refl _) _).alloc (by simp) _
  have hi:=exindex_any w.heap.size (w.heap.size + 1) a b c A l ((w.alloc (.cells #[.int .i64 a] 3)).alloc (.cells #[.int .i64 b] 3)) ((Below.heap_alloc _ _ _ (by simp)).trans (heap_alloc_new w _))
    (by have:=heap_alloc_new (w.alloc (.cells #[.int .i64 a] 3)) (.cells #[.int .i64 b] 3);rwa [show (w.alloc (.cells #[.int .i64 a] 3)).heap.size = w.heap.size + 1 by simp] at this) (h.below stays_ex (hW _ _)) hl
  obtain ⟨n,hn⟩:∃ n,l.length = n:=⟨_,rfl⟩
  unfold ExIdxIs at hi
  unfold DChkIs
  rw [hn] at hi ⊢
  have Hi:=Lib.hid hi;have HW:=Lib.hid hW;clear hi hW h hn
  go_enter Tryz.func89,Tryz.ntmps89
  go_wp2_with fail
  refine Hi.out.mono ?_
  rintro e w1 ⟨d,rfl,hd1,hd2,hiff,hb⟩
  have HB:=Lib.hid ((HW.out (.cells #[.int .i64 a] 3) (.cells #[.int .i64 b] 3)).trans (hb.mono (by simp;omega)));have Hiff:=Lib.hid hiff;clear hb hiff
  by_cases h0:d < 0
  · have hq:decide (d < 0) = true:=by simp;omega
    go_wp2_with fail
    all_goals
      go_ret2
      exact ⟨HB.out,_,.inl ⟨Hiff.out.1 h0,rfl⟩⟩
  · have hq:decide (d < 0) = false:=by simp;omega
    go_wp2_with fail
    all_goals
      go_ret2
      exact ⟨HB.out,_,.inr ⟨fun h => by have:=Hiff.out.2 h;omega,rfl⟩⟩
end Go.Proofs.YtaccfnffmbndhaaGreat
namespace Go.Proofs.YtaccfnffmbndhaaGreat
open Go.RowKit
def swp (p:List Int) (i j:Nat):List Int:=(p.set i (nth p j)).set j (nth p i)
theorem swp_len (p:List Int) (i j:Nat):(swp p i j).length = p.length:=by simp [swp]
theorem swp_nth {p:List Int} {i j:Nat} (hi:i < p.length) (hj:j < p.length) (k:Nat):nth (swp p i j) k = if k = j then nth p i else if k = i then nth p j else nth p k:=by
  unfold swp
  rw [nth_set,nth_set,List.length_set]
  simp only [hi,hj,and_true]
theorem swp_comm {p:List Int} {i j:Nat} (hi:i < p.length) (hj:j < p.length):(p.set j (nth p i)).set i (nth p j) = swp p i j:=by
  refine ext_nth (by simp [swp]) fun k hk => ?_
  rw [swp_nth hi hj,nth_set,nth_set,List.length_set]
  simp only [hi,hj,and_true]
  by_cases h1:k = i
  · subst h1
    by_cases h2:k = j
    · subst h2;simp
    · simp [h2]
  · simp [h1]
def iota (n:Nat):List Int:=upTo n fun k => (k:Int)
theorem iota_len (n:Nat):(iota n).length = n:=upTo_len _ _
def shufN (n:Nat) (d:Nat → Nat):Nat → List Int
  | 0 => iota n
  | k + 1 => swp (shufN n d k) (n - 1 - k) (d k)
theorem shufN_len (n:Nat) (d:Nat → Nat) (k:Nat):(shufN n d k).length = n:=by
  induction k with
  | zero => exact iota_len n
  | succ k ih => rw [shufN,swp_len,ih]
theorem shufN_bd {n:Nat} {d:Nat → Nat} (k:Nat) (hd:∀ j,j < k → d j < n - j) (hk:k ≤ n - 1):∀ i,i < n → 0 ≤ nth (shufN n d k) i ∧ nth (shufN n d k) i < n:=by
  induction k with
  | zero => intro i hi;unfold shufN iota;rw [upTo_nth _ hi];omega
  | succ k ih =>
    have ih:=ih (fun j hj => hd j (by omega)) (by omega)
    have h1:=hd k (by omega)
    intro i hi
    rw [shufN,swp_nth (by rw [shufN_len];omega) (by rw [shufN_len];omega)]
    split
    · exact ih _ (by omega)
    · split
      · exact ih _ (by omega)
      · exact ih _ hi
def drawN (l:List Int) (n i k:Nat):Nat:=(nth l (i + k) % ((n - k:Nat):Int)).toNat
theorem drawN_lt (l:List Int) {n i k:Nat} (h:k < n):drawN l n i k < n - k:=by
  unfold drawN
  have h1:=Int.emod_nonneg (nth l (i + k)) (show ((n - k:Nat):Int) ≠ 0 by omega)
  have h2:=Int.emod_lt_of_pos (nth l (i + k)) (show (0:Int) < ((n - k:Nat):Int) by omega)
  omega
theorem drawN_int (l:List Int) {n i k:Nat} (h:k < n):(drawN l n i k:Int) = nth l (i + k) % ((n - k:Nat):Int):=by
  unfold drawN
  have h1:=Int.emod_nonneg (nth l (i + k)) (show ((n - k:Nat):Int) ≠ 0 by omega)
  omega
def permN (l:List Int) (n i:Nat):List Int:=shufN n (drawN l n i) (n - 1)
theorem permN_len (l:List Int) (n i:Nat):(permN l n i).length = n:=shufN_len _ _ _
theorem permN_bd (l:List Int) (n i:Nat):∀ k,k < n → 0 ≤ nth (permN l n i) k ∧ nth (permN l n i) k < n:=shufN_bd _ (fun j hj => drawN_lt l (by omega)) (Nat.le_refl _)
def ordersN (l:List Int) (n e:Nat):List (List Int):=(List.range e).map fun k => permN l n (k * (n - 1))
theorem ordersN_len (l:List Int) (n e:Nat):(ordersN l n e).length = e:=by simp [ordersN]
theorem ordersN_at (l:List Int) (n:Nat) {e k:Nat} (h:k < e):(ordersN l n e)[k]? = some (permN l n (k * (n - 1))):=by simp [ordersN,h]
end Go.Proofs.YtaccfnffmbndhaaGreat
