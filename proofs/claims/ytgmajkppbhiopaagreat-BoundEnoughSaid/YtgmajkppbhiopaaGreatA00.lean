/- Short names. No condition. -/
import Derived.WalkKit
import Derived.Lib.Hide
import Derived.Deep.Draws
import Derived.Deep.AppendLies
import Derived.Maps.AppendAt
import Derived.WalkSmall
namespace Go.Proofs.YtgmajkppbhiopaaGreat
open Go.RowKit
theorem aa {p:Prop} (h:p):Hid p:=h
theorem ak {B:Nat} {w w':World} (h:Below B w w':=by (repeat' (first | (with_reducible exact Below.refl _ _) | (with_reducible assumption) | (with_reducible refine Below.setCell ?_ ?_ _) | (with_reducible refine Below.alloc ?_ ?_ _) | (with_reducible refine below_drewN ?_ _) | (with_reducible refine Below.drew ?_) | (with_reducible exact Nat.le_refl _) | omega | (simp;done) | (simp;omega)))):Below B w w':=h
theorem ab {p0 p1:Prop} (h0:p0) (h1:p1):Hid p0∧Hid p1:=⟨h0,h1⟩
theorem ae {p0 p1 p2:Prop} (h0:p0) (h1:p1) (h2:p2):Hid p0∧Hid p1∧Hid p2:=⟨h0,h1,h2⟩
theorem af {p0 p1 p2 p3:Prop} (h0:p0) (h1:p1) (h2:p2) (h3:p3):Hid p0∧Hid p1∧Hid p2∧Hid p3:=⟨h0,h1,h2,h3⟩
theorem ag {p0 p1 p2 p3 p4:Prop} (h0:p0) (h1:p1) (h2:p2) (h3:p3) (h4:p4):Hid p0∧Hid p1∧Hid p2∧Hid p3∧Hid p4:=⟨h0,h1,h2,h3,h4⟩
theorem ah {p0 p1 p2 p3 p4 p5:Prop} (h0:p0) (h1:p1) (h2:p2) (h3:p3) (h4:p4) (h5:p5):Hid p0∧Hid p1∧Hid p2∧Hid p3∧Hid p4∧Hid p5:=⟨h0,h1,h2,h3,h4,h5⟩
theorem ai {p0 p1 p2 p3 p4 p5 p6:Prop} (h0:p0) (h1:p1) (h2:p2) (h3:p3) (h4:p4) (h5:p5) (h6:p6):Hid p0∧Hid p1∧Hid p2∧Hid p3∧Hid p4∧Hid p5∧Hid p6:=⟨h0,h1,h2,h3,h4,h5,h6⟩
theorem aj {p0 p1 p2 p3 p4 p5 p6 p7:Prop} (h0:p0) (h1:p1) (h2:p2) (h3:p3) (h4:p4) (h5:p5) (h6:p6) (h7:p7):Hid p0∧Hid p1∧Hid p2∧Hid p3∧Hid p4∧Hid p5∧Hid p6∧Hid p7:=⟨h0,h1,h2,h3,h4,h5,h6,h7⟩
abbrev FQ (z:Int):Value:=.int .i64 z
abbrev FR:Value:=.slice none 0 0
abbrev EL:=@lt_of_block
abbrev EM:=@Nat.le_refl
abbrev EN:=@heap_alloc_new
abbrev EO:=@cell_of_row
abbrev EP:=@Below.refl
abbrev EQ:=@Nat.zero_le
abbrev ER:=@IntWalk.i64_in
abbrev ES:=@Nat.le_trans
abbrev ET:=@Nat.lt_of_lt_of_le
abbrev EU:=@And.intro
abbrev EV:=@frozen_of_row
abbrev EW:=@below_drewN
abbrev EZ:=@World.ownsRow_nil
abbrev E0:=@Below.heap_alloc
abbrev E7:=@bodyPost_ret
abbrev Fa:=@Nat.lt_or_ge
abbrev Fb:=@World.size_alloc
abbrev Fd:=@List.getElem_toArray
abbrev Fe:=@List.getElem_cons_succ
abbrev Ff:=@List.getElem_cons_zero
abbrev Fg:=@List.setIfInBounds_toArray
abbrev Fh:=@List.set_cons_zero
abbrev Fi:=@List.set_cons_succ
abbrev Fj:=@List.getElem?_toArray
abbrev Fk:=@List.getElem?_cons_succ
abbrev Fl:=@List.getElem?_cons_zero
abbrev Fm:=@List.drop_succ_cons
abbrev Fo:=@List.drop_zero
abbrev Fp:=@List.length_append
abbrev Fq:=@List.getElem?_eq_some_iff
abbrev Fr:=@List.getElem?_eq_getElem
abbrev Ft:=@List.getElem?_append_left
abbrev Fu:=@List.getElem?_append_right
abbrev Fv:=@List.length_take
abbrev Fw:=@List.append_assoc
abbrev Fx:=@List.length_replicate
abbrev Fy:=@List.length_drop
abbrev Fz:=@List.length_singleton
abbrev FA:=@List.flatten_append
abbrev FB:=@List.take_length
abbrev FC:=@World.size_drew
abbrev FD:=@Value.slice.injEq
abbrev FE:=@List.mem_append
abbrev FF:=@List.range_succ
abbrev FG:=@Nat.succ_mul
abbrev FH:=@Nat.add_assoc
abbrev FI:=@Nat.zero_add
abbrev FJ:=@decide_eq_true
abbrev FK:=@decide_eq_false
abbrev FL:=@decide_eq_false_iff_not
abbrev FM:=@decide_eq_true_eq
abbrev FN:=@heap_setCell_same
abbrev FO:=@Nat.mul_le_mul_right
abbrev FX:Array Value:=#[FQ 0,FQ 0,FQ 0,FQ 0,FQ 0,FR]
abbrev FW:Array Value:=#[FQ 0,FQ 0,FQ 0,FQ 0,FQ 0,FQ 0]
abbrev FV:Array Value:=#[.bool false,.bool false,FQ 0,FQ 0,FQ 0,FQ 0,FQ 0,FQ 0,FQ 0]
abbrev FU:Array Value:=#[FQ 0,FQ 0,FQ 0,.bool false,.bool false,FQ 0,FQ 0,FQ 0,FQ 0,FQ 0,FQ 0,FQ 0]
abbrev FT:Array Value:=#[FQ 0,FQ 0,FQ 0,.bool false,.bool false,FQ 0,FQ 0,FQ 0,FQ 0,FQ 0,FQ 0,FQ 0,.nilFunc]
abbrev FS:Array Value:=#[.nilFunc,.func (.func 224) #[] #[],.func (.func 225) #[] #[],.func (.func 226) #[] #[],.func (.func 227) #[] #[],.func (.func 228) #[] #[],.func (.func 229) #[] #[]]
end Go.Proofs.YtgmajkppbhiopaaGreat
