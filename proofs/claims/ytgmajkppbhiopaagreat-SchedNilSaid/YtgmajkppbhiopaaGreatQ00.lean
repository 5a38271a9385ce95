/- Short names. No condition. -/
import Derived.WalkKit
import Derived.Lib.Hide
import Derived.Deep.Draws
import Derived.Deep.AppendLies
import Derived.Maps.AppendAt
import Derived.WalkSmall
namespace Go.Proofs.YtgmajkppbhiopaaGreat
open Go.RowKit
def an (p:Prop):Prop:=p
theorem an.o {p:Prop} (h:an p):p:=h
theorem an.out {p:Prop} (h:an p):p:=h
theorem ap {p:Prop} (h:p:=by omega):p:=h
abbrev aq (a b:World):Prop:=Below a.heap.size a b
abbrev ar (b o:Nat):Addr:=⟨b,o,none⟩
abbrev au (b:Nat):Value:=.pointer (some ⟨b,0,none⟩)
theorem aa {p:Prop} (h:p):an p:=h
theorem am {B:Nat} {w w':World} (h:Below B w w':=by (repeat' (first | (with_reducible exact Below.refl _ _) | (with_reducible assumption) | (with_reducible refine Below.setCell ?_ ?_ _) | (with_reducible refine Below.alloc ?_ ?_ _) | (with_reducible refine below_drewN ?_ _) | (with_reducible refine Below.drew ?_) | (with_reducible exact Nat.le_refl _) | omega | (simp;done) | (simp;omega)))):Below B w w':=h
theorem ae {p0 p1:Prop} (h0:p0) (h1:p1):an p0∧an p1:=⟨h0,h1⟩
theorem af {p0 p1 p2:Prop} (h0:p0) (h1:p1) (h2:p2):an p0∧an p1∧an p2:=⟨h0,h1,h2⟩
theorem ag {p0 p1 p2 p3:Prop} (h0:p0) (h1:p1) (h2:p2) (h3:p3):an p0∧an p1∧an p2∧an p3:=⟨h0,h1,h2,h3⟩
theorem ah {p0 p1 p2 p3 p4:Prop} (h0:p0) (h1:p1) (h2:p2) (h3:p3) (h4:p4):an p0∧an p1∧an p2∧an p3∧an p4:=⟨h0,h1,h2,h3,h4⟩
theorem ai {p0 p1 p2 p3 p4 p5:Prop} (h0:p0) (h1:p1) (h2:p2) (h3:p3) (h4:p4) (h5:p5):an p0∧an p1∧an p2∧an p3∧an p4∧an p5:=⟨h0,h1,h2,h3,h4,h5⟩
theorem aj {p0 p1 p2 p3 p4 p5 p6:Prop} (h0:p0) (h1:p1) (h2:p2) (h3:p3) (h4:p4) (h5:p5) (h6:p6):an p0∧an p1∧an p2∧an p3∧an p4∧an p5∧an p6:=⟨h0,h1,h2,h3,h4,h5,h6⟩
theorem ak {p0 p1 p2 p3 p4 p5 p6 p7:Prop} (h0:p0) (h1:p1) (h2:p2) (h3:p3) (h4:p4) (h5:p5) (h6:p6) (h7:p7):an p0∧an p1∧an p2∧an p3∧an p4∧an p5∧an p6∧an p7:=⟨h0,h1,h2,h3,h4,h5,h6,h7⟩
abbrev OH (z:Int):Value:=.int .i64 z
abbrev OJ:Value:=.slice none 0 0
abbrev NE:=@lt_of_block
abbrev NF:=@Nat.le_refl
abbrev NG:=@heap_alloc_new
abbrev NH:=@cell_of_row
abbrev NI:=@Below.refl
abbrev NJ:=@Nat.zero_le
abbrev NK:=@IntWalk.i64_in
abbrev NN:=@Nat.le_trans
abbrev NQ:=@Nat.lt_of_lt_of_le
abbrev NR:=@And.intro
abbrev NS:=@frozen_of_row
abbrev NU:=@below_drewN
abbrev NV:=@World.ownsRow_nil
abbrev NW:=@Below.heap_alloc
abbrev NX:=@bodyPost_ret
abbrev NY:=@Nat.lt_or_ge
abbrev NZ:=@World.size_alloc
abbrev N0:=@List.getElem_toArray
abbrev N1:=@List.getElem_cons_succ
abbrev N2:=@List.getElem_cons_zero
abbrev N4:=@List.setIfInBounds_toArray
abbrev N5:=@List.set_cons_zero
abbrev N6:=@List.set_cons_succ
abbrev N8:=@List.getElem?_toArray
abbrev N9:=@List.getElem?_cons_succ
abbrev Oa:=@List.getElem?_cons_zero
abbrev Ob:=@List.drop_succ_cons
abbrev Oc:=@List.drop_zero
abbrev Od:=@List.length_append
abbrev Oe:=@List.getElem?_eq_some_iff
abbrev Of:=@List.getElem?_eq_getElem
abbrev Og:=@List.getElem?_append_left
abbrev Oh:=@List.getElem?_append_right
abbrev Oi:=@List.length_take
abbrev Oj:=@List.append_assoc
abbrev Ol:=@List.length_replicate
abbrev Om:=@List.length_drop
abbrev On:=@List.length_singleton
abbrev Oo:=@List.flatten_append
abbrev Oq:=@List.take_length
abbrev Ot:=@World.size_drew
abbrev Ou:=@Value.slice.injEq
abbrev Ov:=@List.mem_append
abbrev Ow:=@List.range_succ
abbrev Ox:=@Nat.succ_mul
abbrev Oy:=@Nat.add_assoc
abbrev Oz:=@Nat.zero_add
abbrev OA:=@decide_eq_true
abbrev OB:=@decide_eq_false
abbrev OC:=@decide_eq_false_iff_not
abbrev OD:=@decide_eq_true_eq
abbrev OE:=@heap_setCell_same
abbrev OF:=@Nat.mul_le_mul_right
abbrev OV:Array Value:=#[OH 0,OH 0,OH 0,OH 0,OH 0,OJ]
abbrev OU:Array Value:=#[OH 0,OH 0,OH 0,OH 0,OH 0,OH 0]
abbrev OT:Array Value:=#[.bool false,.bool false,OH 0,OH 0,OH 0,OH 0,OH 0,OH 0,OH 0]
abbrev OS:Array Value:=#[OH 0,OH 0,OH 0,.bool false,.bool false,OH 0,OH 0,OH 0,OH 0,OH 0,OH 0,OH 0]
abbrev OQ:Array Value:=#[OH 0,OH 0,OH 0,.bool false,.bool false,OH 0,OH 0,OH 0,OH 0,OH 0,OH 0,OH 0,.nilFunc]
abbrev ON:Array Value:=#[OJ,OH 0,OH 0,OH 0,OH 0,OH 0,OH 0,OH 0,OH 0,OH 0,OH 0,OH 0,OJ,OJ,OJ,OH 0,OJ,OJ,OJ,OJ,OJ,OH 0]
abbrev OK:Array Value:=#[.nilFunc,.func (.func 224) #[] #[],.func (.func 225) #[] #[],.func (.func 226) #[] #[],.func (.func 227) #[] #[],.func (.func 228) #[] #[],.func (.func 229) #[] #[]]
abbrev N_:=Option Addr
abbrev Qa:=List Int
abbrev Qb:=Array Value
abbrev Qc:=List Value
abbrev Qd:=World
abbrev Qf:=TypeId
abbrev Qg:=List (List Int×List Int)
abbrev Qh:=Array Oper
abbrev Qi:=Act
abbrev Qj:=TypeId
abbrev Qk:=Array Oper
abbrev Ql:=Act
end Go.Proofs.YtgmajkppbhiopaaGreat
