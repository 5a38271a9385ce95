/- Short names. No condition. -/
import Derived.WalkKit
import Derived.Lib.Hide
import Derived.Deep.Draws
import Derived.Deep.AppendLies
import Derived.Maps.AppendAt
import Derived.WalkSmall
namespace Go.Proofs.YtgmajkppbhiopaaGreat
open Go.RowKit
def an (p:Prop):Prop:=p
theorem an.o {p:Prop} (h:an p):p:=h
theorem an.out {p:Prop} (h:an p):p:=h
theorem ap {p:Prop} (h:p:=by omega):p:=h
abbrev aq (a b:World):Prop:=Below a.heap.size a b
abbrev ar (b o:Nat):Addr:=⟨b,o,none⟩
abbrev au (b:Nat):Value:=.pointer (some ⟨b,0,none⟩)
theorem aa {p:Prop} (h:p):an p:=h
theorem am {B:Nat} {w w':World} (h:Below B w w':=by (repeat' (first | (with_reducible exact Below.refl _ _) | (with_reducible assumption) | (with_reducible refine Below.setCell ?_ ?_ _) | (with_reducible refine Below.alloc ?_ ?_ _) | (with_reducible refine below_drewN ?_ _) | (with_reducible refine Below.drew ?_) | (with_reducible exact Nat.le_refl _) | omega | (simp;done) | (simp;omega)))):Below B w w':=h
theorem ae {p0 p1:Prop} (h0:p0) (h1:p1):an p0∧an p1:=⟨h0,h1⟩
theorem af {p0 p1 p2:Prop} (h0:p0) (h1:p1) (h2:p2):an p0∧an p1∧an p2:=⟨h0,h1,h2⟩
theorem ag {p0 p1 p2 p3:Prop} (h0:p0) (h1:p1) (h2:p2) (h3:p3):an p0∧an p1∧an p2∧an p3:=⟨h0,h1,h2,h3⟩
theorem ah {p0 p1 p2 p3 p4:Prop} (h0:p0) (h1:p1) (h2:p2) (h3:p3) (h4:p4):an p0∧an p1∧an p2∧an p3∧an p4:=⟨h0,h1,h2,h3,h4⟩
theorem ai {p0 p1 p2 p3 p4 p5:Prop} (h0:p0) (h1:p1) (h2:p2) (h3:p3) (h4:p4) (h5:p5):an p0∧an p1∧an p2∧an p3∧an p4∧an p5:=⟨h0,h1,h2,h3,h4,h5⟩
theorem aj {p0 p1 p2 p3 p4 p5 p6:Prop} (h0:p0) (h1:p1) (h2:p2) (h3:p3) (h4:p4) (h5:p5) (h6:p6):an p0∧an p1∧an p2∧an p3∧an p4∧an p5∧an p6:=⟨h0,h1,h2,h3,h4,h5,h6⟩
theorem ak {p0 p1 p2 p3 p4 p5 p6 p7:Prop} (h0:p0) (h1:p1) (h2:p2) (h3:p3) (h4:p4) (h5:p5) (h6:p6) (h7:p7):an p0∧an p1∧an p2∧an p3∧an p4∧an p5∧an p6∧an p7:=⟨h0,h1,h2,h3,h4,h5,h6,h7⟩
abbrev MO (z:Int):Value:=.int .i64 z
abbrev MP:Value:=.slice none 0 0
abbrev LN:=@lt_of_block
abbrev LO:=@Nat.le_refl
abbrev LP:=@heap_alloc_new
abbrev LQ:=@cell_of_row
abbrev LR:=@Below.refl
abbrev LS:=@Nat.zero_le
abbrev LT:=@IntWalk.i64_in
abbrev LU:=@Nat.le_trans
abbrev LV:=@Nat.lt_of_lt_of_le
abbrev LW:=@And.intro
abbrev LX:=@frozen_of_row
abbrev LY:=@below_drewN
abbrev LZ:=@World.ownsRow_nil
abbrev L0:=@Below.heap_alloc
abbrev L7:=@bodyPost_ret
abbrev Ma:=@Nat.lt_or_ge
abbrev Mb:=@World.size_alloc
abbrev Mc:=@List.getElem_toArray
abbrev Md:=@List.getElem_cons_succ
abbrev Me:=@List.getElem_cons_zero
abbrev Mf:=@List.setIfInBounds_toArray
abbrev Mg:=@List.set_cons_zero
abbrev Mh:=@List.set_cons_succ
abbrev Mi:=@List.getElem?_toArray
abbrev Mj:=@List.getElem?_cons_succ
abbrev Mk:=@List.getElem?_cons_zero
abbrev Mm:=@List.drop_succ_cons
abbrev Mn:=@List.drop_zero
abbrev Mo:=@List.length_append
abbrev Mp:=@List.getElem?_eq_some_iff
abbrev Mq:=@List.getElem?_eq_getElem
abbrev Mr:=@List.getElem?_append_left
abbrev Ms:=@List.getElem?_append_right
abbrev Mt:=@List.length_take
abbrev Mu:=@List.append_assoc
abbrev Mv:=@List.length_replicate
abbrev Mw:=@List.length_drop
abbrev Mx:=@List.length_singleton
abbrev My:=@List.flatten_append
abbrev Mz:=@List.take_length
abbrev MB:=@World.size_drew
abbrev MC:=@Value.slice.injEq
abbrev MD:=@List.mem_append
abbrev ME:=@List.range_succ
abbrev MF:=@Nat.succ_mul
abbrev MG:=@Nat.add_assoc
abbrev MH:=@Nat.zero_add
abbrev MI:=@decide_eq_true
abbrev MJ:=@decide_eq_false
abbrev MK:=@decide_eq_false_iff_not
abbrev ML:=@decide_eq_true_eq
abbrev MM:=@heap_setCell_same
abbrev MN:=@Nat.mul_le_mul_right
abbrev MW:Array Value:=#[MO 0,MO 0,MO 0,MO 0,MO 0,MP]
abbrev MV:Array Value:=#[MO 0,MO 0,MO 0,MO 0,MO 0,MO 0]
abbrev MU:Array Value:=#[.bool false,.bool false,MO 0,MO 0,MO 0,MO 0,MO 0,MO 0,MO 0]
abbrev MT:Array Value:=#[MO 0,MO 0,MO 0,.bool false,.bool false,MO 0,MO 0,MO 0,MO 0,MO 0,MO 0,MO 0]
abbrev MS:Array Value:=#[MO 0,MO 0,MO 0,.bool false,.bool false,MO 0,MO 0,MO 0,MO 0,MO 0,MO 0,MO 0,.nilFunc]
abbrev MR:Array Value:=#[MP,MO 0,MO 0,MO 0,MO 0,MO 0,MO 0,MO 0,MO 0,MO 0,MO 0,MO 0,MP,MP,MP,MO 0,MP,MP,MP,MP,MP,MO 0]
abbrev MQ:Array Value:=#[.nilFunc,.func (.func 224) #[] #[],.func (.func 225) #[] #[],.func (.func 226) #[] #[],.func (.func 227) #[] #[],.func (.func 228) #[] #[],.func (.func 229) #[] #[]]
end Go.Proofs.YtgmajkppbhiopaaGreat
