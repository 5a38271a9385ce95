/- Short names. No condition. -/
import Derived.WalkKit
import Derived.Lib.Hide
import Derived.Deep.Draws
import Derived.Deep.AppendLies
import Derived.Maps.AppendAt
import Derived.WalkSmall
namespace Go.Proofs.YtgmajkppbhiopaaGreat
open Go.RowKit
def an (p:Prop):Prop:=p
theorem an.o {p:Prop} (h:an p):p:=h
theorem an.out {p:Prop} (h:an p):p:=h
theorem ap {p:Prop} (h:p:=by omega):p:=h
abbrev aq (a b:World):Prop:=Below a.heap.size a b
abbrev ar (b o:Nat):Addr:=⟨b,o,none⟩
abbrev au (b:Nat):Value:=.pointer (some ⟨b,0,none⟩)
theorem aa {p:Prop} (h:p):an p:=h
theorem am {B:Nat} {w w':World} (h:Below B w w':=by (repeat' (first | (with_reducible exact Below.refl _ _) | (with_reducible assumption) | (with_reducible refine Below.setCell ?_ ?_ _) | (with_reducible refine Below.alloc ?_ ?_ _) | (with_reducible refine below_drewN ?_ _) | (with_reducible refine Below.drew ?_) | (with_reducible exact Nat.le_refl _) | omega | (simp;done) | (simp;omega)))):Below B w w':=h
theorem ae {p0 p1:Prop} (h0:p0) (h1:p1):an p0∧an p1:=⟨h0,h1⟩
theorem af {p0 p1 p2:Prop} (h0:p0) (h1:p1) (h2:p2):an p0∧an p1∧an p2:=⟨h0,h1,h2⟩
theorem ag {p0 p1 p2 p3:Prop} (h0:p0) (h1:p1) (h2:p2) (h3:p3):an p0∧an p1∧an p2∧an p3:=⟨h0,h1,h2,h3⟩
theorem ah {p0 p1 p2 p3 p4:Prop} (h0:p0) (h1:p1) (h2:p2) (h3:p3) (h4:p4):an p0∧an p1∧an p2∧an p3∧an p4:=⟨h0,h1,h2,h3,h4⟩
theorem ai {p0 p1 p2 p3 p4 p5:Prop} (h0:p0) (h1:p1) (h2:p2) (h3:p3) (h4:p4) (h5:p5):an p0∧an p1∧an p2∧an p3∧an p4∧an p5:=⟨h0,h1,h2,h3,h4,h5⟩
theorem aj {p0 p1 p2 p3 p4 p5 p6:Prop} (h0:p0) (h1:p1) (h2:p2) (h3:p3) (h4:p4) (h5:p5) (h6:p6):an p0∧an p1∧an p2∧an p3∧an p4∧an p5∧an p6:=⟨h0,h1,h2,h3,h4,h5,h6⟩
theorem ak {p0 p1 p2 p3 p4 p5 p6 p7:Prop} (h0:p0) (h1:p1) (h2:p2) (h3:p3) (h4:p4) (h5:p5) (h6:p6) (h7:p7):an p0∧an p1∧an p2∧an p3∧an p4∧an p5∧an p6∧an p7:=⟨h0,h1,h2,h3,h4,h5,h6,h7⟩
abbrev M8 (z:Int):Value:=.int .i64 z
abbrev M9:Value:=.slice none 0 0
abbrev Ma:=@lt_of_block
abbrev Mb:=@Nat.le_refl
abbrev Mc:=@heap_alloc_new
abbrev Md:=@cell_of_row
abbrev Me:=@Below.refl
abbrev Mf:=@Nat.zero_le
abbrev Mg:=@IntWalk.i64_in
abbrev Mh:=@Nat.le_trans
abbrev Mi:=@Nat.lt_of_lt_of_le
abbrev Mj:=@And.intro
abbrev Mk:=@frozen_of_row
abbrev Mm:=@below_drewN
abbrev Mn:=@World.ownsRow_nil
abbrev Mo:=@Below.heap_alloc
abbrev Mp:=@bodyPost_ret
abbrev Mq:=@Nat.lt_or_ge
abbrev Mr:=@World.size_alloc
abbrev Ms:=@List.getElem_toArray
abbrev Mt:=@List.getElem_cons_succ
abbrev Mu:=@List.getElem_cons_zero
abbrev Mv:=@List.setIfInBounds_toArray
abbrev Mw:=@List.set_cons_zero
abbrev Mx:=@List.set_cons_succ
abbrev My:=@List.getElem?_toArray
abbrev Mz:=@List.getElem?_cons_succ
abbrev MB:=@List.getElem?_cons_zero
abbrev MC:=@List.drop_succ_cons
abbrev MD:=@List.drop_zero
abbrev ME:=@List.length_append
abbrev MF:=@List.getElem?_eq_some_iff
abbrev MG:=@List.getElem?_eq_getElem
abbrev MH:=@List.getElem?_append_left
abbrev MI:=@List.getElem?_append_right
abbrev MJ:=@List.length_take
abbrev MK:=@List.append_assoc
abbrev ML:=@List.length_replicate
abbrev MM:=@List.length_drop
abbrev MN:=@List.length_singleton
abbrev MO:=@List.flatten_append
abbrev MP:=@List.take_length
abbrev MQ:=@World.size_drew
abbrev MR:=@Value.slice.injEq
abbrev MS:=@List.mem_append
abbrev MT:=@List.range_succ
abbrev MU:=@Nat.succ_mul
abbrev MV:=@Nat.add_assoc
abbrev MW:=@Nat.zero_add
abbrev MX:=@decide_eq_true
abbrev MY:=@decide_eq_false
abbrev MZ:=@decide_eq_false_iff_not
abbrev M5:=@decide_eq_true_eq
abbrev M6:=@heap_setCell_same
abbrev M7:=@Nat.mul_le_mul_right
abbrev Nh:Array Value:=#[M8 0,M8 0,M8 0,M8 0,M8 0,M9]
abbrev Ng:Array Value:=#[M8 0,M8 0,M8 0,M8 0,M8 0,M8 0]
abbrev Nf:Array Value:=#[.bool false,.bool false,M8 0,M8 0,M8 0,M8 0,M8 0,M8 0,M8 0]
abbrev Nd:Array Value:=#[M8 0,M8 0,M8 0,.bool false,.bool false,M8 0,M8 0,M8 0,M8 0,M8 0,M8 0,M8 0]
abbrev Nc:Array Value:=#[M8 0,M8 0,M8 0,.bool false,.bool false,M8 0,M8 0,M8 0,M8 0,M8 0,M8 0,M8 0,.nilFunc]
abbrev Nb:Array Value:=#[M9,M8 0,M8 0,M8 0,M8 0,M8 0,M8 0,M8 0,M8 0,M8 0,M8 0,M8 0,M9,M9,M9,M8 0,M9,M9,M9,M9,M9,M8 0]
abbrev Na:Array Value:=#[.nilFunc,.func (.func 224) #[] #[],.func (.func 225) #[] #[],.func (.func 226) #[] #[],.func (.func 227) #[] #[],.func (.func 228) #[] #[],.func (.func 229) #[] #[]]
end Go.Proofs.YtgmajkppbhiopaaGreat
