/- Short names. No condition. -/
import Derived.WalkKit
import Derived.Lib.Hide
import Derived.Deep.Draws
import Derived.Deep.AppendLies
import Derived.Maps.AppendAt
import Derived.WalkSmall
namespace Go.Proofs.YtgmajkppbhiopaaGreat
open Go.RowKit
def an (p:Prop):Prop:=p
theorem an.o {p:Prop} (h:an p):p:=h
theorem an.out {p:Prop} (h:an p):p:=h
theorem ap {p:Prop} (h:p:=by omega):p:=h
abbrev aq (a b:World):Prop:=Below a.heap.size a b
abbrev ar (b o:Nat):Addr:=⟨b,o,none⟩
abbrev au (b:Nat):Value:=.pointer (some ⟨b,0,none⟩)
theorem aa {p:Prop} (h:p):an p:=h
theorem am {B:Nat} {w w':World} (h:Below B w w':=by (repeat' (first | (with_reducible exact Below.refl _ _) | (with_reducible assumption) | (with_reducible refine Below.setCell ?_ ?_ _) | (with_reducible refine Below.alloc ?_ ?_ _) | (with_reducible refine below_drewN ?_ _) | (with_reducible refine Below.drew ?_) | (with_reducible exact Nat.le_refl _) | omega | (simp;done) | (simp;omega)))):Below B w w':=h
theorem ae {p0 p1:Prop} (h0:p0) (h1:p1):an p0∧an p1:=⟨h0,h1⟩
theorem af {p0 p1 p2:Prop} (h0:p0) (h1:p1) (h2:p2):an p0∧an p1∧an p2:=⟨h0,h1,h2⟩
theorem ag {p0 p1 p2 p3:Prop} (h0:p0) (h1:p1) (h2:p2) (h3:p3):an p0∧an p1∧an p2∧an p3:=⟨h0,h1,h2,h3⟩
theorem ah {p0 p1 p2 p3 p4:Prop} (h0:p0) (h1:p1) (h2:p2) (h3:p3) (h4:p4):an p0∧an p1∧an p2∧an p3∧an p4:=⟨h0,h1,h2,h3,h4⟩
theorem ai {p0 p1 p2 p3 p4 p5:Prop} (h0:p0) (h1:p1) (h2:p2) (h3:p3) (h4:p4) (h5:p5):an p0∧an p1∧an p2∧an p3∧an p4∧an p5:=⟨h0,h1,h2,h3,h4,h5⟩
theorem aj {p0 p1 p2 p3 p4 p5 p6:Prop} (h0:p0) (h1:p1) (h2:p2) (h3:p3) (h4:p4) (h5:p5) (h6:p6):an p0∧an p1∧an p2∧an p3∧an p4∧an p5∧an p6:=⟨h0,h1,h2,h3,h4,h5,h6⟩
theorem ak {p0 p1 p2 p3 p4 p5 p6 p7:Prop} (h0:p0) (h1:p1) (h2:p2) (h3:p3) (h4:p4) (h5:p5) (h6:p6) (h7:p7):an p0∧an p1∧an p2∧an p3∧an p4∧an p5∧an p6∧an p7:=⟨h0,h1,h2,h3,h4,h5,h6,h7⟩
abbrev Nd (z:Int):Value:=.int .i64 z
abbrev Nf:Value:=.slice none 0 0
abbrev Mf:=@lt_of_block
abbrev Mg:=@Nat.le_refl
abbrev Mh:=@heap_alloc_new
abbrev Mi:=@cell_of_row
abbrev Mj:=@Below.refl
abbrev Mk:=@Nat.zero_le
abbrev Mm:=@IntWalk.i64_in
abbrev Mn:=@Nat.le_trans
abbrev Mo:=@Nat.lt_of_lt_of_le
abbrev Mp:=@And.intro
abbrev Mq:=@frozen_of_row
abbrev Mr:=@below_drewN
abbrev Ms:=@World.ownsRow_nil
abbrev Mt:=@Below.heap_alloc
abbrev Mu:=@bodyPost_ret
abbrev Mv:=@Nat.lt_or_ge
abbrev Mw:=@World.size_alloc
abbrev Mx:=@List.getElem_toArray
abbrev My:=@List.getElem_cons_succ
abbrev Mz:=@List.getElem_cons_zero
abbrev MB:=@List.setIfInBounds_toArray
abbrev MC:=@List.set_cons_zero
abbrev MD:=@List.set_cons_succ
abbrev ME:=@List.getElem?_toArray
abbrev MF:=@List.getElem?_cons_succ
abbrev MG:=@List.getElem?_cons_zero
abbrev MH:=@List.drop_succ_cons
abbrev MI:=@List.drop_zero
abbrev MJ:=@List.length_append
abbrev MK:=@List.getElem?_eq_some_iff
abbrev ML:=@List.getElem?_eq_getElem
abbrev MM:=@List.getElem?_append_left
abbrev MN:=@List.getElem?_append_right
abbrev MO:=@List.length_take
abbrev MP:=@List.append_assoc
abbrev MQ:=@List.length_replicate
abbrev MR:=@List.length_drop
abbrev MS:=@List.length_singleton
abbrev MT:=@List.flatten_append
abbrev MU:=@List.take_length
abbrev MV:=@World.size_drew
abbrev MW:=@Value.slice.injEq
abbrev MX:=@List.mem_append
abbrev MY:=@List.range_succ
abbrev MZ:=@Nat.succ_mul
abbrev M5:=@Nat.add_assoc
abbrev M6:=@Nat.zero_add
abbrev M7:=@decide_eq_true
abbrev M8:=@decide_eq_false
abbrev M9:=@decide_eq_false_iff_not
abbrev Na:=@decide_eq_true_eq
abbrev Nb:=@heap_setCell_same
abbrev Nc:=@Nat.mul_le_mul_right
abbrev Nm:Array Value:=#[Nd 0,Nd 0,Nd 0,Nd 0,Nd 0,Nf]
abbrev Nl:Array Value:=#[Nd 0,Nd 0,Nd 0,Nd 0,Nd 0,Nd 0]
abbrev Nk:Array Value:=#[.bool false,.bool false,Nd 0,Nd 0,Nd 0,Nd 0,Nd 0,Nd 0,Nd 0]
abbrev Nj:Array Value:=#[Nd 0,Nd 0,Nd 0,.bool false,.bool false,Nd 0,Nd 0,Nd 0,Nd 0,Nd 0,Nd 0,Nd 0]
abbrev Ni:Array Value:=#[Nd 0,Nd 0,Nd 0,.bool false,.bool false,Nd 0,Nd 0,Nd 0,Nd 0,Nd 0,Nd 0,Nd 0,.nilFunc]
abbrev Nh:Array Value:=#[Nf,Nd 0,Nd 0,Nd 0,Nd 0,Nd 0,Nd 0,Nd 0,Nd 0,Nd 0,Nd 0,Nd 0,Nf,Nf,Nf,Nd 0,Nf,Nf,Nf,Nf,Nf,Nd 0]
abbrev Ng:Array Value:=#[.nilFunc,.func (.func 224) #[] #[],.func (.func 225) #[] #[],.func (.func 226) #[] #[],.func (.func 227) #[] #[],.func (.func 228) #[] #[],.func (.func 229) #[] #[]]
end Go.Proofs.YtgmajkppbhiopaaGreat
