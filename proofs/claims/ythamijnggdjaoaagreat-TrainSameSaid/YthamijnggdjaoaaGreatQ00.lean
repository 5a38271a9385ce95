/- Short names. No condition. -/
import Derived.WalkKit
import Derived.Lib.Hide
import Derived.Deep.Draws
import Derived.Deep.AppendLies
import Derived.Maps.AppendAt
import Derived.WalkSmall
namespace Go.Proofs.YthamijnggdjaoaaGreat
open Go.RowKit
def al (p:Prop):Prop:=p
theorem al.o {p:Prop} (h:al p):p:=h
theorem al.out {p:Prop} (h:al p):p:=h
theorem am {p:Prop} (h:p:=by omega):p:=h
abbrev an (a b:World):Prop:=Below a.heap.size a b
abbrev ao (b o:Nat):Addr:=⟨b,o,none⟩
abbrev ap (b:Nat):Value:=.pointer (some ⟨b,0,none⟩)
theorem aa {p:Prop} (h:p):al p:=h
theorem ak {B:Nat} {w w':World} (h:Below B w w':=by (repeat' (first | (with_reducible exact Below.refl _ _) | (with_reducible assumption) | (with_reducible refine Below.setCell ?_ ?_ _) | (with_reducible refine Below.alloc ?_ ?_ _) | (with_reducible refine below_drewN ?_ _) | (with_reducible refine Below.drew ?_) | (with_reducible exact Nat.le_refl _) | omega | (simp;done) | (simp;omega)))):Below B w w':=h
theorem ab {p0 p1:Prop} (h0:p0) (h1:p1):al p0∧al p1:=⟨h0,h1⟩
theorem ae {p0 p1 p2:Prop} (h0:p0) (h1:p1) (h2:p2):al p0∧al p1∧al p2:=⟨h0,h1,h2⟩
theorem af {p0 p1 p2 p3:Prop} (h0:p0) (h1:p1) (h2:p2) (h3:p3):al p0∧al p1∧al p2∧al p3:=⟨h0,h1,h2,h3⟩
theorem ag {p0 p1 p2 p3 p4:Prop} (h0:p0) (h1:p1) (h2:p2) (h3:p3) (h4:p4):al p0∧al p1∧al p2∧al p3∧al p4:=⟨h0,h1,h2,h3,h4⟩
theorem ah {p0 p1 p2 p3 p4 p5:Prop} (h0:p0) (h1:p1) (h2:p2) (h3:p3) (h4:p4) (h5:p5):al p0∧al p1∧al p2∧al p3∧al p4∧al p5:=⟨h0,h1,h2,h3,h4,h5⟩
theorem ai {p0 p1 p2 p3 p4 p5 p6:Prop} (h0:p0) (h1:p1) (h2:p2) (h3:p3) (h4:p4) (h5:p5) (h6:p6):al p0∧al p1∧al p2∧al p3∧al p4∧al p5∧al p6:=⟨h0,h1,h2,h3,h4,h5,h6⟩
theorem aj {p0 p1 p2 p3 p4 p5 p6 p7:Prop} (h0:p0) (h1:p1) (h2:p2) (h3:p3) (h4:p4) (h5:p5) (h6:p6) (h7:p7):al p0∧al p1∧al p2∧al p3∧al p4∧al p5∧al p6∧al p7:=⟨h0,h1,h2,h3,h4,h5,h6,h7⟩
abbrev yY (z:Int):Value:=.int .i64 z
abbrev yZ:Value:=.slice none 0 0
abbrev xZ:=@lt_of_block
abbrev x4:=@Nat.le_refl
abbrev x6:=@heap_alloc_new
abbrev x7:=@cell_of_row
abbrev ya:=@Below.refl
abbrev yb:=@Nat.zero_le
abbrev yc:=@IntWalk.i64_in
abbrev yd:=@Nat.le_trans
abbrev ye:=@Nat.lt_of_lt_of_le
abbrev yg:=@And.intro
abbrev yh:=@below_drewN
abbrev yi:=@World.ownsRow_nil
abbrev yj:=@Below.heap_alloc
abbrev yk:=@bodyPost_ret
abbrev yl:=@Nat.lt_or_ge
abbrev ym:=@World.size_alloc
abbrev yn:=@List.getElem_toArray
abbrev yo:=@List.getElem_cons_succ
abbrev yp:=@List.getElem_cons_zero
abbrev yq:=@List.setIfInBounds_toArray
abbrev yr:=@List.set_cons_zero
abbrev yt:=@List.set_cons_succ
abbrev yu:=@List.getElem?_toArray
abbrev yw:=@List.getElem?_cons_succ
abbrev yx:=@List.getElem?_cons_zero
abbrev yy:=@List.drop_succ_cons
abbrev yz:=@List.drop_zero
abbrev yA:=@List.length_append
abbrev yB:=@List.getElem?_eq_some_iff
abbrev yC:=@List.getElem?_eq_getElem
abbrev yD:=@List.getElem?_append_left
abbrev yE:=@List.getElem?_append_right
abbrev yF:=@List.length_take
abbrev yG:=@List.append_assoc
abbrev yH:=@List.length_replicate
abbrev yI:=@List.length_drop
abbrev yJ:=@List.flatten_append
abbrev yK:=@List.take_length
abbrev yL:=@World.size_drew
abbrev yM:=@Value.slice.injEq
abbrev yN:=@List.mem_append
abbrev yO:=@List.range_succ
abbrev yP:=@Nat.succ_mul
abbrev yQ:=@Nat.add_assoc
abbrev yR:=@Nat.zero_add
abbrev yS:=@decide_eq_true
abbrev yT:=@decide_eq_false
abbrev yU:=@decide_eq_false_iff_not
abbrev yV:=@decide_eq_true_eq
abbrev yW:=@heap_setCell_same
abbrev yX:=@Nat.mul_le_mul_right
abbrev N0:=Option Addr
abbrev N3:=List Int
abbrev N4:=Array Value
abbrev N5:=List Value
abbrev N6:=World
abbrev N7:=TypeId
abbrev N8:=List (List Int×List Int)
abbrev N9:=Array Oper
abbrev Na:=Act
abbrev Nb:=TypeId
abbrev Nc:=Array Oper
abbrev Nd:=Act
end Go.Proofs.YthamijnggdjaoaaGreat
