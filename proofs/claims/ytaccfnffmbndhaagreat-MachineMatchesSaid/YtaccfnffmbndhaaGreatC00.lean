/- Short names. No condition. -/
import Derived.WalkKit
import Derived.Lib.Hide
import Derived.Deep.Draws
import Derived.Deep.AppendLies
import Derived.Maps.AppendAt
import Derived.WalkSmall
namespace Go.Proofs.YtaccfnffmbndhaaGreat
open Go.RowKit
theorem aa {p:Prop} (h:p):Hid p:=h
theorem al {B:Nat} {w w':World} (h:Below B w w':=by (repeat' (first | (with_reducible exact Below.refl _ _) | (with_reducible assumption) | (with_reducible refine Below.setCell ?_ ?_ _) | (with_reducible refine Below.alloc ?_ ?_ _) | (with_reducible refine below_drewN ?_ _) | (with_reducible refine Below.drew ?_) | (with_reducible exact Nat.le_refl _) | omega | (simp;done) | (simp;omega)))):Below B w w':=h
theorem ae {p0 p1:Prop} (h0:p0) (h1:p1):Hid p0∧Hid p1:=⟨h0,h1⟩
theorem af {p0 p1 p2:Prop} (h0:p0) (h1:p1) (h2:p2):Hid p0∧Hid p1∧Hid p2:=⟨h0,h1,h2⟩
theorem ag {p0 p1 p2 p3:Prop} (h0:p0) (h1:p1) (h2:p2) (h3:p3):Hid p0∧Hid p1∧Hid p2∧Hid p3:=⟨h0,h1,h2,h3⟩
theorem ah {p0 p1 p2 p3 p4:Prop} (h0:p0) (h1:p1) (h2:p2) (h3:p3) (h4:p4):Hid p0∧Hid p1∧Hid p2∧Hid p3∧Hid p4:=⟨h0,h1,h2,h3,h4⟩
theorem ai {p0 p1 p2 p3 p4 p5:Prop} (h0:p0) (h1:p1) (h2:p2) (h3:p3) (h4:p4) (h5:p5):Hid p0∧Hid p1∧Hid p2∧Hid p3∧Hid p4∧Hid p5:=⟨h0,h1,h2,h3,h4,h5⟩
theorem aj {p0 p1 p2 p3 p4 p5 p6:Prop} (h0:p0) (h1:p1) (h2:p2) (h3:p3) (h4:p4) (h5:p5) (h6:p6):Hid p0∧Hid p1∧Hid p2∧Hid p3∧Hid p4∧Hid p5∧Hid p6:=⟨h0,h1,h2,h3,h4,h5,h6⟩
theorem ak {p0 p1 p2 p3 p4 p5 p6 p7:Prop} (h0:p0) (h1:p1) (h2:p2) (h3:p3) (h4:p4) (h5:p5) (h6:p6) (h7:p7):Hid p0∧Hid p1∧Hid p2∧Hid p3∧Hid p4∧Hid p5∧Hid p6∧Hid p7:=⟨h0,h1,h2,h3,h4,h5,h6,h7⟩
abbrev KL (z:Int):Value:=.int .i64 z
abbrev KN:Value:=.slice none 0 0
abbrev JC:=@lt_of_block
abbrev JD:=@Nat.le_refl
abbrev JE:=@heap_alloc_new
abbrev JF:=@cell_of_row
abbrev JG:=@Below.refl
abbrev JH:=@Nat.zero_le
abbrev JI:=@IntWalk.i64_in
abbrev JJ:=@Nat.le_trans
abbrev JK:=@Nat.lt_of_lt_of_le
abbrev JL:=@And.intro
abbrev JM:=@frozen_of_row
abbrev JN:=@below_drewN
abbrev JO:=@World.ownsRow_nil
abbrev JP:=@Below.heap_alloc
abbrev JQ:=@bodyPost_ret
abbrev JR:=@Nat.lt_or_ge
abbrev JS:=@World.size_alloc
abbrev JT:=@List.getElem_toArray
abbrev JU:=@List.getElem_cons_succ
abbrev JV:=@List.getElem_cons_zero
abbrev JW:=@List.setIfInBounds_toArray
abbrev JX:=@List.set_cons_zero
abbrev J0:=@List.set_cons_succ
abbrev J1:=@List.getElem?_toArray
abbrev Ka:=@List.getElem?_cons_succ
abbrev Kb:=@List.getElem?_cons_zero
abbrev Kc:=@List.drop_succ_cons
abbrev Ke:=@List.drop_zero
abbrev Kf:=@List.length_append
abbrev Kg:=@List.getElem?_eq_some_iff
abbrev Kh:=@List.getElem?_eq_getElem
abbrev Ki:=@List.getElem?_append_left
abbrev Kj:=@List.getElem?_append_right
abbrev Kk:=@List.length_take
abbrev Kl:=@List.append_assoc
abbrev Km:=@List.length_replicate
abbrev Kn:=@List.length_drop
abbrev Ko:=@List.length_singleton
abbrev Kr:=@List.flatten_append
abbrev Ks:=@List.take_length
abbrev Kt:=@World.size_drew
abbrev Ku:=@Value.slice.injEq
abbrev Kv:=@List.mem_append
abbrev Kw:=@List.range_succ
abbrev Kx:=@Nat.succ_mul
abbrev Ky:=@Nat.add_assoc
abbrev Kz:=@Nat.zero_add
abbrev KA:=@decide_eq_true
abbrev KD:=@decide_eq_false
abbrev KE:=@decide_eq_false_iff_not
abbrev KF:=@decide_eq_true_eq
abbrev KG:=@heap_setCell_same
abbrev KH:=@Nat.mul_le_mul_right
abbrev La:Array Value:=#[KL 0,KL 0,KL 0,KL 0,KL 0,KN]
abbrev KW:Array Value:=#[KL 0,KL 0,KL 0,KL 0,KL 0,KL 0]
abbrev KU:Array Value:=#[.agg #[KL 0,KL 0,KL 0,KL 0,KL 0,KN],KL 12]
abbrev KT:Array Value:=#[.agg #[KL 0,KL 0,KL 0,KL 0,KL 0],.bool false]
abbrev KS:Array Value:=#[.bool false,.bool false,KL 0,KL 0,KL 0,KL 0,KL 0,KL 0,KL 0]
abbrev KR:Array Value:=#[KL 0,KL 0,KL 0,.bool false,.bool false,KL 0,KL 0,KL 0,KL 0,KL 0,KL 0,KL 0]
abbrev KQ:Array Value:=#[KL 0,KL 0,KL 0,.bool false,.bool false,KL 0,KL 0,KL 0,KL 0,KL 0,KL 0,KL 0,.nilFunc]
abbrev KP:Array Value:=#[KN,KL 0,KL 0,KL 0,KL 0,KL 0,KL 0,KL 0,KL 0,KL 0,KL 0,KL 0,KN,KN,KN,KL 0,KN,KN,KN,KN,KN,KL 0]
abbrev KO:Array Value:=#[.nilFunc,.func (.func 110) #[] #[],.func (.func 111) #[] #[],.func (.func 112) #[] #[],.func (.func 113) #[] #[],.func (.func 114) #[] #[],.func (.func 115) #[] #[]]
end Go.Proofs.YtaccfnffmbndhaaGreat
