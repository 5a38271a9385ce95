/- Short names. No condition. -/
import Derived.WalkKit
import Derived.Lib.Hide
import Derived.Deep.Draws
import Derived.Deep.AppendLies
import Derived.Maps.AppendAt
import Derived.WalkSmall
namespace Go.Proofs.YtindmkcnjlgomaaGreat
open Go.RowKit
def an (p:Prop):Prop:=p
theorem an.o {p:Prop} (h:an p):p:=h
theorem an.out {p:Prop} (h:an p):p:=h
theorem ap {p:Prop} (h:p:=by omega):p:=h
abbrev aq (a b:World):Prop:=Below a.heap.size a b
abbrev ar (b o:Nat):Addr:=⟨b,o,none⟩
abbrev au (b:Nat):Value:=.pointer (some ⟨b,0,none⟩)
theorem aa {p:Prop} (h:p):an p:=h
theorem am {B:Nat} {w w':World} (h:Below B w w':=by (repeat' (first | (with_reducible exact Below.refl _ _) | (with_reducible assumption) | (with_reducible refine Below.setCell ?_ ?_ _) | (with_reducible refine Below.alloc ?_ ?_ _) | (with_reducible refine below_drewN ?_ _) | (with_reducible refine Below.drew ?_) | (with_reducible exact Nat.le_refl _) | omega | (simp;done) | (simp;omega)))):Below B w w':=h
theorem ae {p0 p1:Prop} (h0:p0) (h1:p1):an p0∧an p1:=⟨h0,h1⟩
theorem af {p0 p1 p2:Prop} (h0:p0) (h1:p1) (h2:p2):an p0∧an p1∧an p2:=⟨h0,h1,h2⟩
theorem ag {p0 p1 p2 p3:Prop} (h0:p0) (h1:p1) (h2:p2) (h3:p3):an p0∧an p1∧an p2∧an p3:=⟨h0,h1,h2,h3⟩
theorem ah {p0 p1 p2 p3 p4:Prop} (h0:p0) (h1:p1) (h2:p2) (h3:p3) (h4:p4):an p0∧an p1∧an p2∧an p3∧an p4:=⟨h0,h1,h2,h3,h4⟩
theorem ai {p0 p1 p2 p3 p4 p5:Prop} (h0:p0) (h1:p1) (h2:p2) (h3:p3) (h4:p4) (h5:p5):an p0∧an p1∧an p2∧an p3∧an p4∧an p5:=⟨h0,h1,h2,h3,h4,h5⟩
theorem aj {p0 p1 p2 p3 p4 p5 p6:Prop} (h0:p0) (h1:p1) (h2:p2) (h3:p3) (h4:p4) (h5:p5) (h6:p6):an p0∧an p1∧an p2∧an p3∧an p4∧an p5∧an p6:=⟨h0,h1,h2,h3,h4,h5,h6⟩
theorem ak {p0 p1 p2 p3 p4 p5 p6 p7:Prop} (h0:p0) (h1:p1) (h2:p2) (h3:p3) (h4:p4) (h5:p5) (h6:p6) (h7:p7):an p0∧an p1∧an p2∧an p3∧an p4∧an p5∧an p6∧an p7:=⟨h0,h1,h2,h3,h4,h5,h6,h7⟩
abbrev RI (z:Int):Value:=.int .i64 z
abbrev RJ:Value:=.slice none 0 0
abbrev Qw:=@lt_of_block
abbrev Qx:=@Nat.le_refl
abbrev Qy:=@heap_alloc_new
abbrev Qz:=@cell_of_row
abbrev QA:=@Below.refl
abbrev QB:=@Nat.zero_le
abbrev QC:=@IntWalk.i64_in
abbrev QD:=@Nat.le_trans
abbrev QE:=@Nat.lt_of_lt_of_le
abbrev QF:=@And.intro
abbrev QG:=@frozen_of_row
abbrev QH:=@below_drewN
abbrev QI:=@World.ownsRow_nil
abbrev QL:=@Below.heap_alloc
abbrev QM:=@bodyPost_ret
abbrev QO:=@Nat.lt_or_ge
abbrev QP:=@World.size_alloc
abbrev QS:=@List.getElem_toArray
abbrev QT:=@List.getElem_cons_succ
abbrev QU:=@List.getElem_cons_zero
abbrev QV:=@List.setIfInBounds_toArray
abbrev QX:=@List.set_cons_zero
abbrev QY:=@List.set_cons_succ
abbrev QZ:=@List.getElem?_toArray
abbrev Ra:=@List.getElem?_cons_succ
abbrev Rc:=@List.getElem?_cons_zero
abbrev Re:=@List.drop_succ_cons
abbrev Rf:=@List.drop_zero
abbrev Rh:=@List.length_append
abbrev Ri:=@List.getElem?_eq_some_iff
abbrev Rj:=@List.getElem?_eq_getElem
abbrev Rk:=@List.getElem?_append_left
abbrev Rl:=@List.getElem?_append_right
abbrev Rn:=@List.length_take
abbrev Ro:=@List.append_assoc
abbrev Rp:=@List.length_replicate
abbrev Rq:=@List.length_drop
abbrev Rr:=@List.length_singleton
abbrev Rs:=@List.flatten_append
abbrev Rt:=@List.take_length
abbrev Ru:=@World.size_drew
abbrev Rv:=@Value.slice.injEq
abbrev Rw:=@List.mem_append
abbrev Rx:=@List.range_succ
abbrev Ry:=@Nat.succ_mul
abbrev Rz:=@Nat.add_assoc
abbrev RB:=@Nat.zero_add
abbrev RC:=@decide_eq_true
abbrev RD:=@decide_eq_false
abbrev RE:=@decide_eq_false_iff_not
abbrev RF:=@decide_eq_true_eq
abbrev RG:=@heap_setCell_same
abbrev RH:=@Nat.mul_le_mul_right
abbrev RR:Array Value:=#[RI 0,RI 0,RI 0,RI 0,RI 0,RJ]
abbrev RQ:Array Value:=#[RI 0,RI 0,RI 0,RI 0,RI 0,RI 0]
abbrev RP:Array Value:=#[.bool false,.bool false,RI 0,RI 0,RI 0,RI 0,RI 0,RI 0,RI 0]
abbrev RO:Array Value:=#[RI 0,RI 0,RI 0,.bool false,.bool false,RI 0,RI 0,RI 0,RI 0,RI 0,RI 0,RI 0]
abbrev RN:Array Value:=#[RI 0,RI 0,RI 0,.bool false,.bool false,RI 0,RI 0,RI 0,RI 0,RI 0,RI 0,RI 0,.nilFunc]
abbrev RM:Array Value:=#[RJ,RI 0,RI 0,RI 0,RI 0,RI 0,RI 0,RI 0,RI 0,RI 0,RI 0,RI 0,RJ,RJ,RJ,RI 0,RJ,RJ,RJ,RJ,RJ,RI 0]
abbrev RK:Array Value:=#[.nilFunc,.func (.func 212) #[] #[],.func (.func 213) #[] #[],.func (.func 214) #[] #[],.func (.func 215) #[] #[],.func (.func 216) #[] #[],.func (.func 217) #[] #[]]
abbrev N_:=Option Addr
abbrev Q_:=List Int
abbrev R6:=Array Value
abbrev R7:=List Value
abbrev R8:=World
abbrev R9:=TypeId
abbrev R_:=List (List Int×List Int)
abbrev T0:=Array Oper
abbrev T1:=Act
abbrev T2:=TypeId
abbrev T3:=Array Oper
abbrev T7:=Act
end Go.Proofs.YtindmkcnjlgomaaGreat
