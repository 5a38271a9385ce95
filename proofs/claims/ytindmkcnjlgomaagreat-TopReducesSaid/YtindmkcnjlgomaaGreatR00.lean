/- Short names. No condition. -/
import Derived.WalkKit
import Derived.Lib.Hide
import Derived.Deep.Draws
import Derived.Deep.AppendLies
import Derived.Maps.AppendAt
import Derived.WalkSmall
namespace Go.Proofs.YtindmkcnjlgomaaGreat
open Go.RowKit
def an (p:Prop):Prop:=p
theorem an.o {p:Prop} (h:an p):p:=h
theorem an.out {p:Prop} (h:an p):p:=h
theorem ao {p:Prop} (h:p:=by omega):p:=h
abbrev ap (a b:World):Prop:=Below a.heap.size a b
abbrev aq (b o:Nat):Addr:=⟨b,o,none⟩
abbrev ar (b:Nat):Value:=.pointer (some ⟨b,0,none⟩)
theorem aa {p:Prop} (h:p):an p:=h
theorem am {B:Nat} {w w':World} (h:Below B w w':=by (repeat' (first | (with_reducible exact Below.refl _ _) | (with_reducible assumption) | (with_reducible refine Below.setCell ?_ ?_ _) | (with_reducible refine Below.alloc ?_ ?_ _) | (with_reducible refine below_drewN ?_ _) | (with_reducible refine Below.drew ?_) | (with_reducible exact Nat.le_refl _) | omega | (simp;done) | (simp;omega)))):Below B w w':=h
theorem ab {p0 p1:Prop} (h0:p0) (h1:p1):an p0∧an p1:=⟨h0,h1⟩
theorem ae {p0 p1 p2:Prop} (h0:p0) (h1:p1) (h2:p2):an p0∧an p1∧an p2:=⟨h0,h1,h2⟩
theorem af {p0 p1 p2 p3:Prop} (h0:p0) (h1:p1) (h2:p2) (h3:p3):an p0∧an p1∧an p2∧an p3:=⟨h0,h1,h2,h3⟩
theorem ag {p0 p1 p2 p3 p4:Prop} (h0:p0) (h1:p1) (h2:p2) (h3:p3) (h4:p4):an p0∧an p1∧an p2∧an p3∧an p4:=⟨h0,h1,h2,h3,h4⟩
theorem ah {p0 p1 p2 p3 p4 p5:Prop} (h0:p0) (h1:p1) (h2:p2) (h3:p3) (h4:p4) (h5:p5):an p0∧an p1∧an p2∧an p3∧an p4∧an p5:=⟨h0,h1,h2,h3,h4,h5⟩
theorem ai {p0 p1 p2 p3 p4 p5 p6:Prop} (h0:p0) (h1:p1) (h2:p2) (h3:p3) (h4:p4) (h5:p5) (h6:p6):an p0∧an p1∧an p2∧an p3∧an p4∧an p5∧an p6:=⟨h0,h1,h2,h3,h4,h5,h6⟩
theorem aj {p0 p1 p2 p3 p4 p5 p6 p7:Prop} (h0:p0) (h1:p1) (h2:p2) (h3:p3) (h4:p4) (h5:p5) (h6:p6) (h7:p7):an p0∧an p1∧an p2∧an p3∧an p4∧an p5∧an p6∧an p7:=⟨h0,h1,h2,h3,h4,h5,h6,h7⟩
abbrev H8 (z:Int):Value:=.int .i64 z
abbrev H9:Value:=.slice none 0 0
abbrev F1:=@lt_of_block
abbrev F3:=@Nat.le_refl
abbrev F4:=@heap_alloc_new
abbrev Ga:=@cell_of_row
abbrev Gb:=@Below.refl
abbrev Gc:=@Nat.zero_le
abbrev Gd:=@IntWalk.i64_in
abbrev Ge:=@Nat.le_trans
abbrev Gf:=@Nat.lt_of_lt_of_le
abbrev Gg:=@And.intro
abbrev Gh:=@frozen_of_row
abbrev Gi:=@below_drewN
abbrev Gj:=@World.ownsRow_nil
abbrev Gk:=@Below.heap_alloc
abbrev Gm:=@bodyPost_ret
abbrev Gn:=@Nat.lt_or_ge
abbrev Gp:=@World.size_alloc
abbrev Gq:=@List.getElem_toArray
abbrev Gr:=@List.getElem_cons_succ
abbrev Gs:=@List.getElem_cons_zero
abbrev Gt:=@List.setIfInBounds_toArray
abbrev Gu:=@List.set_cons_zero
abbrev Gv:=@List.set_cons_succ
abbrev Gw:=@List.getElem?_toArray
abbrev Gy:=@List.getElem?_cons_succ
abbrev Gz:=@List.getElem?_cons_zero
abbrev GC:=@List.drop_succ_cons
abbrev GD:=@List.drop_zero
abbrev GE:=@List.length_append
abbrev GF:=@List.getElem?_eq_some_iff
abbrev GG:=@List.getElem?_eq_getElem
abbrev GH:=@List.getElem?_append_left
abbrev GK:=@List.getElem?_append_right
abbrev GL:=@List.length_take
abbrev GM:=@List.append_assoc
abbrev GN:=@List.length_replicate
abbrev GO:=@List.length_drop
abbrev GP:=@List.length_singleton
abbrev GQ:=@List.flatten_append
abbrev GR:=@List.take_length
abbrev GS:=@World.size_drew
abbrev GT:=@Value.slice.injEq
abbrev GU:=@List.mem_append
abbrev GV:=@List.range_succ
abbrev GW:=@Nat.succ_mul
abbrev GX:=@Nat.add_assoc
abbrev GY:=@Nat.zero_add
abbrev GZ:=@decide_eq_true
abbrev G3:=@decide_eq_false
abbrev G7:=@decide_eq_false_iff_not
abbrev G9:=@decide_eq_true_eq
abbrev HE:=@heap_setCell_same
abbrev HU:=@Nat.mul_le_mul_right
abbrev Id:Array Value:=#[H8 0,H8 0,H8 0,H8 0,H8 0,H9]
abbrev Ic:Array Value:=#[H8 0,H8 0,H8 0,.bool false,.bool false,H8 0,H8 0,H8 0,H8 0,H8 0,H8 0,H8 0]
abbrev Ib:Array Value:=#[H8 0,H8 0,H8 0,.bool false,.bool false,H8 0,H8 0,H8 0,H8 0,H8 0,H8 0,H8 0,.nilFunc]
abbrev Ia:Array Value:=#[.nilFunc,.func (.func 212) #[] #[],.func (.func 213) #[] #[],.func (.func 214) #[] #[],.func (.func 215) #[] #[],.func (.func 216) #[] #[],.func (.func 217) #[] #[]]
abbrev N0:=Option Addr
abbrev N1:=List Int
abbrev N2:=Array Value
abbrev N4:=List Value
abbrev N5:=World
abbrev N6:=TypeId
abbrev N8:=List (List Int×List Int)
abbrev N9:=Array Oper
abbrev Na:=Act
abbrev Nb:=TypeId
abbrev Nc:=Array Oper
abbrev Nd:=Act
end Go.Proofs.YtindmkcnjlgomaaGreat
