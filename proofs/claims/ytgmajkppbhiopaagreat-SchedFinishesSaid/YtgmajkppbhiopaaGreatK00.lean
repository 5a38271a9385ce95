/- No condition. -/
import Derived.WalkKit
import Derived.Lib.Hide
import Derived.Deep.Draws
import Derived.Deep.AppendLies
import Derived.Maps.AppendAt
import Derived.WalkSmall
namespace Go.Proofs.YtgmajkppbhiopaaGreat
open Go.RowKit
def an (p:Prop):Prop:=p
theorem an.o {p:Prop} (h:an p):p:=h
theorem an.out {p:Prop} (h:an p):p:=h
theorem ap {p:Prop} (h:p:=by omega):p:=h
abbrev aq (a b:World):Prop:=Below a.heap.size a b
abbrev ar (b o:Nat):Addr:=⟨b,o,none⟩
abbrev au (b:Nat):Value:=.pointer (some ⟨b,0,none⟩)
theorem aa {p:Prop} (h:p):an p:=h
theorem am {B:Nat} {w w':World} (h:Below B w w':=by (repeat' (first | (with_reducible exact Below.refl _ _) | (with_reducible assumption) | (with_reducible refine Below.setCell ?_ ?_ _) | (with_reducible refine Below.alloc ?_ ?_ _) | (with_reducible refine below_drewN ?_ _) | (with_reducible refine Below.drew ?_) | (with_reducible exact Nat.le_refl _) | omega | (simp;done) | (simp;omega)))):Below B w w':=h
theorem ae {p0 p1:Prop} (h0:p0) (h1:p1):an p0∧an p1:=⟨h0,h1⟩
theorem af {p0 p1 p2:Prop} (h0:p0) (h1:p1) (h2:p2):an p0∧an p1∧an p2:=⟨h0,h1,h2⟩
theorem ag {p0 p1 p2 p3:Prop} (h0:p0) (h1:p1) (h2:p2) (h3:p3):an p0∧an p1∧an p2∧an p3:=⟨h0,h1,h2,h3⟩
theorem ah {p0 p1 p2 p3 p4:Prop} (h0:p0) (h1:p1) (h2:p2) (h3:p3) (h4:p4):an p0∧an p1∧an p2∧an p3∧an p4:=⟨h0,h1,h2,h3,h4⟩
theorem ai {p0 p1 p2 p3 p4 p5:Prop} (h0:p0) (h1:p1) (h2:p2) (h3:p3) (h4:p4) (h5:p5):an p0∧an p1∧an p2∧an p3∧an p4∧an p5:=⟨h0,h1,h2,h3,h4,h5⟩
theorem aj {p0 p1 p2 p3 p4 p5 p6:Prop} (h0:p0) (h1:p1) (h2:p2) (h3:p3) (h4:p4) (h5:p5) (h6:p6):an p0∧an p1∧an p2∧an p3∧an p4∧an p5∧an p6:=⟨h0,h1,h2,h3,h4,h5,h6⟩
theorem ak {p0 p1 p2 p3 p4 p5 p6 p7:Prop} (h0:p0) (h1:p1) (h2:p2) (h3:p3) (h4:p4) (h5:p5) (h6:p6) (h7:p7):an p0∧an p1∧an p2∧an p3∧an p4∧an p5∧an p6∧an p7:=⟨h0,h1,h2,h3,h4,h5,h6,h7⟩
abbrev QZ (z:Int):Value:=.int .i64 z
abbrev Ra:Value:=.slice none 0 0
abbrev PU:=@lt_of_block
abbrev PV:=@Nat.le_refl
abbrev PW:=@heap_alloc_new
abbrev PX:=@cell_of_row
abbrev PY:=@Below.refl
abbrev PZ:=@Nat.zero_le
abbrev P3:=@IntWalk.i64_in
abbrev P4:=@Nat.le_trans
abbrev P6:=@Nat.lt_of_lt_of_le
abbrev P7:=@And.intro
abbrev P8:=@frozen_of_row
abbrev Qa:=@below_drewN
abbrev Qb:=@World.ownsRow_nil
abbrev Qc:=@Below.heap_alloc
abbrev Qd:=@bodyPost_ret
abbrev Qf:=@Nat.lt_or_ge
abbrev Qg:=@World.size_alloc
abbrev Qh:=@List.getElem_toArray
abbrev Qi:=@List.getElem_cons_succ
abbrev Qj:=@List.getElem_cons_zero
abbrev Qk:=@List.setIfInBounds_toArray
abbrev Ql:=@List.set_cons_zero
abbrev Qm:=@List.set_cons_succ
abbrev Qn:=@List.getElem?_toArray
abbrev Qo:=@List.getElem?_cons_succ
abbrev Qp:=@List.getElem?_cons_zero
abbrev Qq:=@List.drop_succ_cons
abbrev Qs:=@List.drop_zero
abbrev Qt:=@List.length_append
abbrev Qu:=@List.getElem?_eq_some_iff
abbrev Qv:=@List.getElem?_eq_getElem
abbrev Qw:=@List.getElem?_append_left
abbrev Qx:=@List.getElem?_append_right
abbrev Qy:=@List.length_take
abbrev Qz:=@List.append_assoc
abbrev QA:=@List.length_replicate
abbrev QB:=@List.length_drop
abbrev QC:=@List.length_singleton
abbrev QE:=@List.flatten_append
abbrev QF:=@List.take_length
abbrev QG:=@World.size_drew
abbrev QH:=@Value.slice.injEq
abbrev QI:=@List.mem_append
abbrev QL:=@List.range_succ
abbrev QM:=@Nat.succ_mul
abbrev QO:=@Nat.add_assoc
abbrev QP:=@Nat.zero_add
abbrev QS:=@decide_eq_true
abbrev QT:=@decide_eq_false
abbrev QU:=@decide_eq_false_iff_not
abbrev QV:=@decide_eq_true_eq
abbrev QX:=@heap_setCell_same
abbrev QY:=@Nat.mul_le_mul_right
abbrev Rk:Array Value:=#[QZ 0,QZ 0,QZ 0,QZ 0,QZ 0,Ra]
abbrev Rj:Array Value:=#[QZ 0,QZ 0,QZ 0,QZ 0,QZ 0,QZ 0]
abbrev Ri:Array Value:=#[.bool false,.bool false,QZ 0,QZ 0,QZ 0,QZ 0,QZ 0,QZ 0,QZ 0]
abbrev Rh:Array Value:=#[QZ 0,QZ 0,QZ 0,.bool false,.bool false,QZ 0,QZ 0,QZ 0,QZ 0,QZ 0,QZ 0,QZ 0]
abbrev Rf:Array Value:=#[QZ 0,QZ 0,QZ 0,.bool false,.bool false,QZ 0,QZ 0,QZ 0,QZ 0,QZ 0,QZ 0,QZ 0,.nilFunc]
abbrev Re:Array Value:=#[Ra,QZ 0,QZ 0,QZ 0,QZ 0,QZ 0,QZ 0,QZ 0,QZ 0,QZ 0,QZ 0,QZ 0,Ra,Ra,Ra,QZ 0,Ra,Ra,Ra,Ra,Ra,QZ 0]
abbrev Rc:Array Value:=#[.nilFunc,.func (.func 224) #[] #[],.func (.func 225) #[] #[],.func (.func 226) #[] #[],.func (.func 227) #[] #[],.func (.func 228) #[] #[],.func (.func 229) #[] #[]]
abbrev N_:=Option Addr
abbrev Q_:=List Int
abbrev R6:=Array Value
abbrev R7:=List Value
abbrev R8:=World
abbrev R9:=TypeId
abbrev Rl:=List (List Int×List Int)
abbrev Rn:=Array Oper
abbrev Ro:=Act
abbrev Rp:=TypeId
abbrev Rq:=Array Oper
abbrev Rr:=Act
theorem V0 {p:Prop} (h:p:=by decide):p:=h
theorem V1 {p:Prop} (h:p:=by kernel_rfl):p:=h
theorem V2 {p:Prop} (h:p:=by unfold maxLen;omega):p:=h
theorem V3 {p:Prop} (h:p:=by simp):p:=h
theorem V5 {p:Prop} (h:p:=by simp [Value.oneCell']):p:=h
theorem V6 {p:Prop} (h:p:=by simp;omega):p:=h
theorem V7 {p:Prop} (h:p:=by first | omega | (simp;done) | (simp;omega)):p:=h
theorem V8 {p:Prop} (h:p:=by first | (simp;done) | (simp;omega)):p:=h
theorem Va {p:Prop} (h:p:=by simp [intOf];omega):p:=h
theorem Vb {α:Sort _} (a:α):∃x,a=x:=⟨_,rfl⟩
theorem Vc {p:Prop} (h:p:=by go_num):p:=h
abbrev Vd (k:Nat):Value:=QZ (k:Int)
abbrev Ve (w:World):Nat:=w.heap.size
abbrev Vf (b o n c:Nat):Value:=.slice (some (ar b o)) n c
abbrev Vg (w:World) (b:Nat) (c:Array Value) (t:TypeId):Prop:=w.heap[b]?=some (.cells c t (0,0))
abbrev Vh (w:World) (b o:Nat) (v:Value):Prop:=w.cell? (ar b o)=some v
abbrev Vi (e:Ending) (v:Value):Prop:=e=.returned v
end Go.Proofs.YtgmajkppbhiopaaGreat
