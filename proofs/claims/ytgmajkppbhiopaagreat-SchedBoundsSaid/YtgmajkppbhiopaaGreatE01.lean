/- No condition. -/
import Derived.Test.YtgmajkppbhiopaaGreatE00
import Derived.WalkKit
import Derived.Lib.Hide
import Derived.Deep.Draws
import Derived.Deep.AppendLies
import Derived.Maps.AppendAt
import Derived.WalkSmall
import Derived.StillTail
import Derived.OrdersHeld
import Derived.Deep.RegionHeld
import Derived.RangeFuncNested
import Derived.RangeFuncBound
import Derived.RangeFuncCalls
import Derived.RangeFuncLeaves
import Derived.RangeFuncBox
import Derived.Shelf.Abstract
import Derived.OwnWalkIn
import Derived.TacticsInMore
import Derived.LoopNIn
import Derived.LoopIn
import Derived.Test.YtgmajkppbhiopaaGreatProg
import Derived.Deep.MidRow
import Derived.RowKit
import Derived.ProofKit
import Derived.OpenShut
import Derived.Deep.Slices
set_option linter.unusedSimpArgs false
set_option linter.unusedVariables false
set_option maxRecDepth 100000
set_option maxHeartbeats 4000000
namespace Go.Proofs.YtgmajkppbhiopaaGreat
open Go.RowKit
open Tryz
def nth (l:List Int) (k:Nat):Int:=l.getD k 0
theorem dE (l:List Int) (k:Nat) (h:k<l.length):nth l k=l[k]:=by simp [nth,List.getD,h]
theorem ir (l:List Int) (k:Nat) (h:k<l.length):l.take (k+1)=l.take k++[nth l k]:=by
 rw [List.take_succ_eq_append_getElem h,dE l k h]
theorem bj {k:IntKind} {a b:Int} (h:a=b):Ending.returned (.int k a)=.returned (.int k b):=by rw [h]
theorem dW {a b:Bool} (h:a=b):Ending.returned (.bool a)=.returned (.bool b):=by rw [h]
def aA (q:IntKind) (zs:List Int):List Value:=zs.map (.int q)
theorem bU (q:IntKind) (zs:List Int):(aA q zs).length=zs.length:=by simp [aA]
theorem cQ (q:IntKind) (a b:List Int):aA q (a++b)=aA q a++aA q b:=by simp [aA]
theorem me (q:IntKind) (zs:List Int) (k:Nat) (h:k<zs.length):(aA q zs)[k]?=some (.int q (nth zs k)):=by
 simp [aA,dE zs k h,h]
theorem wU (q:IntKind) (zs:List Int) (k:Nat) (a:Int):(aA q zs).set k (.int q a)=aA q (zs.set k a):=by simp [aA,List.map_set]
theorem cG (q:IntKind) (zs:List Int):∀u∈aA q zs,u.oneCell'=true:=ints_oneCell q zs
theorem de (q:IntKind) (zs:List Int) (n:Nat):(aA q zs).take n=aA q (zs.take n):=by simp [aA,List.map_take]
theorem dm (q:IntKind) (zs:List Int) (n:Nat):(aA q zs).drop n=aA q (zs.drop n):=by simp [aA,List.map_drop]
theorem eZ (q:IntKind) (n:Nat) (a:Int):List.replicate n (Value.int q a)=aA q (List.replicate n a):=by simp [aA]
def Rd (w:World) (A:Option Addr) (xs:List Value):Prop:=
 ∀k u,xs[k]?=some u->∃b o,A=some (ar b o)/\w.cell? (ar b (o+k))=some u
theorem az {w:World} {a:Addr} {u:Value} (h:w.cell? a=some u):a.block<w.heap.size:=World.block_lt_of_cell? w a h
theorem Rd.nil (w:World) (A:Option Addr):Rd w A []:=fun k u h=>by simp at h
theorem Rd.num {w:World} {A:Option Addr} {q:IntKind} {zs:List Int} (h:Rd w A (aA q zs)) {k:Nat} (hk:k<zs.length):
  ∃b o,A=some (ar b o)/\w.cell? (ar b (o+k))=some (.int q (nth zs k)):=h k _ (me q zs k hk)
theorem Rd.same {w i:World} {A:Option Addr} {xs:List Value} (h:Rd w A xs) (hb:∀b,b<w.heap.size->i.heap[b]?=w.heap[b]?):Rd i A xs:=fun k u p=>by
 obtain ⟨b,o,hA,hc⟩:=h k u p
 exact ⟨b,o,hA,(World.cell?_of_block (w:=w) (hb _ (az hc))).trans hc⟩
theorem Rd.below {w i:World} {A:Option Addr} {xs:List Value} (h:Rd w A xs) (hb:aq w i):Rd i A xs:=h.same hb.block
theorem Rd.alloc {w:World} {A:Option Addr} {xs:List Value} (h:Rd w A xs) (o:Obj):Rd (w.alloc o) A xs:=h.same fun b hb=>L0 w o b hb
theorem Rd.drew {w:World} {A:Option Addr} {xs:List Value} (h:Rd w A xs):Rd w.drew A xs:=h
theorem Rd.drewN {w:World} {A:Option Addr} {xs:List Value} (h:Rd w A xs) (n:Nat):Rd (w.drewN n) A xs:=h
theorem Rd.belowB {B:Nat} {w v:World} {A:Option Addr} {xs:List Value} (h:Rd w A xs) (hb:Below B w v) (hA:∀a,A=some a->a.block<B):Rd v A xs:=fun k u x=>by
 obtain ⟨b,o,i,hc⟩:=h k u x
 exact ⟨b,o,i,(hb.cell (p:=(ar b (o+k))) (show b<B from hA _ i)).trans hc⟩
theorem Rd.own {w:World} {base:Nat} {e:TypeId} {size n c:Nat} {A:Option Addr} {xs:List Value} (h:w.ownsRow base e size (.slice A n c) n xs):Rd w A xs:=fun k u p=>by
 have hk:k<xs.length:=(Mp.1 p).1
 rcases h.2 with ⟨_,y⟩ | ⟨g,cap,v,o,_,hg,_,_,_,i⟩
 ·have:=h.1;rw [y] at this;omega
 ·simp only [MC] at o
  obtain ⟨rfl,_,rfl⟩:=o
  refine ⟨g,0,rfl,?_⟩
  have x:=h.cellAt k (by have:=h.1;omega)
  rw [MH,x,p]
theorem Rd.grown {w p:World} {row:Option Nat} {A:Option Addr} {xs:List Value} (h:Rd w A xs) (hg:w.grownBy p row) (hA:∀a,A=some a->some a.block≠row):Rd p A xs:=fun k u v=>by
 obtain ⟨b,o,i,hc⟩:=h k u v
 exact ⟨b,o,i,hg.cell hc (show some b≠row from hA _ i)⟩
theorem Rd.take {w:World} {A:Option Addr} {xs:List Value} (h:Rd w A xs) (n:Nat):Rd w A (xs.take n):=fun k u i=>by
 rw [List.getElem?_take] at i
 split at i
 ·exact h k u i
 ·cases i
theorem Rd.drop {w:World} {b o:Nat} {xs:List Value} (h:Rd w (some (ar b o)) xs) (n:Nat):Rd w (some (ar b (o+n))) (xs.drop n):=fun k u i=>by
 rw [List.getElem?_drop] at i
 obtain ⟨p,v,e,hc⟩:=h _ _ i
 injection e with e
 injection e with e1 e2 _
 subst e1;subst e2
 exact ⟨b,o+n,rfl,by rw [MG];exact hc⟩
theorem dD (w:World) (xs:List Value) (e:TypeId) (n:Nat) (hn:w.heap.size=n):Rd (w.alloc (.cells xs.toArray e)) (some (ar n 0)) xs:=fun k u h=>by
 subst hn
 refine ⟨_,_,rfl,?_⟩
 rw [MH,LQ _ w.heap.size k xs.toArray e (0,0) (LP w _)]
 simpa using h
theorem aD {w:World} {base:Nat} {e:TypeId} {size:Nat} {v:Value} {n:Nat} {xs:List Value} (h:w.ownsRow base e size v n xs):∃A c,v=.slice A n c/\n<=c:=by
 rcases h.2 with ⟨rfl,rfl⟩ | ⟨g,cap,i,rfl,_,_,hc,_⟩
 ·exact ⟨none,0,rfl,LO _⟩
 ·exact ⟨_,_,rfl,hc⟩
theorem ay {w i:World} {base:Nat} {e:TypeId} {size:Nat} {v:Value} {n:Nat} {xs:List Value} (h:w.ownsRow base e size v n xs) (hb:aq w i):i.ownsRow base e size v n xs:=
 h.kept (row:=none) ⟨hb.os,hb.tape,hb.output,hb.size,fun k hk _=>hb.block k hk⟩ (by cases hv:v.ownBlock<;>simp)
theorem bT {w:World} {base:Nat} {e:TypeId} {size:Nat} {v:Value} {n:Nat} {xs:List Value} (h:w.ownsRow base e size v n xs) (m:Nat):(w.drewN m).ownsRow base e size v n xs:=h
theorem aE {w:World} {base base':Nat} {e:TypeId} {size:Nat} {v:Value} {n:Nat} {xs:List Value} (h:w.ownsRow base e size v n xs) (hb:base'<=base):w.ownsRow base' e size v n xs:=by
 refine ⟨h.1,?_⟩
 rcases h.2 with p | ⟨g,cap,i,o,hg,r⟩
 ·exact .inl p
 ·exact .inr ⟨g,cap,i,o,LU hb hg,r⟩
structure Keep (S:Nat->Prop) (w w':World):Prop where
 os:w'.os=w.os
 tape:w'.tape=w.tape
 output:w'.output=w.output
 size:w.heap.size<=w'.heap.size
 block:∀k,k<w.heap.size->¬S k->w'.heap[k]?=w.heap[k]?
theorem Keep.refl (S:Nat->Prop) (w:World):Keep S w w:=⟨rfl,rfl,rfl,LO _,fun _ _ _=>rfl⟩
theorem Keep.trans {S:Nat->Prop} {a b c:World} (h:Keep S a b) (k:Keep S b c):Keep S a c:=
 ⟨k.os.trans h.os,k.tape.trans h.tape,k.output.trans h.output,LU h.size k.size,fun i o hn=>(k.block i (LV o h.size) hn).trans (h.block i o hn)⟩
theorem Keep.below {S:Nat->Prop} {w i:World} (h:aq w i):Keep S w i:=⟨h.os,h.tape,h.output,h.size,fun k hk _=>h.block k hk⟩
theorem Keep.mono {S S':Nat->Prop} {w i:World} (h:Keep S w i) (hs:∀k,k<w.heap.size->S k->S' k):Keep S' w i:=⟨h.os,h.tape,h.output,h.size,fun k hk hn=>h.block k hk fun o=>hn (hs k hk o)⟩
theorem Keep.drewN {S:Nat->Prop} {a w:World} (h:Keep S a w) (n:Nat):Keep S a (w.drewN n):=⟨h.os,h.tape,h.output,h.size,h.block⟩
theorem Keep.drew {S:Nat->Prop} {a w:World} (h:Keep S a w):Keep S a w.drew:=⟨h.os,h.tape,h.output,h.size,h.block⟩
theorem Keep.alloc {S:Nat->Prop} {a w:World} (h:Keep S a w) (o:Obj):Keep S a (w.alloc o):=h.trans (Keep.below ((LR _ w).alloc (LO _) o))
theorem Keep.setCell {S:Nat->Prop} {a w:World} (h:Keep S a w) (p:Addr) (i:a.heap.size<=p.block\/S p.block) (u:Value):Keep S a (w.setCell p u):=
 ⟨h.os,h.tape,h.output,by simp [World.setCell];exact h.size,fun k hk hn=>(Below.heap_setCell w p u k (fun e=>by subst e;rcases i with i | i<;>first | omega | exact hn i)).trans (h.block k hk hn)⟩
theorem Keep.grown {S:Nat->Prop} {a w i:World} (h:Keep S a w) {row:Option Nat} (hg:w.grownBy i row) (hr:∀k,row=some k->a.heap.size<=k\/S k):Keep S a i:=
 ⟨hg.os.trans h.os,hg.tape.trans h.tape,hg.output.trans h.output,LU h.size hg.size,fun k hk hn=>
  (hg.block k (LV hk h.size) fun e=>by
   rcases hr k e.symm with h1 | h1
   ·omega
   ·exact hn h1).trans (h.block k hk hn)⟩
theorem Keep.toBelow {S:Nat->Prop} {B:Nat} {w i:World} (h:Keep S w i) (hB:B<=w.heap.size) (o:∀k,S k->B<=k):Below B w i:=
 ⟨h.os,h.tape,h.output,h.size,fun k hk=>h.block k ap fun hs=>by have:=o k hs;omega⟩
theorem Keep.cell {S:Nat->Prop} {w i:World} (h:Keep S w i) {p:Addr} {u:Value} (hc:w.cell? p=some u) (o:¬S p.block):i.cell? p=some u:=
 (World.cell?_of_block (w:=w) (h.block _ (az hc) o)).trans hc
theorem Keep.rd {S:Nat->Prop} {w p:World} (h:Keep S w p) {A:Option Addr} {xs:List Value} (hr:Rd w A xs) (hA:∀a,A=some a->¬S a.block):Rd p A xs:=fun k u v=>by
 obtain ⟨b,o,i,hc⟩:=hr k u v
 exact ⟨b,o,i,h.cell hc (show ¬S b from hA _ i)⟩
theorem Keep.own {S:Nat->Prop} {w u:World} (h:Keep S w u) {base:Nat} {e:TypeId} {size:Nat} {v:Value} {n:Nat} {xs:List Value} (p:w.ownsRow base e size v n xs) (y:∀k,v.ownBlock=some k->¬S k):u.ownsRow base e size v n xs:=by
 refine ⟨p.1,?_⟩
 rcases p.2 with x | ⟨g,cap,o,rfl,hg,i,r⟩
 ·exact .inl x
 ·exact .inr ⟨g,cap,o,rfl,hg,(h.block g (LN i) (y g rfl)).trans i,r⟩
structure dt (P:Program) (t e:TypeId) (z:Value) (size bytes:Nat):Prop where
 und:P.underlying t=some (.slice e)
 info:∃i,P.info? e=some i/\i.zero=some z/\i.size=size/\i.bytes=bytes
 zs:z.cells.size=size
 pos:0<size
theorem aY {P:Program} {t e:TypeId} {z:Value} {size p:Nat} (T:dt P t e z size p) (w:World) {ops:Array Oper} {rest:List Oper} {o:Oper} {a:Act} {Q:Exit->Act->World->Prop}
  (D:o.guard=none) (s x:Operand) (J:o.op=.call {callee:=.builtin .append,args:=#[s,x],argTypes:=#[t,t]})
  (base:Nat) (v:Value) (n:Nat) (xs:List Value) (hs:a.eval s=v) (hown:w.ownsRow base e size v n xs)
  (us:List Value) (hx:a.eval x=.slice (some (ar w.heap.size 0)) 1 1) (hus:us.length=size) (h1:∀u∈us,u.oneCell'=true)
  (hb:(n+1)*p<=140737488355328) (h63:n+1<=maxLen) (hbase:base<=w.heap.size)
  (h:∀g c A,A.ownsRow base e size (.slice (some (ar g 0)) (n+1) c) (n+1) (xs++us)->Below base w A->w.grownBy A v.ownBlock->
   wpList P ops Q rest (a.put o.dst (.slice (some (ar g 0)) (n+1) c)) A):wpList P ops Q (o::rest) a (w.alloc (.cells us.toArray e)):=by
 obtain ⟨i,O,H,I,C⟩:=T.info
 refine wpList_append_own (w.alloc (.cells us.toArray e)) D s x t J base e i z size p T.und O H I C T.zs T.pos v n xs hs (hown.alloc _) (ar w.heap.size 0) 1 1 us hx (by simpa using hus) ?_ h1 h63 hb
  (by simp;omega) ?_
 ·intro j u N
  rw [Addr.add_lit,MH,LQ _ w.heap.size j us.toArray e (0,0) (LP w _)]
  simpa using N
 ·intro v' A y hg _
  obtain ⟨g,c,rfl,L,_⟩:=y.form ap
  have B:w.grownBy A v.ownBlock:=(World.grownBy_alloc w _ _).trans hg
  exact h g c A y ((LR base w).grown B hbase fun k hk=>(hown.lt k hk).1) B
theorem nm {P:Program} {t e:TypeId} {z:Value} {size h:Nat} (T:dt P t e z size h) (w:World) (base:Nat) (y:TypeId) (v:Value) (n:Nat) (xs:List Value) (o:w.ownsRow base e size v n xs) (c:Nat):
  (Builtin.append_ #[t,t] y #[v,.slice none 0 c]).run P w=.ok v w:=by
 obtain ⟨i,u,_,_,_⟩:=T.info
 rcases o.2 with ⟨rfl,rfl⟩ | ⟨g,cap,x,rfl,_,_,p,_⟩
 ·simp [Builtin.append_,run_underlying T.und,sizeOf,typeInfo,u,Builtin.lenOf,Builtin.firstCells]
 ·simp [Builtin.append_,run_underlying T.und,sizeOf,typeInfo,u,Builtin.lenOf,Builtin.firstCells,p,storeCells]
theorem AI {P:Program} {t e:TypeId} {z:Value} {size p:Nat} (T:dt P t e z size p) (w:World) (base:Nat) (O:TypeId) (v:Value) (n:Nat) (xs:List Value) (x:w.ownsRow base e size v n xs)
  (A:Option Addr) (m c:Nat) (B:List Value) (hr:Rd w A B) (D:B.length=m*size) (h1:∀u∈B,u.oneCell'=true)
  (hb:(n+m)*p<=140737488355328) (L:n+m<=maxLen) (y:base<=w.heap.size):
  ∃v' C,(Builtin.append_ #[t,t] O #[v,.slice A m c]).run P w=.ok v' C/\C.ownsRow base e size v' (n+m) (xs++B)/\Below base w C/\w.grownBy C v.ownBlock/\(v'.ownBlock=v.ownBlock\/v'.ownBlock=some w.heap.size):=by
 cases A with
 | none=>
  have hm:B=[]:=by
   cases B with
   | nil=>rfl
   | cons u l=>obtain ⟨b,o,h,_⟩:=hr 0 u rfl;cases h
  subst hm
  have J:m=0:=by
   have:=T.pos
   rcases Nat.eq_zero_or_pos m with h | h
   ·exact h
   ·have:=Nat.mul_pos h this;simp at D;omega
  subst J
  exact ⟨v,w,nm T w base O v n xs x c,by simpa using x,LR _ _,World.grownBy.refl _ _,.inl rfl⟩
 | some ad=>
  obtain ⟨i,Y,H,I,N⟩:=T.info
  have hc:∀j u,B[j]?=some u->w.cell? (ad.add j)=some u:=fun j u V=>by
   obtain ⟨b,o,e,h⟩:=hr j u V
   injection e with e
   subst e
   rw [Addr.add_lit];exact h
  obtain ⟨v',C,hr,R,Q,Z,U⟩:=run_append_own_at (P:=P) w base t O e i z size p T.und Y H I N T.zs T.pos v n xs x ad m c B D hc h1 L hb y
  exact ⟨v',C,hr,R,(LR base w).grown Q y fun k hk=>(x.lt k hk).1,Q,U⟩
theorem dy {P:Program} {t e:TypeId} {z:Value} {size i:Nat} (T:dt P t e z size i) (w:World) {ops:Array Oper} {rest:List Oper} {o:Oper} {a:Act} {Q:Exit->Act->World->Prop}
  (D:o.guard=none) (s x:Operand) (J:o.op=.call {callee:=.builtin .append,args:=#[s,x],argTypes:=#[t,t]})
  (base:Nat) (v:Value) (n:Nat) (xs:List Value) (hs:a.eval s=v) (hown:w.ownsRow base e size v n xs)
  (A:Option Addr) (m c:Nat) (us:List Value) (hx:a.eval x=.slice A m c) (hr:Rd w A us) (hus:us.length=m*size) (h1:∀u∈us,u.oneCell'=true)
  (hb:(n+m)*i<=140737488355328) (h63:n+m<=maxLen) (hbase:base<=w.heap.size)
  (h:∀B y p,p.ownsRow base e size (.slice B (n+m) y) (n+m) (xs++us)->Below base w p->w.grownBy p v.ownBlock->((Value.slice B (n+m) y).ownBlock=v.ownBlock\/(Value.slice B (n+m) y).ownBlock=some w.heap.size)->wpList P ops Q rest (a.put o.dst (.slice B (n+m) y)) p):
  wpList P ops Q (o::rest) a w:=by
 refine wpList_plain D fun R H=>?_
 obtain ⟨v',p,C,I,O,L,N⟩:=AI T w base o.type v n xs hown A m c us hr hus h1 hb h63 hbase
 obtain ⟨B,y,rfl,_⟩:=aD I
 unfold Oper.wp
 simp [execOp,J,resolve,invoke,builtin,hs,hx,C,Result.andThen]
 exact H _ _ (h B y p I O L N)
theorem iB {P:Program} {t e:TypeId} {z:Value} {size i:Nat} (T:dt P t e z size i) {w:World} {ops:Array Oper} {o:Oper} {a:Act} {K:Act->World->Prop} {Q:Exit->Act->World->Prop} {E:Prop}
  (D:o.guard=none) (s x:Operand) (I:o.op=.call {callee:=.builtin .append,args:=#[s,x],argTypes:=#[t,t]})
  (base:Nat) (v:Value) (n:Nat) (xs:List Value) (hs:a.eval s=v) (hown:w.ownsRow base e size v n xs)
  (A:Option Addr) (m c:Nat) (us:List Value) (hx:a.eval x=.slice A m c) (hr:Rd w A us) (hus:us.length=m*size) (h1:∀u∈us,u.oneCell'=true)
  (hb:(n+m)*i<=140737488355328) (h63:n+m<=maxLen) (hbase:base<=w.heap.size)
  (h:∀B y p,p.ownsRow base e size (.slice B (n+m) y) (n+m) (xs++us)->Below base w p->w.grownBy p v.ownBlock->((Value.slice B (n+m) y).ownBlock=v.ownBlock\/(Value.slice B (n+m) y).ownBlock=some w.heap.size)->K (a.put o.dst (.slice B (n+m) y)) p):
  if Region.wanted o (yielded ops a.tmps)=true then Oper.wp P o a w K Q else E:=by
 have hw:Region.wanted o (yielded ops a.tmps)=true:=by simp [Region.wanted,D]
 rw [if_pos hw]
 obtain ⟨v',p,C,H,N,J,L⟩:=AI T w base o.type v n xs hown A m c us hr hus h1 hb h63 hbase
 obtain ⟨B,y,rfl,_⟩:=aD H
 unfold Oper.wp
 simp [execOp,I,resolve,invoke,builtin,hs,hx,C,Result.andThen]
 exact h B y p H N J L
theorem ey (w:World) (e:TypeId) (size:Nat):(w.alloc (.cells #[] e)).ownsRow w.heap.size e size (.slice (some (ar w.heap.size 0)) 0 0) 0 []:=
 World.ownsRow_made w #[] 0 (LO _) (by unfold maxLen;omega) (by simp)
theorem ti {P:Program} {t e:TypeId} {z:Value} {h:Nat} (T:dt P t e z 1 h) (w:World) {ops:Array Oper} {rest:List Oper} {o:Oper} {a:Act} {Q:Exit->Act->World->Prop}
  (hg:o.guard=none) (l c:Operand) (C:o.op=Op.makeSlice t l c) (B:z.cells=#[z])
  (n:Nat) (hl:a.eval l=MO (n:Int)) (hc:a.eval c=MO (n:Int)) (H:h*n<=281474976710656) (b3:n<=maxLen)
  (D:∀v,v.ownsRow w.heap.size e 1 (.slice (some (ar w.heap.size 0)) n n) n (List.replicate n z)->aq w v->
   wpList P ops Q rest (a.put o.dst (.slice (some (ar w.heap.size 0)) n n)) v):wpList P ops Q (o::rest) a w:=by
 obtain ⟨i,I,y,A,x⟩:=T.info
 refine wpList_make_full w hg l c t C w.heap.size e i z 1 T.und I y A .i64 .i64 n n n hl hc rfl rfl (by rw [x];exact H) b3 (LO _) ?_
 intro v u p
 rw [B,Nat.mul_one,toList_madeCells_one] at u
 exact D v u ⟨p.os,p.tape,p.output,p.size,fun k hk=>p.block k hk (by simp)⟩
def Cs (w:World) (b:Nat):Nat->List Value->Prop
 | _,[]=>True
 | i,v::vs=>w.cell? (ar b i)=some v/\Cs w b (i+1) vs
theorem JP (w:World) (b:Nat) (o:List Value) (hc:∀j,w.cell? (ar b j)=o[j]?):∀(vs:List Value) (i:Nat),(∀j,vs[j]?=o[i+j]?)->Cs w b i vs
 | [],_,_=>trivial
 | v::vs,i,h=>⟨by rw [hc];exact (h 0).symm,JP w b o hc vs (i+1) fun j=>by have:=h (j+1);simpa [MG,Nat.add_comm 1 j] using this⟩
def Bx (w:World) (b:Nat) (vs:List Value):Prop:=Cs w b 0 vs/\b<w.heap.size/\∀j,w.frozen? (ar b j)=false
theorem bx {w:World} {b:Nat} {vs:List Value} {t:TypeId} (h:w.heap[b]?=some (.cells vs.toArray t (0,0))):Bx w b vs:=
 ⟨JP w b vs (fun j=>by rw [LQ w b j _ _ _ h];simp) vs 0 (fun j=>by simp),LN h,fun j=>LX w b j _ _ h⟩
theorem bx1 {w:World} {b:Nat} {t:TypeId} {v0:Value} (h:w.heap[b]?=some (.cells #[v0] t (0,0))):(w.cell? (ar b 0)=some v0)/\∀j,w.frozen? (ar b j)=false:=by
 have:=bx (vs:=[v0]) h;simp only [Bx,Cs,Nat.reduceAdd,and_true] at this;exact ⟨this.1,this.2.2⟩
theorem bx2 {w:World} {b:Nat} {t:TypeId} {v0 v1:Value} (h:w.heap[b]?=some (.cells #[v0,v1] t (0,0))):(w.cell? (ar b 0)=some v0/\w.cell? (ar b 1)=some v1)/\∀j,w.frozen? (ar b j)=false:=by
 have:=bx (vs:=[v0,v1]) h;simp only [Bx,Cs,Nat.reduceAdd,and_true] at this;exact ⟨this.1,this.2.2⟩
theorem bx3 {w:World} {b:Nat} {t:TypeId} {v0 v1 v2:Value} (h:w.heap[b]?=some (.cells #[v0,v1,v2] t (0,0))):(w.cell? (ar b 0)=some v0/\w.cell? (ar b 1)=some v1/\w.cell? (ar b 2)=some v2)/\∀j,w.frozen? (ar b j)=false:=by
 have:=bx (vs:=[v0,v1,v2]) h;simp only [Bx,Cs,Nat.reduceAdd,and_true] at this;exact ⟨this.1,this.2.2⟩
theorem bx4 {w:World} {b:Nat} {t:TypeId} {v0 v1 v2 v3:Value} (h:w.heap[b]?=some (.cells #[v0,v1,v2,v3] t (0,0))):(w.cell? (ar b 0)=some v0/\w.cell? (ar b 1)=some v1/\w.cell? (ar b 2)=some v2/\w.cell? (ar b 3)=some v3)/\∀j,w.frozen? (ar b j)=false:=by
 have:=bx (vs:=[v0,v1,v2,v3]) h;simp only [Bx,Cs,Nat.reduceAdd,and_true] at this;exact ⟨this.1,this.2.2⟩
theorem bx5 {w:World} {b:Nat} {t:TypeId} {v0 v1 v2 v3 v4:Value} (h:w.heap[b]?=some (.cells #[v0,v1,v2,v3,v4] t (0,0))):(w.cell? (ar b 0)=some v0/\w.cell? (ar b 1)=some v1/\w.cell? (ar b 2)=some v2/\w.cell? (ar b 3)=some v3/\w.cell? (ar b 4)=some v4)/\∀j,w.frozen? (ar b j)=false:=by
 have:=bx (vs:=[v0,v1,v2,v3,v4]) h;simp only [Bx,Cs,Nat.reduceAdd,and_true] at this;exact ⟨this.1,this.2.2⟩
theorem bx6 {w:World} {b:Nat} {t:TypeId} {v0 v1 v2 v3 v4 v5:Value} (h:w.heap[b]?=some (.cells #[v0,v1,v2,v3,v4,v5] t (0,0))):(w.cell? (ar b 0)=some v0/\w.cell? (ar b 1)=some v1/\w.cell? (ar b 2)=some v2/\w.cell? (ar b 3)=some v3/\w.cell? (ar b 4)=some v4/\w.cell? (ar b 5)=some v5)/\∀j,w.frozen? (ar b j)=false:=by
 have:=bx (vs:=[v0,v1,v2,v3,v4,v5]) h;simp only [Bx,Cs,Nat.reduceAdd,and_true] at this;exact ⟨this.1,this.2.2⟩
theorem bx9 {w:World} {b:Nat} {t:TypeId} {v0 v1 v2 v3 v4 v5 v6 v7 v8:Value} (h:w.heap[b]?=some (.cells #[v0,v1,v2,v3,v4,v5,v6,v7,v8] t (0,0))):(w.cell? (ar b 0)=some v0/\w.cell? (ar b 1)=some v1/\w.cell? (ar b 2)=some v2/\w.cell? (ar b 3)=some v3/\w.cell? (ar b 4)=some v4/\w.cell? (ar b 5)=some v5/\w.cell? (ar b 6)=some v6/\w.cell? (ar b 7)=some v7/\w.cell? (ar b 8)=some v8)/\∀j,w.frozen? (ar b j)=false:=by
 have:=bx (vs:=[v0,v1,v2,v3,v4,v5,v6,v7,v8]) h;simp only [Bx,Cs,Nat.reduceAdd,and_true] at this;exact ⟨this.1,this.2.2⟩
theorem kl {w:World} {b:Nat} {t:TypeId} {v0 v1 v2 v3 v4 v5 v6 v7 v8 v9 v10 v11:Value} (h:w.heap[b]?=some (.cells #[v0,v1,v2,v3,v4,v5,v6,v7,v8,v9,v10,v11] t (0,0))):(w.cell? (ar b 0)=some v0/\w.cell? (ar b 1)=some v1/\w.cell? (ar b 2)=some v2/\w.cell? (ar b 3)=some v3/\w.cell? (ar b 4)=some v4/\w.cell? (ar b 5)=some v5/\w.cell? (ar b 6)=some v6/\w.cell? (ar b 7)=some v7/\w.cell? (ar b 8)=some v8/\w.cell? (ar b 9)=some v9/\w.cell? (ar b 10)=some v10/\w.cell? (ar b 11)=some v11)/\∀j,w.frozen? (ar b j)=false:=by
 have:=bx (vs:=[v0,v1,v2,v3,v4,v5,v6,v7,v8,v9,v10,v11]) h;simp only [Bx,Cs,Nat.reduceAdd,and_true] at this;exact ⟨this.1,this.2.2⟩
theorem vA {w:World} {b:Nat} {t:TypeId} {v0 v1 v2 v3 v4 v5 v6 v7 v8 v9 v10 v11 i:Value} (h:w.heap[b]?=some (.cells #[v0,v1,v2,v3,v4,v5,v6,v7,v8,v9,v10,v11,i] t (0,0))):(w.cell? (ar b 0)=some v0/\w.cell? (ar b 1)=some v1/\w.cell? (ar b 2)=some v2/\w.cell? (ar b 3)=some v3/\w.cell? (ar b 4)=some v4/\w.cell? (ar b 5)=some v5/\w.cell? (ar b 6)=some v6/\w.cell? (ar b 7)=some v7/\w.cell? (ar b 8)=some v8/\w.cell? (ar b 9)=some v9/\w.cell? (ar b 10)=some v10/\w.cell? (ar b 11)=some v11/\w.cell? (ar b 12)=some i)/\∀j,w.frozen? (ar b j)=false:=by
 have:=bx (vs:=[v0,v1,v2,v3,v4,v5,v6,v7,v8,v9,v10,v11,i]) h;simp only [Bx,Cs,Nat.reduceAdd,and_true] at this;exact ⟨this.1,this.2.2⟩
theorem Ie {w:World} {b:Nat} {t:TypeId} {v0 v1 v2 v3 v4 v5 v6 v7 v8 v9 v10 v11 o i:Value} (h:w.heap[b]?=some (.cells #[v0,v1,v2,v3,v4,v5,v6,v7,v8,v9,v10,v11,o,i] t (0,0))):(w.cell? (ar b 0)=some v0/\w.cell? (ar b 1)=some v1/\w.cell? (ar b 2)=some v2/\w.cell? (ar b 3)=some v3/\w.cell? (ar b 4)=some v4/\w.cell? (ar b 5)=some v5/\w.cell? (ar b 6)=some v6/\w.cell? (ar b 7)=some v7/\w.cell? (ar b 8)=some v8/\w.cell? (ar b 9)=some v9/\w.cell? (ar b 10)=some v10/\w.cell? (ar b 11)=some v11/\w.cell? (ar b 12)=some o/\w.cell? (ar b 13)=some i)/\∀j,w.frozen? (ar b j)=false:=by
 have:=bx (vs:=[v0,v1,v2,v3,v4,v5,v6,v7,v8,v9,v10,v11,o,i]) h;simp only [Bx,Cs,Nat.reduceAdd,and_true] at this;exact ⟨this.1,this.2.2⟩
theorem ki {w:World} {b:Nat} {t:TypeId} {v0 v1 v2 v3 v4 v5 v6 v7 v8 v9 v10 v11 p o i:Value} (h:w.heap[b]?=some (.cells #[v0,v1,v2,v3,v4,v5,v6,v7,v8,v9,v10,v11,p,o,i] t (0,0))):(w.cell? (ar b 0)=some v0/\w.cell? (ar b 1)=some v1/\w.cell? (ar b 2)=some v2/\w.cell? (ar b 3)=some v3/\w.cell? (ar b 4)=some v4/\w.cell? (ar b 5)=some v5/\w.cell? (ar b 6)=some v6/\w.cell? (ar b 7)=some v7/\w.cell? (ar b 8)=some v8/\w.cell? (ar b 9)=some v9/\w.cell? (ar b 10)=some v10/\w.cell? (ar b 11)=some v11/\w.cell? (ar b 12)=some p/\w.cell? (ar b 13)=some o/\w.cell? (ar b 14)=some i)/\∀j,w.frozen? (ar b j)=false:=by
 have:=bx (vs:=[v0,v1,v2,v3,v4,v5,v6,v7,v8,v9,v10,v11,p,o,i]) h;simp only [Bx,Cs,Nat.reduceAdd,and_true] at this;exact ⟨this.1,this.2.2⟩
theorem sb {w:World} {b:Nat} {x:Obj} (h:w.heap[b]?=some x):∀i,aq w i->i.heap[b]?=some x:=fun _ q=>(q.block b (LN h)).trans h
theorem sl {w:World} {b:Nat} {x:Obj} (h:w.heap[b]?=some x):∀i,aq w i->b<i.heap.size:=fun i q=>LV (LN h) q.size
theorem bt {a b c:World} (h:aq a b) (k:aq b c):aq a c:=h.trans (k.mono h.size)
theorem br (w:World):aq w w:=LR _ w
theorem ss {w:World} {b i:Nat} {t:TypeId} {v:Value} {p o:Array Value} (h:w.heap[b]?=some (.cells p t (0,0))) (e:p.setIfInBounds i v=o:=by simp):(w.setCell (ar b i) v).heap[b]?=some (.cells o t (0,0)):=by
 subst e;exact MM w b i p t v h
theorem ss2 {w:World} {b i j:Nat} {t:TypeId} {v u:Value} {p o:Array Value} (h:w.heap[b]?=some (.cells p t (0,0))) (e:(p.setIfInBounds i v).setIfInBounds j u=o:=by simp):((w.setCell (ar b i) v).setCell (ar b j) u).heap[b]?=some (.cells o t (0,0)):=ss (ss h rfl) e
theorem ss3 {w:World} {b i j k:Nat} {t:TypeId} {v u x:Value} {p o:Array Value} (h:w.heap[b]?=some (.cells p t (0,0))) (e:((p.setIfInBounds i v).setIfInBounds j u).setIfInBounds k x=o:=by simp):(((w.setCell (ar b i) v).setCell (ar b j) u).setCell (ar b k) x).heap[b]?=some (.cells o t (0,0)):=ss (ss2 h rfl) e
section
variable {P:Program} {ops:Array Oper} {Q:Exit->Act->World->Prop} {md:Region.Mode} {S:World->Prop} {n:Nat}
def dX (P:Program) (md:Region.Mode) (ops:Array Oper) (Q:Exit->Act->World->Prop) (S:World->Prop) (n:Nat):Nat->Array Bool->Act->World->Prop
 | 0,listed,a,w=>Region.ready md ops listed=[]/\Q .normal a w
 | fuel+1,listed,a,w=>
  (Region.ready md ops listed=[]->Q .normal a w)/\
  ∀i∈Region.ready md ops listed,wpOp P ops Q i (fun o h=>((listed.setIfInBounds i true).getD n true=false->S h)/\dX P md ops Q S n fuel (listed.setIfInBounds i true) o h) a w
theorem qN:∀(o:Nat) (p:Array Bool) (a:Act) (w:World),dX P md ops Q S n o p a w->wpAny P md ops Q o p a w
 | 0,_,_,_,h=>h
 | o+1,_,_,_,h=>⟨h.1,fun i y=>wpOp_mono (fun x v u=>qN o _ x v u.2) (h.2 i y)⟩
theorem Fh {h:Array Bool} {i j:Nat} (hB:Region.waitsFor md ops n i=true) (B:i∈Region.ready md ops h) (A:j∈Region.ready md ops h):j≠n:=fun v=>by
 subst v
 obtain ⟨_,D,u,o⟩:=mem_ready.1 A
 obtain ⟨C,x,e,he,hb,p⟩:=Region.waitsFor_spec hB
 have:C=D:=Option.some.inj (x.symm.trans u)
 subst this
 have y:=o e he hb
 rw [p,getD_both (mem_ready.1 B).1] at y
 cases y
theorem uM {i:Nat} {J:Oper} {v:Value} (hB:Region.waitsFor md ops n i=true) (a3:i≠n) (hi:ops[i]?=some J) (D:∀(j:Nat) (o:Oper) R b,ops[j]?=some o->o.op≠.select R b)
  (hQ:∀c a w,Q (.panic c) (a.put J.dst v) w->Q (.panic c) a w):
  ∀(x:Nat) (p:Array Bool) (a:Act) (w:World),
   (∀j L,ops[j]?=some L->j≠i->p.getD j true=false->(∀e∈L.after,Region.binds md e=true->e.on≠i)->J.apart ops L=true)->
   i∈Region.ready md ops p->YieldsIf P ops S J v a->p.getD n true=false->S w->
   dX P md ops Q S n x (p.setIfInBounds i true) (a.put J.dst v) w->dX P md ops Q S n (x+1) p a w:=by
 intro x
 induction x with
 | zero=>
  intro p a w _ hr hy hn Z H
  refine ⟨fun h=>(by rw [h] at hr;cases hr),fun j Y=>?_⟩
  by_cases u:j=i
  ·subst u;exact hy.wpOp hi Z ⟨fun _=>Z,H⟩
  ·have:=ready_mono Y u
   rw [H.1] at this
   cases this
 | succ x ih=>
  intro p a w A hr hy hn Z H
  refine ⟨fun h=>(by rw [h] at hr;cases hr),fun j Y=>?_⟩
  by_cases u:j=i
  ·subst u;exact hy.wpOp hi Z ⟨fun _=>Z,H⟩
  ·have h1:=H.2 j (ready_mono Y u)
   have T:=Fh hB hr Y
   have y:(p.setIfInBounds j true).getD n true=false->((p.setIfInBounds i true).setIfInBounds j true).getD n true=false:=fun h=>by
    rw [Array.setIfInBounds_comm _ _ (Ne.symm u),getD_set_ne true a3];exact h
   obtain ⟨C,L,I,V⟩:=mem_ready.1 Y
   have O:∀e∈L.after,Region.binds md e=true->e.on≠i:=fun e he hb a2=>by
    have h1:=V e he hb
    rw [a2,getD_both (mem_ready.1 hr).1] at h1
    cases h1
   have h2:=wpOp_putIf I (A j L I u C O) (fun R b=>D i J R b hi) (fun R b=>D j L R b I) hQ hy h1
   have B:∀k ok,ops[k]?=some ok->k≠i->(p.setIfInBounds j true).getD k true=false->
     (∀e∈ok.after,Region.binds md e=true->e.on≠i)->J.apart ops ok=true:=fun k ok hk a1 U a0=>by
    refine A k ok hk a1 ?_ a0
    by_cases N:j=k
    ·subst N;exact C
    ·rw [getD_set_ne true N] at U;exact U
   refine wpOp_mono (fun a' w' h3=>⟨(fun h=>h3.2.1 (y h)),ih (p.setIfInBounds j true) a' w' B (ready_mono hr (Ne.symm u)) h3.1 (by rw [getD_set_ne true T];exact hn) (h3.2.1 (y (by rw [getD_set_ne true T];exact hn))) ?_⟩) h2
   rw [Array.setIfInBounds_comm _ _ u]
   exact h3.2.2
theorem sS {i:Nat} {L:Oper} {v:Value} (a3:i≠n) (hi:ops[i]?=some L) (I:∀(j:Nat) (o:Oper) T b,ops[j]?=some o->o.op≠.select T b)
  (hQ:∀c a w,Q (.panic c) (a.put L.dst v) w->Q (.panic c) a w):
  ∀(x:Nat) (p:Array Bool) (a:Act) (w:World),
   (∀j N,ops[j]?=some N->j≠i->p.getD j true=false->(∀e∈N.after,Region.binds md e=true->e.on≠i)->L.apart ops N=true)->
   i∈Region.ready md ops p->YieldsIf P ops (fun _=>True) L v a->(p.getD n true=false->S w)->
   dX P md ops Q S n x (p.setIfInBounds i true) (a.put L.dst v) w->dX P md ops Q S n (x+1) p a w:=by
 intro x
 induction x with
 | zero=>
  intro p a w _ hr Y hS H
  refine ⟨fun h=>(by rw [h] at hr;cases hr),fun j hj=>?_⟩
  by_cases u:j=i
  ·subst u;exact Y.wpOp hi trivial ⟨fun h=>hS (by
    by_cases B:j=n
    ·subst B;exact (mem_ready.1 hr).1
    ·rwa [getD_set_ne true B] at h),H⟩
  ·have:=ready_mono hj u
   rw [H.1] at this
   cases this
 | succ x ih=>
  intro p a w A hr Y hS H
  refine ⟨fun h=>(by rw [h] at hr;cases hr),fun j hj=>?_⟩
  by_cases u:j=i
  ·subst u;exact Y.wpOp hi trivial ⟨fun h=>hS (by
    by_cases B:j=n
    ·subst B;exact (mem_ready.1 hr).1
    ·rwa [getD_set_ne true B] at h),H⟩
  ·have h1:=H.2 j (ready_mono hj u)
   have y:(p.setIfInBounds j true).getD n true=false->((p.setIfInBounds i true).setIfInBounds j true).getD n true=false:=fun h=>by
    rw [Array.setIfInBounds_comm _ _ (Ne.symm u),getD_set_ne true a3];exact h
   obtain ⟨D,N,J,V⟩:=mem_ready.1 hj
   have R:∀e∈N.after,Region.binds md e=true->e.on≠i:=fun e he hb a2=>by
    have h1:=V e he hb
    rw [a2,getD_both (mem_ready.1 hr).1] at h1
    cases h1
   have h2:=wpOp_putIf J (A j N J u D R) (fun T b=>I i L T b hi) (fun T b=>I j N T b J) hQ Y h1
   have C:∀k ok,ops[k]?=some ok->k≠i->(p.setIfInBounds j true).getD k true=false->
     (∀e∈ok.after,Region.binds md e=true->e.on≠i)->L.apart ops ok=true:=fun k ok hk a1 U a0=>by
    refine A k ok hk a1 ?_ a0
    by_cases O:j=k
    ·subst O;exact D
    ·rw [getD_set_ne true O] at U;exact U
   refine wpOp_mono (fun a' w' Z=>⟨(fun h=>Z.2.1 (y h)),ih (p.setIfInBounds j true) a' w' C (ready_mono hr (Ne.symm u)) Z.1 (fun h=>Z.2.1 (y h)) ?_⟩) h2
   rw [Array.setIfInBounds_comm _ _ u]
   exact Z.2.2
theorem qe {i:Nat} {u:Oper} {v:Value} {p:Nat} {o:Array Bool} {a:Act} {w:World} (y:ops[i]?=some u) (hB:Region.waitsFor md ops n i=true) (x:i≠n) (hn:o.getD n true=false)
  (hs:Region.noSelect ops=true) (A:Region.free md ops o i=true) (hr:(Region.ready md ops o).contains i=true)
  (D:∀c a w,Q (.panic c) (a.put u.dst v) w->Q (.panic c) a w) (B:YieldsIf P ops S u v a) (C:S w)
  (h:dX P md ops Q S n p (o.setIfInBounds i true) (a.put u.dst v) w):dX P md ops Q S n (p+1) o a w:=
 uM hB x y (Region.noSelect_spec hs) D p o a w (Region.free_spec y A) (by simpa using hr) B hn C h
theorem nT {i:Nat} {u:Oper} {v:Value} {p:Nat} {o:Array Bool} {a:Act} {w:World} (y:ops[i]?=some u) (x:i≠n)
  (hs:Region.noSelect ops=true) (A:Region.free md ops o i=true) (hr:(Region.ready md ops o).contains i=true)
  (B:∀c a w,Q (.panic c) (a.put u.dst v) w->Q (.panic c) a w) (C:YieldsIf P ops (fun _=>True) u v a) (D:S w)
  (h:dX P md ops Q S n p (o.setIfInBounds i true) (a.put u.dst v) w):dX P md ops Q S n (p+1) o a w:=
 sS x y (Region.noSelect_spec hs) B p o a w (Region.free_spec y A) (by simpa using hr) C (fun _=>D) h
theorem wX {x:Oper} {v:Value} {u:Nat} {o:Array Bool} {a:Act} {w:World} (i:Nat) (B:S w) (h:dX P .any ops Q S n u (o.setIfInBounds i true) (a.put x.dst v) w) (C:ops[i]?=some x:=by rfl) (hB:Region.waitsFor .any ops n i=true:=by kernel_rfl) (hni:i≠n:=by decide) (hn:o.getD n true=false:=by kernel_rfl)
  (hs:Region.noSelect ops=true:=by kernel_rfl) (hf:Region.free .any ops o i=true:=by kernel_rfl) (hr:(Region.ready .any ops o).contains i=true:=by kernel_rfl) (hQ:∀c a w,Q (.panic c) (a.put x.dst v) w->Q (.panic c) a w:=by exact fun _ _ _ h=>h)
  (hy:YieldsIf P ops S x v a:=by (refine Or.inl ⟨by rfl,?_⟩;intro D p;(try dsimp only at p);(first | obtain ⟨s1,s2,y,A,H⟩:=p | obtain ⟨s1,s2,y,A⟩:=p | obtain ⟨s1,s2,y⟩:=p | obtain ⟨s1,s2⟩:=p | skip);go_simp;(try with_reducible rfl))):dX P .any ops Q S n (u+1) o a w:=qe C hB hni hn hs hf hr hQ hy B h
theorem wX0 {u:Oper} {v:Value} {p:Nat} {o:Array Bool} {a:Act} {w:World} (i:Nat) (x:S w) (h:dX P .any ops Q S n p (o.setIfInBounds i true) (a.put u.dst v) w) (y:ops[i]?=some u:=by rfl) (hni:i≠n:=by decide)
  (hs:Region.noSelect ops=true:=by kernel_rfl) (hf:Region.free .any ops o i=true:=by kernel_rfl) (hr:(Region.ready .any ops o).contains i=true:=by kernel_rfl) (hQ:∀c a w,Q (.panic c) (a.put u.dst v) w->Q (.panic c) a w:=by exact fun _ _ _ h=>h)
  (hy:YieldsIf P ops (fun _=>True) u v a:=by (refine Or.inl ⟨by rfl,?_⟩;intro A _;go_simp;(try with_reducible rfl))):dX P .any ops Q S n (p+1) o a w:=nT y hni hs hf hr hQ hy x h
def aQ (P:Program) (md:Region.Mode) (ops:Array Oper) (Q:Exit->Act->World->Prop) (S:World->Prop) (n:Nat) (o:Nat) (h:Array Bool) (a:Act) (w:World) (rs:List Nat):Prop:=
 ∀i∈rs,wpOp P ops Q i (fun u p=>((h.setIfInBounds i true).getD n true=false->S p)/\dX P md ops Q S n o (h.setIfInBounds i true) u p) a w
theorem aQ.nil {o:Nat} {i:Array Bool} {a:Act} {w:World}:aQ P md ops Q S n o i a w []:=fun _ h=>by cases h
theorem aQ.cons {u:Nat} {p:Array Bool} {a:Act} {w:World} {i:Nat} {o:Oper} {rs:List Nat} (B:ops[i]?=some o)
  (h:∀v:Act->World->Prop,Shut (∀a w,S w->(S w->dX P md ops Q S n u (p.setIfInBounds i true) a w)->v a w)->if Region.wanted o (yielded ops a.tmps)=true then Oper.wp P o a w v Q else v (a.put o.dst undef) w)
  (hs:aQ P md ops Q S n u p a w rs):aQ P md ops Q S n u p a w (i::rs):=fun j x=>by
 rcases List.mem_cons.1 x with rfl | x
 ·exact wpOp_step B (fun v C=>h v (fun a w y A=>C a w ⟨fun _=>y,A y⟩))
 ·exact hs j x
theorem cz {rs:List Nat} {o:Nat} {i:Array Bool} {a:Act} {w:World} (hr:Region.ready md ops i=rs) (p:rs≠[])
  (h:aQ P md ops Q S n o i a w rs):dX P md ops Q S n (o+1) i a w:=⟨fun u=>absurd (hr▸u) p,hr▸h⟩
theorem qO:∀(l:List Oper) (k:Nat) (p:Array Bool) (a:Act) (w:World),(k≠n->p.getD n true=true)->(∀j,l[j]?=ops[k+j]?)->
  Region.seqB md ops l.length k p=true->wpList P ops Q l a w->dX P md ops Q S n l.length p a w
 | [],_,_,_,_,_,_,hB,h=>⟨by simpa [Region.seqB] using hB,h⟩
 | o::l,k,p,a,w,hk,hl,hB,h=>by
  have D:ops[k]?=some o:=by simpa using (hl 0).symm
  simp only [List.length_cons,Region.seqB,Bool.and_eq_true,ML] at hB
  have u:(p.setIfInBounds k true).getD n true=true:=by
   by_cases v:k=n
   ·subst v
    rcases Ma k p.size with x | x
    ·simp [x]
    ·simp [Nat.not_lt.2 x]
   ·rw [getD_set_ne true v];exact hk v
  refine ⟨fun h1=>(by rw [hB.1] at h1;cases h1),fun i A=>?_⟩
  rw [hB.1] at A
  have y:i=k:=by simpa using A
  subst y
  have hw:wpOp P ops Q i (wpList P ops Q l) a w:=by unfold wpOp;simp only [D];exact h
  exact wpOp_mono (fun C B x=>⟨fun h=>(by rw [u] at h;cases h),qO l (i+1) _ C B (fun _=>u) (fun j=>by have:=hl (j+1);simpa [MG,Nat.add_comm 1 j] using this) hB.2 x⟩) hw
theorem eF {l:List Oper} {o:Nat} {i:Array Bool} {a:Act} {w:World} (p:o=(l.drop n).length) (hB:Region.seqB md l.toArray (l.drop n).length n i=true) (h:wpList P l.toArray Q (l.drop n) a w):
  dX P md l.toArray Q S n o i a w:=by
 subst p
 exact qO (l.drop n) n i a w (fun h=>absurd rfl h) (fun j=>by simp [List.getElem?_drop]) hB h
theorem bR {t e:TypeId} {z:Value} {size i:Nat} (T:dt P t e z size i) {w:World} {o:Oper} {D:Array Value} {a:Act} {K:Act->World->Prop} {E:Prop}
  (s x:Operand) (p:o.guard=none) (H:o.op=.call {callee:=.builtin .append,args:=#[s,x],argTypes:=#[t,t]})
  (base:Nat) (v:Value) (n:Nat) (xs:List Value) (hs:a.eval s=v) (hown:w.ownsRow base e size v n xs)
  (A:Option Addr) (m c:Nat) (us:List Value) (hx:a.eval x=.slice A m c) (hr:Rd w A us) (hus:us.length=m*size) (h1:∀u∈us,u.oneCell'=true)
  (hb:(n+m)*i<=140737488355328) (h63:n+m<=maxLen) (hbase:base<=w.heap.size)
  (h:∀C B y,y.ownsRow base e size (.slice C (n+m) B) (n+m) (xs++us)->Below base w y->w.grownBy y v.ownBlock->((Value.slice C (n+m) B).ownBlock=v.ownBlock\/(Value.slice C (n+m) B).ownBlock=some w.heap.size)->K (a.put o.dst (.slice C (n+m) B)) y):
  if Region.wanted o (yielded ops D)=true then Oper.wp P o a w K Q else E:=by
 rw [if_pos (by simp [Region.wanted,p])]
 have:=iB (ops:=ops) (K:=K) (Q:=Q) (E:=E) T p s x H base v n xs hs hown A m c us hx hr hus h1 hb h63 hbase h
 rwa [if_pos (by simp [Region.wanted,p])] at this
theorem jO (n:Nat) (S:World->Prop) {id:Nat} {a:Act} {w:World} (hm:P.follows .mixedOrders=true)
  (h:dX P .any ops Q S n ops.size (Array.replicate ops.size false) a w.drew):(Code.region id ops true).wp P Q a w:=
 wp_region_any hm (qN _ _ _ _ h)
end
end Go.Proofs.YtgmajkppbhiopaaGreat
namespace Go.Proofs.YtgmajkppbhiopaaGreat
open Tryz
section
variable {P:Program} {ops:Array Oper} {Q:Exit->Act->World->Prop} {S:World->Prop} {n:Nat}
def unl (l:Array Bool):Nat:=l.toList.count false
theorem IG {l:Array Bool} {i:Nat} (h:l.getD i true=false):unl l=unl (l.setIfInBounds i true)+1:=by
 have o:i<l.size:=by
  rcases Ma i l.size with p | p
  ·exact p
  ·simp [Array.getElem?_eq_none p] at h
 have hl:l.toList[i]'(by simpa using o)=false:=by simpa [o] using h
 have u:List.count false (l.toList.set i true)=List.count false l.toList-1:=by
  rw [List.count_set (by simpa using o)]
  simp [hl]
 have h1:0<List.count false l.toList:=List.count_pos_iff.2 (by rw [<-hl];exact List.getElem_mem _)
 unfold unl
 rw [Array.toList_setIfInBounds,u]
 omega
def bF (m:Nat) (L:List Nat):Array Bool:=L.foldr (fun i l=>l.setIfInBounds i true) (Array.replicate m false)
theorem qu (m:Nat):∀L:List Nat,(bF m L).size=m
 | []=>by simp [bF]
 | a::L=>by simp only [bF,List.foldr_cons,Array.size_setIfInBounds];exact qu m L
theorem jz (m i:Nat) (d:Bool):∀L:List Nat,(bF m L).getD i d=if i<m then L.contains i else d
 | []=>by simp only [bF,List.foldr_nil,List.contains_nil];split<;>simp_all [Array.getElem?_replicate]
 | a::L=>by
  have p:=jz m i d L
  have hs:=qu m L
  show ((bF m L).setIfInBounds a true).getD i d=_
  by_cases h:i<m
  ·rw [if_pos h] at p ⊢
   by_cases o:a=i
   ·subst o;simp [hs,h]
   ·rw [getD_set_ne d o,p];simp [Ne.symm o]
  ·rw [if_neg h] at p ⊢
   by_cases o:a=i
   ·subst o;simp [hs,h]
   ·rw [getD_set_ne d o,p]
def cZ (ops:Array Oper) (L:List Nat):List Nat:=
 (List.range ops.size).filter fun i=> !L.contains i&&((ops[i]?).map (·.after.all fun e=> !Region.binds .any e||(L.contains e.on&&decide (e.on<ops.size)))).getD false
theorem dN (L:List Nat):Region.ready .any ops (bF ops.size L)=cZ ops L:=by
 unfold Region.ready cZ
 refine List.filter_congr fun i p=>?_
 rw [jz,if_pos (List.mem_range.1 p)]
 congr 3
 funext o
 congr 1
 funext e
 rw [jz]
 by_cases h:e.on<ops.size<;>simp [h]
def xC (ops:Array Oper) (L:List Nat) (i:Nat):Bool:=
 match ops[i]? with
 | none=>false
 | some oi=>(List.range ops.size).all fun j=>j==i||L.contains j||match ops[j]? with
   | some oj=>oj.after.any (fun e=>Region.binds .any e&&e.on==i)||oi.apart ops oj
   | none=>true
theorem sd (L:List Nat) (i:Nat):Region.free .any ops (bF ops.size L) i=xC ops L i:=by
 unfold Region.free xC
 cases ops[i]? with
 | none=>rfl
 | some oi=>
  dsimp only
  rw [Bool.eq_iff_iff,List.all_eq_true,List.all_eq_true]
  refine forall_congr' fun j=>forall_congr' fun h=>?_
  rw [jz,if_pos (List.mem_range.1 h)]
  exact Iff.rfl
def Cn (ops:Array Oper):Nat->Nat->List Nat->Bool
 | 0,_,L=>(cZ ops L).isEmpty
 | g+1,k,L=>decide (cZ ops L=[k])&&Cn ops g (k+1) (k::L)
theorem AG:∀(g k:Nat) (L:List Nat),Region.seqB .any ops g k (bF ops.size L)=Cn ops g k L
 | 0,k,L=>by simp only [Region.seqB,Cn,dN]
 | g+1,k,L=>by
  simp only [Region.seqB,Cn,dN]
  rw [<-AG g (k+1) (k::L)];rfl
inductive Ys (P:Program) (ops:Array Oper) (S:World->Prop):List Nat->Act->Act->Prop
 | nil {a:Act}:Ys P ops S [] a a
 | cons {i:Nat} {is:List Nat} {o:Oper} {v:Value} {a a':Act} (ho:ops[i]?=some o) (hy:YieldsIf P ops S o v a) (ht:Ys P ops S is (a.put o.dst v) a'):Ys P ops S (i::is) a a'
def kQ (ops:Array Oper):List Nat->List Nat->Bool
 | _,[]=>true
 | L,i::is=>(xC ops L i&&(cZ ops L).contains i)&&kQ ops (i::L) is
def qT (ops:Array Oper) (n:Nat):List Nat->List Nat->Bool
 | _,[]=>true
 | L,i::is=>(Region.waitsFor .any ops n i&&decide (i≠n)&&(decide (n<ops.size)&& !L.contains n)&&xC ops L i&&(cZ ops L).contains i)&&qT ops n (i::L) is
structure HA (P:Program) (ops:Array Oper) (Q:Exit->Act->World->Prop) (S:World->Prop) (L:List Nat) (a:Act) (w:World):Prop where
 out:wpAnyH P .any ops Q S (unl (bF ops.size L)) (bF ops.size L) a w
structure XA (P:Program) (ops:Array Oper) (Q:Exit->Act->World->Prop) (S:World->Prop) (n:Nat) (L:List Nat) (a:Act) (w:World):Prop where
 out:dX P .any ops Q S n (unl (bF ops.size L)) (bF ops.size L) a w
theorem qQ (m:Nat):unl (bF m [])=m:=by simp [unl,bF,List.count_replicate]
theorem HA.go {id:Nat} {a:Act} {w:World} (S:World->Prop) (hm:P.follows .mixedOrders=true) (h:HA P ops Q S [] a w.drew):(Code.region id ops true).wp P Q a w:=by
 refine wp_region_held (S:=S) hm ?_
 have i:=h.out
 rw [qQ] at i
 exact i
theorem XA.go {id:Nat} {a:Act} {w:World} (n:Nat) (S:World->Prop) (hm:P.follows .mixedOrders=true) (h:XA P ops Q S n [] a w.drew):(Code.region id ops true).wp P Q a w:=by
 refine jO n S hm ?_
 have i:=h.out
 rw [qQ] at i
 exact i
theorem cI {L:List Nat} {i:Nat} (h:(cZ ops L).contains i=true):unl (bF ops.size L)=unl (bF ops.size (i::L))+1:=
 IG (mem_ready.1 (show i∈Region.ready .any ops (bF ops.size L) by rw [dN];simpa using h)).1
theorem HA.takes (hs:Region.noSelect ops=true) (x:∀c a w d v,Q (.panic c) (Act.put a d v) w->Q (.panic c) a w) {w:World} (u:S w):
  ∀(o:List Nat) {L:List Nat} {a p:Act},kQ ops L o=true->Ys P ops S o a p->HA P ops Q S (o.reverse++L) p w->HA P ops Q S L a w
 | [],_,_,_,_,.nil,h=>h
 | i::o,L,a,p,hc,.cons ho hy ht,h=>by
  simp only [kQ,Bool.and_eq_true] at hc
  have y:=HA.takes hs x u o (L:=i::L) hc.2 ht (by simpa using h)
  refine ⟨?_⟩
  rw [cI hc.1.2]
  exact wpAnyH_take ho hs (by rw [sd];exact hc.1.1) (by rw [dN];exact hc.1.2) (fun c a w=>x c a w _ _) hy u y.out
theorem XA.takes (hs:Region.noSelect ops=true) (x:∀c a w d v,Q (.panic c) (Act.put a d v) w->Q (.panic c) a w) {w:World} (u:S w):
  ∀(o:List Nat) {L:List Nat} {a p:Act},qT ops n L o=true->Ys P ops S o a p->XA P ops Q S n (o.reverse++L) p w->XA P ops Q S n L a w
 | [],_,_,_,_,.nil,h=>h
 | i::o,L,a,p,hc,.cons ho hy ht,h=>by
  simp only [qT,Bool.and_eq_true,ML,Bool.not_eq_true'] at hc
  have y:=XA.takes hs x u o (L:=i::L) hc.2 ht (by simpa using h)
  refine ⟨?_⟩
  rw [cI hc.1.2]
  exact qe ho hc.1.1.1.1.1 hc.1.1.1.1.2 (by rw [jz,if_pos hc.1.1.1.2.1,hc.1.1.1.2.2]) hs (by rw [sd];exact hc.1.1.2) (by rw [dN];exact hc.1.2) (fun c a w=>x c a w _ _) hy u y.out
def JV (ops:Array Oper) (n:Nat):List Nat->List Nat->Bool
 | _,[]=>true
 | L,i::is=>(decide (i≠n)&&xC ops L i&&(cZ ops L).contains i)&&JV ops n (i::L) is
theorem XA.takes0 (hs:Region.noSelect ops=true) (u:∀c a w d v,Q (.panic c) (Act.put a d v) w->Q (.panic c) a w) {w:World} (x:S w):
  ∀(o:List Nat) {L:List Nat} {a p:Act},JV ops n L o=true->Ys P ops (fun _=>True) o a p->XA P ops Q S n (o.reverse++L) p w->XA P ops Q S n L a w
 | [],_,_,_,_,.nil,h=>h
 | i::o,L,a,p,hc,.cons ho hy ht,h=>by
  simp only [JV,Bool.and_eq_true,ML] at hc
  have y:=XA.takes0 hs u x o (L:=i::L) hc.2 ht (by simpa using h)
  refine ⟨?_⟩
  rw [cI hc.1.2]
  exact nT ho hc.1.1.1 hs (by rw [sd];exact hc.1.1.2) (by rw [dN];exact hc.1.2) (fun c a w=>u c a w _ _) hy x y.out
theorem tI {L:List Nat} {i:Nat} (hr:cZ ops L=[i]):unl (bF ops.size L)=unl (bF ops.size (i::L))+1:=
 cI (by rw [hr];simp)
theorem HA.one {L:List Nat} {a:Act} {w:World} (i:Nat) {o:Oper} (v:ops[i]?=some o) (hr:cZ ops L=[i])
  (h:∀p:Act->World->Prop,Shut (∀a w,S w->(S w->HA P ops Q S (i::L) a w)->p a w)->if Region.wanted o (yielded ops a.tmps)=true then Oper.wp P o a w p Q else p (a.put o.dst undef) w):HA P ops Q S L a w:=by
 refine ⟨?_⟩
 rw [tI hr]
 exact wpAnyH_ready (by rw [dN];exact hr) (by simp) (AllReadyH.cons v (fun p y=>h p fun a w x hw=>y.out a w x fun u=>(hw u).out) AllReadyH.nil)
theorem XA.one {L:List Nat} {a:Act} {w:World} (i:Nat) {o:Oper} (v:ops[i]?=some o) (hr:cZ ops L=[i])
  (h:∀p:Act->World->Prop,Shut (∀a w,S w->(S w->XA P ops Q S n (i::L) a w)->p a w)->if Region.wanted o (yielded ops a.tmps)=true then Oper.wp P o a w p Q else p (a.put o.dst undef) w):XA P ops Q S n L a w:=by
 refine ⟨?_⟩
 rw [tI hr]
 exact cz (by rw [dN];exact hr) (by simp) (aQ.cons v (fun p y=>h p fun a w x hw=>y.out a w x fun u=>(hw u).out) aQ.nil)
theorem HA.call {L:List Nat} {a:Act} {w:World} (i:Nat) {f:FuncId} {args:Array Value} {R:Ending->World->Prop} (hc:Calls P f args w R) {o:Oper} (u:ops[i]?=some o) (hr:cZ ops L=[i])
  (hw:Region.wanted o (yielded ops a.tmps)=true) (he:(execOp a.eval o).run P w=.ok (.enter f args) w)
  (k:∀e p,R e p->∃v,e=.returned v/\S p/\(S p->HA P ops Q S (i::L) (a.put o.dst v) p)):HA P ops Q S L a w:=by
 refine HA.one i u hr fun B A=>?_
 rw [if_pos hw]
 unfold Oper.wp
 rw [he]
 refine hc.mono fun e p y=>?_
 obtain ⟨v,rfl,x,h⟩:=k e p y
 exact A.out _ _ x h
theorem XA.call {L:List Nat} {a:Act} {w:World} (i:Nat) {f:FuncId} {args:Array Value} {R:Ending->World->Prop} (hc:Calls P f args w R) {o:Oper} (u:ops[i]?=some o) (hr:cZ ops L=[i])
  (hw:Region.wanted o (yielded ops a.tmps)=true) (he:(execOp a.eval o).run P w=.ok (.enter f args) w)
  (k:∀e p,R e p->∃v,e=.returned v/\S p/\(S p->XA P ops Q S n (i::L) (a.put o.dst v) p)):XA P ops Q S n L a w:=by
 refine XA.one i u hr fun B A=>?_
 rw [if_pos hw]
 unfold Oper.wp
 rw [he]
 refine hc.mono fun e p y=>?_
 obtain ⟨v,rfl,x,h⟩:=k e p y
 exact A.out _ _ x h
theorem XA.tail {l:List Oper} {L:List Nat} {a:Act} {w:World} (i:unl (bF l.toArray.size L)=(l.drop n).length) (hB:Cn l.toArray (l.drop n).length n L=true) (h:wpList P l.toArray Q (l.drop n) a w):
  XA P l.toArray Q S n L a w:=by
 refine ⟨?_⟩
 exact eF i (by rw [AG];exact hB) h
theorem HA.g {id:Nat} {a:Act} {w:World} (S:World->Prop) (h:HA P ops Q S [] a w.drew) (hm:P.follows .mixedOrders=true:=by decide +kernel):(Code.region id ops true).wp P Q a w:=HA.go S hm h
theorem XA.g {id:Nat} {a:Act} {w:World} (n:Nat) (S:World->Prop) (h:XA P ops Q S n [] a w.drew) (hm:P.follows .mixedOrders=true:=by decide +kernel):(Code.region id ops true).wp P Q a w:=XA.go n S hm h
theorem HA.t (p:Act) (o:List Nat) {L:List Nat} {a:Act} {w:World} (u:S w) (h:HA P ops Q S (o.reverse++L) p w)
  (hs:Region.noSelect ops=true:=by decide +kernel) (hQ:∀c a w d v,Q (.panic c) (Act.put a d v) w->Q (.panic c) a w:=by (intro _ _ _ d _ h;cases d<;>exact h)) (hc:kQ ops L o=true:=by decide +kernel)
  (hy:Ys P ops S o a p:=by (try simp only [Mc,Md,Me,Act.put,Mf,Mg,Mh]);(repeat ((first | (refine Ys.cons (v:=?_) (by (simp only [Mi,Mj,Mk];rfl)) (Or.inl ⟨by rfl,?_⟩) ?_;rotate_left;(· (intro x i;(try dsimp only at i);(try (have y:=ki i.1));go_simp;(try with_reducible rfl)))) | refine Ys.cons (v:=undef) (by (simp only [Mi,Mj,Mk];rfl)) (Or.inr ⟨by rfl,rfl⟩) ?_);simp only [Mc,Md,Me,Act.put,Mf,Mg,Mh]));exact Ys.nil):HA P ops Q S L a w:=HA.takes hs hQ u o hc hy h
theorem XA.t (p:Act) (o:List Nat) {L:List Nat} {a:Act} {w:World} (u:S w) (h:XA P ops Q S n (o.reverse++L) p w)
  (hs:Region.noSelect ops=true:=by decide +kernel) (hQ:∀c a w d v,Q (.panic c) (Act.put a d v) w->Q (.panic c) a w:=by (intro _ _ _ d _ h;cases d<;>exact h)) (hc:qT ops n L o=true:=by decide +kernel)
  (hy:Ys P ops S o a p:=by (try simp only [Mc,Md,Me,Act.put,Mf,Mg,Mh]);(repeat ((first | (refine Ys.cons (v:=?_) (by (simp only [Mi,Mj,Mk];rfl)) (Or.inl ⟨by rfl,?_⟩) ?_;rotate_left;(· (intro x i;(try dsimp only at i);(try (have y:=ki i.1));go_simp;(try with_reducible rfl)))) | refine Ys.cons (v:=undef) (by (simp only [Mi,Mj,Mk];rfl)) (Or.inr ⟨by rfl,rfl⟩) ?_);simp only [Mc,Md,Me,Act.put,Mf,Mg,Mh]));exact Ys.nil):XA P ops Q S n L a w:=XA.takes hs hQ u o hc hy h
theorem XA.t0 (o:Act) (i:List Nat) {L:List Nat} {a:Act} {w:World} (p:S w) (h:XA P ops Q S n (i.reverse++L) o w)
  (hs:Region.noSelect ops=true:=by decide +kernel) (hQ:∀c a w d v,Q (.panic c) (Act.put a d v) w->Q (.panic c) a w:=by (intro _ _ _ d _ h;cases d<;>exact h)) (hc:JV ops n L i=true:=by decide +kernel)
  (hy:Ys P ops (fun _=>True) i a o:=by (try simp only [Mc,Md,Me,Act.put,Mf,Mg,Mh]);(repeat ((first | (refine Ys.cons (v:=?_) (by (simp only [Mi,Mj,Mk];rfl)) (Or.inl ⟨by rfl,?_⟩) ?_;rotate_left;(· (intro u _;go_simp;(try with_reducible rfl)))) | refine Ys.cons (v:=undef) (by (simp only [Mi,Mj,Mk];rfl)) (Or.inr ⟨by rfl,rfl⟩) ?_);simp only [Mc,Md,Me,Act.put,Mf,Mg,Mh]));exact Ys.nil):XA P ops Q S n L a w:=XA.takes0 hs hQ p i hc hy h
theorem HA.c {L:List Nat} {a:Act} {w:World} (i:Nat) {f:FuncId} {args:Array Value} {R:Ending->World->Prop} {o:Oper} (hc:Calls P f args w R)
  (k:∀e h,R e h->∃v,e=.returned v/\S h/\(S h->HA P ops Q S (i::L) (a.put o.dst v) h)) (p:ops[i]?=some o:=by (simp only [Mi,Mj,Mk];rfl)) (hr:cZ ops L=[i]:=by decide +kernel)
  (hw:Region.wanted o (yielded ops a.tmps)=true:=by rfl) (he:(execOp a.eval o).run P w=.ok (.enter f args) w:=by go_simp):HA P ops Q S L a w:=HA.call i hc p hr hw he k
theorem XA.c {L:List Nat} {a:Act} {w:World} (i:Nat) {f:FuncId} {args:Array Value} {R:Ending->World->Prop} {o:Oper} (hc:Calls P f args w R)
  (k:∀e h,R e h->∃v,e=.returned v/\S h/\(S h->XA P ops Q S n (i::L) (a.put o.dst v) h)) (p:ops[i]?=some o:=by (simp only [Mi,Mj,Mk];rfl)) (hr:cZ ops L=[i]:=by decide +kernel)
  (hw:Region.wanted o (yielded ops a.tmps)=true:=by rfl) (he:(execOp a.eval o).run P w=.ok (.enter f args) w:=by go_simp):XA P ops Q S n L a w:=XA.call i hc p hr hw he k
theorem HA.d {L:List Nat} {a:Act} {w:World} (h:Q .normal a w) (hr:cZ ops L=[]:=by decide +kernel):HA P ops Q S L a w:=⟨wpAnyH_done (by rw [dN];exact hr) h _⟩
theorem XA.e {l:List Oper} {L:List Nat} {a:Act} {w:World} (h:wpList P l.toArray Q (l.drop n) a w) (i:unl (bF l.toArray.size L)=(l.drop n).length:=by rfl) (hB:Cn l.toArray (l.drop n).length n L=true:=by decide +kernel):
  XA P l.toArray Q S n L a w:=XA.tail i hB h
theorem HA.o {L:List Nat} {a:Act} {w:World} {o:Oper} (i:Nat)
  (h:∀p:Act->World->Prop,Shut (∀a w,S w->(S w->HA P ops Q S (i::L) a w)->p a w)->if Region.wanted o (yielded ops a.tmps)=true then Oper.wp P o a w p Q else p (a.put o.dst undef) w)
  (u:ops[i]?=some o:=by (simp only [Mi,Mj,Mk];rfl)) (hr:cZ ops L=[i]:=by decide +kernel):HA P ops Q S L a w:=HA.one i u hr h
theorem XA.o {L:List Nat} {a:Act} {w:World} {o:Oper} (i:Nat)
  (h:∀p:Act->World->Prop,Shut (∀a w,S w->(S w->XA P ops Q S n (i::L) a w)->p a w)->if Region.wanted o (yielded ops a.tmps)=true then Oper.wp P o a w p Q else p (a.put o.dst undef) w)
  (u:ops[i]?=some o:=by (simp only [Mi,Mj,Mk];rfl)) (hr:cZ ops L=[i]:=by decide +kernel):XA P ops Q S n L a w:=XA.one i u hr h
theorem HA.s {L:List Nat} {a:Act} {w:World} {o:Oper} (i:Nat) (h:World) (u:S h) (k:HA P ops Q S (i::L) (a.put o.dst undef) h) (p:ops[i]?=some o:=by (simp only [Mi,Mj,Mk];rfl))
  (hr:cZ ops L=[i]:=by decide +kernel) (hw:Region.wanted o (yielded ops a.tmps)=true:=by rfl) (he:(execOp a.eval o).run P w=.ok .skip h:=by go_simp):HA P ops Q S L a w:=by
 refine HA.one i p hr fun x v=>?_
 rw [if_pos hw]
 unfold Oper.wp
 rw [he]
 exact v.out _ _ u fun _=>k
theorem HA.v {L:List Nat} {a:Act} {w:World} {o:Oper} (i:Nat) (h:World) (v:Value) (u:S h) (k:HA P ops Q S (i::L) (a.put o.dst v) h) (p:ops[i]?=some o:=by (simp only [Mi,Mj,Mk];rfl))
  (hr:cZ ops L=[i]:=by decide +kernel) (hw:Region.wanted o (yielded ops a.tmps)=true:=by rfl) (he:(execOp a.eval o).run P w=.ok (.value v) h:=by go_simp):HA P ops Q S L a w:=by
 refine HA.one i p hr fun y x=>?_
 rw [if_pos hw]
 unfold Oper.wp
 rw [he]
 exact x.out _ _ u fun _=>k
end
end Go.Proofs.YtgmajkppbhiopaaGreat
namespace Go.Proofs.YtgmajkppbhiopaaGreat
open Go.RowKit
open Tryz
theorem ax {W:World} {b:Nat} {u:Array Value} {t e:TypeId} {y:Nat×Nat} (h:W.heap[b]?=some (.cells u t y)) (o:t≠e) {base size k:Nat} {v:Value} {xs:List Value} (hr:W.ownsRow base e size v k xs):some b≠v.ownBlock:=by
 rcases hr.2 with ⟨rfl,_⟩ | ⟨g,cap,p,rfl,_,i,_⟩
 ·simp [Value.ownBlock]
 ·intro x
  obtain rfl:b=g:=by simpa [Value.ownBlock] using x
  have:=h.symm.trans i
  simp at this
  exact o this.2.1
theorem dM {W u:World} {b:Nat} {p:Array Value} {t e:TypeId} {x:Nat×Nat} {o:Obj} (h:W.heap[b]?=some (.cells p t x)) (i:t≠e) {base size k:Nat} {v:Value} {xs:List Value} (hr:W.ownsRow base e size v k xs) (hg:(W.alloc o).grownBy u v.ownBlock):u.heap[b]?=some (.cells p t x):=
 (hg.block b (by have:=LN h;simp;omega) (ax h i hr)).trans ((L0 W o b (LN h)).trans h)
theorem zZ {W i:World} {b o:Nat} {u:Value} {e:TypeId} {p:Obj} (h:W.cell? (ar b o)=some u) {base size k:Nat} {v:Value} {xs:List Value} (hb:b<base) (hr:W.ownsRow base e size v k xs) (hg:(W.alloc p).grownBy i v.ownBlock):i.cell? (ar b o)=some u:=
 hg.cell ((World.cell?_of_block (w:=W) (L0 W p b (az h))).trans h) (fun e=>by
  have x:v.ownBlock=some b:=e.symm
  have:=(hr.lt b x).1
  omega)
theorem tT {W B:World} {base':Nat} {A:TypeId} {h m:Nat} {v v' u:Value} {ys:List Value} {o:Obj} (y:W.ownsRow base' A h u m ys) (x:∀i,v.ownBlock=some i->u.ownBlock≠some i)
  (hg:(W.alloc o).grownBy B v.ownBlock) (p:v'.ownBlock=v.ownBlock\/v'.ownBlock=some (W.alloc o).heap.size):B.ownsRow base' A h u m ys/\∀i,v'.ownBlock=some i->u.ownBlock≠some i:=by
 refine ⟨(y.alloc o).kept hg ?_,fun i C=>?_⟩
 ·cases hub:u.ownBlock with
  | none=>exact .inl rfl
  | some k=>exact .inr fun e=>x k e.symm hub
 ·rcases p with p | p
  ·exact x i (p▸C)
  ·intro e
   have h1:=(y.lt i e).2
   rw [C] at p
   simp at p
   omega
theorem aH {W:World} {p:Addr} {u:Value} (h:W.cell? p=some u) (o:Obj):(W.alloc o).cell? p=some u:=
 (World.cell?_of_block (w:=W) (L0 W o _ (az h))).trans h
theorem aw {w i:World} {p:Addr} {u:Value} (hb:aq w i) (h:w.cell? p=some u):i.cell? p=some u:=(World.cell?_of_block (w:=w) (hb.block _ (az h))).trans h
theorem je {W:World} {B H v y s1 s2 D I:Nat} {v1 v2:Value} {u o:List Value} (h1:W.ownsRow B v s1 v1 D u) (C:W.ownsRow H y s2 v2 I o) (p:v≠y):∀i,v1.ownBlock=some i->v2.ownBlock≠some i:=by
 intro i x e
 rcases h1.2 with ⟨rfl,_⟩ | ⟨g,cap,A,rfl,_,h,_⟩
 ·cases x
 ·obtain rfl:g=i:=by simpa [Value.ownBlock] using x
  exact ax h p C e.symm
theorem wO {W x:World} {p e h size n m:Nat} {v u y:Value} {xs ys:List Value} {o:Obj} {base base' B j:Nat} {J:Array Value} {t:TypeId} (C:W.ownsRow base' p h u m ys) (H:W.ownsRow base e size v n xs) (hg:(W.alloc o).grownBy x v.ownBlock)
  (hB:x.heap[B]?=some (.cells J t (0,0))) (h1:e≠p) (I:t≠p):(x.setCell (ar B j) y).ownsRow base' p h u m ys:=by
 have D:x.ownsRow base' p h u m ys:=by
  refine (C.alloc o).kept hg ?_
  cases hub:u.ownBlock with
  | none=>exact .inl rfl
  | some k=>exact .inr fun A=>je H C h1 k A.symm hub
 exact (Keep.setCell (S:=fun i=>i=B) (Keep.refl _ x) (ar B j) (.inr rfl) y).own D (fun i L A=>ax hB I D (by rw [L,A]))
theorem oY {W i:World} {r:Option Nat} (h:W.drew.grownBy i r):W.grownBy i r:=⟨h.os,h.tape,h.output,h.size,h.block⟩
end Go.Proofs.YtgmajkppbhiopaaGreat
namespace Go.Proofs.YtgmajkppbhiopaaGreat
open Go.RowKit Go.Shelf
open Tryz
theorem lB {w i:World} (h:aq w i):w.grownBy i none:=⟨h.os,h.tape,h.output,h.size,fun k hk _=>h.block k hk⟩
theorem fS {β:Type} (B b:Nat) (o:Obj) (i:o.isCells=true):OwnFrom B (fun (_:β) W=>W.heap[b]?=some o):=fun _ W p row hs hg hr=>
 (hg.block b (LN hs) fun e=>by
  obtain ⟨u,h,hc⟩:=(hr b e.symm).2
  rw [hs] at h
  cases h
  rw [i] at hc
  cases hc).trans hs
theorem m7 {F:Fence} {m:Nat} {P:Program} {t e:TypeId} {z:Value} {size p:Nat} (T:dt P t e z size p) (W:World) {ops:Array Oper} {rest:List Oper} {o:Oper} {a:Act} {Q:Exit->Act->World->Prop}
  (L:o.guard=none) (s x:Operand) (ho:o.op=.call {callee:=.builtin .append,args:=#[s,x],argTypes:=#[t,t]})
  (n₀ B:Nat) (v:Value) (n:Nat) (xs:List Value) (hs:a.eval s=v) (hbx:Boxed W B t v) (hte:t≠e) (hown:W.ownsRow n₀ e size v n xs)
  (us:List Value) (hx:a.eval x=.slice (some (ar W.heap.size 0)) 1 1) (hus:us.length=size) (h1:∀u∈us,u.oneCell'=true)
  (hb:(n+1)*p<=140737488355328) (h63:n+1<=maxLen) (hbase:n₀<=W.heap.size) (hB:n₀<=B)
  (h:∀g c y,Boxed y B t v->Boxed (y.setCell (ar B 0) (.slice (some (ar g 0)) (n+1) c)) B t (.slice (some (ar g 0)) (n+1) c)->
   (y.setCell (ar B 0) (.slice (some (ar g 0)) (n+1) c)).ownsRow n₀ e size (.slice (some (ar g 0)) (n+1) c) (n+1) (xs++us)->
   KeepsOthers W (y.setCell (ar B 0) (.slice (some (ar g 0)) (n+1) c))->Below n₀ W (y.setCell (ar B 0) (.slice (some (ar g 0)) (n+1) c))->
   (∀b H C I,b≠B->C≠e->W.heap[b]?=some (.cells H C I)->(y.setCell (ar B 0) (.slice (some (ar g 0)) (n+1) c)).heap[b]?=some (.cells H C I))->
   wpListIn F m P ops Q rest (a.put o.dst (.slice (some (ar g 0)) (n+1) c)) y):wpListIn F m P ops Q (o::rest) a (W.alloc (.cells us.toArray e)):=by
 obtain ⟨i,hi,N,R,U⟩:=T.info
 refine wpListIn_append_own (W.alloc (.cells us.toArray e)) L s x t ho n₀ e i z size p T.und hi N R U T.zs T.pos v n xs hs (hown.alloc _) (ar W.heap.size 0) 1 1 us hx (by simpa using hus) ?_ h1 h63 hb
  (by simp;omega) ?_
 ·intro j u hu
  rw [Addr.add_lit,MH,LQ _ W.heap.size j us.toArray e (0,0) (LP W _)]
  simpa using hu
 ·intro v' y A hg _
  obtain ⟨g,c,rfl⟩:=ownsRow_succ A
  obtain ⟨Y,k2,Z,k4,k5⟩:=hbx.appended hte hown hbase hB A hg
  refine h g c y Y k2 Z k4 k5 fun b H C I V D J=>?_
  have O:(W.alloc (.cells us.toArray e)).heap[b]?=some (.cells H C I):=(L0 W _ b (LN J)).trans J
  have h1:y.heap[b]?=some (.cells H C I):=(hg.block b (LN O) (ax O D (hown.alloc _))).trans O
  exact (Below.heap_setCell y _ _ b (fun e=>V e)).trans h1
theorem wN {W u:World} {B base:Nat} {e:TypeId} {size n:Nat} {v:Value} {xs:List Value} {row:Option Nat} (h:W.ownsRow base e size v n xs) (hg:W.grownBy u row) (hr:∀r,row=some r->B<=r/\∃o:Obj,W.heap[r]?=some o/\o.isCells=false):u.ownsRow base e size v n xs:=by
 refine h.kept hg ?_
 rcases h.2 with ⟨rfl,_⟩ | ⟨g,cap,x,rfl,_,i,_⟩
 ·exact .inl rfl
 ·refine .inr fun y=>?_
  obtain ⟨o,p,hc⟩:=(hr g (by simpa [Value.ownBlock] using y.symm)).2
  rw [i] at p;cases p;cases hc
theorem ed {W p:World} {B b:Nat} {o:Obj} (u:o.isCells=true) {row:Option Nat} (h:W.heap[b]?=some o) (hg:W.grownBy p row) (hr:∀r,row=some r->B<=r/\∃o:Obj,W.heap[r]?=some o/\o.isCells=false):p.heap[b]?=some o:=
 (hg.block b (LN h) fun e=>by
  obtain ⟨v,i,hc⟩:=(hr b e.symm).2
  rw [h] at i
  cases i
  rw [u] at hc
  cases hc).trans h
theorem ma {S:Nat->Prop} {W i:World} (h:Keep S W i) (u:∀k o,S k->W.heap[k]?=some o->o.isCells=true):KeepsOthers W i:=
 ⟨h.size,fun k o hk p=>(h.block k (LN hk) fun hs=>by rw [u k o hs hk] at p;cases p).trans hk⟩
theorem vH {F:Fence} {m:Nat} {P:Program} {t e:TypeId} {z:Value} {h:Nat} (T:dt P t e z 1 h) (w:World) {ops:Array Oper} {rest:List Oper} {o:Oper} {a:Act} {Q:Exit->Act->World->Prop}
  (hg:o.guard=none) (l c:Operand) (p:o.op=Op.makeSlice t l c) (D:z.cells=#[z])
  (n:Nat) (hl:a.eval l=MO (n:Int)) (hc:a.eval c=MO (n:Int)) (L:h*n<=281474976710656) (b3:n<=maxLen)
  (J:∀x,x.ownsRow w.heap.size e 1 (.slice (some (ar w.heap.size 0)) n n) n (List.replicate n z)->Below (w.heap.size) w x->
   wpListIn F m P ops Q rest (a.put o.dst (.slice (some (ar w.heap.size 0)) n n)) x):wpListIn F m P ops Q (o::rest) a w:=by
 obtain ⟨i,N,B,C,y⟩:=T.info
 refine wpListIn_plain hg fun K H=>?_
 obtain ⟨x,v,I,u⟩:=run_make_full (P:=P) w w.heap.size t e i z 1 T.und N B C .i64 .i64 n (by rw [y];exact L) b3 (LO _)
 rw [D,Nat.mul_one,toList_madeCells_one] at I
 unfold Oper.wpIn
 refine ⟨by simp [Oper.about,p],?_⟩
 rw [Oper.semAt_plain F _ _ (by rw [p];intro c A;cases A)]
 simp [execOp,p,hl,hc,v,Result.andThen]
 exact H _ _ (J x I ⟨u.os,u.tape,u.output,u.size,fun k hk=>u.block k hk (by simp)⟩)
end Go.Proofs.YtgmajkppbhiopaaGreat
namespace Go.Proofs.YtgmajkppbhiopaaGreat
open Go.RowKit
open Tryz
theorem le {i:Func} {t u v x:Tmp} (h:i.results=#[.tmp t,.tmp u,.tmp v,.tmp x]) (tmps:Array Value) (P:Program) (w:World):
  (results i tmps).run P w=.ok (.tuple #[tmps.getD t undef,tmps.getD u undef,tmps.getD v undef,tmps.getD x undef]) w:=by
 simp [results,h]
theorem qD {X:Nat} {v o:Option Addr} {x u n:Nat} {p:Value} {z:Int} {w:World} (hb:w.heap[X]?=some (.cells #[.slice v n x,.slice o n u,p] 96 (0,0))) (B:z<0\/(n:Int)<=z):
  Calls prog 47 #[(au X),MO z] w fun e i=>e=.returned (.tuple #[.nilIface,.pointer none,.pointer none,.bool false])/\aq w i:=by
 have t:=fun i q=>bx3 (sb hb i q)
 have y:=br w
 clear hb
 by_cases h:z<0
 ·go_enter func47,ntmps47
  go_wp2_with fail
  (try simp only [Exit.inBlock,Exit.then]);refine L7 (le rfl _ _ _) rfl ?_
  exact ⟨rfl,br w⟩
 ·have A:(n:Int)<=z:=ap
  go_enter func47,ntmps47
  go_wp2_with fail
  (try simp only [Exit.inBlock,Exit.then]);refine L7 (le rfl _ _ _) rfl ?_
  exact ⟨rfl,br w⟩
theorem JY {X:Nat} {L C:Option Addr} {R U n z p:Nat} {Q v l O:Value} {J x:List Value} {w:World} (hb:w.heap[X]?=some (.cells #[.slice L n R,.slice C n U,Q] 96 (0,0))) (I:Rd w L J) (y:Rd w C x) (hz:z<n) (hn:n<=1000) (A:(z+n-1)%n=p)
  (N:J[z]?=some v) (hl:x[p]?=some l) (u:x[z]?=some O):
  Calls prog 47 #[(au X),MO (z:Nat)] w fun e h=>e=.returned (.tuple #[v,l,O,.bool true])/\aq w h:=by
 have T:p<n:=by rw [<-A];exact Nat.mod_lt _ ap
 obtain ⟨b1,o1,rfl,c1⟩:=I _ _ N
 obtain ⟨b2,o2,rfl,c2⟩:=y _ _ hl
 obtain ⟨b3,o3,V,c3⟩:=y _ _ u
 cases V
 have t:=fun h q=>bx3 (sb hb h q)
 have t1:=fun h (q:aq w h)=>(World.cell?_of_block (q.block _ (az c1))).trans c1
 have t2:=fun h (q:aq w h)=>(World.cell?_of_block (q.block _ (az c2))).trans c2
 have t3:=fun h (q:aq w h)=>(World.cell?_of_block (q.block _ (az c3))).trans c3
 have i:((z:Int)+(n:Int)-1).tmod (n:Int)=(p:Int):=by
  rw [<-A,Int.tmod_eq_emod_of_nonneg ap,Int.natCast_emod,show ((z+n-1:Nat):Int)=(z:Int)+n-1 by omega]
 have B:((z:Int)+(n:Int)-1)%(n:Int)=(p:Int):=by rw [<-Int.tmod_eq_emod_of_nonneg ap];exact i
 have Y:¬(n=0):=ap
 have h1:0<=(z:Int):=ap
 have h2:(z:Int)<(n:Int):=ap
 have h3:0<=(p:Int):=ap
 have h4:(p:Int)<(n:Int):=ap
 have Z:IntKind.i64.wrap ((z:Int)+n)=(z:Int)+n:=LT _ ap
 have w2:IntKind.i64.wrap ((z:Int)+n-1)=(z:Int)+n-1:=LT _ ap
 have H:IntKind.i64.wrap (p:Int)=(p:Int):=LT _ ap
 have w5:IntKind.i64.wrap (((z:Int)+n-1).tmod n)=(p:Int):=by rw [i];exact H
 have w6:IntKind.i64.wrap (((z:Int)+n-1)%n)=(p:Int):=by rw [B];exact H
 have D:=br w
 clear hb I y A N hl u c1 c2 c3
 go_enter func47,ntmps47
 go_wp2_with fail
 refine HA.g (fun h:World=>aq w h) ?_
 refine HA.t ?_ [0,1,2,3,4,5,6,7,8,9,10,11,12,13,14,15,16,17,18,19,20,21,22,23,24,25,26,27,28,29] D.drew ?_
 refine HA.d ?_
 have K:=aa D.drew
 go_wp2_with fail
 (try simp only [Exit.inBlock,Exit.then]);refine L7 (le rfl _ _ _) rfl ?_
 exact ⟨rfl,K.o⟩
end Go.Proofs.YtgmajkppbhiopaaGreat
namespace Go.Proofs.YtgmajkppbhiopaaGreat
open Tryz
section
variable {P:Program} {ops:Array Oper} {Q:Exit->Act->World->Prop} {S:World->Prop}
structure HAS (P:Program) (ops:Array Oper) (Q:Exit->Act->World->Prop) (S:World->Prop) (i:Nat) (L:List Nat) (a:Act) (w:World):Prop where
 out:∃o,ops[i]?=some o/\∀K':Act->World->Prop,Shut (∀a w,S w->(S w->HA P ops Q S (i::L) a w)->K' a w)->if Region.wanted o (yielded ops a.tmps)=true then Oper.wp P o a w K' Q else K' (a.put o.dst undef) w
theorem HAS.c {L:List Nat} {a:Act} {w:World} {i:Nat} {f:FuncId} {args:Array Value} {R:Ending->World->Prop} {o:Oper} (hc:Calls P f args w R)
  (k:∀e p,R e p->∃v,e=.returned v/\S p/\(S p->HA P ops Q S (i::L) (a.put o.dst v) p)) (u:ops[i]?=some o:=by (simp only [Mi,Mj,Mk];rfl))
  (hw:Region.wanted o (yielded ops a.tmps)=true:=by rfl) (he:(execOp a.eval o).run P w=.ok (.enter f args) w:=by go_simp):HAS P ops Q S i L a w:=by
 refine ⟨o,u,fun B A=>?_⟩
 rw [if_pos hw]
 unfold Oper.wp
 rw [he]
 refine hc.mono fun e p y=>?_
 obtain ⟨v,rfl,x,h⟩:=k e p y
 exact A.out _ _ x h
theorem HAS.v {L:List Nat} {a:Act} {w:World} {i:Nat} {o:Oper} (h:World) (v:Value) (u:S h) (k:HA P ops Q S (i::L) (a.put o.dst v) h) (p:ops[i]?=some o:=by (simp only [Mi,Mj,Mk];rfl))
  (hw:Region.wanted o (yielded ops a.tmps)=true:=by rfl) (he:(execOp a.eval o).run P w=.ok (.value v) h:=by go_simp):HAS P ops Q S i L a w:=by
 refine ⟨o,p,fun y x=>?_⟩
 rw [if_pos hw]
 unfold Oper.wp
 rw [he]
 exact x.out _ _ u fun _=>k
theorem HA.two {L:List Nat} {a:Act} {w:World} (i j:Nat) (y:HAS P ops Q S i L a w) (p:HAS P ops Q S j L a w) (hr:cZ ops L=[i,j]:=by decide +kernel):HA P ops Q S L a w:=by
 obtain ⟨H,x,y⟩:=y
 obtain ⟨I,o,p⟩:=p
 have B:unl (bF ops.size L)=unl (bF ops.size (i::L))+1:=cI (by rw [hr];simp)
 have D:unl (bF ops.size L)=unl (bF ops.size (j::L))+1:=cI (by rw [hr];simp)
 have C:unl (bF ops.size (j::L))=unl (bF ops.size (i::L)):=ap
 refine ⟨?_⟩
 rw [B]
 refine wpAnyH_ready (by rw [dN];exact hr) (by simp) (AllReadyH.cons x (fun A v=>y A fun a w u hw=>v.out a w u fun h=>(hw h).out) (AllReadyH.cons o (fun A v=>p A fun a w u hw=>v.out a w u fun h=>?_) AllReadyH.nil))
 have:=(hw h).out
 rw [C] at this
 exact this
theorem HA.three {L:List Nat} {a:Act} {w:World} (i j k:Nat) (B:HAS P ops Q S i L a w) (y:HAS P ops Q S j L a w) (hk:HAS P ops Q S k L a w) (hr:cZ ops L=[i,j,k]:=by decide +kernel):HA P ops Q S L a w:=by
 obtain ⟨N,A,B⟩:=B
 obtain ⟨O,x,y⟩:=y
 obtain ⟨ok,v,hk⟩:=hk
 have D:unl (bF ops.size L)=unl (bF ops.size (i::L))+1:=cI (by rw [hr];simp)
 have I:unl (bF ops.size L)=unl (bF ops.size (j::L))+1:=cI (by rw [hr];simp)
 have J:unl (bF ops.size L)=unl (bF ops.size (k::L))+1:=cI (by rw [hr];simp)
 have C:unl (bF ops.size (j::L))=unl (bF ops.size (i::L)):=ap
 have H:unl (bF ops.size (k::L))=unl (bF ops.size (i::L)):=ap
 refine ⟨?_⟩
 rw [D]
 refine wpAnyH_ready (by rw [dN];exact hr) (by simp) (AllReadyH.cons A (fun u p=>B u fun a w o hw=>p.out a w o fun h=>(hw h).out) (AllReadyH.cons x (fun u p=>y u fun a w o hw=>p.out a w o fun h=>?_) (AllReadyH.cons v (fun u p=>hk u fun a w o hw=>p.out a w o fun h=>?_) AllReadyH.nil)))
 ·have:=(hw h).out
  rw [C] at this
  exact this
 ·have:=(hw h).out
  rw [H] at this
  exact this
end
end Go.Proofs.YtgmajkppbhiopaaGreat
namespace Go.Proofs.YtgmajkppbhiopaaGreat
open Go.RowKit
open Tryz
section
variable {P:Program}
structure cW (P:Program) (t:TypeId) (n:Nat):Prop where
 d:∃d,P.underlying t=some d/\d.isRow=true
 s:(P.info? t).map (·.size)=some n
theorem eI {w:World} {b:Nat} {xs:Array Value} {t:TypeId} {u:Nat×Nat} (h:w.heap[b]?=some (.cells xs t u)) (o:Nat) {p:List Value} (hcs:(xs.toList.drop o).take p.length=p):w.rangeAt b o p:=fun j v i=>by
 rw [LQ w b (o+j) xs t u h]
 rw [<-hcs,List.getElem?_take] at i
 split at i
 ·rw [List.getElem?_drop] at i;simpa using i
 ·cases i
theorem qi (w:World) (g:Nat) (h:Array Value):Keep (fun j=>j=g) w (w.setRow g h):=by
 refine ⟨rfl,rfl,rfl,by simp [World.setRow],fun k hk hs=>?_⟩
 simp only [World.setRow,Array.getElem?_modify]
 rw [if_neg (fun e=>hs e.symm)]
theorem aS {ops:Array Oper} {rest:List Oper} {op:Oper} {a:Act} {w:World} {Q:Exit->Act->World->Prop} {u:TypeId} {x:Operand} {b o:Nat} {xs:Array Value} {t:TypeId} {C:Nat×Nat} (i:Array Value)
  (hb:w.heap[b]?=some (.cells xs t C)) (hr:cW P u i.size) (p:op.guard=none) (v:op.op=.load u x) (B:a.eval x=.pointer (some (ar b o))) (hcs:(xs.toList.drop o).take i.toList.length=i.toList)
  (h:wpList P ops Q rest (a.put op.dst (.agg i)) w):wpList P ops Q (op::rest) a w:=by
 obtain ⟨⟨d,h1,y⟩,A⟩:=hr
 exact wpList_load_mid p u x v b o B i.toList d (eI hb o hcs) h1 y (by simpa using A) (by simpa using h)
theorem jN {ops:Array Oper} {rest:List Oper} {op:Oper} {a:Act} {w:World} {Q:Exit->Act->World->Prop} {u:TypeId} {x:Operand} {b o:Nat} {i:List Value}
  (hb:w.rangeAt b o i) (hr:cW P u i.length) (p:op.guard=none) (v:op.op=.load u x) (B:a.eval x=.pointer (some (ar b o)))
  (h:wpList P ops Q rest (a.put op.dst (.agg i.toArray)) w):wpList P ops Q (op::rest) a w:=by
 obtain ⟨⟨d,h1,y⟩,A⟩:=hr
 exact wpList_load_mid p u x v b o B i d hb h1 y A h
theorem aJ {ops:Array Oper} {rest:List Oper} {op:Oper} {a:Act} {w:World} {Q:Exit->Act->World->Prop} {p:TypeId} {x y:Operand} {b n:Nat} {xs ys:Array Value} {t:TypeId}
  (hb:w.heap[b]?=some (.cells xs t (0,0))) (hr:cW P p n) (i:op.guard=none) (u:op.op=.store p x y) (B:a.eval x=(au b)) (v:a.eval y=.agg ys)
  (hn:ys.size=n) (hs:xs.size=ys.size) (h1:ys.toList.all (·.oneCell')=true)
  (h:∀o,o.heap[b]?=some (.cells ys t (0,0))->Keep (fun j=>j=b) w o->wpList P ops Q rest (a.put op.dst undef) o):wpList P ops Q (op::rest) a w:=by
 refine wpList_plain i fun K A=>?_
 unfold Oper.wp execOp
 simp only [u,B,v,Instr.storeAt,Instr.sureAddr,Sem.run_bind,Sem.run_pure,Result.andThen_ok,run_storeVar_row w b t p xs ys hb (by rw [hn];exact hr.s) hs (by rw [<-Array.all_toList];exact h1)]
 exact A _ _ (h _ (setRow_heap w b xs ys t (0,0) hb) (qi w b ys))
theorem Fd {f:Func} {x:Tmp} {o:TypeId} (h:f.results=#[.cell x o]) {tmps:Array Value} {w:World} {b:Nat} {xs:Array Value} {t:TypeId} {y:Nat×Nat} (v:tmps.getD x undef=(au b))
  (hb:w.heap[b]?=some (.cells xs t y)) (hr:cW P o xs.size):(results f tmps).run P w=.ok (.agg xs) w:=by
 obtain ⟨⟨d,h1,p⟩,u⟩:=hr
 have:=run_loadVar_mid (P:=P) w b 0 o xs.toList d (eI hb 0 (by rw [Mn,Mz])) h1 p (by simpa using u)
 rw [Array.toArray_toList] at this
 have i:tmps[x]?.getD undef=(au b):=by simpa using v
 simp [results,h,i,asAddr,this]
theorem dC {f:Func} {x y:Tmp} {o:TypeId} (h:f.results=#[.cell x o,.tmp y]) {tmps:Array Value} {w:World} {b:Nat} {xs:Array Value} {t:TypeId} {A:Nat×Nat} (v:tmps.getD x undef=(au b))
  (hb:w.heap[b]?=some (.cells xs t A)) (hr:cW P o xs.size):(results f tmps).run P w=.ok (.tuple #[.agg xs,tmps.getD y undef]) w:=by
 obtain ⟨⟨d,h1,p⟩,u⟩:=hr
 have:=run_loadVar_mid (P:=P) w b 0 o xs.toList d (eI hb 0 (by rw [Mn,Mz])) h1 p (by simpa using u)
 rw [Array.toArray_toList] at this
 have i:tmps[x]?.getD undef=(au b):=by simpa using v
 simp [results,h,i,asAddr,this]
end
section
variable {P:Program} {ops:Array Oper} {Q:Exit->Act->World->Prop} {S:World->Prop} {n:Nat}
theorem te {S:World->Prop} {a:Act} {o:Oper} {v:TypeId} {x:Operand} {b h:Nat} {xs:Array Value} {t:TypeId} {C:Nat×Nat} (i:Array Value) (hb:∀p,S p->p.heap[b]?=some (.cells xs t C)) (hr:cW P v i.size)
  (u:o.op=.load v x) (B:a.eval x=.pointer (some (ar b h))) (hcs:(xs.toList.drop h).take i.toList.length=i.toList) (hg:Region.wanted o (yielded ops a.tmps)=true):YieldsIf P ops S o (.agg i) a:=by
 obtain ⟨⟨d,h1,y⟩,A⟩:=hr
 have:=yieldsIf_load_mid (P:=P) (ops:=ops) (S:=S) (op:=o) (a:=a) hg v x u b h B i.toList d (fun p q=>eI (hb p q) h hcs) h1 y (by simpa using A)
 simpa using this
theorem HA.ld {L:List Nat} {a:Act} {w:World} (i:Nat) (u:Array Value) {o:Oper} {A:TypeId} {x:Operand} {b p:Nat} {xs:Array Value} {t:TypeId} {D:Nat×Nat} (hb:∀y,S y->y.heap[b]?=some (.cells xs t D)) (hr:cW P A u.size) (C:S w)
  (k:HA P ops Q S (i::L) (a.put o.dst (.agg u)) w)
  (B:ops[i]?=some o:=by (simp only [Mi,Mj,Mk];rfl)) (hop:o.op=.load A x:=by rfl) (hx:a.eval x=.pointer (some (ar b p)):=by rfl) (hcs:(xs.toList.drop p).take u.toList.length=u.toList:=by rfl) (hg:Region.wanted o (yielded ops a.tmps)=true:=by rfl)
  (hs:Region.noSelect ops=true:=by decide +kernel) (hQ:∀c a w d v,Q (.panic c) (Act.put a d v) w->Q (.panic c) a w:=by (intro _ _ _ d _ h;cases d<;>exact h)) (hc:kQ ops L [i]=true:=by decide +kernel):HA P ops Q S L a w:=
 HA.takes hs hQ C [i] hc (Ys.cons B (te u hb hr hop hx hcs hg) Ys.nil) (by simpa using k)
theorem XA.ld {L:List Nat} {a:Act} {w:World} (i:Nat) (u:Array Value) {o:Oper} {A:TypeId} {x:Operand} {b p:Nat} {xs:Array Value} {t:TypeId} {D:Nat×Nat} (hb:∀y,S y->y.heap[b]?=some (.cells xs t D)) (hr:cW P A u.size) (C:S w)
  (k:XA P ops Q S n (i::L) (a.put o.dst (.agg u)) w)
  (B:ops[i]?=some o:=by (simp only [Mi,Mj,Mk];rfl)) (hop:o.op=.load A x:=by rfl) (hx:a.eval x=.pointer (some (ar b p)):=by rfl) (hcs:(xs.toList.drop p).take u.toList.length=u.toList:=by rfl) (hg:Region.wanted o (yielded ops a.tmps)=true:=by rfl)
  (hs:Region.noSelect ops=true:=by decide +kernel) (hQ:∀c a w d v,Q (.panic c) (Act.put a d v) w->Q (.panic c) a w:=by (intro _ _ _ d _ h;cases d<;>exact h)) (hc:qT ops n L [i]=true:=by decide +kernel):XA P ops Q S n L a w:=
 XA.takes hs hQ C [i] hc (Ys.cons B (te u hb hr hop hx hcs hg) Ys.nil) (by simpa using k)
theorem HA.lr {L:List Nat} {a:Act} {w:World} (i:Nat) {u:List Value} {o:Oper} {y:TypeId} {x:Operand} {b p:Nat} (hb:∀A,S A->A.rangeAt b p u) (hr:cW P y u.length) (D:S w)
  (k:HA P ops Q S (i::L) (a.put o.dst (.agg u.toArray)) w)
  (B:ops[i]?=some o:=by (simp only [Mi,Mj,Mk];rfl)) (hop:o.op=.load y x:=by rfl) (hx:a.eval x=.pointer (some (ar b p)):=by rfl) (hg:Region.wanted o (yielded ops a.tmps)=true:=by rfl)
  (hs:Region.noSelect ops=true:=by decide +kernel) (hQ:∀c a w d v,Q (.panic c) (Act.put a d v) w->Q (.panic c) a w:=by (intro _ _ _ d _ h;cases d<;>exact h)) (hc:kQ ops L [i]=true:=by decide +kernel):HA P ops Q S L a w:=by
 obtain ⟨⟨d,h1,C⟩,H⟩:=hr
 exact HA.takes hs hQ D [i] hc (Ys.cons B (yieldsIf_load_mid hg y x hop b p hx u d hb h1 C H) Ys.nil) (by simpa using k)
theorem HA.st {L:List Nat} {a:Act} {w:World} (i:Nat) {o:Oper} {p:TypeId} {x y:Operand} {b m:Nat} {xs ys:Array Value} {t:TypeId} (hb:w.heap[b]?=some (.cells xs t (0,0))) (hr:cW P p m)
  (k:∀h,h.heap[b]?=some (.cells ys t (0,0))->Keep (fun j=>j=b) w h->S h/\HA P ops Q S (i::L) (a.put o.dst undef) h)
  (v:ops[i]?=some o:=by (simp only [Mi,Mj,Mk];rfl)) (hop:o.op=.store p x y:=by rfl) (hx:a.eval x=(au b):=by rfl) (hy:a.eval y=.agg ys:=by rfl)
  (hn:ys.size=m:=by rfl) (hs:xs.size=ys.size:=by rfl) (h1:ys.toList.all (·.oneCell')=true:=by rfl) (hrd:cZ ops L=[i]:=by decide +kernel) (hw:Region.wanted o (yielded ops a.tmps)=true:=by rfl):HA P ops Q S L a w:=by
 obtain ⟨u,k⟩:=k _ (setRow_heap w b xs ys t (0,0) hb) (qi w b ys)
 refine HA.s i _ u k v hrd hw ?_
 unfold execOp
 simp only [hop,hx,hy,Instr.storeAt,Instr.sureAddr,Sem.run_bind,Sem.run_pure,Result.andThen_ok,run_storeVar_row w b t p xs ys hb (by rw [hn];exact hr.s) hs (by rw [<-Array.all_toList];exact h1)]
end
def fm (a b q:Int):Int:=if q<0\/62<q then 0 else wrap64 (a*b/2^q.toNat)
def uw (x:Int):Int:=x%18446744073709551616
theorem qg (x:Int):0<=uw x/\uw x<18446744073709551616:=by unfold uw;omega
theorem fU (x:Int): -9223372036854775808<=wrap64 x/\wrap64 x<=9223372036854775807:=by unfold wrap64;omega
theorem pB (x:Int):wrap64 (uw x)=wrap64 x:=by unfold wrap64 uw;omega
theorem th {x y:Int} (h:∃k:Int,x=y+k*18446744073709551616):wrap64 x=wrap64 y:=by
 obtain ⟨k,rfl⟩:=h
 unfold wrap64;omega
theorem my {x:Int} (h1: -9223372036854775808<=x) (h:x<=9223372036854775807):wrap64 x=x:=by unfold wrap64;omega
def eO (a b:Int):Int:=a*b/18446744073709551616
def gw (a b:Int):Int:=uw (a*b)
theorem IZ (a b:Int):eO a b*18446744073709551616+gw a b=a*b:=by unfold eO gw uw;omega
theorem FL {a b:Int} (o: -9223372036854775808<=a/\a<=9223372036854775807) (hb: -9223372036854775808<=b/\b<=9223372036854775807): -85070591730234615865843651857942052864<=a*b/\a*b<=85070591730234615865843651857942052864:=by
 have h1:a.natAbs<=9223372036854775808:=ap
 have h:b.natAbs<=9223372036854775808:=ap
 have i:=Nat.mul_le_mul h1 h
 rw [<-Int.natAbs_mul] at i
 omega
theorem jc {a b:Int} (h: -9223372036854775808<=a/\a<=9223372036854775807) (hb: -9223372036854775808<=b/\b<=9223372036854775807): -9223372036854775808<=eO a b/\eO a b<=9223372036854775807:=by
 have:=FL h hb
 unfold eO;omega
theorem Eu (a b:Int) (q:Nat) (o:q<=62):eO a b*2^(64-q)+gw a b/2^q=a*b/2^q:=by
 have e:(18446744073709551616:Int)=2^(64-q)*2^q:=by rw [<-Int.pow_add,show 64-q+q=64 by omega];rfl
 have i:(2:Int)^q≠0:=by have:=Int.pow_pos (n:=2) (m:=q) (by decide);omega
 have h:=IZ a b
 rw [<-h,e,<-Int.mul_assoc,Int.add_comm (eO a b*2^(64-q)*2^q),Int.add_mul_ediv_right _ _ i,Int.add_comm]
theorem nk (x y:Int):wrap64 (wrap64 x-y)=wrap64 (x-y):=by unfold wrap64;omega
theorem qM (x y:Int):wrap64 (wrap64 x+y)=wrap64 (x+y):=by unfold wrap64;omega
theorem tj (a b:Int) (u: -9223372036854775808<=a/\a<=9223372036854775807) (hb: -9223372036854775808<=b/\b<=9223372036854775807):
  uw a*uw b=a*b+((if a<0 then b else 0)+(if b<0 then a else 0)+(if a<0/\b<0 then 18446744073709551616 else 0))*18446744073709551616:=by
 by_cases h1:a<0
 ·have p:uw a=a+18446744073709551616:=by unfold uw;omega
  by_cases i:b<0
  ·have o:uw b=b+18446744073709551616:=by unfold uw;omega
   rw [p,o,if_pos h1,if_pos i,if_pos ⟨h1,i⟩,Int.add_mul,Int.mul_add]
   omega
  ·have o:uw b=b:=by unfold uw;omega
   rw [p,o,if_pos h1,if_neg i,if_neg (fun h=>i h.2),Int.add_mul]
   omega
 ·have p:uw a=a:=by unfold uw;omega
  by_cases i:b<0
  ·have o:uw b=b+18446744073709551616:=by unfold uw;omega
   rw [p,o,if_neg h1,if_pos i,if_neg (fun h=>h1 h.1),Int.mul_add]
   omega
  ·have o:uw b=b:=by unfold uw;omega
   rw [p,o,if_neg h1,if_neg i,if_neg (fun h=>h1 h.1)]
   omega
theorem D3 (a b:Int) (o: -9223372036854775808<=a/\a<=9223372036854775807) (hb: -9223372036854775808<=b/\b<=9223372036854775807):
  wrap64 (uw a*uw b/18446744073709551616-(if a<0 then b else 0)-(if b<0 then a else 0))=eO a b:=by
 rw [tj a b o hb,Int.add_mul_ediv_right _ _ (by decide)]
 have h:=jc o hb
 rw [<-my h.1 h.2]
 refine th ⟨if a<0/\b<0 then 1 else 0,?_⟩
 unfold eO
 by_cases h1:a<0
 ·by_cases i:b<0
  ·simp only [h1,i,if_true,and_self];omega
  ·simp only [h1,i,if_true,if_false,and_false];omega
 ·by_cases i:b<0
  ·simp only [h1,i,if_true,if_false,false_and];omega
  ·simp only [h1,i,if_false,false_and];omega
theorem D2 (a b:Int) (h: -9223372036854775808<=a/\a<=9223372036854775807) (hb: -9223372036854775808<=b/\b<=9223372036854775807):uw (uw a*uw b)=gw a b:=by
 rw [tj a b h hb]
 unfold gw uw
 rw [Int.add_mul_emod_self_right]
theorem pC (a:Int):∃X:Nat,uw a=X/\X<18446744073709551616:=⟨(uw a).toNat,by have:=qg a;omega,by have:=qg a;omega⟩
def W64 (l:List Int):Prop:=∀k,k<l.length-> -9223372036854775808<=nth l k/\nth l k<=9223372036854775807
theorem vl {l:List Int} {k:Nat} (h:k<l.length):nth l k∈l:=by rw [dE l k h];exact List.getElem_mem h
theorem ix (l:List Int) (k:Nat) (v:Int) (j:Nat):nth (l.set k v) j=if j=k/\k<l.length then v else nth l j:=by
 unfold nth
 simp only [List.getD_eq_getElem?_getD,List.getElem?_set]
 by_cases h:k=j
 ·subst h
  by_cases i:k<l.length
  ·simp [i]
  ·simp [i,List.getElem?_eq_none (show l.length<=k by omega)]
 ·simp [h,Ne.symm h]
theorem iU {a b:List Int} (hl:a.length=b.length) (h:∀k,k<a.length->nth a k=nth b k):a=b:=by
 refine List.ext_getElem hl fun k h1 i=>?_
 rw [<-dE a k h1,<-dE b k i]
 exact h k h1
def dB (n:Nat) (f:Nat->Int):List Int:=(List.range n).map f
theorem cC (n:Nat) (f:Nat->Int):(dB n f).length=n:=by simp [dB]
theorem bS {n k:Nat} (f:Nat->Int) (h:k<n):nth (dB n f) k=f k:=by rw [dE _ _ (by rw [cC];exact h)];simp [dB]
theorem gY (n:Nat) (f:Nat->Int):dB (n+1) f=dB n f++[f n]:=by simp [dB,ME]
theorem fx {n:Nat} {f:Nat->Int} (h:∀k,k<n-> -9223372036854775808<=f k/\f k<=9223372036854775807):W64 (dB n f):=fun k hk=>by
 rw [cC] at hk
 rw [bS f hk];exact h k hk
theorem eK {n:Nat} {f g:Nat->Int} (h:∀k,k<n->f k=g k):dB n f=dB n g:=by
 unfold dB;exact List.map_congr_left fun k hk=>h k (List.mem_range.1 hk)
theorem fv {l:List Int} {n:Nat} {f:Nat->Int} (hl:l.length=n) (h:∀k,k<n->nth l k=f k):l=dB n f:=
 iU (by rw [cC,hl]) fun k hk=>by rw [bS f ap];exact h k ap
def jZ (l:List Int) (k:Nat) (f:Nat->Int):List Int:=dB l.length fun j=>if j<k then f j else nth l j
theorem pN (l:List Int) (k:Nat) (f:Nat->Int):(jZ l k f).length=l.length:=cC _ _
theorem ii (l:List Int) (f:Nat->Int):jZ l 0 f=l:=(fv rfl fun k _=>by rw [if_neg ap]).symm
theorem fV {l:List Int} {k:Nat} (f:Nat->Int) {j:Nat} (h:j<l.length):nth (jZ l k f) j=if j<k then f j else nth l j:=bS _ h
theorem jf {l:List Int} {k:Nat} (f:Nat->Int) (hk:k<l.length):(jZ l k f).set k (f k)=jZ l (k+1) f:=by
 refine iU (by simp [pN]) fun j h=>?_
 rw [List.length_set,pN] at h
 rw [ix,fV f h,fV f h,pN]
 by_cases h1:j=k
 ·subst h1;simp [hk]
 ·by_cases i:j<k
  ·simp [h1,i,show j<k+1 by omega]
  ·simp [h1,i,show ¬j<k+1 by omega]
theorem jg (l:List Int) (f:Nat->Int):jZ l l.length f=dB l.length f:=by
 unfold jZ;exact eK fun k hk=>by rw [if_pos hk]
def zS (xs ys:List Int) (q:Int):Nat->Int
 | 0=>0
 | k+1=>wrap64 (zS xs ys q k+fm (nth xs k) (nth ys k) q)
def s9 (xs ys:List Int) (q:Int):Int:=zS xs ys q xs.length
def pD (xs:List Int) (a q:Int):List Int:=dB xs.length fun k=>fm (nth xs k) a q
def fj (xs ys:List Int):List Int:=dB xs.length fun k=>wrap64 (nth xs k+nth ys k)
def du (n size:Nat):Nat:=if n=0 then 0 else (n-1)/size+1
theorem DJ (n s:Nat) (hn:1<=n):((n:Int)-1)/(s:Int)=(((n-1)/s:Nat):Int):=by
 rw [show ((n:Int)-1)=((n-1:Nat):Int) by omega,<-Int.natCast_ediv]
theorem fE (n size:Nat):du n size<=n:=by
 unfold du
 split
 ·omega
 ·have:=Nat.div_le_self (n-1) size
  omega
theorem iV {n size k:Nat} (h:k<du n size):k*size<n:=by
 unfold du at h
 split at h
 ·omega
 ·have h1:k<=(n-1)/size:=ap
  have i:=MN size h1
  have o:=Nat.div_mul_le_self (n-1) size
  omega
def fH (n size k:Nat):List Value:=(List.range k).flatMap fun j=>[MO ((j*size:Nat):Int),MO ((min (j*size+size) n:Nat):Int)]
theorem iW (n size k:Nat):fH n size (k+1)=fH n size k++[MO ((k*size:Nat):Int),MO ((min (k*size+size) n:Nat):Int)]:=by simp [fH,ME,List.flatMap_append]
theorem qy (n size k:Nat):(fH n size k).length=k*2:=by
 induction k with
 | zero=>simp [fH]
 | succ k ih=>rw [iW,Mo,ih];simp;omega
theorem Ad (n size:Nat) {j k:Nat} (h:j<k):(fH n size k)[j*2]?=some (MO ((j*size:Nat):Int))/\(fH n size k)[j*2+1]?=some (MO ((min (j*size+size) n:Nat):Int)):=by
 induction k with
 | zero=>omega
 | succ k ih=>
  rw [iW]
  rcases Ma j k with i | i
  ·obtain ⟨h1,o⟩:=ih i
   have hl:=qy n size k
   rw [Mr ap,Mr ap]
   exact ⟨h1,o⟩
  ·obtain rfl:j=k:=ap
   have hl:=qy n size j
   rw [Ms ap,Ms ap,hl]
   simp
theorem zW (n batch:Nat) (hb:1<=batch) (hn:batch<=n):du (n-n%batch) batch=n/batch:=by
 have h1:=Nat.div_add_mod n batch
 have i:=Nat.div_pos hn hb
 have o:n-n%batch=batch*(n/batch):=ap
 have p:1<=batch*(n/batch):=Nat.mul_pos hb i
 unfold du
 rw [if_neg ap,o]
 have h:batch*(n/batch)-1=batch*(n/batch-1)+(batch-1):=by
  have:batch*(n/batch)=batch*(n/batch-1)+batch:=by rw [<-Nat.mul_succ];congr 1;omega
  omega
 rw [h,Nat.mul_add_div hb,show (batch-1)/batch=0 from Nat.div_eq_of_lt ap]
 omega
theorem BR (n batch j:Nat) (hb:1<=batch) (h:j<n/batch):min (j*batch+batch) (n-n%batch)=j*batch+batch:=by
 have h1:=Nat.div_add_mod n batch
 have i:(j+1)*batch<=(n/batch)*batch:=MN _ h
 rw [MF] at i
 have o:(n/batch)*batch=batch*(n/batch):=Nat.mul_comm _ _
 omega
theorem nU (n batch j:Nat) (h:j<n/batch):j*batch+batch<=n:=by
 have h1:=Nat.div_mul_le_self n batch
 have i:(j+1)*batch<=(n/batch)*batch:=MN _ h
 rw [MF] at i
 omega
theorem qL (n size:Nat) (hs:1<=size):du n size=(n+size-1)/size:=by
 unfold du
 split
 ·subst_vars;rw [MH,Nat.div_eq_of_lt ap]
 ·rw [show n+size-1=(n-1)+size by omega,Nat.add_div_right _ hs]
abbrev Rg:=Nat×Nat
def aN (l:List Rg):List Value:=l.flatMap fun r=>[MO (r.1:Int),MO (r.2:Int)]
theorem ie (a b:List Rg):aN (a++b)=aN a++aN b:=by simp [aN]
theorem ns:∀l:List Rg,(aN l).length=l.length*2
 | []=>rfl
 | r::l=>by have:=ns l;simp only [aN,List.flatMap_cons,Mo,List.length_cons,List.length_nil] at *;omega
theorem mG:∀{l:List Rg} {j:Nat} {r:Rg},l[j]?=some r->(aN l)[j*2]?=some (MO (r.1:Int))/\(aN l)[j*2+1]?=some (MO (r.2:Int))
 | [],_,_,h=>by simp at h
 | x::l,0,r,h=>by simp only [Mk,Option.some.injEq] at h;subst h;exact ⟨rfl,rfl⟩
 | x::l,j+1,r,h=>by
  simp only [Mj] at h
  have:=mG h
  have e:aN (x::l)=[MO (x.1:Int),MO (x.2:Int)]++aN l:=by simp [aN]
  rw [e,Ms (by simp;omega),Ms (by simp;omega)]
  simp only [List.length_cons,List.length_nil]
  rw [show (j+1)*2-(0+1+1)=j*2 by omega,show (j+1)*2+1-(0+1+1)=j*2+1 by omega]
  exact this
def fp (n s:Nat):List Rg:=(List.range (du n s)).map fun j=>(j*s,min (j*s+s) n)
theorem eD (n s:Nat):(fp n s).length=du n s:=by simp [fp]
theorem pU (n s:Nat):aN (fp n s)=fH n s (du n s):=by simp [aN,fp,fH,List.flatMap_map]
def bdN (n k i:Nat):Nat:=i*(n/k)+min i (n%k)
def fK (n k:Nat):List Rg:=(List.range k).map fun i=>(bdN n k i,bdN n k (i+1))
theorem fD (n k:Nat):(fK n k).length=k:=by simp [fK]
def shR (d:Nat) (l:List Rg):List Rg:=l.map fun r=>(r.1+d,r.2+d)
theorem kT (d:Nat) (l:List Rg):(shR d l).length=l.length:=by simp [shR]
def dU (b:Rg) (W:Nat):List Rg:=shR b.1 (fK (b.2-b.1) W)
theorem nZ (b:Rg) (W:Nat):(dU b W).length=W:=by rw [dU,kT,fD]
def chR (s:Rg) (c:Nat):List Rg:=shR s.1 (fp (s.2-s.1) c)
def nI (n s:Nat):List Rg:=(fp n s).reverse
theorem kD (n s:Nat):(nI n s).length=du n s:=by rw [nI,List.length_reverse,eD]
def aL (l:List Rg) (j:Nat):Rg:=l.getD j (0,0)
def lQ (b:Rg) (W c:Nat):Nat:=((dU b W).map fun s=>(chR s c).length).sum
structure Acn where
 send:Bool
 add:Bool
 st:Nat
 bk:Nat
 ph:Nat
 rd:Nat
 ch:Nat
 at':Rg
def er (W w ph r:Nat):Nat:=(w+(2*W+ph-r))%W
def fI (W w ph r:Nat):Nat:=(w+(2*W+ph-r-1))%W
def ju (x y:List Rg) (f g:Nat->Rg->Acn):List Acn:=
 (List.range (max x.length y.length)).flatMap fun i=>(if i<x.length then [f i (aL x i)] else [])++(if i<y.length then [g i (aL y i)] else [])
theorem zm (x y:List Rg) (f g:Nat->Rg->Acn):(ju x y f g).length=x.length+y.length:=by
 have h:∀m,((List.range m).flatMap fun i=>(if i<x.length then [f i (aL x i)] else [])++(if i<y.length then [g i (aL y i)] else [])).length=min m x.length+min m y.length:=by
  intro m
  induction m with
  | zero=>simp
  | succ m ih=>
   rw [ME,List.flatMap_append,Mo,ih]
   simp only [List.flatMap_cons,List.flatMap_nil,List.append_nil,Mo]
   by_cases h1:m<x.length<;>by_cases o:m<y.length<;>simp [h1,o]<;>omega
 unfold ju
 rw [h];omega
def df (st bk:Nat) (b:Rg) (W c w ph r:Nat):List Acn:=
 ju (chR (aL (dU b W) (er W w ph r)) c) (chR (aL (dU b W) (fI W w ph r)) c) (fun i s=>⟨true,false,st,bk,ph,r,i,s⟩) (fun i s=>⟨false,ph==0,st,bk,ph,r,i,s⟩)
structure Pln where
 W:Nat
 mi:Nat
 bu:Nat
 ck:Nat
 wi:Nat
 n:Nat
structure Itm where
 kind:Nat
 st:Nat
 n:Nat
 a:Option Acn
def Pln.buks (p:Pln):List Rg:=nI p.n p.bu
def Pln.grps (p:Pln):List Rg:=fp p.buks.length p.wi
def gC (st:Nat) (a:Acn):Itm:=⟨if a.send then 3 else 4,st,0,some a⟩
def bY (p:Pln) (w st ph r j:Nat):List Itm:=(df st j (aL p.buks j) p.W p.ck w ph r).map (gC st)
def dg (p:Pln) (w st:Nat) (g:Rg):List Itm:=
 (List.range' g.1 (g.2-g.1)).map (fun j=>⟨2,st,j,none⟩)++
 ((List.range 2).flatMap fun ph=>(List.range (p.W-1)).flatMap fun r=>(List.range' g.1 (g.2-g.1)).flatMap fun j=>bY p w st ph r j)++
 (List.range' g.1 (g.2-g.1)).map (fun j=>⟨5,st,j,none⟩)
def aI (p:Pln) (w st:Nat):List Itm:=
 (List.range p.mi).map (fun a=>⟨1,st,a,none⟩)++p.grps.flatMap (dg p w st)++[⟨6,st,0,none⟩]
def bK (n:Nat) (f:Nat->Nat):Nat:=((List.range n).map f).sum
theorem eN (n:Nat) (f:Nat->Nat):bK (n+1) f=bK n f+f n:=by simp [bK,ME]
theorem dI {n:Nat} {f g:Nat->Nat} (h:∀k,k<n->f k=g k):bK n f=bK n g:=by
 unfold bK;congr 1;exact List.map_congr_left fun k hk=>h k (List.mem_range.1 hk)
theorem ja (n:Nat) (f g:Nat->Nat):bK n (fun k=>f k+g k)=bK n f+bK n g:=by
 induction n with
 | zero=>rfl
 | succ n ih=>rw [eN,eN,eN,ih];omega
theorem eH (n c:Nat):bK n (fun _=>c)=n*c:=by
 induction n with
 | zero=>simp [bK]
 | succ n ih=>rw [eN,ih,MF]
theorem hZ (n m:Nat) (f:Nat->Nat->Nat):bK n (fun i=>bK m (f i))=bK m (fun j=>bK n (fun i=>f i j)):=by
 induction n with
 | zero=>simp only [bK,List.range_zero,List.map_nil,List.sum_nil];rw [show (fun _:Nat=>0)=fun _=>0 from rfl];exact (eH m 0).symm
 | succ n ih=>rw [eN,ih,<-ja];exact dI fun j _=>(eN n (fun i=>f i j)).symm
theorem jR (a b:Nat) (f:Nat->Nat):bK (a+b) f=bK a f+bK b (fun k=>f (a+k)):=by
 induction b with
 | zero=>simp [bK]
 | succ b ih=>rw [<-MG,eN,ih,eN];omega
theorem qX (W a:Nat) (f:Nat->Nat):bK W (fun w=>f ((w+a)%W))=bK W f:=by
 rcases Nat.eq_zero_or_pos W with rfl | p
 ·rfl
 have h:∀d,d<W->bK W (fun w=>f ((w+d)%W))=bK W f:=by
  intro d u
  have i:=jR (W-d) d (fun w=>f ((w+d)%W))
  have o:=jR d (W-d) f
  rw [show W-d+d=W by omega] at i
  rw [show d+(W-d)=W by omega] at o
  rw [i,o,Nat.add_comm]
  congr 1
  ·exact dI fun k hk=>by
    congr 1
    rw [show W-d+k+d=k+W by omega,Nat.add_mod_right,Nat.mod_eq_of_lt ap]
  ·exact dI fun k hk=>by rw [Nat.mod_eq_of_lt ap,Nat.add_comm]
 rw [<-h (a%W) (Nat.mod_lt _ p)]
 exact dI fun k _=>by rw [Nat.add_mod_mod]
theorem qY {α:Type} (l:List α) (d:α) (f:α->Nat):(l.map f).sum=bK l.length fun k=>f (l.getD k d):=by
 induction l with
 | nil=>rfl
 | cons x l ih=>
  rw [List.map_cons,List.sum_cons,ih,List.length_cons,Nat.add_comm l.length 1,jR 1]
  have:bK 1 (fun k=>f ((x::l).getD k d))=f x:=by simp [bK]
  rw [this]
  congr 1
  exact dI fun k _=>by rw [Nat.add_comm 1 k,List.getD_cons_succ]
theorem zO {β:Type} (n:Nat) (f:Nat->List β):((List.range n).flatMap f).length=bK n fun k=>(f k).length:=by
 rw [List.length_flatMap];rfl
theorem xE {β:Type} (a n:Nat) (f:Nat->List β):((List.range' a n).flatMap f).length=bK n fun k=>(f (a+k)).length:=by
 rw [List.length_flatMap]
 unfold bK
 rw [List.range'_eq_map_range,List.map_map];rfl
theorem Ih (n s:Nat) (hs:1<=s) (f:Nat->Nat):((fp n s).map fun g=>bK (g.2-g.1) fun k=>f (g.1+k)).sum=bK n f:=by
 have h:∀m,m<=du n s->(((List.range m).map fun j=>(j*s,min (j*s+s) n)).map fun g:Rg=>bK (g.2-g.1) fun k=>f (g.1+k)).sum=bK (min (m*s) n) f:=by
  intro m
  induction m with
  | zero=>intro _;simp [bK]
  | succ m ih=>
   intro hm
   have h1:=iV (n:=n) (size:=s) (k:=m) ap
   rw [ME,List.map_append,List.map_append,List.sum_append,ih ap]
   simp only [List.map_cons,List.map_nil,List.sum_cons,List.sum_nil,Nat.add_zero]
   rw [show min (m*s) n=m*s by omega,MF]
   have:=jR (m*s) (min (m*s+s) n-m*s) f
   rw [show m*s+(min (m*s+s) n-m*s)=min (m*s+s) n by omega] at this
   exact this.symm
 have:=h (du n s) (LO _)
 unfold fp
 rw [this]
 congr 1
 rcases Nat.eq_zero_or_pos n with rfl | hn
 ·simp
 ·have:n<=du n s*s:=by
   unfold du
   rw [if_neg ap,MF]
   have:=Nat.div_add_mod (n-1) s
   have:=Nat.mod_lt (n-1) (show 0<s by omega)
   have:s*((n-1)/s)=(n-1)/s*s:=Nat.mul_comm _ _
   omega
  omega
theorem jq (st bk:Nat) (b:Rg) (W c w ph r:Nat):(df st bk b W c w ph r).length=(chR (aL (dU b W) (er W w ph r)) c).length+(chR (aL (dU b W) (fI W w ph r)) c).length:=zm _ _ _ _
theorem xe (b:Rg) (W c:Nat):lQ b W c=bK W fun s=>(chR (aL (dU b W) s) c).length:=by
 unfold lQ
 rw [qY _ (0,0),nZ];rfl
theorem yM (st bk:Nat) (b:Rg) (W c ph r:Nat):bK W (fun w=>(df st bk b W c w ph r).length)=2*lQ b W c:=by
 simp only [jq,ja]
 unfold er fI
 rw [qX W _ (fun s=>(chR (aL (dU b W) s) c).length),qX W _ (fun s=>(chR (aL (dU b W) s) c).length),<-xe]
 omega
theorem zJ (p:Pln) (w st:Nat) (g:Rg):(dg p w st g).length=bK (g.2-g.1) fun k=>2+bK 2 fun ph=>bK (p.W-1) fun r=>(bY p w st ph r (g.1+k)).length:=by
 unfold dg
 simp only [Mo,List.length_map,List.length_range',zO,xE]
 rw [ja,eH]
 have e:(bK 2 fun ph=>bK (p.W-1) fun r=>bK (g.2-g.1) fun k=>(bY p w st ph r (g.1+k)).length)=bK (g.2-g.1) fun k=>bK 2 fun ph=>bK (p.W-1) fun r=>(bY p w st ph r (g.1+k)).length:=by
  rw [dI (g:=fun ph=>bK (g.2-g.1) fun k=>bK (p.W-1) fun r=>(bY p w st ph r (g.1+k)).length) (fun ph _=>hZ _ _ _),hZ]
 rw [e];omega
theorem nG (p:Pln) (w st:Nat) (hw:1<=p.wi):(aI p w st).length=p.mi+1+bK p.buks.length fun j=>2+bK 2 fun ph=>bK (p.W-1) fun r=>(bY p w st ph r j).length:=by
 unfold aI
 simp only [Mo,List.length_map,List.length_range,List.length_flatMap,List.length_cons,List.length_nil]
 have:((p.grps.map fun a=>(dg p w st a).length)).sum=bK p.buks.length fun j=>2+bK 2 fun ph=>bK (p.W-1) fun r=>(bY p w st ph r j).length:=by
  simp only [zJ]
  exact Ih p.buks.length p.wi hw fun j=>2+bK 2 fun ph=>bK (p.W-1) fun r=>(bY p w st ph r j).length
 rw [this];omega
theorem DA (p:Pln) (st:Nat) (hw:1<=p.wi):bK p.W (fun w=>(aI p w st).length)=p.W*(p.mi+2*p.buks.length+1)+(p.buks.map fun b=>4*(p.W-1)*lQ b p.W p.ck).sum:=by
 simp only [nG p _ st hw]
 rw [ja,eH,hZ]
 have e:∀j,bK p.W (fun w=>2+bK 2 fun ph=>bK (p.W-1) fun r=>(bY p w st ph r j).length)=2*p.W+4*(p.W-1)*lQ (aL p.buks j) p.W p.ck:=by
  intro j
  rw [ja,eH,hZ]
  have:(bK 2 fun ph=>bK p.W fun w=>bK (p.W-1) fun r=>(bY p w st ph r j).length)=bK 2 fun _=>(p.W-1)*(2*lQ (aL p.buks j) p.W p.ck):=by
   refine dI fun ph _=>?_
   rw [hZ,<-eH]
   refine dI fun r _=>?_
   unfold bY
   simp only [List.length_map]
   exact yM _ _ _ _ _ _ _
  rw [this,eH,Nat.mul_comm p.W 2,show 2*((p.W-1)*(2*lQ (aL p.buks j) p.W p.ck))=4*(p.W-1)*lQ (aL p.buks j) p.W p.ck by rw [Nat.mul_left_comm (p.W-1) 2,<-Nat.mul_assoc,<-Nat.mul_assoc]]
 rw [dI (fun j _=>e j),ja,eH,qY _ (0,0)]
 unfold aL
 have:p.W*(p.mi+1)+p.buks.length*(2*p.W)=p.W*(p.mi+2*p.buks.length+1):=by
  rw [show p.mi+2*p.buks.length+1=p.mi+1+2*p.buks.length by omega,Nat.mul_add p.W (p.mi+1),show p.buks.length*(2*p.W)=p.W*(2*p.buks.length) by rw [Nat.mul_left_comm,Nat.mul_comm p.buks.length,Nat.mul_left_comm]]
 omega
end Go.Proofs.YtgmajkppbhiopaaGreat
namespace Go.Proofs.YtgmajkppbhiopaaGreat
open Tryz
theorem xM (m k:Nat) (hk:0<k):(m%k+1<k->(m+1)/k=m/k/\(m+1)%k=m%k+1)/\(¬m%k+1<k->(m+1)/k=m/k+1/\(m+1)%k=0):=by
 have h1:=Nat.div_add_mod m k
 have i:=Nat.mod_lt m hk
 constructor
 ·intro h
  have e:m+1=(m%k+1)+k*(m/k):=ap
  rw [e,Nat.add_mul_div_left _ _ hk,Nat.add_mul_mod_self_left,Nat.div_eq_of_lt h,Nat.mod_eq_of_lt h]
  omega
 ·intro h
  have e:m+1=k*(m/k+1):=by rw [Nat.mul_succ];omega
  rw [e,Nat.mul_div_cancel_left _ hk,Nat.mul_mod_right]
  exact ⟨rfl,rfl⟩
def szE (k m i:Nat):Nat:=m/k+if i<m%k then 1 else 0
theorem Ef {k:Nat} (i:Nat):szE k 0 i=0:=by simp [szE]
theorem Eg {k m i:Nat} (p:i<k):szE k (m+1) i=szE k m i+if i=m%k then 1 else 0:=by
 obtain ⟨h1,o⟩:=xM m k ap
 have hm:=Nat.mod_lt m (show 0<k by omega)
 unfold szE
 by_cases h:m%k+1<k
 ·rw [(h1 h).1,(h1 h).2]
  split<;>split<;>split<;>omega
 ·rw [(o h).1,(o h).2]
  split<;>split<;>split<;>omega
theorem pr (n k i:Nat):bdN n k (i+1)=bdN n k i+szE k n i:=by
 unfold bdN szE
 rw [MF]
 split<;>omega
theorem Jw (n k:Nat) (hk:0<k):bdN n k k=n:=by
 unfold bdN
 have h1:=Nat.div_add_mod n k
 have h:=Nat.mod_lt n hk
 omega
theorem pt (n k:Nat) {i j:Nat} (h:i<=j):bdN n k i<=bdN n k j:=by
 unfold bdN
 have:=MN (n/k) h
 omega
theorem fN (n k i:Nat) (hk:0<k) (h:i<=k):bdN n k i<=n:=by
 have:=pt n k h
 rwa [Jw n k hk] at this
theorem su (n k m:Nat):(List.range (m+1)).map (fun i=>(bdN n k i,bdN n k (i+1)))=(List.range m).map (fun i=>(bdN n k i,bdN n k (i+1)))++[(bdN n k m,bdN n k (m+1))]:=by
 rw [ME,List.map_append];rfl
end Go.Proofs.YtgmajkppbhiopaaGreat
namespace Go.Proofs.YtgmajkppbhiopaaGreat
open Go.RowKit Go.ChangeShapes Go.WideShapes Go.ChangeAt
open Tryz
abbrev eE (α:Type):=World->List Value->α->Prop
def BI {α:Type} (R:eE α):Prop:=∀{w w':World} {cs:List Value} {a:α},aq w w'->R w cs a->R w' cs a
def cq (l:List (List Value)) (j:Nat):List Value:=l.getD j []
theorem pI {l:List (List Value)} {j:Nat} (h:j<l.length):cq l j=l[j]:=by simp [cq,h]
theorem mt {rows:List (List Value)} {k:Nat} (h:∀r∈rows,r.length=k) (i t:Nat) (o:i<rows.length) (p:t<k):(List.flatten rows)[i*k+t]?=(cq rows i)[t]?:=by
 induction rows generalizing i with
 | nil=>simp at o
 | cons r l ih=>
  have hr:r.length=k:=h r (by simp)
  cases i with
  | zero=>
   rw [List.flatten_cons,Nat.zero_mul,MH,Mr ap]
   simp [cq]
  | succ i=>
   rw [List.flatten_cons,Ms (by rw [hr,Nat.add_mul];omega),hr,show (i+1)*k+t-k=i*k+t by rw [Nat.add_mul];omega,ih (fun r hr=>h r (by simp [hr])) i (by simpa using o)]
   simp [cq]
theorem Gv {rows:List (List Value)} {k:Nat} (h:∀r∈rows,r.length=k):(List.flatten rows).length=rows.length*k:=by
 induction rows with
 | nil=>simp
 | cons r l ih=>rw [List.flatten_cons,Mo,h r (by simp),ih (fun r hr=>h r (by simp [hr])),List.length_cons,Nat.add_mul];omega
def dA {α:Type} (R:eE α) (size:Nat) (w:World) (A:Option Addr) (l:List α):Prop:=
 ∃rows,Rd w A (List.flatten rows)/\rows.length=l.length/\(∀r∈rows,r.length=size)/\∀j x,l[j]?=some x->R w (cq rows j) x
def rSl {α:Type} (R:eE α) (size:Nat):eE (List α):=fun w h l=>∃A c,h=[.slice A l.length c]/\l.length<=c/\c<=9223372036854775807/\l.length<=17592186043904/\dA R size w A l
def Ka (k:IntKind):eE Int:=fun _ h n=>h=[.int k n]/\(Lit.int k n).wf=true
def AV (q:IntKind):eE (List Int):=fun w h zs=>∃A c,h=[.slice A zs.length c]/\zs.length<=c/\c<=9223372036854775807/\zs.length<=17592186043904/\Rd w A (aA q zs)/\∀z∈zs,(Lit.int q z).wf=true
section
variable {α:Type} {R:eE α} {size:Nat} {w w':World} {A:Option Addr} {l:List α}
theorem dA.below (p:BI R) (h:dA R size w A l) (hb:aq w w'):dA R size w' A l:=by
 obtain ⟨rows,h1,i,u,o⟩:=h
 exact ⟨rows,h1.below hb,i,u,fun j x v=>p hb (o j x v)⟩
theorem dA.nil (R:eE α) (size:Nat) (w:World) (A:Option Addr):dA R size w A []:=⟨[],Rd.nil _ _,rfl,by simp,by simp⟩
theorem dA.get (h:dA R size w A l) (hs:0<size) {j:Nat} {x:α} (I:l[j]?=some x):
  ∃b o v,A=some (ar b o)/\b<w.heap.size/\v.length=size/\R w v x/\w.cell? (ar b (o+j*size))=v[0]?/\∀t,t<size->w.cell? (ar b (o+j*size+t))=v[t]?:=by
 obtain ⟨rows,h1,J,C,L⟩:=h
 have p:j<rows.length:=by rw [J];exact (Mp.1 I).1
 have hrl:(cq rows j).length=size:=C _ (by rw [pI p];exact List.getElem_mem p)
 have i:∀t,t<size->∃u,(cq rows j)[t]?=some u:=fun t y=>⟨_,Mq ap⟩
 obtain ⟨N,D⟩:=i 0 hs
 obtain ⟨b,o,rfl,c0⟩:=h1 (j*size+0) N ((mt C j 0 p hs).trans D)
 have hc:∀t,t<size->w.cell? (ar b (o+j*size+t))=(cq rows j)[t]?:=fun t y=>by
  obtain ⟨u,H⟩:=i t y
  obtain ⟨O,Q,B,c⟩:=h1 (j*size+t) u ((mt C j t p y).trans H)
  injection B with B;injection B with e1 e2 _
  subst e1;subst e2
  rw [MG,c,H]
 refine ⟨b,o,cq rows j,rfl,az c0,hrl,L j x I,?_,hc⟩
 have:=hc 0 hs
 rwa [Nat.add_zero] at this
end
def j8 {H:Type} (P:Program) (t:TypeId) (d:DataW H):Prop:=∀n∈d.weights P t,n<=140737488351232
theorem Dw {H:Type} {P:Program} {e:TypeId}:∀{l:List (DataW H)},(∀n∈DataW.weightsAll P e l,n<=140737488351232)->∀(i:Nat) (d:DataW H),l[i]?=some d->j8 P e d:=by
 intro l
 induction l with
 | nil=>intro _ i d h;simp at h
 | cons x r ih=>
  intro h i d o
  unfold DataW.weightsAll at h
  cases i with
  | zero=>
   simp at o;subst o
   exact fun n hn=>h n (MD.2 (.inl hn))
  | succ i=>exact ih (fun n hn=>h n (MD.2 (.inr hn))) i d (by simpa using o)
theorem rR {H:Type} {P:Program}:∀{o:List TypeId} {l:List (DataW H)},(∀n∈DataW.weightsEach P o l,n<=140737488351232)->∀(i:Nat) (t:TypeId) (d:DataW H),o[i]?=some t->l[i]?=some d->j8 P t d:=by
 intro o
 induction o with
 | nil=>intro l _ i t d h;simp at h
 | cons t0 o ih=>
  intro l h i t d u p
  cases l with
  | nil=>simp at p
  | cons x r=>
   unfold DataW.weightsEach at h
   cases i with
   | zero=>
    simp at u p;subst u;subst p
    exact fun n hn=>h n (MD.2 (.inl hn))
   | succ i=>exact ih (fun n hn=>h n (MD.2 (.inr hn))) i t d (by simpa using u) (by simpa using p)
theorem oT {H:Type} {P:Program} {o:List TypeId} {l:List (DataW H)} (h:(DataW.weightsEach P o l).all (· <=reachBytes)=true) {i:Nat} {t:TypeId} {d:DataW H} (v:o[i]?=some t) (p:l[i]?=some d):j8 P t d:=
 rR (fun n hn=>by have u:n<=reachBytes:=of_decide_eq_true (List.all_eq_true.1 h n hn);exact u) i t d v p
def jJ (P:Program) (t:TypeId) (size:Nat) {α:Type} (R:eE α):Prop:=
 P.cellsOf t=size/\∀{H:Type} {enc:TypeId×Value->H} {W:World} {fuel:Nat} {cs:List Value} {x:DataW H×List MemPlace},DataW.trod enc P W 0 (fun _=>true) true fuel t cs=some x->j8 P t x.1->cs.length=size/\∃a,R W cs a
theorem tW {P:Program} {t:TypeId} {k:IntKind} (i:P.underlying t=some (.int k)) (hc:P.cellsOf t=1):jJ P t 1 (Ka k):=⟨hc,fun h _=>by
 obtain ⟨n,rfl,_,hw⟩:=DataW.trod_int i h
 exact ⟨rfl,n,rfl,hw⟩⟩
theorem AT {w:World} {a:Addr} {xs:List Value} (h:∀i u,xs[i]?=some u->w.cell? (a.add i)=some u):Rd w (some a) xs:=fun k u B=>by
 have C:∃v,xs[0]?=some v:=by
  have:=(Mp.1 B).1
  exact ⟨xs[0],Mq ap⟩
 obtain ⟨v,y⟩:=C
 have p:=h 0 v y
 have e:a.add 0=a:=by simp [Addr.add]
 rw [e] at p
 have A:a=(ar a.block a.off):=by
  obtain ⟨b,o,s⟩:=a
  unfold World.cell? at p
  split at p
  ·cases s with
   | none=>rfl
   | some x=>simp at p
  ·cases p
 refine ⟨a.block,a.off,by rw [<-A],?_⟩
 have hk:=h k u B
 rw [A,Addr.add_lit] at hk
 exact hk
theorem nC {P:Program} {t e:TypeId} {q:IntKind} (J:P.underlying t=some (.slice e)) (he:P.underlying e=some (.int q)) (hc:P.cellsOf e=1) (L:P.cellsOf t=1) (hb:P.bytesOf e=8):jJ P t 1 (AV q):=⟨L,fun {H U W O T y} h I=>by
 have A:∀a l c,T=[.slice a l c]->l<=17592186043904:=fun a l c hcs=>by
  rcases Go.Deep.open_slice J h with ⟨o,_⟩ | ⟨Z,Y,cap,m,n,D,Pl,o,_,hl,_,R,V,_⟩
  ·rw [hcs] at o;injection o with o;injection o with _ o;omega
  ·rw [hcs] at o;injection o with o;injection o with _ o;subst o
   have hw:=I ((l+(m-l))*8) (by rw [V];simp [DataW.weights,J,hb])
   omega
 rcases open_ints J he hc h with ⟨rfl,_⟩ | ⟨x,l,c,zs,rfl,_,hl,hm,C,_,v,N⟩
 ·exact ⟨rfl,[],none,0,rfl,LO _,by omega,by simp,Rd.nil _ _,by simp⟩
 ·have Q:=A _ _ _ rfl
  refine ⟨rfl,zs.take l,some x,c,?_,by simp;omega,by unfold maxLen at hm;exact hm,by simp;omega,?_,fun z C=>N z (List.mem_of_mem_take C)⟩
  ·rw [Mt];simp at C;rw [Nat.min_eq_left ap]
  ·refine AT fun i u B=>?_
   rw [<-de,List.getElem?_take] at B
   split at B
   ·rename_i hi
    have p:i<zs.length:=by simp at C;omega
    rw [me q zs i p] at B
    rw [v i p,<-B,dE zs i p]
    simp [List.getD,p]
   ·cases B⟩
theorem wS {P:Program} {t e:TypeId} {size:Nat} {α:Type} {R:eE α} (ht:P.underlying t=some (.slice e)) (hR:jJ P e size R) (a2:P.cellsOf t=1) (hb:8<=P.bytesOf e):jJ P t 1 (rSl R size):=⟨a2,fun {H a8 W a6 cs x} h p=>by
 rcases Go.Deep.open_slice ht h with ⟨rfl,_⟩ | ⟨a,o,cap,m,n,D,Pl,rfl,_,hl,hm,L,T,hi⟩
 ·exact ⟨rfl,[],none,0,rfl,LO _,by omega,by simp,dA.nil _ _ _ _⟩
 ·simp at L
  subst L
  obtain ⟨a4,a0⟩:=hR
  rw [a4] at hi
  have O:o<=17592186043904:=by
   have hw:=p ((o+(m-o))*P.bytesOf e) (by rw [T];simp [DataW.weights,ht])
   have:=Nat.mul_le_mul_left (o+(m-o)) hb
   omega
  have a1:∀i,i<o->j8 P e (D i):=fun i a5=>by
   refine Dw (l:=(List.range o).map D) (fun n hn=>p n ?_) i (D i) (by simp [a5])
   rw [T];simp only [DataW.weights,ht]
   exact List.mem_cons_of_mem _ (MD.2 (.inl hn))
  classical
  have C:∀i,i<o->∃A x,W.cells? 0 (a.add (i*size)) size=some A/\A.length=size/\R W A x:=fun i p=>by
   obtain ⟨A,h1,Z⟩:=hi i ap
   obtain ⟨U,x,h4⟩:=a0 Z (a1 i p)
   exact ⟨A,x,h1,U,h4⟩
  let v:Nat->List Value:=fun i=>if p:i<o then Classical.choose (C i p) else []
  have y:∀i (p:i<o),∃x,W.cells? 0 (a.add (i*size)) size=some (v i)/\(v i).length=size/\R W (v i) x:=fun i p=>by
   have:=Classical.choose_spec (C i p)
   simp only [v,dif_pos p]
   exact this
  let el:(i:Nat)->i<o->α:=fun i p=>Classical.choose (y i p)
  let l:List α:=List.ofFn (n:=o) fun i=>el i.1 i.2
  have B:l.length=o:=by simp [l]
  refine ⟨rfl,l,some a,m,by rw [B],by rw [B];exact hl,by unfold maxLen at hm;exact hm,by rw [B];exact O,(List.range o).map v,?_,by simp [l],?_,?_⟩
  ·have U:∀r∈(List.range o).map v,r.length=size:=by
    intro r hr
    obtain ⟨i,J,rfl⟩:=List.mem_map.1 hr
    obtain ⟨x,_,h,_⟩:=y i (List.mem_range.1 J)
    exact h
   refine AT fun i u Q=>?_
   have p:=(Mp.1 Q).1
   rw [Gv U,List.length_map,List.length_range] at p
   have I:0<size:=by
    rcases Nat.eq_zero_or_pos size with h | h
    ·rw [h] at p;omega
    ·exact h
   have N:i=i/size*size+i%size:=by rw [Nat.mul_comm];exact (Nat.div_add_mod i size).symm
   have hq:i/size<o:=Nat.div_lt_of_lt_mul (by rw [Nat.mul_comm];exact p)
   have hr:=Nat.mod_lt i I
   obtain ⟨x,a3,a7,_⟩:=y _ hq
   obtain ⟨_,_,Y⟩:=World.cells?_some a3
   rw [N,mt U _ _ (by simpa using hq) hr] at Q
   have e:cq ((List.range o).map v) (i/size)=v (i/size):=by simp [cq,hq]
   rw [e,<-Y _ hr] at Q
   rw [N]
   rw [Go.Deep.add_add] at Q
   exact Q
  ·intro r hr
   obtain ⟨i,J,rfl⟩:=List.mem_map.1 hr
   obtain ⟨x,_,h,_⟩:=y i (List.mem_range.1 J)
   exact h
  ·intro j x T
   have hj:j<o:=by rw [<-B];exact (Mp.1 T).1
   have e:cq ((List.range o).map v) j=v j:=by simp [cq,hj]
   rw [e]
   have V:x=el j hj:=by
    have:=Mp.1 T
    obtain ⟨h1,Z⟩:=this
    rw [<-Z]
    simp [l]
   rw [V]
   exact (Classical.choose_spec (y j hj)).2.2⟩
theorem bW {P:Program} {t A:TypeId} {C:Array Field} {size:Nat} {α:Type} {R:eE α} (I:jJ P t size R) (p:P.underlying A=some (.struct C)) {H:Type} {y:TypeId×Value->H} {W:World} {n o:Nat} {B:List Value} {x:DataW H×List MemPlace} {xs:List (DataW H×List MemPlace)} (J:x=(.agg (xs.map (·.1)),xs.flatMap (·.2))) (hl:j8 P A x.1) {i:Nat}
  (h:DataW.trod y P W 0 (fun _=>true) true n t ((B.drop o).take (P.cellsOf t))=xs[i]?) (D:i<xs.length) (v:(C.toList.map (·.type))[i]?=some t):∃a,R W ((B.drop o).take size) a:=by
 obtain ⟨hc,u⟩:=I
 rw [hc,Mq D] at h
 refine (u h ?_).2
 subst J
 simp only [j8,DataW.weights,p] at hl
 exact rR hl i t _ v (by simp [Mq D])
theorem qs {P:Program} {t:TypeId} {size:Nat} {α:Type} {R:eE α} (y:jJ P t size R) {H:Type} {i:TypeId×Value->H} {W:World} {v:Value} {d:DataW H} {p:List MemPlace} (h:DataW.Trod i P W 0 (fun _=>true) true t v d p) (hl:j8 P t d):∃a,R W v.cells.toList a/\v.cells.toList.length=size:=by
 obtain ⟨o,u⟩:=h
 obtain ⟨h1,a,x⟩:=y.2 u hl
 exact ⟨a,x,h1⟩
end Go.Proofs.YtgmajkppbhiopaaGreat
namespace Go.Proofs.YtgmajkppbhiopaaGreat
open Go.RowKit
open Tryz
def fL (B:Nat) (w:World):World:={w with heap:=w.heap.mapIdx fun k o=>if k<B then .cells #[] 0 (0,0) else o}
theorem jm (B:Nat) (w:World):(fL B w).heap.size=w.heap.size:=by simp [fL]
theorem iq {B k:Nat} {w:World} (h:B<=k):(fL B w).heap[k]?=w.heap[k]?:=by
 simp only [fL,Array.getElem?_mapIdx]
 have i:¬k<B:=ap
 simp [i]
theorem nX {B k:Nat} {w:World} (h:k<B) (hk:k<w.heap.size):(fL B w).heap[k]?=some (.cells #[] 0 (0,0)):=by
 simp only [fL,Array.getElem?_mapIdx]
 simp [h,hk]
theorem qR (B:Nat) (w:World):Keep (fun j=>j<B) w (fL B w):=⟨rfl,rfl,rfl,by rw [jm];exact LO _,fun k _ hn=>iq ap⟩
theorem fq {w:World} {B base:Nat} {e:TypeId} {size:Nat} {v:Value} {n:Nat} {xs:List Value} (h:w.ownsRow base e size v n xs) (hB:B<=base):(fL B w).ownsRow base e size v n xs:=
 (qR B w).own h fun k hk hl=>by have:=(h.lt k hk).1;omega
theorem BU {B:Nat} {w i:World} (h:aq w i):Below (fL B w).heap.size (fL B w) (fL B i):=
 ⟨h.os,h.tape,h.output,by rw [jm,jm];exact h.size,fun k hk=>by
  rw [jm] at hk
  rcases Ma k B with hb | hb
  ·rw [nX hb (LV hk h.size),nX hb hk]
  ·rw [iq hb,iq hb,h.block k hk]⟩
def Agr (B:Nat) (u v:World):Prop:=∀k,B<=k->k<u.heap.size->v.heap[k]?=u.heap[k]?
theorem Agr.refl (B:Nat) (u:World):Agr B u u:=fun _ _ _=>rfl
theorem Ec {B:Nat} {u v:World} {a:Addr} {x:Value} (h:(fL B u).cell? a=some x) (i:Agr B u v):v.cell? a=some x:=by
 have hl:=az h
 rw [jm] at hl
 rcases Ma a.block B with hb | hb
 ·have o:=nX (w:=u) hb hl
  rw [World.cell?] at h
  simp only [o] at h
  simp at h
 ·exact (World.cell?_of_block (w:=fL B u) ((i _ hb hl).trans (iq hb).symm)).trans h
theorem qS {B:Nat} {u v:World} {b:Nat} {x:Value} {xs:List Value} {t:TypeId} {i:Nat×Nat} (h:(fL B u).heap[b]?=some (.cells (x::xs).toArray t i)) (o:Agr B u v):v.heap[b]?=some (.cells (x::xs).toArray t i):=by
 have hl:=LN h
 rw [jm] at hl
 rcases Ma b B with hb | hb
 ·rw [nX hb hl] at h
  simp at h
 ·rw [o b hb hl,<-iq hb];exact h
theorem kO {B:Nat} {u v:World} {A:Option Addr} {xs:List Value} (h:Rd (fL B u) A xs) (i:Agr B u v):Rd v A xs:=fun k x p=>by
 obtain ⟨b,o,e,hc⟩:=h k x p
 exact ⟨b,o,e,Ec hc i⟩
theorem BG {B i:Nat} {u:World} (h:B<=i):Agr i u (fL B u):=fun k hk _=>iq ap
def szN (sz:List Int) (k:Nat):Nat:=(nth sz k).toNat
def bQ (sz:List Int):Nat->Nat
 | 0=>0
 | k+1=>bQ sz k+(szN sz k+1)*szN sz (k+1)
def dq (sz:List Int) (k:Nat):Nat:=bQ sz k+szN sz (k+1)*szN sz k
def cS (sz:List Int):Prop:=(2<=sz.length/\sz.length<=16)/\∀k,k<sz.length->1<=nth sz k/\nth sz k<=1048576
def dH (sz:List Int):Prop:=cS sz/\bQ sz (sz.length-1)<=1048576
theorem cS.at {sz:List Int} (h:cS sz) {k:Nat} (hk:k<sz.length):1<=szN sz k/\szN sz k<=1048576/\nth sz k=(szN sz k:Int):=by
 have:=h.2 k hk
 unfold szN;omega
theorem ft (sz:List Int) (k:Nat):dq sz k+szN sz (k+1)=bQ sz (k+1):=by
 unfold dq
 rw [bQ,Nat.add_mul,Nat.one_mul,Nat.mul_comm (szN sz k)];omega
theorem cS.mul {sz:List Int} (h:cS sz) {k:Nat} (hk:k+1<sz.length):szN sz (k+1)*szN sz k<=1099511627776:=by
 have h1:=h.at hk
 have i:=h.at (k:=k) ap
 exact Nat.mul_le_mul h1.2.1 i.2.1
theorem cS.cnt {sz:List Int} (h:cS sz):∀k,k<sz.length->bQ sz k<=k*1099512676352:=by
 intro k
 induction k with
 | zero=>intro _;simp [bQ]
 | succ k ih=>
  intro hk
  have h1:=ih ap
  have o:=h.mul hk
  have p:=(h.at hk).2.1
  have i:=ft sz k
  unfold dq at i
  omega
theorem fF (sz:List Int) {j k:Nat} (h:j<=k):bQ sz j<=bQ sz k:=by
 induction h with
 | refl=>exact LO _
 | step _ ih=>rw [bQ];omega
theorem cS.bound {sz:List Int} (h:cS sz) {k:Nat} (hk:k<sz.length):bQ sz k<=17592202821632:=by
 have h1:=h.cnt k hk
 have i:=h.1.2
 have:k*1099512676352<=16*1099512676352:=MN _ ap
 omega
theorem dH.bound {sz:List Int} (h:dH sz) {k:Nat} (hk:k<sz.length):bQ sz k<=1048576:=LU (fF sz ap) h.2
theorem dH.mul {sz:List Int} (h:dH sz) {k:Nat} (hk:k+1<sz.length):szN sz (k+1)*szN sz k<=1048576:=by
 have h1:=h.bound hk
 have i:=ft sz k
 unfold dq at i
 omega
def nV (sz:List Int) (k:Nat):List Value:=(List.range k).flatMap fun j=>[MO (bQ sz j:Int),MO (dq sz j:Int)]
def pw (sz:List Int) (k:Nat):List Value:=(List.range k).flatMap fun j=>[MO (dq sz j:Int),MO (bQ sz (j+1):Int)]
theorem nl (sz:List Int) (k:Nat):nV sz (k+1)=nV sz k++[MO (bQ sz k:Int),MO (dq sz k:Int)]:=by simp [nV,ME,List.flatMap_append]
theorem nK (sz:List Int) (k:Nat):pw sz (k+1)=pw sz k++[MO (dq sz k:Int),MO (bQ sz (k+1):Int)]:=by simp [pw,ME,List.flatMap_append]
theorem ko (sz:List Int) (k:Nat):(nV sz k).length=k*2:=by
 induction k with
 | zero=>rfl
 | succ k ih=>rw [nl,Mo,ih];simp;omega
theorem kE (sz:List Int) (k:Nat):(pw sz k).length=k*2:=by
 induction k with
 | zero=>rfl
 | succ k ih=>rw [nK,Mo,ih];simp;omega
theorem D5 (sz:List Int) {j n:Nat} (h:j<n):(nV sz n)[j*2]?=some (MO (bQ sz j:Int))/\(nV sz n)[j*2+1]?=some (MO (dq sz j:Int)):=by
 induction n with
 | zero=>omega
 | succ n ih=>
  rw [nl]
  by_cases i:j<n
  ·have:=ih i
   rw [Mr (by rw [ko];omega),Mr (by rw [ko];omega)]
   exact this
  ·obtain rfl:j=n:=ap
   rw [Ms (by rw [ko];omega),Ms (by rw [ko];omega),ko]
   simp
theorem In (sz:List Int) {j n:Nat} (h:j<n):(pw sz n)[j*2]?=some (MO (dq sz j:Int))/\(pw sz n)[j*2+1]?=some (MO (bQ sz (j+1):Int)):=by
 induction n with
 | zero=>omega
 | succ n ih=>
  rw [nK]
  by_cases i:j<n
  ·have:=ih i
   rw [Mr (by rw [kE];omega),Mr (by rw [kE];omega)]
   exact this
  ·obtain rfl:j=n:=ap
   rw [Ms (by rw [kE];omega),Ms (by rw [kE];omega),kE]
   simp
def cF (T:TypeId) (w:World) (b:Nat) (sz:List Int):Prop:=∃A1 c1 h c2 i c3,
 w.heap[b]?=some (.cells #[.slice A1 sz.length c1,.slice h (sz.length-1) c2,.slice i (sz.length-1) c3,MO (bQ sz (sz.length-1):Int)] T (0,0))/\
 Rd w A1 (aA .i64 sz)/\Rd w h (nV sz (sz.length-1))/\Rd w i (pw sz (sz.length-1))
theorem cF.below {T:TypeId} {w i:World} {b:Nat} {sz:List Int} (h:cF T w b sz) (hb:aq w i):cF T i b sz:=by
 obtain ⟨A1,c1,u,c2,p,c3,o,h1,v,x⟩:=h
 exact ⟨A1,c1,u,c2,p,c3,(hb.block b (LN o)).trans o,h1.below hb,v.below hb,x.below hb⟩
theorem cF.lt {T:TypeId} {w:World} {b:Nat} {sz:List Int} (h:cF T w b sz):b<w.heap.size:=by
 obtain ⟨A1,c1,p,c2,o,c3,i,_⟩:=h
 exact LN i
end Go.Proofs.YtgmajkppbhiopaaGreat
