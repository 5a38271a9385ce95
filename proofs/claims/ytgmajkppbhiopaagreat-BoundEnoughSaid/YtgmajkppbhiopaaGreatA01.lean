/- No condition. -/
import Derived.Test.YtgmajkppbhiopaaGreatA00
import Derived.WalkKit
import Derived.Lib.Hide
import Derived.Deep.Draws
import Derived.Deep.AppendLies
import Derived.Maps.AppendAt
import Derived.WalkSmall
import Derived.StillTail
import Derived.OrdersHeld
import Derived.Deep.RegionHeld
import Derived.RangeFuncNested
import Derived.RangeFuncBound
import Derived.RangeFuncCalls
import Derived.RangeFuncLeaves
import Derived.RangeFuncBox
import Derived.Shelf.Abstract
import Derived.OwnWalkIn
import Derived.TacticsInMore
import Derived.LoopNIn
import Derived.LoopIn
set_option linter.unusedSimpArgs false
set_option linter.unusedVariables false
set_option maxRecDepth 100000
set_option maxHeartbeats 4000000
namespace Go.Proofs.YtgmajkppbhiopaaGreat
open Go.RowKit
def nth (l:List Int) (k:Nat):Int:=l.getD k 0
theorem cW (l:List Int) (k:Nat) (h:k<l.length):nth l k=l[k]:=by simp [nth,List.getD,h]
theorem aF {k:IntKind} {a b:Int} (h:a=b):Ending.returned (.int k a)=.returned (.int k b):=by rw [h]
theorem bD {a b:Bool} (h:a=b):Ending.returned (.bool a)=.returned (.bool b):=by rw [h]
def ar (q:IntKind) (zs:List Int):List Value:=zs.map (.int q)
theorem aK (q:IntKind) (zs:List Int):(ar q zs).length=zs.length:=by simp [ar]
theorem ez (q:IntKind) (a b:List Int):ar q (a++b)=ar q a++ar q b:=by simp [ar]
theorem ji (q:IntKind) (zs:List Int) (k:Nat) (h:k<zs.length):(ar q zs)[k]?=some (.int q (nth zs k)):=by
 simp [ar,cW zs k h,h]
theorem rM (q:IntKind) (zs:List Int) (k:Nat) (a:Int):(ar q zs).set k (.int q a)=ar q (zs.set k a):=by simp [ar,List.map_set]
theorem bj (q:IntKind) (zs:List Int):∀u∈ar q zs,u.oneCell'=true:=ints_oneCell q zs
theorem du (q:IntKind) (zs:List Int) (n:Nat):(ar q zs).take n=ar q (zs.take n):=by simp [ar,List.map_take]
theorem dP (q:IntKind) (zs:List Int) (n:Nat):(ar q zs).drop n=ar q (zs.drop n):=by simp [ar,List.map_drop]
theorem gj (q:IntKind) (n:Nat) (a:Int):List.replicate n (Value.int q a)=ar q (List.replicate n a):=by simp [ar]
def Rd (w:World) (A:Option Addr) (xs:List Value):Prop:=
 ∀k u,xs[k]?=some u→∃b o,A=some ⟨b,o,none⟩∧w.cell? ⟨b,o+k,none⟩=some u
theorem au {w:World} {a:Addr} {u:Value} (h:w.cell? a=some u):a.block<w.heap.size:=World.block_lt_of_cell? w a h
theorem Rd.nil (w:World) (A:Option Addr):Rd w A []:=fun k u h=>by simp at h
theorem Rd.num {w:World} {A:Option Addr} {q:IntKind} {zs:List Int} (h:Rd w A (ar q zs)) {k:Nat} (hk:k<zs.length):
  ∃b o,A=some ⟨b,o,none⟩∧w.cell? ⟨b,o+k,none⟩=some (.int q (nth zs k)):=h k _ (ji q zs k hk)
theorem Rd.same {w i:World} {A:Option Addr} {xs:List Value} (h:Rd w A xs) (hb:∀b,b<w.heap.size→i.heap[b]?=w.heap[b]?):Rd i A xs:=fun k u v=>by
 obtain ⟨b,o,x,hc⟩:=h k u v
 exact ⟨b,o,x,(World.cell?_of_block (w:=w) (hb _ (au hc))).trans hc⟩
theorem Rd.below {w i:World} {A:Option Addr} {xs:List Value} (h:Rd w A xs) (hb:Below w.heap.size w i):Rd i A xs:=h.same hb.block
theorem Rd.alloc {w:World} {A:Option Addr} {xs:List Value} (h:Rd w A xs) (o:Obj):Rd (w.alloc o) A xs:=h.same fun b hb=>E0 w o b hb
theorem Rd.drew {w:World} {A:Option Addr} {xs:List Value} (h:Rd w A xs):Rd w.drew A xs:=h
theorem Rd.drewN {w:World} {A:Option Addr} {xs:List Value} (h:Rd w A xs) (n:Nat):Rd (w.drewN n) A xs:=h
theorem Rd.belowB {B:Nat} {w v:World} {A:Option Addr} {xs:List Value} (h:Rd w A xs) (hb:Below B w v) (y:∀a,A=some a→a.block<B):Rd v A xs:=fun k u x=>by
 obtain ⟨b,o,i,hc⟩:=h k u x
 exact ⟨b,o,i,(hb.cell (p:=⟨b,o+k,none⟩) (show b<B from y _ i)).trans hc⟩
theorem Rd.own {w:World} {base:Nat} {e:TypeId} {size n c:Nat} {A:Option Addr} {xs:List Value} (h:w.ownsRow base e size (.slice A n c) n xs):Rd w A xs:=fun k u v=>by
 have hk:k<xs.length:=(Fq.1 v).1
 rcases h.2 with ⟨_,B⟩ | ⟨g,cap,x,o,_,C,_,_,_,i⟩
 ·have:=h.1;rw [B] at this;omega
 ·simp only [FD] at o
  obtain ⟨rfl,_,rfl⟩:=o
  refine ⟨g,0,rfl,?_⟩
  have y:=h.cellAt k (by have:=h.1;omega)
  rw [FI,y,v]
theorem Rd.grown {w v:World} {row:Option Nat} {A:Option Addr} {xs:List Value} (h:Rd w A xs) (y:w.grownBy v row) (B:∀a,A=some a→some a.block≠row):Rd v A xs:=fun k u x=>by
 obtain ⟨b,o,i,hc⟩:=h k u x
 exact ⟨b,o,i,y.cell hc (show some b≠row from B _ i)⟩
theorem Rd.take {w:World} {A:Option Addr} {xs:List Value} (h:Rd w A xs) (n:Nat):Rd w A (xs.take n):=fun k u i=>by
 rw [List.getElem?_take] at i
 split at i
 ·exact h k u i
 ·cases i
theorem Rd.drop {w:World} {b o:Nat} {xs:List Value} (h:Rd w (some ⟨b,o,none⟩) xs) (n:Nat):Rd w (some ⟨b,o+n,none⟩) (xs.drop n):=fun k u i=>by
 rw [List.getElem?_drop] at i
 obtain ⟨v,x,e,hc⟩:=h _ _ i
 injection e with e
 injection e with e1 e2 _
 subst e1;subst e2
 exact ⟨b,o+n,rfl,by rw [FH];exact hc⟩
theorem fk (w:World) (xs:List Value) (e:TypeId) (n:Nat) (hn:w.heap.size=n):Rd (w.alloc (.cells xs.toArray e)) (some ⟨n,0,none⟩) xs:=fun k u h=>by
 subst hn
 refine ⟨_,_,rfl,?_⟩
 rw [FI,EO _ w.heap.size k xs.toArray e (0,0) (EN w _)]
 simpa using h
theorem av {w:World} {base:Nat} {e:TypeId} {size:Nat} {v:Value} {n:Nat} {xs:List Value} (h:w.ownsRow base e size v n xs):∃A c,v=.slice A n c∧n≤c:=by
 rcases h.2 with ⟨rfl,rfl⟩ | ⟨g,cap,i,rfl,_,_,hc,_⟩
 ·exact ⟨none,0,rfl,EM _⟩
 ·exact ⟨_,_,rfl,hc⟩
theorem aq {w i:World} {base:Nat} {e:TypeId} {size:Nat} {v:Value} {n:Nat} {xs:List Value} (h:w.ownsRow base e size v n xs) (hb:Below w.heap.size w i):i.ownsRow base e size v n xs:=
 h.kept (row:=none) ⟨hb.os,hb.tape,hb.output,hb.size,fun k hk _=>hb.block k hk⟩ (by cases hv:v.ownBlock<;>simp)
theorem bC {w:World} {base:Nat} {e:TypeId} {size:Nat} {v:Value} {n:Nat} {xs:List Value} (h:w.ownsRow base e size v n xs) (m:Nat):(w.drewN m).ownsRow base e size v n xs:=h
theorem aA {w:World} {base base':Nat} {e:TypeId} {size:Nat} {v:Value} {n:Nat} {xs:List Value} (h:w.ownsRow base e size v n xs) (hb:base'≤base):w.ownsRow base' e size v n xs:=by
 refine ⟨h.1,?_⟩
 rcases h.2 with u | ⟨g,cap,i,o,x,r⟩
 ·exact .inl u
 ·exact .inr ⟨g,cap,i,o,ES hb x,r⟩
structure Keep (S:Nat→Prop) (w w':World):Prop where
 os:w'.os=w.os
 tape:w'.tape=w.tape
 output:w'.output=w.output
 size:w.heap.size≤w'.heap.size
 block:∀k,k<w.heap.size→¬S k→w'.heap[k]?=w.heap[k]?
theorem Keep.refl (S:Nat→Prop) (w:World):Keep S w w:=⟨rfl,rfl,rfl,EM _,fun _ _ _=>rfl⟩
theorem Keep.trans {S:Nat→Prop} {a b c:World} (h:Keep S a b) (k:Keep S b c):Keep S a c:=
 ⟨k.os.trans h.os,k.tape.trans h.tape,k.output.trans h.output,ES h.size k.size,fun i o hn=>(k.block i (ET o h.size) hn).trans (h.block i o hn)⟩
theorem Keep.below {S:Nat→Prop} {w i:World} (h:Below w.heap.size w i):Keep S w i:=⟨h.os,h.tape,h.output,h.size,fun k hk _=>h.block k hk⟩
theorem Keep.mono {S S':Nat→Prop} {w i:World} (h:Keep S w i) (o:∀k,k<w.heap.size→S k→S' k):Keep S' w i:=⟨h.os,h.tape,h.output,h.size,fun k hk hn=>h.block k hk fun u=>hn (o k hk u)⟩
theorem Keep.drewN {S:Nat→Prop} {a w:World} (h:Keep S a w) (n:Nat):Keep S a (w.drewN n):=⟨h.os,h.tape,h.output,h.size,h.block⟩
theorem Keep.drew {S:Nat→Prop} {a w:World} (h:Keep S a w):Keep S a w.drew:=⟨h.os,h.tape,h.output,h.size,h.block⟩
theorem Keep.alloc {S:Nat→Prop} {a w:World} (h:Keep S a w) (o:Obj):Keep S a (w.alloc o):=h.trans (Keep.below ((EP _ w).alloc (EM _) o))
theorem Keep.setCell {S:Nat→Prop} {a w:World} (h:Keep S a w) (p:Addr) (i:a.heap.size≤p.block∨S p.block) (u:Value):Keep S a (w.setCell p u):=
 ⟨h.os,h.tape,h.output,by simp [World.setCell];exact h.size,fun k hk hn=>(Below.heap_setCell w p u k (fun e=>by subst e;rcases i with i | i<;>first | omega | exact hn i)).trans (h.block k hk hn)⟩
theorem Keep.grown {S:Nat→Prop} {a w u:World} (h:Keep S a w) {row:Option Nat} (i:w.grownBy u row) (hr:∀k,row=some k→a.heap.size≤k∨S k):Keep S a u:=
 ⟨i.os.trans h.os,i.tape.trans h.tape,i.output.trans h.output,ES h.size i.size,fun k hk hn=>
  (i.block k (ET hk h.size) fun e=>by
   rcases hr k e.symm with o | o
   ·omega
   ·exact hn o).trans (h.block k hk hn)⟩
theorem Keep.toBelow {S:Nat→Prop} {B:Nat} {w i:World} (h:Keep S w i) (hB:B≤w.heap.size) (u:∀k,S k→B≤k):Below B w i:=
 ⟨h.os,h.tape,h.output,h.size,fun k hk=>h.block k (by omega) fun o=>by have:=u k o;omega⟩
theorem Keep.cell {S:Nat→Prop} {w i:World} (h:Keep S w i) {p:Addr} {u:Value} (hc:w.cell? p=some u) (o:¬S p.block):i.cell? p=some u:=
 (World.cell?_of_block (w:=w) (h.block _ (au hc) o)).trans hc
theorem Keep.rd {S:Nat→Prop} {w v:World} (h:Keep S w v) {A:Option Addr} {xs:List Value} (hr:Rd w A xs) (y:∀a,A=some a→¬S a.block):Rd v A xs:=fun k u x=>by
 obtain ⟨b,o,i,hc⟩:=hr k u x
 exact ⟨b,o,i,h.cell hc (show ¬S b from y _ i)⟩
theorem Keep.own {S:Nat→Prop} {w x:World} (h:Keep S w x) {base:Nat} {e:TypeId} {size:Nat} {v:Value} {n:Nat} {xs:List Value} (u:w.ownsRow base e size v n xs) (A:∀k,v.ownBlock=some k→¬S k):x.ownsRow base e size v n xs:=by
 refine ⟨u.1,?_⟩
 rcases u.2 with y | ⟨g,cap,o,rfl,B,i,r⟩
 ·exact .inl y
 ·exact .inr ⟨g,cap,o,rfl,B,(h.block g (EL i) (A g rfl)).trans i,r⟩
structure cH (P:Program) (t e:TypeId) (z:Value) (size bytes:Nat):Prop where
 und:P.underlying t=some (.slice e)
 info:∃i,P.info? e=some i∧i.zero=some z∧i.size=size∧i.bytes=bytes
 zs:z.cells.size=size
 pos:0<size
theorem be {P:Program} {t e:TypeId} {z:Value} {size y:Nat} (T:cH P t e z size y) (w:World) {ops:Array Oper} {rest:List Oper} {o:Oper} {a:Act} {Q:Exit→Act→World→Prop}
  (H:o.guard=none) (s x:Operand) (L:o.op=.call {callee:=.builtin .append,args:=#[s,x],argTypes:=#[t,t]})
  (base:Nat) (v:Value) (n:Nat) (xs:List Value) (hs:a.eval s=v) (hown:w.ownsRow base e size v n xs)
  (us:List Value) (hx:a.eval x=.slice (some ⟨w.heap.size,0,none⟩) 1 1) (hus:us.length=size) (h1:∀u∈us,u.oneCell'=true)
  (hb:(n+1)*y≤140737488355328) (h63:n+1≤maxLen) (hbase:base≤w.heap.size)
  (h:∀g c B,B.ownsRow base e size (.slice (some ⟨g,0,none⟩) (n+1) c) (n+1) (xs++us)→Below base w B→w.grownBy B v.ownBlock→
   wpList P ops Q rest (a.put o.dst (.slice (some ⟨g,0,none⟩) (n+1) c)) B):wpList P ops Q (o::rest) a (w.alloc (.cells us.toArray e)):=by
 obtain ⟨i,U,I,J,D⟩:=T.info
 refine wpList_append_own (w.alloc (.cells us.toArray e)) H s x t L base e i z size y T.und U I J D T.zs T.pos v n xs hs (hown.alloc _) ⟨w.heap.size,0,none⟩ 1 1 us hx (by simpa using hus) ?_ h1 h63 hb
  (by simp;omega) ?_
 ·intro j u R
  rw [Addr.add_lit,FI,EO _ w.heap.size j us.toArray e (0,0) (EN w _)]
  simpa using R
 ·intro V B A O _
  obtain ⟨g,c,rfl,N,_⟩:=A.form (by omega)
  have C:w.grownBy B v.ownBlock:=(World.grownBy_alloc w _ _).trans O
  exact h g c B A ((EP base w).grown C hbase fun k hk=>(hown.lt k hk).1) C
theorem jL {P:Program} {t e:TypeId} {z:Value} {size h:Nat} (T:cH P t e z size h) (w:World) (base:Nat) (A:TypeId) (v:Value) (n:Nat) (xs:List Value) (o:w.ownsRow base e size v n xs) (c:Nat):
  (Builtin.append_ #[t,t] A #[v,.slice none 0 c]).run P w=.ok v w:=by
 obtain ⟨i,x,_,_,_⟩:=T.info
 rcases o.2 with ⟨rfl,rfl⟩ | ⟨g,cap,y,rfl,_,_,u,_⟩
 ·simp [Builtin.append_,run_underlying T.und,sizeOf,typeInfo,x,Builtin.lenOf,Builtin.firstCells]
 ·simp [Builtin.append_,run_underlying T.und,sizeOf,typeInfo,x,Builtin.lenOf,Builtin.firstCells,u,storeCells]
theorem vD {P:Program} {t e:TypeId} {z:Value} {size x:Nat} (T:cH P t e z size x) (w:World) (base:Nat) (R:TypeId) (v:Value) (n:Nat) (xs:List Value) (y:w.ownsRow base e size v n xs)
  (A:Option Addr) (m c:Nat) (C:List Value) (hr:Rd w A C) (I:C.length=m*size) (Y:∀u∈C,u.oneCell'=true)
  (hb:(n+m)*x≤140737488355328) (O:n+m≤maxLen) (B:base≤w.heap.size):
  ∃H D,(Builtin.append_ #[t,t] R #[v,.slice A m c]).run P w=.ok H D∧D.ownsRow base e size H (n+m) (xs++C)∧Below base w D∧w.grownBy D v.ownBlock∧(H.ownBlock=v.ownBlock∨H.ownBlock=some w.heap.size):=by
 cases A with
 | none=>
  have hm:C=[]:=by
   cases C with
   | nil=>rfl
   | cons u l=>obtain ⟨b,o,h,_⟩:=hr 0 u rfl;cases h
  subst hm
  have N:m=0:=by
   have:=T.pos
   rcases Nat.eq_zero_or_pos m with h | h
   ·exact h
   ·have:=Nat.mul_pos h this;simp at I;omega
  subst N
  exact ⟨v,w,jL T w base R v n xs y c,by simpa using y,EP _ _,World.grownBy.refl _ _,.inl rfl⟩
 | some ad=>
  obtain ⟨i,hi,J,L,Q⟩:=T.info
  have hc:∀j u,C[j]?=some u→w.cell? (ad.add j)=some u:=fun j u hu=>by
   obtain ⟨b,o,e,h⟩:=hr j u hu
   injection e with e
   subst e
   rw [Addr.add_lit];exact h
  obtain ⟨H,D,hr,V,U,h4,Z⟩:=run_append_own_at (P:=P) w base t R e i z size x T.und hi J L Q T.zs T.pos v n xs y ad m c C I hc Y O hb B
  exact ⟨H,D,hr,V,(EP base w).grown U B fun k hk=>(y.lt k hk).1,U,Z⟩
theorem dE {P:Program} {t e:TypeId} {z:Value} {size i:Nat} (T:cH P t e z size i) (w:World) {ops:Array Oper} {rest:List Oper} {o:Oper} {a:Act} {Q:Exit→Act→World→Prop}
  (H:o.guard=none) (s x:Operand) (L:o.op=.call {callee:=.builtin .append,args:=#[s,x],argTypes:=#[t,t]})
  (base:Nat) (v:Value) (n:Nat) (xs:List Value) (hs:a.eval s=v) (hown:w.ownsRow base e size v n xs)
  (A:Option Addr) (m c:Nat) (us:List Value) (hx:a.eval x=.slice A m c) (hr:Rd w A us) (hus:us.length=m*size) (h1:∀u∈us,u.oneCell'=true)
  (hb:(n+m)*i≤140737488355328) (h63:n+m≤maxLen) (hbase:base≤w.heap.size)
  (h:∀C B y,y.ownsRow base e size (.slice C (n+m) B) (n+m) (xs++us)→Below base w y→w.grownBy y v.ownBlock→((Value.slice C (n+m) B).ownBlock=v.ownBlock∨(Value.slice C (n+m) B).ownBlock=some w.heap.size)→wpList P ops Q rest (a.put o.dst (.slice C (n+m) B)) y):
  wpList P ops Q (o::rest) a w:=by
 refine wpList_plain H fun V I=>?_
 obtain ⟨U,y,D,J,R,N,O⟩:=vD T w base o.type v n xs hown A m c us hr hus h1 hb h63 hbase
 obtain ⟨C,B,rfl,_⟩:=av J
 unfold Oper.wp
 simp [execOp,L,resolve,invoke,builtin,hs,hx,D,Result.andThen]
 exact I _ _ (h C B y J R N O)
theorem qY {P:Program} {t e:TypeId} {z:Value} {size i:Nat} (T:cH P t e z size i) {w:World} {ops:Array Oper} {o:Oper} {a:Act} {K:Act→World→Prop} {Q:Exit→Act→World→Prop} {E:Prop}
  (H:o.guard=none) (s x:Operand) (J:o.op=.call {callee:=.builtin .append,args:=#[s,x],argTypes:=#[t,t]})
  (base:Nat) (v:Value) (n:Nat) (xs:List Value) (hs:a.eval s=v) (hown:w.ownsRow base e size v n xs)
  (A:Option Addr) (m c:Nat) (us:List Value) (hx:a.eval x=.slice A m c) (hr:Rd w A us) (hus:us.length=m*size) (h1:∀u∈us,u.oneCell'=true)
  (hb:(n+m)*i≤140737488355328) (h63:n+m≤maxLen) (hbase:base≤w.heap.size)
  (h:∀C B y,y.ownsRow base e size (.slice C (n+m) B) (n+m) (xs++us)→Below base w y→w.grownBy y v.ownBlock→((Value.slice C (n+m) B).ownBlock=v.ownBlock∨(Value.slice C (n+m) B).ownBlock=some w.heap.size)→K (a.put o.dst (.slice C (n+m) B)) y):
  if Region.wanted o (yielded ops a.tmps)=true then Oper.wp P o a w K Q else E:=by
 have hw:Region.wanted o (yielded ops a.tmps)=true:=by simp [Region.wanted,H]
 rw [if_pos hw]
 obtain ⟨R,y,D,I,O,L,N⟩:=vD T w base o.type v n xs hown A m c us hr hus h1 hb h63 hbase
 obtain ⟨C,B,rfl,_⟩:=av I
 unfold Oper.wp
 simp [execOp,J,resolve,invoke,builtin,hs,hx,D,Result.andThen]
 exact h C B y I O L N
theorem fP (w:World) (e:TypeId) (size:Nat):(w.alloc (.cells #[] e)).ownsRow w.heap.size e size (.slice (some ⟨w.heap.size,0,none⟩) 0 0) 0 []:=
 World.ownsRow_made w #[] 0 (EM _) (by unfold maxLen;omega) (by simp)
theorem oQ {P:Program} {t e:TypeId} {z:Value} {h:Nat} (T:cH P t e z 1 h) (w:World) {ops:Array Oper} {rest:List Oper} {o:Oper} {a:Act} {Q:Exit→Act→World→Prop}
  (L:o.guard=none) (l c:Operand) (D:o.op=Op.makeSlice t l c) (C:z.cells=#[z])
  (n:Nat) (hl:a.eval l=FQ (n:Int)) (hc:a.eval c=FQ (n:Int)) (I:h*n≤281474976710656) (J:n≤maxLen)
  (H:∀x,x.ownsRow w.heap.size e 1 (.slice (some ⟨w.heap.size,0,none⟩) n n) n (List.replicate n z)→Below w.heap.size w x→
   wpList P ops Q rest (a.put o.dst (.slice (some ⟨w.heap.size,0,none⟩) n n)) x):wpList P ops Q (o::rest) a w:=by
 obtain ⟨i,N,A,B,y⟩:=T.info
 refine wpList_make_full w L l c t D w.heap.size e i z 1 T.und N A B .i64 .i64 n n n hl hc rfl rfl (by rw [y];exact I) J (EM _) ?_
 intro x v u
 rw [C,Nat.mul_one,toList_madeCells_one] at v
 exact H x v ⟨u.os,u.tape,u.output,u.size,fun k hk=>u.block k hk (by simp)⟩
def Cs (w:World) (b:Nat):Nat→List Value→Prop
 | _,[]=>True
 | i,v::vs=>w.cell? ⟨b,i,none⟩=some v∧Cs w b (i+1) vs
theorem DD (w:World) (b:Nat) (o:List Value) (hc:∀j,w.cell? ⟨b,j,none⟩=o[j]?):∀(vs:List Value) (i:Nat),(∀j,vs[j]?=o[i+j]?)→Cs w b i vs
 | [],_,_=>trivial
 | v::vs,i,h=>⟨by rw [hc];exact (h 0).symm,DD w b o hc vs (i+1) fun j=>by have:=h (j+1);simpa [FH,Nat.add_comm 1 j] using this⟩
def Bx (w:World) (b:Nat) (vs:List Value):Prop:=Cs w b 0 vs∧b<w.heap.size∧∀j,w.frozen? ⟨b,j,none⟩=false
theorem bx {w:World} {b:Nat} {vs:List Value} {t:TypeId} (h:w.heap[b]?=some (.cells vs.toArray t (0,0))):Bx w b vs:=
 ⟨DD w b vs (fun j=>by rw [EO w b j _ _ _ h];simp) vs 0 (fun j=>by simp),EL h,fun j=>EV w b j _ _ h⟩
theorem bx1 {w:World} {b:Nat} {t:TypeId} {v0:Value} (h:w.heap[b]?=some (.cells #[v0] t (0,0))):(w.cell? ⟨b,0,none⟩=some v0)∧∀j,w.frozen? ⟨b,j,none⟩=false:=by
 have:=bx (vs:=[v0]) h;simp only [Bx,Cs,Nat.reduceAdd,and_true] at this;exact ⟨this.1,this.2.2⟩
theorem bx2 {w:World} {b:Nat} {t:TypeId} {v0 v1:Value} (h:w.heap[b]?=some (.cells #[v0,v1] t (0,0))):(w.cell? ⟨b,0,none⟩=some v0∧w.cell? ⟨b,1,none⟩=some v1)∧∀j,w.frozen? ⟨b,j,none⟩=false:=by
 have:=bx (vs:=[v0,v1]) h;simp only [Bx,Cs,Nat.reduceAdd,and_true] at this;exact ⟨this.1,this.2.2⟩
theorem bx3 {w:World} {b:Nat} {t:TypeId} {v0 v1 v2:Value} (h:w.heap[b]?=some (.cells #[v0,v1,v2] t (0,0))):(w.cell? ⟨b,0,none⟩=some v0∧w.cell? ⟨b,1,none⟩=some v1∧w.cell? ⟨b,2,none⟩=some v2)∧∀j,w.frozen? ⟨b,j,none⟩=false:=by
 have:=bx (vs:=[v0,v1,v2]) h;simp only [Bx,Cs,Nat.reduceAdd,and_true] at this;exact ⟨this.1,this.2.2⟩
theorem bx4 {w:World} {b:Nat} {t:TypeId} {v0 v1 v2 v3:Value} (h:w.heap[b]?=some (.cells #[v0,v1,v2,v3] t (0,0))):(w.cell? ⟨b,0,none⟩=some v0∧w.cell? ⟨b,1,none⟩=some v1∧w.cell? ⟨b,2,none⟩=some v2∧w.cell? ⟨b,3,none⟩=some v3)∧∀j,w.frozen? ⟨b,j,none⟩=false:=by
 have:=bx (vs:=[v0,v1,v2,v3]) h;simp only [Bx,Cs,Nat.reduceAdd,and_true] at this;exact ⟨this.1,this.2.2⟩
theorem bx5 {w:World} {b:Nat} {t:TypeId} {v0 v1 v2 v3 v4:Value} (h:w.heap[b]?=some (.cells #[v0,v1,v2,v3,v4] t (0,0))):(w.cell? ⟨b,0,none⟩=some v0∧w.cell? ⟨b,1,none⟩=some v1∧w.cell? ⟨b,2,none⟩=some v2∧w.cell? ⟨b,3,none⟩=some v3∧w.cell? ⟨b,4,none⟩=some v4)∧∀j,w.frozen? ⟨b,j,none⟩=false:=by
 have:=bx (vs:=[v0,v1,v2,v3,v4]) h;simp only [Bx,Cs,Nat.reduceAdd,and_true] at this;exact ⟨this.1,this.2.2⟩
theorem bx6 {w:World} {b:Nat} {t:TypeId} {v0 v1 v2 v3 v4 v5:Value} (h:w.heap[b]?=some (.cells #[v0,v1,v2,v3,v4,v5] t (0,0))):(w.cell? ⟨b,0,none⟩=some v0∧w.cell? ⟨b,1,none⟩=some v1∧w.cell? ⟨b,2,none⟩=some v2∧w.cell? ⟨b,3,none⟩=some v3∧w.cell? ⟨b,4,none⟩=some v4∧w.cell? ⟨b,5,none⟩=some v5)∧∀j,w.frozen? ⟨b,j,none⟩=false:=by
 have:=bx (vs:=[v0,v1,v2,v3,v4,v5]) h;simp only [Bx,Cs,Nat.reduceAdd,and_true] at this;exact ⟨this.1,this.2.2⟩
theorem bx9 {w:World} {b:Nat} {t:TypeId} {v0 v1 v2 v3 v4 v5 v6 v7 v8:Value} (h:w.heap[b]?=some (.cells #[v0,v1,v2,v3,v4,v5,v6,v7,v8] t (0,0))):(w.cell? ⟨b,0,none⟩=some v0∧w.cell? ⟨b,1,none⟩=some v1∧w.cell? ⟨b,2,none⟩=some v2∧w.cell? ⟨b,3,none⟩=some v3∧w.cell? ⟨b,4,none⟩=some v4∧w.cell? ⟨b,5,none⟩=some v5∧w.cell? ⟨b,6,none⟩=some v6∧w.cell? ⟨b,7,none⟩=some v7∧w.cell? ⟨b,8,none⟩=some v8)∧∀j,w.frozen? ⟨b,j,none⟩=false:=by
 have:=bx (vs:=[v0,v1,v2,v3,v4,v5,v6,v7,v8]) h;simp only [Bx,Cs,Nat.reduceAdd,and_true] at this;exact ⟨this.1,this.2.2⟩
theorem fx {w:World} {b:Nat} {t:TypeId} {v0 v1 v2 v3 v4 v5 v6 v7 v8 v9 v10 v11:Value} (h:w.heap[b]?=some (.cells #[v0,v1,v2,v3,v4,v5,v6,v7,v8,v9,v10,v11] t (0,0))):(w.cell? ⟨b,0,none⟩=some v0∧w.cell? ⟨b,1,none⟩=some v1∧w.cell? ⟨b,2,none⟩=some v2∧w.cell? ⟨b,3,none⟩=some v3∧w.cell? ⟨b,4,none⟩=some v4∧w.cell? ⟨b,5,none⟩=some v5∧w.cell? ⟨b,6,none⟩=some v6∧w.cell? ⟨b,7,none⟩=some v7∧w.cell? ⟨b,8,none⟩=some v8∧w.cell? ⟨b,9,none⟩=some v9∧w.cell? ⟨b,10,none⟩=some v10∧w.cell? ⟨b,11,none⟩=some v11)∧∀j,w.frozen? ⟨b,j,none⟩=false:=by
 have:=bx (vs:=[v0,v1,v2,v3,v4,v5,v6,v7,v8,v9,v10,v11]) h;simp only [Bx,Cs,Nat.reduceAdd,and_true] at this;exact ⟨this.1,this.2.2⟩
theorem oH {w:World} {b:Nat} {t:TypeId} {v0 v1 v2 v3 v4 v5 v6 v7 v8 v9 v10 v11 i:Value} (h:w.heap[b]?=some (.cells #[v0,v1,v2,v3,v4,v5,v6,v7,v8,v9,v10,v11,i] t (0,0))):(w.cell? ⟨b,0,none⟩=some v0∧w.cell? ⟨b,1,none⟩=some v1∧w.cell? ⟨b,2,none⟩=some v2∧w.cell? ⟨b,3,none⟩=some v3∧w.cell? ⟨b,4,none⟩=some v4∧w.cell? ⟨b,5,none⟩=some v5∧w.cell? ⟨b,6,none⟩=some v6∧w.cell? ⟨b,7,none⟩=some v7∧w.cell? ⟨b,8,none⟩=some v8∧w.cell? ⟨b,9,none⟩=some v9∧w.cell? ⟨b,10,none⟩=some v10∧w.cell? ⟨b,11,none⟩=some v11∧w.cell? ⟨b,12,none⟩=some i)∧∀j,w.frozen? ⟨b,j,none⟩=false:=by
 have:=bx (vs:=[v0,v1,v2,v3,v4,v5,v6,v7,v8,v9,v10,v11,i]) h;simp only [Bx,Cs,Nat.reduceAdd,and_true] at this;exact ⟨this.1,this.2.2⟩
theorem B7 {w:World} {b:Nat} {t:TypeId} {v0 v1 v2 v3 v4 v5 v6 v7 v8 v9 v10 v11 o i:Value} (h:w.heap[b]?=some (.cells #[v0,v1,v2,v3,v4,v5,v6,v7,v8,v9,v10,v11,o,i] t (0,0))):(w.cell? ⟨b,0,none⟩=some v0∧w.cell? ⟨b,1,none⟩=some v1∧w.cell? ⟨b,2,none⟩=some v2∧w.cell? ⟨b,3,none⟩=some v3∧w.cell? ⟨b,4,none⟩=some v4∧w.cell? ⟨b,5,none⟩=some v5∧w.cell? ⟨b,6,none⟩=some v6∧w.cell? ⟨b,7,none⟩=some v7∧w.cell? ⟨b,8,none⟩=some v8∧w.cell? ⟨b,9,none⟩=some v9∧w.cell? ⟨b,10,none⟩=some v10∧w.cell? ⟨b,11,none⟩=some v11∧w.cell? ⟨b,12,none⟩=some o∧w.cell? ⟨b,13,none⟩=some i)∧∀j,w.frozen? ⟨b,j,none⟩=false:=by
 have:=bx (vs:=[v0,v1,v2,v3,v4,v5,v6,v7,v8,v9,v10,v11,o,i]) h;simp only [Bx,Cs,Nat.reduceAdd,and_true] at this;exact ⟨this.1,this.2.2⟩
theorem hZ {w:World} {b:Nat} {t:TypeId} {v0 v1 v2 v3 v4 v5 v6 v7 v8 v9 v10 v11 u o i:Value} (h:w.heap[b]?=some (.cells #[v0,v1,v2,v3,v4,v5,v6,v7,v8,v9,v10,v11,u,o,i] t (0,0))):(w.cell? ⟨b,0,none⟩=some v0∧w.cell? ⟨b,1,none⟩=some v1∧w.cell? ⟨b,2,none⟩=some v2∧w.cell? ⟨b,3,none⟩=some v3∧w.cell? ⟨b,4,none⟩=some v4∧w.cell? ⟨b,5,none⟩=some v5∧w.cell? ⟨b,6,none⟩=some v6∧w.cell? ⟨b,7,none⟩=some v7∧w.cell? ⟨b,8,none⟩=some v8∧w.cell? ⟨b,9,none⟩=some v9∧w.cell? ⟨b,10,none⟩=some v10∧w.cell? ⟨b,11,none⟩=some v11∧w.cell? ⟨b,12,none⟩=some u∧w.cell? ⟨b,13,none⟩=some o∧w.cell? ⟨b,14,none⟩=some i)∧∀j,w.frozen? ⟨b,j,none⟩=false:=by
 have:=bx (vs:=[v0,v1,v2,v3,v4,v5,v6,v7,v8,v9,v10,v11,u,o,i]) h;simp only [Bx,Cs,Nat.reduceAdd,and_true] at this;exact ⟨this.1,this.2.2⟩
theorem sb {w:World} {b:Nat} {x:Obj} (h:w.heap[b]?=some x):∀i,Below w.heap.size w i→i.heap[b]?=some x:=fun _ q=>(q.block b (EL h)).trans h
theorem sl {w:World} {b:Nat} {x:Obj} (h:w.heap[b]?=some x):∀i,Below w.heap.size w i→b<i.heap.size:=fun i q=>ET (EL h) q.size
theorem bt {a b c:World} (h:Below a.heap.size a b) (k:Below b.heap.size b c):Below a.heap.size a c:=h.trans (k.mono h.size)
theorem br (w:World):Below w.heap.size w w:=EP _ w
theorem ss {w:World} {b i:Nat} {t:TypeId} {v:Value} {u o:Array Value} (h:w.heap[b]?=some (.cells u t (0,0))) (e:u.setIfInBounds i v=o:=by simp):(w.setCell ⟨b,i,none⟩ v).heap[b]?=some (.cells o t (0,0)):=by
 subst e;exact FN w b i u t v h
theorem ss2 {w:World} {b i j:Nat} {t:TypeId} {v u:Value} {x o:Array Value} (h:w.heap[b]?=some (.cells x t (0,0))) (e:(x.setIfInBounds i v).setIfInBounds j u=o:=by simp):((w.setCell ⟨b,i,none⟩ v).setCell ⟨b,j,none⟩ u).heap[b]?=some (.cells o t (0,0)):=ss (ss h rfl) e
theorem ss3 {w:World} {b i j k:Nat} {t:TypeId} {v u x:Value} {y o:Array Value} (h:w.heap[b]?=some (.cells y t (0,0))) (e:((y.setIfInBounds i v).setIfInBounds j u).setIfInBounds k x=o:=by simp):(((w.setCell ⟨b,i,none⟩ v).setCell ⟨b,j,none⟩ u).setCell ⟨b,k,none⟩ x).heap[b]?=some (.cells o t (0,0)):=ss (ss2 h rfl) e
section
variable {P:Program} {ops:Array Oper} {Q:Exit→Act→World→Prop} {md:Region.Mode} {S:World→Prop} {n:Nat}
def cI (P:Program) (md:Region.Mode) (ops:Array Oper) (Q:Exit→Act→World→Prop) (S:World→Prop) (n:Nat):Nat→Array Bool→Act→World→Prop
 | 0,listed,a,w=>Region.ready md ops listed=[]∧Q .normal a w
 | fuel+1,listed,a,w=>
  (Region.ready md ops listed=[]→Q .normal a w)∧
  ∀i∈Region.ready md ops listed,wpOp P ops Q i (fun o h=>((listed.setIfInBounds i true).getD n true=false→S h)∧cI P md ops Q S n fuel (listed.setIfInBounds i true) o h) a w
theorem jJ:∀(o:Nat) (u:Array Bool) (a:Act) (w:World),cI P md ops Q S n o u a w→wpAny P md ops Q o u a w
 | 0,_,_,_,h=>h
 | o+1,_,_,_,h=>⟨h.1,fun i A=>wpOp_mono (fun y x v=>jJ o _ y x v.2) (h.2 i A)⟩
theorem Ad {h:Array Bool} {i j:Nat} (hB:Region.waitsFor md ops n i=true) (C:i∈Region.ready md ops h) (B:j∈Region.ready md ops h):j≠n:=fun x=>by
 subst x
 obtain ⟨_,H,v,o⟩:=mem_ready.1 B
 obtain ⟨D,y,e,he,hb,u⟩:=Region.waitsFor_spec hB
 have:D=H:=Option.some.inj (y.symm.trans v)
 subst this
 have A:=o e he hb
 rw [u,getD_both (mem_ready.1 C).1] at A
 cases A
theorem qg {i:Nat} {L:Oper} {v:Value} (hB:Region.waitsFor md ops n i=true) (a3:i≠n) (hi:ops[i]?=some L) (I:∀(j:Nat) (o:Oper) T b,ops[j]?=some o→o.op≠.select T b)
  (hQ:∀c a w,Q (.panic c) (a.put L.dst v) w→Q (.panic c) a w):
  ∀(y:Nat) (u:Array Bool) (a:Act) (w:World),
   (∀j N,ops[j]?=some N→j≠i→u.getD j true=false→(∀e∈N.after,Region.binds md e=true→e.on≠i)→L.apart ops N=true)→
   i∈Region.ready md ops u→YieldsIf P ops S L v a→u.getD n true=false→S w→
   cI P md ops Q S n y (u.setIfInBounds i true) (a.put L.dst v) w→cI P md ops Q S n (y+1) u a w:=by
 intro y
 induction y with
 | zero=>
  intro u a w _ hr hy hn hS H
  refine ⟨fun h=>(by rw [h] at hr;cases hr),fun j Z=>?_⟩
  by_cases x:j=i
  ·subst x;exact hy.wpOp hi hS ⟨fun _=>hS,H⟩
  ·have:=ready_mono Z x
   rw [H.1] at this
   cases this
 | succ y ih=>
  intro u a w B hr hy hn hS H
  refine ⟨fun h=>(by rw [h] at hr;cases hr),fun j Z=>?_⟩
  by_cases x:j=i
  ·subst x;exact hy.wpOp hi hS ⟨fun _=>hS,H⟩
  ·have h1:=H.2 j (ready_mono Z x)
   have U:=Ad hB hr Z
   have A:(u.setIfInBounds j true).getD n true=false→((u.setIfInBounds i true).setIfInBounds j true).getD n true=false:=fun h=>by
    rw [Array.setIfInBounds_comm _ _ (Ne.symm x),getD_set_ne true a3];exact h
   obtain ⟨D,N,J,Y⟩:=mem_ready.1 Z
   have R:∀e∈N.after,Region.binds md e=true→e.on≠i:=fun e he hb a2=>by
    have h1:=Y e he hb
    rw [a2,getD_both (mem_ready.1 hr).1] at h1
    cases h1
   have h2:=wpOp_putIf J (B j N J x D R) (fun T b=>I i L T b hi) (fun T b=>I j N T b J) hQ hy h1
   have C:∀k ok,ops[k]?=some ok→k≠i→(u.setIfInBounds j true).getD k true=false→
     (∀e∈ok.after,Region.binds md e=true→e.on≠i)→L.apart ops ok=true:=fun k ok hk a1 V a0=>by
    refine B k ok hk a1 ?_ a0
    by_cases O:j=k
    ·subst O;exact D
    ·rw [getD_set_ne true O] at V;exact V
   refine wpOp_mono (fun a' w' h3=>⟨(fun h=>h3.2.1 (A h)),ih (u.setIfInBounds j true) a' w' C (ready_mono hr (Ne.symm x)) h3.1 (by rw [getD_set_ne true U];exact hn) (h3.2.1 (A (by rw [getD_set_ne true U];exact hn))) ?_⟩) h2
   rw [Array.setIfInBounds_comm _ _ x]
   exact h3.2.2
theorem ou {i:Nat} {N:Oper} {v:Value} (a3:i≠n) (hi:ops[i]?=some N) (J:∀(j:Nat) (o:Oper) U b,ops[j]?=some o→o.op≠.select U b)
  (hQ:∀c a w,Q (.panic c) (a.put N.dst v) w→Q (.panic c) a w):
  ∀(y:Nat) (u:Array Bool) (a:Act) (w:World),
   (∀j O,ops[j]?=some O→j≠i→u.getD j true=false→(∀e∈O.after,Region.binds md e=true→e.on≠i)→N.apart ops O=true)→
   i∈Region.ready md ops u→YieldsIf P ops (fun _=>True) N v a→(u.getD n true=false→S w)→
   cI P md ops Q S n y (u.setIfInBounds i true) (a.put N.dst v) w→cI P md ops Q S n (y+1) u a w:=by
 intro y
 induction y with
 | zero=>
  intro u a w _ hr hy hS H
  refine ⟨fun h=>(by rw [h] at hr;cases hr),fun j hj=>?_⟩
  by_cases x:j=i
  ·subst x;exact hy.wpOp hi trivial ⟨fun h=>hS (by
    by_cases C:j=n
    ·subst C;exact (mem_ready.1 hr).1
    ·rwa [getD_set_ne true C] at h),H⟩
  ·have:=ready_mono hj x
   rw [H.1] at this
   cases this
 | succ y ih=>
  intro u a w B hr hy hS H
  refine ⟨fun h=>(by rw [h] at hr;cases hr),fun j hj=>?_⟩
  by_cases x:j=i
  ·subst x;exact hy.wpOp hi trivial ⟨fun h=>hS (by
    by_cases C:j=n
    ·subst C;exact (mem_ready.1 hr).1
    ·rwa [getD_set_ne true C] at h),H⟩
  ·have Z:=H.2 j (ready_mono hj x)
   have A:(u.setIfInBounds j true).getD n true=false→((u.setIfInBounds i true).setIfInBounds j true).getD n true=false:=fun h=>by
    rw [Array.setIfInBounds_comm _ _ (Ne.symm x),getD_set_ne true a3];exact h
   obtain ⟨I,O,L,Y⟩:=mem_ready.1 hj
   have T:∀e∈O.after,Region.binds md e=true→e.on≠i:=fun e he hb a2=>by
    have Z:=Y e he hb
    rw [a2,getD_both (mem_ready.1 hr).1] at Z
    cases Z
   have h2:=wpOp_putIf L (B j O L x I T) (fun U b=>J i N U b hi) (fun U b=>J j O U b L) hQ hy Z
   have D:∀k ok,ops[k]?=some ok→k≠i→(u.setIfInBounds j true).getD k true=false→
     (∀e∈ok.after,Region.binds md e=true→e.on≠i)→N.apart ops ok=true:=fun k ok hk a1 V a0=>by
    refine B k ok hk a1 ?_ a0
    by_cases R:j=k
    ·subst R;exact I
    ·rw [getD_set_ne true R] at V;exact V
   refine wpOp_mono (fun a' w' h3=>⟨(fun h=>h3.2.1 (A h)),ih (u.setIfInBounds j true) a' w' D (ready_mono hr (Ne.symm x)) h3.1 (fun h=>h3.2.1 (A h)) ?_⟩) h2
   rw [Array.setIfInBounds_comm _ _ x]
   exact h3.2.2
theorem lL {i:Nat} {x:Oper} {v:Value} {u:Nat} {o:Array Bool} {a:Act} {w:World} (A:ops[i]?=some x) (hB:Region.waitsFor md ops n i=true) (y:i≠n) (hn:o.getD n true=false)
  (H:Region.noSelect ops=true) (B:Region.free md ops o i=true) (hr:(Region.ready md ops o).contains i=true)
  (I:∀c a w,Q (.panic c) (a.put x.dst v) w→Q (.panic c) a w) (C:YieldsIf P ops S x v a) (D:S w)
  (h:cI P md ops Q S n u (o.setIfInBounds i true) (a.put x.dst v) w):cI P md ops Q S n (u+1) o a w:=
 qg hB y A (Region.noSelect_spec H) I u o a w (Region.free_spec A B) (by simpa using hr) C hn D h
theorem j7 {i:Nat} {x:Oper} {v:Value} {u:Nat} {o:Array Bool} {a:Act} {w:World} (A:ops[i]?=some x) (y:i≠n)
  (I:Region.noSelect ops=true) (B:Region.free md ops o i=true) (hr:(Region.ready md ops o).contains i=true)
  (C:∀c a w,Q (.panic c) (a.put x.dst v) w→Q (.panic c) a w) (D:YieldsIf P ops (fun _=>True) x v a) (H:S w)
  (h:cI P md ops Q S n u (o.setIfInBounds i true) (a.put x.dst v) w):cI P md ops Q S n (u+1) o a w:=
 ou y A (Region.noSelect_spec I) C u o a w (Region.free_spec A B) (by simpa using hr) D (fun _=>H) h
theorem wX {y:Oper} {v:Value} {x:Nat} {o:Array Bool} {a:Act} {w:World} (i:Nat) (C:S w) (h:cI P .any ops Q S n x (o.setIfInBounds i true) (a.put y.dst v) w) (D:ops[i]?=some y:=by rfl) (hB:Region.waitsFor .any ops n i=true:=by kernel_rfl) (hni:i≠n:=by decide) (hn:o.getD n true=false:=by kernel_rfl)
  (hs:Region.noSelect ops=true:=by kernel_rfl) (hf:Region.free .any ops o i=true:=by kernel_rfl) (hr:(Region.ready .any ops o).contains i=true:=by kernel_rfl) (hQ:∀c a w,Q (.panic c) (a.put y.dst v) w→Q (.panic c) a w:=by exact fun _ _ _ h=>h)
  (hy:YieldsIf P ops S y v a:=by (refine Or.inl ⟨by rfl,?_⟩;intro H u;(try dsimp only at u);(first | obtain ⟨s1,s2,A,B,I⟩:=u | obtain ⟨s1,s2,A,B⟩:=u | obtain ⟨s1,s2,A⟩:=u | obtain ⟨s1,s2⟩:=u | skip);go_simp;(try with_reducible rfl))):cI P .any ops Q S n (x+1) o a w:=lL D hB hni hn hs hf hr hQ hy C h
theorem wX0 {x:Oper} {v:Value} {u:Nat} {o:Array Bool} {a:Act} {w:World} (i:Nat) (y:S w) (h:cI P .any ops Q S n u (o.setIfInBounds i true) (a.put x.dst v) w) (A:ops[i]?=some x:=by rfl) (hni:i≠n:=by decide)
  (hs:Region.noSelect ops=true:=by kernel_rfl) (hf:Region.free .any ops o i=true:=by kernel_rfl) (hr:(Region.ready .any ops o).contains i=true:=by kernel_rfl) (hQ:∀c a w,Q (.panic c) (a.put x.dst v) w→Q (.panic c) a w:=by exact fun _ _ _ h=>h)
  (hy:YieldsIf P ops (fun _=>True) x v a:=by (refine Or.inl ⟨by rfl,?_⟩;intro B _;go_simp;(try with_reducible rfl))):cI P .any ops Q S n (u+1) o a w:=j7 A hni hs hf hr hQ hy y h
def aB (P:Program) (md:Region.Mode) (ops:Array Oper) (Q:Exit→Act→World→Prop) (S:World→Prop) (n:Nat) (o:Nat) (h:Array Bool) (a:Act) (w:World) (rs:List Nat):Prop:=
 ∀i∈rs,wpOp P ops Q i (fun v u=>((h.setIfInBounds i true).getD n true=false→S u)∧cI P md ops Q S n o (h.setIfInBounds i true) v u) a w
theorem aB.nil {o:Nat} {i:Array Bool} {a:Act} {w:World}:aB P md ops Q S n o i a w []:=fun _ h=>by cases h
theorem aB.cons {v:Nat} {u:Array Bool} {a:Act} {w:World} {i:Nat} {o:Oper} {rs:List Nat} (C:ops[i]?=some o)
  (h:∀x:Act→World→Prop,Shut (∀a w,S w→(S w→cI P md ops Q S n v (u.setIfInBounds i true) a w)→x a w)→if Region.wanted o (yielded ops a.tmps)=true then Oper.wp P o a w x Q else x (a.put o.dst undef) w)
  (H:aB P md ops Q S n v u a w rs):aB P md ops Q S n v u a w (i::rs):=fun j y=>by
 rcases List.mem_cons.1 y with rfl | y
 ·exact wpOp_step C (fun x D=>h x (fun a w A B=>D a w ⟨fun _=>A,B A⟩))
 ·exact H j y
theorem a9 {rs:List Nat} {o:Nat} {i:Array Bool} {a:Act} {w:World} (hr:Region.ready md ops i=rs) (u:rs≠[])
  (h:aB P md ops Q S n o i a w rs):cI P md ops Q S n (o+1) i a w:=⟨fun v=>absurd (hr▸v) u,hr▸h⟩
theorem mx:∀(l:List Oper) (k:Nat) (u:Array Bool) (a:Act) (w:World),(k≠n→u.getD n true=true)→(∀j,l[j]?=ops[k+j]?)→
  Region.seqB md ops l.length k u=true→wpList P ops Q l a w→cI P md ops Q S n l.length u a w
 | [],_,_,_,_,_,_,hB,h=>⟨by simpa [Region.seqB] using hB,h⟩
 | o::l,k,u,a,w,hk,hl,hB,h=>by
  have I:ops[k]?=some o:=by simpa using (hl 0).symm
  simp only [List.length_cons,Region.seqB,Bool.and_eq_true,FM] at hB
  have v:(u.setIfInBounds k true).getD n true=true:=by
   by_cases x:k=n
   ·subst x
    rcases Fa k u.size with y | y
    ·simp [y]
    ·simp [Nat.not_lt.2 y]
   ·rw [getD_set_ne true x];exact hk x
  refine ⟨fun B=>(by rw [hB.1] at B;cases B),fun i C=>?_⟩
  rw [hB.1] at C
  have A:i=k:=by simpa using C
  subst A
  have hw:wpOp P ops Q i (wpList P ops Q l) a w:=by unfold wpOp;simp only [I];exact h
  exact wpOp_mono (fun H D y=>⟨fun h=>(by rw [v] at h;cases h),mx l (i+1) _ H D (fun _=>v) (fun j=>by have:=hl (j+1);simpa [FH,Nat.add_comm 1 j] using this) hB.2 y⟩) hw
theorem dg {l:List Oper} {o:Nat} {i:Array Bool} {a:Act} {w:World} (u:o=(l.drop n).length) (hB:Region.seqB md l.toArray (l.drop n).length n i=true) (h:wpList P l.toArray Q (l.drop n) a w):
  cI P md l.toArray Q S n o i a w:=by
 subst u
 exact mx (l.drop n) n i a w (fun h=>absurd rfl h) (fun j=>by simp [List.getElem?_drop]) hB h
theorem bS {t e:TypeId} {z:Value} {size i:Nat} (T:cH P t e z size i) {w:World} {o:Oper} {H:Array Value} {a:Act} {K:Act→World→Prop} {E:Prop}
  (s x:Operand) (y:o.guard=none) (I:o.op=.call {callee:=.builtin .append,args:=#[s,x],argTypes:=#[t,t]})
  (base:Nat) (v:Value) (n:Nat) (xs:List Value) (hs:a.eval s=v) (hown:w.ownsRow base e size v n xs)
  (A:Option Addr) (m c:Nat) (us:List Value) (hx:a.eval x=.slice A m c) (hr:Rd w A us) (hus:us.length=m*size) (h1:∀u∈us,u.oneCell'=true)
  (hb:(n+m)*i≤140737488355328) (h63:n+m≤maxLen) (hbase:base≤w.heap.size)
  (h:∀D C B,B.ownsRow base e size (.slice D (n+m) C) (n+m) (xs++us)→Below base w B→w.grownBy B v.ownBlock→((Value.slice D (n+m) C).ownBlock=v.ownBlock∨(Value.slice D (n+m) C).ownBlock=some w.heap.size)→K (a.put o.dst (.slice D (n+m) C)) B):
  if Region.wanted o (yielded ops H)=true then Oper.wp P o a w K Q else E:=by
 rw [if_pos (by simp [Region.wanted,y])]
 have:=qY (ops:=ops) (K:=K) (Q:=Q) (E:=E) T y s x I base v n xs hs hown A m c us hx hr hus h1 hb h63 hbase h
 rwa [if_pos (by simp [Region.wanted,y])] at this
theorem gI (n:Nat) (S:World→Prop) {id:Nat} {a:Act} {w:World} (hm:P.follows .mixedOrders=true)
  (h:cI P .any ops Q S n ops.size (Array.replicate ops.size false) a w.drew):(Code.region id ops true).wp P Q a w:=
 wp_region_any hm (jJ _ _ _ _ h)
end
end Go.Proofs.YtgmajkppbhiopaaGreat
namespace Go.Proofs.YtgmajkppbhiopaaGreat
section
variable {P:Program} {ops:Array Oper} {Q:Exit→Act→World→Prop} {S:World→Prop} {n:Nat}
def unl (l:Array Bool):Nat:=l.toList.count false
theorem Cz {l:Array Bool} {i:Nat} (h:l.getD i true=false):unl l=unl (l.setIfInBounds i true)+1:=by
 have u:i<l.size:=by
  rcases Fa i l.size with o | o
  ·exact o
  ·simp [Array.getElem?_eq_none o] at h
 have hl:l.toList[i]'(by simpa using u)=false:=by simpa [u] using h
 have v:List.count false (l.toList.set i true)=List.count false l.toList-1:=by
  rw [List.count_set (by simpa using u)]
  simp [hl]
 have x:0<List.count false l.toList:=List.count_pos_iff.2 (by rw [←hl];exact List.getElem_mem _)
 unfold unl
 rw [Array.toList_setIfInBounds,v]
 omega
def aL (m:Nat) (L:List Nat):Array Bool:=L.foldr (fun i l=>l.setIfInBounds i true) (Array.replicate m false)
theorem lZ (m:Nat):∀L:List Nat,(aL m L).size=m
 | []=>by simp [aL]
 | a::L=>by simp only [aL,List.foldr_cons,Array.size_setIfInBounds];exact lZ m L
theorem gq (m i:Nat) (d:Bool):∀L:List Nat,(aL m L).getD i d=if i<m then L.contains i else d
 | []=>by simp only [aL,List.foldr_nil,List.contains_nil];split<;>simp_all [Array.getElem?_replicate]
 | a::L=>by
  have u:=gq m i d L
  have v:=lZ m L
  show ((aL m L).setIfInBounds a true).getD i d=_
  by_cases h:i<m
  ·rw [if_pos h] at u ⊢
   by_cases o:a=i
   ·subst o;simp [v,h]
   ·rw [getD_set_ne d o,u];simp [Ne.symm o]
  ·rw [if_neg h] at u ⊢
   by_cases o:a=i
   ·subst o;simp [v,h]
   ·rw [getD_set_ne d o,u]
def bW (ops:Array Oper) (L:List Nat):List Nat:=
 (List.range ops.size).filter fun i=> !L.contains i&&((ops[i]?).map (·.after.all fun e=> !Region.binds .any e||(L.contains e.on&&decide (e.on<ops.size)))).getD false
theorem cD (L:List Nat):Region.ready .any ops (aL ops.size L)=bW ops L:=by
 unfold Region.ready bW
 refine List.filter_congr fun i u=>?_
 rw [gq,if_pos (List.mem_range.1 u)]
 congr 3
 funext o
 congr 1
 funext e
 rw [gq]
 by_cases h:e.on<ops.size<;>simp [h]
def sB (ops:Array Oper) (L:List Nat) (i:Nat):Bool:=
 match ops[i]? with
 | none=>false
 | some oi=>(List.range ops.size).all fun j=>j==i||L.contains j||match ops[j]? with
   | some oj=>oj.after.any (fun e=>Region.binds .any e&&e.on==i)||oi.apart ops oj
   | none=>true
theorem nD (L:List Nat) (i:Nat):Region.free .any ops (aL ops.size L) i=sB ops L i:=by
 unfold Region.free sB
 cases ops[i]? with
 | none=>rfl
 | some oi=>
  dsimp only
  rw [Bool.eq_iff_iff,List.all_eq_true,List.all_eq_true]
  refine forall_congr' fun j=>forall_congr' fun h=>?_
  rw [gq,if_pos (List.mem_range.1 h)]
  exact Iff.rfl
def xd (ops:Array Oper):Nat→Nat→List Nat→Bool
 | 0,_,L=>(bW ops L).isEmpty
 | g+1,k,L=>decide (bW ops L=[k])&&xd ops g (k+1) (k::L)
theorem vB:∀(g k:Nat) (L:List Nat),Region.seqB .any ops g k (aL ops.size L)=xd ops g k L
 | 0,k,L=>by simp only [Region.seqB,xd,cD]
 | g+1,k,L=>by
  simp only [Region.seqB,xd,cD]
  rw [←vB g (k+1) (k::L)];rfl
inductive Ys (P:Program) (ops:Array Oper) (S:World→Prop):List Nat→Act→Act→Prop
 | nil {a:Act}:Ys P ops S [] a a
 | cons {i:Nat} {is:List Nat} {o:Oper} {v:Value} {a a':Act} (ho:ops[i]?=some o) (hy:YieldsIf P ops S o v a) (ht:Ys P ops S is (a.put o.dst v) a'):Ys P ops S (i::is) a a'
def mG (ops:Array Oper):List Nat→List Nat→Bool
 | _,[]=>true
 | L,i::is=>(sB ops L i&&(bW ops L).contains i)&&mG ops (i::L) is
def mD (ops:Array Oper) (n:Nat):List Nat→List Nat→Bool
 | _,[]=>true
 | L,i::is=>(Region.waitsFor .any ops n i&&decide (i≠n)&&(decide (n<ops.size)&& !L.contains n)&&sB ops L i&&(bW ops L).contains i)&&mD ops n (i::L) is
structure HA (P:Program) (ops:Array Oper) (Q:Exit→Act→World→Prop) (S:World→Prop) (L:List Nat) (a:Act) (w:World):Prop where
 out:wpAnyH P .any ops Q S (unl (aL ops.size L)) (aL ops.size L) a w
structure XA (P:Program) (ops:Array Oper) (Q:Exit→Act→World→Prop) (S:World→Prop) (n:Nat) (L:List Nat) (a:Act) (w:World):Prop where
 out:cI P .any ops Q S n (unl (aL ops.size L)) (aL ops.size L) a w
theorem iD (m:Nat):unl (aL m [])=m:=by simp [unl,aL,List.count_replicate]
theorem HA.go {id:Nat} {a:Act} {w:World} (S:World→Prop) (hm:P.follows .mixedOrders=true) (h:HA P ops Q S [] a w.drew):(Code.region id ops true).wp P Q a w:=by
 refine wp_region_held (S:=S) hm ?_
 have i:=h.out
 rw [iD] at i
 exact i
theorem XA.go {id:Nat} {a:Act} {w:World} (n:Nat) (S:World→Prop) (hm:P.follows .mixedOrders=true) (h:XA P ops Q S n [] a w.drew):(Code.region id ops true).wp P Q a w:=by
 refine gI n S hm ?_
 have i:=h.out
 rw [iD] at i
 exact i
theorem bQ {L:List Nat} {i:Nat} (h:(bW ops L).contains i=true):unl (aL ops.size L)=unl (aL ops.size (i::L))+1:=
 Cz (mem_ready.1 (show i∈Region.ready .any ops (aL ops.size L) by rw [cD];simpa using h)).1
theorem HA.takes (y:Region.noSelect ops=true) (A:∀c a w d v,Q (.panic c) (Act.put a d v) w→Q (.panic c) a w) {w:World} (x:S w):
  ∀(o:List Nat) {L:List Nat} {a u:Act},mG ops L o=true→Ys P ops S o a u→HA P ops Q S (o.reverse++L) u w→HA P ops Q S L a w
 | [],_,_,_,_,.nil,h=>h
 | i::o,L,a,u,hc,.cons ho hy ht,h=>by
  simp only [mG,Bool.and_eq_true] at hc
  have B:=HA.takes y A x o (L:=i::L) hc.2 ht (by simpa using h)
  refine ⟨?_⟩
  rw [bQ hc.1.2]
  exact wpAnyH_take ho y (by rw [nD];exact hc.1.1) (by rw [cD];exact hc.1.2) (fun c a w=>A c a w _ _) hy x B.out
theorem XA.takes (y:Region.noSelect ops=true) (A:∀c a w d v,Q (.panic c) (Act.put a d v) w→Q (.panic c) a w) {w:World} (x:S w):
  ∀(o:List Nat) {L:List Nat} {a u:Act},mD ops n L o=true→Ys P ops S o a u→XA P ops Q S n (o.reverse++L) u w→XA P ops Q S n L a w
 | [],_,_,_,_,.nil,h=>h
 | i::o,L,a,u,hc,.cons ho hy ht,h=>by
  simp only [mD,Bool.and_eq_true,FM,Bool.not_eq_true'] at hc
  have B:=XA.takes y A x o (L:=i::L) hc.2 ht (by simpa using h)
  refine ⟨?_⟩
  rw [bQ hc.1.2]
  exact lL ho hc.1.1.1.1.1 hc.1.1.1.1.2 (by rw [gq,if_pos hc.1.1.1.2.1,hc.1.1.1.2.2]) y (by rw [nD];exact hc.1.1.2) (by rw [cD];exact hc.1.2) (fun c a w=>A c a w _ _) hy x B.out
def DI (ops:Array Oper) (n:Nat):List Nat→List Nat→Bool
 | _,[]=>true
 | L,i::is=>(decide (i≠n)&&sB ops L i&&(bW ops L).contains i)&&DI ops n (i::L) is
theorem XA.takes0 (A:Region.noSelect ops=true) (x:∀c a w d v,Q (.panic c) (Act.put a d v) w→Q (.panic c) a w) {w:World} (y:S w):
  ∀(o:List Nat) {L:List Nat} {a u:Act},DI ops n L o=true→Ys P ops (fun _=>True) o a u→XA P ops Q S n (o.reverse++L) u w→XA P ops Q S n L a w
 | [],_,_,_,_,.nil,h=>h
 | i::o,L,a,u,hc,.cons ho hy ht,h=>by
  simp only [DI,Bool.and_eq_true,FM] at hc
  have B:=XA.takes0 A x y o (L:=i::L) hc.2 ht (by simpa using h)
  refine ⟨?_⟩
  rw [bQ hc.1.2]
  exact j7 ho hc.1.1.1 A (by rw [nD];exact hc.1.1.2) (by rw [cD];exact hc.1.2) (fun c a w=>x c a w _ _) hy y B.out
theorem pw {L:List Nat} {i:Nat} (hr:bW ops L=[i]):unl (aL ops.size L)=unl (aL ops.size (i::L))+1:=
 bQ (by rw [hr];simp)
theorem HA.one {L:List Nat} {a:Act} {w:World} (i:Nat) {o:Oper} (x:ops[i]?=some o) (hr:bW ops L=[i])
  (h:∀u:Act→World→Prop,Shut (∀a w,S w→(S w→HA P ops Q S (i::L) a w)→u a w)→if Region.wanted o (yielded ops a.tmps)=true then Oper.wp P o a w u Q else u (a.put o.dst undef) w):HA P ops Q S L a w:=by
 refine ⟨?_⟩
 rw [pw hr]
 exact wpAnyH_ready (by rw [cD];exact hr) (by simp) (AllReadyH.cons x (fun u A=>h u fun a w y hw=>A.out a w y fun v=>(hw v).out) AllReadyH.nil)
theorem XA.one {L:List Nat} {a:Act} {w:World} (i:Nat) {o:Oper} (x:ops[i]?=some o) (hr:bW ops L=[i])
  (h:∀u:Act→World→Prop,Shut (∀a w,S w→(S w→XA P ops Q S n (i::L) a w)→u a w)→if Region.wanted o (yielded ops a.tmps)=true then Oper.wp P o a w u Q else u (a.put o.dst undef) w):XA P ops Q S n L a w:=by
 refine ⟨?_⟩
 rw [pw hr]
 exact a9 (by rw [cD];exact hr) (by simp) (aB.cons x (fun u A=>h u fun a w y hw=>A.out a w y fun v=>(hw v).out) aB.nil)
theorem HA.call {L:List Nat} {a:Act} {w:World} (i:Nat) {f:FuncId} {args:Array Value} {R:Ending→World→Prop} (hc:Calls P f args w R) {o:Oper} (x:ops[i]?=some o) (hr:bW ops L=[i])
  (hw:Region.wanted o (yielded ops a.tmps)=true) (he:(execOp a.eval o).run P w=.ok (.enter f args) w)
  (k:∀e u,R e u→∃v,e=.returned v∧S u∧(S u→HA P ops Q S (i::L) (a.put o.dst v) u)):HA P ops Q S L a w:=by
 refine HA.one i x hr fun C B=>?_
 rw [if_pos hw]
 unfold Oper.wp
 rw [he]
 refine hc.mono fun e u A=>?_
 obtain ⟨v,rfl,y,h⟩:=k e u A
 exact B.out _ _ y h
theorem XA.call {L:List Nat} {a:Act} {w:World} (i:Nat) {f:FuncId} {args:Array Value} {R:Ending→World→Prop} (hc:Calls P f args w R) {o:Oper} (x:ops[i]?=some o) (hr:bW ops L=[i])
  (hw:Region.wanted o (yielded ops a.tmps)=true) (he:(execOp a.eval o).run P w=.ok (.enter f args) w)
  (k:∀e u,R e u→∃v,e=.returned v∧S u∧(S u→XA P ops Q S n (i::L) (a.put o.dst v) u)):XA P ops Q S n L a w:=by
 refine XA.one i x hr fun C B=>?_
 rw [if_pos hw]
 unfold Oper.wp
 rw [he]
 refine hc.mono fun e u A=>?_
 obtain ⟨v,rfl,y,h⟩:=k e u A
 exact B.out _ _ y h
theorem HA.done {L:List Nat} {a:Act} {w:World} (hr:bW ops L=[]) (h:Q .normal a w):HA P ops Q S L a w:=⟨wpAnyH_done (by rw [cD];exact hr) h _⟩
theorem XA.tail {l:List Oper} {L:List Nat} {a:Act} {w:World} (i:unl (aL l.toArray.size L)=(l.drop n).length) (hB:xd l.toArray (l.drop n).length n L=true) (h:wpList P l.toArray Q (l.drop n) a w):
  XA P l.toArray Q S n L a w:=by
 refine ⟨?_⟩
 exact dg i (by rw [vB];exact hB) h
theorem HA.g {id:Nat} {a:Act} {w:World} (S:World→Prop) (h:HA P ops Q S [] a w.drew) (hm:P.follows .mixedOrders=true:=by decide +kernel):(Code.region id ops true).wp P Q a w:=HA.go S hm h
theorem XA.g {id:Nat} {a:Act} {w:World} (n:Nat) (S:World→Prop) (h:XA P ops Q S n [] a w.drew) (hm:P.follows .mixedOrders=true:=by decide +kernel):(Code.region id ops true).wp P Q a w:=XA.go n S hm h
theorem HA.t (u:Act) (o:List Nat) {L:List Nat} {a:Act} {w:World} (x:S w) (h:HA P ops Q S (o.reverse++L) u w)
  (y:Region.noSelect ops=true:=by decide +kernel) (hQ:∀c a w d v,Q (.panic c) (Act.put a d v) w→Q (.panic c) a w:=by (intro _ _ _ d _ h;cases d<;>exact h)) (hc:mG ops L o=true:=by decide +kernel)
  (hy:Ys P ops S o a u:=by (try simp only [Fd,Fe,Ff,Act.put,Fg,Fh,Fi]);(repeat ((first | (refine Ys.cons (v:=?_) (by (simp only [Fj,Fk,Fl];rfl)) (Or.inl ⟨by rfl,?_⟩) ?_;rotate_left;(· (intro A i;(try dsimp only at i);(try (have B:=hZ i.1));go_simp;(try with_reducible rfl)))) | refine Ys.cons (v:=undef) (by (simp only [Fj,Fk,Fl];rfl)) (Or.inr ⟨by rfl,rfl⟩) ?_);simp only [Fd,Fe,Ff,Act.put,Fg,Fh,Fi]));exact Ys.nil):HA P ops Q S L a w:=HA.takes y hQ x o hc hy h
theorem XA.t (u:Act) (o:List Nat) {L:List Nat} {a:Act} {w:World} (x:S w) (h:XA P ops Q S n (o.reverse++L) u w)
  (y:Region.noSelect ops=true:=by decide +kernel) (hQ:∀c a w d v,Q (.panic c) (Act.put a d v) w→Q (.panic c) a w:=by (intro _ _ _ d _ h;cases d<;>exact h)) (hc:mD ops n L o=true:=by decide +kernel)
  (hy:Ys P ops S o a u:=by (try simp only [Fd,Fe,Ff,Act.put,Fg,Fh,Fi]);(repeat ((first | (refine Ys.cons (v:=?_) (by (simp only [Fj,Fk,Fl];rfl)) (Or.inl ⟨by rfl,?_⟩) ?_;rotate_left;(· (intro A i;(try dsimp only at i);(try (have B:=hZ i.1));go_simp;(try with_reducible rfl)))) | refine Ys.cons (v:=undef) (by (simp only [Fj,Fk,Fl];rfl)) (Or.inr ⟨by rfl,rfl⟩) ?_);simp only [Fd,Fe,Ff,Act.put,Fg,Fh,Fi]));exact Ys.nil):XA P ops Q S n L a w:=XA.takes y hQ x o hc hy h
theorem XA.t0 (o:Act) (i:List Nat) {L:List Nat} {a:Act} {w:World} (u:S w) (h:XA P ops Q S n (i.reverse++L) o w)
  (x:Region.noSelect ops=true:=by decide +kernel) (hQ:∀c a w d v,Q (.panic c) (Act.put a d v) w→Q (.panic c) a w:=by (intro _ _ _ d _ h;cases d<;>exact h)) (hc:DI ops n L i=true:=by decide +kernel)
  (hy:Ys P ops (fun _=>True) i a o:=by (try simp only [Fd,Fe,Ff,Act.put,Fg,Fh,Fi]);(repeat ((first | (refine Ys.cons (v:=?_) (by (simp only [Fj,Fk,Fl];rfl)) (Or.inl ⟨by rfl,?_⟩) ?_;rotate_left;(· (intro y _;go_simp;(try with_reducible rfl)))) | refine Ys.cons (v:=undef) (by (simp only [Fj,Fk,Fl];rfl)) (Or.inr ⟨by rfl,rfl⟩) ?_);simp only [Fd,Fe,Ff,Act.put,Fg,Fh,Fi]));exact Ys.nil):XA P ops Q S n L a w:=XA.takes0 x hQ u i hc hy h
theorem HA.c {L:List Nat} {a:Act} {w:World} (i:Nat) {f:FuncId} {args:Array Value} {R:Ending→World→Prop} {o:Oper} (hc:Calls P f args w R)
  (k:∀e h,R e h→∃v,e=.returned v∧S h∧(S h→HA P ops Q S (i::L) (a.put o.dst v) h)) (u:ops[i]?=some o:=by (simp only [Fj,Fk,Fl];rfl)) (hr:bW ops L=[i]:=by decide +kernel)
  (hw:Region.wanted o (yielded ops a.tmps)=true:=by rfl) (he:(execOp a.eval o).run P w=.ok (.enter f args) w:=by go_simp):HA P ops Q S L a w:=HA.call i hc u hr hw he k
theorem XA.c {L:List Nat} {a:Act} {w:World} (i:Nat) {f:FuncId} {args:Array Value} {R:Ending→World→Prop} {o:Oper} (hc:Calls P f args w R)
  (k:∀e h,R e h→∃v,e=.returned v∧S h∧(S h→XA P ops Q S n (i::L) (a.put o.dst v) h)) (u:ops[i]?=some o:=by (simp only [Fj,Fk,Fl];rfl)) (hr:bW ops L=[i]:=by decide +kernel)
  (hw:Region.wanted o (yielded ops a.tmps)=true:=by rfl) (he:(execOp a.eval o).run P w=.ok (.enter f args) w:=by go_simp):XA P ops Q S n L a w:=XA.call i hc u hr hw he k
theorem HA.d {L:List Nat} {a:Act} {w:World} (h:Q .normal a w) (hr:bW ops L=[]:=by decide +kernel):HA P ops Q S L a w:=⟨wpAnyH_done (by rw [cD];exact hr) h _⟩
theorem XA.e {l:List Oper} {L:List Nat} {a:Act} {w:World} (h:wpList P l.toArray Q (l.drop n) a w) (i:unl (aL l.toArray.size L)=(l.drop n).length:=by rfl) (hB:xd l.toArray (l.drop n).length n L=true:=by decide +kernel):
  XA P l.toArray Q S n L a w:=XA.tail i hB h
theorem HA.o {L:List Nat} {a:Act} {w:World} {o:Oper} (i:Nat)
  (h:∀u:Act→World→Prop,Shut (∀a w,S w→(S w→HA P ops Q S (i::L) a w)→u a w)→if Region.wanted o (yielded ops a.tmps)=true then Oper.wp P o a w u Q else u (a.put o.dst undef) w)
  (v:ops[i]?=some o:=by (simp only [Fj,Fk,Fl];rfl)) (hr:bW ops L=[i]:=by decide +kernel):HA P ops Q S L a w:=HA.one i v hr h
theorem XA.o {L:List Nat} {a:Act} {w:World} {o:Oper} (i:Nat)
  (h:∀u:Act→World→Prop,Shut (∀a w,S w→(S w→XA P ops Q S n (i::L) a w)→u a w)→if Region.wanted o (yielded ops a.tmps)=true then Oper.wp P o a w u Q else u (a.put o.dst undef) w)
  (v:ops[i]?=some o:=by (simp only [Fj,Fk,Fl];rfl)) (hr:bW ops L=[i]:=by decide +kernel):XA P ops Q S n L a w:=XA.one i v hr h
theorem HA.s {L:List Nat} {a:Act} {w:World} {o:Oper} (i:Nat) (h:World) (v:S h) (k:HA P ops Q S (i::L) (a.put o.dst undef) h) (u:ops[i]?=some o:=by (simp only [Fj,Fk,Fl];rfl))
  (hr:bW ops L=[i]:=by decide +kernel) (hw:Region.wanted o (yielded ops a.tmps)=true:=by rfl) (he:(execOp a.eval o).run P w=.ok .skip h:=by go_simp):HA P ops Q S L a w:=by
 refine HA.one i u hr fun y x=>?_
 rw [if_pos hw]
 unfold Oper.wp
 rw [he]
 exact x.out _ _ v fun _=>k
theorem HA.v {L:List Nat} {a:Act} {w:World} {o:Oper} (i:Nat) (h:World) (v:Value) (x:S h) (k:HA P ops Q S (i::L) (a.put o.dst v) h) (u:ops[i]?=some o:=by (simp only [Fj,Fk,Fl];rfl))
  (hr:bW ops L=[i]:=by decide +kernel) (hw:Region.wanted o (yielded ops a.tmps)=true:=by rfl) (he:(execOp a.eval o).run P w=.ok (.value v) h:=by go_simp):HA P ops Q S L a w:=by
 refine HA.one i u hr fun A y=>?_
 rw [if_pos hw]
 unfold Oper.wp
 rw [he]
 exact y.out _ _ x fun _=>k
end
end Go.Proofs.YtgmajkppbhiopaaGreat
namespace Go.Proofs.YtgmajkppbhiopaaGreat
open Go.RowKit
theorem an {W:World} {b:Nat} {x:Array Value} {t e:TypeId} {A:Nat×Nat} (h:W.heap[b]?=some (.cells x t A)) (o:t≠e) {base size k:Nat} {v:Value} {xs:List Value} (hr:W.ownsRow base e size v k xs):some b≠v.ownBlock:=by
 rcases hr.2 with ⟨rfl,_⟩ | ⟨g,cap,u,rfl,_,i,_⟩
 ·simp [Value.ownBlock]
 ·intro y
  obtain rfl:b=g:=by simpa [Value.ownBlock] using y
  have:=h.symm.trans i
  simp at this
  exact o this.2.1
theorem cC {W x:World} {b:Nat} {u:Array Value} {t e:TypeId} {y:Nat×Nat} {o:Obj} (h:W.heap[b]?=some (.cells u t y)) (i:t≠e) {base size k:Nat} {v:Value} {xs:List Value} (hr:W.ownsRow base e size v k xs) (A:(W.alloc o).grownBy x v.ownBlock):x.heap[b]?=some (.cells u t y):=
 (A.block b (by have:=EL h;simp;omega) (an h i hr)).trans ((E0 W o b (EL h)).trans h)
theorem vc {W x:World} {b o:Nat} {u:Value} {e:TypeId} {i:Obj} (h:W.cell? ⟨b,o,none⟩=some u) {base size k:Nat} {v:Value} {xs:List Value} (hb:b<base) (hr:W.ownsRow base e size v k xs) (A:(W.alloc i).grownBy x v.ownBlock):x.cell? ⟨b,o,none⟩=some u:=
 A.cell ((World.cell?_of_block (w:=W) (E0 W i b (au h))).trans h) (fun e=>by
  have y:v.ownBlock=some b:=e.symm
  have:=(hr.lt b y).1
  omega)
theorem pF {W H:World} {base':Nat} {D:TypeId} {h m:Nat} {v A u:Value} {B:List Value} {o:Obj} (C:W.ownsRow base' D h u m B) (y:∀i,v.ownBlock=some i→u.ownBlock≠some i)
  (J:(W.alloc o).grownBy H v.ownBlock) (x:A.ownBlock=v.ownBlock∨A.ownBlock=some (W.alloc o).heap.size):H.ownsRow base' D h u m B∧∀i,A.ownBlock=some i→u.ownBlock≠some i:=by
 refine ⟨(C.alloc o).kept J ?_,fun i I=>?_⟩
 ·cases hub:u.ownBlock with
  | none=>exact .inl rfl
  | some k=>exact .inr fun e=>y k e.symm hub
 ·rcases x with x | x
  ·exact y i (x▸I)
  ·intro e
   have L:=(C.lt i e).2
   rw [I] at x
   simp at x
   omega
theorem ax {W:World} {p:Addr} {u:Value} (h:W.cell? p=some u) (o:Obj):(W.alloc o).cell? p=some u:=
 (World.cell?_of_block (w:=W) (E0 W o _ (au h))).trans h
theorem am {w i:World} {p:Addr} {u:Value} (hb:Below w.heap.size w i) (h:w.cell? p=some u):i.cell? p=some u:=(World.cell?_of_block (w:=w) (hb.block _ (au h))).trans h
theorem lh {W:World} {C J x A s1 s2 H L:Nat} {v1 v2:Value} {v o:List Value} (I:W.ownsRow C x s1 v1 H v) (D:W.ownsRow J A s2 v2 L o) (u:x≠A):∀i,v1.ownBlock=some i→v2.ownBlock≠some i:=by
 intro i y e
 rcases I.2 with ⟨rfl,_⟩ | ⟨g,cap,B,rfl,_,h,_⟩
 ·cases y
 ·obtain rfl:g=i:=by simpa [Value.ownBlock] using y
  exact an h u D e.symm
theorem rG {W A:World} {x e h size n m:Nat} {v u y:Value} {xs C:List Value} {o:Obj} {base base' B j:Nat} {N:Array Value} {t:TypeId} (H:W.ownsRow base' x h u m C) (J:W.ownsRow base e size v n xs) (Q:(W.alloc o).grownBy A v.ownBlock)
  (hB:A.heap[B]?=some (.cells N t (0,0))) (O:e≠x) (L:t≠x):(A.setCell ⟨B,j,none⟩ y).ownsRow base' x h u m C:=by
 have I:A.ownsRow base' x h u m C:=by
  refine (H.alloc o).kept Q ?_
  cases hub:u.ownBlock with
  | none=>exact .inl rfl
  | some k=>exact .inr fun D=>lh J H O k D.symm hub
 exact (Keep.setCell (S:=fun i=>i=B) (Keep.refl _ A) ⟨B,j,none⟩ (.inr rfl) y).own I (fun i R D=>an hB L I (by rw [R,D]))
theorem kw {W i:World} {r:Option Nat} (h:W.drew.grownBy i r):W.grownBy i r:=⟨h.os,h.tape,h.output,h.size,h.block⟩
end Go.Proofs.YtgmajkppbhiopaaGreat
namespace Go.Proofs.YtgmajkppbhiopaaGreat
open Go.RowKit Go.Shelf
theorem gt {w i:World} (h:Below w.heap.size w i):w.grownBy i none:=⟨h.os,h.tape,h.output,h.size,fun k hk _=>h.block k hk⟩
theorem cL {β:Type} (B b:Nat) (o:Obj) (u:o.isCells=true):OwnFrom B (fun (_:β) W=>W.heap[b]?=some o):=fun _ W x row i v hr=>
 (v.block b (EL i) fun e=>by
  obtain ⟨y,h,hc⟩:=(hr b e.symm).2
  rw [i] at h
  cases h
  rw [u] at hc
  cases hc).trans i
theorem jE {F:Fence} {m:Nat} {P:Program} {t e:TypeId} {z:Value} {size y:Nat} (T:cH P t e z size y) (W:World) {ops:Array Oper} {rest:List Oper} {o:Oper} {a:Act} {Q:Exit→Act→World→Prop}
  (N:o.guard=none) (s x:Operand) (ho:o.op=.call {callee:=.builtin .append,args:=#[s,x],argTypes:=#[t,t]})
  (n₀ B:Nat) (v:Value) (n:Nat) (xs:List Value) (hs:a.eval s=v) (hbx:Boxed W B t v) (hte:t≠e) (hown:W.ownsRow n₀ e size v n xs)
  (us:List Value) (hx:a.eval x=.slice (some ⟨W.heap.size,0,none⟩) 1 1) (hus:us.length=size) (U:∀u∈us,u.oneCell'=true)
  (hb:(n+1)*y≤140737488355328) (h63:n+1≤maxLen) (hbase:n₀≤W.heap.size) (hB:n₀≤B)
  (h:∀g c A,Boxed A B t v→Boxed (A.setCell ⟨B,0,none⟩ (.slice (some ⟨g,0,none⟩) (n+1) c)) B t (.slice (some ⟨g,0,none⟩) (n+1) c)→
   (A.setCell ⟨B,0,none⟩ (.slice (some ⟨g,0,none⟩) (n+1) c)).ownsRow n₀ e size (.slice (some ⟨g,0,none⟩) (n+1) c) (n+1) (xs++us)→
   KeepsOthers W (A.setCell ⟨B,0,none⟩ (.slice (some ⟨g,0,none⟩) (n+1) c))→Below n₀ W (A.setCell ⟨B,0,none⟩ (.slice (some ⟨g,0,none⟩) (n+1) c))→
   (∀b I D J,b≠B→D≠e→W.heap[b]?=some (.cells I D J)→(A.setCell ⟨B,0,none⟩ (.slice (some ⟨g,0,none⟩) (n+1) c)).heap[b]?=some (.cells I D J))→
   wpListIn F m P ops Q rest (a.put o.dst (.slice (some ⟨g,0,none⟩) (n+1) c)) A):wpListIn F m P ops Q (o::rest) a (W.alloc (.cells us.toArray e)):=by
 obtain ⟨i,hi,O,V,Y⟩:=T.info
 refine wpListIn_append_own (W.alloc (.cells us.toArray e)) N s x t ho n₀ e i z size y T.und hi O V Y T.zs T.pos v n xs hs (hown.alloc _) ⟨W.heap.size,0,none⟩ 1 1 us hx (by simpa using hus) ?_ U h63 hb
  (by simp;omega) ?_
 ·intro j u hu
  rw [Addr.add_lit,FI,EO _ W.heap.size j us.toArray e (0,0) (EN W _)]
  simpa using hu
 ·intro v' A C hg _
  obtain ⟨g,c,rfl⟩:=ownsRow_succ C
  obtain ⟨k1,k2,k3,k4,k5⟩:=hbx.appended hte hown hbase hB C hg
  refine h g c A k1 k2 k3 k4 k5 fun b I D J Z H L=>?_
  have R:(W.alloc (.cells us.toArray e)).heap[b]?=some (.cells I D J):=(E0 W _ b (EL L)).trans L
  have U:A.heap[b]?=some (.cells I D J):=(hg.block b (EL R) (an R H (hown.alloc _))).trans R
  exact (Below.heap_setCell A _ _ b (fun e=>Z e)).trans U
theorem rF {W x:World} {B base:Nat} {e:TypeId} {size n:Nat} {v:Value} {xs:List Value} {row:Option Nat} (h:W.ownsRow base e size v n xs) (A:W.grownBy x row) (hr:∀r,row=some r→B≤r∧∃o:Obj,W.heap[r]?=some o∧o.isCells=false):x.ownsRow base e size v n xs:=by
 refine h.kept A ?_
 rcases h.2 with ⟨rfl,_⟩ | ⟨g,cap,y,rfl,_,i,_⟩
 ·exact .inl rfl
 ·refine .inr fun C=>?_
  obtain ⟨o,u,hc⟩:=(hr g (by simpa [Value.ownBlock] using C.symm)).2
  rw [i] at u;cases u;cases hc
theorem cN {W u:World} {B b:Nat} {o:Obj} (v:o.isCells=true) {row:Option Nat} (h:W.heap[b]?=some o) (x:W.grownBy u row) (hr:∀r,row=some r→B≤r∧∃o:Obj,W.heap[r]?=some o∧o.isCells=false):u.heap[b]?=some o:=
 (x.block b (EL h) fun e=>by
  obtain ⟨y,i,hc⟩:=(hr b e.symm).2
  rw [h] at i
  cases i
  rw [v] at hc
  cases hc).trans h
theorem gP {S:Nat→Prop} {W u:World} (h:Keep S W u) (v:∀k o,S k→W.heap[k]?=some o→o.isCells=true):KeepsOthers W u:=
 ⟨h.size,fun k o hk i=>(h.block k (EL hk) fun x=>by rw [v k o x hk] at i;cases i).trans hk⟩
theorem qR {F:Fence} {m:Nat} {P:Program} {t e:TypeId} {z:Value} {h:Nat} (T:cH P t e z 1 h) (w:World) {ops:Array Oper} {rest:List Oper} {o:Oper} {a:Act} {Q:Exit→Act→World→Prop}
  (R:o.guard=none) (l c:Operand) (u:o.op=Op.makeSlice t l c) (I:z.cells=#[z])
  (n:Nat) (hl:a.eval l=FQ (n:Int)) (hc:a.eval c=FQ (n:Int)) (N:h*n≤281474976710656) (O:n≤maxLen)
  (L:∀y,y.ownsRow w.heap.size e 1 (.slice (some ⟨w.heap.size,0,none⟩) n n) n (List.replicate n z)→Below w.heap.size w y→
   wpListIn F m P ops Q rest (a.put o.dst (.slice (some ⟨w.heap.size,0,none⟩) n n)) y):wpListIn F m P ops Q (o::rest) a w:=by
 obtain ⟨i,U,D,H,A⟩:=T.info
 refine wpListIn_plain R fun K B=>?_
 obtain ⟨y,x,J,v⟩:=run_make_full (P:=P) w w.heap.size t e i z 1 T.und U D H .i64 .i64 n (by rw [A];exact N) O (EM _)
 rw [I,Nat.mul_one,toList_madeCells_one] at J
 unfold Oper.wpIn
 refine ⟨by simp [Oper.about,u],?_⟩
 rw [Oper.semAt_plain F _ _ (by rw [u];intro c C;cases C)]
 simp [execOp,u,hl,hc,x,Result.andThen]
 exact B _ _ (L y J ⟨v.os,v.tape,v.output,v.size,fun k hk=>v.block k hk (by simp)⟩)
end Go.Proofs.YtgmajkppbhiopaaGreat
