/- No condition. -/
import Derived.Test.YtindmkcnjlgomaaGreatR00
import Derived.WalkKit
import Derived.Lib.Hide
import Derived.Deep.Draws
import Derived.Deep.AppendLies
import Derived.Maps.AppendAt
import Derived.WalkSmall
import Derived.StillTail
import Derived.OrdersHeld
import Derived.Deep.RegionHeld
import Derived.RowKit
import Derived.ProofKit
import Derived.OpenShut
import Derived.Deep.Slices
import Derived.Test.YtindmkcnjlgomaaGreatProg
import Derived.KernelRfl
import Derived.BigQuiet
import Derived.Deep.QuietTactic
import Derived.Lib.Mul64
import Derived.Laws.Bits64b
import Derived.WalkSpells
import Derived.Deep.RegionHeld3
import Derived.StillTailTactics
import Derived.RangeFuncNested
import Derived.RangeFuncBound
import Derived.RangeFuncCalls
import Derived.RangeFuncLeaves
import Derived.RangeFuncBox
import Derived.Shelf.Abstract
import Derived.OwnWalkIn
import Derived.TacticsInMore
import Derived.LoopNIn
import Derived.LoopIn
set_option linter.unusedSimpArgs false
set_option linter.unusedVariables false
set_option maxRecDepth 100000
set_option maxHeartbeats 4000000
namespace Go.Proofs.YtindmkcnjlgomaaGreat
open Go.RowKit
open Tryz
def nth (l:N1) (k:Nat):Int:=l.getD k 0
theorem dh (l:N1) (k:Nat) (h:k<l.length):nth l k=l[k]:=by simp [nth,List.getD,h]
theorem jY (l:N1) (k:Nat) (h:k<l.length):l.take (k+1)=l.take k++[nth l k]:=by
 rw [List.take_succ_eq_append_getElem h,dh l k h]
theorem qR {l1 i:N1} {k:Nat} (p:k<l1.length) (o:k<i.length) (h:l1.take k=i.take k) (u:nth l1 k=nth i k):l1.take (k+1)=i.take (k+1):=by
 rw [jY l1 k p,jY i k o,h,u]
theorem vu {l1 i:N1} (h:l1.length=i.length) (o:l1.take l1.length=i.take l1.length):l1=i:=by
 rw [GR] at o;rw [o,h,GR]
theorem bE {k:IntKind} {a b:Int} (h:a=b):Ending.returned (.int k a)=.returned (.int k b):=by rw [h]
theorem cB {a b:Bool} (h:a=b):Ending.returned (.bool a)=.returned (.bool b):=by rw [h]
def az (q:IntKind) (zs:N1):N4:=zs.map (.int q)
theorem aS (q:IntKind) (zs:N1):(az q zs).length=zs.length:=by simp [az]
theorem eP (q:IntKind) (a b:N1):az q (a++b)=az q a++az q b:=by simp [az]
theorem nV (q:IntKind) (zs:N1) (k:Nat) (h:k<zs.length):(az q zs)[k]?=some (.int q (nth zs k)):=by
 simp [az,dh zs k h,h]
theorem Br (q:IntKind) (zs:N1) (k:Nat) (a:Int):(az q zs).set k (.int q a)=az q (zs.set k a):=by simp [az,List.map_set]
theorem bS (q:IntKind) (zs:N1):∀u∈az q zs,u.oneCell'=true:=ints_oneCell q zs
theorem dz (q:IntKind) (zs:N1) (n:Nat):(az q zs).take n=az q (zs.take n):=by simp [az,List.map_take]
theorem dQ (q:IntKind) (zs:N1) (n:Nat):(az q zs).drop n=az q (zs.drop n):=by simp [az,List.map_drop]
theorem gr (q:IntKind) (n:Nat) (a:Int):List.replicate n (Value.int q a)=az q (List.replicate n a):=by simp [az]
def Rd (w:N5) (A:N0) (xs:N4):Prop:=
 ∀k u,xs[k]?=some u->∃b o,A=some (aq b o)/\w.cell? (aq b (o+k))=some u
theorem aC {w:N5} {a:Addr} {u:Value} (h:w.cell? a=some u):a.block<w.heap.size:=World.block_lt_of_cell? w a h
theorem Rd.nil (w:N5) (A:N0):Rd w A []:=λk u h=>by simp at h
theorem Rd.num {w:N5} {A:N0} {q:IntKind} {zs:N1} (h:Rd w A (az q zs)) {k:Nat} (hk:k<zs.length):
  ∃b o,A=some (aq b o)/\w.cell? (aq b (o+k))=some (.int q (nth zs k)):=h k _ (nV q zs k hk)
theorem Rd.same {w i:N5} {A:N0} {xs:N4} (h:Rd w A xs) (hb:∀b,b<w.heap.size->i.heap[b]?=w.heap[b]?):Rd i A xs:=λk u p=>by
 obtain ⟨b,o,v,hc⟩:=h k u p;exact ⟨b,o,v,(World.cell?_of_block (w:=w) (hb _ (aC hc))).trans hc⟩
theorem Rd.below {w i:N5} {A:N0} {xs:N4} (h:Rd w A xs) (hb:ap w i):Rd i A xs:=h.same hb.block
theorem Rd.alloc {w:N5} {A:N0} {xs:N4} (h:Rd w A xs) (o:Obj):Rd (w.alloc o) A xs:=h.same λb hb=>Gk w o b hb
theorem Rd.drew {w:N5} {A:N0} {xs:N4} (h:Rd w A xs):Rd w.drew A xs:=h
theorem Rd.drewN {w:N5} {A:N0} {xs:N4} (h:Rd w A xs) (n:Nat):Rd (w.drewN n) A xs:=h
theorem Rd.belowB {B:Nat} {w v:N5} {A:N0} {xs:N4} (h:Rd w A xs) (hb:Below B w v) (y:∀a,A=some a->a.block<B):Rd v A xs:=λk u x=>by
 obtain ⟨b,o,i,hc⟩:=h k u x;exact ⟨b,o,i,(hb.cell (p:=(aq b (o+k))) (show b<B from y _ i)).trans hc⟩
theorem Rd.own {w:N5} {base:Nat} {e:N6} {size n c:Nat} {A:N0} {xs:N4} (h:w.ownsRow base e size (.slice A n c) n xs):Rd w A xs:=λk u p=>by
 have hk:k<xs.length:=(GF.1 p).1;rcases h.2 with ⟨_,y⟩ | ⟨g,cap,v,o,_,B,_,_,_,i⟩
 ·have:=h.1;rw [y] at this;omega
 ·simp only [GT] at o;obtain ⟨rfl,_,rfl⟩:=o;refine ⟨g,0,rfl,?_⟩;have x:=h.cellAt k (by have:=h.1;omega);rw [GY,x,p]
theorem Rd.take {w:N5} {A:N0} {xs:N4} (h:Rd w A xs) (n:Nat):Rd w A (xs.take n):=λk u i=>by
 rw [List.getElem?_take] at i
 split at i
 ·exact h k u i
 ·cases i
theorem Rd.drop {w:N5} {b o:Nat} {xs:N4} (h:Rd w (some (aq b o)) xs) (n:Nat):Rd w (some (aq b (o+n))) (xs.drop n):=λk u i=>by
 rw [List.getElem?_drop] at i;obtain ⟨p,v,e,hc⟩:=h _ _ i;injection e with e
 injection e with e1 e2 _
 subst e1;subst e2;exact ⟨b,o+n,rfl,by rw [GX];exact hc⟩
theorem gN (w:N5) (xs:N4) (e:N6) (n:Nat) (hn:w.heap.size=n):Rd (w.alloc (.cells xs.toArray e)) (some (aq n 0)) xs:=λk u h=>by
 subst hn;refine ⟨_,_,rfl,?_⟩;rw [GY,Ga _ w.heap.size k xs.toArray e (0,0) (F4 w _)];simpa using h
theorem aE {w:N5} {base:Nat} {e:N6} {size:Nat} {v:Value} {n:Nat} {xs:N4} (h:w.ownsRow base e size v n xs):∃A c,v=.slice A n c/\n<=c:=by
 rcases h.2 with ⟨rfl,rfl⟩ | ⟨g,cap,i,rfl,_,_,hc,_⟩
 ·exact ⟨none,0,rfl,F3 _⟩
 ·exact ⟨_,_,rfl,hc⟩
theorem aA {w i:N5} {base:Nat} {e:N6} {size:Nat} {v:Value} {n:Nat} {xs:N4} (h:w.ownsRow base e size v n xs) (hb:ap w i):i.ownsRow base e size v n xs:=
 h.kept (row:=none) ⟨hb.os,hb.tape,hb.output,hb.size,λk hk _=>hb.block k hk⟩ (by cases hv:v.ownBlock<;>simp)
theorem bW {w:N5} {base:Nat} {e:N6} {size:Nat} {v:Value} {n:Nat} {xs:N4} (h:w.ownsRow base e size v n xs) (m:Nat):(w.drewN m).ownsRow base e size v n xs:=h
theorem aG {w:N5} {base base':Nat} {e:N6} {size:Nat} {v:Value} {n:Nat} {xs:N4} (h:w.ownsRow base e size v n xs) (hb:base'<=base):w.ownsRow base' e size v n xs:=by
 refine ⟨h.1,?_⟩;rcases h.2 with p | ⟨g,cap,i,o,u,r⟩
 ·exact .inl p
 ·exact .inr ⟨g,cap,i,o,Ge hb u,r⟩
structure Keep (S:Nat->Prop) (w w':N5):Prop where
 os:w'.os=w.os
 tape:w'.tape=w.tape
 output:w'.output=w.output
 size:w.heap.size<=w'.heap.size
 block:∀k,k<w.heap.size->¬S k->w'.heap[k]?=w.heap[k]?
theorem Keep.refl (S:Nat->Prop) (w:N5):Keep S w w:=⟨rfl,rfl,rfl,F3 _,λ_ _ _=>rfl⟩
theorem Keep.trans {S:Nat->Prop} {a b c:N5} (h:Keep S a b) (k:Keep S b c):Keep S a c:=
 ⟨k.os.trans h.os,k.tape.trans h.tape,k.output.trans h.output,Ge h.size k.size,λi o hn=>(k.block i (Gf o h.size) hn).trans (h.block i o hn)⟩
theorem Keep.below {S:Nat->Prop} {w i:N5} (h:ap w i):Keep S w i:=⟨h.os,h.tape,h.output,h.size,λk hk _=>h.block k hk⟩
theorem Keep.mono {S S':Nat->Prop} {w i:N5} (h:Keep S w i) (o:∀k,k<w.heap.size->S k->S' k):Keep S' w i:=⟨h.os,h.tape,h.output,h.size,λk hk hn=>h.block k hk λp=>hn (o k hk p)⟩
theorem Keep.drewN {S:Nat->Prop} {a w:N5} (h:Keep S a w) (n:Nat):Keep S a (w.drewN n):=⟨h.os,h.tape,h.output,h.size,h.block⟩
theorem Keep.drew {S:Nat->Prop} {a w:N5} (h:Keep S a w):Keep S a w.drew:=⟨h.os,h.tape,h.output,h.size,h.block⟩
theorem Keep.alloc {S:Nat->Prop} {a w:N5} (h:Keep S a w) (o:Obj):Keep S a (w.alloc o):=h.trans (Keep.below ((Gb _ w).alloc (F3 _) o))
theorem Keep.setCell {S:Nat->Prop} {a w:N5} (h:Keep S a w) (p:Addr) (i:a.heap.size<=p.block\/S p.block) (u:Value):Keep S a (w.setCell p u):=
 ⟨h.os,h.tape,h.output,by simp [World.setCell];exact h.size,λk hk hn=>(Below.heap_setCell w p u k (λe=>by subst e;rcases i with i | i<;>first | omega | exact hn i)).trans (h.block k hk hn)⟩
theorem Keep.grown {S:Nat->Prop} {a w p:N5} (h:Keep S a w) {row:Option Nat} (i:w.grownBy p row) (hr:∀k,row=some k->a.heap.size<=k\/S k):Keep S a p:=
 ⟨i.os.trans h.os,i.tape.trans h.tape,i.output.trans h.output,Ge h.size i.size,λk hk hn=>
  (i.block k (Gf hk h.size) λe=>by
   rcases hr k e.symm with o | o
   ·omega
   ·exact hn o).trans (h.block k hk hn)⟩
theorem Keep.toBelow {S:Nat->Prop} {B:Nat} {w i:N5} (h:Keep S w i) (hB:B<=w.heap.size) (p:∀k,S k->B<=k):Below B w i:=
 ⟨h.os,h.tape,h.output,h.size,λk hk=>h.block k ao λo=>by have:=p k o;omega⟩
theorem Keep.cell {S:Nat->Prop} {w i:N5} (h:Keep S w i) {p:Addr} {u:Value} (hc:w.cell? p=some u) (o:¬S p.block):i.cell? p=some u:= (World.cell?_of_block (w:=w) (h.block _ (aC hc) o)).trans hc
theorem Keep.rd {S:Nat->Prop} {w p:N5} (h:Keep S w p) {A:N0} {xs:N4} (hr:Rd w A xs) (x:∀a,A=some a->¬S a.block):Rd p A xs:=λk u v=>by
 obtain ⟨b,o,i,hc⟩:=hr k u v;exact ⟨b,o,i,h.cell hc (show ¬S b from x _ i)⟩
theorem Keep.own {S:Nat->Prop} {w u:N5} (h:Keep S w u) {base:Nat} {e:N6} {size:Nat} {v:Value} {n:Nat} {xs:N4} (p:w.ownsRow base e size v n xs) (y:∀k,v.ownBlock=some k->¬S k):u.ownsRow base e size v n xs:=by
 refine ⟨p.1,?_⟩;rcases p.2 with x | ⟨g,cap,o,rfl,A,i,r⟩
 ·exact .inl x
 ·exact .inr ⟨g,cap,o,rfl,A,(h.block g (F1 i) (y g rfl)).trans i,r⟩
structure cW (P:Program) (t e:N6) (z:Value) (size bytes:Nat):Prop where
 und:P.underlying t=some (.slice e)
 info:∃i,P.info? e=some i/\i.zero=some z/\i.size=size/\i.bytes=bytes
 zs:z.cells.size=size
 pos:0<size
theorem bJ {P:Program} {t e:N6} {z:Value} {size p:Nat} (T:cW P t e z size p) (w:N5) {ops:N9} {rest:List Oper} {o:Oper} {a:Na} {Q:Exit->Na->N5->Prop} (D:o.guard=none) (s x:Operand) (J:o.op=.call {callee:=.builtin .append,args:=#[s,x],argTypes:=#[t,t]}) (base:Nat) (v:Value) (n:Nat) (xs:N4) (hs:a.eval s=v) (hown:w.ownsRow base e size v n xs) (us:N4) (hx:a.eval x=.slice (some (aq w.heap.size 0)) 1 1) (hus:us.length=size) (h1:∀u∈us,u.oneCell'=true) (hb:(n+1)*p<=140737488355328) (h63:n+1<=maxLen) (hbase:base<=w.heap.size) (h:∀g c A,A.ownsRow base e size (.slice (some (aq g 0)) (n+1) c) (n+1) (xs++us)->Below base w A->w.grownBy A v.ownBlock->
   wpList P ops Q rest (a.put o.dst (.slice (some (aq g 0)) (n+1) c)) A):wpList P ops Q (o::rest) a (w.alloc (.cells us.toArray e)):=by
 obtain ⟨i,R,H,I,C⟩:=T.info
 refine wpList_append_own (w.alloc (.cells us.toArray e)) D s x t J base e i z size p T.und R H I C T.zs T.pos v n xs hs (hown.alloc _) (aq w.heap.size 0) 1 1 us hx (by simpa using hus) ?_ h1 h63 hb
  (by simp;omega) ?_
 ·intro j u N;rw [Addr.add_lit,GY,Ga _ w.heap.size j us.toArray e (0,0) (F4 w _)];simpa using N
 ·intro v' A y O _;obtain ⟨g,c,rfl,L,_⟩:=y.form ao;have B:w.grownBy A v.ownBlock:=(World.grownBy_alloc w _ _).trans O;exact h g c A y ((Gb base w).grown B hbase λk hk=>(hown.lt k hk).1) B
theorem j6 {P:Program} {t e:N6} {z:Value} {size h:Nat} (T:cW P t e z size h) (w:N5) (base:Nat) (y:N6) (v:Value) (n:Nat) (xs:N4) (o:w.ownsRow base e size v n xs) (c:Nat): (Builtin.append_ #[t,t] y #[v,.slice none 0 c]).run P w=.ok v w:=by
 obtain ⟨i,u,_,_,_⟩:=T.info;rcases o.2 with ⟨rfl,rfl⟩ | ⟨g,cap,x,rfl,_,_,p,_⟩
 ·simp [Builtin.append_,run_underlying T.und,sizeOf,typeInfo,u,Builtin.lenOf,Builtin.firstCells]
 ·simp [Builtin.append_,run_underlying T.und,sizeOf,typeInfo,u,Builtin.lenOf,Builtin.firstCells,p,storeCells]
theorem wh {P:Program} {t e:N6} {z:Value} {size p:Nat} (T:cW P t e z size p) (w:N5) (base:Nat) (O:N6) (v:Value) (n:Nat) (xs:N4) (x:w.ownsRow base e size v n xs) (A:N0) (m c:Nat) (B:N4) (hr:Rd w A B) (D:B.length=m*size) (U:∀u∈B,u.oneCell'=true) (hb:(n+m)*p<=140737488355328) (L:n+m<=maxLen) (y:base<=w.heap.size):
  ∃v' C,(Builtin.append_ #[t,t] O #[v,.slice A m c]).run P w=.ok v' C/\C.ownsRow base e size v' (n+m) (xs++B)/\Below base w C/\w.grownBy C v.ownBlock/\(v'.ownBlock=v.ownBlock\/v'.ownBlock=some w.heap.size):=by
 cases A with
 | none=>
  have hm:B=[]:=by
   cases B with
   | nil=>rfl
   | cons u l=>obtain ⟨b,o,h,_⟩:=hr 0 u rfl;cases h
  subst hm
  have J:m=0:=by
   have:=T.pos;rcases Nat.eq_zero_or_pos m with h | h
   ·exact h
   ·have:=Nat.mul_pos h this;simp at D;omega
  subst J;exact ⟨v,w,j6 T w base O v n xs x c,by simpa using x,Gb _ _,World.grownBy.refl _ _,.inl rfl⟩
 | some ad=>
  obtain ⟨i,Z,H,I,N⟩:=T.info
  have hc:∀j u,B[j]?=some u->w.cell? (ad.add j)=some u:=λj u Y=>by
   obtain ⟨b,o,e,h⟩:=hr j u Y;injection e with e
   subst e;rw [Addr.add_lit];exact h
  obtain ⟨v',C,hr,R,Q,h4,V⟩:=run_append_own_at (P:=P) w base t O e i z size p T.und Z H I N T.zs T.pos v n xs x ad m c B D hc U L hb y;exact ⟨v',C,hr,R,(Gb base w).grown Q y λk hk=>(x.lt k hk).1,Q,V⟩
theorem eH {P:Program} {t e:N6} {z:Value} {size i:Nat} (T:cW P t e z size i) (w:N5) {ops:N9} {rest:List Oper} {o:Oper} {a:Na} {Q:Exit->Na->N5->Prop} (D:o.guard=none) (s x:Operand) (J:o.op=.call {callee:=.builtin .append,args:=#[s,x],argTypes:=#[t,t]}) (base:Nat) (v:Value) (n:Nat) (xs:N4) (hs:a.eval s=v) (hown:w.ownsRow base e size v n xs) (A:N0) (m c:Nat) (us:N4) (hx:a.eval x=.slice A m c) (hr:Rd w A us) (hus:us.length=m*size) (h1:∀u∈us,u.oneCell'=true) (hb:(n+m)*i<=140737488355328) (h63:n+m<=maxLen) (hbase:base<=w.heap.size) (h:∀B y p,p.ownsRow base e size (.slice B (n+m) y) (n+m) (xs++us)->Below base w p->w.grownBy p v.ownBlock->((Value.slice B (n+m) y).ownBlock=v.ownBlock\/(Value.slice B (n+m) y).ownBlock=some w.heap.size)->wpList P ops Q rest (a.put o.dst (.slice B (n+m) y)) p):
  wpList P ops Q (o::rest) a w:=by
 refine wpList_plain D λR H=>?_;obtain ⟨v',p,C,I,O,L,N⟩:=wh T w base o.type v n xs hown A m c us hr hus h1 hb h63 hbase;obtain ⟨B,y,rfl,_⟩:=aE I;unfold Oper.wp;simp [execOp,J,resolve,invoke,builtin,hs,hx,C,Result.andThen];exact H _ _ (h B y p I O L N)
theorem rT {P:Program} {t e:N6} {z:Value} {size i:Nat} (T:cW P t e z size i) {w:N5} {ops:N9} {o:Oper} {a:Na} {K:Na->N5->Prop} {Q:Exit->Na->N5->Prop} {E:Prop} (D:o.guard=none) (s x:Operand) (I:o.op=.call {callee:=.builtin .append,args:=#[s,x],argTypes:=#[t,t]}) (base:Nat) (v:Value) (n:Nat) (xs:N4) (hs:a.eval s=v) (hown:w.ownsRow base e size v n xs) (A:N0) (m c:Nat) (us:N4) (hx:a.eval x=.slice A m c) (hr:Rd w A us) (hus:us.length=m*size) (h1:∀u∈us,u.oneCell'=true) (hb:(n+m)*i<=140737488355328) (h63:n+m<=maxLen) (hbase:base<=w.heap.size) (h:∀B y p,p.ownsRow base e size (.slice B (n+m) y) (n+m) (xs++us)->Below base w p->w.grownBy p v.ownBlock->((Value.slice B (n+m) y).ownBlock=v.ownBlock\/(Value.slice B (n+m) y).ownBlock=some w.heap.size)->K (a.put o.dst (.slice B (n+m) y)) p):
  if Region.wanted o (yielded ops a.tmps)=true then Oper.wp P o a w K Q else E:=by
 have hw:Region.wanted o (yielded ops a.tmps)=true:=by simp [Region.wanted,D]
 rw [if_pos hw];obtain ⟨v',p,C,H,N,J,L⟩:=wh T w base o.type v n xs hown A m c us hr hus h1 hb h63 hbase;obtain ⟨B,y,rfl,_⟩:=aE H;unfold Oper.wp;simp [execOp,I,resolve,invoke,builtin,hs,hx,C,Result.andThen];exact h B y p H N J L
theorem fW (w:N5) (e:N6) (size:Nat):(w.alloc (.cells #[] e)).ownsRow w.heap.size e size (.slice (some (aq w.heap.size 0)) 0 0) 0 []:=
 World.ownsRow_made w #[] 0 (F3 _) (by unfold maxLen;omega) (by simp)
theorem pK {P:Program} {t e:N6} {z:Value} {h:Nat} (T:cW P t e z 1 h) (w:N5) {ops:N9} {rest:List Oper} {o:Oper} {a:Na} {Q:Exit->Na->N5->Prop} (J:o.guard=none) (l c:Operand) (C:o.op=Op.makeSlice t l c) (B:z.cells=#[z]) (n:Nat) (hl:a.eval l=H8 (n:Int)) (hc:a.eval c=H8 (n:Int)) (H:h*n<=281474976710656) (I:n<=maxLen) (D:∀v,v.ownsRow w.heap.size e 1 (.slice (some (aq w.heap.size 0)) n n) n (List.replicate n z)->ap w v->
   wpList P ops Q rest (a.put o.dst (.slice (some (aq w.heap.size 0)) n n)) v):wpList P ops Q (o::rest) a w:=by
 obtain ⟨i,L,y,A,x⟩:=T.info;refine wpList_make_full w J l c t C w.heap.size e i z 1 T.und L y A .i64 .i64 n n n hl hc rfl rfl (by rw [x];exact H) I (F3 _) ?_;intro v u p;rw [B,Nat.mul_one,toList_madeCells_one] at u;exact D v u ⟨p.os,p.tape,p.output,p.size,λk hk=>p.block k hk (by simp)⟩
def Cs (w:N5) (b:Nat):Nat->N4->Prop
 | _,[]=>True
 | i,v::vs=>w.cell? (aq b i)=some v/\Cs w b (i+1) vs
theorem Er (w:N5) (b:Nat) (o:N4) (hc:∀j,w.cell? (aq b j)=o[j]?):∀(vs:N4) (i:Nat),(∀j,vs[j]?=o[i+j]?)->Cs w b i vs
 | [],_,_=>trivial
 | v::vs,i,h=>⟨by rw [hc];exact (h 0).symm,Er w b o hc vs (i+1) λj=>by have:=h (j+1);simpa [GX,Nat.add_comm 1 j] using this⟩
def Bx (w:N5) (b:Nat) (vs:N4):Prop:=Cs w b 0 vs/\b<w.heap.size/\∀j,w.frozen? (aq b j)=false
theorem bx {w:N5} {b:Nat} {vs:N4} {t:N6} (h:w.heap[b]?=some (.cells vs.toArray t (0,0))):Bx w b vs:=
 ⟨Er w b vs (λj=>by rw [Ga w b j _ _ _ h];simp) vs 0 (λj=>by simp),F1 h,λj=>Gh w b j _ _ h⟩
theorem bx1 {w:N5} {b:Nat} {t:N6} {v0:Value} (h:w.heap[b]?=some (.cells #[v0] t (0,0))):(w.cell? (aq b 0)=some v0)/\∀j,w.frozen? (aq b j)=false:=by
 have:=bx (vs:=[v0]) h;simp only [Bx,Cs,Nat.reduceAdd,and_true] at this;exact ⟨this.1,this.2.2⟩
theorem bx2 {w:N5} {b:Nat} {t:N6} {v0 v1:Value} (h:w.heap[b]?=some (.cells #[v0,v1] t (0,0))):(w.cell? (aq b 0)=some v0/\w.cell? (aq b 1)=some v1)/\∀j,w.frozen? (aq b j)=false:=by
 have:=bx (vs:=[v0,v1]) h;simp only [Bx,Cs,Nat.reduceAdd,and_true] at this;exact ⟨this.1,this.2.2⟩
theorem bx3 {w:N5} {b:Nat} {t:N6} {v0 v1 v2:Value} (h:w.heap[b]?=some (.cells #[v0,v1,v2] t (0,0))):(w.cell? (aq b 0)=some v0/\w.cell? (aq b 1)=some v1/\w.cell? (aq b 2)=some v2)/\∀j,w.frozen? (aq b j)=false:=by
 have:=bx (vs:=[v0,v1,v2]) h;simp only [Bx,Cs,Nat.reduceAdd,and_true] at this;exact ⟨this.1,this.2.2⟩
theorem bx4 {w:N5} {b:Nat} {t:N6} {v0 v1 v2 v3:Value} (h:w.heap[b]?=some (.cells #[v0,v1,v2,v3] t (0,0))):(w.cell? (aq b 0)=some v0/\w.cell? (aq b 1)=some v1/\w.cell? (aq b 2)=some v2/\w.cell? (aq b 3)=some v3)/\∀j,w.frozen? (aq b j)=false:=by
 have:=bx (vs:=[v0,v1,v2,v3]) h;simp only [Bx,Cs,Nat.reduceAdd,and_true] at this;exact ⟨this.1,this.2.2⟩
theorem bx5 {w:N5} {b:Nat} {t:N6} {v0 v1 v2 v3 v4:Value} (h:w.heap[b]?=some (.cells #[v0,v1,v2,v3,v4] t (0,0))):(w.cell? (aq b 0)=some v0/\w.cell? (aq b 1)=some v1/\w.cell? (aq b 2)=some v2/\w.cell? (aq b 3)=some v3/\w.cell? (aq b 4)=some v4)/\∀j,w.frozen? (aq b j)=false:=by
 have:=bx (vs:=[v0,v1,v2,v3,v4]) h;simp only [Bx,Cs,Nat.reduceAdd,and_true] at this;exact ⟨this.1,this.2.2⟩
theorem bx6 {w:N5} {b:Nat} {t:N6} {v0 v1 v2 v3 v4 v5:Value} (h:w.heap[b]?=some (.cells #[v0,v1,v2,v3,v4,v5] t (0,0))):(w.cell? (aq b 0)=some v0/\w.cell? (aq b 1)=some v1/\w.cell? (aq b 2)=some v2/\w.cell? (aq b 3)=some v3/\w.cell? (aq b 4)=some v4/\w.cell? (aq b 5)=some v5)/\∀j,w.frozen? (aq b j)=false:=by
 have:=bx (vs:=[v0,v1,v2,v3,v4,v5]) h;simp only [Bx,Cs,Nat.reduceAdd,and_true] at this;exact ⟨this.1,this.2.2⟩
theorem bx9 {w:N5} {b:Nat} {t:N6} {v0 v1 v2 v3 v4 v5 v6 v7 v8:Value} (h:w.heap[b]?=some (.cells #[v0,v1,v2,v3,v4,v5,v6,v7,v8] t (0,0))):(w.cell? (aq b 0)=some v0/\w.cell? (aq b 1)=some v1/\w.cell? (aq b 2)=some v2/\w.cell? (aq b 3)=some v3/\w.cell? (aq b 4)=some v4/\w.cell? (aq b 5)=some v5/\w.cell? (aq b 6)=some v6/\w.cell? (aq b 7)=some v7/\w.cell? (aq b 8)=some v8)/\∀j,w.frozen? (aq b j)=false:=by
 have:=bx (vs:=[v0,v1,v2,v3,v4,v5,v6,v7,v8]) h;simp only [Bx,Cs,Nat.reduceAdd,and_true] at this;exact ⟨this.1,this.2.2⟩
theorem mR {w:N5} {b:Nat} {t:N6} {v0 v1 v2 v3 v4 v5 v6 v7 v8 v9 v10 v11:Value} (h:w.heap[b]?=some (.cells #[v0,v1,v2,v3,v4,v5,v6,v7,v8,v9,v10,v11] t (0,0))):(w.cell? (aq b 0)=some v0/\w.cell? (aq b 1)=some v1/\w.cell? (aq b 2)=some v2/\w.cell? (aq b 3)=some v3/\w.cell? (aq b 4)=some v4/\w.cell? (aq b 5)=some v5/\w.cell? (aq b 6)=some v6/\w.cell? (aq b 7)=some v7/\w.cell? (aq b 8)=some v8/\w.cell? (aq b 9)=some v9/\w.cell? (aq b 10)=some v10/\w.cell? (aq b 11)=some v11)/\∀j,w.frozen? (aq b j)=false:=by
 have:=bx (vs:=[v0,v1,v2,v3,v4,v5,v6,v7,v8,v9,v10,v11]) h;simp only [Bx,Cs,Nat.reduceAdd,and_true] at this;exact ⟨this.1,this.2.2⟩
theorem CG {w:N5} {b:Nat} {t:N6} {v0 v1 v2 v3 v4 v5 v6 v7 v8 v9 v10 v11 o i:Value} (h:w.heap[b]?=some (.cells #[v0,v1,v2,v3,v4,v5,v6,v7,v8,v9,v10,v11,o,i] t (0,0))):(w.cell? (aq b 0)=some v0/\w.cell? (aq b 1)=some v1/\w.cell? (aq b 2)=some v2/\w.cell? (aq b 3)=some v3/\w.cell? (aq b 4)=some v4/\w.cell? (aq b 5)=some v5/\w.cell? (aq b 6)=some v6/\w.cell? (aq b 7)=some v7/\w.cell? (aq b 8)=some v8/\w.cell? (aq b 9)=some v9/\w.cell? (aq b 10)=some v10/\w.cell? (aq b 11)=some v11/\w.cell? (aq b 12)=some o/\w.cell? (aq b 13)=some i)/\∀j,w.frozen? (aq b j)=false:=by
 have:=bx (vs:=[v0,v1,v2,v3,v4,v5,v6,v7,v8,v9,v10,v11,o,i]) h;simp only [Bx,Cs,Nat.reduceAdd,and_true] at this;exact ⟨this.1,this.2.2⟩
theorem mQ {w:N5} {b:Nat} {t:N6} {v0 v1 v2 v3 v4 v5 v6 v7 v8 v9 v10 v11 p o i:Value} (h:w.heap[b]?=some (.cells #[v0,v1,v2,v3,v4,v5,v6,v7,v8,v9,v10,v11,p,o,i] t (0,0))):(w.cell? (aq b 0)=some v0/\w.cell? (aq b 1)=some v1/\w.cell? (aq b 2)=some v2/\w.cell? (aq b 3)=some v3/\w.cell? (aq b 4)=some v4/\w.cell? (aq b 5)=some v5/\w.cell? (aq b 6)=some v6/\w.cell? (aq b 7)=some v7/\w.cell? (aq b 8)=some v8/\w.cell? (aq b 9)=some v9/\w.cell? (aq b 10)=some v10/\w.cell? (aq b 11)=some v11/\w.cell? (aq b 12)=some p/\w.cell? (aq b 13)=some o/\w.cell? (aq b 14)=some i)/\∀j,w.frozen? (aq b j)=false:=by
 have:=bx (vs:=[v0,v1,v2,v3,v4,v5,v6,v7,v8,v9,v10,v11,p,o,i]) h;simp only [Bx,Cs,Nat.reduceAdd,and_true] at this;exact ⟨this.1,this.2.2⟩
theorem sb {w:N5} {b:Nat} {x:Obj} (h:w.heap[b]?=some x):∀i,ap w i->i.heap[b]?=some x:=λ_ q=>(q.block b (F1 h)).trans h
theorem sl {w:N5} {b:Nat} {x:Obj} (h:w.heap[b]?=some x):∀i,ap w i->b<i.heap.size:=λi q=>Gf (F1 h) q.size
theorem bt {a b c:N5} (h:ap a b) (k:ap b c):ap a c:=h.trans (k.mono h.size)
theorem br (w:N5):ap w w:=Gb _ w
theorem ss {w:N5} {b i:Nat} {t:N6} {v:Value} {p o:N2} (h:w.heap[b]?=some (.cells p t (0,0))) (e:p.setIfInBounds i v=o:=by simp):(w.setCell (aq b i) v).heap[b]?=some (.cells o t (0,0)):=by
 subst e;exact HE w b i p t v h
theorem ss2 {w:N5} {b i j:Nat} {t:N6} {v u:Value} {p o:N2} (h:w.heap[b]?=some (.cells p t (0,0))) (e:(p.setIfInBounds i v).setIfInBounds j u=o:=by simp):((w.setCell (aq b i) v).setCell (aq b j) u).heap[b]?=some (.cells o t (0,0)):=ss (ss h rfl) e
section
variable {P:Program} {ops:N9} {Q:Exit->Na->N5->Prop} {md:Region.Mode} {S:N5->Prop} {n:Nat}
def cR (P:Program) (md:Region.Mode) (ops:N9) (Q:Exit->Na->N5->Prop) (S:N5->Prop) (n:Nat):Nat->Array Bool->Na->N5->Prop
 | 0,listed,a,w=>Region.ready md ops listed=[]/\Q .normal a w
 | fuel+1,listed,a,w=>
  (Region.ready md ops listed=[]->Q .normal a w)/\
  ∀i∈Region.ready md ops listed,wpOp P ops Q i (λo h=>((listed.setIfInBounds i true).getD n true=false->S h)/\cR P md ops Q S n fuel (listed.setIfInBounds i true) o h) a w
theorem na:∀(o:Nat) (p:Array Bool) (a:Na) (w:N5),cR P md ops Q S n o p a w->wpAny P md ops Q o p a w
 | 0,_,_,_,h=>h
 | o+1,_,_,_,h=>⟨h.1,λi y=>wpOp_mono (λx v u=>na o _ x v u.2) (h.2 i y)⟩
theorem AQ {h:Array Bool} {i j:Nat} (hB:Region.waitsFor md ops n i=true) (B:i∈Region.ready md ops h) (A:j∈Region.ready md ops h):j≠n:=λv=>by
 subst v;obtain ⟨_,D,u,o⟩:=mem_ready.1 A;obtain ⟨C,x,e,he,hb,p⟩:=Region.waitsFor_spec hB;have:C=D:=Option.some.inj (x.symm.trans u);subst this;have y:=o e he hb;rw [p,getD_both (mem_ready.1 B).1] at y
 cases y
theorem qN {i:Nat} {J:Oper} {v:Value} (hB:Region.waitsFor md ops n i=true) (a3:i≠n) (hi:ops[i]?=some J) (D:∀(j:Nat) (o:Oper) R b,ops[j]?=some o->o.op≠.select R b) (hQ:∀c a w,Q (.panic c) (a.put J.dst v) w->Q (.panic c) a w):
  ∀(x:Nat) (p:Array Bool) (a:Na) (w:N5),
   (∀j L,ops[j]?=some L->j≠i->p.getD j true=false->(∀e∈L.after,Region.binds md e=true->e.on≠i)->J.apart ops L=true)->
   i∈Region.ready md ops p->YieldsIf P ops S J v a->p.getD n true=false->S w->
   cR P md ops Q S n x (p.setIfInBounds i true) (a.put J.dst v) w->cR P md ops Q S n (x+1) p a w:=by
 intro x
 induction x with
 | zero=>
  intro p a w _ hr hy hn Z H;refine ⟨λh=>(by rw [h] at hr;cases hr),λj Y=>?_⟩;by_cases u:j=i
  ·subst u;exact hy.wpOp hi Z ⟨λ_=>Z,H⟩
  ·have:=ready_mono Y u;rw [H.1] at this
   cases this
 | succ x ih=>
  intro p a w A hr hy hn Z H;refine ⟨λh=>(by rw [h] at hr;cases hr),λj Y=>?_⟩;by_cases u:j=i
  ·subst u;exact hy.wpOp hi Z ⟨λ_=>Z,H⟩
  ·have h1:=H.2 j (ready_mono Y u);have T:=AQ hB hr Y
   have y:(p.setIfInBounds j true).getD n true=false->((p.setIfInBounds i true).setIfInBounds j true).getD n true=false:=λh=>by
    rw [Array.setIfInBounds_comm _ _ (Ne.symm u),getD_set_ne true a3];exact h
   obtain ⟨C,L,I,V⟩:=mem_ready.1 Y
   have O:∀e∈L.after,Region.binds md e=true->e.on≠i:=λe he hb a2=>by
    have h1:=V e he hb;rw [a2,getD_both (mem_ready.1 hr).1] at h1
    cases h1
   have h2:=wpOp_putIf I (A j L I u C O) (λR b=>D i J R b hi) (λR b=>D j L R b I) hQ hy h1
   have B:∀k ok,ops[k]?=some ok->k≠i->(p.setIfInBounds j true).getD k true=false->
     (∀e∈ok.after,Region.binds md e=true->e.on≠i)->J.apart ops ok=true:=λk ok hk a1 U a0=>by
    refine A k ok hk a1 ?_ a0;by_cases N:j=k
    ·subst N;exact C
    ·rw [getD_set_ne true N] at U;exact U
   refine wpOp_mono (λa' w' h3=>⟨(λh=>h3.2.1 (y h)),ih (p.setIfInBounds j true) a' w' B (ready_mono hr (Ne.symm u)) h3.1 (by rw [getD_set_ne true T];exact hn) (h3.2.1 (y (by rw [getD_set_ne true T];exact hn))) ?_⟩) h2;rw [Array.setIfInBounds_comm _ _ u];exact h3.2.2
theorem pw {i:Nat} {L:Oper} {v:Value} (a3:i≠n) (hi:ops[i]?=some L) (I:∀(j:Nat) (o:Oper) T b,ops[j]?=some o->o.op≠.select T b) (hQ:∀c a w,Q (.panic c) (a.put L.dst v) w->Q (.panic c) a w):
  ∀(x:Nat) (p:Array Bool) (a:Na) (w:N5),
   (∀j N,ops[j]?=some N->j≠i->p.getD j true=false->(∀e∈N.after,Region.binds md e=true->e.on≠i)->L.apart ops N=true)->
   i∈Region.ready md ops p->YieldsIf P ops (λ_=>True) L v a->(p.getD n true=false->S w)->
   cR P md ops Q S n x (p.setIfInBounds i true) (a.put L.dst v) w->cR P md ops Q S n (x+1) p a w:=by
 intro x
 induction x with
 | zero=>
  intro p a w _ hr Z hS H;refine ⟨λh=>(by rw [h] at hr;cases hr),λj hj=>?_⟩;by_cases u:j=i
  ·subst u;exact Z.wpOp hi trivial ⟨λh=>hS (by
    by_cases B:j=n
    ·subst B;exact (mem_ready.1 hr).1
    ·rwa [getD_set_ne true B] at h),H⟩
  ·have:=ready_mono hj u;rw [H.1] at this
   cases this
 | succ x ih=>
  intro p a w A hr Z hS H;refine ⟨λh=>(by rw [h] at hr;cases hr),λj hj=>?_⟩;by_cases u:j=i
  ·subst u;exact Z.wpOp hi trivial ⟨λh=>hS (by
    by_cases B:j=n
    ·subst B;exact (mem_ready.1 hr).1
    ·rwa [getD_set_ne true B] at h),H⟩
  ·have Y:=H.2 j (ready_mono hj u)
   have y:(p.setIfInBounds j true).getD n true=false->((p.setIfInBounds i true).setIfInBounds j true).getD n true=false:=λh=>by
    rw [Array.setIfInBounds_comm _ _ (Ne.symm u),getD_set_ne true a3];exact h
   obtain ⟨D,N,J,V⟩:=mem_ready.1 hj
   have R:∀e∈N.after,Region.binds md e=true->e.on≠i:=λe he hb a2=>by
    have Y:=V e he hb;rw [a2,getD_both (mem_ready.1 hr).1] at Y
    cases Y
   have h2:=wpOp_putIf J (A j N J u D R) (λT b=>I i L T b hi) (λT b=>I j N T b J) hQ Z Y
   have C:∀k ok,ops[k]?=some ok->k≠i->(p.setIfInBounds j true).getD k true=false->
     (∀e∈ok.after,Region.binds md e=true->e.on≠i)->L.apart ops ok=true:=λk ok hk a1 U a0=>by
    refine A k ok hk a1 ?_ a0;by_cases O:j=k
    ·subst O;exact D
    ·rw [getD_set_ne true O] at U;exact U
   refine wpOp_mono (λa' w' h3=>⟨(λh=>h3.2.1 (y h)),ih (p.setIfInBounds j true) a' w' C (ready_mono hr (Ne.symm u)) h3.1 (λh=>h3.2.1 (y h)) ?_⟩) h2;rw [Array.setIfInBounds_comm _ _ u];exact h3.2.2
theorem mh {i:Nat} {u:Oper} {v:Value} {p:Nat} {o:Array Bool} {a:Na} {w:N5} (y:ops[i]?=some u) (hB:Region.waitsFor md ops n i=true) (x:i≠n) (hn:o.getD n true=false) (D:Region.noSelect ops=true) (A:Region.free md ops o i=true) (hr:(Region.ready md ops o).contains i=true) (H:∀c a w,Q (.panic c) (a.put u.dst v) w->Q (.panic c) a w) (B:YieldsIf P ops S u v a) (C:S w) (h:cR P md ops Q S n p (o.setIfInBounds i true) (a.put u.dst v) w):cR P md ops Q S n (p+1) o a w:=
 qN hB x y (Region.noSelect_spec D) H p o a w (Region.free_spec y A) (by simpa using hr) B hn C h
theorem ks {i:Nat} {u:Oper} {v:Value} {p:Nat} {o:Array Bool} {a:Na} {w:N5} (y:ops[i]?=some u) (x:i≠n) (H:Region.noSelect ops=true) (A:Region.free md ops o i=true) (hr:(Region.ready md ops o).contains i=true) (B:∀c a w,Q (.panic c) (a.put u.dst v) w->Q (.panic c) a w) (C:YieldsIf P ops (λ_=>True) u v a) (D:S w) (h:cR P md ops Q S n p (o.setIfInBounds i true) (a.put u.dst v) w):cR P md ops Q S n (p+1) o a w:=
 pw x y (Region.noSelect_spec H) B p o a w (Region.free_spec y A) (by simpa using hr) C (λ_=>D) h
theorem wX {x:Oper} {v:Value} {u:Nat} {o:Array Bool} {a:Na} {w:N5} (i:Nat) (B:S w) (h:cR P .any ops Q S n u (o.setIfInBounds i true) (a.put x.dst v) w) (C:ops[i]?=some x:=by rfl) (hB:Region.waitsFor .any ops n i=true:=by kernel_rfl) (hni:i≠n:=by decide) (hn:o.getD n true=false:=by kernel_rfl) (hs:Region.noSelect ops=true:=by kernel_rfl) (hf:Region.free .any ops o i=true:=by kernel_rfl) (hr:(Region.ready .any ops o).contains i=true:=by kernel_rfl) (hQ:∀c a w,Q (.panic c) (a.put x.dst v) w->Q (.panic c) a w:=by exact λ_ _ _ h=>h) (hy:YieldsIf P ops S x v a:=by (refine Or.inl ⟨by rfl,?_⟩;intro D p;(try dsimp only at p);(first | obtain ⟨s1,s2,y,A,H⟩:=p | obtain ⟨s1,s2,y,A⟩:=p | obtain ⟨s1,s2,y⟩:=p | obtain ⟨s1,s2⟩:=p | skip);go_simp;(try with_reducible rfl))):cR P .any ops Q S n (u+1) o a w:=mh C hB hni hn hs hf hr hQ hy B h
theorem wX0 {u:Oper} {v:Value} {p:Nat} {o:Array Bool} {a:Na} {w:N5} (i:Nat) (x:S w) (h:cR P .any ops Q S n p (o.setIfInBounds i true) (a.put u.dst v) w) (y:ops[i]?=some u:=by rfl) (hni:i≠n:=by decide) (hs:Region.noSelect ops=true:=by kernel_rfl) (hf:Region.free .any ops o i=true:=by kernel_rfl) (hr:(Region.ready .any ops o).contains i=true:=by kernel_rfl) (hQ:∀c a w,Q (.panic c) (a.put u.dst v) w->Q (.panic c) a w:=by exact λ_ _ _ h=>h) (hy:YieldsIf P ops (λ_=>True) u v a:=by (refine Or.inl ⟨by rfl,?_⟩;intro A _;go_simp;(try with_reducible rfl))):cR P .any ops Q S n (p+1) o a w:=ks y hni hs hf hr hQ hy x h
def aK (P:Program) (md:Region.Mode) (ops:N9) (Q:Exit->Na->N5->Prop) (S:N5->Prop) (n:Nat) (o:Nat) (h:Array Bool) (a:Na) (w:N5) (rs:List Nat):Prop:=
 ∀i∈rs,wpOp P ops Q i (λu p=>((h.setIfInBounds i true).getD n true=false->S p)/\cR P md ops Q S n o (h.setIfInBounds i true) u p) a w
theorem aK.nil {o:Nat} {i:Array Bool} {a:Na} {w:N5}:aK P md ops Q S n o i a w []:=λ_ h=>by cases h
theorem aK.cons {u:Nat} {p:Array Bool} {a:Na} {w:N5} {i:Nat} {o:Oper} {rs:List Nat} (B:ops[i]?=some o) (h:∀v:Na->N5->Prop,Shut (∀a w,S w->(S w->cR P md ops Q S n u (p.setIfInBounds i true) a w)->v a w)->if Region.wanted o (yielded ops a.tmps)=true then Oper.wp P o a w v Q else v (a.put o.dst undef) w) (D:aK P md ops Q S n u p a w rs):aK P md ops Q S n u p a w (i::rs):=λj x=>by
 rcases List.mem_cons.1 x with rfl | x
 ·exact wpOp_step B (λv C=>h v (λa w y A=>C a w ⟨λ_=>y,A y⟩))
 ·exact D j x
theorem bK {rs:List Nat} {o:Nat} {i:Array Bool} {a:Na} {w:N5} (hr:Region.ready md ops i=rs) (p:rs≠[]) (h:aK P md ops Q S n o i a w rs):cR P md ops Q S n (o+1) i a w:=⟨λu=>absurd (hr▸u) p,hr▸h⟩
theorem nc:∀(l:List Oper) (k:Nat) (p:Array Bool) (a:Na) (w:N5),(k≠n->p.getD n true=true)->(∀j,l[j]?=ops[k+j]?)->
  Region.seqB md ops l.length k p=true->wpList P ops Q l a w->cR P md ops Q S n l.length p a w
 | [],_,_,_,_,_,_,hB,h=>⟨by simpa [Region.seqB] using hB,h⟩
 | o::l,k,p,a,w,hk,hl,hB,h=>by
  have H:ops[k]?=some o:=by simpa using (hl 0).symm
  simp only [List.length_cons,Region.seqB,Bool.and_eq_true,G9] at hB
  have u:(p.setIfInBounds k true).getD n true=true:=by
   by_cases v:k=n
   ·subst v;rcases Gn k p.size with x | x
    ·simp [x]
    ·simp [Nat.not_lt.2 x]
   ·rw [getD_set_ne true v];exact hk v
  refine ⟨λA=>(by rw [hB.1] at A;cases A),λi B=>?_⟩;rw [hB.1] at B;have y:i=k:=by simpa using B
  subst y;have hw:wpOp P ops Q i (wpList P ops Q l) a w:=by unfold wpOp;simp only [H];exact h
  exact wpOp_mono (λD C x=>⟨λh=>(by rw [u] at h;cases h),nc l (i+1) _ D C (λ_=>u) (λj=>by have:=hl (j+1);simpa [GX,Nat.add_comm 1 j] using this) hB.2 x⟩) hw
theorem de {l:List Oper} {o:Nat} {i:Array Bool} {a:Na} {w:N5} (p:o=(l.drop n).length) (hB:Region.seqB md l.toArray (l.drop n).length n i=true) (h:wpList P l.toArray Q (l.drop n) a w):
  cR P md l.toArray Q S n o i a w:=by
 subst p;exact nc (l.drop n) n i a w (λh=>absurd rfl h) (λj=>by simp [List.getElem?_drop]) hB h
theorem cZ {t e:N6} {z:Value} {size i:Nat} (T:cW P t e z size i) {w:N5} {o:Oper} {D:N2} {a:Na} {K:Na->N5->Prop} {E:Prop} (s x:Operand) (p:o.guard=none) (H:o.op=.call {callee:=.builtin .append,args:=#[s,x],argTypes:=#[t,t]}) (base:Nat) (v:Value) (n:Nat) (xs:N4) (hs:a.eval s=v) (hown:w.ownsRow base e size v n xs) (A:N0) (m c:Nat) (us:N4) (hx:a.eval x=.slice A m c) (hr:Rd w A us) (hus:us.length=m*size) (h1:∀u∈us,u.oneCell'=true) (hb:(n+m)*i<=140737488355328) (h63:n+m<=maxLen) (hbase:base<=w.heap.size) (h:∀C B y,y.ownsRow base e size (.slice C (n+m) B) (n+m) (xs++us)->Below base w y->w.grownBy y v.ownBlock->((Value.slice C (n+m) B).ownBlock=v.ownBlock\/(Value.slice C (n+m) B).ownBlock=some w.heap.size)->K (a.put o.dst (.slice C (n+m) B)) y):
  if Region.wanted o (yielded ops D)=true then Oper.wp P o a w K Q else E:=by
 rw [if_pos (by simp [Region.wanted,p])];have:=rT (ops:=ops) (K:=K) (Q:=Q) (E:=E) T p s x H base v n xs hs hown A m c us hx hr hus h1 hb h63 hbase h
 rwa [if_pos (by simp [Region.wanted,p])] at this
theorem gF (n:Nat) (S:N5->Prop) {id:Nat} {a:Na} {w:N5} (hm:P.follows .mixedOrders=true) (h:cR P .any ops Q S n ops.size (Array.replicate ops.size false) a w.drew):(Code.region id ops true).wp P Q a w:=
 wp_region_any hm (na _ _ _ _ h)
end
end Go.Proofs.YtindmkcnjlgomaaGreat
namespace Go.Proofs.YtindmkcnjlgomaaGreat
open Tryz
section
variable {P:Program} {ops:N9} {Q:Exit->Na->N5->Prop} {S:N5->Prop} {n:Nat}
def unl (l:Array Bool):Nat:=l.toList.count false
theorem Dg {l:Array Bool} {i:Nat} (h:l.getD i true=false):unl l=unl (l.setIfInBounds i true)+1:=by
 have p:i<l.size:=by
  rcases Gn i l.size with o | o
  ·exact o
  ·simp [Array.getElem?_eq_none o] at h
 have hl:l.toList[i]'(by simpa using p)=false:=by simpa [p] using h
 have u:List.count false (l.toList.set i true)=List.count false l.toList-1:=by
  rw [List.count_set (by simpa using p)];simp [hl]
 have v:0<List.count false l.toList:=List.count_pos_iff.2 (by rw [<-hl];exact List.getElem_mem _);unfold unl;rw [Array.toList_setIfInBounds,u];omega
def bC (m:Nat) (L:List Nat):Array Bool:=L.foldr (λi l=>l.setIfInBounds i true) (Array.replicate m false)
theorem mH (m:Nat):∀L:List Nat,(bC m L).size=m
 | []=>by simp [bC]
 | a::L=>by simp only [bC,List.foldr_cons,Array.size_setIfInBounds];exact mH m L
theorem gt (m i:Nat) (d:Bool):∀L:List Nat,(bC m L).getD i d=if i<m then L.contains i else d
 | []=>by simp only [bC,List.foldr_nil,List.contains_nil];split<;>simp_all [Array.getElem?_replicate]
 | a::L=>by
  have p:=gt m i d L;have u:=mH m L
  show ((bC m L).setIfInBounds a true).getD i d=_
  by_cases h:i<m
  ·rw [if_pos h] at p ⊢;by_cases o:a=i
   ·subst o;simp [u,h]
   ·rw [getD_set_ne d o,p];simp [Ne.symm o]
  ·rw [if_neg h] at p ⊢;by_cases o:a=i
   ·subst o;simp [u,h]
   ·rw [getD_set_ne d o,p]
def cC (ops:N9) (L:List Nat):List Nat:= (List.range ops.size).filter λi=> !L.contains i&&((ops[i]?).map (·.after.all λe=> !Region.binds .any e||(L.contains e.on&&decide (e.on<ops.size)))).getD false
theorem da (L:List Nat):Region.ready .any ops (bC ops.size L)=cC ops L:=by
 unfold Region.ready cC;refine List.filter_congr λi p=>?_;rw [gt,if_pos (List.mem_range.1 p)]
 congr 3
 funext o
 congr 1
 funext e
 rw [gt];by_cases h:e.on<ops.size<;>simp [h]
def ti (ops:N9) (L:List Nat) (i:Nat):Bool:=
 match ops[i]? with
 | none=>false
 | some oi=>(List.range ops.size).all λj=>j==i||L.contains j||match ops[j]? with
   | some oj=>oj.after.any (λe=>Region.binds .any e&&e.on==i)||oi.apart ops oj
   | none=>true
theorem oH (L:List Nat) (i:Nat):Region.free .any ops (bC ops.size L) i=ti ops L i:=by
 unfold Region.free ti
 cases ops[i]? with
 | none=>rfl
 | some oi=>
  dsimp only;rw [Bool.eq_iff_iff,List.all_eq_true,List.all_eq_true];refine forall_congr' λj=>forall_congr' λh=>?_;rw [gt,if_pos (List.mem_range.1 h)];exact Iff.rfl
def xO (ops:N9):Nat->Nat->List Nat->Bool
 | 0,_,L=>(cC ops L).isEmpty
 | g+1,k,L=>decide (cC ops L=[k])&&xO ops g (k+1) (k::L)
theorem wg:∀(g k:Nat) (L:List Nat),Region.seqB .any ops g k (bC ops.size L)=xO ops g k L
 | 0,k,L=>by simp only [Region.seqB,xO,da]
 | g+1,k,L=>by
  simp only [Region.seqB,xO,da];rw [<-wg g (k+1) (k::L)];rfl
inductive Ys (P:Program) (ops:N9) (S:N5->Prop):List Nat->Na->Na->Prop
 | nil {a:Na}:Ys P ops S [] a a
 | cons {i:Nat} {is:List Nat} {o:Oper} {v:Value} {a a':Na} (ho:ops[i]?=some o) (hy:YieldsIf P ops S o v a) (ht:Ys P ops S is (a.put o.dst v) a'):Ys P ops S (i::is) a a'
def nm (ops:N9):List Nat->List Nat->Bool
 | _,[]=>true
 | L,i::is=>(ti ops L i&&(cC ops L).contains i)&&nm ops (i::L) is
def qQ (ops:N9) (n:Nat):List Nat->List Nat->Bool
 | _,[]=>true
 | L,i::is=>(Region.waitsFor .any ops n i&&decide (i≠n)&&(decide (n<ops.size)&& !L.contains n)&&ti ops L i&&(cC ops L).contains i)&&qQ ops n (i::L) is
structure HA (P:Program) (ops:N9) (Q:Exit->Na->N5->Prop) (S:N5->Prop) (L:List Nat) (a:Na) (w:N5):Prop where
 out:wpAnyH P .any ops Q S (unl (bC ops.size L)) (bC ops.size L) a w
structure XA (P:Program) (ops:N9) (Q:Exit->Na->N5->Prop) (S:N5->Prop) (n:Nat) (L:List Nat) (a:Na) (w:N5):Prop where
 out:cR P .any ops Q S n (unl (bC ops.size L)) (bC ops.size L) a w
theorem nj (m:Nat):unl (bC m [])=m:=by simp [unl,bC,List.count_replicate]
theorem HA.go {id:Nat} {a:Na} {w:N5} (S:N5->Prop) (hm:P.follows .mixedOrders=true) (h:HA P ops Q S [] a w.drew):(Code.region id ops true).wp P Q a w:=by
 refine wp_region_held (S:=S) hm ?_;have i:=h.out;rw [nj] at i;exact i
theorem XA.go {id:Nat} {a:Na} {w:N5} (n:Nat) (S:N5->Prop) (hm:P.follows .mixedOrders=true) (h:XA P ops Q S n [] a w.drew):(Code.region id ops true).wp P Q a w:=by
 refine gF n S hm ?_;have i:=h.out;rw [nj] at i;exact i
theorem cE {L:List Nat} {i:Nat} (h:(cC ops L).contains i=true):unl (bC ops.size L)=unl (bC ops.size (i::L))+1:=
 Dg (mem_ready.1 (show i∈Region.ready .any ops (bC ops.size L) by rw [da];simpa using h)).1
theorem HA.takes (x:Region.noSelect ops=true) (y:∀c a w d v,Q (.panic c) (Act.put a d v) w->Q (.panic c) a w) {w:N5} (u:S w):
  ∀(o:List Nat) {L:List Nat} {a p:Na},nm ops L o=true->Ys P ops S o a p->HA P ops Q S (o.reverse++L) p w->HA P ops Q S L a w
 | [],_,_,_,_,.nil,h=>h
 | i::o,L,a,p,hc,.cons ho hy ht,h=>by
  simp only [nm,Bool.and_eq_true] at hc;have A:=HA.takes x y u o (L:=i::L) hc.2 ht (by simpa using h);refine ⟨?_⟩;rw [cE hc.1.2];exact wpAnyH_take ho x (by rw [oH];exact hc.1.1) (by rw [da];exact hc.1.2) (λc a w=>y c a w _ _) hy u A.out
theorem XA.takes (x:Region.noSelect ops=true) (y:∀c a w d v,Q (.panic c) (Act.put a d v) w->Q (.panic c) a w) {w:N5} (u:S w):
  ∀(o:List Nat) {L:List Nat} {a p:Na},qQ ops n L o=true->Ys P ops S o a p->XA P ops Q S n (o.reverse++L) p w->XA P ops Q S n L a w
 | [],_,_,_,_,.nil,h=>h
 | i::o,L,a,p,hc,.cons ho hy ht,h=>by
  simp only [qQ,Bool.and_eq_true,G9,Bool.not_eq_true'] at hc;have A:=XA.takes x y u o (L:=i::L) hc.2 ht (by simpa using h);refine ⟨?_⟩;rw [cE hc.1.2];exact mh ho hc.1.1.1.1.1 hc.1.1.1.1.2 (by rw [gt,if_pos hc.1.1.1.2.1,hc.1.1.1.2.2]) x (by rw [oH];exact hc.1.1.2) (by rw [da];exact hc.1.2) (λc a w=>y c a w _ _) hy u A.out
def EG (ops:N9) (n:Nat):List Nat->List Nat->Bool
 | _,[]=>true
 | L,i::is=>(decide (i≠n)&&ti ops L i&&(cC ops L).contains i)&&EG ops n (i::L) is
theorem XA.takes0 (y:Region.noSelect ops=true) (u:∀c a w d v,Q (.panic c) (Act.put a d v) w->Q (.panic c) a w) {w:N5} (x:S w):
  ∀(o:List Nat) {L:List Nat} {a p:Na},EG ops n L o=true->Ys P ops (λ_=>True) o a p->XA P ops Q S n (o.reverse++L) p w->XA P ops Q S n L a w
 | [],_,_,_,_,.nil,h=>h
 | i::o,L,a,p,hc,.cons ho hy ht,h=>by
  simp only [EG,Bool.and_eq_true,G9] at hc;have A:=XA.takes0 y u x o (L:=i::L) hc.2 ht (by simpa using h);refine ⟨?_⟩;rw [cE hc.1.2];exact ks ho hc.1.1.1 y (by rw [oH];exact hc.1.1.2) (by rw [da];exact hc.1.2) (λc a w=>u c a w _ _) hy x A.out
theorem p7 {L:List Nat} {i:Nat} (hr:cC ops L=[i]):unl (bC ops.size L)=unl (bC ops.size (i::L))+1:=
 cE (by rw [hr];simp)
theorem HA.one {L:List Nat} {a:Na} {w:N5} (i:Nat) {o:Oper} (v:ops[i]?=some o) (hr:cC ops L=[i]) (h:∀p:Na->N5->Prop,Shut (∀a w,S w->(S w->HA P ops Q S (i::L) a w)->p a w)->if Region.wanted o (yielded ops a.tmps)=true then Oper.wp P o a w p Q else p (a.put o.dst undef) w):HA P ops Q S L a w:=by
 refine ⟨?_⟩;rw [p7 hr];exact wpAnyH_ready (by rw [da];exact hr) (by simp) (AllReadyH.cons v (λp y=>h p λa w x hw=>y.out a w x λu=>(hw u).out) AllReadyH.nil)
theorem XA.one {L:List Nat} {a:Na} {w:N5} (i:Nat) {o:Oper} (v:ops[i]?=some o) (hr:cC ops L=[i]) (h:∀p:Na->N5->Prop,Shut (∀a w,S w->(S w->XA P ops Q S n (i::L) a w)->p a w)->if Region.wanted o (yielded ops a.tmps)=true then Oper.wp P o a w p Q else p (a.put o.dst undef) w):XA P ops Q S n L a w:=by
 refine ⟨?_⟩;rw [p7 hr];exact bK (by rw [da];exact hr) (by simp) (aK.cons v (λp y=>h p λa w x hw=>y.out a w x λu=>(hw u).out) aK.nil)
theorem HA.call {L:List Nat} {a:Na} {w:N5} (i:Nat) {f:FuncId} {args:N2} {R:Ending->N5->Prop} (hc:Calls P f args w R) {o:Oper} (u:ops[i]?=some o) (hr:cC ops L=[i]) (hw:Region.wanted o (yielded ops a.tmps)=true) (he:(execOp a.eval o).run P w=.ok (.enter f args) w) (k:∀e p,R e p->∃v,e=.returned v/\S p/\(S p->HA P ops Q S (i::L) (a.put o.dst v) p)):HA P ops Q S L a w:=by
 refine HA.one i u hr λB A=>?_;rw [if_pos hw];unfold Oper.wp;rw [he];refine hc.mono λe p y=>?_;obtain ⟨v,rfl,x,h⟩:=k e p y;exact A.out _ _ x h
theorem XA.call {L:List Nat} {a:Na} {w:N5} (i:Nat) {f:FuncId} {args:N2} {R:Ending->N5->Prop} (hc:Calls P f args w R) {o:Oper} (u:ops[i]?=some o) (hr:cC ops L=[i]) (hw:Region.wanted o (yielded ops a.tmps)=true) (he:(execOp a.eval o).run P w=.ok (.enter f args) w) (k:∀e p,R e p->∃v,e=.returned v/\S p/\(S p->XA P ops Q S n (i::L) (a.put o.dst v) p)):XA P ops Q S n L a w:=by
 refine XA.one i u hr λB A=>?_;rw [if_pos hw];unfold Oper.wp;rw [he];refine hc.mono λe p y=>?_;obtain ⟨v,rfl,x,h⟩:=k e p y;exact A.out _ _ x h
theorem XA.tail {l:List Oper} {L:List Nat} {a:Na} {w:N5} (i:unl (bC l.toArray.size L)=(l.drop n).length) (hB:xO l.toArray (l.drop n).length n L=true) (h:wpList P l.toArray Q (l.drop n) a w):
  XA P l.toArray Q S n L a w:=by
 refine ⟨?_⟩;exact de i (by rw [wg];exact hB) h
theorem HA.g {id:Nat} {a:Na} {w:N5} (S:N5->Prop) (h:HA P ops Q S [] a w.drew) (hm:P.follows .mixedOrders=true:=by decide +kernel):(Code.region id ops true).wp P Q a w:=HA.go S hm h
theorem XA.g {id:Nat} {a:Na} {w:N5} (n:Nat) (S:N5->Prop) (h:XA P ops Q S n [] a w.drew) (hm:P.follows .mixedOrders=true:=by decide +kernel):(Code.region id ops true).wp P Q a w:=XA.go n S hm h
theorem HA.t (p:Na) (o:List Nat) {L:List Nat} {a:Na} {w:N5} (u:S w) (h:HA P ops Q S (o.reverse++L) p w) (x:Region.noSelect ops=true:=by decide +kernel) (hQ:∀c a w d v,Q (.panic c) (Act.put a d v) w->Q (.panic c) a w:=by (intro _ _ _ d _ h;cases d<;>exact h)) (hc:nm ops L o=true:=by decide +kernel) (hy:Ys P ops S o a p:=by (try simp only [Gq,Gr,Gs,Act.put,Gt,Gu,Gv]);(repeat ((first | (refine Ys.cons (v:=?_) (by (simp only [Gw,Gy,Gz];rfl)) (Or.inl ⟨by rfl,?_⟩) ?_;rotate_left;(· (intro y i;(try dsimp only at i);(try (have A:=mQ i.1));go_simp;(try with_reducible rfl)))) | refine Ys.cons (v:=undef) (by (simp only [Gw,Gy,Gz];rfl)) (Or.inr ⟨by rfl,rfl⟩) ?_);simp only [Gq,Gr,Gs,Act.put,Gt,Gu,Gv]));exact Ys.nil):HA P ops Q S L a w:=HA.takes x hQ u o hc hy h
theorem XA.t (p:Na) (o:List Nat) {L:List Nat} {a:Na} {w:N5} (u:S w) (h:XA P ops Q S n (o.reverse++L) p w) (x:Region.noSelect ops=true:=by decide +kernel) (hQ:∀c a w d v,Q (.panic c) (Act.put a d v) w->Q (.panic c) a w:=by (intro _ _ _ d _ h;cases d<;>exact h)) (hc:qQ ops n L o=true:=by decide +kernel) (hy:Ys P ops S o a p:=by (try simp only [Gq,Gr,Gs,Act.put,Gt,Gu,Gv]);(repeat ((first | (refine Ys.cons (v:=?_) (by (simp only [Gw,Gy,Gz];rfl)) (Or.inl ⟨by rfl,?_⟩) ?_;rotate_left;(· (intro y i;(try dsimp only at i);(try (have A:=mQ i.1));go_simp;(try with_reducible rfl)))) | refine Ys.cons (v:=undef) (by (simp only [Gw,Gy,Gz];rfl)) (Or.inr ⟨by rfl,rfl⟩) ?_);simp only [Gq,Gr,Gs,Act.put,Gt,Gu,Gv]));exact Ys.nil):XA P ops Q S n L a w:=XA.takes x hQ u o hc hy h
theorem XA.t0 (o:Na) (i:List Nat) {L:List Nat} {a:Na} {w:N5} (p:S w) (h:XA P ops Q S n (i.reverse++L) o w) (u:Region.noSelect ops=true:=by decide +kernel) (hQ:∀c a w d v,Q (.panic c) (Act.put a d v) w->Q (.panic c) a w:=by (intro _ _ _ d _ h;cases d<;>exact h)) (hc:EG ops n L i=true:=by decide +kernel) (hy:Ys P ops (λ_=>True) i a o:=by (try simp only [Gq,Gr,Gs,Act.put,Gt,Gu,Gv]);(repeat ((first | (refine Ys.cons (v:=?_) (by (simp only [Gw,Gy,Gz];rfl)) (Or.inl ⟨by rfl,?_⟩) ?_;rotate_left;(· (intro x _;go_simp;(try with_reducible rfl)))) | refine Ys.cons (v:=undef) (by (simp only [Gw,Gy,Gz];rfl)) (Or.inr ⟨by rfl,rfl⟩) ?_);simp only [Gq,Gr,Gs,Act.put,Gt,Gu,Gv]));exact Ys.nil):XA P ops Q S n L a w:=XA.takes0 u hQ p i hc hy h
theorem HA.c {L:List Nat} {a:Na} {w:N5} (i:Nat) {f:FuncId} {args:N2} {R:Ending->N5->Prop} {o:Oper} (hc:Calls P f args w R) (k:∀e h,R e h->∃v,e=.returned v/\S h/\(S h->HA P ops Q S (i::L) (a.put o.dst v) h)) (p:ops[i]?=some o:=by (simp only [Gw,Gy,Gz];rfl)) (hr:cC ops L=[i]:=by decide +kernel) (hw:Region.wanted o (yielded ops a.tmps)=true:=by rfl) (he:(execOp a.eval o).run P w=.ok (.enter f args) w:=by go_simp):HA P ops Q S L a w:=HA.call i hc p hr hw he k
theorem XA.c {L:List Nat} {a:Na} {w:N5} (i:Nat) {f:FuncId} {args:N2} {R:Ending->N5->Prop} {o:Oper} (hc:Calls P f args w R) (k:∀e h,R e h->∃v,e=.returned v/\S h/\(S h->XA P ops Q S n (i::L) (a.put o.dst v) h)) (p:ops[i]?=some o:=by (simp only [Gw,Gy,Gz];rfl)) (hr:cC ops L=[i]:=by decide +kernel) (hw:Region.wanted o (yielded ops a.tmps)=true:=by rfl) (he:(execOp a.eval o).run P w=.ok (.enter f args) w:=by go_simp):XA P ops Q S n L a w:=XA.call i hc p hr hw he k
theorem HA.d {L:List Nat} {a:Na} {w:N5} (h:Q .normal a w) (hr:cC ops L=[]:=by decide +kernel):HA P ops Q S L a w:=⟨wpAnyH_done (by rw [da];exact hr) h _⟩
theorem XA.e {l:List Oper} {L:List Nat} {a:Na} {w:N5} (h:wpList P l.toArray Q (l.drop n) a w) (i:unl (bC l.toArray.size L)=(l.drop n).length:=by rfl) (hB:xO l.toArray (l.drop n).length n L=true:=by decide +kernel):
  XA P l.toArray Q S n L a w:=XA.tail i hB h
theorem HA.o {L:List Nat} {a:Na} {w:N5} {o:Oper} (i:Nat) (h:∀p:Na->N5->Prop,Shut (∀a w,S w->(S w->HA P ops Q S (i::L) a w)->p a w)->if Region.wanted o (yielded ops a.tmps)=true then Oper.wp P o a w p Q else p (a.put o.dst undef) w) (u:ops[i]?=some o:=by (simp only [Gw,Gy,Gz];rfl)) (hr:cC ops L=[i]:=by decide +kernel):HA P ops Q S L a w:=HA.one i u hr h
theorem XA.o {L:List Nat} {a:Na} {w:N5} {o:Oper} (i:Nat) (h:∀p:Na->N5->Prop,Shut (∀a w,S w->(S w->XA P ops Q S n (i::L) a w)->p a w)->if Region.wanted o (yielded ops a.tmps)=true then Oper.wp P o a w p Q else p (a.put o.dst undef) w) (u:ops[i]?=some o:=by (simp only [Gw,Gy,Gz];rfl)) (hr:cC ops L=[i]:=by decide +kernel):XA P ops Q S n L a w:=XA.one i u hr h
theorem HA.s {L:List Nat} {a:Na} {w:N5} {o:Oper} (i:Nat) (h:N5) (u:S h) (k:HA P ops Q S (i::L) (a.put o.dst undef) h) (p:ops[i]?=some o:=by (simp only [Gw,Gy,Gz];rfl)) (hr:cC ops L=[i]:=by decide +kernel) (hw:Region.wanted o (yielded ops a.tmps)=true:=by rfl) (he:(execOp a.eval o).run P w=.ok .skip h:=by go_simp):HA P ops Q S L a w:=by
 refine HA.one i p hr λx v=>?_;rw [if_pos hw];unfold Oper.wp;rw [he];exact v.out _ _ u λ_=>k
theorem HA.v {L:List Nat} {a:Na} {w:N5} {o:Oper} (i:Nat) (h:N5) (v:Value) (u:S h) (k:HA P ops Q S (i::L) (a.put o.dst v) h) (p:ops[i]?=some o:=by (simp only [Gw,Gy,Gz];rfl)) (hr:cC ops L=[i]:=by decide +kernel) (hw:Region.wanted o (yielded ops a.tmps)=true:=by rfl) (he:(execOp a.eval o).run P w=.ok (.value v) h:=by go_simp):HA P ops Q S L a w:=by
 refine HA.one i p hr λy x=>?_;rw [if_pos hw];unfold Oper.wp;rw [he];exact x.out _ _ u λ_=>k
end
end Go.Proofs.YtindmkcnjlgomaaGreat
namespace Go.Proofs.YtindmkcnjlgomaaGreat
open Go.RowKit
open Tryz
def gE (a b q:Int):Int:=if q<0\/62<q then 0 else wrap64 (a*b/2^q.toNat)
def uw (x:Int):Int:=x%18446744073709551616
theorem zO (x:Int):0<=uw x/\uw x<18446744073709551616:=by unfold uw;omega
theorem fj (x:Int): -9223372036854775808<=wrap64 x/\wrap64 x<=9223372036854775807:=by unfold wrap64;omega
theorem pJ {x y:Int} (h:∃k:Int,x=y+k*18446744073709551616):wrap64 x=wrap64 y:=by
 obtain ⟨k,rfl⟩:=h;unfold wrap64;omega
theorem xo {x:Int} (h: -9223372036854775808<=x) (i:x<=9223372036854775807):wrap64 x=x:=by unfold wrap64;omega
def dZ (a b:Int):Int:=a*b/18446744073709551616
def iP (a b:Int):Int:=uw (a*b)
theorem DC (a b:Int):dZ a b*18446744073709551616+iP a b=a*b:=by unfold dZ iP uw;omega
theorem ES {a b:Int} (p: -9223372036854775808<=a/\a<=9223372036854775807) (hb: -9223372036854775808<=b/\b<=9223372036854775807): -85070591730234615865843651857942052864<=a*b/\a*b<=85070591730234615865843651857942052864:=by
 have h:a.natAbs<=9223372036854775808:=ao;have i:b.natAbs<=9223372036854775808:=ao;have o:=Nat.mul_le_mul h i;rw [<-Int.natAbs_mul] at o;omega
theorem qd {a b:Int} (h: -9223372036854775808<=a/\a<=9223372036854775807) (hb: -9223372036854775808<=b/\b<=9223372036854775807): -9223372036854775808<=dZ a b/\dZ a b<=9223372036854775807:=by
 have:=ES h hb;unfold dZ;omega
theorem Ah (a b:Int) (q:Nat) (o:q<=62):dZ a b*2^(64-q)+iP a b/2^q=a*b/2^q:=by
 have e:(18446744073709551616:Int)=2^(64-q)*2^q:=by rw [<-Int.pow_add,show 64-q+q=64 by omega];rfl
 have i:(2:Int)^q≠0:=by have:=Int.pow_pos (n:=2) (m:=q) (by decide);omega
 have h:=DC a b;rw [<-h,e,<-Int.mul_assoc,Int.add_comm (dZ a b*2^(64-q)*2^q),Int.add_mul_ediv_right _ _ i,Int.add_comm]
theorem j4 (x y:Int):wrap64 (wrap64 x-y)=wrap64 (x-y):=by unfold wrap64;omega
theorem pL (a b:Int) (v: -9223372036854775808<=a/\a<=9223372036854775807) (hb: -9223372036854775808<=b/\b<=9223372036854775807):
  uw a*uw b=a*b+((if a<0 then b else 0)+(if b<0 then a else 0)+(if a<0/\b<0 then 18446744073709551616 else 0))*18446744073709551616:=by
 by_cases o:a<0
 ·have u:uw a=a+18446744073709551616:=by unfold uw;omega
  by_cases i:b<0
  ·have p:uw b=b+18446744073709551616:=by unfold uw;omega
   rw [u,p,if_pos o,if_pos i,if_pos ⟨o,i⟩,Int.add_mul,Int.mul_add];omega
  ·have p:uw b=b:=by unfold uw;omega
   rw [u,p,if_pos o,if_neg i,if_neg (λh=>i h.2),Int.add_mul];omega
 ·have u:uw a=a:=by unfold uw;omega
  by_cases i:b<0
  ·have p:uw b=b+18446744073709551616:=by unfold uw;omega
   rw [u,p,if_neg o,if_pos i,if_neg (λh=>o h.1),Int.mul_add];omega
  ·have p:uw b=b:=by unfold uw;omega
   rw [u,p,if_neg o,if_neg i,if_neg (λh=>o h.1)];omega
theorem zH (a b:Int) (p: -9223372036854775808<=a/\a<=9223372036854775807) (hb: -9223372036854775808<=b/\b<=9223372036854775807):
  wrap64 (uw a*uw b/18446744073709551616-(if a<0 then b else 0)-(if b<0 then a else 0))=dZ a b:=by
 rw [pL a b p hb,Int.add_mul_ediv_right _ _ (by decide)];have h:=qd p hb;rw [<-xo h.1 h.2];refine pJ ⟨if a<0/\b<0 then 1 else 0,?_⟩;unfold dZ;by_cases o:a<0
 ·by_cases i:b<0
  ·simp only [o,i,if_true,and_self];omega
  ·simp only [o,i,if_true,if_false,and_false];omega
 ·by_cases i:b<0
  ·simp only [o,i,if_true,if_false,false_and];omega
  ·simp only [o,i,if_false,false_and];omega
theorem zG (a b:Int) (h: -9223372036854775808<=a/\a<=9223372036854775807) (hb: -9223372036854775808<=b/\b<=9223372036854775807):uw (uw a*uw b)=iP a b:=by
 rw [pL a b h hb];unfold iP uw;rw [Int.add_mul_emod_self_right]
theorem ua (a:Int):∃X:Nat,uw a=X/\X<18446744073709551616:=⟨(uw a).toNat,by have:=zO a;omega,by have:=zO a;omega⟩
def W64 (l:N1):Prop:=∀k,k<l.length-> -9223372036854775808<=nth l k/\nth l k<=9223372036854775807
theorem wF {l:N1} {k:Nat} (h:k<l.length):nth l k∈l:=by rw [dh l k h];exact List.getElem_mem h
theorem fB (l:N1) (k:Nat) (v:Int) (j:Nat):nth (l.set k v) j=if j=k/\k<l.length then v else nth l j:=by
 unfold nth;simp only [List.getD_eq_getElem?_getD,List.getElem?_set];by_cases h:k=j
 ·subst h;by_cases i:k<l.length
  ·simp [i]
  ·simp [i,List.getElem?_eq_none (show l.length<=k by omega)]
 ·simp [h,Ne.symm h]
theorem eG {a b:N1} (hl:a.length=b.length) (h:∀k,k<a.length->nth a k=nth b k):a=b:=by
 refine List.ext_getElem hl λk i o=>?_;rw [<-dh a k i,<-dh b k o];exact h k i
def cY (n:Nat) (f:Nat->Int):N1:=(List.range n).map f
theorem aZ (n:Nat) (f:Nat->Int):(cY n f).length=n:=by simp [cY]
theorem bP {n k:Nat} (f:Nat->Int) (h:k<n):nth (cY n f) k=f k:=by rw [dh _ _ (by rw [aZ];exact h)];simp [cY]
theorem lq (n:Nat) (f:Nat->Int):cY (n+1) f=cY n f++[f n]:=by simp [cY,GV]
theorem eh {n:Nat} {f:Nat->Int} (h:∀k,k<n-> -9223372036854775808<=f k/\f k<=9223372036854775807):W64 (cY n f):=λk hk=>by
 rw [aZ] at hk;rw [bP f hk];exact h k hk
theorem eI {n:Nat} {f g:Nat->Int} (h:∀k,k<n->f k=g k):cY n f=cY n g:=by
 unfold cY;exact List.map_congr_left λk hk=>h k (List.mem_range.1 hk)
theorem dR {l:N1} {n:Nat} {f:Nat->Int} (hl:l.length=n) (h:∀k,k<n->nth l k=f k):l=cY n f:=
 eG (by rw [aZ,hl]) λk hk=>by rw [bP f ao];exact h k ao
def gS (l:N1) (k:Nat) (f:Nat->Int):N1:=cY l.length λj=>if j<k then f j else nth l j
theorem lN (l:N1) (k:Nat) (f:Nat->Int):(gS l k f).length=l.length:=aZ _ _
theorem fu (l:N1) (f:Nat->Int):gS l 0 f=l:=(dR rfl λk _=>by rw [if_neg ao]).symm
theorem eQ {l:N1} {k:Nat} (f:Nat->Int) {j:Nat} (h:j<l.length):nth (gS l k f) j=if j<k then f j else nth l j:=bP _ h
theorem fX {l:N1} {k:Nat} (f:Nat->Int) (hk:k<l.length):(gS l k f).set k (f k)=gS l (k+1) f:=by
 refine eG (by simp [lN]) λj i=>?_;rw [List.length_set,lN] at i;rw [fB,eQ f i,eQ f i,lN];by_cases h:j=k
 ·subst h;simp [hk]
 ·by_cases o:j<k
  ·simp [h,o,show j<k+1 by omega]
  ·simp [h,o,show ¬j<k+1 by omega]
theorem fY (l:N1) (f:Nat->Int):gS l l.length f=cY l.length f:=by
 unfold gS;exact eI λk hk=>by rw [if_pos hk]
def D5 (xs h:N1) (q:Int):Nat->Int
 | 0=>0
 | k+1=>wrap64 (D5 xs h q k+gE (nth xs k) (nth h k) q)
def rA (xs h:N1) (q:Int):Int:=D5 xs h q xs.length
def nD (xs:N1) (a q:Int):N1:=cY xs.length λk=>gE (nth xs k) a q
def ij (xs h:N1):N1:=cY xs.length λk=>wrap64 (nth xs k+nth h k)
def szN (sz:N1) (k:Nat):Nat:=(nth sz k).toNat
def bZ (sz:N1):Nat->Nat
 | 0=>0
 | k+1=>bZ sz k+(szN sz k+1)*szN sz (k+1)
def db (sz:N1) (k:Nat):Nat:=bZ sz k+szN sz (k+1)*szN sz k
def dJ (sz:N1):Prop:=(2<=sz.length/\sz.length<=16)/\∀k,k<sz.length->1<=nth sz k/\nth sz k<=1048576
def cP (sz:N1):Prop:=dJ sz/\bZ sz (sz.length-1)<=1048576
theorem dJ.at {sz:N1} (h:dJ sz) {k:Nat} (hk:k<sz.length):1<=szN sz k/\szN sz k<=1048576/\nth sz k=(szN sz k:Int):=by
 have:=h.2 k hk;unfold szN;omega
theorem fC (sz:N1) (k:Nat):db sz k+szN sz (k+1)=bZ sz (k+1):=by
 unfold db;rw [bZ,Nat.add_mul,Nat.one_mul,Nat.mul_comm (szN sz k)];omega
theorem dJ.mul {sz:N1} (h:dJ sz) {k:Nat} (hk:k+1<sz.length):szN sz (k+1)*szN sz k<=1099511627776:=by
 have i:=h.at hk;have o:=h.at (k:=k) ao;exact Nat.mul_le_mul i.2.1 o.2.1
theorem dJ.cnt {sz:N1} (h:dJ sz):∀k,k<sz.length->bZ sz k<=k*1099512676352:=by
 intro k
 induction k with
 | zero=>intro _;simp [bZ]
 | succ k ih=>
  intro hk;have p:=ih ao;have o:=h.mul hk;have u:=(h.at hk).2.1;have i:=fC sz k;unfold db at i;omega
theorem fy (sz:N1) {j k:Nat} (h:j<=k):bZ sz j<=bZ sz k:=by
 induction h with
 | refl=>exact F3 _
 | step _ ih=>rw [bZ];omega
theorem dJ.bound {sz:N1} (h:dJ sz) {k:Nat} (hk:k<sz.length):bZ sz k<=17592202821632:=by
 have i:=h.cnt k hk;have o:=h.1.2;have:k*1099512676352<=16*1099512676352:=HU _ ao;omega
theorem cP.bound {sz:N1} (h:cP sz) {k:Nat} (hk:k<sz.length):bZ sz k<=1048576:=Ge (fy sz ao) h.2
theorem cP.mul {sz:N1} (h:cP sz) {k:Nat} (hk:k+1<sz.length):szN sz (k+1)*szN sz k<=1048576:=by
 have o:=h.bound hk;have i:=fC sz k;unfold db at i;omega
def kt (sz:N1) (k:Nat):N4:=(List.range k).flatMap λj=>[H8 (bZ sz j:Int),H8 (db sz j:Int)]
def le (sz:N1) (k:Nat):N4:=(List.range k).flatMap λj=>[H8 (db sz j:Int),H8 (bZ sz (j+1):Int)]
theorem j5 (sz:N1) (k:Nat):kt sz (k+1)=kt sz k++[H8 (bZ sz k:Int),H8 (db sz k:Int)]:=by simp [kt,GV,List.flatMap_append]
theorem kr (sz:N1) (k:Nat):le sz (k+1)=le sz k++[H8 (db sz k:Int),H8 (bZ sz (k+1):Int)]:=by simp [le,GV,List.flatMap_append]
theorem ik (sz:N1) (k:Nat):(kt sz k).length=k*2:=by
 induction k with
 | zero=>rfl
 | succ k ih=>rw [j5,GE,ih];simp;omega
theorem iD (sz:N1) (k:Nat):(le sz k).length=k*2:=by
 induction k with
 | zero=>rfl
 | succ k ih=>rw [kr,GE,ih];simp;omega
theorem zI (sz:N1) {j n:Nat} (h:j<n):(kt sz n)[j*2]?=some (H8 (bZ sz j:Int))/\(kt sz n)[j*2+1]?=some (H8 (db sz j:Int)):=by
 induction n with
 | zero=>omega
 | succ n ih=>
  rw [j5];by_cases i:j<n
  ·have:=ih i;rw [GH (by rw [ik];omega),GH (by rw [ik];omega)];exact this
  ·obtain rfl:j=n:=ao;rw [GK (by rw [ik];omega),GK (by rw [ik];omega),ik];simp
theorem CS (sz:N1) {j n:Nat} (h:j<n):(le sz n)[j*2]?=some (H8 (db sz j:Int))/\(le sz n)[j*2+1]?=some (H8 (bZ sz (j+1):Int)):=by
 induction n with
 | zero=>omega
 | succ n ih=>
  rw [kr];by_cases i:j<n
  ·have:=ih i;rw [GH (by rw [iD];omega),GH (by rw [iD];omega)];exact this
  ·obtain rfl:j=n:=ao;rw [GK (by rw [iD];omega),GK (by rw [iD];omega),iD];simp
def bF (T:N6) (w:N5) (b:Nat) (sz:N1):Prop:=∃A1 c1 h c2 i c3,
 w.heap[b]?=some (.cells #[.slice A1 sz.length c1,.slice h (sz.length-1) c2,.slice i (sz.length-1) c3,H8 (bZ sz (sz.length-1):Int)] T (0,0))/\
 Rd w A1 (az .i64 sz)/\Rd w h (kt sz (sz.length-1))/\Rd w i (le sz (sz.length-1))
theorem bF.below {T:N6} {w i:N5} {b:Nat} {sz:N1} (h:bF T w b sz) (hb:ap w i):bF T i b sz:=by
 obtain ⟨A1,c1,u,c2,p,c3,o,x,v,y⟩:=h;exact ⟨A1,c1,u,c2,p,c3,(hb.block b (F1 o)).trans o,x.below hb,v.below hb,y.below hb⟩
theorem bF.lt {T:N6} {w:N5} {b:Nat} {sz:N1} (h:bF T w b sz):b<w.heap.size:=by
 obtain ⟨A1,c1,p,c2,o,c3,i,_⟩:=h;exact F1 i
noncomputable def dE (sz:N1):Int:=@ite _ (cP sz) (Classical.propDecidable _) 0 (@ite _ (dJ sz) (Classical.propDecidable _) 4 5)
theorem jn {sz:N1} (h:cP sz):dE sz=0:=by unfold dE;rw [if_pos h]
theorem mp {sz:N1} (h:¬cP sz) (hr:dJ sz):dE sz=4:=by unfold dE;rw [if_neg h,if_pos hr]
theorem iK {sz:N1} (h:¬dJ sz):dE sz=5:=by unfold dE;rw [if_neg (λg=>h g.1),if_neg h]
theorem uh (sz:N1):dE sz=0↔cP sz:=by
 constructor
 ·intro h;by_cases i:cP sz
  ·exact i
  ·by_cases hr:dJ sz
   ·rw [mp i hr] at h;omega
   ·rw [iK hr] at h;omega
 ·exact jn
theorem iZ (b:Bool):b=false\/b=true:=by cases b<;>simp
structure Cfg where
 sizes:N1
 shift:Int
 rate:Int
 mom:Int
 workers:Int
 batch:Int
 micros:Int
 steps:Int
 bucket:Int
 chunk:Int
 window:Int
 cap:Int
def okB (n:Int):Bool:=decide (1<=n/\n<=1048576)
theorem iz {n:Int} (h:okB n=true):1<=n/\n<=1048576:=by simpa [okB] using h
theorem yC {n:Int} (h:okB n=false):¬(1<=n/\n<=1048576):=by
 intro i;unfold okB at h;rw [GZ i] at h;cases h
def qS (n:Int):Bool:=decide (0<=n/\n<=1048576)
def mC (k:Cfg):Bool:=okB k.micros&&okB k.bucket&&okB k.chunk&&okB k.window&&okB k.cap&&qS k.steps
def wkB (k:Cfg):Bool:=decide (1<=k.workers/\k.workers<=64)
def shB (k:Cfg):Bool:=decide (1<=k.shift/\k.shift<=62)
def baB (k:Cfg):Bool:=decide (k.workers<=k.batch/\k.batch<=1048576)
noncomputable def bT (k:Cfg):Int:=if wkB k=false then 6 else if shB k=false then 9 else if dE k.sizes≠0 then dE k.sizes else if mC k=false then 2 else if baB k=false then 7 else 0
theorem Ew {k:Cfg} (h:wkB k=false):bT k=6:=by unfold bT;rw [if_pos h]
theorem Eu {k:Cfg} (i:wkB k=true) (h:shB k=false):bT k=9:=by unfold bT;rw [if_neg (by simp [i]),if_pos h]
theorem Et {k:Cfg} (i:wkB k=true) (o:shB k=true) (h:dE k.sizes≠0):bT k=dE k.sizes:=by unfold bT;rw [if_neg (by simp [i]),if_neg (by simp [o]),if_pos h]
theorem Ey {k:Cfg} (i:wkB k=true) (o:shB k=true) (p:dE k.sizes=0) (h:mC k=false):bT k=2:=by unfold bT;rw [if_neg (by simp [i]),if_neg (by simp [o]),if_neg (by simp [p]),if_pos h]
theorem Ev {k:Cfg} (p:wkB k=true) (i:shB k=true) (u:dE k.sizes=0) (o:mC k=true) (h:baB k=false):bT k=7:=by unfold bT;rw [if_neg (by simp [p]),if_neg (by simp [i]),if_neg (by simp [u]),if_neg (by simp [o]),if_pos h]
theorem Ez {k:Cfg} (p:wkB k=true) (i:shB k=true) (u:dE k.sizes=0) (o:mC k=true) (h:baB k=true):bT k=0:=by unfold bT;rw [if_neg (by simp [p]),if_neg (by simp [i]),if_neg (by simp [u]),if_neg (by simp [o]),if_neg (by simp [h])]
structure jT (k:Cfg):Prop where
 w:1<=k.workers/\k.workers<=64
 s:1<=k.shift/\k.shift<=62
 z:cP k.sizes
 mi:1<=k.micros/\k.micros<=1048576
 bu:1<=k.bucket/\k.bucket<=1048576
 ch:1<=k.chunk/\k.chunk<=1048576
 wi:1<=k.window/\k.window<=1048576
 ca:1<=k.cap/\k.cap<=1048576
 st:0<=k.steps/\k.steps<=1048576
 ba:k.workers<=k.batch/\k.batch<=1048576
theorem jE {k:Cfg}:bT k=0↔jT k:=by
 constructor
 ·intro h
  cases h1:wkB k with
  | false=>rw [Ew h1] at h;omega
  | true=>
   cases h2:shB k with
   | false=>rw [Eu h1 h2] at h;omega
   | true=>
    by_cases i:dE k.sizes=0
    ·cases h4:mC k with
     | false=>rw [Ey h1 h2 i h4] at h;omega
     | true=>
      cases h5:baB k with
      | false=>rw [Ev h1 h2 i h4 h5] at h;omega
      | true=>
       simp only [mC,Bool.and_eq_true] at h4;obtain ⟨⟨⟨⟨⟨a1,p⟩,u⟩,o⟩,v⟩,x⟩:=h4;exact ⟨by simpa [wkB] using h1,by simpa [shB] using h2,(uh _).1 i,iz a1,iz p,iz u,iz o,iz v,by simpa [qS] using x,by simpa [baB] using h5⟩
    ·rw [Et h1 h2 i] at h;exact absurd h i
 ·intro h;refine Ez (by simpa [wkB] using h.w) (by simpa [shB] using h.s) (jn h.z) ?_ (by simpa [baB] using h.ba);simp only [mC,Bool.and_eq_true];exact ⟨⟨⟨⟨⟨by simpa [okB] using h.mi,by simpa [okB] using h.bu⟩,by simpa [okB] using h.ch⟩,by simpa [okB] using h.wi⟩,by simpa [okB] using h.ca⟩,by simpa [qS] using h.st⟩
end Go.Proofs.YtindmkcnjlgomaaGreat
namespace Go.Proofs.YtindmkcnjlgomaaGreat
open Go.RowKit Go.ChangeShapes Go.WideShapes Go.ChangeAt
open Tryz
abbrev eL (α:Type):=N5->N4->α->Prop
def C8 {α:Type} (R:eL α):Prop:=∀{w w':N5} {cs:N4} {a:α},ap w w'->R w cs a->R w' cs a
def bH (l:List (N4)) (j:Nat):N4:=l.getD j []
theorem pX {l:List (N4)} {j:Nat} (h:j<l.length):bH l j=l[j]:=by simp [bH,h]
theorem jA {rows:List (N4)} {k:Nat} (h:∀r∈rows,r.length=k) (i t:Nat) (o:i<rows.length) (p:t<k):(List.flatten rows)[i*k+t]?=(bH rows i)[t]?:=by
 induction rows generalizing i with
 | nil=>simp at o
 | cons r l ih=>
  have hr:r.length=k:=h r (by simp)
  cases i with
  | zero=>
   rw [List.flatten_cons,Nat.zero_mul,GY,GH ao];simp [bH]
  | succ i=>
   rw [List.flatten_cons,GK (by rw [hr,Nat.add_mul];omega),hr,show (i+1)*k+t-k=i*k+t by rw [Nat.add_mul];omega,ih (λr hr=>h r (by simp [hr])) i (by simpa using o)];simp [bH]
theorem Ch {rows:List (N4)} {k:Nat} (h:∀r∈rows,r.length=k):(List.flatten rows).length=rows.length*k:=by
 induction rows with
 | nil=>simp
 | cons r l ih=>rw [List.flatten_cons,GE,h r (by simp),ih (λr hr=>h r (by simp [hr])),List.length_cons,Nat.add_mul];omega
def cO {α:Type} (R:eL α) (size:Nat) (w:N5) (A:N0) (l:List α):Prop:=
 ∃rows,Rd w A (List.flatten rows)/\rows.length=l.length/\(∀r∈rows,r.length=size)/\∀j x,l[j]?=some x->R w (bH rows j) x
def rSl {α:Type} (R:eL α) (size:Nat):eL (List α):=λw h l=>∃A c,h=[.slice A l.length c]/\l.length<=c/\c<=9223372036854775807/\l.length<=17592186043904/\cO R size w A l
def AT (q:IntKind):eL (N1):=λw h zs=>∃A c,h=[.slice A zs.length c]/\zs.length<=c/\c<=9223372036854775807/\zs.length<=17592186043904/\Rd w A (az q zs)/\∀z∈zs,(Lit.int q z).wf=true
section
variable {α:Type} {R:eL α} {size:Nat} {w w':N5} {A:N0} {l:List α}
theorem cO.below (p:C8 R) (h:cO R size w A l) (hb:ap w w'):cO R size w' A l:=by
 obtain ⟨rows,u,i,v,o⟩:=h;exact ⟨rows,u.below hb,i,v,λj x y=>p hb (o j x y)⟩
theorem cO.nil (R:eL α) (size:Nat) (w:N5) (A:N0):cO R size w A []:=⟨[],Rd.nil _ _,rfl,by simp,by simp⟩
theorem cO.get (h:cO R size w A l) (D:0<size) {j:Nat} {x:α} (L:l[j]?=some x):
  ∃b o v,A=some (aq b o)/\b<w.heap.size/\v.length=size/\R w v x/\w.cell? (aq b (o+j*size))=v[0]?/\∀t,t<size->w.cell? (aq b (o+j*size+t))=v[t]?:=by
 obtain ⟨rows,I,N,C,O⟩:=h;have p:j<rows.length:=by rw [N];exact (GF.1 L).1
 have hrl:(bH rows j).length=size:=C _ (by rw [pX p];exact List.getElem_mem p);have i:∀t,t<size->∃u,(bH rows j)[t]?=some u:=λt y=>⟨_,GG ao⟩;obtain ⟨Q,H⟩:=i 0 D;obtain ⟨b,o,rfl,c0⟩:=I (j*size+0) Q ((jA C j 0 p D).trans H)
 have hc:∀t,t<size->w.cell? (aq b (o+j*size+t))=(bH rows j)[t]?:=λt y=>by
  obtain ⟨u,J⟩:=i t y;obtain ⟨T,U,B,c⟩:=I (j*size+t) u ((jA C j t p y).trans J);injection B with B;injection B with e1 e2 _
  subst e1;subst e2;rw [GX,c,J]
 refine ⟨b,o,bH rows j,rfl,aC c0,hrl,O j x L,?_,hc⟩;have:=hc 0 D
 rwa [Nat.add_zero] at this
end
def jI {H:Type} (P:Program) (t:N6) (d:DataW H):Prop:=∀n∈d.weights P t,n<=140737488351232
theorem yS {H:Type} {P:Program} {e:N6}:∀{l:List (DataW H)},(∀n∈DataW.weightsAll P e l,n<=140737488351232)->∀(i:Nat) (d:DataW H),l[i]?=some d->jI P e d:=by
 intro l
 induction l with
 | nil=>intro _ i d h;simp at h
 | cons x r ih=>
  intro h i d o;unfold DataW.weightsAll at h
  cases i with
  | zero=>
   simp at o;subst o;exact λn hn=>h n (GU.2 (.inl hn))
  | succ i=>exact ih (λn hn=>h n (GU.2 (.inr hn))) i d (by simpa using o)
theorem vb {H:Type} {P:Program}:∀{o:List N6} {l:List (DataW H)},(∀n∈DataW.weightsEach P o l,n<=140737488351232)->∀(i:Nat) (t:N6) (d:DataW H),o[i]?=some t->l[i]?=some d->jI P t d:=by
 intro o
 induction o with
 | nil=>intro l _ i t d h;simp at h
 | cons t0 o ih=>
  intro l h i t d u p
  cases l with
  | nil=>simp at p
  | cons x r=>
   unfold DataW.weightsEach at h
   cases i with
   | zero=>
    simp at u p;subst u;subst p;exact λn hn=>h n (GU.2 (.inl hn))
   | succ i=>exact ih (λn hn=>h n (GU.2 (.inr hn))) i t d (by simpa using u) (by simpa using p)
theorem kQ {H:Type} {P:Program} {o:List N6} {l:List (DataW H)} (h:(DataW.weightsEach P o l).all (· <=reachBytes)=true) {i:Nat} {t:N6} {d:DataW H} (v:o[i]?=some t) (p:l[i]?=some d):jI P t d:=
 vb (λn hn=>by have u:n<=reachBytes:=of_decide_eq_true (List.all_eq_true.1 h n hn);exact u) i t d v p
def qI (P:Program) (t:N6) (size:Nat) {α:Type} (R:eL α):Prop:=
 P.cellsOf t=size/\∀{H:Type} {enc:N6×Value->H} {W:N5} {fuel:Nat} {cs:N4} {x:DataW H×List MemPlace},DataW.trod enc P W 0 (λ_=>true) true fuel t cs=some x->jI P t x.1->cs.length=size/\∃a,R W cs a
theorem wA {w:N5} {a:Addr} {xs:N4} (h:∀i u,xs[i]?=some u->w.cell? (a.add i)=some u):Rd w (some a) xs:=λk u B=>by
 have C:∃v,xs[0]?=some v:=by
  have:=(GF.1 B).1;exact ⟨xs[0],GG ao⟩
 obtain ⟨v,y⟩:=C;have p:=h 0 v y;have e:a.add 0=a:=by simp [Addr.add]
 rw [e] at p
 have A:a=(aq a.block a.off):=by
  obtain ⟨b,o,s⟩:=a;unfold World.cell? at p
  split at p
  ·cases s with
   | none=>rfl
   | some x=>simp at p
  ·cases p
 refine ⟨a.block,a.off,by rw [<-A],?_⟩;have hk:=h k u B;rw [A,Addr.add_lit] at hk;exact hk
theorem uO {P:Program} {t e:N6} {q:IntKind} (L:P.underlying t=some (.slice e)) (he:P.underlying e=some (.int q)) (hc:P.cellsOf e=1) (N:P.cellsOf t=1) (hb:P.bytesOf e=8):qI P t 1 (AT q):=⟨N,λ{H V W Q U y} h J=>by
 have A:∀a l c,U=[.slice a l c]->l<=17592186043904:=λa l c C=>by
  rcases Go.Deep.open_slice L h with ⟨o,_⟩ | ⟨a',Z,cap,m,n,D,Pl,o,_,hl,_,T,Y,_⟩
  ·rw [C] at o;injection o with o;injection o with _ o;omega
  ·rw [C] at o;injection o with o;injection o with _ o;subst o
   have hw:=J ((l+(m-l))*8) (by rw [Y];simp [DataW.weights,L,hb]);omega
 rcases open_ints L he hc h with ⟨rfl,_⟩ | ⟨x,l,c,zs,rfl,_,hl,hm,I,_,v,O⟩
 ·exact ⟨rfl,[],none,0,rfl,F3 _,by omega,by simp,Rd.nil _ _,by simp⟩
 ·have R:=A _ _ _ rfl;refine ⟨rfl,zs.take l,some x,c,?_,by simp;omega,by unfold maxLen at hm;exact hm,by simp;omega,?_,λz I=>O z (List.mem_of_mem_take I)⟩
  ·rw [GL];simp at I;rw [Nat.min_eq_left ao]
  ·refine wA λi u B=>?_;rw [<-dz,List.getElem?_take] at B
   split at B
   ·rename_i hi
    have p:i<zs.length:=by simp at I;omega
    rw [nV q zs i p] at B;rw [v i p,<-B,dh zs i p];simp [List.getD,p]
   ·cases B⟩
theorem sH {P:Program} {t e:N6} {size:Nat} {α:Type} {R:eL α} (ht:P.underlying t=some (.slice e)) (hR:qI P e size R) (a2:P.cellsOf t=1) (hb:8<=P.bytesOf e):qI P t 1 (rSl R size):=⟨a2,λ{H a8 W a6 cs x} h p=>by
 rcases Go.Deep.open_slice ht h with ⟨rfl,_⟩ | ⟨a,o,cap,m,n,D,Pl,rfl,_,hl,hm,L,T,hi⟩
 ·exact ⟨rfl,[],none,0,rfl,F3 _,by omega,by simp,cO.nil _ _ _ _⟩
 ·simp at L;subst L;obtain ⟨a4,a0⟩:=hR;rw [a4] at hi
  have O:o<=17592186043904:=by
   have hw:=p ((o+(m-o))*P.bytesOf e) (by rw [T];simp [DataW.weights,ht]);have:=Nat.mul_le_mul_left (o+(m-o)) hb;omega
  have a1:∀i,i<o->jI P e (D i):=λi a5=>by
   refine yS (l:=(List.range o).map D) (λn hn=>p n ?_) i (D i) (by simp [a5]);rw [T];simp only [DataW.weights,ht];exact List.mem_cons_of_mem _ (GU.2 (.inl hn))
  classical
  have C:∀i,i<o->∃A x,W.cells? 0 (a.add (i*size)) size=some A/\A.length=size/\R W A x:=λi p=>by
   obtain ⟨A,h1,Z⟩:=hi i ao;obtain ⟨U,x,h4⟩:=a0 Z (a1 i p);exact ⟨A,x,h1,U,h4⟩
  let v:Nat->N4:=λi=>if p:i<o then Classical.choose (C i p) else []
  have y:∀i (p:i<o),∃x,W.cells? 0 (a.add (i*size)) size=some (v i)/\(v i).length=size/\R W (v i) x:=λi p=>by
   have:=Classical.choose_spec (C i p);simp only [v,dif_pos p];exact this
  let el:(i:Nat)->i<o->α:=λi p=>Classical.choose (y i p)
  let l:List α:=List.ofFn (n:=o) λi=>el i.1 i.2
  have B:l.length=o:=by simp [l]
  refine ⟨rfl,l,some a,m,by rw [B],by rw [B];exact hl,by unfold maxLen at hm;exact hm,by rw [B];exact O,(List.range o).map v,?_,by simp [l],?_,?_⟩
  ·have U:∀r∈(List.range o).map v,r.length=size:=by
    intro r hr;obtain ⟨i,J,rfl⟩:=List.mem_map.1 hr;obtain ⟨x,_,h,_⟩:=y i (List.mem_range.1 J);exact h
   refine wA λi u Q=>?_;have p:=(GF.1 Q).1;rw [Ch U,List.length_map,List.length_range] at p
   have I:0<size:=by
    rcases Nat.eq_zero_or_pos size with h | h
    ·rw [h] at p;omega
    ·exact h
   have N:i=i/size*size+i%size:=by rw [Nat.mul_comm];exact (Nat.div_add_mod i size).symm
   have hq:i/size<o:=Nat.div_lt_of_lt_mul (by rw [Nat.mul_comm];exact p);have hr:=Nat.mod_lt i I;obtain ⟨x,a3,a7,_⟩:=y _ hq;obtain ⟨_,_,Y⟩:=World.cells?_some a3;rw [N,jA U _ _ (by simpa using hq) hr] at Q;have e:bH ((List.range o).map v) (i/size)=v (i/size):=by simp [bH,hq]
   rw [e,<-Y _ hr] at Q;rw [N];rw [Go.Deep.add_add] at Q;exact Q
  ·intro r hr;obtain ⟨i,J,rfl⟩:=List.mem_map.1 hr;obtain ⟨x,_,h,_⟩:=y i (List.mem_range.1 J);exact h
  ·intro j x T;have hj:j<o:=by rw [<-B];exact (GF.1 T).1
   have e:bH ((List.range o).map v) j=v j:=by simp [bH,hj]
   rw [e]
   have V:x=el j hj:=by
    have:=GF.1 T;obtain ⟨h1,Z⟩:=this;rw [<-Z];simp [l]
   rw [V]
   exact (Classical.choose_spec (y j hj)).2.2⟩
theorem sI {P:Program} {t:N6} {size:Nat} {α:Type} {R:eL α} (y:qI P t size R) {H:Type} {i:N6×Value->H} {W:N5} {v:Value} {d:DataW H} {p:List MemPlace} (h:DataW.Trod i P W 0 (λ_=>true) true t v d p) (hl:jI P t d):∃a,R W v.cells.toList a/\v.cells.toList.length=size:=by
 obtain ⟨o,u⟩:=h;obtain ⟨A,a,x⟩:=y.2 u hl;exact ⟨a,x,A⟩
end Go.Proofs.YtindmkcnjlgomaaGreat
namespace Go.Proofs.YtindmkcnjlgomaaGreat
open Go.RowKit
open Tryz
def dY (B:Nat) (w:N5):N5:={w with heap:=w.heap.mapIdx λk o=>if k<B then .cells #[] 0 (0,0) else o}
theorem gi (B:Nat) (w:N5):(dY B w).heap.size=w.heap.size:=by simp [dY]
theorem fA {B k:Nat} {w:N5} (h:B<=k):(dY B w).heap[k]?=w.heap[k]?:=by
 simp only [dY,Array.getElem?_mapIdx];have i:¬k<B:=ao;simp [i]
theorem ky {B k:Nat} {w:N5} (h:k<B) (hk:k<w.heap.size):(dY B w).heap[k]?=some (.cells #[] 0 (0,0)):=by
 simp only [dY,Array.getElem?_mapIdx];simp [h,hk]
theorem nk (B:Nat) (w:N5):Keep (λj=>j<B) w (dY B w):=⟨rfl,rfl,rfl,by rw [gi];exact F3 _,λk _ hn=>fA ao⟩
theorem dI {w:N5} {B base:Nat} {e:N6} {size:Nat} {v:Value} {n:Nat} {xs:N4} (h:w.ownsRow base e size v n xs) (hB:B<=base):(dY B w).ownsRow base e size v n xs:= (nk B w).own h λk hk hl=>by have:=(h.lt k hk).1;omega
theorem xz {B:Nat} {w i:N5} (h:ap w i):Below (dY B w).heap.size (dY B w) (dY B i):=
 ⟨h.os,h.tape,h.output,by rw [gi,gi];exact h.size,λk hk=>by
  rw [gi] at hk;rcases Gn k B with hb | hb
  ·rw [ky hb (Gf hk h.size),ky hb hk]
  ·rw [fA hb,fA hb,h.block k hk]⟩
def Agr (B:Nat) (u v:N5):Prop:=∀k,B<=k->k<u.heap.size->v.heap[k]?=u.heap[k]?
theorem Agr.refl (B:Nat) (u:N5):Agr B u u:=λ_ _ _=>rfl
theorem zR {B:Nat} {u v:N5} {a:Addr} {x:Value} (h:(dY B u).cell? a=some x) (i:Agr B u v):v.cell? a=some x:=by
 have hl:=aC h;rw [gi] at hl;rcases Gn a.block B with hb | hb
 ·have o:=ky (w:=u) hb hl;rw [World.cell?] at h;simp only [o] at h;simp at h
 ·exact (World.cell?_of_block (w:=dY B u) ((i _ hb hl).trans (fA hb).symm)).trans h
theorem nl {B:Nat} {u v:N5} {b:Nat} {x:Value} {xs:N4} {t:N6} {i:Nat×Nat} (h:(dY B u).heap[b]?=some (.cells (x::xs).toArray t i)) (o:Agr B u v):v.heap[b]?=some (.cells (x::xs).toArray t i):=by
 have hl:=F1 h;rw [gi] at hl;rcases Gn b B with hb | hb
 ·rw [ky hb hl] at h;simp at h
 ·rw [o b hb hl,<-fA hb];exact h
theorem iJ {B:Nat} {u v:N5} {A:N0} {xs:N4} (h:Rd (dY B u) A xs) (i:Agr B u v):Rd v A xs:=λk x p=>by
 obtain ⟨b,o,e,hc⟩:=h k x p;exact ⟨b,o,e,zR hc i⟩
theorem xi {B i:Nat} {u:N5} (h:B<=i):Agr i u (dY B u):=λk hk _=>fA ao
theorem aw {W:N5} {b:Nat} {u:N2} {t e:N6} {y:Nat×Nat} (h:W.heap[b]?=some (.cells u t y)) (o:t≠e) {base size k:Nat} {v:Value} {xs:N4} (hr:W.ownsRow base e size v k xs):some b≠v.ownBlock:=by
 rcases hr.2 with ⟨rfl,_⟩ | ⟨g,cap,p,rfl,_,i,_⟩
 ·simp [Value.ownBlock]
 ·intro x;obtain rfl:b=g:=by simpa [Value.ownBlock] using x
  have:=h.symm.trans i;simp at this;exact o this.2.1
theorem cJ {W u:N5} {b:Nat} {p:N2} {t e:N6} {x:Nat×Nat} {o:Obj} (h:W.heap[b]?=some (.cells p t x)) (i:t≠e) {base size k:Nat} {v:Value} {xs:N4} (hr:W.ownsRow base e size v k xs) (y:(W.alloc o).grownBy u v.ownBlock):u.heap[b]?=some (.cells p t x):= (y.block b (by have:=F1 h;simp;omega) (aw h i hr)).trans ((Gk W o b (F1 h)).trans h)
theorem vG {W p:N5} {b o:Nat} {u:Value} {e:N6} {i:Obj} (h:W.cell? (aq b o)=some u) {base size k:Nat} {v:Value} {xs:N4} (hb:b<base) (hr:W.ownsRow base e size v k xs) (y:(W.alloc i).grownBy p v.ownBlock):p.cell? (aq b o)=some u:=
 y.cell ((World.cell?_of_block (w:=W) (Gk W i b (aC h))).trans h) (λe=>by
  have x:v.ownBlock=some b:=e.symm;have:=(hr.lt b x).1
  omega)
theorem qh {W C:N5} {base':Nat} {B:N6} {h m:Nat} {v v' u:Value} {y:N4} {o:Obj} (A:W.ownsRow base' B h u m y) (x:∀i,v.ownBlock=some i->u.ownBlock≠some i) (H:(W.alloc o).grownBy C v.ownBlock) (p:v'.ownBlock=v.ownBlock\/v'.ownBlock=some (W.alloc o).heap.size):C.ownsRow base' B h u m y/\∀i,v'.ownBlock=some i->u.ownBlock≠some i:=by
 refine ⟨(A.alloc o).kept H ?_,λi D=>?_⟩
 ·cases hub:u.ownBlock with
  | none=>exact .inl rfl
  | some k=>exact .inr λe=>x k e.symm hub
 ·rcases p with p | p
  ·exact x i (p▸D)
  ·intro e;have I:=(A.lt i e).2;rw [D] at p;simp at p;omega
theorem aF {W:N5} {p:Addr} {u:Value} (h:W.cell? p=some u) (o:Obj):(W.alloc o).cell? p=some u:= (World.cell?_of_block (w:=W) (Gk W o _ (aC h))).trans h
theorem av {w i:N5} {p:Addr} {u:Value} (hb:ap w i) (h:w.cell? p=some u):i.cell? p=some u:=(World.cell?_of_block (w:=w) (hb.block _ (aC h))).trans h
theorem lH {W:N5} {B I v y s1 s2 D J:Nat} {v1 v2:Value} {u o:N4} (H:W.ownsRow B v s1 v1 D u) (C:W.ownsRow I y s2 v2 J o) (p:v≠y):∀i,v1.ownBlock=some i->v2.ownBlock≠some i:=by
 intro i x e;rcases H.2 with ⟨rfl,_⟩ | ⟨g,cap,A,rfl,_,h,_⟩
 ·cases x
 ·obtain rfl:g=i:=by simpa [Value.ownBlock] using x
  exact aw h p C e.symm
theorem sE {W x:N5} {p e h size n m:Nat} {v u y:Value} {xs A:N4} {o:Obj} {base base' B j:Nat} {L:N2} {t:N6} (D:W.ownsRow base' p h u m A) (I:W.ownsRow base e size v n xs) (O:(W.alloc o).grownBy x v.ownBlock) (hB:x.heap[B]?=some (.cells L t (0,0))) (N:e≠p) (J:t≠p):(x.setCell (aq B j) y).ownsRow base' p h u m A:=by
 have H:x.ownsRow base' p h u m A:=by
  refine (D.alloc o).kept O ?_
  cases hub:u.ownBlock with
  | none=>exact .inl rfl
  | some k=>exact .inr λC=>lH I D N k C.symm hub
 exact (Keep.setCell (S:=λi=>i=B) (Keep.refl _ x) (aq B j) (.inr rfl) y).own H (λi Q C=>aw hB J H (by rw [Q,C]))
theorem kT {W i:N5} {r:Option Nat} (h:W.drew.grownBy i r):W.grownBy i r:=⟨h.os,h.tape,h.output,h.size,h.block⟩
theorem BO (a:Nat) (i:a<18446744073709551616):bits .and .u64 (a:Int) 4294967295=((a%4294967296:Nat):Int):=by
 have h:=bits_and_u64_nat a 4294967295 i ao;have e:a&&& 4294967295=a%4294967296:=Nat.and_two_pow_sub_one_eq_mod a 32;rw [e] at h;exact h
theorem FR (a:Nat):(a:Int)/4294967296=((a/4294967296:Nat):Int):=ao
theorem FO (a b:Nat):(a:Int)*(b:Int)=((a*b:Nat):Int):=(Int.natCast_mul a b).symm
theorem FS (a b:Nat):(a:Int)+(b:Int)=((a+b:Nat):Int):=(Int.natCast_add a b).symm
theorem mg (a:Nat) (h:a<18446744073709551616):IntKind.u64.wrap (a:Int)=(a:Int):=by rw [IntKind.wrap_u64];omega
theorem Fo (a:Nat):IntKind.u64.wrap (a:Int)=((a%18446744073709551616:Nat):Int):=by rw [IntKind.wrap_u64];omega
theorem yG (x y:Nat) (A:x<18446744073709551616) (v:y<18446744073709551616) (w:N5):Calls prog 262 #[.int .u64 x,.int .u64 y] w λe D=>e=.returned (.tuple #[.int .u64 ((x*y/18446744073709551616:Nat):Int),.int .u64 ((x*y%18446744073709551616:Nat):Int)])/\w=D:=by
 obtain ⟨B,bt,H,p⟩:=Lib.mul64_hi x y A v;have ba:=Lib.half_mul_le (a:=x/4294967296) (b:=y/4294967296) ao ao;have I:=Lib.half_mul_le (a:=x/4294967296) (b:=y%4294967296) ao ao;have bc:=Lib.half_mul_le (a:=x%4294967296) (b:=y/4294967296) ao ao;have i:x/4294967296*(y/4294967296)<18446744073709551616:=ao;have h:x/4294967296*(y%4294967296)<18446744073709551616:=ao;have u:x%4294967296*(y/4294967296)<18446744073709551616:=ao;have o:x/4294967296*(y/4294967296)+(x/4294967296*(y%4294967296)+x%4294967296*(y%4294967296)/4294967296)/4294967296<18446744073709551616:=ao;have C:x/4294967296*(y/4294967296)+(x/4294967296*(y%4294967296)+x%4294967296*(y%4294967296)/4294967296)/4294967296+((x/4294967296*(y%4294967296)+x%4294967296*(y%4294967296)/4294967296)%4294967296+x%4294967296*(y/4294967296))/4294967296<18446744073709551616:=ao;go_enter func262,ntmps262;go_wp2;simp only [BO x A,BO y v,FR,FO,FS,mg _ B,mg _ h,mg _ bt,BO _ bt,mg _ u,mg _ H,mg _ i,mg _ o,mg _ C,Fo (x*y)];rw [p];go_ret2;exact ⟨rfl,rfl⟩
theorem AN (a:Int) (w:N5):Calls prog 254 #[H8 a] w λe h=>e=.returned (H8 (max a 0))/\w=h:=by
 go_enter func254,ntmps254;go_wp2
 all_goals
  go_ret;exact ⟨bE ao,rfl⟩
theorem Cd (a g:Int) (w:N5):Calls prog 239 #[H8 a,H8 g] w λe i=>e=.returned (H8 (if 0<a then g else 0))/\w=i:=by
 by_cases h:a<=0
 ·rw [if_neg ao];go_enter func239,ntmps239;go_wp2;go_ret;exact ⟨rfl,rfl⟩
 ·rw [if_pos ao];go_enter func239,ntmps239;go_wp2;go_ret;exact ⟨rfl,rfl⟩
theorem vZ (a b:Int) (w:N5):Calls prog 244 #[H8 a,H8 b] w λe h=>e=.returned (H8 (wrap64 (a-b)))/\w=h:=by
 go_enter func244,ntmps244;go_wp2;go_ret;exact ⟨rfl,rfl⟩
theorem Ag (h lo:Int) (q:Nat) (B:q<=63) (o:0<=lo/\lo<18446744073709551616):
  bits .or .u64 (IntKind.u64.wrap (IntKind.u64.wrap h*2^(64-q))) (lo/2^q)=(uw h%2^q)*2^(64-q)+lo/2^q:=by
 obtain ⟨H,hH,_⟩:=ua h;obtain ⟨L,rfl⟩:=Int.eq_ofNat_of_zero_le o.1;have p:(18446744073709551616:Nat)=2^(64-q)*2^q:=by rw [<-Nat.pow_add,show 64-q+q=64 by omega]
 have hw:IntKind.u64.wrap h=uw h:=by rw [IntKind.wrap_u64];rfl
 have A:IntKind.u64.wrap (uw h*2^(64-q))=((2^(64-q)*(H%2^q):Nat):Int):=by
  rw [IntKind.wrap_u64,hH]
  have:((H*2^(64-q):Nat):Int)%((18446744073709551616:Nat):Int)=((2^(64-q)*(H%2^q):Nat):Int):=by
   rw [<-Int.natCast_emod,Nat.mul_comm H,p,Nat.mul_mod_mul_left]
  simpa using this
 have v:((L:Int)/2^q)=((L/2^q:Nat):Int):=by simp
 have i:0<2^q:=Nat.pow_pos (by decide)
 have u:L/2^q<2^(64-q):=by
  rw [Nat.div_lt_iff_lt_mul i];have:=o.2;omega
 have x:2^(64-q)*(H%2^q)<18446744073709551616:=by
  rw [p];exact Nat.mul_lt_mul_of_pos_left (Nat.mod_lt _ i) (Nat.pow_pos (by decide))
 have y:L/2^q<18446744073709551616:=Nat.lt_of_le_of_lt (Nat.div_le_self _ _) ao;rw [hw,A,v,bits_or_u64_nat _ _ x y,<-Nat.two_pow_add_eq_or_of_lt u,hH,Int.natCast_add,Int.natCast_mul,Int.mul_comm];simp
theorem xK (h lo:Int) (q:Nat) (i:q<=63) (p:0<=lo/\lo<18446744073709551616):
  wrap64 (bits .or .u64 (IntKind.u64.wrap (IntKind.u64.wrap h*2^(64-q))) (lo/2^q))=wrap64 (h*2^(64-q)+lo/2^q):=by
 rw [Ag h lo q i p];have u:(18446744073709551616:Int)=2^(64-q)*2^q:=by rw [<-Int.pow_add,show 64-q+q=64 by omega];rfl
 obtain ⟨k,hk⟩:∃k:Int,uw h=h+k*18446744073709551616:=⟨-(h/18446744073709551616),by unfold uw;omega⟩;have x:=Int.emod_add_mul_ediv (uw h) (2^q);refine pJ ⟨k*2^(64-q)-uw h/2^q,?_⟩;have e:uw h%2^q=h+k*18446744073709551616-2^q*(uw h/2^q):=ao;rw [e,Int.sub_mul,Int.add_mul,Int.sub_mul]
 have v:2^q*(uw h/2^q)*2^(64-q)=(uw h/2^q)*18446744073709551616:=by
  rw [u,Int.mul_comm (2^q:Int),Int.mul_assoc,Int.mul_comm (2^q:Int)]
 have o:k*18446744073709551616*2^(64-q)=k*2^(64-q)*18446744073709551616:=by rw [Int.mul_assoc,Int.mul_comm 18446744073709551616,<-Int.mul_assoc]
 rw [v,o];omega
def fg (a b:Int):Nat->Int
 | 0=>wrap64 (uw a*uw b/18446744073709551616)
 | 1=>if a<0 then wrap64 (wrap64 (uw a*uw b/18446744073709551616)-b) else wrap64 (uw a*uw b/18446744073709551616)
 | _=>dZ a b
theorem wB (a b:Int) (o: -9223372036854775808<=a/\a<=9223372036854775807) (hb: -9223372036854775808<=b/\b<=9223372036854775807):dZ a b=if b<0 then wrap64 (fg a b 1-a) else fg a b 1:=by
 rw [<-zH a b o hb];unfold fg;by_cases i:a<0
 ·by_cases h:b<0
  ·simp only [i,h,if_true,j4]
  ·simp only [i,h,if_true,if_false,j4,Int.sub_zero]
 ·by_cases h:b<0
  ·simp only [i,h,if_true,if_false,j4,Int.sub_zero]
  ·simp only [i,h,if_false,Int.sub_zero]
theorem AX (a b:Int) (w:N5) (N: -9223372036854775808<=a/\a<=9223372036854775807) (hb: -9223372036854775808<=b/\b<=9223372036854775807):Calls prog 257 #[H8 a,H8 b] w λe U=>e=.returned (.tuple #[H8 (dZ a b),.int .u64 (iP a b)])/\ap w U:=by
 obtain ⟨X,A,C⟩:=ua a;obtain ⟨Y,B,H⟩:=ua b;have T:IntKind.u64.wrap a=(X:Int):=by rw [IntKind.wrap_u64,<-A];rfl
 have O:IntKind.u64.wrap b=(Y:Int):=by rw [IntKind.wrap_u64,<-B];rfl
 have u:wrap64 ((X*Y/18446744073709551616:Nat):Int)=fg a b 0:=by unfold fg;rw [A,B];simp
 have y:((X*Y%18446744073709551616:Nat):Int)=iP a b:=by rw [<-zG a b N hb,A,B];unfold uw;simp
 have hm:=yG X Y C H w;rw [y] at hm;obtain ⟨h,Q⟩:∃h:Int,((X*Y/18446744073709551616:Nat):Int)=h:=⟨_,rfl⟩;rw [Q] at hm u;have I:∀w,(Instr.index 379 (.agg #[H8 a,H8 b,H8 b,H8 a]) (H8 0)).run prog w=.ok (.agg #[H8 a,H8 b]) w:=λw=>by kernel_rfl
 have L:∀w,(Instr.index 379 (.agg #[H8 a,H8 b,H8 b,H8 a]) (H8 1)).run prog w=.ok (.agg #[H8 b,H8 a]) w:=λw=>by kernel_rfl
 obtain ⟨Hm,EX,Z,J,I0,V⟩:=ah hm T O u I L;clear hm T O u y A B Q I L;go_enter func257,ntmps257;go_wp2_with fail;rw [EX.o,Z.o];refine Hm.o.mono ?_;rintro e w1 ⟨rfl,rfl⟩;go_wp2_with fail;rw [J.o]
 go_loopw [4,26] (λs i wr=>∃k:Nat,k<=2/\i=H8 k/\s=H8 (fg a b k)/\ap w wr) (λ_ i _=>2-(intOf i).toNat)
 ·exact ⟨0,by omega,rfl,rfl,Gb _ _⟩
 case round=>
  obtain ⟨k,hk,rfl,rfl,p⟩:=hrel;obtain ⟨R,x⟩:=ab (p.trans ((Gb _ _).alloc p.size (.cells #[H8 a,H8 b] 378))) (p.trans ((Gb _ _).alloc p.size (.cells #[H8 b,H8 a] 378)));rcases (show k=0\/k=1\/k=2 by omega) with rfl | rfl | rfl
  ·rw [show (((0:Nat):Int))=0 from rfl];have I:=I0.o;by_cases h:a<0
   ·have he:wrap64 (fg a b 0-b)=fg a b 1:=by simp only [fg,h,if_true]
    have v:=aa he;clear he p hk;go_wp2_with fail;rw [v.o];go_roundw
    ·exact ⟨1,by omega,rfl,rfl,R.o⟩
    ·simp [intOf]
   ·have he:fg a b 0=fg a b 1:=by simp only [fg,h,if_false]
    have v:=aa he;clear he p hk;go_wp2_with fail;rw [v.o];go_roundw
    ·exact ⟨1,by omega,rfl,rfl,R.o⟩
    ·simp [intOf]
  ·rw [show (((1:Nat):Int))=1 from rfl];have L:=V.o;by_cases h:b<0
   ·have he:wrap64 (fg a b 1-a)=fg a b 2:=by rw [show fg a b 2=dZ a b from rfl,wB a b N hb,if_pos h]
    have v:=aa he;clear he p hk;go_wp2_with fail;rw [v.o];go_roundw
    ·exact ⟨2,by omega,rfl,rfl,x.o⟩
    ·simp [intOf]
   ·have he:fg a b 1=fg a b 2:=by rw [show fg a b 2=dZ a b from rfl,wB a b N hb,if_neg h]
    have v:=aa he;clear he p hk;go_wp2_with fail;rw [v.o];go_roundw
    ·exact ⟨2,by omega,rfl,rfl,x.o⟩
    ·simp [intOf]
  ·rw [show (((2:Nat):Int))=2 from rfl];have D:=aa p;clear p hk;go_wp2_with fail;go_ret2;exact ⟨rfl,D.o⟩
theorem xM (h lo:Int) (q:Nat) (w:N5) (x:q<=62) (y: -9223372036854775808<=h/\h<=9223372036854775807) (u:0<=lo/\lo<18446744073709551616):Calls prog 258 #[H8 h,.int .u64 lo,H8 q] w λe p=>e=.returned (H8 (wrap64 (h*2^(64-q)+lo/2^q)))/\∃n,p=w.drewN n:=by
 have i:=xK h lo q ao u;have v:=aa i;clear i;go_enter func258,ntmps258;go_wp2_with fail
 go_quiet (fail)
 rw [v.o];go_wp2;go_ret;exact ⟨rfl,_,rfl⟩
theorem DL (a b:Int) (q:Nat) (h:q<=62):gE a b q=wrap64 (dZ a b*2^(64-q)+iP a b/2^q):=by
 rw [Ah a b q h];unfold gE;rw [if_neg ao];simp
theorem oJ (a b q:Int) (w:N5) (v: -9223372036854775808<=a/\a<=9223372036854775807) (hb: -9223372036854775808<=b/\b<=9223372036854775807):Calls prog 247 #[H8 a,H8 b,H8 q] w λe p=>e=.returned (H8 (gE a b q))/\ap w p:=by
 by_cases B:q<0
 ·have h:gE a b q=0:=by unfold gE;rw [if_pos (.inl B)]
  rw [h];clear h;go_enter func247,ntmps247;go_wp2_with fail;go_ret;exact ⟨rfl,Gb _ _⟩
 ·by_cases A:62<q
  ·have h:gE a b q=0:=by unfold gE;rw [if_pos (.inr A)]
   rw [h];clear h;go_enter func247,ntmps247;go_wp2_with fail;go_ret;exact ⟨rfl,Gb _ _⟩
  ·obtain ⟨Q,rfl⟩:=Int.eq_ofNat_of_zero_le (show 0<=q by omega);have h:=DL a b Q ao;rw [h];have u:=AX a b w v hb;have x:=λp=>xM (dZ a b) (iP a b) Q p ao (qd v hb) (zO _);obtain ⟨D,C⟩:=ab u x;clear u x h;go_enter func247,ntmps247;go_wp2_with fail;refine D.o.mono ?_;rintro e H ⟨rfl,i⟩;have y:=aa i;clear i;go_wp2_with fail;refine (C.o _).mono ?_;rintro e I ⟨rfl,n,rfl⟩;go_wp2_with fail;go_ret;exact ⟨rfl,Gi y.o _⟩
def wL (sz ps:N1) (k:Nat):N1:=cY (szN sz (k+1)*szN sz k) λi=>nth ps (bZ sz k+i)
def bL (sz ps:N1) (k:Nat):N1:=cY (szN sz (k+1)) λi=>nth ps (db sz k+i)
theorem tY (sz ps:N1) (k:Nat):(wL sz ps k).length=szN sz (k+1)*szN sz k:=aZ _ _
theorem CT (sz ps:N1) (k:Nat):(bL sz ps k).length=szN sz (k+1):=aZ _ _
def rJ (w:N5) (h:N4) (sz ps:N1) (k:Nat):Prop:=∃g o d B e,
 h=[H8 (szN sz (k+1):Int),H8 (szN sz k:Int),.slice (some (aq g o)) (szN sz (k+1)*szN sz k) d,.slice B (szN sz (k+1)) e]/\szN sz (k+1)*szN sz k<=d/\
 Rd w (some (aq g o)) (az .i64 (wL sz ps k))/\Rd w B (az .i64 (bL sz ps k))
def iH (u p:N6) (w:N5) (b:Nat) (sz ps:N1) (q:Int):Prop:=∃S h cp i o rows,
 w.heap[b]?=some (.cells #[(ar S),.slice h ps.length cp,H8 q,.slice i (sz.length-1) o] p (0,0))/\
 bF u w S sz/\Rd w h (az .i64 ps)/\Rd w i (List.flatten rows)/\rows.length=sz.length-1/\(∀r∈rows,r.length=4)/\∀j,j<sz.length-1->rJ w (bH rows j) sz ps j
theorem rJ.below {w i:N5} {p:N4} {sz ps:N1} {k:Nat} (h:rJ w p sz ps k) (hb:ap w i):rJ i p sz ps k:=by
 obtain ⟨g,o,d,B,e,x,u,y,v⟩:=h;exact ⟨g,o,d,B,e,x,u,y.below hb,v.below hb⟩
theorem iH.below {u o:N6} {w i:N5} {b:Nat} {sz ps:N1} {q:Int} (h:iH u o w b sz ps q) (hb:ap w i):iH u o i b sz ps q:=by
 obtain ⟨S,J,cp,C,v,rows,p,D,A,I,B,H,x⟩:=h;exact ⟨S,J,cp,C,v,rows,(hb.block b (F1 p)).trans p,D.below hb,A.below hb,I.below hb,B,H,λj y=>(x j y).below hb⟩
theorem iH.lt {p i:N6} {w:N5} {b:Nat} {sz ps:N1} {q:Int} (h:iH p i w b sz ps q):b<w.heap.size:=by
 obtain ⟨S,v,cp,x,u,rows,o,_⟩:=h;exact F1 o
theorem iX:cW prog 73 2 (H8 0) 1 8:=⟨underlying73,info_parts (by kernel_rfl),rfl,by decide⟩
theorem uu (A:N0) (zs:N1) (c:Nat) (w:N5) (B:Rd w A (az .i64 zs)) (hl:zs.length<=17592186043904):Calls prog 81 #[.slice A zs.length c] w λe y=>∃v,e=.returned v/\y.ownsRow w.heap.size 2 1 v zs.length (az .i64 zs)/\ap w y:=by
 have q:=λ(w:N5)=>Lib.run_eql_slice_nil (P:=prog) w 73 2 A zs.length c 0 0 underlying73
 cases A with
 | none=>
  have C:zs=[]:=by
   cases zs with
   | nil=>rfl
   | cons z l=>obtain ⟨b,o,h,_⟩:=B 0 _ rfl;cases h
  subst C;clear q;have q:=λ(w:N5)=>Lib.run_eql_slice_nil (P:=prog) w 73 2 none 0 c 0 0 underlying73;simp only [Option.isNone_none] at q;rw [List.length_nil];go_enter func81,ntmps81;go_wp2;go_ret;exact ⟨_,rfl,Gj _ _ _ _,Gb _ _⟩
 | some a=>
  go_enter func81,ntmps81;go_wp2_with (at_builtin;refine eH iX _ rfl (.tmp 5) (.tmp 6) rfl w.heap.size _ 0 [] rfl (fW w 2 1) _ zs.length c (az .i64 zs) rfl (B.alloc _) (by rw [aS];omega) (bS _ _) ao (by unfold maxLen;omega) (by simp) ?_);intro I H D i hb _ _;have u:=((Gb _ w).alloc (F3 _) (.cells #[] 2)).trans hb;obtain ⟨p,x⟩:=ab i u;clear i hb u;go_wp2;go_ret;exact ⟨_,rfl,p.o,x.o⟩
theorem cT (A:N0) (zs:N1) (c:Nat) (w:N5) (C:Rd w A (az .i64 zs)) (hl:zs.length<=17592186043904):Calls prog 48 #[.slice A zs.length c] w λe y=>∃x u,e=.returned (.slice x zs.length u)/\zs.length<=u/\y.ownsRow w.heap.size 2 1 (.slice x zs.length u) zs.length (az .i64 zs)/\ap w y:=by
 have h:=uu A zs c w C hl;go_enter func48,ntmps48;go_wp2_with fail;refine h.mono ?_;rintro e H ⟨v,rfl,i,hb⟩;obtain ⟨x,u,rfl,hc⟩:=aE i;clear h;obtain ⟨p,D,B⟩:=ae i hb hc;clear i hb hc;go_wp2;go_ret;exact ⟨_,_,rfl,B.o,p.o,D.o⟩
theorem D4 (A B:N0) (xs h:N1) (c d:Nat) (q:Int) (w:N5) (R:Rd w A (az .i64 xs)) (hB:Rd w B (az .i64 h)) (hl:xs.length=h.length) (hm:xs.length<=17592186043904) (Q:W64 xs) (O:W64 h):Calls prog 261 #[.slice A xs.length c,.slice B h.length d,H8 q] w λe D=>e=.returned (.tuple #[H8 (rA xs h q),.bool true])/\ap w D:=by
 obtain ⟨n,hn⟩:∃n,h.length=n:=⟨_,rfl⟩;have u:xs.length=n:=hl.trans hn;have L:rA xs h q=D5 xs h q n:=by unfold rA;rw [u]
 rw [u,hn,L];have Y:n<=17592186043904:=ao;obtain ⟨T,N,HA,V,WX,U⟩:=ah hn u R hB Q O;clear hn u R hB Q O hl hm L;go_enter func261,ntmps261;go_wp2_with fail
 go_loopw [8,18] (λs i wr=>∃k:Nat,k<=n/\i=H8 k/\s=H8 (D5 xs h q k)/\ap w wr) (λ_ i _=>n-(intOf i).toNat)
 ·exact ⟨0,Gc _,rfl,rfl,Gb _ _⟩
 case round=>
  obtain ⟨k,hk,rfl,rfl,v⟩:=hrel;by_cases p:k<n
  ·obtain ⟨b1,o1,I,p1⟩:=(HA.o.below v).num (show k<xs.length by rw [N.o];exact p);obtain ⟨b2,o2,H,p2⟩:=(V.o.below v).num (show k<h.length by rw [T.o];exact p);subst I;subst H;have x:=λD=>oJ (nth xs k) (nth h k) q D (WX.o k (by rw [N.o];exact p)) (U.o k (by rw [T.o];exact p));obtain ⟨Z,C⟩:=ab x v;clear x v;go_wp2_with fail;refine (Z.o _).mono ?_;rintro e w3 ⟨rfl,y⟩;have J:=aa (C.o.trans (y.mono C.o.size));clear y;go_wp2_with fail;go_roundw
   ·exact ⟨k+1,by omega,by go_num,rfl,J.o⟩
   ·simp [intOf];omega
  ·obtain rfl:k=n:=ao;have C:=aa v;clear v;go_wp2_with fail;go_ret2;exact ⟨rfl,C.o⟩
theorem cL {w:N5} {base n g c:Nat} {xs:N1} {e:N6} (h:w.ownsRow base e 1 (.slice (some (aq g 0)) n c) n (az .i64 xs)) {k:Nat} (hk:k<n):w.cell? (aq g k)=some (H8 (nth xs k)):=by
 rw [h.cellAt k ao];have:=h.1;rw [aS] at this;exact nV .i64 xs k ao
theorem fT {w:N5} {base n:Nat} {v:Value} {xs:N1} {e:N6} (h:w.ownsRow base e 1 v n (az .i64 xs)):xs.length=n:=by
 have:=h.1;rw [aS] at this;omega
theorem eD {w:N5} {base n g c:Nat} {xs:N1} {e:N6} (h:w.ownsRow base e 1 (.slice (some (aq g 0)) n c) n (az .i64 xs)) (k:Nat) (v:Int): (w.setCell (aq g k) (H8 v)).ownsRow base e 1 (.slice (some (aq g 0)) n c) n (az .i64 (xs.set k v)):=by
 have:=(h.stored k (H8 v)).1
 rwa [Br] at this
theorem xW (A:N0) (xs:N1) (c:Nat) (a q:Int) (w:N5) (hA:Rd w A (az .i64 xs)) (hm:xs.length<=17592186043904) (wx:W64 xs) (ha: -9223372036854775808<=a/\a<=9223372036854775807):Calls prog 248 #[.slice A xs.length c,H8 a,H8 q] w λe L=>∃Q N,e=.returned (.slice Q xs.length N)/\L.ownsRow w.heap.size 2 1 (.slice Q xs.length N) xs.length (az .i64 (nD xs a q))/\ap w L:=by
 have D:=cT A xs c w hA hm;have y:=fY xs (λk=>gE (nth xs k) a q);obtain ⟨n,hn⟩:∃n,xs.length=n:=⟨_,rfl⟩;rw [hn] at D hm;unfold nD;rw [<-y,hn];obtain ⟨Hc,WX,Hn⟩:=ae D wx hn;clear D wx hA y hn;go_enter func248,ntmps248;go_wp2_with fail;refine Hc.o.mono ?_;rintro e w1 ⟨Q,N,rfl,_,h,hb⟩;obtain ⟨HO,HB⟩:=ab h hb;clear h hb;go_wp2_with fail
 go_loopw [14] (λi wr=>∃k:Nat,k<=n/\i=H8 k/\wr.ownsRow w.heap.size 2 1 (.slice Q n N) n (az .i64 (gS xs k (λk=>gE (nth xs k) a q)))/\ap w wr) (λi _=>n-(intOf i).toNat)
 ·exact ⟨0,Gc _,rfl,by rw [fu];exact HO.o,HB.o⟩
 case round=>
  obtain ⟨k,hk,rfl,h,O⟩:=hrel;by_cases B:k<n
  ·obtain ⟨g,d,hv,hg,a0⟩:=h.form ao;simp only [GT] at hv;obtain ⟨rfl,Y,rfl⟩:=hv;clear Y;have x:k<xs.length:=by rw [Hn.o];exact B
   have p1:=cL h B;rw [eQ _ x,if_neg ao] at p1;have J:=λL=>oJ (nth xs k) a q L (WX.o k x) ha;have I:=fX (l:=xs) (k:=k) (λk=>gE (nth xs k) a q) x;obtain ⟨Hm,R,C,T⟩:=af J O h I;clear J O h I x;go_wp2_with fail;refine (Hm.o _).mono ?_;rintro e w3 ⟨rfl,H⟩;have v:=aA C.o H;have Z:∃u,w3.cell? (aq g k)=some u:=⟨_,cL v B⟩;obtain ⟨u3,Z⟩:=Z;have f3:=v.frozenAt k;obtain ⟨V,U⟩:=ab (eD v k (gE (nth xs k) a q)) ((R.o.trans (H.mono R.o.size)).setCell (p:=(aq g k)) hg (H8 (gE (nth xs k) a q)));clear H v;go_wp2_with fail;go_roundw
   ·exact ⟨k+1,by omega,by go_num,by rw [<-T.o];exact V.o,U.o⟩
   ·simp [intOf];omega
  ·obtain rfl:k=n:=ao;obtain ⟨R,C⟩:=ab O h;clear O h;go_wp2_with fail;go_ret;exact ⟨_,_,rfl,C.o,R.o⟩
theorem rG (base:Nat) (A B:N0) (xs u:N1) (n c d:Nat) (w:N5) (h:w.ownsRow base 2 1 (.slice A n c) n (az .i64 xs)) (hB:Rd w B (az .i64 u)) (hl:u.length=n) (hm:n<=17592186043904) (D:∀a b,A=some a->B=some b->a.block≠b.block):Calls prog 52 #[.slice A n c,.slice B n d] w λe Q=>e=.returned (.bool true)/\Q.ownsRow base 2 1 (.slice A n c) n (az .i64 (ij xs u))/\Keep (λi=>(Value.slice A n c).ownBlock=some i) w Q:=by
 have v:=fT h;have p:=fY xs (λk=>wrap64 (nth xs k+nth u k));unfold ij;rw [<-p,v];obtain ⟨HO,V,Hn,Y,HN⟩:=ag h hB v hl D;clear h hB v hl p D;go_enter func52,ntmps52;go_wp2_with fail
 go_loopw [13] (λi wr=>∃k:Nat,k<=n/\i=H8 k/\wr.ownsRow base 2 1 (.slice A n c) n (az .i64 (gS xs k (λk=>wrap64 (nth xs k+nth u k))))/\Keep (λi=>(Value.slice A n c).ownBlock=some i) w wr) (λi _=>n-(intOf i).toNat)
 ·exact ⟨0,Gc _,rfl,by rw [fu];exact HO.o,Keep.refl _ _⟩
 case round=>
  obtain ⟨k,hk,rfl,h,I⟩:=hrel;by_cases x:k<n
  ·obtain ⟨g,e,U,hg,a0⟩:=h.form ao;simp only [GT] at U;obtain ⟨rfl,L,rfl⟩:=U;clear L;have C:k<xs.length:=by rw [Hn.o];exact x
   have p1:=cL h x;rw [eQ _ C,if_neg ao] at p1;have f1:=h.frozenAt k;obtain ⟨R,Z,rfl,T⟩:=V.o.num (show k<u.length by rw [Y.o];exact x);have O:g≠R:=HN.o _ _ rfl rfl;have p2:wr.cell? (aq R (Z+k))=some (H8 (nth u k)):=I.cell T (by simp [Value.ownBlock];exact O);have H:=fX (l:=xs) (k:=k) (λk=>wrap64 (nth xs k+nth u k)) C;obtain ⟨N,y,J⟩:=ae I h H;clear I h H C T;go_wp2_with fail
   go_region
   all_goals go_wp2_with fail
   all_goals
    go_roundw
    case rel=>
     refine ⟨k+1,by omega,by go_num,?_,?_⟩
     ·rw [<-J.o];exact eD (bW y.o 1) k _
     ·exact Keep.setCell (N.o.drewN 1) (aq g k) (.inr rfl) _
    case measure=>simp [intOf];omega
  ·obtain rfl:k=n:=ao;obtain ⟨N,y⟩:=ab I h;clear I h;go_wp2_with fail;go_ret;exact ⟨rfl,y.o,N.o⟩
theorem pT (r c:Int) (w:N5) (hr:1<=r/\r<=1048576) (hc:1<=c/\c<=1048576):Calls prog 250 #[H8 r,H8 c] w λe h=>e=.returned (.bool true)/\w=h:=by
 obtain ⟨p,i⟩:=hr;obtain ⟨u,o⟩:=hc;go_enter func250,ntmps250;go_wp2;go_ret;exact ⟨cB (by simp [*]),rfl⟩
theorem jN (r c:Nat) (A:N0) (n d:Nat) (w:N5) (hr:1<=r/\r<=1048576) (hc:1<=c/\c<=1048576) (hn:n=r*c) (hm:n<=17592186043904):Calls prog 241 #[.agg #[H8 r,H8 c,.slice A n d]] w λe i=>e=.returned (.bool true)/\i=w.alloc (.cells #[H8 r,H8 c,.slice A n d] 344):=by
 have p:=λi=>pT r c i ao ao;have h:(r:Int)*(c:Int)=(n:Int):=by rw [hn];simp
 have v:0<=(r:Int)*(c:Int)/\(r:Int)*(c:Int)<=17592186043904:=ao;have B:((n:Int)==IntKind.i64.wrap ((r:Int)*(c:Int)))=true:=by rw [Gd _ ao,h];simp
 have x:((n:Int)==(r:Int)*(c:Int))=true:=by rw [h];simp
 have u:=aa p;clear p h hn;go_enter func241,ntmps241;go_wp2_with fail;refine (u.o _).mono ?_;rintro e y ⟨rfl,rfl⟩;go_wp2_with fail
 all_goals
  go_ret;exact ⟨cB (by first | rfl | simp [*]),rfl⟩
theorem ER (r c:Nat) (A:N0) (zs:N1) (d:Nat) (w:N5) (hr:1<=r/\r<=1048576) (hc:1<=c/\c<=1048576) (hn:zs.length=r*c) (hm:zs.length<=17592186043904) (N:Rd w A (az .i64 zs)):Calls prog 231 #[H8 r,H8 c,.slice A zs.length d] w λe x=>∃y u,e=.returned (.tuple #[.agg #[H8 r,H8 c,.slice y zs.length u],.bool true])/\zs.length<=u/\x.ownsRow w.heap.size 2 1 (.slice y zs.length u) zs.length (az .i64 zs)/\ap w x:=by
 have B:=λx (k:ap w x)=>cT A zs d x (N.below k) hm;obtain ⟨n,H⟩:∃n,zs.length=n:=⟨_,rfl⟩;rw [H] at B hn hm ⊢;have D:=λy u x=>jN r c y n u x hr hc hn hm;obtain ⟨Q,T⟩:=ab B D;clear B D H N hn;go_enter func231,ntmps231;go_wp2_with fail;refine (Q.o _ ?_).mono ?_
 ·exact am
 rintro e L ⟨y,u,rfl,J,h,hb⟩;have p:=(hb.block w.heap.size (by simp)).trans (F4 w _);obtain ⟨⟨R,O,V⟩,rf⟩:=bx3 p;have I:w.heap.size<L.heap.size:=F1 p;obtain ⟨HO,Y,U,C⟩:=af (aG h (base':=w.heap.size) (by simp)) J (Below.trans ((Gb _ w).alloc (F3 _) _) (hb.mono (by simp))) h;clear h J hb p;go_wp2_with fail;refine (T.o _ _ _).mono ?_;rintro e w2 ⟨rfl,rfl⟩;go_wp2_with fail;refine Gm (v:=.tuple #[.agg #[H8 r,H8 c,.slice y n u],.bool true]) (by simp [results,results231,go_sem,R,O,V,I]) rfl ⟨y,u,rfl,Y.o,?_,?_⟩
 ·refine aG (Keep.own (S:=λi=>i=w.heap.size) (w:=L) ?_ C.o (λk hk e=>by have:=(C.o.lt k hk).1;simp at this;omega)) (by simp)
  (focus (repeat' (first | (with_reducible exact Keep.refl _ _) | (with_reducible assumption) | (with_reducible refine Keep.setCell ?_ _ ?_ _) | (with_reducible refine Keep.alloc ?_ _) | (with_reducible refine Keep.drewN ?_ _) | (with_reducible refine Keep.drew ?_) | (with_reducible exact Or.inr (fE _ _)) | (with_reducible exact Or.inr (fD _ _)) | (refine Or.inr ?_;first | rfl | (simp;done) | omega) | (refine Or.inl ?_;first | omega | (simp;done) | (simp;omega)))))
 ·have Z:=U.o;exact am
theorem Dy (r c k:Nat) (g o n d:Nat) (w:N5) (hr:r<=1048576) (hc:1<=c/\c<=1048576) (hk:k<r) (hn:n=r*c) (B:n<=d):Calls prog 256 #[.agg #[H8 r,H8 c,.slice (some (aq g o)) n d],H8 k] w λe u=>e=.returned (.slice (some (aq g (o+k*c))) c c)/\ap w u:=by
 have x:k*c+c<=n:=by rw [hn];have:=HU c (show k+1<=r by omega);rw [GW] at this;exact this
 have v:k*c<=1048576*1048576:=Nat.mul_le_mul ao ao;have i:(k:Int)*(c:Int)=((k*c:Nat):Int):=(Int.natCast_mul k c).symm;have A:((k:Int)+1)*(c:Int)=((k*c+c:Nat):Int):=by rw [Int.add_mul,i];simp
 obtain ⟨p,h⟩:∃p,k*c=p:=⟨_,rfl⟩;rw [h] at x v i A ⊢;clear h hn;go_enter func256,ntmps256;go_wp2_with fail
 go_quiet (fail)
 have y:¬(p+c=p):=ao;go_wp2;rw [show p+c-p=c by omega];go_ret;refine ⟨rfl,?_⟩;exact am
theorem nF (h:N2) (w:N5):Calls prog 246 #[.agg h] w λe i=>e=.returned (.func (.func 255) #[] #[(ar w.heap.size)])/\i=w.alloc (.cells h 344):=by
 go_enter func246,ntmps246;go_wp2;go_ret;exact ⟨rfl,rfl⟩
end Go.Proofs.YtindmkcnjlgomaaGreat
namespace Go.Proofs.YtindmkcnjlgomaaGreat
open Go.RowKit Go.Shelf
open Tryz
theorem iV {w i:N5} (h:ap w i):w.grownBy i none:=⟨h.os,h.tape,h.output,h.size,λk hk _=>h.block k hk⟩
theorem ez {β:Type} (B b:Nat) (o:Obj) (p:o.isCells=true):OwnFrom B (λ(_:β) W=>W.heap[b]?=some o):=λ_ W v row i u hr=> (u.block b (F1 i) λe=>by
  obtain ⟨x,h,hc⟩:=(hr b e.symm).2;rw [i] at h
  cases h
  rw [p] at hc
  cases hc).trans i
theorem jW {F:Fence} {m:Nat} {P:Program} {t e:N6} {z:Value} {size p:Nat} (T:cW P t e z size p) (W:N5) {ops:N9} {rest:List Oper} {o:Oper} {a:Na} {Q:Exit->Na->N5->Prop} (L:o.guard=none) (s x:Operand) (ho:o.op=.call {callee:=.builtin .append,args:=#[s,x],argTypes:=#[t,t]}) (n₀ B:Nat) (v:Value) (n:Nat) (xs:N4) (hs:a.eval s=v) (hbx:Boxed W B t v) (hte:t≠e) (hown:W.ownsRow n₀ e size v n xs) (us:N4) (hx:a.eval x=.slice (some (aq W.heap.size 0)) 1 1) (hus:us.length=size) (R:∀u∈us,u.oneCell'=true) (hb:(n+1)*p<=140737488355328) (h63:n+1<=maxLen) (hbase:n₀<=W.heap.size) (hB:n₀<=B) (h:∀g c y,Boxed y B t v->Boxed (y.setCell (aq B 0) (.slice (some (aq g 0)) (n+1) c)) B t (.slice (some (aq g 0)) (n+1) c)-> (y.setCell (aq B 0) (.slice (some (aq g 0)) (n+1) c)).ownsRow n₀ e size (.slice (some (aq g 0)) (n+1) c) (n+1) (xs++us)->
   KeepsOthers W (y.setCell (aq B 0) (.slice (some (aq g 0)) (n+1) c))->Below n₀ W (y.setCell (aq B 0) (.slice (some (aq g 0)) (n+1) c))->
   (∀b H C I,b≠B->C≠e->W.heap[b]?=some (.cells H C I)->(y.setCell (aq B 0) (.slice (some (aq g 0)) (n+1) c)).heap[b]?=some (.cells H C I))->
   wpListIn F m P ops Q rest (a.put o.dst (.slice (some (aq g 0)) (n+1) c)) y):wpListIn F m P ops Q (o::rest) a (W.alloc (.cells us.toArray e)):=by
 obtain ⟨i,hi,N,U,V⟩:=T.info
 refine wpListIn_append_own (W.alloc (.cells us.toArray e)) L s x t ho n₀ e i z size p T.und hi N U V T.zs T.pos v n xs hs (hown.alloc _) (aq W.heap.size 0) 1 1 us hx (by simpa using hus) ?_ R h63 hb
  (by simp;omega) ?_
 ·intro j u hu;rw [Addr.add_lit,GY,Ga _ W.heap.size j us.toArray e (0,0) (F4 W _)];simpa using hu
 ·intro v' y A Z _;obtain ⟨g,c,rfl⟩:=ownsRow_succ A;obtain ⟨k1,k2,k3,k4,k5⟩:=hbx.appended hte hown hbase hB A Z;refine h g c y k1 k2 k3 k4 k5 λb H C I Y D J=>?_;have O:(W.alloc (.cells us.toArray e)).heap[b]?=some (.cells H C I):=(Gk W _ b (F1 J)).trans J;have R:y.heap[b]?=some (.cells H C I):=(Z.block b (F1 O) (aw O D (hown.alloc _))).trans O;exact (Below.heap_setCell y _ _ b (λe=>Y e)).trans R
theorem sD {W u:N5} {B base:Nat} {e:N6} {size n:Nat} {v:Value} {xs:N4} {row:Option Nat} (h:W.ownsRow base e size v n xs) (y:W.grownBy u row) (hr:∀r,row=some r->B<=r/\∃o:Obj,W.heap[r]?=some o/\o.isCells=false):u.ownsRow base e size v n xs:=by
 refine h.kept y ?_;rcases h.2 with ⟨rfl,_⟩ | ⟨g,cap,x,rfl,_,i,_⟩
 ·exact .inl rfl
 ·refine .inr λA=>?_;obtain ⟨o,p,hc⟩:=(hr g (by simpa [Value.ownBlock] using A.symm)).2;rw [i] at p;cases p;cases hc
theorem cV {W p:N5} {B b:Nat} {o:Obj} (u:o.isCells=true) {row:Option Nat} (h:W.heap[b]?=some o) (v:W.grownBy p row) (hr:∀r,row=some r->B<=r/\∃o:Obj,W.heap[r]?=some o/\o.isCells=false):p.heap[b]?=some o:= (v.block b (F1 h) λe=>by
  obtain ⟨x,i,hc⟩:=(hr b e.symm).2;rw [h] at i
  cases i
  rw [u] at hc
  cases hc).trans h
theorem jv {S:Nat->Prop} {W p:N5} (h:Keep S W p) (u:∀k o,S k->W.heap[k]?=some o->o.isCells=true):KeepsOthers W p:=
 ⟨h.size,λk o hk i=>(h.block k (F1 hk) λv=>by rw [u k o v hk] at i;cases i).trans hk⟩
theorem rM {F:Fence} {m:Nat} {P:Program} {t e:N6} {z:Value} {h:Nat} (T:cW P t e z 1 h) (w:N5) {ops:N9} {rest:List Oper} {o:Oper} {a:Na} {Q:Exit->Na->N5->Prop} (O:o.guard=none) (l c:Operand) (p:o.op=Op.makeSlice t l c) (H:z.cells=#[z]) (n:Nat) (hl:a.eval l=H8 (n:Int)) (hc:a.eval c=H8 (n:Int)) (L:h*n<=281474976710656) (N:n<=maxLen) (J:∀x,x.ownsRow w.heap.size e 1 (.slice (some (aq w.heap.size 0)) n n) n (List.replicate n z)->Below (w.heap.size) w x->
   wpListIn F m P ops Q rest (a.put o.dst (.slice (some (aq w.heap.size 0)) n n)) x):wpListIn F m P ops Q (o::rest) a w:=by
 obtain ⟨i,R,C,D,y⟩:=T.info;refine wpListIn_plain O λK A=>?_;obtain ⟨x,v,I,u⟩:=run_make_full (P:=P) w w.heap.size t e i z 1 T.und R C D .i64 .i64 n (by rw [y];exact L) N (F3 _);rw [H,Nat.mul_one,toList_madeCells_one] at I;unfold Oper.wpIn;refine ⟨by simp [Oper.about,p],?_⟩;rw [Oper.semAt_plain F _ _ (by rw [p];intro c B;cases B)];simp [execOp,p,hl,hc,v,Result.andThen];exact A _ _ (J x I ⟨u.os,u.tape,u.output,u.size,λk hk=>u.block k hk (by simp)⟩)
end Go.Proofs.YtindmkcnjlgomaaGreat
