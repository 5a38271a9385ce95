/- No condition. -/
import Derived.Test.YtindmkcnjlgomaaGreatQ00
import Derived.WalkKit
import Derived.Lib.Hide
import Derived.Deep.Draws
import Derived.Deep.AppendLies
import Derived.Maps.AppendAt
import Derived.WalkSmall
import Derived.RowKit
import Derived.StillTail
import Derived.OrdersHeld
import Derived.Deep.RegionHeld
import Derived.ProofKit
import Derived.OpenShut
import Derived.Deep.Slices
import Derived.Test.YtindmkcnjlgomaaGreatProg
import Derived.WalkSpells
import Derived.BigQuiet
import Derived.Deep.QuietTactic
import Derived.RegionTactic
set_option linter.unusedSimpArgs false
set_option linter.unusedVariables false
set_option maxRecDepth 100000
set_option maxHeartbeats 4000000
namespace Go.Proofs.YtindmkcnjlgomaaGreat
open Go.RowKit
open Tryz
def nth (l:Q_) (k:Nat):Int:=l.getD k 0
theorem dB (l:Q_) (k:Nat) (h:k<l.length):nth l k=l[k]:=by simp [nth,List.getD,h]
theorem bj {k:IntKind} {a b:Int} (h:a=b):Ending.returned (.int k a)=.returned (.int k b):=by rw [h]
theorem cP {a b:Bool} (h:a=b):Ending.returned (.bool a)=.returned (.bool b):=by rw [h]
def aA (q:IntKind) (zs:Q_):R7:=zs.map (.int q)
theorem bU (q:IntKind) (zs:Q_):(aA q zs).length=zs.length:=by simp [aA]
theorem db (q:IntKind) (a b:Q_):aA q (a++b)=aA q a++aA q b:=by simp [aA]
theorem nK (q:IntKind) (zs:Q_) (k:Nat) (h:k<zs.length):(aA q zs)[k]?=some (.int q (nth zs k)):=by
 simp [aA,dB zs k h,h]
theorem AQ (q:IntKind) (zs:Q_) (k:Nat) (a:Int):(aA q zs).set k (.int q a)=aA q (zs.set k a):=by simp [aA,List.map_set]
theorem cH (q:IntKind) (zs:Q_):∀u∈aA q zs,u.oneCell'=true:=ints_oneCell q zs
theorem dE (q:IntKind) (zs:Q_) (n:Nat):(aA q zs).take n=aA q (zs.take n):=by simp [aA,List.map_take]
theorem dL (q:IntKind) (zs:Q_) (n:Nat):(aA q zs).drop n=aA q (zs.drop n):=by simp [aA,List.map_drop]
theorem fI (q:IntKind) (n:Nat) (a:Int):List.replicate n (Value.int q a)=aA q (List.replicate n a):=by simp [aA]
def Rd (w:R8) (A:N_) (xs:R7):Prop:=
 ∀k u,xs[k]?=some u->∃b o,A=some (ar b o)/\w.cell? (ar b (o+k))=some u
theorem aB {w:R8} {a:Addr} {u:Value} (h:w.cell? a=some u):a.block<w.heap.size:=World.block_lt_of_cell? w a h
theorem Rd.nil (w:R8) (A:N_):Rd w A []:=λk u h=>by simp at h
theorem Rd.num {w:R8} {A:N_} {q:IntKind} {zs:Q_} (h:Rd w A (aA q zs)) {k:Nat} (hk:k<zs.length):
  ∃b o,A=some (ar b o)/\w.cell? (ar b (o+k))=some (.int q (nth zs k)):=h k _ (nK q zs k hk)
theorem Rd.same {w i:R8} {A:N_} {xs:R7} (h:Rd w A xs) (hb:∀b,b<w.heap.size->i.heap[b]?=w.heap[b]?):Rd i A xs:=λk u p=>by
 obtain ⟨b,o,hA,hc⟩:=h k u p;exact ⟨b,o,hA,(World.cell?_of_block (w:=w) (hb _ (aB hc))).trans hc⟩
theorem Rd.below {w i:R8} {A:N_} {xs:R7} (h:Rd w A xs) (hb:aq w i):Rd i A xs:=h.same hb.block
theorem Rd.alloc {w:R8} {A:N_} {xs:R7} (h:Rd w A xs) (o:Obj):Rd (w.alloc o) A xs:=h.same λb hb=>QL w o b hb
theorem Rd.drew {w:R8} {A:N_} {xs:R7} (h:Rd w A xs):Rd w.drew A xs:=h
theorem Rd.drewN {w:R8} {A:N_} {xs:R7} (h:Rd w A xs) (n:Nat):Rd (w.drewN n) A xs:=h
theorem Rd.belowB {B:Nat} {w v:R8} {A:N_} {xs:R7} (h:Rd w A xs) (hb:Below B w v) (hA:∀a,A=some a->a.block<B):Rd v A xs:=λk u x=>by
 obtain ⟨b,o,i,hc⟩:=h k u x;exact ⟨b,o,i,(hb.cell (p:=(ar b (o+k))) (show b<B from hA _ i)).trans hc⟩
theorem Rd.own {w:R8} {base:Nat} {e:R9} {size n c:Nat} {A:N_} {xs:R7} (h:w.ownsRow base e size (.slice A n c) n xs):Rd w A xs:=λk u p=>by
 have hk:k<xs.length:=(Ri.1 p).1;rcases h.2 with ⟨_,y⟩ | ⟨g,cap,v,o,_,hg,_,_,_,i⟩
 .have:=h.1;rw [y] at this;omega
 .simp only [Rv] at o;obtain ⟨rfl,_,rfl⟩:=o;refine ⟨g,0,rfl,?_⟩;have x:=h.cellAt k (by have:=h.1;omega);rw [RB,x,p]
theorem Rd.take {w:R8} {A:N_} {xs:R7} (h:Rd w A xs) (n:Nat):Rd w A (xs.take n):=λk u i=>by
 rw [List.getElem?_take] at i
 split at i
 .exact h k u i
 .cases i
theorem Rd.drop {w:R8} {b o:Nat} {xs:R7} (h:Rd w (some (ar b o)) xs) (n:Nat):Rd w (some (ar b (o+n))) (xs.drop n):=λk u i=>by
 rw [List.getElem?_drop] at i;obtain ⟨p,v,e,hc⟩:=h _ _ i;injection e with e
 injection e with e1 e2 _
 subst e1;subst e2;exact ⟨b,o+n,rfl,by rw [Rz];exact hc⟩
theorem dV (w:R8) (xs:R7) (e:R9) (n:Nat) (hn:w.heap.size=n):Rd (w.alloc (.cells xs.toArray e)) (some (ar n 0)) xs:=λk u h=>by
 subst hn;refine ⟨_,_,rfl,?_⟩;rw [RB,Qz _ w.heap.size k xs.toArray e (0,0) (Qy w _)];simpa using h
theorem aD {w:R8} {base:Nat} {e:R9} {size:Nat} {v:Value} {n:Nat} {xs:R7} (h:w.ownsRow base e size v n xs):∃A c,v=.slice A n c/\n<=c:=by
 rcases h.2 with ⟨rfl,rfl⟩ | ⟨g,cap,i,rfl,_,_,hc,_⟩
 .exact ⟨none,0,rfl,Qx _⟩
 .exact ⟨_,_,rfl,hc⟩
theorem az {w i:R8} {base:Nat} {e:R9} {size:Nat} {v:Value} {n:Nat} {xs:R7} (h:w.ownsRow base e size v n xs) (hb:aq w i):i.ownsRow base e size v n xs:=
 h.kept (row:=none) ⟨hb.os,hb.tape,hb.output,hb.size,λk hk _=>hb.block k hk⟩ (by cases hv:v.ownBlock<;>simp)
theorem bZ {w:R8} {base:Nat} {e:R9} {size:Nat} {v:Value} {n:Nat} {xs:R7} (h:w.ownsRow base e size v n xs) (m:Nat):(w.drewN m).ownsRow base e size v n xs:=h
theorem aF {w:R8} {base base':Nat} {e:R9} {size:Nat} {v:Value} {n:Nat} {xs:R7} (h:w.ownsRow base e size v n xs) (hb:base'<=base):w.ownsRow base' e size v n xs:=by
 refine ⟨h.1,?_⟩;rcases h.2 with p | ⟨g,cap,i,o,hg,r⟩
 .exact .inl p
 .exact .inr ⟨g,cap,i,o,QD hb hg,r⟩
structure Keep (S:Nat->Prop) (w w':R8):Prop where
 os:w'.os=w.os
 tape:w'.tape=w.tape
 output:w'.output=w.output
 size:w.heap.size<=w'.heap.size
 block:∀k,k<w.heap.size->¬S k->w'.heap[k]?=w.heap[k]?
theorem Keep.refl (S:Nat->Prop) (w:R8):Keep S w w:=⟨rfl,rfl,rfl,Qx _,λ_ _ _=>rfl⟩
theorem Keep.trans {S:Nat->Prop} {a b c:R8} (h:Keep S a b) (k:Keep S b c):Keep S a c:=
 ⟨k.os.trans h.os,k.tape.trans h.tape,k.output.trans h.output,QD h.size k.size,λi o hn=>(k.block i (QE o h.size) hn).trans (h.block i o hn)⟩
theorem Keep.below {S:Nat->Prop} {w i:R8} (h:aq w i):Keep S w i:=⟨h.os,h.tape,h.output,h.size,λk hk _=>h.block k hk⟩
theorem Keep.mono {S S':Nat->Prop} {w i:R8} (h:Keep S w i) (hs:∀k,k<w.heap.size->S k->S' k):Keep S' w i:=⟨h.os,h.tape,h.output,h.size,λk hk hn=>h.block k hk λo=>hn (hs k hk o)⟩
theorem Keep.drewN {S:Nat->Prop} {a w:R8} (h:Keep S a w) (n:Nat):Keep S a (w.drewN n):=⟨h.os,h.tape,h.output,h.size,h.block⟩
theorem Keep.drew {S:Nat->Prop} {a w:R8} (h:Keep S a w):Keep S a w.drew:=⟨h.os,h.tape,h.output,h.size,h.block⟩
theorem Keep.alloc {S:Nat->Prop} {a w:R8} (h:Keep S a w) (o:Obj):Keep S a (w.alloc o):=h.trans (Keep.below ((QA _ w).alloc (Qx _) o))
theorem Keep.setCell {S:Nat->Prop} {a w:R8} (h:Keep S a w) (p:Addr) (i:a.heap.size<=p.block\/S p.block) (u:Value):Keep S a (w.setCell p u):=
 ⟨h.os,h.tape,h.output,by simp [World.setCell];exact h.size,λk hk hn=>(Below.heap_setCell w p u k (λe=>by subst e;rcases i with i | i<;>first | omega | exact hn i)).trans (h.block k hk hn)⟩
theorem Keep.grown {S:Nat->Prop} {a w i:R8} (h:Keep S a w) {row:Option Nat} (hg:w.grownBy i row) (hr:∀k,row=some k->a.heap.size<=k\/S k):Keep S a i:=
 ⟨hg.os.trans h.os,hg.tape.trans h.tape,hg.output.trans h.output,QD h.size hg.size,λk hk hn=>
  (hg.block k (QE hk h.size) λe=>by
   rcases hr k e.symm with h1 | h1
   .omega
   .exact hn h1).trans (h.block k hk hn)⟩
theorem Keep.toBelow {S:Nat->Prop} {B:Nat} {w i:R8} (h:Keep S w i) (hB:B<=w.heap.size) (o:∀k,S k->B<=k):Below B w i:=
 ⟨h.os,h.tape,h.output,h.size,λk hk=>h.block k ap λhs=>by have:=o k hs;omega⟩
theorem Keep.cell {S:Nat->Prop} {w i:R8} (h:Keep S w i) {p:Addr} {u:Value} (hc:w.cell? p=some u) (o:¬S p.block):i.cell? p=some u:= (World.cell?_of_block (w:=w) (h.block _ (aB hc) o)).trans hc
theorem Keep.rd {S:Nat->Prop} {w p:R8} (h:Keep S w p) {A:N_} {xs:R7} (hr:Rd w A xs) (hA:∀a,A=some a->¬S a.block):Rd p A xs:=λk u v=>by
 obtain ⟨b,o,i,hc⟩:=hr k u v;exact ⟨b,o,i,h.cell hc (show ¬S b from hA _ i)⟩
theorem Keep.own {S:Nat->Prop} {w u:R8} (h:Keep S w u) {base:Nat} {e:R9} {size:Nat} {v:Value} {n:Nat} {xs:R7} (p:w.ownsRow base e size v n xs) (y:∀k,v.ownBlock=some k->¬S k):u.ownsRow base e size v n xs:=by
 refine ⟨p.1,?_⟩;rcases p.2 with x | ⟨g,cap,o,rfl,hg,i,r⟩
 .exact .inl x
 .exact .inr ⟨g,cap,o,rfl,hg,(h.block g (Qw i) (y g rfl)).trans i,r⟩
structure dN (P:Program) (t e:R9) (z:Value) (size bytes:Nat):Prop where
 und:P.underlying t=some (.slice e)
 info:∃i,P.info? e=some i/\i.zero=some z/\i.size=size/\i.bytes=bytes
 zs:z.cells.size=size
 pos:0<size
theorem aX {P:Program} {t e:R9} {z:Value} {size p:Nat} (T:dN P t e z size p) (w:R8) {ops:T0} {rest:List Oper} {o:Oper} {a:T1} {Q:Exit->T1->R8->Prop} (D:o.guard=none) (s x:Operand) (J:o.op=.call {callee:=.builtin .append,args:=#[s,x],argTypes:=#[t,t]}) (base:Nat) (v:Value) (n:Nat) (xs:R7) (hs:a.eval s=v) (hown:w.ownsRow base e size v n xs) (us:R7) (hx:a.eval x=.slice (some (ar w.heap.size 0)) 1 1) (hus:us.length=size) (h1:∀u∈us,u.oneCell'=true) (hb:(n+1)*p<=140737488355328) (h63:n+1<=maxLen) (hbase:base<=w.heap.size) (h:∀g c A,A.ownsRow base e size (.slice (some (ar g 0)) (n+1) c) (n+1) (xs++us)->Below base w A->w.grownBy A v.ownBlock->
   wpList P ops Q rest (a.put o.dst (.slice (some (ar g 0)) (n+1) c)) A):wpList P ops Q (o::rest) a (w.alloc (.cells us.toArray e)):=by
 obtain ⟨i,O,H,I,C⟩:=T.info
 refine wpList_append_own (w.alloc (.cells us.toArray e)) D s x t J base e i z size p T.und O H I C T.zs T.pos v n xs hs (hown.alloc _) (ar w.heap.size 0) 1 1 us hx (by simpa using hus) ?_ h1 h63 hb
  (by simp;omega) ?_
 .intro j u N;rw [Addr.add_lit,RB,Qz _ w.heap.size j us.toArray e (0,0) (Qy w _)];simpa using N
 .intro v' A y hg _;obtain ⟨g,c,rfl,L,_⟩:=y.form ap;have B:w.grownBy A v.ownBlock:=(World.grownBy_alloc w _ _).trans hg;exact h g c A y ((QA base w).grown B hbase λk hk=>(hown.lt k hk).1) B
theorem qb {P:Program} {t e:R9} {z:Value} {size h:Nat} (T:dN P t e z size h) (w:R8) (base:Nat) (y:R9) (v:Value) (n:Nat) (xs:R7) (o:w.ownsRow base e size v n xs) (c:Nat): (Builtin.append_ #[t,t] y #[v,.slice none 0 c]).run P w=.ok v w:=by
 obtain ⟨i,u,_,_,_⟩:=T.info;rcases o.2 with ⟨rfl,rfl⟩ | ⟨g,cap,x,rfl,_,_,p,_⟩
 .simp [Builtin.append_,run_underlying T.und,sizeOf,typeInfo,u,Builtin.lenOf,Builtin.firstCells]
 .simp [Builtin.append_,run_underlying T.und,sizeOf,typeInfo,u,Builtin.lenOf,Builtin.firstCells,p,storeCells]
theorem Ej {P:Program} {t e:R9} {z:Value} {size p:Nat} (T:dN P t e z size p) (w:R8) (base:Nat) (O:R9) (v:Value) (n:Nat) (xs:R7) (x:w.ownsRow base e size v n xs) (A:N_) (m c:Nat) (B:R7) (hr:Rd w A B) (D:B.length=m*size) (h1:∀u∈B,u.oneCell'=true) (hb:(n+m)*p<=140737488355328) (L:n+m<=maxLen) (y:base<=w.heap.size):
  ∃v' C,(Builtin.append_ #[t,t] O #[v,.slice A m c]).run P w=.ok v' C/\C.ownsRow base e size v' (n+m) (xs++B)/\Below base w C/\w.grownBy C v.ownBlock/\(v'.ownBlock=v.ownBlock\/v'.ownBlock=some w.heap.size):=by
 cases A with
 | none=>
  have hm:B=[]:=by
   cases B with
   | nil=>rfl
   | cons u l=>obtain ⟨b,o,h,_⟩:=hr 0 u rfl;cases h
  subst hm
  have J:m=0:=by
   have:=T.pos;rcases Nat.eq_zero_or_pos m with h | h
   .exact h
   .have:=Nat.mul_pos h this;simp at D;omega
  subst J;exact ⟨v,w,qb T w base O v n xs x c,by simpa using x,QA _ _,World.grownBy.refl _ _,.inl rfl⟩
 | some ad=>
  obtain ⟨i,Y,H,I,N⟩:=T.info
  have hc:∀j u,B[j]?=some u->w.cell? (ad.add j)=some u:=λj u V=>by
   obtain ⟨b,o,e,h⟩:=hr j u V;injection e with e
   subst e;rw [Addr.add_lit];exact h
  obtain ⟨v',C,hr,R,Q,Z,U⟩:=run_append_own_at (P:=P) w base t O e i z size p T.und Y H I N T.zs T.pos v n xs x ad m c B D hc h1 L hb y;exact ⟨v',C,hr,R,(QA base w).grown Q y λk hk=>(x.lt k hk).1,Q,U⟩
theorem dK {P:Program} {t e:R9} {z:Value} {size i:Nat} (T:dN P t e z size i) (w:R8) {ops:T0} {rest:List Oper} {o:Oper} {a:T1} {Q:Exit->T1->R8->Prop} (D:o.guard=none) (s x:Operand) (J:o.op=.call {callee:=.builtin .append,args:=#[s,x],argTypes:=#[t,t]}) (base:Nat) (v:Value) (n:Nat) (xs:R7) (hs:a.eval s=v) (hown:w.ownsRow base e size v n xs) (A:N_) (m c:Nat) (us:R7) (hx:a.eval x=.slice A m c) (hr:Rd w A us) (hus:us.length=m*size) (h1:∀u∈us,u.oneCell'=true) (hb:(n+m)*i<=140737488355328) (h63:n+m<=maxLen) (hbase:base<=w.heap.size) (h:∀B y p,p.ownsRow base e size (.slice B (n+m) y) (n+m) (xs++us)->Below base w p->w.grownBy p v.ownBlock->((Value.slice B (n+m) y).ownBlock=v.ownBlock\/(Value.slice B (n+m) y).ownBlock=some w.heap.size)->wpList P ops Q rest (a.put o.dst (.slice B (n+m) y)) p):
  wpList P ops Q (o::rest) a w:=by
 refine wpList_plain D λR H=>?_;obtain ⟨v',p,C,I,O,L,N⟩:=Ej T w base o.type v n xs hown A m c us hr hus h1 hb h63 hbase;obtain ⟨B,y,rfl,_⟩:=aD I;unfold Oper.wp;simp [execOp,J,resolve,invoke,builtin,hs,hx,C,Result.andThen];exact H _ _ (h B y p I O L N)
theorem jk {P:Program} {t e:R9} {z:Value} {size i:Nat} (T:dN P t e z size i) {w:R8} {ops:T0} {o:Oper} {a:T1} {K:T1->R8->Prop} {Q:Exit->T1->R8->Prop} {E:Prop} (D:o.guard=none) (s x:Operand) (I:o.op=.call {callee:=.builtin .append,args:=#[s,x],argTypes:=#[t,t]}) (base:Nat) (v:Value) (n:Nat) (xs:R7) (hs:a.eval s=v) (hown:w.ownsRow base e size v n xs) (A:N_) (m c:Nat) (us:R7) (hx:a.eval x=.slice A m c) (hr:Rd w A us) (hus:us.length=m*size) (h1:∀u∈us,u.oneCell'=true) (hb:(n+m)*i<=140737488355328) (h63:n+m<=maxLen) (hbase:base<=w.heap.size) (h:∀B y p,p.ownsRow base e size (.slice B (n+m) y) (n+m) (xs++us)->Below base w p->w.grownBy p v.ownBlock->((Value.slice B (n+m) y).ownBlock=v.ownBlock\/(Value.slice B (n+m) y).ownBlock=some w.heap.size)->K (a.put o.dst (.slice B (n+m) y)) p):
  if Region.wanted o (yielded ops a.tmps)=true then Oper.wp P o a w K Q else E:=by
 have hw:Region.wanted o (yielded ops a.tmps)=true:=by simp [Region.wanted,D]
 rw [if_pos hw];obtain ⟨v',p,C,H,N,J,L⟩:=Ej T w base o.type v n xs hown A m c us hr hus h1 hb h63 hbase;obtain ⟨B,y,rfl,_⟩:=aD H;unfold Oper.wp;simp [execOp,I,resolve,invoke,builtin,hs,hx,C,Result.andThen];exact h B y p H N J L
theorem fh (w:R8) (e:R9) (size:Nat):(w.alloc (.cells #[] e)).ownsRow w.heap.size e size (.slice (some (ar w.heap.size 0)) 0 0) 0 []:=
 World.ownsRow_made w #[] 0 (Qx _) (by unfold maxLen;omega) (by simp)
theorem wH {P:Program} {t e:R9} {z:Value} {h:Nat} (T:dN P t e z 1 h) (w:R8) {ops:T0} {rest:List Oper} {o:Oper} {a:T1} {Q:Exit->T1->R8->Prop} (hg:o.guard=none) (l c:Operand) (C:o.op=Op.makeSlice t l c) (B:z.cells=#[z]) (n:Nat) (hl:a.eval l=RI (n:Int)) (hc:a.eval c=RI (n:Int)) (H:h*n<=281474976710656) (I:n<=maxLen) (D:∀v,v.ownsRow w.heap.size e 1 (.slice (some (ar w.heap.size 0)) n n) n (List.replicate n z)->aq w v->
   wpList P ops Q rest (a.put o.dst (.slice (some (ar w.heap.size 0)) n n)) v):wpList P ops Q (o::rest) a w:=by
 obtain ⟨i,J,y,A,x⟩:=T.info;refine wpList_make_full w hg l c t C w.heap.size e i z 1 T.und J y A .i64 .i64 n n n hl hc rfl rfl (by rw [x];exact H) I (Qx _) ?_;intro v u p;rw [B,Nat.mul_one,toList_madeCells_one] at u;exact D v u ⟨p.os,p.tape,p.output,p.size,λk hk=>p.block k hk (by simp)⟩
def Cs (w:R8) (b:Nat):Nat->R7->Prop
 | _,[]=>True
 | i,v::vs=>w.cell? (ar b i)=some v/\Cs w b (i+1) vs
theorem Oj (w:R8) (b:Nat) (o:R7) (hc:∀j,w.cell? (ar b j)=o[j]?):∀(vs:R7) (i:Nat),(∀j,vs[j]?=o[i+j]?)->Cs w b i vs
 | [],_,_=>trivial
 | v::vs,i,h=>⟨by rw [hc];exact (h 0).symm,Oj w b o hc vs (i+1) λj=>by have:=h (j+1);simpa [Rz,Nat.add_comm 1 j] using this⟩
def Bx (w:R8) (b:Nat) (vs:R7):Prop:=Cs w b 0 vs/\b<w.heap.size/\∀j,w.frozen? (ar b j)=false
theorem bx {w:R8} {b:Nat} {vs:R7} {t:R9} (h:w.heap[b]?=some (.cells vs.toArray t (0,0))):Bx w b vs:=
 ⟨Oj w b vs (λj=>by rw [Qz w b j _ _ _ h];simp) vs 0 (λj=>by simp),Qw h,λj=>QG w b j _ _ h⟩
theorem bx1 {w:R8} {b:Nat} {t:R9} {v0:Value} (h:w.heap[b]?=some (.cells #[v0] t (0,0))):(w.cell? (ar b 0)=some v0)/\∀j,w.frozen? (ar b j)=false:=by
 have:=bx (vs:=[v0]) h;simp only [Bx,Cs,Nat.reduceAdd,and_true] at this;exact ⟨this.1,this.2.2⟩
theorem bx2 {w:R8} {b:Nat} {t:R9} {v0 v1:Value} (h:w.heap[b]?=some (.cells #[v0,v1] t (0,0))):(w.cell? (ar b 0)=some v0/\w.cell? (ar b 1)=some v1)/\∀j,w.frozen? (ar b j)=false:=by
 have:=bx (vs:=[v0,v1]) h;simp only [Bx,Cs,Nat.reduceAdd,and_true] at this;exact ⟨this.1,this.2.2⟩
theorem bx3 {w:R8} {b:Nat} {t:R9} {v0 v1 v2:Value} (h:w.heap[b]?=some (.cells #[v0,v1,v2] t (0,0))):(w.cell? (ar b 0)=some v0/\w.cell? (ar b 1)=some v1/\w.cell? (ar b 2)=some v2)/\∀j,w.frozen? (ar b j)=false:=by
 have:=bx (vs:=[v0,v1,v2]) h;simp only [Bx,Cs,Nat.reduceAdd,and_true] at this;exact ⟨this.1,this.2.2⟩
theorem bx4 {w:R8} {b:Nat} {t:R9} {v0 v1 v2 v3:Value} (h:w.heap[b]?=some (.cells #[v0,v1,v2,v3] t (0,0))):(w.cell? (ar b 0)=some v0/\w.cell? (ar b 1)=some v1/\w.cell? (ar b 2)=some v2/\w.cell? (ar b 3)=some v3)/\∀j,w.frozen? (ar b j)=false:=by
 have:=bx (vs:=[v0,v1,v2,v3]) h;simp only [Bx,Cs,Nat.reduceAdd,and_true] at this;exact ⟨this.1,this.2.2⟩
theorem bx5 {w:R8} {b:Nat} {t:R9} {v0 v1 v2 v3 v4:Value} (h:w.heap[b]?=some (.cells #[v0,v1,v2,v3,v4] t (0,0))):(w.cell? (ar b 0)=some v0/\w.cell? (ar b 1)=some v1/\w.cell? (ar b 2)=some v2/\w.cell? (ar b 3)=some v3/\w.cell? (ar b 4)=some v4)/\∀j,w.frozen? (ar b j)=false:=by
 have:=bx (vs:=[v0,v1,v2,v3,v4]) h;simp only [Bx,Cs,Nat.reduceAdd,and_true] at this;exact ⟨this.1,this.2.2⟩
theorem bx6 {w:R8} {b:Nat} {t:R9} {v0 v1 v2 v3 v4 v5:Value} (h:w.heap[b]?=some (.cells #[v0,v1,v2,v3,v4,v5] t (0,0))):(w.cell? (ar b 0)=some v0/\w.cell? (ar b 1)=some v1/\w.cell? (ar b 2)=some v2/\w.cell? (ar b 3)=some v3/\w.cell? (ar b 4)=some v4/\w.cell? (ar b 5)=some v5)/\∀j,w.frozen? (ar b j)=false:=by
 have:=bx (vs:=[v0,v1,v2,v3,v4,v5]) h;simp only [Bx,Cs,Nat.reduceAdd,and_true] at this;exact ⟨this.1,this.2.2⟩
theorem bx9 {w:R8} {b:Nat} {t:R9} {v0 v1 v2 v3 v4 v5 v6 v7 v8:Value} (h:w.heap[b]?=some (.cells #[v0,v1,v2,v3,v4,v5,v6,v7,v8] t (0,0))):(w.cell? (ar b 0)=some v0/\w.cell? (ar b 1)=some v1/\w.cell? (ar b 2)=some v2/\w.cell? (ar b 3)=some v3/\w.cell? (ar b 4)=some v4/\w.cell? (ar b 5)=some v5/\w.cell? (ar b 6)=some v6/\w.cell? (ar b 7)=some v7/\w.cell? (ar b 8)=some v8)/\∀j,w.frozen? (ar b j)=false:=by
 have:=bx (vs:=[v0,v1,v2,v3,v4,v5,v6,v7,v8]) h;simp only [Bx,Cs,Nat.reduceAdd,and_true] at this;exact ⟨this.1,this.2.2⟩
theorem kw {w:R8} {b:Nat} {t:R9} {v0 v1 v2 v3 v4 v5 v6 v7 v8 v9 v10 v11:Value} (h:w.heap[b]?=some (.cells #[v0,v1,v2,v3,v4,v5,v6,v7,v8,v9,v10,v11] t (0,0))):(w.cell? (ar b 0)=some v0/\w.cell? (ar b 1)=some v1/\w.cell? (ar b 2)=some v2/\w.cell? (ar b 3)=some v3/\w.cell? (ar b 4)=some v4/\w.cell? (ar b 5)=some v5/\w.cell? (ar b 6)=some v6/\w.cell? (ar b 7)=some v7/\w.cell? (ar b 8)=some v8/\w.cell? (ar b 9)=some v9/\w.cell? (ar b 10)=some v10/\w.cell? (ar b 11)=some v11)/\∀j,w.frozen? (ar b j)=false:=by
 have:=bx (vs:=[v0,v1,v2,v3,v4,v5,v6,v7,v8,v9,v10,v11]) h;simp only [Bx,Cs,Nat.reduceAdd,and_true] at this;exact ⟨this.1,this.2.2⟩
theorem ww {w:R8} {b:Nat} {t:R9} {v0 v1 v2 v3 v4 v5 v6 v7 v8 v9 v10 v11 i:Value} (h:w.heap[b]?=some (.cells #[v0,v1,v2,v3,v4,v5,v6,v7,v8,v9,v10,v11,i] t (0,0))):(w.cell? (ar b 0)=some v0/\w.cell? (ar b 1)=some v1/\w.cell? (ar b 2)=some v2/\w.cell? (ar b 3)=some v3/\w.cell? (ar b 4)=some v4/\w.cell? (ar b 5)=some v5/\w.cell? (ar b 6)=some v6/\w.cell? (ar b 7)=some v7/\w.cell? (ar b 8)=some v8/\w.cell? (ar b 9)=some v9/\w.cell? (ar b 10)=some v10/\w.cell? (ar b 11)=some v11/\w.cell? (ar b 12)=some i)/\∀j,w.frozen? (ar b j)=false:=by
 have:=bx (vs:=[v0,v1,v2,v3,v4,v5,v6,v7,v8,v9,v10,v11,i]) h;simp only [Bx,Cs,Nat.reduceAdd,and_true] at this;exact ⟨this.1,this.2.2⟩
theorem Ms {w:R8} {b:Nat} {t:R9} {v0 v1 v2 v3 v4 v5 v6 v7 v8 v9 v10 v11 o i:Value} (h:w.heap[b]?=some (.cells #[v0,v1,v2,v3,v4,v5,v6,v7,v8,v9,v10,v11,o,i] t (0,0))):(w.cell? (ar b 0)=some v0/\w.cell? (ar b 1)=some v1/\w.cell? (ar b 2)=some v2/\w.cell? (ar b 3)=some v3/\w.cell? (ar b 4)=some v4/\w.cell? (ar b 5)=some v5/\w.cell? (ar b 6)=some v6/\w.cell? (ar b 7)=some v7/\w.cell? (ar b 8)=some v8/\w.cell? (ar b 9)=some v9/\w.cell? (ar b 10)=some v10/\w.cell? (ar b 11)=some v11/\w.cell? (ar b 12)=some o/\w.cell? (ar b 13)=some i)/\∀j,w.frozen? (ar b j)=false:=by
 have:=bx (vs:=[v0,v1,v2,v3,v4,v5,v6,v7,v8,v9,v10,v11,o,i]) h;simp only [Bx,Cs,Nat.reduceAdd,and_true] at this;exact ⟨this.1,this.2.2⟩
theorem kH {w:R8} {b:Nat} {t:R9} {v0 v1 v2 v3 v4 v5 v6 v7 v8 v9 v10 v11 p o i:Value} (h:w.heap[b]?=some (.cells #[v0,v1,v2,v3,v4,v5,v6,v7,v8,v9,v10,v11,p,o,i] t (0,0))):(w.cell? (ar b 0)=some v0/\w.cell? (ar b 1)=some v1/\w.cell? (ar b 2)=some v2/\w.cell? (ar b 3)=some v3/\w.cell? (ar b 4)=some v4/\w.cell? (ar b 5)=some v5/\w.cell? (ar b 6)=some v6/\w.cell? (ar b 7)=some v7/\w.cell? (ar b 8)=some v8/\w.cell? (ar b 9)=some v9/\w.cell? (ar b 10)=some v10/\w.cell? (ar b 11)=some v11/\w.cell? (ar b 12)=some p/\w.cell? (ar b 13)=some o/\w.cell? (ar b 14)=some i)/\∀j,w.frozen? (ar b j)=false:=by
 have:=bx (vs:=[v0,v1,v2,v3,v4,v5,v6,v7,v8,v9,v10,v11,p,o,i]) h;simp only [Bx,Cs,Nat.reduceAdd,and_true] at this;exact ⟨this.1,this.2.2⟩
theorem sb {w:R8} {b:Nat} {x:Obj} (h:w.heap[b]?=some x):∀i,aq w i->i.heap[b]?=some x:=λ_ q=>(q.block b (Qw h)).trans h
theorem sl {w:R8} {b:Nat} {x:Obj} (h:w.heap[b]?=some x):∀i,aq w i->b<i.heap.size:=λi q=>QE (Qw h) q.size
theorem bt {a b c:R8} (h:aq a b) (k:aq b c):aq a c:=h.trans (k.mono h.size)
theorem br (w:R8):aq w w:=QA _ w
theorem ss {w:R8} {b i:Nat} {t:R9} {v:Value} {p o:R6} (h:w.heap[b]?=some (.cells p t (0,0))) (e:p.setIfInBounds i v=o:=by simp):(w.setCell (ar b i) v).heap[b]?=some (.cells o t (0,0)):=by
 subst e;exact RG w b i p t v h
theorem ss2 {w:R8} {b i j:Nat} {t:R9} {v u:Value} {p o:R6} (h:w.heap[b]?=some (.cells p t (0,0))) (e:(p.setIfInBounds i v).setIfInBounds j u=o:=by simp):((w.setCell (ar b i) v).setCell (ar b j) u).heap[b]?=some (.cells o t (0,0)):=ss (ss h rfl) e
theorem ss3 {w:R8} {b i j k:Nat} {t:R9} {v u x:Value} {p o:R6} (h:w.heap[b]?=some (.cells p t (0,0))) (e:((p.setIfInBounds i v).setIfInBounds j u).setIfInBounds k x=o:=by simp):(((w.setCell (ar b i) v).setCell (ar b j) u).setCell (ar b k) x).heap[b]?=some (.cells o t (0,0)):=ss (ss2 h rfl) e
def fO (a b q:Int):Int:=if q<0\/62<q then 0 else wrap64 (a*b/2^q.toNat)
def uw (x:Int):Int:=x%18446744073709551616
theorem sL (x:Int):0<=uw x/\uw x<18446744073709551616:=by unfold uw;omega
theorem ig (x:Int): -9223372036854775808<=wrap64 x/\wrap64 x<=9223372036854775807:=by unfold wrap64;omega
theorem wE {x y:Int} (h:∃k:Int,x=y+k*18446744073709551616):wrap64 x=wrap64 y:=by
 obtain ⟨k,rfl⟩:=h;unfold wrap64;omega
theorem oJ {x:Int} (h1: -9223372036854775808<=x) (h:x<=9223372036854775807):wrap64 x=x:=by unfold wrap64;omega
def fC (a b:Int):Int:=a*b/18446744073709551616
def iC (a b:Int):Int:=uw (a*b)
theorem Np (a b:Int):fC a b*18446744073709551616+iC a b=a*b:=by unfold fC iC uw;omega
theorem KW {a b:Int} (o: -9223372036854775808<=a/\a<=9223372036854775807) (hb: -9223372036854775808<=b/\b<=9223372036854775807): -85070591730234615865843651857942052864<=a*b/\a*b<=85070591730234615865843651857942052864:=by
 have h1:a.natAbs<=9223372036854775808:=ap;have h:b.natAbs<=9223372036854775808:=ap;have i:=Nat.mul_le_mul h1 h;rw [<-Int.natAbs_mul] at i;omega
theorem jN {a b:Int} (h: -9223372036854775808<=a/\a<=9223372036854775807) (hb: -9223372036854775808<=b/\b<=9223372036854775807): -9223372036854775808<=fC a b/\fC a b<=9223372036854775807:=by
 have:=KW h hb;unfold fC;omega
theorem JC (a b:Int) (q:Nat) (o:q<=62):fC a b*2^(64-q)+iC a b/2^q=a*b/2^q:=by
 have e:(18446744073709551616:Int)=2^(64-q)*2^q:=by rw [<-Int.pow_add,show 64-q+q=64 by omega];rfl
 have i:(2:Int)^q≠0:=by have:=Int.pow_pos (n:=2) (m:=q) (by decide);omega
 have h:=Np a b;rw [<-h,e,<-Int.mul_assoc,Int.add_comm (fC a b*2^(64-q)*2^q),Int.add_mul_ediv_right _ _ i,Int.add_comm]
theorem pW (x y:Int):wrap64 (wrap64 x-y)=wrap64 (x-y):=by unfold wrap64;omega
theorem wI (a b:Int) (u: -9223372036854775808<=a/\a<=9223372036854775807) (hb: -9223372036854775808<=b/\b<=9223372036854775807):
  uw a*uw b=a*b+((if a<0 then b else 0)+(if b<0 then a else 0)+(if a<0/\b<0 then 18446744073709551616 else 0))*18446744073709551616:=by
 by_cases h1:a<0
 .have p:uw a=a+18446744073709551616:=by unfold uw;omega
  by_cases i:b<0
  .have o:uw b=b+18446744073709551616:=by unfold uw;omega
   rw [p,o,if_pos h1,if_pos i,if_pos ⟨h1,i⟩,Int.add_mul,Int.mul_add];omega
  .have o:uw b=b:=by unfold uw;omega
   rw [p,o,if_pos h1,if_neg i,if_neg (λh=>i h.2),Int.add_mul];omega
 .have p:uw a=a:=by unfold uw;omega
  by_cases i:b<0
  .have o:uw b=b+18446744073709551616:=by unfold uw;omega
   rw [p,o,if_neg h1,if_pos i,if_neg (λh=>h1 h.1),Int.mul_add];omega
  .have o:uw b=b:=by unfold uw;omega
   rw [p,o,if_neg h1,if_neg i,if_neg (λh=>h1 h.1)];omega
theorem I4 (a b:Int) (o: -9223372036854775808<=a/\a<=9223372036854775807) (hb: -9223372036854775808<=b/\b<=9223372036854775807):
  wrap64 (uw a*uw b/18446744073709551616-(if a<0 then b else 0)-(if b<0 then a else 0))=fC a b:=by
 rw [wI a b o hb,Int.add_mul_ediv_right _ _ (by decide)];have h:=jN o hb;rw [<-oJ h.1 h.2];refine wE ⟨if a<0/\b<0 then 1 else 0,?_⟩;unfold fC;by_cases h1:a<0
 .by_cases i:b<0
  .simp only [h1,i,if_true,and_self];omega
  .simp only [h1,i,if_true,if_false,and_false];omega
 .by_cases i:b<0
  .simp only [h1,i,if_true,if_false,false_and];omega
  .simp only [h1,i,if_false,false_and];omega
theorem I3 (a b:Int) (h: -9223372036854775808<=a/\a<=9223372036854775807) (hb: -9223372036854775808<=b/\b<=9223372036854775807):uw (uw a*uw b)=iC a b:=by
 rw [wI a b h hb];unfold iC uw;rw [Int.add_mul_emod_self_right]
theorem rI (a:Int):∃X:Nat,uw a=X/\X<18446744073709551616:=⟨(uw a).toNat,by have:=sL a;omega,by have:=sL a;omega⟩
def W64 (l:Q_):Prop:=∀k,k<l.length-> -9223372036854775808<=nth l k/\nth l k<=9223372036854775807
theorem yR {l:Q_} {k:Nat} (h:k<l.length):nth l k∈l:=by rw [dB l k h];exact List.getElem_mem h
theorem je (l:Q_) (k:Nat) (v:Int) (j:Nat):nth (l.set k v) j=if j=k/\k<l.length then v else nth l j:=by
 unfold nth;simp only [List.getD_eq_getElem?_getD,List.getElem?_set];by_cases h:k=j
 .subst h;by_cases i:k<l.length
  .simp [i]
  .simp [i,List.getElem?_eq_none (show l.length<=k by omega)]
 .simp [h,Ne.symm h]
theorem hZ {a b:Q_} (hl:a.length=b.length) (h:∀k,k<a.length->nth a k=nth b k):a=b:=by
 refine List.ext_getElem hl λk h1 i=>?_;rw [<-dB a k h1,<-dB b k i];exact h k h1
def dU (n:Nat) (f:Nat->Int):Q_:=(List.range n).map f
theorem cC (n:Nat) (f:Nat->Int):(dU n f).length=n:=by simp [dU]
theorem bJ {n k:Nat} (f:Nat->Int) (h:k<n):nth (dU n f) k=f k:=by rw [dB _ _ (by rw [cC];exact h)];simp [dU]
theorem iO (n:Nat) (f:Nat->Int):dU (n+1) f=dU n f++[f n]:=by simp [dU,Rx]
theorem fU {n:Nat} {f:Nat->Int} (h:∀k,k<n-> -9223372036854775808<=f k/\f k<=9223372036854775807):W64 (dU n f):=λk hk=>by
 rw [cC] at hk;rw [bJ f hk];exact h k hk
theorem fB {n:Nat} {f g:Nat->Int} (h:∀k,k<n->f k=g k):dU n f=dU n g:=by
 unfold dU;exact List.map_congr_left λk hk=>h k (List.mem_range.1 hk)
theorem fS {l:Q_} {n:Nat} {f:Nat->Int} (hl:l.length=n) (h:∀k,k<n->nth l k=f k):l=dU n f:=
 hZ (by rw [cC,hl]) λk hk=>by rw [bJ f ap];exact h k ap
def lD (l:Q_) (k:Nat) (f:Nat->Int):Q_:=dU l.length λj=>if j<k then f j else nth l j
theorem rZ (l:Q_) (k:Nat) (f:Nat->Int):(lD l k f).length=l.length:=cC _ _
theorem iU (l:Q_) (f:Nat->Int):lD l 0 f=l:=(fS rfl λk _=>by rw [if_neg ap]).symm
theorem ij {l:Q_} {k:Nat} (f:Nat->Int) {j:Nat} (h:j<l.length):nth (lD l k f) j=if j<k then f j else nth l j:=bJ _ h
theorem jR {l:Q_} {k:Nat} (f:Nat->Int) (hk:k<l.length):(lD l k f).set k (f k)=lD l (k+1) f:=by
 refine hZ (by simp [rZ]) λj h=>?_;rw [List.length_set,rZ] at h;rw [je,ij f h,ij f h,rZ];by_cases h1:j=k
 .subst h1;simp [hk]
 .by_cases i:j<k
  .simp [h1,i,show j<k+1 by omega]
  .simp [h1,i,show ¬j<k+1 by omega]
theorem jS (l:Q_) (f:Nat->Int):lD l l.length f=dU l.length f:=by
 unfold lD;exact fB λk hk=>by rw [if_pos hk]
def DN (xs ys:Q_) (q:Int):Nat->Int
 | 0=>0
 | k+1=>wrap64 (DN xs ys q k+fO (nth xs k) (nth ys k) q)
def wt (xs ys:Q_) (q:Int):Int:=DN xs ys q xs.length
def rJ (xs:Q_) (a q:Int):Q_:=dU xs.length λk=>fO (nth xs k) a q
def eU (xs ys:Q_):Q_:=dU xs.length λk=>wrap64 (nth xs k+nth ys k)
def szN (sz:Q_) (k:Nat):Nat:=(nth sz k).toNat
def bS (sz:Q_):Nat->Nat
 | 0=>0
 | k+1=>bS sz k+(szN sz k+1)*szN sz (k+1)
def dM (sz:Q_) (k:Nat):Nat:=bS sz k+szN sz (k+1)*szN sz k
def dm (sz:Q_):Prop:=(2<=sz.length/\sz.length<=16)/\∀k,k<sz.length->1<=nth sz k/\nth sz k<=1048576
def dY (sz:Q_):Prop:=dm sz/\bS sz (sz.length-1)<=1048576
theorem dm.at {sz:Q_} (h:dm sz) {k:Nat} (hk:k<sz.length):1<=szN sz k/\szN sz k<=1048576/\nth sz k=(szN sz k:Int):=by
 have:=h.2 k hk;unfold szN;omega
theorem fR (sz:Q_) (k:Nat):dM sz k+szN sz (k+1)=bS sz (k+1):=by
 unfold dM;rw [bS,Nat.add_mul,Nat.one_mul,Nat.mul_comm (szN sz k)];omega
theorem dm.mul {sz:Q_} (h:dm sz) {k:Nat} (hk:k+1<sz.length):szN sz (k+1)*szN sz k<=1099511627776:=by
 have h1:=h.at hk;have i:=h.at (k:=k) ap;exact Nat.mul_le_mul h1.2.1 i.2.1
theorem dm.cnt {sz:Q_} (h:dm sz):∀k,k<sz.length->bS sz k<=k*1099512676352:=by
 intro k
 induction k with
 | zero=>intro _;simp [bS]
 | succ k ih=>
  intro hk;have h1:=ih ap;have o:=h.mul hk;have p:=(h.at hk).2.1;have i:=fR sz k;unfold dM at i;omega
theorem gr (sz:Q_) {j k:Nat} (h:j<=k):bS sz j<=bS sz k:=by
 induction h with
 | refl=>exact Qx _
 | step _ ih=>rw [bS];omega
theorem dm.bound {sz:Q_} (h:dm sz) {k:Nat} (hk:k<sz.length):bS sz k<=17592202821632:=by
 have h1:=h.cnt k hk;have i:=h.1.2;have:k*1099512676352<=16*1099512676352:=RH _ ap;omega
theorem dY.bound {sz:Q_} (h:dY sz) {k:Nat} (hk:k<sz.length):bS sz k<=1048576:=QD (gr sz ap) h.2
theorem dY.mul {sz:Q_} (h:dY sz) {k:Nat} (hk:k+1<sz.length):szN sz (k+1)*szN sz k<=1048576:=by
 have h1:=h.bound hk;have i:=fR sz k;unfold dM at i;omega
def qF (sz:Q_) (k:Nat):R7:=(List.range k).flatMap λj=>[RI (bS sz j:Int),RI (dM sz j:Int)]
def rD (sz:Q_) (k:Nat):R7:=(List.range k).flatMap λj=>[RI (dM sz j:Int),RI (bS sz (j+1):Int)]
theorem pY (sz:Q_) (k:Nat):qF sz (k+1)=qF sz k++[RI (bS sz k:Int),RI (dM sz k:Int)]:=by simp [qF,Rx,List.flatMap_append]
theorem qA (sz:Q_) (k:Nat):rD sz (k+1)=rD sz k++[RI (dM sz k:Int),RI (bS sz (k+1):Int)]:=by simp [rD,Rx,List.flatMap_append]
theorem lU (sz:Q_) (k:Nat):(qF sz k).length=k*2:=by
 induction k with
 | zero=>rfl
 | succ k ih=>rw [pY,Rh,ih];simp;omega
theorem mz (sz:Q_) (k:Nat):(rD sz k).length=k*2:=by
 induction k with
 | zero=>rfl
 | succ k ih=>rw [qA,Rh,ih];simp;omega
theorem I7 (sz:Q_) {j n:Nat} (h:j<n):(qF sz n)[j*2]?=some (RI (bS sz j:Int))/\(qF sz n)[j*2+1]?=some (RI (dM sz j:Int)):=by
 induction n with
 | zero=>omega
 | succ n ih=>
  rw [pY];by_cases i:j<n
  .have:=ih i;rw [Rk (by rw [lU];omega),Rk (by rw [lU];omega)];exact this
  .obtain rfl:j=n:=ap;rw [Rl (by rw [lU];omega),Rl (by rw [lU];omega),lU];simp
theorem MC (sz:Q_) {j n:Nat} (h:j<n):(rD sz n)[j*2]?=some (RI (dM sz j:Int))/\(rD sz n)[j*2+1]?=some (RI (bS sz (j+1):Int)):=by
 induction n with
 | zero=>omega
 | succ n ih=>
  rw [qA];by_cases i:j<n
  .have:=ih i;rw [Rk (by rw [mz];omega),Rk (by rw [mz];omega)];exact this
  .obtain rfl:j=n:=ap;rw [Rl (by rw [mz];omega),Rl (by rw [mz];omega),mz];simp
def cS (T:R9) (w:R8) (b:Nat) (sz:Q_):Prop:=∃A1 c1 h c2 i c3,
 w.heap[b]?=some (.cells #[.slice A1 sz.length c1,.slice h (sz.length-1) c2,.slice i (sz.length-1) c3,RI (bS sz (sz.length-1):Int)] T (0,0))/\
 Rd w A1 (aA .i64 sz)/\Rd w h (qF sz (sz.length-1))/\Rd w i (rD sz (sz.length-1))
theorem cS.below {T:R9} {w i:R8} {b:Nat} {sz:Q_} (h:cS T w b sz) (hb:aq w i):cS T i b sz:=by
 obtain ⟨A1,c1,u,c2,p,c3,o,h1,v,x⟩:=h;exact ⟨A1,c1,u,c2,p,c3,(hb.block b (Qw o)).trans o,h1.below hb,v.below hb,x.below hb⟩
theorem cS.lt {T:R9} {w:R8} {b:Nat} {sz:Q_} (h:cS T w b sz):b<w.heap.size:=by
 obtain ⟨A1,c1,p,c2,o,c3,i,_⟩:=h;exact Qw i
noncomputable def ff (sz:Q_):Int:=@ite _ (dY sz) (Classical.propDecidable _) 0 (@ite _ (dm sz) (Classical.propDecidable _) 4 5)
theorem kR {sz:Q_} (h:dY sz):ff sz=0:=by unfold ff;rw [if_pos h]
theorem np {sz:Q_} (h:¬dY sz) (hr:dm sz):ff sz=4:=by unfold ff;rw [if_neg h,if_pos hr]
theorem iw {sz:Q_} (h:¬dm sz):ff sz=5:=by unfold ff;rw [if_neg (λg=>h g.1),if_neg h]
theorem Co (sz:Q_):ff sz=0↔dY sz:=by
 constructor
 .intro h;by_cases hg:dY sz
  .exact hg
  .by_cases hr:dm sz
   .rw [np hg hr] at h;omega
   .rw [iw hr] at h;omega
 .exact kR
theorem dW (b:Bool):b=false\/b=true:=by cases b<;>simp
structure Cfg where
 sizes:Q_
 shift:Int
 rate:Int
 mom:Int
 workers:Int
 batch:Int
 micros:Int
 steps:Int
 bucket:Int
 chunk:Int
 window:Int
 cap:Int
def okB (n:Int):Bool:=decide (1<=n/\n<=1048576)
theorem mh {n:Int} (h:okB n=true):1<=n/\n<=1048576:=by simpa [okB] using h
theorem GW {n:Int} (h:okB n=false):¬(1<=n/\n<=1048576):=by
 intro i;unfold okB at h;rw [RC i] at h;cases h
def uk (n:Int):Bool:=decide (0<=n/\n<=1048576)
def rj (k:Cfg):Bool:=okB k.micros&&okB k.bucket&&okB k.chunk&&okB k.window&&okB k.cap&&uk k.steps
def wkB (k:Cfg):Bool:=decide (1<=k.workers/\k.workers<=64)
def shB (k:Cfg):Bool:=decide (1<=k.shift/\k.shift<=62)
def baB (k:Cfg):Bool:=decide (k.workers<=k.batch/\k.batch<=1048576)
noncomputable def cK (k:Cfg):Int:=if wkB k=false then 6 else if shB k=false then 9 else if ff k.sizes≠0 then ff k.sizes else if rj k=false then 2 else if baB k=false then 7 else 0
theorem Mo {k:Cfg} (h:wkB k=false):cK k=6:=by unfold cK;rw [if_pos h]
theorem Mm {k:Cfg} (h1:wkB k=true) (h:shB k=false):cK k=9:=by unfold cK;rw [if_neg (by simp [h1]),if_pos h]
theorem Mk {k:Cfg} (h1:wkB k=true) (i:shB k=true) (h:ff k.sizes≠0):cK k=ff k.sizes:=by unfold cK;rw [if_neg (by simp [h1]),if_neg (by simp [i]),if_pos h]
theorem Mp {k:Cfg} (h1:wkB k=true) (i:shB k=true) (o:ff k.sizes=0) (h:rj k=false):cK k=2:=by unfold cK;rw [if_neg (by simp [h1]),if_neg (by simp [i]),if_neg (by simp [o]),if_pos h]
theorem Mn {k:Cfg} (h1:wkB k=true) (i:shB k=true) (p:ff k.sizes=0) (o:rj k=true) (h:baB k=false):cK k=7:=by unfold cK;rw [if_neg (by simp [h1]),if_neg (by simp [i]),if_neg (by simp [p]),if_neg (by simp [o]),if_pos h]
theorem Mq {k:Cfg} (h1:wkB k=true) (i:shB k=true) (p:ff k.sizes=0) (o:rj k=true) (h:baB k=true):cK k=0:=by unfold cK;rw [if_neg (by simp [h1]),if_neg (by simp [i]),if_neg (by simp [p]),if_neg (by simp [o]),if_neg (by simp [h])]
structure jK (k:Cfg):Prop where
 w:1<=k.workers/\k.workers<=64
 s:1<=k.shift/\k.shift<=62
 z:dY k.sizes
 mi:1<=k.micros/\k.micros<=1048576
 bu:1<=k.bucket/\k.bucket<=1048576
 ch:1<=k.chunk/\k.chunk<=1048576
 wi:1<=k.window/\k.window<=1048576
 ca:1<=k.cap/\k.cap<=1048576
 st:0<=k.steps/\k.steps<=1048576
 ba:k.workers<=k.batch/\k.batch<=1048576
theorem fl {k:Cfg}:cK k=0↔jK k:=by
 constructor
 .intro h
  cases h1:wkB k with
  | false=>rw [Mo h1] at h;omega
  | true=>
   cases h2:shB k with
   | false=>rw [Mm h1 h2] at h;omega
   | true=>
    by_cases i:ff k.sizes=0
    .cases h4:rj k with
     | false=>rw [Mp h1 h2 i h4] at h;omega
     | true=>
      cases h5:baB k with
      | false=>rw [Mn h1 h2 i h4 h5] at h;omega
      | true=>
       simp only [rj,Bool.and_eq_true] at h4;obtain ⟨⟨⟨⟨⟨a1,p⟩,u⟩,o⟩,v⟩,x⟩:=h4;exact ⟨by simpa [wkB] using h1,by simpa [shB] using h2,(Co _).1 i,mh a1,mh p,mh u,mh o,mh v,by simpa [uk] using x,by simpa [baB] using h5⟩
    .rw [Mk h1 h2 i] at h;exact absurd h i
 .intro h;refine Mq (by simpa [wkB] using h.w) (by simpa [shB] using h.s) (kR h.z) ?_ (by simpa [baB] using h.ba);simp only [rj,Bool.and_eq_true];exact ⟨⟨⟨⟨⟨by simpa [okB] using h.mi,by simpa [okB] using h.bu⟩,by simpa [okB] using h.ch⟩,by simpa [okB] using h.wi⟩,by simpa [okB] using h.ca⟩,by simpa [uk] using h.st⟩
section
variable {P:Program} {ops:T0} {Q:Exit->T1->R8->Prop} {md:Region.Mode} {S:R8->Prop} {n:Nat}
def eO (P:Program) (md:Region.Mode) (ops:T0) (Q:Exit->T1->R8->Prop) (S:R8->Prop) (n:Nat):Nat->Array Bool->T1->R8->Prop
 | 0,listed,a,w=>Region.ready md ops listed=[]/\Q .normal a w
 | fuel+1,listed,a,w=>
  (Region.ready md ops listed=[]->Q .normal a w)/\
  ∀i∈Region.ready md ops listed,wpOp P ops Q i (λo h=>((listed.setIfInBounds i true).getD n true=false->S h)/\eO P md ops Q S n fuel (listed.setIfInBounds i true) o h) a w
theorem pX:∀(o:Nat) (p:Array Bool) (a:T1) (w:R8),eO P md ops Q S n o p a w->wpAny P md ops Q o p a w
 | 0,_,_,_,h=>h
 | o+1,_,_,_,h=>⟨h.1,λi y=>wpOp_mono (λx v u=>pX o _ x v u.2) (h.2 i y)⟩
theorem Kj {h:Array Bool} {i j:Nat} (hB:Region.waitsFor md ops n i=true) (B:i∈Region.ready md ops h) (A:j∈Region.ready md ops h):j≠n:=λv=>by
 subst v;obtain ⟨_,D,u,o⟩:=mem_ready.1 A;obtain ⟨C,x,e,he,hb,p⟩:=Region.waitsFor_spec hB;have:C=D:=Option.some.inj (x.symm.trans u);subst this;have y:=o e he hb;rw [p,getD_both (mem_ready.1 B).1] at y
 cases y
theorem yo {i:Nat} {J:Oper} {v:Value} (hB:Region.waitsFor md ops n i=true) (a3:i≠n) (hi:ops[i]?=some J) (D:∀(j:Nat) (o:Oper) R b,ops[j]?=some o->o.op≠.select R b) (hQ:∀c a w,Q (.panic c) (a.put J.dst v) w->Q (.panic c) a w):
  ∀(x:Nat) (p:Array Bool) (a:T1) (w:R8),
   (∀j L,ops[j]?=some L->j≠i->p.getD j true=false->(∀e∈L.after,Region.binds md e=true->e.on≠i)->J.apart ops L=true)->
   i∈Region.ready md ops p->YieldsIf P ops S J v a->p.getD n true=false->S w->
   eO P md ops Q S n x (p.setIfInBounds i true) (a.put J.dst v) w->eO P md ops Q S n (x+1) p a w:=by
 intro x
 induction x with
 | zero=>
  intro p a w _ hr hy hn Z H;refine ⟨λh=>(by rw [h] at hr;cases hr),λj Y=>?_⟩;by_cases u:j=i
  .subst u;exact hy.wpOp hi Z ⟨λ_=>Z,H⟩
  .have:=ready_mono Y u;rw [H.1] at this
   cases this
 | succ x ih=>
  intro p a w A hr hy hn Z H;refine ⟨λh=>(by rw [h] at hr;cases hr),λj Y=>?_⟩;by_cases u:j=i
  .subst u;exact hy.wpOp hi Z ⟨λ_=>Z,H⟩
  .have h1:=H.2 j (ready_mono Y u);have T:=Kj hB hr Y
   have y:(p.setIfInBounds j true).getD n true=false->((p.setIfInBounds i true).setIfInBounds j true).getD n true=false:=λh=>by
    rw [Array.setIfInBounds_comm _ _ (Ne.symm u),getD_set_ne true a3];exact h
   obtain ⟨C,L,I,V⟩:=mem_ready.1 Y
   have O:∀e∈L.after,Region.binds md e=true->e.on≠i:=λe he hb a2=>by
    have h1:=V e he hb;rw [a2,getD_both (mem_ready.1 hr).1] at h1
    cases h1
   have h2:=wpOp_putIf I (A j L I u C O) (λR b=>D i J R b hi) (λR b=>D j L R b I) hQ hy h1
   have B:∀k ok,ops[k]?=some ok->k≠i->(p.setIfInBounds j true).getD k true=false->
     (∀e∈ok.after,Region.binds md e=true->e.on≠i)->J.apart ops ok=true:=λk ok hk a1 U a0=>by
    refine A k ok hk a1 ?_ a0;by_cases N:j=k
    .subst N;exact C
    .rw [getD_set_ne true N] at U;exact U
   refine wpOp_mono (λa' w' h3=>⟨(λh=>h3.2.1 (y h)),ih (p.setIfInBounds j true) a' w' B (ready_mono hr (Ne.symm u)) h3.1 (by rw [getD_set_ne true T];exact hn) (h3.2.1 (y (by rw [getD_set_ne true T];exact hn))) ?_⟩) h2;rw [Array.setIfInBounds_comm _ _ u];exact h3.2.2
theorem vX {i:Nat} {L:Oper} {v:Value} (a3:i≠n) (hi:ops[i]?=some L) (I:∀(j:Nat) (o:Oper) T b,ops[j]?=some o->o.op≠.select T b) (hQ:∀c a w,Q (.panic c) (a.put L.dst v) w->Q (.panic c) a w):
  ∀(x:Nat) (p:Array Bool) (a:T1) (w:R8),
   (∀j N,ops[j]?=some N->j≠i->p.getD j true=false->(∀e∈N.after,Region.binds md e=true->e.on≠i)->L.apart ops N=true)->
   i∈Region.ready md ops p->YieldsIf P ops (λ_=>True) L v a->(p.getD n true=false->S w)->
   eO P md ops Q S n x (p.setIfInBounds i true) (a.put L.dst v) w->eO P md ops Q S n (x+1) p a w:=by
 intro x
 induction x with
 | zero=>
  intro p a w _ hr Y hS H;refine ⟨λh=>(by rw [h] at hr;cases hr),λj hj=>?_⟩;by_cases u:j=i
  .subst u;exact Y.wpOp hi trivial ⟨λh=>hS (by
    by_cases B:j=n
    .subst B;exact (mem_ready.1 hr).1
    .rwa [getD_set_ne true B] at h),H⟩
  .have:=ready_mono hj u;rw [H.1] at this
   cases this
 | succ x ih=>
  intro p a w A hr Y hS H;refine ⟨λh=>(by rw [h] at hr;cases hr),λj hj=>?_⟩;by_cases u:j=i
  .subst u;exact Y.wpOp hi trivial ⟨λh=>hS (by
    by_cases B:j=n
    .subst B;exact (mem_ready.1 hr).1
    .rwa [getD_set_ne true B] at h),H⟩
  .have h1:=H.2 j (ready_mono hj u)
   have y:(p.setIfInBounds j true).getD n true=false->((p.setIfInBounds i true).setIfInBounds j true).getD n true=false:=λh=>by
    rw [Array.setIfInBounds_comm _ _ (Ne.symm u),getD_set_ne true a3];exact h
   obtain ⟨D,N,J,V⟩:=mem_ready.1 hj
   have R:∀e∈N.after,Region.binds md e=true->e.on≠i:=λe he hb a2=>by
    have h1:=V e he hb;rw [a2,getD_both (mem_ready.1 hr).1] at h1
    cases h1
   have h2:=wpOp_putIf J (A j N J u D R) (λT b=>I i L T b hi) (λT b=>I j N T b J) hQ Y h1
   have C:∀k ok,ops[k]?=some ok->k≠i->(p.setIfInBounds j true).getD k true=false->
     (∀e∈ok.after,Region.binds md e=true->e.on≠i)->L.apart ops ok=true:=λk ok hk a1 U a0=>by
    refine A k ok hk a1 ?_ a0;by_cases O:j=k
    .subst O;exact D
    .rw [getD_set_ne true O] at U;exact U
   refine wpOp_mono (λa' w' Z=>⟨(λh=>Z.2.1 (y h)),ih (p.setIfInBounds j true) a' w' C (ready_mono hr (Ne.symm u)) Z.1 (λh=>Z.2.1 (y h)) ?_⟩) h2;rw [Array.setIfInBounds_comm _ _ u];exact Z.2.2
theorem sK {i:Nat} {u:Oper} {v:Value} {p:Nat} {o:Array Bool} {a:T1} {w:R8} (y:ops[i]?=some u) (hB:Region.waitsFor md ops n i=true) (x:i≠n) (hn:o.getD n true=false) (hs:Region.noSelect ops=true) (A:Region.free md ops o i=true) (hr:(Region.ready md ops o).contains i=true) (D:∀c a w,Q (.panic c) (a.put u.dst v) w->Q (.panic c) a w) (B:YieldsIf P ops S u v a) (C:S w) (h:eO P md ops Q S n p (o.setIfInBounds i true) (a.put u.dst v) w):eO P md ops Q S n (p+1) o a w:=
 yo hB x y (Region.noSelect_spec hs) D p o a w (Region.free_spec y A) (by simpa using hr) B hn C h
theorem qD {i:Nat} {u:Oper} {v:Value} {p:Nat} {o:Array Bool} {a:T1} {w:R8} (y:ops[i]?=some u) (x:i≠n) (hs:Region.noSelect ops=true) (A:Region.free md ops o i=true) (hr:(Region.ready md ops o).contains i=true) (D:∀c a w,Q (.panic c) (a.put u.dst v) w->Q (.panic c) a w) (B:YieldsIf P ops (λ_=>True) u v a) (C:S w) (h:eO P md ops Q S n p (o.setIfInBounds i true) (a.put u.dst v) w):eO P md ops Q S n (p+1) o a w:=
 vX x y (Region.noSelect_spec hs) D p o a w (Region.free_spec y A) (by simpa using hr) B (λ_=>C) h
theorem wX {x:Oper} {v:Value} {u:Nat} {o:Array Bool} {a:T1} {w:R8} (i:Nat) (B:S w) (h:eO P .any ops Q S n u (o.setIfInBounds i true) (a.put x.dst v) w) (C:ops[i]?=some x:=by rfl) (hB:Region.waitsFor .any ops n i=true:=by kernel_rfl) (hni:i≠n:=by decide) (hn:o.getD n true=false:=by kernel_rfl) (hs:Region.noSelect ops=true:=by kernel_rfl) (hf:Region.free .any ops o i=true:=by kernel_rfl) (hr:(Region.ready .any ops o).contains i=true:=by kernel_rfl) (hQ:∀c a w,Q (.panic c) (a.put x.dst v) w->Q (.panic c) a w:=by exact λ_ _ _ h=>h) (hy:YieldsIf P ops S x v a:=by (refine Or.inl ⟨by rfl,?_⟩;intro D p;(try dsimp only at p);(first | obtain ⟨s1,s2,y,A,H⟩:=p | obtain ⟨s1,s2,y,A⟩:=p | obtain ⟨s1,s2,y⟩:=p | obtain ⟨s1,s2⟩:=p | skip);go_simp;(try with_reducible rfl))):eO P .any ops Q S n (u+1) o a w:=sK C hB hni hn hs hf hr hQ hy B h
theorem wX0 {u:Oper} {v:Value} {p:Nat} {o:Array Bool} {a:T1} {w:R8} (i:Nat) (x:S w) (h:eO P .any ops Q S n p (o.setIfInBounds i true) (a.put u.dst v) w) (y:ops[i]?=some u:=by rfl) (hni:i≠n:=by decide) (hs:Region.noSelect ops=true:=by kernel_rfl) (hf:Region.free .any ops o i=true:=by kernel_rfl) (hr:(Region.ready .any ops o).contains i=true:=by kernel_rfl) (hQ:∀c a w,Q (.panic c) (a.put u.dst v) w->Q (.panic c) a w:=by exact λ_ _ _ h=>h) (hy:YieldsIf P ops (λ_=>True) u v a:=by (refine Or.inl ⟨by rfl,?_⟩;intro A _;go_simp;(try with_reducible rfl))):eO P .any ops Q S n (p+1) o a w:=qD y hni hs hf hr hQ hy x h
def aT (P:Program) (md:Region.Mode) (ops:T0) (Q:Exit->T1->R8->Prop) (S:R8->Prop) (n:Nat) (o:Nat) (h:Array Bool) (a:T1) (w:R8) (rs:List Nat):Prop:=
 ∀i∈rs,wpOp P ops Q i (λu p=>((h.setIfInBounds i true).getD n true=false->S p)/\eO P md ops Q S n o (h.setIfInBounds i true) u p) a w
theorem aT.nil {o:Nat} {i:Array Bool} {a:T1} {w:R8}:aT P md ops Q S n o i a w []:=λ_ h=>by cases h
theorem aT.cons {u:Nat} {p:Array Bool} {a:T1} {w:R8} {i:Nat} {o:Oper} {rs:List Nat} (B:ops[i]?=some o) (h:∀v:T1->R8->Prop,Shut (∀a w,S w->(S w->eO P md ops Q S n u (p.setIfInBounds i true) a w)->v a w)->if Region.wanted o (yielded ops a.tmps)=true then Oper.wp P o a w v Q else v (a.put o.dst undef) w) (hs:aT P md ops Q S n u p a w rs):aT P md ops Q S n u p a w (i::rs):=λj x=>by
 rcases List.mem_cons.1 x with rfl | x
 .exact wpOp_step B (λv C=>h v (λa w y A=>C a w ⟨λ_=>y,A y⟩))
 .exact hs j x
theorem cJ {rs:List Nat} {o:Nat} {i:Array Bool} {a:T1} {w:R8} (hr:Region.ready md ops i=rs) (p:rs≠[]) (h:aT P md ops Q S n o i a w rs):eO P md ops Q S n (o+1) i a w:=⟨λu=>absurd (hr▸u) p,hr▸h⟩
theorem tV:∀(l:List Oper) (k:Nat) (p:Array Bool) (a:T1) (w:R8),(k≠n->p.getD n true=true)->(∀j,l[j]?=ops[k+j]?)->
  Region.seqB md ops l.length k p=true->wpList P ops Q l a w->eO P md ops Q S n l.length p a w
 | [],_,_,_,_,_,_,hB,h=>⟨by simpa [Region.seqB] using hB,h⟩
 | o::l,k,p,a,w,hk,hl,hB,h=>by
  have D:ops[k]?=some o:=by simpa using (hl 0).symm
  simp only [List.length_cons,Region.seqB,Bool.and_eq_true,RF] at hB
  have u:(p.setIfInBounds k true).getD n true=true:=by
   by_cases v:k=n
   .subst v;rcases QO k p.size with x | x
    .simp [x]
    .simp [Nat.not_lt.2 x]
   .rw [getD_set_ne true v];exact hk v
  refine ⟨λh1=>(by rw [hB.1] at h1;cases h1),λi A=>?_⟩;rw [hB.1] at A;have y:i=k:=by simpa using A
  subst y;have hw:wpOp P ops Q i (wpList P ops Q l) a w:=by unfold wpOp;simp only [D];exact h
  exact wpOp_mono (λC B x=>⟨λh=>(by rw [u] at h;cases h),tV l (i+1) _ C B (λ_=>u) (λj=>by have:=hl (j+1);simpa [Rz,Nat.add_comm 1 j] using this) hB.2 x⟩) hw
theorem fw {l:List Oper} {o:Nat} {i:Array Bool} {a:T1} {w:R8} (p:o=(l.drop n).length) (hB:Region.seqB md l.toArray (l.drop n).length n i=true) (h:wpList P l.toArray Q (l.drop n) a w):
  eO P md l.toArray Q S n o i a w:=by
 subst p;exact tV (l.drop n) n i a w (λh=>absurd rfl h) (λj=>by simp [List.getElem?_drop]) hB h
theorem bW {t e:R9} {z:Value} {size i:Nat} (T:dN P t e z size i) {w:R8} {o:Oper} {D:R6} {a:T1} {K:T1->R8->Prop} {E:Prop} (s x:Operand) (p:o.guard=none) (H:o.op=.call {callee:=.builtin .append,args:=#[s,x],argTypes:=#[t,t]}) (base:Nat) (v:Value) (n:Nat) (xs:R7) (hs:a.eval s=v) (hown:w.ownsRow base e size v n xs) (A:N_) (m c:Nat) (us:R7) (hx:a.eval x=.slice A m c) (hr:Rd w A us) (hus:us.length=m*size) (h1:∀u∈us,u.oneCell'=true) (hb:(n+m)*i<=140737488355328) (h63:n+m<=maxLen) (hbase:base<=w.heap.size) (h:∀C B y,y.ownsRow base e size (.slice C (n+m) B) (n+m) (xs++us)->Below base w y->w.grownBy y v.ownBlock->((Value.slice C (n+m) B).ownBlock=v.ownBlock\/(Value.slice C (n+m) B).ownBlock=some w.heap.size)->K (a.put o.dst (.slice C (n+m) B)) y):
  if Region.wanted o (yielded ops D)=true then Oper.wp P o a w K Q else E:=by
 rw [if_pos (by simp [Region.wanted,p])];have:=jk (ops:=ops) (K:=K) (Q:=Q) (E:=E) T p s x H base v n xs hs hown A m c us hx hr hus h1 hb h63 hbase h
 rwa [if_pos (by simp [Region.wanted,p])] at this
theorem kK (n:Nat) (S:R8->Prop) {id:Nat} {a:T1} {w:R8} (hm:P.follows .mixedOrders=true) (h:eO P .any ops Q S n ops.size (Array.replicate ops.size false) a w.drew):(Code.region id ops true).wp P Q a w:=
 wp_region_any hm (pX _ _ _ _ h)
end
end Go.Proofs.YtindmkcnjlgomaaGreat
namespace Go.Proofs.YtindmkcnjlgomaaGreat
open Tryz
section
variable {P:Program} {ops:T0} {Q:Exit->T1->R8->Prop} {S:R8->Prop} {n:Nat}
def unl (l:Array Bool):Nat:=l.toList.count false
theorem MW {l:Array Bool} {i:Nat} (h:l.getD i true=false):unl l=unl (l.setIfInBounds i true)+1:=by
 have o:i<l.size:=by
  rcases QO i l.size with p | p
  .exact p
  .simp [Array.getElem?_eq_none p] at h
 have hl:l.toList[i]'(by simpa using o)=false:=by simpa [o] using h
 have u:List.count false (l.toList.set i true)=List.count false l.toList-1:=by
  rw [List.count_set (by simpa using o)];simp [hl]
 have h1:0<List.count false l.toList:=List.count_pos_iff.2 (by rw [<-hl];exact List.getElem_mem _);unfold unl;rw [Array.toList_setIfInBounds,u];omega
def bK (m:Nat) (L:List Nat):Array Bool:=L.foldr (λi l=>l.setIfInBounds i true) (Array.replicate m false)
theorem s9 (m:Nat):∀L:List Nat,(bK m L).size=m
 | []=>by simp [bK]
 | a::L=>by simp only [bK,List.foldr_cons,Array.size_setIfInBounds];exact s9 m L
theorem km (m i:Nat) (d:Bool):∀L:List Nat,(bK m L).getD i d=if i<m then L.contains i else d
 | []=>by simp only [bK,List.foldr_nil,List.contains_nil];split<;>simp_all [Array.getElem?_replicate]
 | a::L=>by
  have p:=km m i d L;have hs:=s9 m L
  show ((bK m L).setIfInBounds a true).getD i d=_
  by_cases h:i<m
  .rw [if_pos h] at p |-;by_cases o:a=i
   .subst o;simp [hs,h]
   .rw [getD_set_ne d o,p];simp [Ne.symm o]
  .rw [if_neg h] at p |-;by_cases o:a=i
   .subst o;simp [hs,h]
   .rw [getD_set_ne d o,p]
def dA (ops:T0) (L:List Nat):List Nat:= (List.range ops.size).filter λi=> !L.contains i&&((ops[i]?).map (·.after.all λe=> !Region.binds .any e||(L.contains e.on&&decide (e.on<ops.size)))).getD false
theorem ep (L:List Nat):Region.ready .any ops (bK ops.size L)=dA ops L:=by
 unfold Region.ready dA;refine List.filter_congr λi p=>?_;rw [km,if_pos (List.mem_range.1 p)]
 congr 3
 funext o
 congr 1
 funext e
 rw [km];by_cases h:e.on<ops.size<;>simp [h]
def By (ops:T0) (L:List Nat) (i:Nat):Bool:=
 match ops[i]? with
 | none=>false
 | some oi=>(List.range ops.size).all λj=>j==i||L.contains j||match ops[j]? with
   | some oj=>oj.after.any (λe=>Region.binds .any e&&e.on==i)||oi.apart ops oj
   | none=>true
theorem vo (L:List Nat) (i:Nat):Region.free .any ops (bK ops.size L) i=By ops L i:=by
 unfold Region.free By
 cases ops[i]? with
 | none=>rfl
 | some oi=>
  dsimp only;rw [Bool.eq_iff_iff,List.all_eq_true,List.all_eq_true];refine forall_congr' λj=>forall_congr' λh=>?_;rw [km,if_pos (List.mem_range.1 h)];exact Iff.rfl
def FO (ops:T0):Nat->Nat->List Nat->Bool
 | 0,_,L=>(dA ops L).isEmpty
 | g+1,k,L=>decide (dA ops L=[k])&&FO ops g (k+1) (k::L)
theorem Eg:∀(g k:Nat) (L:List Nat),Region.seqB .any ops g k (bK ops.size L)=FO ops g k L
 | 0,k,L=>by simp only [Region.seqB,FO,ep]
 | g+1,k,L=>by
  simp only [Region.seqB,FO,ep];rw [<-Eg g (k+1) (k::L)];rfl
inductive Ys (P:Program) (ops:T0) (S:R8->Prop):List Nat->T1->T1->Prop
 | nil {a:T1}:Ys P ops S [] a a
 | cons {i:Nat} {is:List Nat} {o:Oper} {v:Value} {a a':T1} (ho:ops[i]?=some o) (hy:YieldsIf P ops S o v a) (ht:Ys P ops S is (a.put o.dst v) a'):Ys P ops S (i::is) a a'
def mJ (ops:T0):List Nat->List Nat->Bool
 | _,[]=>true
 | L,i::is=>(By ops L i&&(dA ops L).contains i)&&mJ ops (i::L) is
def ub (ops:T0) (n:Nat):List Nat->List Nat->Bool
 | _,[]=>true
 | L,i::is=>(Region.waitsFor .any ops n i&&decide (i≠n)&&(decide (n<ops.size)&& !L.contains n)&&By ops L i&&(dA ops L).contains i)&&ub ops n (i::L) is
structure HA (P:Program) (ops:T0) (Q:Exit->T1->R8->Prop) (S:R8->Prop) (L:List Nat) (a:T1) (w:R8):Prop where
 out:wpAnyH P .any ops Q S (unl (bK ops.size L)) (bK ops.size L) a w
structure XA (P:Program) (ops:T0) (Q:Exit->T1->R8->Prop) (S:R8->Prop) (n:Nat) (L:List Nat) (a:T1) (w:R8):Prop where
 out:eO P .any ops Q S n (unl (bK ops.size L)) (bK ops.size L) a w
theorem pZ (m:Nat):unl (bK m [])=m:=by simp [unl,bK,List.count_replicate]
theorem HA.go {id:Nat} {a:T1} {w:R8} (S:R8->Prop) (hm:P.follows .mixedOrders=true) (h:HA P ops Q S [] a w.drew):(Code.region id ops true).wp P Q a w:=by
 refine wp_region_held (S:=S) hm ?_;have i:=h.out;rw [pZ] at i;exact i
theorem XA.go {id:Nat} {a:T1} {w:R8} (n:Nat) (S:R8->Prop) (hm:P.follows .mixedOrders=true) (h:XA P ops Q S n [] a w.drew):(Code.region id ops true).wp P Q a w:=by
 refine kK n S hm ?_;have i:=h.out;rw [pZ] at i;exact i
theorem cV {L:List Nat} {i:Nat} (h:(dA ops L).contains i=true):unl (bK ops.size L)=unl (bK ops.size (i::L))+1:=
 MW (mem_ready.1 (show i∈Region.ready .any ops (bK ops.size L) by rw [ep];simpa using h)).1
theorem HA.takes (hs:Region.noSelect ops=true) (x:∀c a w d v,Q (.panic c) (Act.put a d v) w->Q (.panic c) a w) {w:R8} (u:S w):
  ∀(o:List Nat) {L:List Nat} {a p:T1},mJ ops L o=true->Ys P ops S o a p->HA P ops Q S (o.reverse++L) p w->HA P ops Q S L a w
 | [],_,_,_,_,.nil,h=>h
 | i::o,L,a,p,hc,.cons ho hy ht,h=>by
  simp only [mJ,Bool.and_eq_true] at hc;have y:=HA.takes hs x u o (L:=i::L) hc.2 ht (by simpa using h);refine ⟨?_⟩;rw [cV hc.1.2];exact wpAnyH_take ho hs (by rw [vo];exact hc.1.1) (by rw [ep];exact hc.1.2) (λc a w=>x c a w _ _) hy u y.out
theorem XA.takes (hs:Region.noSelect ops=true) (x:∀c a w d v,Q (.panic c) (Act.put a d v) w->Q (.panic c) a w) {w:R8} (u:S w):
  ∀(o:List Nat) {L:List Nat} {a p:T1},ub ops n L o=true->Ys P ops S o a p->XA P ops Q S n (o.reverse++L) p w->XA P ops Q S n L a w
 | [],_,_,_,_,.nil,h=>h
 | i::o,L,a,p,hc,.cons ho hy ht,h=>by
  simp only [ub,Bool.and_eq_true,RF,Bool.not_eq_true'] at hc;have y:=XA.takes hs x u o (L:=i::L) hc.2 ht (by simpa using h);refine ⟨?_⟩;rw [cV hc.1.2];exact sK ho hc.1.1.1.1.1 hc.1.1.1.1.2 (by rw [km,if_pos hc.1.1.1.2.1,hc.1.1.1.2.2]) hs (by rw [vo];exact hc.1.1.2) (by rw [ep];exact hc.1.2) (λc a w=>x c a w _ _) hy u y.out
def Ot (ops:T0) (n:Nat):List Nat->List Nat->Bool
 | _,[]=>true
 | L,i::is=>(decide (i≠n)&&By ops L i&&(dA ops L).contains i)&&Ot ops n (i::L) is
theorem XA.takes0 (hs:Region.noSelect ops=true) (u:∀c a w d v,Q (.panic c) (Act.put a d v) w->Q (.panic c) a w) {w:R8} (x:S w):
  ∀(o:List Nat) {L:List Nat} {a p:T1},Ot ops n L o=true->Ys P ops (λ_=>True) o a p->XA P ops Q S n (o.reverse++L) p w->XA P ops Q S n L a w
 | [],_,_,_,_,.nil,h=>h
 | i::o,L,a,p,hc,.cons ho hy ht,h=>by
  simp only [Ot,Bool.and_eq_true,RF] at hc;have y:=XA.takes0 hs u x o (L:=i::L) hc.2 ht (by simpa using h);refine ⟨?_⟩;rw [cV hc.1.2];exact qD ho hc.1.1.1 hs (by rw [vo];exact hc.1.1.2) (by rw [ep];exact hc.1.2) (λc a w=>u c a w _ _) hy x y.out
theorem xn {L:List Nat} {i:Nat} (hr:dA ops L=[i]):unl (bK ops.size L)=unl (bK ops.size (i::L))+1:=
 cV (by rw [hr];simp)
theorem HA.one {L:List Nat} {a:T1} {w:R8} (i:Nat) {o:Oper} (v:ops[i]?=some o) (hr:dA ops L=[i]) (h:∀p:T1->R8->Prop,Shut (∀a w,S w->(S w->HA P ops Q S (i::L) a w)->p a w)->if Region.wanted o (yielded ops a.tmps)=true then Oper.wp P o a w p Q else p (a.put o.dst undef) w):HA P ops Q S L a w:=by
 refine ⟨?_⟩;rw [xn hr];exact wpAnyH_ready (by rw [ep];exact hr) (by simp) (AllReadyH.cons v (λp y=>h p λa w x hw=>y.out a w x λu=>(hw u).out) AllReadyH.nil)
theorem XA.one {L:List Nat} {a:T1} {w:R8} (i:Nat) {o:Oper} (v:ops[i]?=some o) (hr:dA ops L=[i]) (h:∀p:T1->R8->Prop,Shut (∀a w,S w->(S w->XA P ops Q S n (i::L) a w)->p a w)->if Region.wanted o (yielded ops a.tmps)=true then Oper.wp P o a w p Q else p (a.put o.dst undef) w):XA P ops Q S n L a w:=by
 refine ⟨?_⟩;rw [xn hr];exact cJ (by rw [ep];exact hr) (by simp) (aT.cons v (λp y=>h p λa w x hw=>y.out a w x λu=>(hw u).out) aT.nil)
theorem HA.call {L:List Nat} {a:T1} {w:R8} (i:Nat) {f:FuncId} {args:R6} {R:Ending->R8->Prop} (hc:Calls P f args w R) {o:Oper} (u:ops[i]?=some o) (hr:dA ops L=[i]) (hw:Region.wanted o (yielded ops a.tmps)=true) (he:(execOp a.eval o).run P w=.ok (.enter f args) w) (k:∀e p,R e p->∃v,e=.returned v/\S p/\(S p->HA P ops Q S (i::L) (a.put o.dst v) p)):HA P ops Q S L a w:=by
 refine HA.one i u hr λB A=>?_;rw [if_pos hw];unfold Oper.wp;rw [he];refine hc.mono λe p y=>?_;obtain ⟨v,rfl,x,h⟩:=k e p y;exact A.out _ _ x h
theorem XA.call {L:List Nat} {a:T1} {w:R8} (i:Nat) {f:FuncId} {args:R6} {R:Ending->R8->Prop} (hc:Calls P f args w R) {o:Oper} (u:ops[i]?=some o) (hr:dA ops L=[i]) (hw:Region.wanted o (yielded ops a.tmps)=true) (he:(execOp a.eval o).run P w=.ok (.enter f args) w) (k:∀e p,R e p->∃v,e=.returned v/\S p/\(S p->XA P ops Q S n (i::L) (a.put o.dst v) p)):XA P ops Q S n L a w:=by
 refine XA.one i u hr λB A=>?_;rw [if_pos hw];unfold Oper.wp;rw [he];refine hc.mono λe p y=>?_;obtain ⟨v,rfl,x,h⟩:=k e p y;exact A.out _ _ x h
theorem XA.tail {l:List Oper} {L:List Nat} {a:T1} {w:R8} (i:unl (bK l.toArray.size L)=(l.drop n).length) (hB:FO l.toArray (l.drop n).length n L=true) (h:wpList P l.toArray Q (l.drop n) a w):
  XA P l.toArray Q S n L a w:=by
 refine ⟨?_⟩;exact fw i (by rw [Eg];exact hB) h
theorem HA.g {id:Nat} {a:T1} {w:R8} (S:R8->Prop) (h:HA P ops Q S [] a w.drew) (hm:P.follows .mixedOrders=true:=by decide +kernel):(Code.region id ops true).wp P Q a w:=HA.go S hm h
theorem XA.g {id:Nat} {a:T1} {w:R8} (n:Nat) (S:R8->Prop) (h:XA P ops Q S n [] a w.drew) (hm:P.follows .mixedOrders=true:=by decide +kernel):(Code.region id ops true).wp P Q a w:=XA.go n S hm h
theorem HA.t (p:T1) (o:List Nat) {L:List Nat} {a:T1} {w:R8} (u:S w) (h:HA P ops Q S (o.reverse++L) p w) (hs:Region.noSelect ops=true:=by decide +kernel) (hQ:∀c a w d v,Q (.panic c) (Act.put a d v) w->Q (.panic c) a w:=by (intro _ _ _ d _ h;cases d<;>exact h)) (hc:mJ ops L o=true:=by decide +kernel) (hy:Ys P ops S o a p:=by (try simp only [QS,QT,QU,Act.put,QV,QX,QY]);(repeat ((first | (refine Ys.cons (v:=?_) (by (simp only [QZ,Ra,Rc];rfl)) (Or.inl ⟨by rfl,?_⟩) ?_;rotate_left;(· (intro x i;(try dsimp only at i);(try (have y:=kH i.1));go_simp;(try with_reducible rfl)))) | refine Ys.cons (v:=undef) (by (simp only [QZ,Ra,Rc];rfl)) (Or.inr ⟨by rfl,rfl⟩) ?_);simp only [QS,QT,QU,Act.put,QV,QX,QY]));exact Ys.nil):HA P ops Q S L a w:=HA.takes hs hQ u o hc hy h
theorem XA.t (p:T1) (o:List Nat) {L:List Nat} {a:T1} {w:R8} (u:S w) (h:XA P ops Q S n (o.reverse++L) p w) (hs:Region.noSelect ops=true:=by decide +kernel) (hQ:∀c a w d v,Q (.panic c) (Act.put a d v) w->Q (.panic c) a w:=by (intro _ _ _ d _ h;cases d<;>exact h)) (hc:ub ops n L o=true:=by decide +kernel) (hy:Ys P ops S o a p:=by (try simp only [QS,QT,QU,Act.put,QV,QX,QY]);(repeat ((first | (refine Ys.cons (v:=?_) (by (simp only [QZ,Ra,Rc];rfl)) (Or.inl ⟨by rfl,?_⟩) ?_;rotate_left;(· (intro x i;(try dsimp only at i);(try (have y:=kH i.1));go_simp;(try with_reducible rfl)))) | refine Ys.cons (v:=undef) (by (simp only [QZ,Ra,Rc];rfl)) (Or.inr ⟨by rfl,rfl⟩) ?_);simp only [QS,QT,QU,Act.put,QV,QX,QY]));exact Ys.nil):XA P ops Q S n L a w:=XA.takes hs hQ u o hc hy h
theorem XA.t0 (o:T1) (i:List Nat) {L:List Nat} {a:T1} {w:R8} (p:S w) (h:XA P ops Q S n (i.reverse++L) o w) (hs:Region.noSelect ops=true:=by decide +kernel) (hQ:∀c a w d v,Q (.panic c) (Act.put a d v) w->Q (.panic c) a w:=by (intro _ _ _ d _ h;cases d<;>exact h)) (hc:Ot ops n L i=true:=by decide +kernel) (hy:Ys P ops (λ_=>True) i a o:=by (try simp only [QS,QT,QU,Act.put,QV,QX,QY]);(repeat ((first | (refine Ys.cons (v:=?_) (by (simp only [QZ,Ra,Rc];rfl)) (Or.inl ⟨by rfl,?_⟩) ?_;rotate_left;(· (intro u _;go_simp;(try with_reducible rfl)))) | refine Ys.cons (v:=undef) (by (simp only [QZ,Ra,Rc];rfl)) (Or.inr ⟨by rfl,rfl⟩) ?_);simp only [QS,QT,QU,Act.put,QV,QX,QY]));exact Ys.nil):XA P ops Q S n L a w:=XA.takes0 hs hQ p i hc hy h
theorem HA.c {L:List Nat} {a:T1} {w:R8} (i:Nat) {f:FuncId} {args:R6} {R:Ending->R8->Prop} {o:Oper} (hc:Calls P f args w R) (k:∀e h,R e h->∃v,e=.returned v/\S h/\(S h->HA P ops Q S (i::L) (a.put o.dst v) h)) (p:ops[i]?=some o:=by (simp only [QZ,Ra,Rc];rfl)) (hr:dA ops L=[i]:=by decide +kernel) (hw:Region.wanted o (yielded ops a.tmps)=true:=by rfl) (he:(execOp a.eval o).run P w=.ok (.enter f args) w:=by go_simp):HA P ops Q S L a w:=HA.call i hc p hr hw he k
theorem XA.c {L:List Nat} {a:T1} {w:R8} (i:Nat) {f:FuncId} {args:R6} {R:Ending->R8->Prop} {o:Oper} (hc:Calls P f args w R) (k:∀e h,R e h->∃v,e=.returned v/\S h/\(S h->XA P ops Q S n (i::L) (a.put o.dst v) h)) (p:ops[i]?=some o:=by (simp only [QZ,Ra,Rc];rfl)) (hr:dA ops L=[i]:=by decide +kernel) (hw:Region.wanted o (yielded ops a.tmps)=true:=by rfl) (he:(execOp a.eval o).run P w=.ok (.enter f args) w:=by go_simp):XA P ops Q S n L a w:=XA.call i hc p hr hw he k
theorem HA.d {L:List Nat} {a:T1} {w:R8} (h:Q .normal a w) (hr:dA ops L=[]:=by decide +kernel):HA P ops Q S L a w:=⟨wpAnyH_done (by rw [ep];exact hr) h _⟩
theorem XA.e {l:List Oper} {L:List Nat} {a:T1} {w:R8} (h:wpList P l.toArray Q (l.drop n) a w) (i:unl (bK l.toArray.size L)=(l.drop n).length:=by rfl) (hB:FO l.toArray (l.drop n).length n L=true:=by decide +kernel):
  XA P l.toArray Q S n L a w:=XA.tail i hB h
theorem HA.o {L:List Nat} {a:T1} {w:R8} {o:Oper} (i:Nat) (h:∀p:T1->R8->Prop,Shut (∀a w,S w->(S w->HA P ops Q S (i::L) a w)->p a w)->if Region.wanted o (yielded ops a.tmps)=true then Oper.wp P o a w p Q else p (a.put o.dst undef) w) (u:ops[i]?=some o:=by (simp only [QZ,Ra,Rc];rfl)) (hr:dA ops L=[i]:=by decide +kernel):HA P ops Q S L a w:=HA.one i u hr h
theorem XA.o {L:List Nat} {a:T1} {w:R8} {o:Oper} (i:Nat) (h:∀p:T1->R8->Prop,Shut (∀a w,S w->(S w->XA P ops Q S n (i::L) a w)->p a w)->if Region.wanted o (yielded ops a.tmps)=true then Oper.wp P o a w p Q else p (a.put o.dst undef) w) (u:ops[i]?=some o:=by (simp only [QZ,Ra,Rc];rfl)) (hr:dA ops L=[i]:=by decide +kernel):XA P ops Q S n L a w:=XA.one i u hr h
theorem HA.s {L:List Nat} {a:T1} {w:R8} {o:Oper} (i:Nat) (h:R8) (u:S h) (k:HA P ops Q S (i::L) (a.put o.dst undef) h) (p:ops[i]?=some o:=by (simp only [QZ,Ra,Rc];rfl)) (hr:dA ops L=[i]:=by decide +kernel) (hw:Region.wanted o (yielded ops a.tmps)=true:=by rfl) (he:(execOp a.eval o).run P w=.ok .skip h:=by go_simp):HA P ops Q S L a w:=by
 refine HA.one i p hr λx v=>?_;rw [if_pos hw];unfold Oper.wp;rw [he];exact v.out _ _ u λ_=>k
theorem HA.v {L:List Nat} {a:T1} {w:R8} {o:Oper} (i:Nat) (h:R8) (v:Value) (u:S h) (k:HA P ops Q S (i::L) (a.put o.dst v) h) (p:ops[i]?=some o:=by (simp only [QZ,Ra,Rc];rfl)) (hr:dA ops L=[i]:=by decide +kernel) (hw:Region.wanted o (yielded ops a.tmps)=true:=by rfl) (he:(execOp a.eval o).run P w=.ok (.value v) h:=by go_simp):HA P ops Q S L a w:=by
 refine HA.one i p hr λy x=>?_;rw [if_pos hw];unfold Oper.wp;rw [he];exact x.out _ _ u λ_=>k
end
end Go.Proofs.YtindmkcnjlgomaaGreat
namespace Go.Proofs.YtindmkcnjlgomaaGreat
open Go.RowKit Go.ChangeShapes Go.WideShapes Go.ChangeAt
open Tryz
abbrev fq (α:Type):=R8->R7->α->Prop
def Fj {α:Type} (R:fq α):Prop:=∀{w w':R8} {cs:R7} {a:α},aq w w'->R w cs a->R w' cs a
def cF (l:List (R7)) (j:Nat):R7:=l.getD j []
theorem rO {l:List (R7)} {j:Nat} (h:j<l.length):cF l j=l[j]:=by simp [cF,h]
theorem nZ {rows:List (R7)} {k:Nat} (h:∀r∈rows,r.length=k) (i t:Nat) (o:i<rows.length) (p:t<k):(List.flatten rows)[i*k+t]?=(cF rows i)[t]?:=by
 induction rows generalizing i with
 | nil=>simp at o
 | cons r l ih=>
  have hr:r.length=k:=h r (by simp)
  cases i with
  | zero=>
   rw [List.flatten_cons,Nat.zero_mul,RB,Rk ap];simp [cF]
  | succ i=>
   rw [List.flatten_cons,Rl (by rw [hr,Nat.add_mul];omega),hr,show (i+1)*k+t-k=i*k+t by rw [Nat.add_mul];omega,ih (λr hr=>h r (by simp [hr])) i (by simpa using o)];simp [cF]
theorem LL {rows:List (R7)} {k:Nat} (h:∀r∈rows,r.length=k):(List.flatten rows).length=rows.length*k:=by
 induction rows with
 | nil=>simp
 | cons r l ih=>rw [List.flatten_cons,Rh,h r (by simp),ih (λr hr=>h r (by simp [hr])),List.length_cons,Nat.add_mul];omega
def dR {α:Type} (R:fq α) (size:Nat) (w:R8) (A:N_) (l:List α):Prop:=
 ∃rows,Rd w A (List.flatten rows)/\rows.length=l.length/\(∀r∈rows,r.length=size)/\∀j x,l[j]?=some x->R w (cF rows j) x
def rSl {α:Type} (R:fq α) (size:Nat):fq (List α):=λw h l=>∃A c,h=[.slice A l.length c]/\l.length<=c/\c<=9223372036854775807/\l.length<=17592186043904/\dR R size w A l
def OF (k:IntKind):fq Int:=λ_ h n=>h=[.int k n]/\(Lit.int k n).wf=true
def Es (q:IntKind):fq (Q_):=λw h zs=>∃A c,h=[.slice A zs.length c]/\zs.length<=c/\c<=9223372036854775807/\zs.length<=17592186043904/\Rd w A (aA q zs)/\∀z∈zs,(Lit.int q z).wf=true
section
variable {α:Type} {R:fq α} {size:Nat} {w w':R8} {A:N_} {l:List α}
theorem dR.below (p:Fj R) (h:dR R size w A l) (hb:aq w w'):dR R size w' A l:=by
 obtain ⟨rows,h1,i,u,o⟩:=h;exact ⟨rows,h1.below hb,i,u,λj x v=>p hb (o j x v)⟩
theorem dR.nil (R:fq α) (size:Nat) (w:R8) (A:N_):dR R size w A []:=⟨[],Rd.nil _ _,rfl,by simp,by simp⟩
theorem dR.get (h:dR R size w A l) (hs:0<size) {j:Nat} {x:α} (I:l[j]?=some x):
  ∃b o v,A=some (ar b o)/\b<w.heap.size/\v.length=size/\R w v x/\w.cell? (ar b (o+j*size))=v[0]?/\∀t,t<size->w.cell? (ar b (o+j*size+t))=v[t]?:=by
 obtain ⟨rows,h1,J,C,L⟩:=h;have p:j<rows.length:=by rw [J];exact (Ri.1 I).1
 have hrl:(cF rows j).length=size:=C _ (by rw [rO p];exact List.getElem_mem p);have i:∀t,t<size->∃u,(cF rows j)[t]?=some u:=λt y=>⟨_,Rj ap⟩;obtain ⟨N,D⟩:=i 0 hs;obtain ⟨b,o,rfl,c0⟩:=h1 (j*size+0) N ((nZ C j 0 p hs).trans D)
 have hc:∀t,t<size->w.cell? (ar b (o+j*size+t))=(cF rows j)[t]?:=λt y=>by
  obtain ⟨u,H⟩:=i t y;obtain ⟨O,Q,B,c⟩:=h1 (j*size+t) u ((nZ C j t p y).trans H);injection B with B;injection B with e1 e2 _
  subst e1;subst e2;rw [Rz,c,H]
 refine ⟨b,o,cF rows j,rfl,aB c0,hrl,L j x I,?_,hc⟩;have:=hc 0 hs
 rwa [Nat.add_zero] at this
end
def ge {H:Type} (P:Program) (t:R9) (d:DataW H):Prop:=∀n∈d.weights P t,n<=140737488351232
theorem Ir {H:Type} {P:Program} {e:R9}:∀{l:List (DataW H)},(∀n∈DataW.weightsAll P e l,n<=140737488351232)->∀(i:Nat) (d:DataW H),l[i]?=some d->ge P e d:=by
 intro l
 induction l with
 | nil=>intro _ i d h;simp at h
 | cons x r ih=>
  intro h i d o;unfold DataW.weightsAll at h
  cases i with
  | zero=>
   simp at o;subst o;exact λn hn=>h n (Rw.2 (.inl hn))
  | succ i=>exact ih (λn hn=>h n (Rw.2 (.inr hn))) i d (by simpa using o)
theorem vc {H:Type} {P:Program}:∀{o:List R9} {l:List (DataW H)},(∀n∈DataW.weightsEach P o l,n<=140737488351232)->∀(i:Nat) (t:R9) (d:DataW H),o[i]?=some t->l[i]?=some d->ge P t d:=by
 intro o
 induction o with
 | nil=>intro l _ i t d h;simp at h
 | cons t0 o ih=>
  intro l h i t d u p
  cases l with
  | nil=>simp at p
  | cons x r=>
   unfold DataW.weightsEach at h
   cases i with
   | zero=>
    simp at u p;subst u;subst p;exact λn hn=>h n (Rw.2 (.inl hn))
   | succ i=>exact ih (λn hn=>h n (Rw.2 (.inr hn))) i t d (by simpa using u) (by simpa using p)
theorem gj {H:Type} {P:Program} {o:List R9} {l:List (DataW H)} (h:(DataW.weightsEach P o l).all (· <=reachBytes)=true) {i:Nat} {t:R9} {d:DataW H} (v:o[i]?=some t) (p:l[i]?=some d):ge P t d:=
 vc (λn hn=>by have u:n<=reachBytes:=of_decide_eq_true (List.all_eq_true.1 h n hn);exact u) i t d v p
def kD (P:Program) (t:R9) (size:Nat) {α:Type} (R:fq α):Prop:=
 P.cellsOf t=size/\∀{H:Type} {enc:R9×Value->H} {W:R8} {fuel:Nat} {cs:R7} {x:DataW H×List MemPlace},DataW.trod enc P W 0 (λ_=>true) true fuel t cs=some x->ge P t x.1->cs.length=size/\∃a,R W cs a
theorem xB {P:Program} {t:R9} {k:IntKind} (i:P.underlying t=some (.int k)) (hc:P.cellsOf t=1):kD P t 1 (OF k):=⟨hc,λh _=>by
 obtain ⟨n,rfl,_,hw⟩:=DataW.trod_int i h
 exact ⟨rfl,n,rfl,hw⟩⟩
theorem Ep {w:R8} {a:Addr} {xs:R7} (h:∀i u,xs[i]?=some u->w.cell? (a.add i)=some u):Rd w (some a) xs:=λk u B=>by
 have C:∃v,xs[0]?=some v:=by
  have:=(Ri.1 B).1;exact ⟨xs[0],Rj ap⟩
 obtain ⟨v,y⟩:=C;have p:=h 0 v y;have e:a.add 0=a:=by simp [Addr.add]
 rw [e] at p
 have A:a=(ar a.block a.off):=by
  obtain ⟨b,o,s⟩:=a;unfold World.cell? at p
  split at p
  .cases s with
   | none=>rfl
   | some x=>simp at p
  .cases p
 refine ⟨a.block,a.off,by rw [<-A],?_⟩;have hk:=h k u B;rw [A,Addr.add_lit] at hk;exact hk
theorem qm {P:Program} {t e:R9} {q:IntKind} (J:P.underlying t=some (.slice e)) (he:P.underlying e=some (.int q)) (hc:P.cellsOf e=1) (L:P.cellsOf t=1) (hb:P.bytesOf e=8):kD P t 1 (Es q):=⟨L,λ{H U W O T y} h I=>by
 have A:∀a l c,T=[.slice a l c]->l<=17592186043904:=λa l c hcs=>by
  rcases Go.Deep.open_slice J h with ⟨o,_⟩ | ⟨Y,len,cap,m,n,D,Pl,o,_,hl,_,R,V,_⟩
  .rw [hcs] at o;injection o with o;injection o with _ o;omega
  .rw [hcs] at o;injection o with o;injection o with _ o;subst o
   have hw:=I ((l+(m-l))*8) (by rw [V];simp [DataW.weights,J,hb]);omega
 rcases open_ints J he hc h with ⟨rfl,_⟩ | ⟨x,l,c,zs,rfl,_,hl,hm,C,_,v,N⟩
 .exact ⟨rfl,[],none,0,rfl,Qx _,by omega,by simp,Rd.nil _ _,by simp⟩
 .have Q:=A _ _ _ rfl;refine ⟨rfl,zs.take l,some x,c,?_,by simp;omega,by unfold maxLen at hm;exact hm,by simp;omega,?_,λz C=>N z (List.mem_of_mem_take C)⟩
  .rw [Rn];simp at C;rw [Nat.min_eq_left ap]
  .refine Ep λi u B=>?_;rw [<-dE,List.getElem?_take] at B
   split at B
   .rename_i Z
    have p:i<zs.length:=by simp at C;omega
    rw [nK q zs i p] at B;rw [v i p,<-B,dB zs i p];simp [List.getD,p]
   .cases B⟩
theorem AK {P:Program} {t e:R9} {size:Nat} {α:Type} {R:fq α} (Z:P.underlying t=some (.slice e)) (hR:kD P e size R) (a2:P.cellsOf t=1) (hb:8<=P.bytesOf e):kD P t 1 (rSl R size):=⟨a2,λ{H a8 W a6 cs x} h o=>by
 rcases Go.Deep.open_slice Z h with ⟨rfl,_⟩ | ⟨a,len,cap,m,n,D,Pl,rfl,_,hl,hm,J,Q,hi⟩
 .exact ⟨rfl,[],none,0,rfl,Qx _,by omega,by simp,dR.nil _ _ _ _⟩
 .simp at J;subst J;obtain ⟨a4,a0⟩:=hR;rw [a4] at hi
  have N:len<=17592186043904:=by
   have hw:=o ((len+(m-len))*P.bytesOf e) (by rw [Q];simp [DataW.weights,Z]);have:=Nat.mul_le_mul_left (len+(m-len)) hb;omega
  have a1:∀i,i<len->ge P e (D i):=λi a5=>by
   refine Ir (l:=(List.range len).map D) (λn hn=>o n ?_) i (D i) (by simp [a5]);rw [Q];simp only [DataW.weights,Z];exact List.mem_cons_of_mem _ (Rw.2 (.inl hn))
  classical
  have B:∀i,i<len->∃y x,W.cells? 0 (a.add (i*size)) size=some y/\y.length=size/\R W y x:=λi o=>by
   obtain ⟨y,h1,Y⟩:=hi i ap;obtain ⟨T,x,h4⟩:=a0 Y (a1 i o);exact ⟨y,x,h1,T,h4⟩
  let p:Nat->R7:=λi=>if o:i<len then Classical.choose (B i o) else []
  have v:∀i (o:i<len),∃x,W.cells? 0 (a.add (i*size)) size=some (p i)/\(p i).length=size/\R W (p i) x:=λi o=>by
   have:=Classical.choose_spec (B i o);simp only [p,dif_pos o];exact this
  let el:(i:Nat)->i<len->α:=λi o=>Classical.choose (v i o)
  let l:List α:=List.ofFn (n:=len) λi=>el i.1 i.2
  have A:l.length=len:=by simp [l]
  refine ⟨rfl,l,some a,m,by rw [A],by rw [A];exact hl,by unfold maxLen at hm;exact hm,by rw [A];exact N,(List.range len).map p,?_,by simp [l],?_,?_⟩
  .have T:∀r∈(List.range len).map p,r.length=size:=by
    intro r hr;obtain ⟨i,I,rfl⟩:=List.mem_map.1 hr;obtain ⟨x,_,h,_⟩:=v i (List.mem_range.1 I);exact h
   refine Ep λi u O=>?_;have o:=(Ri.1 O).1;rw [LL T,List.length_map,List.length_range] at o
   have C:0<size:=by
    rcases Nat.eq_zero_or_pos size with h | h
    .rw [h] at o;omega
    .exact h
   have L:i=i/size*size+i%size:=by rw [Nat.mul_comm];exact (Nat.div_add_mod i size).symm
   have hq:i/size<len:=Nat.div_lt_of_lt_mul (by rw [Nat.mul_comm];exact o);have hr:=Nat.mod_lt i C;obtain ⟨x,a3,a7,_⟩:=v _ hq;obtain ⟨_,_,V⟩:=World.cells?_some a3;rw [L,nZ T _ _ (by simpa using hq) hr] at O;have e:cF ((List.range len).map p) (i/size)=p (i/size):=by simp [cF,hq]
   rw [e,<-V _ hr] at O;rw [L];rw [Go.Deep.add_add] at O;exact O
  .intro r hr;obtain ⟨i,I,rfl⟩:=List.mem_map.1 hr;obtain ⟨x,_,h,_⟩:=v i (List.mem_range.1 I);exact h
  .intro j x Q;have hj:j<len:=by rw [<-A];exact (Ri.1 Q).1
   have e:cF ((List.range len).map p) j=p j:=by simp [cF,hj]
   rw [e]
   have U:x=el j hj:=by
    have:=Ri.1 Q;obtain ⟨h1,Y⟩:=this;rw [<-Y];simp [l]
   rw [U]
   exact (Classical.choose_spec (v j hj)).2.2⟩
theorem cu {P:Program} {t A:R9} {C:Array Field} {size:Nat} {α:Type} {R:fq α} (I:kD P t size R) (p:P.underlying A=some (.struct C)) {H:Type} {y:R9×Value->H} {W:R8} {n o:Nat} {B:R7} {x:DataW H×List MemPlace} {xs:List (DataW H×List MemPlace)} (J:x=(.agg (xs.map (·.1)),xs.flatMap (·.2))) (hl:ge P A x.1) {i:Nat} (h:DataW.trod y P W 0 (λ_=>true) true n t ((B.drop o).take (P.cellsOf t))=xs[i]?) (D:i<xs.length) (v:(C.toList.map (·.type))[i]?=some t):∃a,R W ((B.drop o).take size) a:=by
 obtain ⟨hc,u⟩:=I;rw [hc,Rj D] at h;refine (u h ?_).2;subst J;simp only [ge,DataW.weights,p] at hl;exact vc hl i t _ v (by simp [Rj D])
theorem nH {P:Program} {t:R9} {size:Nat} {α:Type} {R:fq α} (y:kD P t size R) {H:Type} {i:R9×Value->H} {W:R8} {v:Value} {d:DataW H} {p:List MemPlace} (h:DataW.Trod i P W 0 (λ_=>true) true t v d p) (hl:ge P t d):∃a,R W v.cells.toList a/\v.cells.toList.length=size:=by
 obtain ⟨o,u⟩:=h;obtain ⟨h1,a,x⟩:=y.2 u hl;exact ⟨a,x,h1⟩
end Go.Proofs.YtindmkcnjlgomaaGreat
namespace Go.Proofs.YtindmkcnjlgomaaGreat
open Go.RowKit
open Tryz
def gE (B:Nat) (w:R8):R8:={w with heap:=w.heap.mapIdx λk o=>if k<B then .cells #[] 0 (0,0) else o}
theorem jX (B:Nat) (w:R8):(gE B w).heap.size=w.heap.size:=by simp [gE]
theorem ja {B k:Nat} {w:R8} (h:B<=k):(gE B w).heap[k]?=w.heap[k]?:=by
 simp only [gE,Array.getElem?_mapIdx];have i:¬k<B:=ap;simp [i]
theorem qM {B k:Nat} {w:R8} (h:k<B) (hk:k<w.heap.size):(gE B w).heap[k]?=some (.cells #[] 0 (0,0)):=by
 simp only [gE,Array.getElem?_mapIdx];simp [h,hk]
theorem tY (B:Nat) (w:R8):Keep (λj=>j<B) w (gE B w):=⟨rfl,rfl,rfl,by rw [jX];exact Qx _,λk _ hn=>ja ap⟩
theorem fQ {w:R8} {B base:Nat} {e:R9} {size:Nat} {v:Value} {n:Nat} {xs:R7} (h:w.ownsRow base e size v n xs) (hB:B<=base):(gE B w).ownsRow base e size v n xs:= (tY B w).own h λk hk hl=>by have:=(h.lt k hk).1;omega
theorem Fw {B:Nat} {w i:R8} (h:aq w i):Below (gE B w).heap.size (gE B w) (gE B i):=
 ⟨h.os,h.tape,h.output,by rw [jX,jX];exact h.size,λk hk=>by
  rw [jX] at hk;rcases QO k B with hb | hb
  .rw [qM hb (QE hk h.size),qM hb hk]
  .rw [ja hb,ja hb,h.block k hk]⟩
def Agr (B:Nat) (u v:R8):Prop:=∀k,B<=k->k<u.heap.size->v.heap[k]?=u.heap[k]?
theorem Agr.refl (B:Nat) (u:R8):Agr B u u:=λ_ _ _=>rfl
theorem Je {B:Nat} {u v:R8} {a:Addr} {x:Value} (h:(gE B u).cell? a=some x) (i:Agr B u v):v.cell? a=some x:=by
 have hl:=aB h;rw [jX] at hl;rcases QO a.block B with hb | hb
 .have o:=qM (w:=u) hb hl;rw [World.cell?] at h;simp only [o] at h;simp at h
 .exact (World.cell?_of_block (w:=gE B u) ((i _ hb hl).trans (ja hb).symm)).trans h
theorem tZ {B:Nat} {u v:R8} {b:Nat} {x:Value} {xs:R7} {t:R9} {i:Nat×Nat} (h:(gE B u).heap[b]?=some (.cells (x::xs).toArray t i)) (o:Agr B u v):v.heap[b]?=some (.cells (x::xs).toArray t i):=by
 have hl:=Qw h;rw [jX] at hl;rcases QO b B with hb | hb
 .rw [qM hb hl] at h;simp at h
 .rw [o b hb hl,<-ja hb];exact h
theorem mH {B:Nat} {u v:R8} {A:N_} {xs:R7} (h:Rd (gE B u) A xs) (i:Agr B u v):Rd v A xs:=λk x p=>by
 obtain ⟨b,o,e,hc⟩:=h k x p;exact ⟨b,o,e,Je hc i⟩
theorem Fi {B i:Nat} {u:R8} (h:B<=i):Agr i u (gE B u):=λk hk _=>ja ap
theorem gq:dN prog 22 3 (RI 0) 1 8:=⟨underlying22,info_parts (by kernel_rfl),rfl,by decide⟩
theorem m7 (A:N_) (zs:Q_) (c:Nat) (w:R8) (hA:Rd w A (aA .i64 zs)) (hl:zs.length<=17592186043904):Calls prog 101 #[.slice A zs.length c] w λe y=>∃v,e=.returned v/\y.ownsRow w.heap.size 3 1 v zs.length (aA .i64 zs)/\aq w y:=by
 have q:=λ(w:R8)=>Lib.run_eql_slice_nil (P:=prog) w 22 3 A zs.length c 0 0 underlying22
 cases A with
 | none=>
  have B:zs=[]:=by
   cases zs with
   | nil=>rfl
   | cons z l=>obtain ⟨b,o,h,_⟩:=hA 0 _ rfl;cases h
  subst B;clear q;have q:=λ(w:R8)=>Lib.run_eql_slice_nil (P:=prog) w 22 3 none 0 c 0 0 underlying22;simp only [Option.isNone_none] at q;rw [List.length_nil];go_enter func101,ntmps101;go_wp2;go_ret;exact ⟨_,rfl,QI _ _ _ _,QA _ _⟩
 | some a=>
  go_enter func101,ntmps101;go_wp2_with (at_builtin;refine dK gq _ rfl (.tmp 5) (.tmp 6) rfl w.heap.size _ 0 [] rfl (fh w 3 1) _ zs.length c (aA .i64 zs) rfl (hA.alloc _) (by rw [bU];omega) (cH _ _) ap (by unfold maxLen;omega) (by simp) ?_);intro H D C i hb _ _;have u:=((QA _ w).alloc (Qx _) (.cells #[] 3)).trans hb;obtain ⟨p,x⟩:=ae i u;clear i hb u;go_wp2;go_ret;exact ⟨_,rfl,p.o,x.o⟩
theorem nu (b:Nat) (sz:Q_) (w:R8) (h:cS 199 w b sz) (hl:sz.length<=17592186043904):Calls prog 227 #[(au b)] w λe x=>∃A c,e=.returned (.slice A sz.length c)/\x.ownsRow w.heap.size 3 1 (.slice A sz.length c) sz.length (aA .i64 sz)/\aq w x:=by
 obtain ⟨A1,c1,V,c2,U,c3,y,h1,C,N⟩:=h;obtain ⟨⟨I,D,O,B⟩,J⟩:=bx4 y;have hc:=m7 A1 sz c1 w h1 hl;have H:=aa hc;clear hc y h1 C N;go_enter func227,ntmps227;go_wp2_with fail;refine H.o.mono ?_;rintro e Q ⟨v,rfl,i,hb⟩;obtain ⟨T,R,rfl,u⟩:=aD i;obtain ⟨p,L⟩:=ae i hb;clear i hb u;clear I D O B J;go_wp2;go_ret;exact ⟨_,_,rfl,p.o,L.o⟩
theorem kZ (b:Nat) (sz:Q_) (w:R8) (h:cS 199 w b sz):Calls prog 228 #[(au b)] w λe o=>e=.returned (RI ((sz.length-1:Nat):Int))/\w=o:=by
 obtain ⟨A1,c1,A,c2,x,c3,i,h1,p,u⟩:=h;obtain ⟨⟨C,B,v,y⟩,D⟩:=bx4 i;clear i h1 p u;go_enter func228,ntmps228;go_wp2;go_ret;exact ⟨rfl,rfl⟩
theorem lh (b:Nat) (sz:Q_) (w:R8) (h:cS 199 w b sz):Calls prog 67 #[(au b)] w λe o=>e=.returned (RI (bS sz (sz.length-1):Int))/\w=o:=by
 obtain ⟨A1,c1,A,c2,x,c3,i,h1,p,u⟩:=h;obtain ⟨⟨C,B,v,y⟩,D⟩:=bx4 i;clear i h1 p u;go_enter func67,ntmps67;go_wp2;go_ret;exact ⟨rfl,rfl⟩
theorem pN (b:Nat) (sz:Q_) (k:Nat) (w:R8) (h:cS 199 w b sz) (hl:sz.length<=17592186043904) (hk:k<sz.length-1):Calls prog 229 #[(au b),RI k] w λe p=>e=.returned (.agg #[RI (bS sz k:Int),RI (dM sz k:Int)])/\aq w p:=by
 have i:=λp (hb:aq w p)=>kZ b sz p (h.below hb);have O:=h.lt;obtain ⟨A1,c1,A2,c2,A3,c3,y,h1,u,D⟩:=h;obtain ⟨n,hn⟩:∃n,sz.length-1=n:=⟨_,rfl⟩;rw [hn] at y u D hk i;obtain ⟨⟨Y,V,r2,U⟩,Z⟩:=bx4 y;obtain ⟨H,C⟩:=I7 sz hk;obtain ⟨b2,B,rfl,Q⟩:=u _ _ H;obtain ⟨N,I,A,L⟩:=u _ _ C;injection A with A;injection A with e3 e4 _
 subst e3;subst e4;rw [show B+(k*2+1)=B+k*2+1 by omega] at L;have T:=aB Q;have x:=aa i;have R:n<=17592186043904:=ap;clear i y h1 u D H C hn hl;go_enter func229,ntmps229;go_wp2_with fail;refine (x.o _ ?_).mono ?_
 .exact am
 rintro e p ⟨rfl,rfl⟩;have J:(k:Int)<n:=ap;go_wp2_with fail;refine QM (v:=.agg #[RI (bS sz k:Int),RI (dM sz k:Int)]) (by simp [results,results229,go_sem]) rfl ⟨rfl,?_⟩;exact am
theorem qN (b:Nat) (sz:Q_) (k:Nat) (w:R8) (h:cS 199 w b sz) (hl:sz.length<=17592186043904) (hk:k<sz.length-1):Calls prog 230 #[(au b),RI k] w λe p=>e=.returned (.agg #[RI (dM sz k:Int),RI (bS sz (k+1):Int)])/\aq w p:=by
 have i:=λp (hb:aq w p)=>kZ b sz p (h.below hb);have O:=h.lt;obtain ⟨A1,c1,A2,c2,A3,c3,y,h1,B,u⟩:=h;obtain ⟨n,hn⟩:∃n,sz.length-1=n:=⟨_,rfl⟩;rw [hn] at y B u hk i;obtain ⟨⟨Y,V,r2,U⟩,Z⟩:=bx4 y;obtain ⟨H,D⟩:=MC sz hk;obtain ⟨b2,C,rfl,Q⟩:=u _ _ H;obtain ⟨N,I,A,L⟩:=u _ _ D;injection A with A;injection A with e3 e4 _
 subst e3;subst e4;rw [show C+(k*2+1)=C+k*2+1 by omega] at L;have T:=aB Q;have x:=aa i;have R:n<=17592186043904:=ap;clear i y h1 B u H D hn hl;go_enter func230,ntmps230;go_wp2_with fail;refine (x.o _ ?_).mono ?_
 .exact am
 rintro e p ⟨rfl,rfl⟩;have J:(k:Int)<n:=ap;go_wp2_with fail;refine QM (v:=.agg #[RI (dM sz k:Int),RI (bS sz (k+1):Int)]) (by simp [results,results230,go_sem]) rfl ⟨rfl,?_⟩;exact am
theorem Fq (n:Int) (w:R8):Calls prog 99 #[RI n] w λe h=>e=.returned (.bool (!decide (1<=n/\n<=1048576)))/\w=h:=by
 by_cases h1:n<1
 .go_enter func99,ntmps99;go_wp2;go_ret;exact ⟨cP (by first | (simp;omega) | (simp;done)),rfl⟩
 .by_cases i:1048576<n
  .go_enter func99,ntmps99;go_wp2;go_ret;exact ⟨cP (by first | (simp;omega) | (simp;done)),rfl⟩
  .go_enter func99,ntmps99;go_wp2;go_ret;exact ⟨cP (by first | (simp;omega) | (simp;done)),rfl⟩
def N9 (sz:Q_) (e:Ending):Prop:=∃d:Int,e=.returned (RI d)/\ -1<=d/\(d<0↔∀k,k<sz.length->1<=nth sz k/\nth sz k<=1048576)
theorem xU (A:N_) (sz:Q_) (c:Nat) (w:R8) (hA:Rd w A (aA .i64 sz)) (hl:sz.length<=17592186043904):Calls prog 133 #[.slice A sz.length c,.func (.func 99) #[] #[]] w λe C=>N9 sz e/\w=C:=by
 obtain ⟨n,hn⟩:∃n,sz.length=n:=⟨_,rfl⟩;have hw:=λz=>Fq z w;rw [hn] at hl |-;obtain ⟨HA,H,I⟩:=af hA hn hw;clear hA hn hw;go_enter func133,ntmps133;go_wp2_with fail
 go_loop [5,8] (λ_ i=>∃k:Nat,k<=n/\i=RI k/\an (∀j,j<k->1<=nth sz j/\nth sz j<=1048576)) (λ_ i=>n-(intOf i).toNat)
 .exact ⟨0,QB _,rfl,aa λj J=>ap⟩
 case round=>
  obtain ⟨k,hk,rfl,u⟩:=hrel;by_cases B:k<n
  .obtain ⟨b,o,rfl,p⟩:=HA.o.num (show k<sz.length by rw [H.o];exact B);by_cases x:1<=nth sz k/\nth sz k<=1048576
   .have y:(!decide (1<=nth sz k/\nth sz k<=1048576))=false:=by simp [x.1,x.2]
    have hw:=I.o (nth sz k);rw [y] at hw;obtain ⟨D,v⟩:=ae x hw;clear x hw y;go_wp2_with fail;refine v.o.mono ?_;rintro e C ⟨rfl,rfl⟩;go_wp2_with fail;go_round
    case rel=>exact ⟨k+1,by omega,by go_num,aa (p:=∀j,j<k+1->1<=nth sz j/\nth sz j<=1048576) λj J=>by
     rcases QO j k with h | h
     .exact u.out j h
     .obtain rfl:j=k:=ap
      exact D.o⟩
    case measure=>simp [intOf];omega
   .have y:(!decide (1<=nth sz k/\nth sz k<=1048576))=true:=by simp;omega
    have hw:=I.o (nth sz k);rw [y] at hw;obtain ⟨D,v⟩:=ae x hw;clear x hw y;go_wp2_with fail;refine v.o.mono ?_;rintro e C ⟨rfl,rfl⟩;go_wp2_with fail;go_ret;exact ⟨⟨k,rfl,by omega,λh=>ap,λh=>absurd (h k (by rw [H.o];exact B)) D.o⟩,rfl⟩
  .obtain rfl:k=n:=ap;go_wp2_with fail;go_ret;exact ⟨⟨-1,rfl,by omega,λ_=>by rw [H.o];exact u.out,λ_=>ap⟩,rfl⟩
theorem zh (A:N_) (sz:Q_) (c:Nat) (w:R8) (hA:Rd w A (aA .i64 sz)) (hl:sz.length<=17592186043904) (h:¬∀k,k<sz.length->1<=nth sz k/\nth sz k<=1048576):Calls prog 100 #[.slice A sz.length c,.func (.func 99) #[] #[]] w λe p=>e=.returned (.bool true)/\w=p:=by
 have u:=xU A sz c w hA hl;obtain ⟨x,H⟩:=ae u h;clear u hA h;go_enter func100,ntmps100;go_wp2_with fail;refine x.o.mono ?_;rintro e p ⟨⟨d,rfl,y,i⟩,rfl⟩
 have v:0<=d:=by
  rcases Int.lt_or_le d 0 with h | h
  .exact absurd (i.1 h) H.o
  .exact h
 clear i;go_wp2;go_ret;exact ⟨cP (by simp [v]),rfl⟩
theorem BP (A:N_) (sz:Q_) (c:Nat) (w:R8) (hA:Rd w A (aA .i64 sz)) (hl:sz.length<=17592186043904) (h:∀k,k<sz.length->1<=nth sz k/\nth sz k<=1048576):Calls prog 100 #[.slice A sz.length c,.func (.func 99) #[] #[]] w λe p=>e=.returned (.bool false)/\w=p:=by
 have u:=xU A sz c w hA hl;obtain ⟨v,H⟩:=ae u h;clear u hA h;go_enter func100,ntmps100;go_wp2_with fail;refine v.o.mono ?_;rintro e p ⟨⟨d,rfl,x,i⟩,rfl⟩;have y:d<0:=i.2 H.o;clear i;go_wp2;go_ret;exact ⟨cP (by simp;omega),rfl⟩
theorem AR (m N:Nat) (P S:Nat) (v0 v1 v2:Value) (w:R8) (hP:w.heap[P]?=some (.cells #[(au S)] 151 (0,0))) (h:w.heap[S]?=some (.cells #[v0,v1,v2,RI N] 199 (0,0))) (H:N<=17592202821632) (hm:m<=17592202821632):Calls prog 102 #[RI m,(au P)] w λe p=>e=.returned (.agg #[RI N,RI ((N+m:Nat):Int)])/\p.heap[S]?=some (.cells #[v0,v1,v2,RI ((N+m:Nat):Int)] 199 (0,0))/\Keep (λi=>i=S) w p:=by
 obtain ⟨B,D⟩:=bx1 hP;obtain ⟨⟨s0,s1,s2,A⟩,C⟩:=bx4 h;have x:=Qw hP;have u:=Qw h;have y:=aa h;clear h hP;rw [Int.natCast_add];go_enter func102,ntmps102;go_wp2_with fail
 go_region
 all_goals go_wp2_with fail
 refine QM (v:=.agg #[RI N,RI ((N:Int)+(m:Int))]) (by simp [results,results102,go_sem]) rfl ⟨rfl,?_,?_⟩
 .have h1:(w.setCell (ar S 3) (RI ((N:Int)+(m:Int)))).heap[S]?=some (.cells #[v0,v1,v2,RI ((N:Int)+(m:Int))] 199 (0,0)):=RG w S 3 _ _ _ y.o;have l1:=Qw h1;exact (QL _ _ S (by simp at l1 |-;omega)).trans ((QL _ _ S l1).trans h1)
 .exact (((Keep.setCell (S:=λi=>i=S) (Keep.refl _ w) (ar S 3) (.inr rfl) _).alloc _).alloc _).drew
theorem ay {W:R8} {b:Nat} {u:R6} {t e:R9} {y:Nat×Nat} (h:W.heap[b]?=some (.cells u t y)) (o:t≠e) {base size k:Nat} {v:Value} {xs:R7} (hr:W.ownsRow base e size v k xs):some b≠v.ownBlock:=by
 rcases hr.2 with ⟨rfl,_⟩ | ⟨g,cap,p,rfl,_,i,_⟩
 .simp [Value.ownBlock]
 .intro x;obtain rfl:b=g:=by simpa [Value.ownBlock] using x
  have:=h.symm.trans i;simp at this;exact o this.2.1
theorem eh {W u:R8} {b:Nat} {p:R6} {t e:R9} {x:Nat×Nat} {o:Obj} (h:W.heap[b]?=some (.cells p t x)) (i:t≠e) {base size k:Nat} {v:Value} {xs:R7} (hr:W.ownsRow base e size v k xs) (hg:(W.alloc o).grownBy u v.ownBlock):u.heap[b]?=some (.cells p t x):= (hg.block b (by have:=Qw h;simp;omega) (ay h i hr)).trans ((QL W o b (Qw h)).trans h)
theorem DT {W i:R8} {b o:Nat} {u:Value} {e:R9} {p:Obj} (h:W.cell? (ar b o)=some u) {base size k:Nat} {v:Value} {xs:R7} (hb:b<base) (hr:W.ownsRow base e size v k xs) (hg:(W.alloc p).grownBy i v.ownBlock):i.cell? (ar b o)=some u:=
 hg.cell ((World.cell?_of_block (w:=W) (QL W p b (aB h))).trans h) (λe=>by
  have x:v.ownBlock=some b:=e.symm;have:=(hr.lt b x).1
  omega)
theorem xy {W B:R8} {base':Nat} {A:R9} {h m:Nat} {v v' u:Value} {ys:R7} {o:Obj} (y:W.ownsRow base' A h u m ys) (x:∀i,v.ownBlock=some i->u.ownBlock≠some i) (hg:(W.alloc o).grownBy B v.ownBlock) (p:v'.ownBlock=v.ownBlock\/v'.ownBlock=some (W.alloc o).heap.size):B.ownsRow base' A h u m ys/\∀i,v'.ownBlock=some i->u.ownBlock≠some i:=by
 refine ⟨(y.alloc o).kept hg ?_,λi C=>?_⟩
 .cases hub:u.ownBlock with
  | none=>exact .inl rfl
  | some k=>exact .inr λe=>x k e.symm hub
 .rcases p with p | p
  .exact x i (p▸C)
  .intro e;have h1:=(y.lt i e).2;rw [C] at p;simp at p;omega
theorem aJ {W:R8} {p:Addr} {u:Value} (h:W.cell? p=some u) (o:Obj):(W.alloc o).cell? p=some u:= (World.cell?_of_block (w:=W) (QL W o _ (aB h))).trans h
theorem aw {w i:R8} {p:Addr} {u:Value} (hb:aq w i) (h:w.cell? p=some u):i.cell? p=some u:=(World.cell?_of_block (w:=w) (hb.block _ (aB h))).trans h
theorem jP {W:R8} {B H v y s1 s2 D I:Nat} {v1 v2:Value} {u o:R7} (h1:W.ownsRow B v s1 v1 D u) (C:W.ownsRow H y s2 v2 I o) (p:v≠y):∀i,v1.ownBlock=some i->v2.ownBlock≠some i:=by
 intro i x e;rcases h1.2 with ⟨rfl,_⟩ | ⟨g,cap,A,rfl,_,h,_⟩
 .cases x
 .obtain rfl:g=i:=by simpa [Value.ownBlock] using x
  exact ay h p C e.symm
theorem AG {W x:R8} {p e h size n m:Nat} {v u y:Value} {xs ys:R7} {o:Obj} {base base' B j:Nat} {J:R6} {t:R9} (C:W.ownsRow base' p h u m ys) (H:W.ownsRow base e size v n xs) (hg:(W.alloc o).grownBy x v.ownBlock) (hB:x.heap[B]?=some (.cells J t (0,0))) (h1:e≠p) (I:t≠p):(x.setCell (ar B j) y).ownsRow base' p h u m ys:=by
 have D:x.ownsRow base' p h u m ys:=by
  refine (C.alloc o).kept hg ?_
  cases hub:u.ownBlock with
  | none=>exact .inl rfl
  | some k=>exact .inr λA=>jP H C h1 k A.symm hub
 exact (Keep.setCell (S:=λi=>i=B) (Keep.refl _ x) (ar B j) (.inr rfl) y).own D (λi L A=>ay hB I D (by rw [L,A]))
theorem rv {W i:R8} {r:Option Nat} (h:W.drew.grownBy i r):W.grownBy i r:=⟨h.os,h.tape,h.output,h.size,h.block⟩
theorem oN {T:R9} {B:Nat} {u v:R8} {b:Nat} {sz:Q_} (h:cS T (gE B u) b sz) (i:Agr B u v):cS T v b sz:=by
 obtain ⟨A1,c1,p,c2,o,c3,y,h1,x,A⟩:=h;exact ⟨A1,c1,p,c2,o,c3,tZ y i,mH h1 i,mH x i,mH A i⟩
theorem nd:dN prog 159 69 (.agg #[RI 0,RI 0]) 2 16:=⟨underlying159,info_parts (by kernel_rfl),rfl,by decide⟩
def Qp (sz:Q_) (o:Value) (P S:Nat) (k:Nat) (p w:R8):Prop:=
 ∃A1 c1 h c2,w.heap[P]?=some (.cells #[(au S)] 151 (0,0))/\w.heap[S]?=some (.cells #[o,.slice A1 k c1,.slice h k c2,RI (bS sz k:Int)] 199 (0,0))/\
  w.ownsRow S 69 2 (.slice A1 k c1) k (qF sz k)/\w.ownsRow S 69 2 (.slice h k c2) k (rD sz k)/\(∀i,(Value.slice A1 k c1).ownBlock=some i->(Value.slice h k c2).ownBlock≠some i)/\Below S p w
theorem Cx (A:N_) (sz:Q_) (c:Nat) (w:R8) (hc:sz.length<=c) (hm:c<=9223372036854775807) (h:¬(2<=sz.length/\sz.length<=16)):Calls prog 65 #[.slice A sz.length c] w λe i=>e=.returned (.tuple #[.pointer none,RI 5])/\w=i:=by
 by_cases h1:sz.length<2
 .go_enter func65,ntmps65;go_wp2;go_ret2;exact ⟨rfl,rfl⟩
 .have o:16<sz.length:=ap;go_enter func65,ntmps65;go_wp2;go_ret2;exact ⟨rfl,rfl⟩
theorem Cw (A:N_) (sz:Q_) (c:Nat) (w:R8) (hA:Rd w A (aA .i64 sz)) (hc:sz.length<=c) (hm:c<=9223372036854775807) (h:2<=sz.length/\sz.length<=16) (hb:¬∀k,k<sz.length->1<=nth sz k/\nth sz k<=1048576):Calls prog 65 #[.slice A sz.length c] w λe u=>e=.returned (.tuple #[.pointer none,RI 5])/\w=u:=by
 obtain ⟨h1,v⟩:=h;have i:=zh A sz c w hA ap hb;have p:=aa i;clear i hb hA;go_enter func65,ntmps65;go_wp2_with fail;refine p.o.mono ?_;rintro e u ⟨rfl,rfl⟩;go_wp2;go_ret2;exact ⟨rfl,rfl⟩
theorem zJ (A:N_) (sz:Q_) (c:Nat) (w:R8) (hA:Rd w A (aA .i64 sz)) (hc:sz.length<=c) (hm:c<=9223372036854775807) (h:dm sz):Calls prog 65 #[.slice A sz.length c] w λe D=>aq w D/\((1048576<bS sz (sz.length-1)/\e=.returned (.tuple #[.pointer none,RI 4]))\/
   (bS sz (sz.length-1)<=1048576/\∃b,e=.returned (.tuple #[(au b),RI 0])/\cS 199 (gE w.heap.size D) b sz/\w.heap.size<=b)):=by
 obtain ⟨b,o,rfl,_⟩:=hA.num (show 0<sz.length by have:=h.1.1;omega);have b7:=BP (some (ar b o)) sz c w hA (by have:=h.1.2;omega) h.2;have bb:=m7 (some (ar b o)) sz c w hA (by have:=h.1.2;omega);obtain ⟨n,hn⟩:∃n,sz.length=n:=⟨_,rfl⟩;obtain ⟨h1,h2⟩:=h.1;rw [hn] at h1 h2 b7 bb hc |-;have e0:¬(c=1):=ap;have dG:1<=c:=ap;obtain ⟨d9,dd,cr,HR,Hn⟩:=ah b7 bb hA h hn;clear b7 bb hA h hn;go_enter func65,ntmps65;go_wp2_with fail;refine d9.o.mono ?_;rintro e D ⟨rfl,rfl⟩;go_wp2_with fail;refine dd.o.mono ?_;rintro e u ⟨v,rfl,U,hb⟩;obtain ⟨Ac,cc,rfl,cl⟩:=aD U;obtain ⟨cs,Hb,dT⟩:=af U hb cl;clear U hb cl;go_wp2_with fail
 go_loopw [30] (λi wr=>∃k:Nat,k<=n-1/\i=RI k/\Qp sz (.slice Ac n cc) (u.heap.size+1) u.heap.size k u wr) (λi _=>n-(intOf i).toNat)
 case atStart=>
  refine ⟨0,QB _,rfl,none,0,none,0,?_,?_,QI _ _ _ _,QI _ _ _ _,(λi y=>by cases y),?_⟩
  .have:=Qy (u.alloc (.cells #[.slice Ac n cc,RJ,RJ,RI 0] 199)) (.cells #[(au u.heap.size)] 151);simpa using this
  .exact (QL _ _ _ (by simp)).trans (Qy u _)
  .exact am
 case round=>
  obtain ⟨k,hk,rfl,A1,c1,A2,c2,hP,hS,c9,bM,be,hW⟩:=hrel;have ab:k<sz.length:=by rw [Hn.o];omega
  have d6:=HR.o.bound ab;obtain ⟨x0,xf⟩:=bx1 hP;obtain ⟨⟨s0,s1,s2,s3⟩,sf⟩:=bx4 hS;have cO:=Qw hP;have d0:=Qw hS;obtain ⟨HP,HS,ao,aG,HN,HW⟩:=ai hP hS c9 bM be hW;clear hP hS c9 bM be hW;by_cases dv:k<n-1
  .have C:k+1<sz.length:=by rw [Hn.o];omega
   have c8:=HR.o.mul C;have z0:=HR.o.at ab;have z1:=HR.o.at C;obtain ⟨_,_,e',p0⟩:=cr.o.num ab;injection e' with e';injection e' with e1 e2 _;subst e1;subst e2
   obtain ⟨_,_,e',p1⟩:=cr.o.num C;injection e' with e';injection e' with e1 e2 _;subst e1;subst e2
   have bv:b<w.heap.size:=aB p0;have cj:b<u.heap.size:=by have:=Hb.o.size;omega
   have b5:=((Hb.o.trans (HW.o.mono Hb.o.size)).cell (p:=(ar b (o+k))) bv).trans p0;have d2:=((Hb.o.trans (HW.o.mono Hb.o.size)).cell (p:=⟨b,o+(k+1),none⟩) bv).trans p1;rw [z0.2.2] at b5;rw [z1.2.2,show o+(k+1)=o+1+k by omega] at d2;have J:dM sz k=bS sz k+szN sz (k+1)*szN sz k:=rfl;obtain ⟨p,hp⟩:∃p,szN sz (k+1)*szN sz k=p:=⟨_,rfl⟩;rw [hp] at c8 J;have I:=λW (h1:W.heap[u.heap.size+1]?=_) (h2:W.heap[u.heap.size]?=_)=>AR p (bS sz k) (u.heap.size+1) u.heap.size (.slice Ac n cc) (.slice A1 k c1) (.slice A2 k c2) W h1 h2 d6 ap;rw [<-J] at I;have d7:(szN sz (k+1):Int)*(szN sz k:Int)=(p:Int):=by rw [<-Int.natCast_mul,hp]
   have d5:IntKind.i64.wrap (p:Int)=(p:Int):=QC _ ap;obtain ⟨ci,dp⟩:=ae I J;clear I p0 p1 z0 z1 J;have dw:(k:Int)<n:=ap;go_wp2_with fail;have x:(λD:R8=>D.cell? (ar (u.heap.size+1) 0)=some ((au u.heap.size))/\D.cell? (ar u.heap.size 1)=some (.slice A1 k c1)/\D.cell? (ar b (o+k))=some (RI (szN sz k))) wr.drew:=⟨x0,s1,b5⟩;refine XA.g 15 (λD:R8=>D.cell? (ar (u.heap.size+1) 0)=some ((au u.heap.size))/\D.cell? (ar u.heap.size 1)=some (.slice A1 k c1)/\D.cell? (ar b (o+k))=some (RI (szN sz k))) ?_;refine XA.t ?_ [0,1,2,3,4,5,6,7,8,9,10,11] x ?_;refine XA.o 12 (λK H=>?_);go_simp;refine (ci.o wr.drew HP.o HS.o).mono ?_;rintro e w3 ⟨rfl,ad,a2⟩;have g0:=a2.cell (p:=(ar (u.heap.size+1) 0)) x0 (by simp);have g1:=Qz w3 _ 1 _ _ _ ad;have g2:=a2.cell (p:=(ar b (o+k))) b5 (by simp;omega);have l0:u.heap.size+1<w3.heap.size:=aB g0;have l1:u.heap.size<w3.heap.size:=aB g1;have l2:b<w3.heap.size:=aB g2;obtain ⟨bz,T⟩:=ae ad a2;clear ad a2;dsimp only;refine H.out _ _ ⟨g0,g1,g2⟩ (λx=>?_);clear H K;refine XA.o 13 (λK H=>?_);go_simp;refine H.out _ _ ⟨aJ g0 _,aJ g1 _,aJ g2 _⟩ (λx=>?_);clear H K;have bV:=T.o.own (bZ ao.o 1) (λi y e=>ay HS.o (by decide) ao.o (by rw [y,e]));have bO:=(T.o.block _ (Qw HP.o) ap).trans HP.o;obtain ⟨Z,bo⟩:=ae bV bO;clear bV bO;refine XA.o 14 (λK H=>?_);refine bW nd (.tmp 39) (.tmp 48) rfl rfl u.heap.size (.slice A1 k c1) k (qF sz k) rfl (Z.o.alloc _) (some (ar w3.heap.size 0)) 1 1 [RI (bS sz k:Int),RI (dM sz k:Int)] rfl (dV w3 _ _ _ rfl) rfl (by simp [Value.oneCell']) ap (by unfold maxLen;omega) (by simp;omega) ?_;intro A4 c4 w4 co cy Y bn;have aR:=eh bo.o (by decide) Z.o Y;have a5:=eh bz.o (by decide) Z.o Y;have i0:=Qz w4 _ 0 _ _ _ aR;have i1:=Qz w4 _ 1 _ _ _ a5;have i2:=DT g2 cj Z.o Y;have i3:=QG w4 _ 1 _ _ a5;obtain ⟨b0,bs,a1,bN,cb,bh⟩:=ai co aR a5 Y bn cy;clear co aR a5 Y bn cy;dsimp only;refine H.out _ _ ⟨i0,i1,i2⟩ (λx=>?_);clear H K x;refine XA.e ?_;simp only [Re,Rf];go_wp2_with fail;obtain ⟨L,a4⟩:=xy (T.o.own (bZ aG.o 1) (λi y e=>ay HS.o (by decide) aG.o (by rw [y,e]))) HN.o bN.o cb.o;have O:=(Below.heap_setCell w4 (ar u.heap.size 1) (.slice A4 (k+1) c4) (u.heap.size+1) (by simp)).trans bs.o;have Q:=RG w4 u.heap.size 1 _ _ (.slice A4 (k+1) c4) a1.o;have b2:Keep (λi=>i=u.heap.size) w4 (w4.setCell (ar u.heap.size 1) (.slice A4 (k+1) c4)):=Keep.setCell (S:=λi=>i=u.heap.size) (Keep.refl _ _) (ar u.heap.size 1) (.inr rfl) _;have a0:=b2.own b0.o (λi y e=>ay a1.o (by decide) b0.o (by rw [y,e]));have V:=b2.own L (λi y e=>ay a1.o (by decide) L (by rw [y,e]))
   have b3:aq u (w4.setCell (ar u.heap.size 1) (.slice A4 (k+1) c4)):=
    ((HW.o.drew.trans ((T.o.toBelow (B:=u.heap.size) (by simp;omega) (λi y=>ap)))).trans ((((QA _ w3).alloc ap _)).trans bh.o)).setCell (by simp) _
   rw [<-pY] at a0;obtain ⟨w5,bI⟩:∃w5,w5=w4.setCell (ar u.heap.size 1) (.slice A4 (k+1) c4):=⟨_,rfl⟩;rw [<-bI] at O Q a0 V b3 |-;clear bI b2 L i0 i1 i2 i3 g0 g1 g2 l0 l1 l2 x0 xf s0 s1 s2 s3 sf;obtain ⟨x0,xf⟩:=bx1 O;have y2:=Qz w5 _ 2 _ _ _ Q;have aM:=fR sz k;have z1:=(HR.o.at C).2.1;have dr:=HR.o.bound C;have I:=λW (h1:W.heap[u.heap.size+1]?=_) (h2:W.heap[u.heap.size]?=_)=>AR (szN sz (k+1)) (dM sz k) (u.heap.size+1) u.heap.size (.slice Ac n cc) (.slice A4 (k+1) c4) (.slice A2 k c2) W h1 h2 ap ap;rw [aM] at I;have cO:=Qw O;have d0:=Qw Q;obtain ⟨dc,b6,aP,bl,a8,cY,da,ds⟩:=ak I O Q a0 V a4 b3 aM;clear I O Q a0 V a4 b3 aM ci T bz Z bo b0 bs a1 bN cb bh d7 d5;go_wp2_with fail;have x:(λD:R8=>D.cell? (ar (u.heap.size+1) 0)=some ((au u.heap.size))/\D.cell? (ar u.heap.size 2)=some (.slice A2 k c2)) w5.drew:=⟨x0,y2⟩;refine XA.g 10 (λD:R8=>D.cell? (ar (u.heap.size+1) 0)=some ((au u.heap.size))/\D.cell? (ar u.heap.size 2)=some (.slice A2 k c2)) ?_;refine XA.t ?_ [0,1,2,3,4,5,6] x ?_;refine XA.o 7 (λK H=>?_);go_simp;refine (dc.o w5.drew b6.o aP.o).mono ?_;rintro e w6 ⟨rfl,b8,av⟩;have g0:=av.cell (p:=(ar (u.heap.size+1) 0)) x0 (by simp);have g1:=Qz w6 _ 2 _ _ _ b8;have l0:u.heap.size+1<w6.heap.size:=aB g0;obtain ⟨d4,a7⟩:=ae b8 av;clear b8 av;dsimp only;refine H.out _ _ ⟨g0,g1⟩ (λx=>?_);clear H K;refine XA.o 8 (λK H=>?_);go_simp;refine H.out _ _ ⟨aJ g0 _,aJ g1 _⟩ (λx=>?_);clear H K;have cn:=a7.o.own (bZ a8.o 1) (λi y e=>ay aP.o (by decide) a8.o (by rw [y,e]));have bX:=(a7.o.block _ (Qw b6.o) ap).trans b6.o;obtain ⟨b4,d3⟩:=ae cn bX;clear cn bX;refine XA.o 9 (λK H=>?_);refine bW nd (.tmp 56) (.tmp 60) rfl rfl u.heap.size (.slice A2 k c2) k (rD sz k) rfl (b4.o.alloc _) (some (ar w6.heap.size 0)) 1 1 [RI (dM sz k:Int),RI (bS sz (k+1):Int)] rfl (dV w6 _ _ _ rfl) rfl (by simp [Value.oneCell']) ap (by unfold maxLen;omega) (by simp;omega) ?_;intro A7 c7 w7 bw cw a3 cd;have b1:=eh d3.o (by decide) b4.o a3;have a6:=eh d4.o (by decide) b4.o a3;have i0:=Qz w7 _ 0 _ _ _ b1;have i1:=Qz w7 _ 2 _ _ _ a6;have i3:=QG w7 _ 2 _ _ a6;obtain ⟨bA,cL,b9,cI,dn,d1⟩:=ai bw b1 a6 a3 cd cw;clear bw b1 a6 a3 cd cw;dsimp only;refine H.out _ _ ⟨i0,i1⟩ (λx=>?_);clear H K x;refine XA.e ?_;simp only [Re,Rf];go_wp2_with fail;obtain ⟨L,a4⟩:=xy (a7.o.own (bZ bl.o 1) (λi y e=>ay aP.o (by decide) bl.o (by rw [y,e]))) (λi y e=>cY.o i e y) cI.o dn.o;have df:=(Below.heap_setCell w7 (ar u.heap.size 2) (.slice A7 (k+1) c7) (u.heap.size+1) (by simp)).trans cL.o;have cA:=RG w7 u.heap.size 2 _ _ (.slice A7 (k+1) c7) b9.o;have c6:Keep (λi=>i=u.heap.size) w7 (w7.setCell (ar u.heap.size 2) (.slice A7 (k+1) c7)):=Keep.setCell (S:=λi=>i=u.heap.size) (Keep.refl _ _) (ar u.heap.size 2) (.inr rfl) _;have bf:=c6.own bA.o (λi y e=>ay b9.o (by decide) bA.o (by rw [y,e]));have cf:=c6.own L (λi y e=>ay b9.o (by decide) L (by rw [y,e]))
   have d8:aq u (w7.setCell (ar u.heap.size 2) (.slice A7 (k+1) c7)):=
    ((da.o.drew.trans ((a7.o.toBelow (B:=u.heap.size) (by simp;omega) (λi y=>ap)))).trans ((((QA _ w6).alloc ap _)).trans d1.o)).setCell (by simp) _
   rw [<-qA] at bf;go_roundw
   .exact ⟨k+1,by omega,by go_num,A4,c4,A7,c7,df,cA,cf,bf,λi y e=>a4 i e y,d8⟩
   .simp [intOf];omega
  .obtain rfl:k=n-1:=ap;have N:sz.length-1=n-1:=by rw [Hn.o]
   have cx:cS 199 (gE w.heap.size wr) u.heap.size sz:=by
    have dk:=Hb.o.size;refine ⟨Ac,cc,A1,c1,A2,c2,?_,?_,?_,?_⟩
    .rw [Hn.o,ja dk];exact HS.o
    .exact Rd.own (fQ (az cs.o HW.o) (Qx _))
    .rw [N];exact Rd.own (fQ ao.o ap)
    .rw [N];exact Rd.own (fQ aG.o ap)
   have a9:aq w wr:=Hb.o.trans (HW.o.mono Hb.o.size);obtain ⟨bG,R,bi⟩:=af cx a9 Hb.o.size;clear cx a9 N;by_cases cv:1048576<bS sz (n-1)
   .have cM:(1048576:Int)<bS sz (n-1):=ap;go_wp2_with fail;go_ret2;exact ⟨R.o,.inl ⟨cv,rfl⟩⟩
   .have cM:¬(1048576:Int)<bS sz (n-1):=ap;go_wp2_with fail;go_ret2
    first | exact ⟨R.o,by omega,_,rfl,bG.o,bi.o⟩ | exact ⟨R.o,.inr ⟨by omega,_,rfl,bG.o,bi.o⟩⟩
end Go.Proofs.YtindmkcnjlgomaaGreat
namespace Go.Proofs.YtindmkcnjlgomaaGreat
open Go.RowKit Go.ChangeShapes Go.WideShapes Go.ChangeAt
open Tryz
theorem jH:kD prog 3 1 (OF .i64):=xB underlying3 (by kernel_rfl)
theorem qo:kD prog 26 1 (Es .i64):=qm underlying26 underlying2 (by kernel_rfl) (by kernel_rfl) (by kernel_rfl)
theorem uO:kD prog 22 1 (Es .i64):=qm underlying22 underlying3 (by kernel_rfl) (by kernel_rfl) (by kernel_rfl)
theorem yp {l:Q_} (h:∀z∈l,(Lit.int .i64 z).wf=true):W64 l:=λk hk=>by
 have:=h _ (yR hk);simpa [Lit.wf,IntKind.min,IntKind.max,IntKind.signed,IntKind.bits] using this
end Go.Proofs.YtindmkcnjlgomaaGreat
