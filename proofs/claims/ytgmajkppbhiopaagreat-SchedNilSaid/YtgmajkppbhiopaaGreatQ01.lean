/- No condition. -/
import Derived.Test.YtgmajkppbhiopaaGreatQ00
import Derived.WalkKit
import Derived.Lib.Hide
import Derived.Deep.Draws
import Derived.Deep.AppendLies
import Derived.Maps.AppendAt
import Derived.WalkSmall
import Derived.StillTail
import Derived.OrdersHeld
import Derived.Deep.RegionHeld
import Derived.Deep.MidRow
import Derived.ProofKit
import Derived.OpenShut
import Derived.Deep.Slices
import Derived.RowKit
set_option linter.unusedSimpArgs false
set_option linter.unusedVariables false
set_option maxRecDepth 100000
set_option maxHeartbeats 4000000
namespace Go.Proofs.YtgmajkppbhiopaaGreat
open Go.RowKit
def nth (l:Qa) (k:Nat):Int:=l.getD k 0
theorem dd (l:Qa) (k:Nat) (h:k<l.length):nth l k=l[k]:=by simp [nth,List.getD,h]
theorem fy (l:Qa) (k:Nat) (h:k<l.length):l.take (k+1)=l.take k++[nth l k]:=by
 rw [List.take_succ_eq_append_getElem h,dd l k h]
theorem pK {l1 i:Qa} {k:Nat} (h1:k<l1.length) (o:k<i.length) (h:l1.take k=i.take k) (p:nth l1 k=nth i k):l1.take (k+1)=i.take (k+1):=by
 rw [fy l1 k h1,fy i k o,h,p]
theorem tD {l1 i:Qa} (h:l1.length=i.length) (o:l1.take l1.length=i.take l1.length):l1=i:=by
 rw [Oq] at o;rw [o,h,Oq]
theorem bD {k:IntKind} {a b:Int} (h:a=b):Ending.returned (.int k a)=.returned (.int k b):=by rw [h]
theorem df {a b:Bool} (h:a=b):Ending.returned (.bool a)=.returned (.bool b):=by rw [h]
def aA (q:IntKind) (zs:Qa):Qc:=zs.map (.int q)
theorem bS (q:IntKind) (zs:Qa):(aA q zs).length=zs.length:=by simp [aA]
theorem cT (q:IntKind) (a b:Qa):aA q (a++b)=aA q a++aA q b:=by simp [aA]
theorem lK (q:IntKind) (zs:Qa) (k:Nat) (h:k<zs.length):(aA q zs)[k]?=some (.int q (nth zs k)):=by
 simp [aA,dd zs k h,h]
theorem yB (q:IntKind) (zs:Qa) (k:Nat) (a:Int):(aA q zs).set k (.int q a)=aA q (zs.set k a):=by simp [aA,List.map_set]
theorem cJ (q:IntKind) (zs:Qa):∀u∈aA q zs,u.oneCell'=true:=ints_oneCell q zs
theorem di (q:IntKind) (zs:Qa) (n:Nat):(aA q zs).take n=aA q (zs.take n):=by simp [aA,List.map_take]
theorem dz (q:IntKind) (zs:Qa) (n:Nat):(aA q zs).drop n=aA q (zs.drop n):=by simp [aA,List.map_drop]
theorem fp (q:IntKind) (n:Nat) (a:Int):List.replicate n (Value.int q a)=aA q (List.replicate n a):=by simp [aA]
def Rd (w:Qd) (A:N_) (xs:Qc):Prop:=
 ∀k u,xs[k]?=some u->∃b o,A=some (ar b o)/\w.cell? (ar b (o+k))=some u
theorem aB {w:Qd} {a:Addr} {u:Value} (h:w.cell? a=some u):a.block<w.heap.size:=World.block_lt_of_cell? w a h
theorem Rd.nil (w:Qd) (A:N_):Rd w A []:=fun k u h=>by simp at h
theorem Rd.num {w:Qd} {A:N_} {q:IntKind} {zs:Qa} (h:Rd w A (aA q zs)) {k:Nat} (hk:k<zs.length):
  ∃b o,A=some (ar b o)/\w.cell? (ar b (o+k))=some (.int q (nth zs k)):=h k _ (lK q zs k hk)
theorem Rd.same {w i:Qd} {A:N_} {xs:Qc} (h:Rd w A xs) (hb:∀b,b<w.heap.size->i.heap[b]?=w.heap[b]?):Rd i A xs:=fun k u p=>by
 obtain ⟨b,o,hA,hc⟩:=h k u p;exact ⟨b,o,hA,(World.cell?_of_block (w:=w) (hb _ (aB hc))).trans hc⟩
theorem Rd.below {w i:Qd} {A:N_} {xs:Qc} (h:Rd w A xs) (hb:aq w i):Rd i A xs:=h.same hb.block
theorem Rd.alloc {w:Qd} {A:N_} {xs:Qc} (h:Rd w A xs) (o:Obj):Rd (w.alloc o) A xs:=h.same fun b hb=>NW w o b hb
theorem Rd.drew {w:Qd} {A:N_} {xs:Qc} (h:Rd w A xs):Rd w.drew A xs:=h
theorem Rd.drewN {w:Qd} {A:N_} {xs:Qc} (h:Rd w A xs) (n:Nat):Rd (w.drewN n) A xs:=h
theorem Rd.belowB {B:Nat} {w v:Qd} {A:N_} {xs:Qc} (h:Rd w A xs) (hb:Below B w v) (hA:∀a,A=some a->a.block<B):Rd v A xs:=fun k u x=>by
 obtain ⟨b,o,i,hc⟩:=h k u x;exact ⟨b,o,i,(hb.cell (p:=(ar b (o+k))) (show b<B from hA _ i)).trans hc⟩
theorem Rd.own {w:Qd} {base:Nat} {e:Qf} {size n c:Nat} {A:N_} {xs:Qc} (h:w.ownsRow base e size (.slice A n c) n xs):Rd w A xs:=fun k u p=>by
 have hk:k<xs.length:=(Oe.1 p).1;rcases h.2 with ⟨_,y⟩ | ⟨g,cap,v,o,_,hg,_,_,_,i⟩
 ·have:=h.1;rw [y] at this;omega
 ·simp only [Ou] at o;obtain ⟨rfl,_,rfl⟩:=o;refine ⟨g,0,rfl,?_⟩;have x:=h.cellAt k (by have:=h.1;omega);rw [Oz,x,p]
theorem Rd.grown {w p:Qd} {row:Option Nat} {A:N_} {xs:Qc} (h:Rd w A xs) (hg:w.grownBy p row) (hA:∀a,A=some a->some a.block≠row):Rd p A xs:=fun k u v=>by
 obtain ⟨b,o,i,hc⟩:=h k u v;exact ⟨b,o,i,hg.cell hc (show some b≠row from hA _ i)⟩
theorem Rd.take {w:Qd} {A:N_} {xs:Qc} (h:Rd w A xs) (n:Nat):Rd w A (xs.take n):=fun k u i=>by
 rw [List.getElem?_take] at i
 split at i
 ·exact h k u i
 ·cases i
theorem Rd.drop {w:Qd} {b o:Nat} {xs:Qc} (h:Rd w (some (ar b o)) xs) (n:Nat):Rd w (some (ar b (o+n))) (xs.drop n):=fun k u i=>by
 rw [List.getElem?_drop] at i;obtain ⟨p,v,e,hc⟩:=h _ _ i;injection e with e
 injection e with e1 e2 _
 subst e1;subst e2;exact ⟨b,o+n,rfl,by rw [Oy];exact hc⟩
theorem dN (w:Qd) (xs:Qc) (e:Qf) (n:Nat) (hn:w.heap.size=n):Rd (w.alloc (.cells xs.toArray e)) (some (ar n 0)) xs:=fun k u h=>by
 subst hn;refine ⟨_,_,rfl,?_⟩;rw [Oz,NH _ w.heap.size k xs.toArray e (0,0) (NG w _)];simpa using h
theorem aC {w:Qd} {base:Nat} {e:Qf} {size:Nat} {v:Value} {n:Nat} {xs:Qc} (h:w.ownsRow base e size v n xs):∃A c,v=.slice A n c/\n<=c:=by
 rcases h.2 with ⟨rfl,rfl⟩ | ⟨g,cap,i,rfl,_,_,hc,_⟩
 ·exact ⟨none,0,rfl,NF _⟩
 ·exact ⟨_,_,rfl,hc⟩
theorem ay {w i:Qd} {base:Nat} {e:Qf} {size:Nat} {v:Value} {n:Nat} {xs:Qc} (h:w.ownsRow base e size v n xs) (hb:aq w i):i.ownsRow base e size v n xs:=
 h.kept (row:=none) ⟨hb.os,hb.tape,hb.output,hb.size,fun k hk _=>hb.block k hk⟩ (by cases hv:v.ownBlock<;>simp)
theorem bW {w:Qd} {base:Nat} {e:Qf} {size:Nat} {v:Value} {n:Nat} {xs:Qc} (h:w.ownsRow base e size v n xs) (m:Nat):(w.drewN m).ownsRow base e size v n xs:=h
theorem aE {w:Qd} {base base':Nat} {e:Qf} {size:Nat} {v:Value} {n:Nat} {xs:Qc} (h:w.ownsRow base e size v n xs) (hb:base'<=base):w.ownsRow base' e size v n xs:=by
 refine ⟨h.1,?_⟩;rcases h.2 with p | ⟨g,cap,i,o,hg,r⟩
 ·exact .inl p
 ·exact .inr ⟨g,cap,i,o,NN hb hg,r⟩
structure Keep (S:Nat->Prop) (w w':Qd):Prop where
 os:w'.os=w.os
 tape:w'.tape=w.tape
 output:w'.output=w.output
 size:w.heap.size<=w'.heap.size
 block:∀k,k<w.heap.size->¬S k->w'.heap[k]?=w.heap[k]?
theorem Keep.refl (S:Nat->Prop) (w:Qd):Keep S w w:=⟨rfl,rfl,rfl,NF _,fun _ _ _=>rfl⟩
theorem Keep.trans {S:Nat->Prop} {a b c:Qd} (h:Keep S a b) (k:Keep S b c):Keep S a c:=
 ⟨k.os.trans h.os,k.tape.trans h.tape,k.output.trans h.output,NN h.size k.size,fun i o hn=>(k.block i (NQ o h.size) hn).trans (h.block i o hn)⟩
theorem Keep.below {S:Nat->Prop} {w i:Qd} (h:aq w i):Keep S w i:=⟨h.os,h.tape,h.output,h.size,fun k hk _=>h.block k hk⟩
theorem Keep.mono {S S':Nat->Prop} {w i:Qd} (h:Keep S w i) (hs:∀k,k<w.heap.size->S k->S' k):Keep S' w i:=⟨h.os,h.tape,h.output,h.size,fun k hk hn=>h.block k hk fun o=>hn (hs k hk o)⟩
theorem Keep.drewN {S:Nat->Prop} {a w:Qd} (h:Keep S a w) (n:Nat):Keep S a (w.drewN n):=⟨h.os,h.tape,h.output,h.size,h.block⟩
theorem Keep.drew {S:Nat->Prop} {a w:Qd} (h:Keep S a w):Keep S a w.drew:=⟨h.os,h.tape,h.output,h.size,h.block⟩
theorem Keep.alloc {S:Nat->Prop} {a w:Qd} (h:Keep S a w) (o:Obj):Keep S a (w.alloc o):=h.trans (Keep.below ((NI _ w).alloc (NF _) o))
theorem Keep.setCell {S:Nat->Prop} {a w:Qd} (h:Keep S a w) (p:Addr) (i:a.heap.size<=p.block\/S p.block) (u:Value):Keep S a (w.setCell p u):=
 ⟨h.os,h.tape,h.output,by simp [World.setCell];exact h.size,fun k hk hn=>(Below.heap_setCell w p u k (fun e=>by subst e;rcases i with i | i<;>first | omega | exact hn i)).trans (h.block k hk hn)⟩
theorem Keep.grown {S:Nat->Prop} {a w i:Qd} (h:Keep S a w) {row:Option Nat} (hg:w.grownBy i row) (hr:∀k,row=some k->a.heap.size<=k\/S k):Keep S a i:=
 ⟨hg.os.trans h.os,hg.tape.trans h.tape,hg.output.trans h.output,NN h.size hg.size,fun k hk hn=>
  (hg.block k (NQ hk h.size) fun e=>by
   rcases hr k e.symm with h1 | h1
   ·omega
   ·exact hn h1).trans (h.block k hk hn)⟩
theorem Keep.toBelow {S:Nat->Prop} {B:Nat} {w i:Qd} (h:Keep S w i) (hB:B<=w.heap.size) (o:∀k,S k->B<=k):Below B w i:=
 ⟨h.os,h.tape,h.output,h.size,fun k hk=>h.block k ap fun hs=>by have:=o k hs;omega⟩
theorem Keep.cell {S:Nat->Prop} {w i:Qd} (h:Keep S w i) {p:Addr} {u:Value} (hc:w.cell? p=some u) (o:¬S p.block):i.cell? p=some u:= (World.cell?_of_block (w:=w) (h.block _ (aB hc) o)).trans hc
theorem Keep.rd {S:Nat->Prop} {w p:Qd} (h:Keep S w p) {A:N_} {xs:Qc} (hr:Rd w A xs) (hA:∀a,A=some a->¬S a.block):Rd p A xs:=fun k u v=>by
 obtain ⟨b,o,i,hc⟩:=hr k u v;exact ⟨b,o,i,h.cell hc (show ¬S b from hA _ i)⟩
theorem Keep.own {S:Nat->Prop} {w u:Qd} (h:Keep S w u) {base:Nat} {e:Qf} {size:Nat} {v:Value} {n:Nat} {xs:Qc} (p:w.ownsRow base e size v n xs) (y:∀k,v.ownBlock=some k->¬S k):u.ownsRow base e size v n xs:=by
 refine ⟨p.1,?_⟩;rcases p.2 with x | ⟨g,cap,o,rfl,hg,i,r⟩
 ·exact .inl x
 ·exact .inr ⟨g,cap,o,rfl,hg,(h.block g (NE i) (y g rfl)).trans i,r⟩
structure dB (P:Program) (t e:Qf) (z:Value) (size bytes:Nat):Prop where
 und:P.underlying t=some (.slice e)
 info:∃i,P.info? e=some i/\i.zero=some z/\i.size=size/\i.bytes=bytes
 zs:z.cells.size=size
 pos:0<size
theorem aW {P:Program} {t e:Qf} {z:Value} {size p:Nat} (T:dB P t e z size p) (w:Qd) {ops:Qh} {rest:List Oper} {o:Oper} {a:Qi} {Q:Exit->Qi->Qd->Prop} (D:o.guard=none) (s x:Operand) (J:o.op=.call {callee:=.builtin .append,args:=#[s,x],argTypes:=#[t,t]}) (base:Nat) (v:Value) (n:Nat) (xs:Qc) (hs:a.eval s=v) (hown:w.ownsRow base e size v n xs) (us:Qc) (hx:a.eval x=.slice (some (ar w.heap.size 0)) 1 1) (hus:us.length=size) (h1:∀u∈us,u.oneCell'=true) (hb:(n+1)*p<=140737488355328) (h63:n+1<=maxLen) (hbase:base<=w.heap.size) (h:∀g c A,A.ownsRow base e size (.slice (some (ar g 0)) (n+1) c) (n+1) (xs++us)->Below base w A->w.grownBy A v.ownBlock->
   wpList P ops Q rest (a.put o.dst (.slice (some (ar g 0)) (n+1) c)) A):wpList P ops Q (o::rest) a (w.alloc (.cells us.toArray e)):=by
 obtain ⟨i,O,H,I,C⟩:=T.info
 refine wpList_append_own (w.alloc (.cells us.toArray e)) D s x t J base e i z size p T.und O H I C T.zs T.pos v n xs hs (hown.alloc _) (ar w.heap.size 0) 1 1 us hx (by simpa using hus) ?_ h1 h63 hb
  (by simp;omega) ?_
 ·intro j u N;rw [Addr.add_lit,Oz,NH _ w.heap.size j us.toArray e (0,0) (NG w _)];simpa using N
 ·intro v' A y hg _;obtain ⟨g,c,rfl,L,_⟩:=y.form ap;have B:w.grownBy A v.ownBlock:=(World.grownBy_alloc w _ _).trans hg;exact h g c A y ((NI base w).grown B hbase fun k hk=>(hown.lt k hk).1) B
theorem oH {P:Program} {t e:Qf} {z:Value} {size h:Nat} (T:dB P t e z size h) (w:Qd) (base:Nat) (y:Qf) (v:Value) (n:Nat) (xs:Qc) (o:w.ownsRow base e size v n xs) (c:Nat): (Builtin.append_ #[t,t] y #[v,.slice none 0 c]).run P w=.ok v w:=by
 obtain ⟨i,u,_,_,_⟩:=T.info;rcases o.2 with ⟨rfl,rfl⟩ | ⟨g,cap,x,rfl,_,_,p,_⟩
 ·simp [Builtin.append_,run_underlying T.und,sizeOf,typeInfo,u,Builtin.lenOf,Builtin.firstCells]
 ·simp [Builtin.append_,run_underlying T.und,sizeOf,typeInfo,u,Builtin.lenOf,Builtin.firstCells,p,storeCells]
theorem Cv {P:Program} {t e:Qf} {z:Value} {size p:Nat} (T:dB P t e z size p) (w:Qd) (base:Nat) (O:Qf) (v:Value) (n:Nat) (xs:Qc) (x:w.ownsRow base e size v n xs) (A:N_) (m c:Nat) (B:Qc) (hr:Rd w A B) (D:B.length=m*size) (h1:∀u∈B,u.oneCell'=true) (hb:(n+m)*p<=140737488355328) (L:n+m<=maxLen) (y:base<=w.heap.size):
  ∃v' C,(Builtin.append_ #[t,t] O #[v,.slice A m c]).run P w=.ok v' C/\C.ownsRow base e size v' (n+m) (xs++B)/\Below base w C/\w.grownBy C v.ownBlock/\(v'.ownBlock=v.ownBlock\/v'.ownBlock=some w.heap.size):=by
 cases A with
 | none=>
  have hm:B=[]:=by
   cases B with
   | nil=>rfl
   | cons u l=>obtain ⟨b,o,h,_⟩:=hr 0 u rfl;cases h
  subst hm
  have J:m=0:=by
   have:=T.pos;rcases Nat.eq_zero_or_pos m with h | h
   ·exact h
   ·have:=Nat.mul_pos h this;simp at D;omega
  subst J;exact ⟨v,w,oH T w base O v n xs x c,by simpa using x,NI _ _,World.grownBy.refl _ _,.inl rfl⟩
 | some ad=>
  obtain ⟨i,Y,H,I,N⟩:=T.info
  have hc:∀j u,B[j]?=some u->w.cell? (ad.add j)=some u:=fun j u V=>by
   obtain ⟨b,o,e,h⟩:=hr j u V;injection e with e
   subst e;rw [Addr.add_lit];exact h
  obtain ⟨v',C,hr,R,Q,Z,U⟩:=run_append_own_at (P:=P) w base t O e i z size p T.und Y H I N T.zs T.pos v n xs x ad m c B D hc h1 L hb y;exact ⟨v',C,hr,R,(NI base w).grown Q y fun k hk=>(x.lt k hk).1,Q,U⟩
theorem dJ {P:Program} {t e:Qf} {z:Value} {size i:Nat} (T:dB P t e z size i) (w:Qd) {ops:Qh} {rest:List Oper} {o:Oper} {a:Qi} {Q:Exit->Qi->Qd->Prop} (D:o.guard=none) (s x:Operand) (J:o.op=.call {callee:=.builtin .append,args:=#[s,x],argTypes:=#[t,t]}) (base:Nat) (v:Value) (n:Nat) (xs:Qc) (hs:a.eval s=v) (hown:w.ownsRow base e size v n xs) (A:N_) (m c:Nat) (us:Qc) (hx:a.eval x=.slice A m c) (hr:Rd w A us) (hus:us.length=m*size) (h1:∀u∈us,u.oneCell'=true) (hb:(n+m)*i<=140737488355328) (h63:n+m<=maxLen) (hbase:base<=w.heap.size) (h:∀B y p,p.ownsRow base e size (.slice B (n+m) y) (n+m) (xs++us)->Below base w p->w.grownBy p v.ownBlock->((Value.slice B (n+m) y).ownBlock=v.ownBlock\/(Value.slice B (n+m) y).ownBlock=some w.heap.size)->wpList P ops Q rest (a.put o.dst (.slice B (n+m) y)) p):
  wpList P ops Q (o::rest) a w:=by
 refine wpList_plain D fun R H=>?_;obtain ⟨v',p,C,I,O,L,N⟩:=Cv T w base o.type v n xs hown A m c us hr hus h1 hb h63 hbase;obtain ⟨B,y,rfl,_⟩:=aC I;unfold Oper.wp;simp [execOp,J,resolve,invoke,builtin,hs,hx,C,Result.andThen];exact H _ _ (h B y p I O L N)
theorem iT {P:Program} {t e:Qf} {z:Value} {size i:Nat} (T:dB P t e z size i) {w:Qd} {ops:Qh} {o:Oper} {a:Qi} {K:Qi->Qd->Prop} {Q:Exit->Qi->Qd->Prop} {E:Prop} (D:o.guard=none) (s x:Operand) (I:o.op=.call {callee:=.builtin .append,args:=#[s,x],argTypes:=#[t,t]}) (base:Nat) (v:Value) (n:Nat) (xs:Qc) (hs:a.eval s=v) (hown:w.ownsRow base e size v n xs) (A:N_) (m c:Nat) (us:Qc) (hx:a.eval x=.slice A m c) (hr:Rd w A us) (hus:us.length=m*size) (h1:∀u∈us,u.oneCell'=true) (hb:(n+m)*i<=140737488355328) (h63:n+m<=maxLen) (hbase:base<=w.heap.size) (h:∀B y p,p.ownsRow base e size (.slice B (n+m) y) (n+m) (xs++us)->Below base w p->w.grownBy p v.ownBlock->((Value.slice B (n+m) y).ownBlock=v.ownBlock\/(Value.slice B (n+m) y).ownBlock=some w.heap.size)->K (a.put o.dst (.slice B (n+m) y)) p):
  if Region.wanted o (yielded ops a.tmps)=true then Oper.wp P o a w K Q else E:=by
 have hw:Region.wanted o (yielded ops a.tmps)=true:=by simp [Region.wanted,D]
 rw [if_pos hw];obtain ⟨v',p,C,H,N,J,L⟩:=Cv T w base o.type v n xs hown A m c us hr hus h1 hb h63 hbase;obtain ⟨B,y,rfl,_⟩:=aC H;unfold Oper.wp;simp [execOp,I,resolve,invoke,builtin,hs,hx,C,Result.andThen];exact h B y p H N J L
theorem eK (w:Qd) (e:Qf) (size:Nat):(w.alloc (.cells #[] e)).ownsRow w.heap.size e size (.slice (some (ar w.heap.size 0)) 0 0) 0 []:=
 World.ownsRow_made w #[] 0 (NF _) (by unfold maxLen;omega) (by simp)
theorem uv {P:Program} {t e:Qf} {z:Value} {h:Nat} (T:dB P t e z 1 h) (w:Qd) {ops:Qh} {rest:List Oper} {o:Oper} {a:Qi} {Q:Exit->Qi->Qd->Prop} (hg:o.guard=none) (l c:Operand) (C:o.op=Op.makeSlice t l c) (B:z.cells=#[z]) (n:Nat) (hl:a.eval l=OH (n:Int)) (hc:a.eval c=OH (n:Int)) (H:h*n<=281474976710656) (b3:n<=maxLen) (D:∀v,v.ownsRow w.heap.size e 1 (.slice (some (ar w.heap.size 0)) n n) n (List.replicate n z)->aq w v->
   wpList P ops Q rest (a.put o.dst (.slice (some (ar w.heap.size 0)) n n)) v):wpList P ops Q (o::rest) a w:=by
 obtain ⟨i,I,y,A,x⟩:=T.info;refine wpList_make_full w hg l c t C w.heap.size e i z 1 T.und I y A .i64 .i64 n n n hl hc rfl rfl (by rw [x];exact H) b3 (NF _) ?_;intro v u p;rw [B,Nat.mul_one,toList_madeCells_one] at u;exact D v u ⟨p.os,p.tape,p.output,p.size,fun k hk=>p.block k hk (by simp)⟩
def Cs (w:Qd) (b:Nat):Nat->Qc->Prop
 | _,[]=>True
 | i,v::vs=>w.cell? (ar b i)=some v/\Cs w b (i+1) vs
theorem LM (w:Qd) (b:Nat) (o:Qc) (hc:∀j,w.cell? (ar b j)=o[j]?):∀(vs:Qc) (i:Nat),(∀j,vs[j]?=o[i+j]?)->Cs w b i vs
 | [],_,_=>trivial
 | v::vs,i,h=>⟨by rw [hc];exact (h 0).symm,LM w b o hc vs (i+1) fun j=>by have:=h (j+1);simpa [Oy,Nat.add_comm 1 j] using this⟩
def Bx (w:Qd) (b:Nat) (vs:Qc):Prop:=Cs w b 0 vs/\b<w.heap.size/\∀j,w.frozen? (ar b j)=false
theorem bx {w:Qd} {b:Nat} {vs:Qc} {t:Qf} (h:w.heap[b]?=some (.cells vs.toArray t (0,0))):Bx w b vs:=
 ⟨LM w b vs (fun j=>by rw [NH w b j _ _ _ h];simp) vs 0 (fun j=>by simp),NE h,fun j=>NS w b j _ _ h⟩
theorem bx1 {w:Qd} {b:Nat} {t:Qf} {v0:Value} (h:w.heap[b]?=some (.cells #[v0] t (0,0))):(w.cell? (ar b 0)=some v0)/\∀j,w.frozen? (ar b j)=false:=by
 have:=bx (vs:=[v0]) h;simp only [Bx,Cs,Nat.reduceAdd,and_true] at this;exact ⟨this.1,this.2.2⟩
theorem bx2 {w:Qd} {b:Nat} {t:Qf} {v0 v1:Value} (h:w.heap[b]?=some (.cells #[v0,v1] t (0,0))):(w.cell? (ar b 0)=some v0/\w.cell? (ar b 1)=some v1)/\∀j,w.frozen? (ar b j)=false:=by
 have:=bx (vs:=[v0,v1]) h;simp only [Bx,Cs,Nat.reduceAdd,and_true] at this;exact ⟨this.1,this.2.2⟩
theorem bx3 {w:Qd} {b:Nat} {t:Qf} {v0 v1 v2:Value} (h:w.heap[b]?=some (.cells #[v0,v1,v2] t (0,0))):(w.cell? (ar b 0)=some v0/\w.cell? (ar b 1)=some v1/\w.cell? (ar b 2)=some v2)/\∀j,w.frozen? (ar b j)=false:=by
 have:=bx (vs:=[v0,v1,v2]) h;simp only [Bx,Cs,Nat.reduceAdd,and_true] at this;exact ⟨this.1,this.2.2⟩
theorem bx4 {w:Qd} {b:Nat} {t:Qf} {v0 v1 v2 v3:Value} (h:w.heap[b]?=some (.cells #[v0,v1,v2,v3] t (0,0))):(w.cell? (ar b 0)=some v0/\w.cell? (ar b 1)=some v1/\w.cell? (ar b 2)=some v2/\w.cell? (ar b 3)=some v3)/\∀j,w.frozen? (ar b j)=false:=by
 have:=bx (vs:=[v0,v1,v2,v3]) h;simp only [Bx,Cs,Nat.reduceAdd,and_true] at this;exact ⟨this.1,this.2.2⟩
theorem bx5 {w:Qd} {b:Nat} {t:Qf} {v0 v1 v2 v3 v4:Value} (h:w.heap[b]?=some (.cells #[v0,v1,v2,v3,v4] t (0,0))):(w.cell? (ar b 0)=some v0/\w.cell? (ar b 1)=some v1/\w.cell? (ar b 2)=some v2/\w.cell? (ar b 3)=some v3/\w.cell? (ar b 4)=some v4)/\∀j,w.frozen? (ar b j)=false:=by
 have:=bx (vs:=[v0,v1,v2,v3,v4]) h;simp only [Bx,Cs,Nat.reduceAdd,and_true] at this;exact ⟨this.1,this.2.2⟩
theorem bx6 {w:Qd} {b:Nat} {t:Qf} {v0 v1 v2 v3 v4 v5:Value} (h:w.heap[b]?=some (.cells #[v0,v1,v2,v3,v4,v5] t (0,0))):(w.cell? (ar b 0)=some v0/\w.cell? (ar b 1)=some v1/\w.cell? (ar b 2)=some v2/\w.cell? (ar b 3)=some v3/\w.cell? (ar b 4)=some v4/\w.cell? (ar b 5)=some v5)/\∀j,w.frozen? (ar b j)=false:=by
 have:=bx (vs:=[v0,v1,v2,v3,v4,v5]) h;simp only [Bx,Cs,Nat.reduceAdd,and_true] at this;exact ⟨this.1,this.2.2⟩
theorem bx9 {w:Qd} {b:Nat} {t:Qf} {v0 v1 v2 v3 v4 v5 v6 v7 v8:Value} (h:w.heap[b]?=some (.cells #[v0,v1,v2,v3,v4,v5,v6,v7,v8] t (0,0))):(w.cell? (ar b 0)=some v0/\w.cell? (ar b 1)=some v1/\w.cell? (ar b 2)=some v2/\w.cell? (ar b 3)=some v3/\w.cell? (ar b 4)=some v4/\w.cell? (ar b 5)=some v5/\w.cell? (ar b 6)=some v6/\w.cell? (ar b 7)=some v7/\w.cell? (ar b 8)=some v8)/\∀j,w.frozen? (ar b j)=false:=by
 have:=bx (vs:=[v0,v1,v2,v3,v4,v5,v6,v7,v8]) h;simp only [Bx,Cs,Nat.reduceAdd,and_true] at this;exact ⟨this.1,this.2.2⟩
theorem lB {w:Qd} {b:Nat} {t:Qf} {v0 v1 v2 v3 v4 v5 v6 v7 v8 v9 v10 v11:Value} (h:w.heap[b]?=some (.cells #[v0,v1,v2,v3,v4,v5,v6,v7,v8,v9,v10,v11] t (0,0))):(w.cell? (ar b 0)=some v0/\w.cell? (ar b 1)=some v1/\w.cell? (ar b 2)=some v2/\w.cell? (ar b 3)=some v3/\w.cell? (ar b 4)=some v4/\w.cell? (ar b 5)=some v5/\w.cell? (ar b 6)=some v6/\w.cell? (ar b 7)=some v7/\w.cell? (ar b 8)=some v8/\w.cell? (ar b 9)=some v9/\w.cell? (ar b 10)=some v10/\w.cell? (ar b 11)=some v11)/\∀j,w.frozen? (ar b j)=false:=by
 have:=bx (vs:=[v0,v1,v2,v3,v4,v5,v6,v7,v8,v9,v10,v11]) h;simp only [Bx,Cs,Nat.reduceAdd,and_true] at this;exact ⟨this.1,this.2.2⟩
theorem xr {w:Qd} {b:Nat} {t:Qf} {v0 v1 v2 v3 v4 v5 v6 v7 v8 v9 v10 v11 i:Value} (h:w.heap[b]?=some (.cells #[v0,v1,v2,v3,v4,v5,v6,v7,v8,v9,v10,v11,i] t (0,0))):(w.cell? (ar b 0)=some v0/\w.cell? (ar b 1)=some v1/\w.cell? (ar b 2)=some v2/\w.cell? (ar b 3)=some v3/\w.cell? (ar b 4)=some v4/\w.cell? (ar b 5)=some v5/\w.cell? (ar b 6)=some v6/\w.cell? (ar b 7)=some v7/\w.cell? (ar b 8)=some v8/\w.cell? (ar b 9)=some v9/\w.cell? (ar b 10)=some v10/\w.cell? (ar b 11)=some v11/\w.cell? (ar b 12)=some i)/\∀j,w.frozen? (ar b j)=false:=by
 have:=bx (vs:=[v0,v1,v2,v3,v4,v5,v6,v7,v8,v9,v10,v11,i]) h;simp only [Bx,Cs,Nat.reduceAdd,and_true] at this;exact ⟨this.1,this.2.2⟩
theorem JA {w:Qd} {b:Nat} {t:Qf} {v0 v1 v2 v3 v4 v5 v6 v7 v8 v9 v10 v11 o i:Value} (h:w.heap[b]?=some (.cells #[v0,v1,v2,v3,v4,v5,v6,v7,v8,v9,v10,v11,o,i] t (0,0))):(w.cell? (ar b 0)=some v0/\w.cell? (ar b 1)=some v1/\w.cell? (ar b 2)=some v2/\w.cell? (ar b 3)=some v3/\w.cell? (ar b 4)=some v4/\w.cell? (ar b 5)=some v5/\w.cell? (ar b 6)=some v6/\w.cell? (ar b 7)=some v7/\w.cell? (ar b 8)=some v8/\w.cell? (ar b 9)=some v9/\w.cell? (ar b 10)=some v10/\w.cell? (ar b 11)=some v11/\w.cell? (ar b 12)=some o/\w.cell? (ar b 13)=some i)/\∀j,w.frozen? (ar b j)=false:=by
 have:=bx (vs:=[v0,v1,v2,v3,v4,v5,v6,v7,v8,v9,v10,v11,o,i]) h;simp only [Bx,Cs,Nat.reduceAdd,and_true] at this;exact ⟨this.1,this.2.2⟩
theorem lA {w:Qd} {b:Nat} {t:Qf} {v0 v1 v2 v3 v4 v5 v6 v7 v8 v9 v10 v11 p o i:Value} (h:w.heap[b]?=some (.cells #[v0,v1,v2,v3,v4,v5,v6,v7,v8,v9,v10,v11,p,o,i] t (0,0))):(w.cell? (ar b 0)=some v0/\w.cell? (ar b 1)=some v1/\w.cell? (ar b 2)=some v2/\w.cell? (ar b 3)=some v3/\w.cell? (ar b 4)=some v4/\w.cell? (ar b 5)=some v5/\w.cell? (ar b 6)=some v6/\w.cell? (ar b 7)=some v7/\w.cell? (ar b 8)=some v8/\w.cell? (ar b 9)=some v9/\w.cell? (ar b 10)=some v10/\w.cell? (ar b 11)=some v11/\w.cell? (ar b 12)=some p/\w.cell? (ar b 13)=some o/\w.cell? (ar b 14)=some i)/\∀j,w.frozen? (ar b j)=false:=by
 have:=bx (vs:=[v0,v1,v2,v3,v4,v5,v6,v7,v8,v9,v10,v11,p,o,i]) h;simp only [Bx,Cs,Nat.reduceAdd,and_true] at this;exact ⟨this.1,this.2.2⟩
theorem sb {w:Qd} {b:Nat} {x:Obj} (h:w.heap[b]?=some x):∀i,aq w i->i.heap[b]?=some x:=fun _ q=>(q.block b (NE h)).trans h
theorem sl {w:Qd} {b:Nat} {x:Obj} (h:w.heap[b]?=some x):∀i,aq w i->b<i.heap.size:=fun i q=>NQ (NE h) q.size
theorem bt {a b c:Qd} (h:aq a b) (k:aq b c):aq a c:=h.trans (k.mono h.size)
theorem br (w:Qd):aq w w:=NI _ w
theorem ss {w:Qd} {b i:Nat} {t:Qf} {v:Value} {p o:Qb} (h:w.heap[b]?=some (.cells p t (0,0))) (e:p.setIfInBounds i v=o:=by simp):(w.setCell (ar b i) v).heap[b]?=some (.cells o t (0,0)):=by
 subst e;exact OE w b i p t v h
theorem ss2 {w:Qd} {b i j:Nat} {t:Qf} {v u:Value} {p o:Qb} (h:w.heap[b]?=some (.cells p t (0,0))) (e:(p.setIfInBounds i v).setIfInBounds j u=o:=by simp):((w.setCell (ar b i) v).setCell (ar b j) u).heap[b]?=some (.cells o t (0,0)):=ss (ss h rfl) e
theorem ss3 {w:Qd} {b i j k:Nat} {t:Qf} {v u x:Value} {p o:Qb} (h:w.heap[b]?=some (.cells p t (0,0))) (e:((p.setIfInBounds i v).setIfInBounds j u).setIfInBounds k x=o:=by simp):(((w.setCell (ar b i) v).setCell (ar b j) u).setCell (ar b k) x).heap[b]?=some (.cells o t (0,0)):=ss (ss2 h rfl) e
section
variable {P:Program} {ops:Qh} {Q:Exit->Qi->Qd->Prop} {md:Region.Mode} {S:Qd->Prop} {n:Nat}
def ey (P:Program) (md:Region.Mode) (ops:Qh) (Q:Exit->Qi->Qd->Prop) (S:Qd->Prop) (n:Nat):Nat->Array Bool->Qi->Qd->Prop
 | 0,listed,a,w=>Region.ready md ops listed=[]/\Q .normal a w
 | fuel+1,listed,a,w=>
  (Region.ready md ops listed=[]->Q .normal a w)/\
  ∀i∈Region.ready md ops listed,wpOp P ops Q i (fun o h=>((listed.setIfInBounds i true).getD n true=false->S h)/\ey P md ops Q S n fuel (listed.setIfInBounds i true) o h) a w
theorem rR:∀(o:Nat) (p:Array Bool) (a:Qi) (w:Qd),ey P md ops Q S n o p a w->wpAny P md ops Q o p a w
 | 0,_,_,_,h=>h
 | o+1,_,_,_,h=>⟨h.1,fun i y=>wpOp_mono (fun x v u=>rR o _ x v u.2) (h.2 i y)⟩
theorem GW {h:Array Bool} {i j:Nat} (hB:Region.waitsFor md ops n i=true) (B:i∈Region.ready md ops h) (A:j∈Region.ready md ops h):j≠n:=fun v=>by
 subst v;obtain ⟨_,D,u,o⟩:=mem_ready.1 A;obtain ⟨C,x,e,he,hb,p⟩:=Region.waitsFor_spec hB;have:C=D:=Option.some.inj (x.symm.trans u);subst this;have y:=o e he hb;rw [p,getD_both (mem_ready.1 B).1] at y
 cases y
theorem vS {i:Nat} {J:Oper} {v:Value} (hB:Region.waitsFor md ops n i=true) (a3:i≠n) (hi:ops[i]?=some J) (D:∀(j:Nat) (o:Oper) R b,ops[j]?=some o->o.op≠.select R b) (hQ:∀c a w,Q (.panic c) (a.put J.dst v) w->Q (.panic c) a w):
  ∀(x:Nat) (p:Array Bool) (a:Qi) (w:Qd),
   (∀j L,ops[j]?=some L->j≠i->p.getD j true=false->(∀e∈L.after,Region.binds md e=true->e.on≠i)->J.apart ops L=true)->
   i∈Region.ready md ops p->YieldsIf P ops S J v a->p.getD n true=false->S w->
   ey P md ops Q S n x (p.setIfInBounds i true) (a.put J.dst v) w->ey P md ops Q S n (x+1) p a w:=by
 intro x
 induction x with
 | zero=>
  intro p a w _ hr hy hn Z H;refine ⟨fun h=>(by rw [h] at hr;cases hr),fun j Y=>?_⟩;by_cases u:j=i
  ·subst u;exact hy.wpOp hi Z ⟨fun _=>Z,H⟩
  ·have:=ready_mono Y u;rw [H.1] at this
   cases this
 | succ x ih=>
  intro p a w A hr hy hn Z H;refine ⟨fun h=>(by rw [h] at hr;cases hr),fun j Y=>?_⟩;by_cases u:j=i
  ·subst u;exact hy.wpOp hi Z ⟨fun _=>Z,H⟩
  ·have h1:=H.2 j (ready_mono Y u);have T:=GW hB hr Y
   have y:(p.setIfInBounds j true).getD n true=false->((p.setIfInBounds i true).setIfInBounds j true).getD n true=false:=fun h=>by
    rw [Array.setIfInBounds_comm _ _ (Ne.symm u),getD_set_ne true a3];exact h
   obtain ⟨C,L,I,V⟩:=mem_ready.1 Y
   have O:∀e∈L.after,Region.binds md e=true->e.on≠i:=fun e he hb a2=>by
    have h1:=V e he hb;rw [a2,getD_both (mem_ready.1 hr).1] at h1
    cases h1
   have h2:=wpOp_putIf I (A j L I u C O) (fun R b=>D i J R b hi) (fun R b=>D j L R b I) hQ hy h1
   have B:∀k ok,ops[k]?=some ok->k≠i->(p.setIfInBounds j true).getD k true=false->
     (∀e∈ok.after,Region.binds md e=true->e.on≠i)->J.apart ops ok=true:=fun k ok hk a1 U a0=>by
    refine A k ok hk a1 ?_ a0;by_cases N:j=k
    ·subst N;exact C
    ·rw [getD_set_ne true N] at U;exact U
   refine wpOp_mono (fun a' w' h3=>⟨(fun h=>h3.2.1 (y h)),ih (p.setIfInBounds j true) a' w' B (ready_mono hr (Ne.symm u)) h3.1 (by rw [getD_set_ne true T];exact hn) (h3.2.1 (y (by rw [getD_set_ne true T];exact hn))) ?_⟩) h2;rw [Array.setIfInBounds_comm _ _ u];exact h3.2.2
theorem ug {i:Nat} {L:Oper} {v:Value} (a3:i≠n) (hi:ops[i]?=some L) (I:∀(j:Nat) (o:Oper) T b,ops[j]?=some o->o.op≠.select T b) (hQ:∀c a w,Q (.panic c) (a.put L.dst v) w->Q (.panic c) a w):
  ∀(x:Nat) (p:Array Bool) (a:Qi) (w:Qd),
   (∀j N,ops[j]?=some N->j≠i->p.getD j true=false->(∀e∈N.after,Region.binds md e=true->e.on≠i)->L.apart ops N=true)->
   i∈Region.ready md ops p->YieldsIf P ops (fun _=>True) L v a->(p.getD n true=false->S w)->
   ey P md ops Q S n x (p.setIfInBounds i true) (a.put L.dst v) w->ey P md ops Q S n (x+1) p a w:=by
 intro x
 induction x with
 | zero=>
  intro p a w _ hr Y hS H;refine ⟨fun h=>(by rw [h] at hr;cases hr),fun j hj=>?_⟩;by_cases u:j=i
  ·subst u;exact Y.wpOp hi trivial ⟨fun h=>hS (by
    by_cases B:j=n
    ·subst B;exact (mem_ready.1 hr).1
    ·rwa [getD_set_ne true B] at h),H⟩
  ·have:=ready_mono hj u;rw [H.1] at this
   cases this
 | succ x ih=>
  intro p a w A hr Y hS H;refine ⟨fun h=>(by rw [h] at hr;cases hr),fun j hj=>?_⟩;by_cases u:j=i
  ·subst u;exact Y.wpOp hi trivial ⟨fun h=>hS (by
    by_cases B:j=n
    ·subst B;exact (mem_ready.1 hr).1
    ·rwa [getD_set_ne true B] at h),H⟩
  ·have h1:=H.2 j (ready_mono hj u)
   have y:(p.setIfInBounds j true).getD n true=false->((p.setIfInBounds i true).setIfInBounds j true).getD n true=false:=fun h=>by
    rw [Array.setIfInBounds_comm _ _ (Ne.symm u),getD_set_ne true a3];exact h
   obtain ⟨D,N,J,V⟩:=mem_ready.1 hj
   have R:∀e∈N.after,Region.binds md e=true->e.on≠i:=fun e he hb a2=>by
    have h1:=V e he hb;rw [a2,getD_both (mem_ready.1 hr).1] at h1
    cases h1
   have h2:=wpOp_putIf J (A j N J u D R) (fun T b=>I i L T b hi) (fun T b=>I j N T b J) hQ Y h1
   have C:∀k ok,ops[k]?=some ok->k≠i->(p.setIfInBounds j true).getD k true=false->
     (∀e∈ok.after,Region.binds md e=true->e.on≠i)->L.apart ops ok=true:=fun k ok hk a1 U a0=>by
    refine A k ok hk a1 ?_ a0;by_cases O:j=k
    ·subst O;exact D
    ·rw [getD_set_ne true O] at U;exact U
   refine wpOp_mono (fun a' w' Z=>⟨(fun h=>Z.2.1 (y h)),ih (p.setIfInBounds j true) a' w' C (ready_mono hr (Ne.symm u)) Z.1 (fun h=>Z.2.1 (y h)) ?_⟩) h2;rw [Array.setIfInBounds_comm _ _ u];exact Z.2.2
theorem qX {i:Nat} {u:Oper} {v:Value} {p:Nat} {o:Array Bool} {a:Qi} {w:Qd} (y:ops[i]?=some u) (hB:Region.waitsFor md ops n i=true) (x:i≠n) (hn:o.getD n true=false) (hs:Region.noSelect ops=true) (A:Region.free md ops o i=true) (hr:(Region.ready md ops o).contains i=true) (D:∀c a w,Q (.panic c) (a.put u.dst v) w->Q (.panic c) a w) (B:YieldsIf P ops S u v a) (C:S w) (h:ey P md ops Q S n p (o.setIfInBounds i true) (a.put u.dst v) w):ey P md ops Q S n (p+1) o a w:=
 vS hB x y (Region.noSelect_spec hs) D p o a w (Region.free_spec y A) (by simpa using hr) B hn C h
theorem pF {i:Nat} {u:Oper} {v:Value} {p:Nat} {o:Array Bool} {a:Qi} {w:Qd} (y:ops[i]?=some u) (x:i≠n) (hs:Region.noSelect ops=true) (A:Region.free md ops o i=true) (hr:(Region.ready md ops o).contains i=true) (B:∀c a w,Q (.panic c) (a.put u.dst v) w->Q (.panic c) a w) (C:YieldsIf P ops (fun _=>True) u v a) (D:S w) (h:ey P md ops Q S n p (o.setIfInBounds i true) (a.put u.dst v) w):ey P md ops Q S n (p+1) o a w:=
 ug x y (Region.noSelect_spec hs) B p o a w (Region.free_spec y A) (by simpa using hr) C (fun _=>D) h
theorem wX {x:Oper} {v:Value} {u:Nat} {o:Array Bool} {a:Qi} {w:Qd} (i:Nat) (B:S w) (h:ey P .any ops Q S n u (o.setIfInBounds i true) (a.put x.dst v) w) (C:ops[i]?=some x:=by rfl) (hB:Region.waitsFor .any ops n i=true:=by kernel_rfl) (hni:i≠n:=by decide) (hn:o.getD n true=false:=by kernel_rfl) (hs:Region.noSelect ops=true:=by kernel_rfl) (hf:Region.free .any ops o i=true:=by kernel_rfl) (hr:(Region.ready .any ops o).contains i=true:=by kernel_rfl) (hQ:∀c a w,Q (.panic c) (a.put x.dst v) w->Q (.panic c) a w:=by exact fun _ _ _ h=>h) (hy:YieldsIf P ops S x v a:=by (refine Or.inl ⟨by rfl,?_⟩;intro D p;(try dsimp only at p);(first | obtain ⟨s1,s2,y,A,H⟩:=p | obtain ⟨s1,s2,y,A⟩:=p | obtain ⟨s1,s2,y⟩:=p | obtain ⟨s1,s2⟩:=p | skip);go_simp;(try with_reducible rfl))):ey P .any ops Q S n (u+1) o a w:=qX C hB hni hn hs hf hr hQ hy B h
theorem wX0 {u:Oper} {v:Value} {p:Nat} {o:Array Bool} {a:Qi} {w:Qd} (i:Nat) (x:S w) (h:ey P .any ops Q S n p (o.setIfInBounds i true) (a.put u.dst v) w) (y:ops[i]?=some u:=by rfl) (hni:i≠n:=by decide) (hs:Region.noSelect ops=true:=by kernel_rfl) (hf:Region.free .any ops o i=true:=by kernel_rfl) (hr:(Region.ready .any ops o).contains i=true:=by kernel_rfl) (hQ:∀c a w,Q (.panic c) (a.put u.dst v) w->Q (.panic c) a w:=by exact fun _ _ _ h=>h) (hy:YieldsIf P ops (fun _=>True) u v a:=by (refine Or.inl ⟨by rfl,?_⟩;intro A _;go_simp;(try with_reducible rfl))):ey P .any ops Q S n (p+1) o a w:=pF y hni hs hf hr hQ hy x h
def aU (P:Program) (md:Region.Mode) (ops:Qh) (Q:Exit->Qi->Qd->Prop) (S:Qd->Prop) (n:Nat) (o:Nat) (h:Array Bool) (a:Qi) (w:Qd) (rs:List Nat):Prop:=
 ∀i∈rs,wpOp P ops Q i (fun u p=>((h.setIfInBounds i true).getD n true=false->S p)/\ey P md ops Q S n o (h.setIfInBounds i true) u p) a w
theorem aU.nil {o:Nat} {i:Array Bool} {a:Qi} {w:Qd}:aU P md ops Q S n o i a w []:=fun _ h=>by cases h
theorem aU.cons {u:Nat} {p:Array Bool} {a:Qi} {w:Qd} {i:Nat} {o:Oper} {rs:List Nat} (B:ops[i]?=some o) (h:∀v:Qi->Qd->Prop,Shut (∀a w,S w->(S w->ey P md ops Q S n u (p.setIfInBounds i true) a w)->v a w)->if Region.wanted o (yielded ops a.tmps)=true then Oper.wp P o a w v Q else v (a.put o.dst undef) w) (hs:aU P md ops Q S n u p a w rs):aU P md ops Q S n u p a w (i::rs):=fun j x=>by
 rcases List.mem_cons.1 x with rfl | x
 ·exact wpOp_step B (fun v C=>h v (fun a w y A=>C a w ⟨fun _=>y,A y⟩))
 ·exact hs j x
theorem cD {rs:List Nat} {o:Nat} {i:Array Bool} {a:Qi} {w:Qd} (hr:Region.ready md ops i=rs) (p:rs≠[]) (h:aU P md ops Q S n o i a w rs):ey P md ops Q S n (o+1) i a w:=⟨fun u=>absurd (hr▸u) p,hr▸h⟩
theorem rS:∀(l:List Oper) (k:Nat) (p:Array Bool) (a:Qi) (w:Qd),(k≠n->p.getD n true=true)->(∀j,l[j]?=ops[k+j]?)->
  Region.seqB md ops l.length k p=true->wpList P ops Q l a w->ey P md ops Q S n l.length p a w
 | [],_,_,_,_,_,_,hB,h=>⟨by simpa [Region.seqB] using hB,h⟩
 | o::l,k,p,a,w,hk,hl,hB,h=>by
  have D:ops[k]?=some o:=by simpa using (hl 0).symm
  simp only [List.length_cons,Region.seqB,Bool.and_eq_true,OD] at hB
  have u:(p.setIfInBounds k true).getD n true=true:=by
   by_cases v:k=n
   ·subst v;rcases NY k p.size with x | x
    ·simp [x]
    ·simp [Nat.not_lt.2 x]
   ·rw [getD_set_ne true v];exact hk v
  refine ⟨fun h1=>(by rw [hB.1] at h1;cases h1),fun i A=>?_⟩;rw [hB.1] at A;have y:i=k:=by simpa using A
  subst y;have hw:wpOp P ops Q i (wpList P ops Q l) a w:=by unfold wpOp;simp only [D];exact h
  exact wpOp_mono (fun C B x=>⟨fun h=>(by rw [u] at h;cases h),rS l (i+1) _ C B (fun _=>u) (fun j=>by have:=hl (j+1);simpa [Oy,Nat.add_comm 1 j] using this) hB.2 x⟩) hw
theorem eR {l:List Oper} {o:Nat} {i:Array Bool} {a:Qi} {w:Qd} (p:o=(l.drop n).length) (hB:Region.seqB md l.toArray (l.drop n).length n i=true) (h:wpList P l.toArray Q (l.drop n) a w):
  ey P md l.toArray Q S n o i a w:=by
 subst p;exact rS (l.drop n) n i a w (fun h=>absurd rfl h) (fun j=>by simp [List.getElem?_drop]) hB h
theorem bT {t e:Qf} {z:Value} {size i:Nat} (T:dB P t e z size i) {w:Qd} {o:Oper} {D:Qb} {a:Qi} {K:Qi->Qd->Prop} {E:Prop} (s x:Operand) (p:o.guard=none) (H:o.op=.call {callee:=.builtin .append,args:=#[s,x],argTypes:=#[t,t]}) (base:Nat) (v:Value) (n:Nat) (xs:Qc) (hs:a.eval s=v) (hown:w.ownsRow base e size v n xs) (A:N_) (m c:Nat) (us:Qc) (hx:a.eval x=.slice A m c) (hr:Rd w A us) (hus:us.length=m*size) (h1:∀u∈us,u.oneCell'=true) (hb:(n+m)*i<=140737488355328) (h63:n+m<=maxLen) (hbase:base<=w.heap.size) (h:∀C B y,y.ownsRow base e size (.slice C (n+m) B) (n+m) (xs++us)->Below base w y->w.grownBy y v.ownBlock->((Value.slice C (n+m) B).ownBlock=v.ownBlock\/(Value.slice C (n+m) B).ownBlock=some w.heap.size)->K (a.put o.dst (.slice C (n+m) B)) y):
  if Region.wanted o (yielded ops D)=true then Oper.wp P o a w K Q else E:=by
 rw [if_pos (by simp [Region.wanted,p])];have:=iT (ops:=ops) (K:=K) (Q:=Q) (E:=E) T p s x H base v n xs hs hown A m c us hx hr hus h1 hb h63 hbase h
 rwa [if_pos (by simp [Region.wanted,p])] at this
theorem kp (n:Nat) (S:Qd->Prop) {id:Nat} {a:Qi} {w:Qd} (hm:P.follows .mixedOrders=true) (h:ey P .any ops Q S n ops.size (Array.replicate ops.size false) a w.drew):(Code.region id ops true).wp P Q a w:=
 wp_region_any hm (rR _ _ _ _ h)
end
end Go.Proofs.YtgmajkppbhiopaaGreat
namespace Go.Proofs.YtgmajkppbhiopaaGreat
section
variable {P:Program} {ops:Qh} {Q:Exit->Qi->Qd->Prop} {S:Qd->Prop} {n:Nat}
def unl (l:Array Bool):Nat:=l.toList.count false
theorem Ke {l:Array Bool} {i:Nat} (h:l.getD i true=false):unl l=unl (l.setIfInBounds i true)+1:=by
 have o:i<l.size:=by
  rcases NY i l.size with p | p
  ·exact p
  ·simp [Array.getElem?_eq_none p] at h
 have hl:l.toList[i]'(by simpa using o)=false:=by simpa [o] using h
 have u:List.count false (l.toList.set i true)=List.count false l.toList-1:=by
  rw [List.count_set (by simpa using o)];simp [hl]
 have h1:0<List.count false l.toList:=List.count_pos_iff.2 (by rw [<-hl];exact List.getElem_mem _);unfold unl;rw [Array.toList_setIfInBounds,u];omega
def bH (m:Nat) (L:List Nat):Array Bool:=L.foldr (fun i l=>l.setIfInBounds i true) (Array.replicate m false)
theorem rv (m:Nat):∀L:List Nat,(bH m L).size=m
 | []=>by simp [bH]
 | a::L=>by simp only [bH,List.foldr_cons,Array.size_setIfInBounds];exact rv m L
theorem j3 (m i:Nat) (d:Bool):∀L:List Nat,(bH m L).getD i d=if i<m then L.contains i else d
 | []=>by simp only [bH,List.foldr_nil,List.contains_nil];split<;>simp_all [Array.getElem?_replicate]
 | a::L=>by
  have p:=j3 m i d L;have hs:=rv m L
  show ((bH m L).setIfInBounds a true).getD i d=_
  by_cases h:i<m
  ·rw [if_pos h] at p ⊢;by_cases o:a=i
   ·subst o;simp [hs,h]
   ·rw [getD_set_ne d o,p];simp [Ne.symm o]
  ·rw [if_neg h] at p ⊢;by_cases o:a=i
   ·subst o;simp [hs,h]
   ·rw [getD_set_ne d o,p]
def db (ops:Qh) (L:List Nat):List Nat:= (List.range ops.size).filter fun i=> !L.contains i&&((ops[i]?).map (·.after.all fun e=> !Region.binds .any e||(L.contains e.on&&decide (e.on<ops.size)))).getD false
theorem dW (L:List Nat):Region.ready .any ops (bH ops.size L)=db ops L:=by
 unfold Region.ready db;refine List.filter_congr fun i p=>?_;rw [j3,if_pos (List.mem_range.1 p)]
 congr 3
 funext o
 congr 1
 funext e
 rw [j3];by_cases h:e.on<ops.size<;>simp [h]
def ze (ops:Qh) (L:List Nat) (i:Nat):Bool:=
 match ops[i]? with
 | none=>false
 | some oi=>(List.range ops.size).all fun j=>j==i||L.contains j||match ops[j]? with
   | some oj=>oj.after.any (fun e=>Region.binds .any e&&e.on==i)||oi.apart ops oj
   | none=>true
theorem tu (L:List Nat) (i:Nat):Region.free .any ops (bH ops.size L) i=ze ops L i:=by
 unfold Region.free ze
 cases ops[i]? with
 | none=>rfl
 | some oi=>
  dsimp only;rw [Bool.eq_iff_iff,List.all_eq_true,List.all_eq_true];refine forall_congr' fun j=>forall_congr' fun h=>?_;rw [j3,if_pos (List.mem_range.1 h)];exact Iff.rfl
def DC (ops:Qh):Nat->Nat->List Nat->Bool
 | 0,_,L=>(db ops L).isEmpty
 | g+1,k,L=>decide (db ops L=[k])&&DC ops g (k+1) (k::L)
theorem Cr:∀(g k:Nat) (L:List Nat),Region.seqB .any ops g k (bH ops.size L)=DC ops g k L
 | 0,k,L=>by simp only [Region.seqB,DC,dW]
 | g+1,k,L=>by
  simp only [Region.seqB,DC,dW];rw [<-Cr g (k+1) (k::L)];rfl
inductive Ys (P:Program) (ops:Qh) (S:Qd->Prop):List Nat->Qi->Qi->Prop
 | nil {a:Qi}:Ys P ops S [] a a
 | cons {i:Nat} {is:List Nat} {o:Oper} {v:Value} {a a':Qi} (ho:ops[i]?=some o) (hy:YieldsIf P ops S o v a) (ht:Ys P ops S is (a.put o.dst v) a'):Ys P ops S (i::is) a a'
def ma (ops:Qh):List Nat->List Nat->Bool
 | _,[]=>true
 | L,i::is=>(ze ops L i&&(db ops L).contains i)&&ma ops (i::L) is
def rX (ops:Qh) (n:Nat):List Nat->List Nat->Bool
 | _,[]=>true
 | L,i::is=>(Region.waitsFor .any ops n i&&decide (i≠n)&&(decide (n<ops.size)&& !L.contains n)&&ze ops L i&&(db ops L).contains i)&&rX ops n (i::L) is
structure HA (P:Program) (ops:Qh) (Q:Exit->Qi->Qd->Prop) (S:Qd->Prop) (L:List Nat) (a:Qi) (w:Qd):Prop where
 out:wpAnyH P .any ops Q S (unl (bH ops.size L)) (bH ops.size L) a w
structure XA (P:Program) (ops:Qh) (Q:Exit->Qi->Qd->Prop) (S:Qd->Prop) (n:Nat) (L:List Nat) (a:Qi) (w:Qd):Prop where
 out:ey P .any ops Q S n (unl (bH ops.size L)) (bH ops.size L) a w
theorem rU (m:Nat):unl (bH m [])=m:=by simp [unl,bH,List.count_replicate]
theorem HA.go {id:Nat} {a:Qi} {w:Qd} (S:Qd->Prop) (hm:P.follows .mixedOrders=true) (h:HA P ops Q S [] a w.drew):(Code.region id ops true).wp P Q a w:=by
 refine wp_region_held (S:=S) hm ?_;have i:=h.out;rw [rU] at i;exact i
theorem XA.go {id:Nat} {a:Qi} {w:Qd} (n:Nat) (S:Qd->Prop) (hm:P.follows .mixedOrders=true) (h:XA P ops Q S n [] a w.drew):(Code.region id ops true).wp P Q a w:=by
 refine kp n S hm ?_;have i:=h.out;rw [rU] at i;exact i
theorem cN {L:List Nat} {i:Nat} (h:(db ops L).contains i=true):unl (bH ops.size L)=unl (bH ops.size (i::L))+1:=
 Ke (mem_ready.1 (show i∈Region.ready .any ops (bH ops.size L) by rw [dW];simpa using h)).1
theorem HA.takes (hs:Region.noSelect ops=true) (x:∀c a w d v,Q (.panic c) (Act.put a d v) w->Q (.panic c) a w) {w:Qd} (u:S w):
  ∀(o:List Nat) {L:List Nat} {a p:Qi},ma ops L o=true->Ys P ops S o a p->HA P ops Q S (o.reverse++L) p w->HA P ops Q S L a w
 | [],_,_,_,_,.nil,h=>h
 | i::o,L,a,p,hc,.cons ho hy ht,h=>by
  simp only [ma,Bool.and_eq_true] at hc;have y:=HA.takes hs x u o (L:=i::L) hc.2 ht (by simpa using h);refine ⟨?_⟩;rw [cN hc.1.2];exact wpAnyH_take ho hs (by rw [tu];exact hc.1.1) (by rw [dW];exact hc.1.2) (fun c a w=>x c a w _ _) hy u y.out
theorem XA.takes (hs:Region.noSelect ops=true) (x:∀c a w d v,Q (.panic c) (Act.put a d v) w->Q (.panic c) a w) {w:Qd} (u:S w):
  ∀(o:List Nat) {L:List Nat} {a p:Qi},rX ops n L o=true->Ys P ops S o a p->XA P ops Q S n (o.reverse++L) p w->XA P ops Q S n L a w
 | [],_,_,_,_,.nil,h=>h
 | i::o,L,a,p,hc,.cons ho hy ht,h=>by
  simp only [rX,Bool.and_eq_true,OD,Bool.not_eq_true'] at hc;have y:=XA.takes hs x u o (L:=i::L) hc.2 ht (by simpa using h);refine ⟨?_⟩;rw [cN hc.1.2];exact qX ho hc.1.1.1.1.1 hc.1.1.1.1.2 (by rw [j3,if_pos hc.1.1.1.2.1,hc.1.1.1.2.2]) hs (by rw [tu];exact hc.1.1.2) (by rw [dW];exact hc.1.2) (fun c a w=>x c a w _ _) hy u y.out
def LS (ops:Qh) (n:Nat):List Nat->List Nat->Bool
 | _,[]=>true
 | L,i::is=>(decide (i≠n)&&ze ops L i&&(db ops L).contains i)&&LS ops n (i::L) is
theorem XA.takes0 (hs:Region.noSelect ops=true) (u:∀c a w d v,Q (.panic c) (Act.put a d v) w->Q (.panic c) a w) {w:Qd} (x:S w):
  ∀(o:List Nat) {L:List Nat} {a p:Qi},LS ops n L o=true->Ys P ops (fun _=>True) o a p->XA P ops Q S n (o.reverse++L) p w->XA P ops Q S n L a w
 | [],_,_,_,_,.nil,h=>h
 | i::o,L,a,p,hc,.cons ho hy ht,h=>by
  simp only [LS,Bool.and_eq_true,OD] at hc;have y:=XA.takes0 hs u x o (L:=i::L) hc.2 ht (by simpa using h);refine ⟨?_⟩;rw [cN hc.1.2];exact pF ho hc.1.1.1 hs (by rw [tu];exact hc.1.1.2) (by rw [dW];exact hc.1.2) (fun c a w=>u c a w _ _) hy x y.out
theorem uU {L:List Nat} {i:Nat} (hr:db ops L=[i]):unl (bH ops.size L)=unl (bH ops.size (i::L))+1:=
 cN (by rw [hr];simp)
theorem HA.one {L:List Nat} {a:Qi} {w:Qd} (i:Nat) {o:Oper} (v:ops[i]?=some o) (hr:db ops L=[i]) (h:∀p:Qi->Qd->Prop,Shut (∀a w,S w->(S w->HA P ops Q S (i::L) a w)->p a w)->if Region.wanted o (yielded ops a.tmps)=true then Oper.wp P o a w p Q else p (a.put o.dst undef) w):HA P ops Q S L a w:=by
 refine ⟨?_⟩;rw [uU hr];exact wpAnyH_ready (by rw [dW];exact hr) (by simp) (AllReadyH.cons v (fun p y=>h p fun a w x hw=>y.out a w x fun u=>(hw u).out) AllReadyH.nil)
theorem XA.one {L:List Nat} {a:Qi} {w:Qd} (i:Nat) {o:Oper} (v:ops[i]?=some o) (hr:db ops L=[i]) (h:∀p:Qi->Qd->Prop,Shut (∀a w,S w->(S w->XA P ops Q S n (i::L) a w)->p a w)->if Region.wanted o (yielded ops a.tmps)=true then Oper.wp P o a w p Q else p (a.put o.dst undef) w):XA P ops Q S n L a w:=by
 refine ⟨?_⟩;rw [uU hr];exact cD (by rw [dW];exact hr) (by simp) (aU.cons v (fun p y=>h p fun a w x hw=>y.out a w x fun u=>(hw u).out) aU.nil)
theorem HA.call {L:List Nat} {a:Qi} {w:Qd} (i:Nat) {f:FuncId} {args:Qb} {R:Ending->Qd->Prop} (hc:Calls P f args w R) {o:Oper} (u:ops[i]?=some o) (hr:db ops L=[i]) (hw:Region.wanted o (yielded ops a.tmps)=true) (he:(execOp a.eval o).run P w=.ok (.enter f args) w) (k:∀e p,R e p->∃v,e=.returned v/\S p/\(S p->HA P ops Q S (i::L) (a.put o.dst v) p)):HA P ops Q S L a w:=by
 refine HA.one i u hr fun B A=>?_;rw [if_pos hw];unfold Oper.wp;rw [he];refine hc.mono fun e p y=>?_;obtain ⟨v,rfl,x,h⟩:=k e p y;exact A.out _ _ x h
theorem XA.call {L:List Nat} {a:Qi} {w:Qd} (i:Nat) {f:FuncId} {args:Qb} {R:Ending->Qd->Prop} (hc:Calls P f args w R) {o:Oper} (u:ops[i]?=some o) (hr:db ops L=[i]) (hw:Region.wanted o (yielded ops a.tmps)=true) (he:(execOp a.eval o).run P w=.ok (.enter f args) w) (k:∀e p,R e p->∃v,e=.returned v/\S p/\(S p->XA P ops Q S n (i::L) (a.put o.dst v) p)):XA P ops Q S n L a w:=by
 refine XA.one i u hr fun B A=>?_;rw [if_pos hw];unfold Oper.wp;rw [he];refine hc.mono fun e p y=>?_;obtain ⟨v,rfl,x,h⟩:=k e p y;exact A.out _ _ x h
theorem XA.tail {l:List Oper} {L:List Nat} {a:Qi} {w:Qd} (i:unl (bH l.toArray.size L)=(l.drop n).length) (hB:DC l.toArray (l.drop n).length n L=true) (h:wpList P l.toArray Q (l.drop n) a w):
  XA P l.toArray Q S n L a w:=by
 refine ⟨?_⟩;exact eR i (by rw [Cr];exact hB) h
theorem HA.g {id:Nat} {a:Qi} {w:Qd} (S:Qd->Prop) (h:HA P ops Q S [] a w.drew) (hm:P.follows .mixedOrders=true:=by decide +kernel):(Code.region id ops true).wp P Q a w:=HA.go S hm h
theorem XA.g {id:Nat} {a:Qi} {w:Qd} (n:Nat) (S:Qd->Prop) (h:XA P ops Q S n [] a w.drew) (hm:P.follows .mixedOrders=true:=by decide +kernel):(Code.region id ops true).wp P Q a w:=XA.go n S hm h
theorem HA.t (p:Qi) (o:List Nat) {L:List Nat} {a:Qi} {w:Qd} (u:S w) (h:HA P ops Q S (o.reverse++L) p w) (hs:Region.noSelect ops=true:=by decide +kernel) (hQ:∀c a w d v,Q (.panic c) (Act.put a d v) w->Q (.panic c) a w:=by (intro _ _ _ d _ h;cases d<;>exact h)) (hc:ma ops L o=true:=by decide +kernel) (hy:Ys P ops S o a p:=by (try simp only [N0,N1,N2,Act.put,N4,N5,N6]);(repeat ((first | (refine Ys.cons (v:=?_) (by (simp only [N8,N9,Oa];rfl)) (Or.inl ⟨by rfl,?_⟩) ?_;rotate_left;(· (intro x i;(try dsimp only at i);(try (have y:=lA i.1));go_simp;(try with_reducible rfl)))) | refine Ys.cons (v:=undef) (by (simp only [N8,N9,Oa];rfl)) (Or.inr ⟨by rfl,rfl⟩) ?_);simp only [N0,N1,N2,Act.put,N4,N5,N6]));exact Ys.nil):HA P ops Q S L a w:=HA.takes hs hQ u o hc hy h
theorem XA.t (p:Qi) (o:List Nat) {L:List Nat} {a:Qi} {w:Qd} (u:S w) (h:XA P ops Q S n (o.reverse++L) p w) (hs:Region.noSelect ops=true:=by decide +kernel) (hQ:∀c a w d v,Q (.panic c) (Act.put a d v) w->Q (.panic c) a w:=by (intro _ _ _ d _ h;cases d<;>exact h)) (hc:rX ops n L o=true:=by decide +kernel) (hy:Ys P ops S o a p:=by (try simp only [N0,N1,N2,Act.put,N4,N5,N6]);(repeat ((first | (refine Ys.cons (v:=?_) (by (simp only [N8,N9,Oa];rfl)) (Or.inl ⟨by rfl,?_⟩) ?_;rotate_left;(· (intro x i;(try dsimp only at i);(try (have y:=lA i.1));go_simp;(try with_reducible rfl)))) | refine Ys.cons (v:=undef) (by (simp only [N8,N9,Oa];rfl)) (Or.inr ⟨by rfl,rfl⟩) ?_);simp only [N0,N1,N2,Act.put,N4,N5,N6]));exact Ys.nil):XA P ops Q S n L a w:=XA.takes hs hQ u o hc hy h
theorem XA.t0 (o:Qi) (i:List Nat) {L:List Nat} {a:Qi} {w:Qd} (p:S w) (h:XA P ops Q S n (i.reverse++L) o w) (hs:Region.noSelect ops=true:=by decide +kernel) (hQ:∀c a w d v,Q (.panic c) (Act.put a d v) w->Q (.panic c) a w:=by (intro _ _ _ d _ h;cases d<;>exact h)) (hc:LS ops n L i=true:=by decide +kernel) (hy:Ys P ops (fun _=>True) i a o:=by (try simp only [N0,N1,N2,Act.put,N4,N5,N6]);(repeat ((first | (refine Ys.cons (v:=?_) (by (simp only [N8,N9,Oa];rfl)) (Or.inl ⟨by rfl,?_⟩) ?_;rotate_left;(· (intro u _;go_simp;(try with_reducible rfl)))) | refine Ys.cons (v:=undef) (by (simp only [N8,N9,Oa];rfl)) (Or.inr ⟨by rfl,rfl⟩) ?_);simp only [N0,N1,N2,Act.put,N4,N5,N6]));exact Ys.nil):XA P ops Q S n L a w:=XA.takes0 hs hQ p i hc hy h
theorem HA.c {L:List Nat} {a:Qi} {w:Qd} (i:Nat) {f:FuncId} {args:Qb} {R:Ending->Qd->Prop} {o:Oper} (hc:Calls P f args w R) (k:∀e h,R e h->∃v,e=.returned v/\S h/\(S h->HA P ops Q S (i::L) (a.put o.dst v) h)) (p:ops[i]?=some o:=by (simp only [N8,N9,Oa];rfl)) (hr:db ops L=[i]:=by decide +kernel) (hw:Region.wanted o (yielded ops a.tmps)=true:=by rfl) (he:(execOp a.eval o).run P w=.ok (.enter f args) w:=by go_simp):HA P ops Q S L a w:=HA.call i hc p hr hw he k
theorem XA.c {L:List Nat} {a:Qi} {w:Qd} (i:Nat) {f:FuncId} {args:Qb} {R:Ending->Qd->Prop} {o:Oper} (hc:Calls P f args w R) (k:∀e h,R e h->∃v,e=.returned v/\S h/\(S h->XA P ops Q S n (i::L) (a.put o.dst v) h)) (p:ops[i]?=some o:=by (simp only [N8,N9,Oa];rfl)) (hr:db ops L=[i]:=by decide +kernel) (hw:Region.wanted o (yielded ops a.tmps)=true:=by rfl) (he:(execOp a.eval o).run P w=.ok (.enter f args) w:=by go_simp):XA P ops Q S n L a w:=XA.call i hc p hr hw he k
theorem HA.d {L:List Nat} {a:Qi} {w:Qd} (h:Q .normal a w) (hr:db ops L=[]:=by decide +kernel):HA P ops Q S L a w:=⟨wpAnyH_done (by rw [dW];exact hr) h _⟩
theorem XA.e {l:List Oper} {L:List Nat} {a:Qi} {w:Qd} (h:wpList P l.toArray Q (l.drop n) a w) (i:unl (bH l.toArray.size L)=(l.drop n).length:=by rfl) (hB:DC l.toArray (l.drop n).length n L=true:=by decide +kernel):
  XA P l.toArray Q S n L a w:=XA.tail i hB h
theorem HA.o {L:List Nat} {a:Qi} {w:Qd} {o:Oper} (i:Nat) (h:∀p:Qi->Qd->Prop,Shut (∀a w,S w->(S w->HA P ops Q S (i::L) a w)->p a w)->if Region.wanted o (yielded ops a.tmps)=true then Oper.wp P o a w p Q else p (a.put o.dst undef) w) (u:ops[i]?=some o:=by (simp only [N8,N9,Oa];rfl)) (hr:db ops L=[i]:=by decide +kernel):HA P ops Q S L a w:=HA.one i u hr h
theorem XA.o {L:List Nat} {a:Qi} {w:Qd} {o:Oper} (i:Nat) (h:∀p:Qi->Qd->Prop,Shut (∀a w,S w->(S w->XA P ops Q S n (i::L) a w)->p a w)->if Region.wanted o (yielded ops a.tmps)=true then Oper.wp P o a w p Q else p (a.put o.dst undef) w) (u:ops[i]?=some o:=by (simp only [N8,N9,Oa];rfl)) (hr:db ops L=[i]:=by decide +kernel):XA P ops Q S n L a w:=XA.one i u hr h
theorem HA.s {L:List Nat} {a:Qi} {w:Qd} {o:Oper} (i:Nat) (h:Qd) (u:S h) (k:HA P ops Q S (i::L) (a.put o.dst undef) h) (p:ops[i]?=some o:=by (simp only [N8,N9,Oa];rfl)) (hr:db ops L=[i]:=by decide +kernel) (hw:Region.wanted o (yielded ops a.tmps)=true:=by rfl) (he:(execOp a.eval o).run P w=.ok .skip h:=by go_simp):HA P ops Q S L a w:=by
 refine HA.one i p hr fun x v=>?_;rw [if_pos hw];unfold Oper.wp;rw [he];exact v.out _ _ u fun _=>k
theorem HA.v {L:List Nat} {a:Qi} {w:Qd} {o:Oper} (i:Nat) (h:Qd) (v:Value) (u:S h) (k:HA P ops Q S (i::L) (a.put o.dst v) h) (p:ops[i]?=some o:=by (simp only [N8,N9,Oa];rfl)) (hr:db ops L=[i]:=by decide +kernel) (hw:Region.wanted o (yielded ops a.tmps)=true:=by rfl) (he:(execOp a.eval o).run P w=.ok (.value v) h:=by go_simp):HA P ops Q S L a w:=by
 refine HA.one i p hr fun y x=>?_;rw [if_pos hw];unfold Oper.wp;rw [he];exact x.out _ _ u fun _=>k
end
section
variable {P:Program} {ops:Qh} {Q:Exit->Qi->Qd->Prop} {S:Qd->Prop}
structure HAS (P:Program) (ops:Qh) (Q:Exit->Qi->Qd->Prop) (S:Qd->Prop) (i:Nat) (L:List Nat) (a:Qi) (w:Qd):Prop where
 out:∃o,ops[i]?=some o/\∀K':Qi->Qd->Prop,Shut (∀a w,S w->(S w->HA P ops Q S (i::L) a w)->K' a w)->if Region.wanted o (yielded ops a.tmps)=true then Oper.wp P o a w K' Q else K' (a.put o.dst undef) w
theorem HAS.c {L:List Nat} {a:Qi} {w:Qd} {i:Nat} {f:FuncId} {args:Qb} {R:Ending->Qd->Prop} {o:Oper} (hc:Calls P f args w R) (k:∀e p,R e p->∃v,e=.returned v/\S p/\(S p->HA P ops Q S (i::L) (a.put o.dst v) p)) (u:ops[i]?=some o:=by (simp only [N8,N9,Oa];rfl)) (hw:Region.wanted o (yielded ops a.tmps)=true:=by rfl) (he:(execOp a.eval o).run P w=.ok (.enter f args) w:=by go_simp):HAS P ops Q S i L a w:=by
 refine ⟨o,u,fun B A=>?_⟩;rw [if_pos hw];unfold Oper.wp;rw [he];refine hc.mono fun e p y=>?_;obtain ⟨v,rfl,x,h⟩:=k e p y;exact A.out _ _ x h
theorem HAS.v {L:List Nat} {a:Qi} {w:Qd} {i:Nat} {o:Oper} (h:Qd) (v:Value) (u:S h) (k:HA P ops Q S (i::L) (a.put o.dst v) h) (p:ops[i]?=some o:=by (simp only [N8,N9,Oa];rfl)) (hw:Region.wanted o (yielded ops a.tmps)=true:=by rfl) (he:(execOp a.eval o).run P w=.ok (.value v) h:=by go_simp):HAS P ops Q S i L a w:=by
 refine ⟨o,p,fun y x=>?_⟩;rw [if_pos hw];unfold Oper.wp;rw [he];exact x.out _ _ u fun _=>k
theorem HA.two {L:List Nat} {a:Qi} {w:Qd} (i j:Nat) (y:HAS P ops Q S i L a w) (p:HAS P ops Q S j L a w) (hr:db ops L=[i,j]:=by decide +kernel):HA P ops Q S L a w:=by
 obtain ⟨H,x,y⟩:=y;obtain ⟨I,o,p⟩:=p;have B:unl (bH ops.size L)=unl (bH ops.size (i::L))+1:=cN (by rw [hr];simp);have D:unl (bH ops.size L)=unl (bH ops.size (j::L))+1:=cN (by rw [hr];simp);have C:unl (bH ops.size (j::L))=unl (bH ops.size (i::L)):=ap;refine ⟨?_⟩;rw [B];refine wpAnyH_ready (by rw [dW];exact hr) (by simp) (AllReadyH.cons x (fun A v=>y A fun a w u hw=>v.out a w u fun h=>(hw h).out) (AllReadyH.cons o (fun A v=>p A fun a w u hw=>v.out a w u fun h=>?_) AllReadyH.nil));have:=(hw h).out;rw [C] at this;exact this
theorem HA.three {L:List Nat} {a:Qi} {w:Qd} (i j k:Nat) (B:HAS P ops Q S i L a w) (y:HAS P ops Q S j L a w) (hk:HAS P ops Q S k L a w) (hr:db ops L=[i,j,k]:=by decide +kernel):HA P ops Q S L a w:=by
 obtain ⟨N,A,B⟩:=B;obtain ⟨O,x,y⟩:=y;obtain ⟨ok,v,hk⟩:=hk;have D:unl (bH ops.size L)=unl (bH ops.size (i::L))+1:=cN (by rw [hr];simp);have I:unl (bH ops.size L)=unl (bH ops.size (j::L))+1:=cN (by rw [hr];simp);have J:unl (bH ops.size L)=unl (bH ops.size (k::L))+1:=cN (by rw [hr];simp);have C:unl (bH ops.size (j::L))=unl (bH ops.size (i::L)):=ap;have H:unl (bH ops.size (k::L))=unl (bH ops.size (i::L)):=ap;refine ⟨?_⟩;rw [D];refine wpAnyH_ready (by rw [dW];exact hr) (by simp) (AllReadyH.cons A (fun u p=>B u fun a w o hw=>p.out a w o fun h=>(hw h).out) (AllReadyH.cons x (fun u p=>y u fun a w o hw=>p.out a w o fun h=>?_) (AllReadyH.cons v (fun u p=>hk u fun a w o hw=>p.out a w o fun h=>?_) AllReadyH.nil)))
 ·have:=(hw h).out;rw [C] at this;exact this
 ·have:=(hw h).out;rw [H] at this;exact this
end
end Go.Proofs.YtgmajkppbhiopaaGreat
namespace Go.Proofs.YtgmajkppbhiopaaGreat
open Go.RowKit
section
variable {P:Program}
structure cY (P:Program) (t:Qf) (n:Nat):Prop where
 d:∃d,P.underlying t=some d/\d.isRow=true
 s:(P.info? t).map (·.size)=some n
theorem eU {w:Qd} {b:Nat} {xs:Qb} {t:Qf} {u:Nat×Nat} (h:w.heap[b]?=some (.cells xs t u)) (o:Nat) {p:Qc} (hcs:(xs.toList.drop o).take p.length=p):w.rangeAt b o p:=fun j v i=>by
 rw [NH w b (o+j) xs t u h];rw [<-hcs,List.getElem?_take] at i
 split at i
 ·rw [List.getElem?_drop] at i;simpa using i
 ·cases i
theorem rh (w:Qd) (g:Nat) (h:Qb):Keep (fun j=>j=g) w (w.setRow g h):=by
 refine ⟨rfl,rfl,rfl,by simp [World.setRow],fun k hk hs=>?_⟩;simp only [World.setRow,Array.getElem?_modify];rw [if_neg (fun e=>hs e.symm)]
theorem aK {ops:Qh} {rest:List Oper} {op:Oper} {a:Qi} {w:Qd} {Q:Exit->Qi->Qd->Prop} {u:Qf} {x:Operand} {b o:Nat} {xs:Qb} {t:Qf} {C:Nat×Nat} (i:Qb) (hb:w.heap[b]?=some (.cells xs t C)) (hr:cY P u i.size) (p:op.guard=none) (v:op.op=.load u x) (B:a.eval x=.pointer (some (ar b o))) (hcs:(xs.toList.drop o).take i.toList.length=i.toList) (h:wpList P ops Q rest (a.put op.dst (.agg i)) w):wpList P ops Q (op::rest) a w:=by
 obtain ⟨⟨d,h1,y⟩,A⟩:=hr;exact wpList_load_mid p u x v b o B i.toList d (eU hb o hcs) h1 y (by simpa using A) (by simpa using h)
theorem eD {ops:Qh} {rest:List Oper} {op:Oper} {a:Qi} {w:Qd} {Q:Exit->Qi->Qd->Prop} {u:Qf} {x:Operand} {b o:Nat} {i:Qc} (hb:w.rangeAt b o i) (hr:cY P u i.length) (p:op.guard=none) (v:op.op=.load u x) (B:a.eval x=.pointer (some (ar b o))) (h:wpList P ops Q rest (a.put op.dst (.agg i.toArray)) w):wpList P ops Q (op::rest) a w:=by
 obtain ⟨⟨d,h1,y⟩,A⟩:=hr;exact wpList_load_mid p u x v b o B i d hb h1 y A h
theorem aH {ops:Qh} {rest:List Oper} {op:Oper} {a:Qi} {w:Qd} {Q:Exit->Qi->Qd->Prop} {p:Qf} {x y:Operand} {b n:Nat} {xs ys:Qb} {t:Qf} (hb:w.heap[b]?=some (.cells xs t (0,0))) (hr:cY P p n) (i:op.guard=none) (u:op.op=.store p x y) (B:a.eval x=(au b)) (v:a.eval y=.agg ys) (hn:ys.size=n) (hs:xs.size=ys.size) (h1:ys.toList.all (·.oneCell')=true) (h:∀o,o.heap[b]?=some (.cells ys t (0,0))->Keep (fun j=>j=b) w o->wpList P ops Q rest (a.put op.dst undef) o):wpList P ops Q (op::rest) a w:=by
 refine wpList_plain i fun K A=>?_;unfold Oper.wp execOp;simp only [u,B,v,Instr.storeAt,Instr.sureAddr,Sem.run_bind,Sem.run_pure,Result.andThen_ok,run_storeVar_row w b t p xs ys hb (by rw [hn];exact hr.s) hs (by rw [<-Array.all_toList];exact h1)];exact A _ _ (h _ (setRow_heap w b xs ys t (0,0) hb) (rh w b ys))
theorem GQ {f:Func} {x:Tmp} {o:Qf} (h:f.results=#[.cell x o]) {tmps:Qb} {w:Qd} {b:Nat} {xs:Qb} {t:Qf} {y:Nat×Nat} (v:tmps.getD x undef=(au b)) (hb:w.heap[b]?=some (.cells xs t y)) (hr:cY P o xs.size):(results f tmps).run P w=.ok (.agg xs) w:=by
 obtain ⟨⟨d,h1,p⟩,u⟩:=hr;have:=run_loadVar_mid (P:=P) w b 0 o xs.toList d (eU hb 0 (by rw [Oc,Oq])) h1 p (by simpa using u);rw [Array.toArray_toList] at this;have i:tmps[x]?.getD undef=(au b):=by simpa using v
 simp [results,h,i,asAddr,this]
theorem dg {f:Func} {x y:Tmp} {o:Qf} (h:f.results=#[.cell x o,.tmp y]) {tmps:Qb} {w:Qd} {b:Nat} {xs:Qb} {t:Qf} {A:Nat×Nat} (v:tmps.getD x undef=(au b)) (hb:w.heap[b]?=some (.cells xs t A)) (hr:cY P o xs.size):(results f tmps).run P w=.ok (.tuple #[.agg xs,tmps.getD y undef]) w:=by
 obtain ⟨⟨d,h1,p⟩,u⟩:=hr;have:=run_loadVar_mid (P:=P) w b 0 o xs.toList d (eU hb 0 (by rw [Oc,Oq])) h1 p (by simpa using u);rw [Array.toArray_toList] at this;have i:tmps[x]?.getD undef=(au b):=by simpa using v
 simp [results,h,i,asAddr,this]
end
section
variable {P:Program} {ops:Qh} {Q:Exit->Qi->Qd->Prop} {S:Qd->Prop} {n:Nat}
theorem ut {S:Qd->Prop} {a:Qi} {o:Oper} {u:Qf} {x:Operand} {b off:Nat} {xs:Qb} {t:Qf} {B:Nat×Nat} (h:Qb) (hb:∀i,S i->i.heap[b]?=some (.cells xs t B)) (hr:cY P u h.size) (p:o.op=.load u x) (A:a.eval x=.pointer (some (ar b off))) (hcs:(xs.toList.drop off).take h.toList.length=h.toList) (hg:Region.wanted o (yielded ops a.tmps)=true):YieldsIf P ops S o (.agg h) a:=by
 obtain ⟨⟨d,h1,v⟩,y⟩:=hr;have:=yieldsIf_load_mid (P:=P) (ops:=ops) (S:=S) (op:=o) (a:=a) hg u x p b off A h.toList d (fun i q=>eU (hb i q) off hcs) h1 v (by simpa using y);simpa using this
theorem HA.ld {L:List Nat} {a:Qi} {w:Qd} (i:Nat) (p:Qb) {o:Oper} {y:Qf} {x:Operand} {b off:Nat} {xs:Qb} {t:Qf} {C:Nat×Nat} (hb:∀u,S u->u.heap[b]?=some (.cells xs t C)) (hr:cY P y p.size) (B:S w) (k:HA P ops Q S (i::L) (a.put o.dst (.agg p)) w) (A:ops[i]?=some o:=by (simp only [N8,N9,Oa];rfl)) (hop:o.op=.load y x:=by rfl) (hx:a.eval x=.pointer (some (ar b off)):=by rfl) (hcs:(xs.toList.drop off).take p.toList.length=p.toList:=by rfl) (hg:Region.wanted o (yielded ops a.tmps)=true:=by rfl) (hs:Region.noSelect ops=true:=by decide +kernel) (hQ:∀c a w d v,Q (.panic c) (Act.put a d v) w->Q (.panic c) a w:=by (intro _ _ _ d _ h;cases d<;>exact h)) (hc:ma ops L [i]=true:=by decide +kernel):HA P ops Q S L a w:=
 HA.takes hs hQ B [i] hc (Ys.cons A (ut p hb hr hop hx hcs hg) Ys.nil) (by simpa using k)
theorem XA.ld {L:List Nat} {a:Qi} {w:Qd} (i:Nat) (p:Qb) {o:Oper} {y:Qf} {x:Operand} {b off:Nat} {xs:Qb} {t:Qf} {C:Nat×Nat} (hb:∀u,S u->u.heap[b]?=some (.cells xs t C)) (hr:cY P y p.size) (B:S w) (k:XA P ops Q S n (i::L) (a.put o.dst (.agg p)) w) (A:ops[i]?=some o:=by (simp only [N8,N9,Oa];rfl)) (hop:o.op=.load y x:=by rfl) (hx:a.eval x=.pointer (some (ar b off)):=by rfl) (hcs:(xs.toList.drop off).take p.toList.length=p.toList:=by rfl) (hg:Region.wanted o (yielded ops a.tmps)=true:=by rfl) (hs:Region.noSelect ops=true:=by decide +kernel) (hQ:∀c a w d v,Q (.panic c) (Act.put a d v) w->Q (.panic c) a w:=by (intro _ _ _ d _ h;cases d<;>exact h)) (hc:rX ops n L [i]=true:=by decide +kernel):XA P ops Q S n L a w:=
 XA.takes hs hQ B [i] hc (Ys.cons A (ut p hb hr hop hx hcs hg) Ys.nil) (by simpa using k)
theorem HA.lr {L:List Nat} {a:Qi} {w:Qd} (i:Nat) {p:Qc} {o:Oper} {u:Qf} {x:Operand} {b off:Nat} (hb:∀y,S y->y.rangeAt b off p) (hr:cY P u p.length) (C:S w) (k:HA P ops Q S (i::L) (a.put o.dst (.agg p.toArray)) w) (A:ops[i]?=some o:=by (simp only [N8,N9,Oa];rfl)) (hop:o.op=.load u x:=by rfl) (hx:a.eval x=.pointer (some (ar b off)):=by rfl) (hg:Region.wanted o (yielded ops a.tmps)=true:=by rfl) (hs:Region.noSelect ops=true:=by decide +kernel) (hQ:∀c a w d v,Q (.panic c) (Act.put a d v) w->Q (.panic c) a w:=by (intro _ _ _ d _ h;cases d<;>exact h)) (hc:ma ops L [i]=true:=by decide +kernel):HA P ops Q S L a w:=by
 obtain ⟨⟨d,h1,B⟩,D⟩:=hr;exact HA.takes hs hQ C [i] hc (Ys.cons A (yieldsIf_load_mid hg u x hop b off hx p d hb h1 B D) Ys.nil) (by simpa using k)
theorem HA.st {L:List Nat} {a:Qi} {w:Qd} (i:Nat) {o:Oper} {p:Qf} {x y:Operand} {b m:Nat} {xs ys:Qb} {t:Qf} (hb:w.heap[b]?=some (.cells xs t (0,0))) (hr:cY P p m) (k:∀h,h.heap[b]?=some (.cells ys t (0,0))->Keep (fun j=>j=b) w h->S h/\HA P ops Q S (i::L) (a.put o.dst undef) h) (v:ops[i]?=some o:=by (simp only [N8,N9,Oa];rfl)) (hop:o.op=.store p x y:=by rfl) (hx:a.eval x=(au b):=by rfl) (hy:a.eval y=.agg ys:=by rfl) (hn:ys.size=m:=by rfl) (hs:xs.size=ys.size:=by rfl) (h1:ys.toList.all (·.oneCell')=true:=by rfl) (hrd:db ops L=[i]:=by decide +kernel) (hw:Region.wanted o (yielded ops a.tmps)=true:=by rfl):HA P ops Q S L a w:=by
 obtain ⟨u,k⟩:=k _ (setRow_heap w b xs ys t (0,0) hb) (rh w b ys);refine HA.s i _ u k v hrd hw ?_;unfold execOp;simp only [hop,hx,hy,Instr.storeAt,Instr.sureAddr,Sem.run_bind,Sem.run_pure,Result.andThen_ok,run_storeVar_row w b t p xs ys hb (by rw [hn];exact hr.s) hs (by rw [<-Array.all_toList];exact h1)]
end
theorem ax {W:Qd} {b:Nat} {u:Qb} {t e:Qf} {y:Nat×Nat} (h:W.heap[b]?=some (.cells u t y)) (o:t≠e) {base size k:Nat} {v:Value} {xs:Qc} (hr:W.ownsRow base e size v k xs):some b≠v.ownBlock:=by
 rcases hr.2 with ⟨rfl,_⟩ | ⟨g,cap,p,rfl,_,i,_⟩
 ·simp [Value.ownBlock]
 ·intro x;obtain rfl:b=g:=by simpa [Value.ownBlock] using x
  have:=h.symm.trans i;simp at this;exact o this.2.1
theorem dV {W u:Qd} {b:Nat} {p:Qb} {t e:Qf} {x:Nat×Nat} {o:Obj} (h:W.heap[b]?=some (.cells p t x)) (i:t≠e) {base size k:Nat} {v:Value} {xs:Qc} (hr:W.ownsRow base e size v k xs) (hg:(W.alloc o).grownBy u v.ownBlock):u.heap[b]?=some (.cells p t x):= (hg.block b (by have:=NE h;simp;omega) (ax h i hr)).trans ((NW W o b (NE h)).trans h)
theorem BV {W i:Qd} {b o:Nat} {u:Value} {e:Qf} {p:Obj} (h:W.cell? (ar b o)=some u) {base size k:Nat} {v:Value} {xs:Qc} (hb:b<base) (hr:W.ownsRow base e size v k xs) (hg:(W.alloc p).grownBy i v.ownBlock):i.cell? (ar b o)=some u:=
 hg.cell ((World.cell?_of_block (w:=W) (NW W p b (aB h))).trans h) (fun e=>by
  have x:v.ownBlock=some b:=e.symm;have:=(hr.lt b x).1
  omega)
theorem va {W B:Qd} {base':Nat} {A:Qf} {h m:Nat} {v v' u:Value} {ys:Qc} {o:Obj} (y:W.ownsRow base' A h u m ys) (x:∀i,v.ownBlock=some i->u.ownBlock≠some i) (hg:(W.alloc o).grownBy B v.ownBlock) (p:v'.ownBlock=v.ownBlock\/v'.ownBlock=some (W.alloc o).heap.size):B.ownsRow base' A h u m ys/\∀i,v'.ownBlock=some i->u.ownBlock≠some i:=by
 refine ⟨(y.alloc o).kept hg ?_,fun i C=>?_⟩
 ·cases hub:u.ownBlock with
  | none=>exact .inl rfl
  | some k=>exact .inr fun e=>x k e.symm hub
 ·rcases p with p | p
  ·exact x i (p▸C)
  ·intro e;have h1:=(y.lt i e).2;rw [C] at p;simp at p;omega
theorem aI {W:Qd} {p:Addr} {u:Value} (h:W.cell? p=some u) (o:Obj):(W.alloc o).cell? p=some u:= (World.cell?_of_block (w:=W) (NW W o _ (aB h))).trans h
theorem aw {w i:Qd} {p:Addr} {u:Value} (hb:aq w i) (h:w.cell? p=some u):i.cell? p=some u:=(World.cell?_of_block (w:=w) (hb.block _ (aB h))).trans h
theorem jC {W:Qd} {B H v y s1 s2 D I:Nat} {v1 v2:Value} {u o:Qc} (h1:W.ownsRow B v s1 v1 D u) (C:W.ownsRow H y s2 v2 I o) (p:v≠y):∀i,v1.ownBlock=some i->v2.ownBlock≠some i:=by
 intro i x e;rcases h1.2 with ⟨rfl,_⟩ | ⟨g,cap,A,rfl,_,h,_⟩
 ·cases x
 ·obtain rfl:g=i:=by simpa [Value.ownBlock] using x
  exact ax h p C e.symm
theorem yw {W x:Qd} {p e h size n m:Nat} {v u y:Value} {xs ys:Qc} {o:Obj} {base base' B j:Nat} {J:Qb} {t:Qf} (C:W.ownsRow base' p h u m ys) (H:W.ownsRow base e size v n xs) (hg:(W.alloc o).grownBy x v.ownBlock) (hB:x.heap[B]?=some (.cells J t (0,0))) (h1:e≠p) (I:t≠p):(x.setCell (ar B j) y).ownsRow base' p h u m ys:=by
 have D:x.ownsRow base' p h u m ys:=by
  refine (C.alloc o).kept hg ?_
  cases hub:u.ownBlock with
  | none=>exact .inl rfl
  | some k=>exact .inr fun A=>jC H C h1 k A.symm hub
 exact (Keep.setCell (S:=fun i=>i=B) (Keep.refl _ x) (ar B j) (.inr rfl) y).own D (fun i L A=>ax hB I D (by rw [L,A]))
theorem qe {W i:Qd} {r:Option Nat} (h:W.drew.grownBy i r):W.grownBy i r:=⟨h.os,h.tape,h.output,h.size,h.block⟩
def dQ (mv:Nat->Qb) (n:Nat):Qc:=((List.range n).map fun x=>(mv x).toList).flatten
theorem mq (mv:Nat->Qb) (n:Nat):dQ mv (n+1)=dQ mv n++(mv n).toList:=by simp [dQ,Ow]
theorem xX {mv mv':Nat->Qb} {n:Nat} (h:∀x,x<n->mv x=mv' x):dQ mv n=dQ mv' n:=by
 unfold dQ
 congr 1
 exact List.map_congr_left fun x i=>by rw [h x (List.mem_range.1 i)]
section
variable {mv:Nat->Qb} {n k x:Nat}
theorem lH (h:∀x,x<n->(mv x).size=k):(dQ mv n).length=n*k:=by
 induction n with
 | zero=>simp [dQ]
 | succ n ih=>rw [mq,Od,ih (fun x i=>h x ap),Array.length_toList,h n ap,Ox]
theorem pP (h:∀x,x<n->(mv x).size=k) (i:x<n) {f:Nat} (o:f<k):(dQ mv n)[x*k+f]?=(mv x)[f]?:=by
 induction n with
 | zero=>omega
 | succ n ih=>
  have hl:=lH (n:=n) (fun x i=>h x ap);rw [mq];by_cases e:x=n
  ·subst e;rw [Oh ap,hl,Nat.add_sub_cancel_left,Array.getElem?_toList]
  ·have:x*k+k<=n*k:=by rw [<-Ox];exact OF k ap
   rw [Og ap];exact ih (fun x i=>h x ap) ap
theorem uK (h:∀x,x<n->(mv x).toList.all (·.oneCell')=true):∀u∈dQ mv n,u.oneCell'=true:=by
 intro u i;simp only [dQ,List.mem_flatten,List.mem_map,List.mem_range] at i;obtain ⟨l,⟨x,o,rfl⟩,i⟩:=i;exact List.all_eq_true.1 (h x o) u i
theorem gH {w:Qd} {A:N_} (hr:Rd w A (dQ mv n)) (h:∀x,x<n->(mv x).size=k) (hk:0<k) (i:x<n):∃b o,A=some (ar b o)/\w.rangeAt b (o+x*k) (mv x).toList:=by
 have y:=pP h i hk;rw [Nat.add_zero] at y;obtain ⟨v,C⟩:∃v,(mv x)[0]?=some v:=⟨_,Array.getElem?_eq_getElem (by rw [h x i];exact hk)⟩;obtain ⟨b,o,rfl,_⟩:=hr _ _ (y.trans C);refine ⟨b,o,rfl,fun j u p=>?_⟩;have B:j<k:=by have:=(Oe.1 p).1;rw [Array.length_toList,h x i] at this;exact this
 obtain ⟨D,H,e,hc⟩:=hr (x*k+j) u (by rw [pP h i B,<-Array.getElem?_toList];exact p);injection e with e;injection e with e1 e2 _
 subst e1;subst e2;rw [Oy];exact hc
end
def DB:Qc->Nat->Qc->Qc
 | xs,_,[]=>xs
 | xs,o,v::r=>DB (xs.set o v) (o+1) r
theorem Cq:∀(ys xs:Qc) (o j:Nat),o+ys.length<=xs.length->(DB xs o ys)[j]?=if o<=j/\j<o+ys.length then ys[j-o]? else xs[j]?
 | [],xs,o,j,_=>by rw [if_neg (by simp [List.length_nil];try omega)];rfl
 | v::r,xs,o,j,h=>by
  rw [List.length_cons] at h;rw [DB,Cq r (xs.set o v) (o+1) j (by rw [List.length_set];omega),List.length_cons];by_cases h1:j=o
  ·subst h1;rw [if_neg ap,if_pos ap,Nat.sub_self,List.getElem?_set_self ap];rfl
  ·by_cases i:o+1<=j/\j<o+1+r.length
   ·rw [if_pos i,if_pos ap,show j-o=(j-(o+1))+1 by omega,N9]
   ·rw [if_neg i,if_neg ap,List.getElem?_set_ne ap]
theorem DO {mv mv':Nat->Qb} {n k x:Nat} (h:∀x,x<n->(mv x).size=k) (i:∀x,x<n->(mv' x).size=k) (B:x<n) (hm:∀y,y≠x->mv' y=mv y):DB (dQ mv n) (x*k) (mv' x).toList=dQ mv' n:=by
 have hl:=lH h;have v:=lH i;have A:x*k+k<=n*k:=by rw [<-Ox];exact OF k ap
 have o:(mv' x).toList.length=k:=by rw [Array.length_toList,i x B]
 refine List.ext_getElem? fun j=>?_;rw [Cq _ _ _ _ ap,o];by_cases C:j<n*k
 ·by_cases hk:k=0
  ·subst hk;omega
  obtain ⟨y,f,rfl,p⟩:∃y f,j=y*k+f/\f<k:=⟨j/k,j%k,by rw [Nat.mul_comm,Nat.div_add_mod],Nat.mod_lt _ ap⟩
  have u:y<n:=by
   refine Classical.byContradiction fun hc=>?_;have:=OF k (show n<=y by omega);omega
  rw [pP i u p];by_cases e:y=x
  ·subst e;rw [if_pos ap,Nat.add_sub_cancel_left,Array.getElem?_toList]
  ·rw [if_neg ?_,pP h u p,hm y e];rintro ⟨h1,D⟩;rcases Nat.lt_or_gt_of_ne e with e | e
   ·have:=OF k (show y+1<=x by omega);rw [Ox] at this;omega
   ·have:=OF k (show x+1<=y by omega);rw [Ox] at this;omega
 ·rw [if_neg ap,List.getElem?_eq_none ap,List.getElem?_eq_none ap]
theorem pU:∀(ys:Qc) {w:Qd} {base g c n o:Nat} {e:Qf} {size:Nat} {xs:Qc},w.ownsRow base e size (.slice (some (ar g 0)) n c) n xs->(w.setCells g o ys).ownsRow base e size (.slice (some (ar g 0)) n c) n (DB xs o ys)
 | [],_,_,_,_,_,_,_,_,_,h=>h
 | v::r,w,base,g,c,n,o,e,size,xs,h=>pU r (h.stored o v).1
theorem iO:∀(ys:Qc) (w:Qd) (g o:Nat),Keep (fun j=>j=g) w (w.setCells g o ys)
 | [],w,_,_=>Keep.refl _ w
 | v::r,w,g,o=>(Keep.setCell (S:=fun j=>j=g) (Keep.refl _ w) (ar g o) (.inr rfl) v).trans (iO r _ g (o+1))
theorem nG {w:Qd} {base g c n:Nat} {e:Qf} {size:Nat} {xs:Qc} (h:w.ownsRow base e size (.slice (some (ar g 0)) n c) n xs) {x:Nat} (B:x<n):w.there g (x*size) size:=fun j v=>by
 rcases h.2 with ⟨p,_⟩ | ⟨C,cap,i,p,hb,hg,h1,y,u,A⟩
 ·cases p
 ·injection p with e1;injection e1 with e1;injection e1 with e1 _ _
  subst e1
  have o:x*size+j<i.size:=by
   rw [u];have:=OF size (show x+1<=cap by omega);rw [Ox] at this;omega
  exact ⟨by rw [NH w g _ _ _ _ hg,Array.getElem?_eq_getElem o];rfl,NS w g _ _ _ hg⟩
section
variable {P:Program} {ops:Qh} {Q:Exit->Qi->Qd->Prop} {S:Qd->Prop}
theorem HA.sole {L:List Nat} {a:Qi} {w:Qd} (i:Nat) (p:HAS P ops Q S i L a w) (hr:db ops L=[i]:=by decide +kernel):HA P ops Q S L a w:=by
 obtain ⟨o,u,h⟩:=p;exact HA.one i u hr h
end
theorem KA {w u i h:Qd} {U V:Nat} {x y:Qb} {t:Qf} (ne:U≠V) (A:w.heap.size<=U) (o:w.heap.size<=V) (hb:aq w u) (B:i.heap[U]?=some (.cells x t (0,0))) (C:Keep (fun j=>j=U) u i) (D:h.heap[V]?=some (.cells y t (0,0))) (p:Keep (fun j=>j=V) i h):h.heap[U]?=some (.cells x t (0,0))/\h.heap[V]?=some (.cells y t (0,0))/\U≠V/\w.heap.size<=U/\w.heap.size<=V/\aq w h:=
 have v:=hb.trans (C.toBelow hb.size (fun j e=>by rw [e];exact A))
 ⟨(p.block U (NE B) ne).trans B,D,ne,A,o,v.trans (p.toBelow v.size (fun j e=>by rw [e];exact o))⟩
theorem JH {w h:Qd} {B U:Nat} {W1:Qd} (q:Below B W1 w) (k:Keep (fun j=>j=U) w h) (hB:B<=w.heap.size) (i:B<=U):Below B W1 h:=q.trans (k.toBelow hB (fun j e=>by rw [e];exact i))
end Go.Proofs.YtgmajkppbhiopaaGreat
namespace Go.Proofs.YtgmajkppbhiopaaGreat
open Go.RowKit Go.ChangeShapes Go.WideShapes Go.ChangeAt
abbrev eQ (α:Type):=Qd->Qc->α->Prop
def Dd {α:Type} (R:eQ α):Prop:=∀{w w':Qd} {cs:Qc} {a:α},aq w w'->R w cs a->R w' cs a
def bZ (l:List (Qc)) (j:Nat):Qc:=l.getD j []
theorem qB {l:List (Qc)} {j:Nat} (h:j<l.length):bZ l j=l[j]:=by simp [bZ,h]
theorem nl {rows:List (Qc)} {k:Nat} (h:∀r∈rows,r.length=k) (i t:Nat) (o:i<rows.length) (p:t<k):(List.flatten rows)[i*k+t]?=(bZ rows i)[t]?:=by
 induction rows generalizing i with
 | nil=>simp at o
 | cons r l ih=>
  have hr:r.length=k:=h r (by simp)
  cases i with
  | zero=>
   rw [List.flatten_cons,Nat.zero_mul,Oz,Og ap];simp [bZ]
  | succ i=>
   rw [List.flatten_cons,Oh (by rw [hr,Nat.add_mul];omega),hr,show (i+1)*k+t-k=i*k+t by rw [Nat.add_mul];omega,ih (fun r hr=>h r (by simp [hr])) i (by simpa using o)];simp [bZ]
theorem I3 {rows:List (Qc)} {k:Nat} (h:∀r∈rows,r.length=k):(List.flatten rows).length=rows.length*k:=by
 induction rows with
 | nil=>simp
 | cons r l ih=>rw [List.flatten_cons,Od,h r (by simp),ih (fun r hr=>h r (by simp [hr])),List.length_cons,Nat.add_mul];omega
def de {α:Type} (R:eQ α) (size:Nat) (w:Qd) (A:N_) (l:List α):Prop:=
 ∃rows,Rd w A (List.flatten rows)/\rows.length=l.length/\(∀r∈rows,r.length=size)/\∀j x,l[j]?=some x->R w (bZ rows j) x
def rSl {α:Type} (R:eQ α) (size:Nat):eQ (List α):=fun w h l=>∃A c,h=[.slice A l.length c]/\l.length<=c/\c<=9223372036854775807/\l.length<=17592186043904/\de R size w A l
def Ma (k:IntKind):eQ Int:=fun _ h n=>h=[.int k n]/\(Lit.int k n).wf=true
def CD (q:IntKind):eQ (Qa):=fun w h zs=>∃A c,h=[.slice A zs.length c]/\zs.length<=c/\c<=9223372036854775807/\zs.length<=17592186043904/\Rd w A (aA q zs)/\∀z∈zs,(Lit.int q z).wf=true
section
variable {α:Type} {R:eQ α} {size:Nat} {w w':Qd} {A:N_} {l:List α}
theorem de.below (p:Dd R) (h:de R size w A l) (hb:aq w w'):de R size w' A l:=by
 obtain ⟨rows,h1,i,u,o⟩:=h;exact ⟨rows,h1.below hb,i,u,fun j x v=>p hb (o j x v)⟩
theorem de.nil (R:eQ α) (size:Nat) (w:Qd) (A:N_):de R size w A []:=⟨[],Rd.nil _ _,rfl,by simp,by simp⟩
theorem de.get (h:de R size w A l) (hs:0<size) {j:Nat} {x:α} (I:l[j]?=some x):
  ∃b o v,A=some (ar b o)/\b<w.heap.size/\v.length=size/\R w v x/\w.cell? (ar b (o+j*size))=v[0]?/\∀t,t<size->w.cell? (ar b (o+j*size+t))=v[t]?:=by
 obtain ⟨rows,h1,J,C,L⟩:=h;have p:j<rows.length:=by rw [J];exact (Oe.1 I).1
 have hrl:(bZ rows j).length=size:=C _ (by rw [qB p];exact List.getElem_mem p);have i:∀t,t<size->∃u,(bZ rows j)[t]?=some u:=fun t y=>⟨_,Of ap⟩;obtain ⟨N,D⟩:=i 0 hs;obtain ⟨b,o,rfl,c0⟩:=h1 (j*size+0) N ((nl C j 0 p hs).trans D)
 have hc:∀t,t<size->w.cell? (ar b (o+j*size+t))=(bZ rows j)[t]?:=fun t y=>by
  obtain ⟨u,H⟩:=i t y;obtain ⟨O,Q,B,c⟩:=h1 (j*size+t) u ((nl C j t p y).trans H);injection B with B;injection B with e1 e2 _
  subst e1;subst e2;rw [Oy,c,H]
 refine ⟨b,o,bZ rows j,rfl,aB c0,hrl,L j x I,?_,hc⟩;have:=hc 0 hs
 rwa [Nat.add_zero] at this
end
def fH {H:Type} (P:Program) (t:Qf) (d:DataW H):Prop:=∀n∈d.weights P t,n<=140737488351232
theorem EL {H:Type} {P:Program} {e:Qf}:∀{l:List (DataW H)},(∀n∈DataW.weightsAll P e l,n<=140737488351232)->∀(i:Nat) (d:DataW H),l[i]?=some d->fH P e d:=by
 intro l
 induction l with
 | nil=>intro _ i d h;simp at h
 | cons x r ih=>
  intro h i d o;unfold DataW.weightsAll at h
  cases i with
  | zero=>
   simp at o;subst o;exact fun n hn=>h n (Ov.2 (.inl hn))
  | succ i=>exact ih (fun n hn=>h n (Ov.2 (.inr hn))) i d (by simpa using o)
theorem td {H:Type} {P:Program}:∀{o:List Qf} {l:List (DataW H)},(∀n∈DataW.weightsEach P o l,n<=140737488351232)->∀(i:Nat) (t:Qf) (d:DataW H),o[i]?=some t->l[i]?=some d->fH P t d:=by
 intro o
 induction o with
 | nil=>intro l _ i t d h;simp at h
 | cons t0 o ih=>
  intro l h i t d u p
  cases l with
  | nil=>simp at p
  | cons x r=>
   unfold DataW.weightsEach at h
   cases i with
   | zero=>
    simp at u p;subst u;subst p;exact fun n hn=>h n (Ov.2 (.inl hn))
   | succ i=>exact ih (fun n hn=>h n (Ov.2 (.inr hn))) i t d (by simpa using u) (by simpa using p)
theorem fh {H:Type} {P:Program} {o:List Qf} {l:List (DataW H)} (h:(DataW.weightsEach P o l).all (· <=reachBytes)=true) {i:Nat} {t:Qf} {d:DataW H} (v:o[i]?=some t) (p:l[i]?=some d):fH P t d:=
 td (fun n hn=>by have u:n<=reachBytes:=of_decide_eq_true (List.all_eq_true.1 h n hn);exact u) i t d v p
def kl (P:Program) (t:Qf) (size:Nat) {α:Type} (R:eQ α):Prop:=
 P.cellsOf t=size/\∀{H:Type} {enc:Qf×Value->H} {W:Qd} {fuel:Nat} {cs:Qc} {x:DataW H×List MemPlace},DataW.trod enc P W 0 (fun _=>true) true fuel t cs=some x->fH P t x.1->cs.length=size/\∃a,R W cs a
theorem ve {P:Program} {t:Qf} {k:IntKind} (i:P.underlying t=some (.int k)) (hc:P.cellsOf t=1):kl P t 1 (Ma k):=⟨hc,fun h _=>by
 obtain ⟨n,rfl,_,hw⟩:=DataW.trod_int i h
 exact ⟨rfl,n,rfl,hw⟩⟩
theorem CB {w:Qd} {a:Addr} {xs:Qc} (h:∀i u,xs[i]?=some u->w.cell? (a.add i)=some u):Rd w (some a) xs:=fun k u B=>by
 have C:∃v,xs[0]?=some v:=by
  have:=(Oe.1 B).1;exact ⟨xs[0],Of ap⟩
 obtain ⟨v,y⟩:=C;have p:=h 0 v y;have e:a.add 0=a:=by simp [Addr.add]
 rw [e] at p
 have A:a=(ar a.block a.off):=by
  obtain ⟨b,o,s⟩:=a;unfold World.cell? at p
  split at p
  ·cases s with
   | none=>rfl
   | some x=>simp at p
  ·cases p
 refine ⟨a.block,a.off,by rw [<-A],?_⟩;have hk:=h k u B;rw [A,Addr.add_lit] at hk;exact hk
theorem pd {P:Program} {t e:Qf} {q:IntKind} (J:P.underlying t=some (.slice e)) (he:P.underlying e=some (.int q)) (hc:P.cellsOf e=1) (L:P.cellsOf t=1) (hb:P.bytesOf e=8):kl P t 1 (CD q):=⟨L,fun {H U W O T y} h I=>by
 have A:∀a l c,T=[.slice a l c]->l<=17592186043904:=fun a l c hcs=>by
  rcases Go.Deep.open_slice J h with ⟨o,_⟩ | ⟨Z,Y,cap,m,n,D,Pl,o,_,hl,_,R,V,_⟩
  ·rw [hcs] at o;injection o with o;injection o with _ o;omega
  ·rw [hcs] at o;injection o with o;injection o with _ o;subst o
   have hw:=I ((l+(m-l))*8) (by rw [V];simp [DataW.weights,J,hb]);omega
 rcases open_ints J he hc h with ⟨rfl,_⟩ | ⟨x,l,c,zs,rfl,_,hl,hm,C,_,v,N⟩
 ·exact ⟨rfl,[],none,0,rfl,NF _,by omega,by simp,Rd.nil _ _,by simp⟩
 ·have Q:=A _ _ _ rfl;refine ⟨rfl,zs.take l,some x,c,?_,by simp;omega,by unfold maxLen at hm;exact hm,by simp;omega,?_,fun z C=>N z (List.mem_of_mem_take C)⟩
  ·rw [Oi];simp at C;rw [Nat.min_eq_left ap]
  ·refine CB fun i u B=>?_;rw [<-di,List.getElem?_take] at B
   split at B
   ·rename_i hi
    have p:i<zs.length:=by simp at C;omega
    rw [lK q zs i p] at B;rw [v i p,<-B,dd zs i p];simp [List.getD,p]
   ·cases B⟩
theorem yz {P:Program} {t e:Qf} {size:Nat} {α:Type} {R:eQ α} (ht:P.underlying t=some (.slice e)) (hR:kl P e size R) (a2:P.cellsOf t=1) (hb:8<=P.bytesOf e):kl P t 1 (rSl R size):=⟨a2,fun {H a8 W a6 cs x} h p=>by
 rcases Go.Deep.open_slice ht h with ⟨rfl,_⟩ | ⟨a,o,cap,m,n,D,Pl,rfl,_,hl,hm,L,T,hi⟩
 ·exact ⟨rfl,[],none,0,rfl,NF _,by omega,by simp,de.nil _ _ _ _⟩
 ·simp at L;subst L;obtain ⟨a4,a0⟩:=hR;rw [a4] at hi
  have O:o<=17592186043904:=by
   have hw:=p ((o+(m-o))*P.bytesOf e) (by rw [T];simp [DataW.weights,ht]);have:=Nat.mul_le_mul_left (o+(m-o)) hb;omega
  have a1:∀i,i<o->fH P e (D i):=fun i a5=>by
   refine EL (l:=(List.range o).map D) (fun n hn=>p n ?_) i (D i) (by simp [a5]);rw [T];simp only [DataW.weights,ht];exact List.mem_cons_of_mem _ (Ov.2 (.inl hn))
  classical
  have C:∀i,i<o->∃A x,W.cells? 0 (a.add (i*size)) size=some A/\A.length=size/\R W A x:=fun i p=>by
   obtain ⟨A,h1,Z⟩:=hi i ap;obtain ⟨U,x,h4⟩:=a0 Z (a1 i p);exact ⟨A,x,h1,U,h4⟩
  let v:Nat->Qc:=fun i=>if p:i<o then Classical.choose (C i p) else []
  have y:∀i (p:i<o),∃x,W.cells? 0 (a.add (i*size)) size=some (v i)/\(v i).length=size/\R W (v i) x:=fun i p=>by
   have:=Classical.choose_spec (C i p);simp only [v,dif_pos p];exact this
  let el:(i:Nat)->i<o->α:=fun i p=>Classical.choose (y i p)
  let l:List α:=List.ofFn (n:=o) fun i=>el i.1 i.2
  have B:l.length=o:=by simp [l]
  refine ⟨rfl,l,some a,m,by rw [B],by rw [B];exact hl,by unfold maxLen at hm;exact hm,by rw [B];exact O,(List.range o).map v,?_,by simp [l],?_,?_⟩
  ·have U:∀r∈(List.range o).map v,r.length=size:=by
    intro r hr;obtain ⟨i,J,rfl⟩:=List.mem_map.1 hr;obtain ⟨x,_,h,_⟩:=y i (List.mem_range.1 J);exact h
   refine CB fun i u Q=>?_;have p:=(Oe.1 Q).1;rw [I3 U,List.length_map,List.length_range] at p
   have I:0<size:=by
    rcases Nat.eq_zero_or_pos size with h | h
    ·rw [h] at p;omega
    ·exact h
   have N:i=i/size*size+i%size:=by rw [Nat.mul_comm];exact (Nat.div_add_mod i size).symm
   have hq:i/size<o:=Nat.div_lt_of_lt_mul (by rw [Nat.mul_comm];exact p);have hr:=Nat.mod_lt i I;obtain ⟨x,a3,a7,_⟩:=y _ hq;obtain ⟨_,_,Y⟩:=World.cells?_some a3;rw [N,nl U _ _ (by simpa using hq) hr] at Q;have e:bZ ((List.range o).map v) (i/size)=v (i/size):=by simp [bZ,hq]
   rw [e,<-Y _ hr] at Q;rw [N];rw [Go.Deep.add_add] at Q;exact Q
  ·intro r hr;obtain ⟨i,J,rfl⟩:=List.mem_map.1 hr;obtain ⟨x,_,h,_⟩:=y i (List.mem_range.1 J);exact h
  ·intro j x T;have hj:j<o:=by rw [<-B];exact (Oe.1 T).1
   have e:bZ ((List.range o).map v) j=v j:=by simp [bZ,hj]
   rw [e]
   have V:x=el j hj:=by
    have:=Oe.1 T;obtain ⟨h1,Z⟩:=this;rw [<-Z];simp [l]
   rw [V]
   exact (Classical.choose_spec (y j hj)).2.2⟩
theorem cu {P:Program} {t y:Qf} {B:Array Field} {size:Nat} {α:Type} {R:eQ α} (D:kl P t size R) (o:P.underlying y=some (.struct B)) {H:Type} {v:Qf×Value->H} {W:Qd} {n off:Nat} {A:Qc} {x:DataW H×List MemPlace} {xs:List (DataW H×List MemPlace)} (I:x=(.agg (xs.map (·.1)),xs.flatMap (·.2))) (hl:fH P y x.1) {i:Nat} (h:DataW.trod v P W 0 (fun _=>true) true n t ((A.drop off).take (P.cellsOf t))=xs[i]?) (C:i<xs.length) (u:(B.toList.map (·.type))[i]?=some t):∃a,R W ((A.drop off).take size) a:=by
 obtain ⟨hc,p⟩:=D;rw [hc,Of C] at h;refine (p h ?_).2;subst I;simp only [fH,DataW.weights,o] at hl;exact td hl i t _ u (by simp [Of C])
theorem rr {P:Program} {t:Qf} {size:Nat} {α:Type} {R:eQ α} (y:kl P t size R) {H:Type} {i:Qf×Value->H} {W:Qd} {v:Value} {d:DataW H} {p:List MemPlace} (h:DataW.Trod i P W 0 (fun _=>true) true t v d p) (hl:fH P t d):∃a,R W v.cells.toList a/\v.cells.toList.length=size:=by
 obtain ⟨o,u⟩:=h;obtain ⟨h1,a,x⟩:=y.2 u hl;exact ⟨a,x,h1⟩
end Go.Proofs.YtgmajkppbhiopaaGreat
namespace Go.Proofs.YtgmajkppbhiopaaGreat
open Go.RowKit
def fZ (B:Nat) (w:Qd):Qd:={w with heap:=w.heap.mapIdx fun k o=>if k<B then .cells #[] 0 (0,0) else o}
theorem jK (B:Nat) (w:Qd):(fZ B w).heap.size=w.heap.size:=by simp [fZ]
theorem iM {B k:Nat} {w:Qd} (h:B<=k):(fZ B w).heap[k]?=w.heap[k]?:=by
 simp only [fZ,Array.getElem?_mapIdx];have i:¬k<B:=ap;simp [i]
theorem pJ {B k:Nat} {w:Qd} (h:k<B) (hk:k<w.heap.size):(fZ B w).heap[k]?=some (.cells #[] 0 (0,0)):=by
 simp only [fZ,Array.getElem?_mapIdx];simp [h,hk]
theorem rV (B:Nat) (w:Qd):Keep (fun j=>j<B) w (fZ B w):=⟨rfl,rfl,rfl,by rw [jK];exact NF _,fun k _ hn=>iM ap⟩
theorem fD {w:Qd} {B base:Nat} {e:Qf} {size:Nat} {v:Value} {n:Nat} {xs:Qc} (h:w.ownsRow base e size v n xs) (hB:B<=base):(fZ B w).ownsRow base e size v n xs:= (rV B w).own h fun k hk hl=>by have:=(h.lt k hk).1;omega
theorem Dk {B:Nat} {w i:Qd} (h:aq w i):Below (fZ B w).heap.size (fZ B w) (fZ B i):=
 ⟨h.os,h.tape,h.output,by rw [jK,jK];exact h.size,fun k hk=>by
  rw [jK] at hk;rcases NY k B with hb | hb
  ·rw [pJ hb (NQ hk h.size),pJ hb hk]
  ·rw [iM hb,iM hb,h.block k hk]⟩
def Agr (B:Nat) (u v:Qd):Prop:=∀k,B<=k->k<u.heap.size->v.heap[k]?=u.heap[k]?
theorem Agr.refl (B:Nat) (u:Qd):Agr B u u:=fun _ _ _=>rfl
theorem FK {B:Nat} {u v:Qd} {a:Addr} {x:Value} (h:(fZ B u).cell? a=some x) (i:Agr B u v):v.cell? a=some x:=by
 have hl:=aB h;rw [jK] at hl;rcases NY a.block B with hb | hb
 ·have o:=pJ (w:=u) hb hl;rw [World.cell?] at h;simp only [o] at h;simp at h
 ·exact (World.cell?_of_block (w:=fZ B u) ((i _ hb hl).trans (iM hb).symm)).trans h
theorem rW {B:Nat} {u v:Qd} {b:Nat} {x:Value} {xs:Qc} {t:Qf} {i:Nat×Nat} (h:(fZ B u).heap[b]?=some (.cells (x::xs).toArray t i)) (o:Agr B u v):v.heap[b]?=some (.cells (x::xs).toArray t i):=by
 have hl:=NE h;rw [jK] at hl;rcases NY b B with hb | hb
 ·rw [pJ hb hl] at h;simp at h
 ·rw [o b hb hl,<-iM hb];exact h
theorem lZ {B:Nat} {u v:Qd} {A:N_} {xs:Qc} (h:Rd (fZ B u) A xs) (i:Agr B u v):Rd v A xs:=fun k x p=>by
 obtain ⟨b,o,e,hc⟩:=h k x p;exact ⟨b,o,e,FK hc i⟩
theorem Db {B i:Nat} {u:Qd} (h:B<=i):Agr i u (fZ B u):=fun k hk _=>iM ap
def Ext (u v:Qd):Prop:=∀k,k<u.heap.size->u.heap[k]?=some (.cells #[] 0 (0,0))\/v.heap[k]?=u.heap[k]?
theorem I8 {u v:Qd} {a:Addr} {x:Value} (h:u.cell? a=some x) (o:Ext u v):v.cell? a=some x:=by
 rcases o _ (aB h) with i | i
 ·rw [World.cell?] at h;simp only [i] at h;simp at h
 ·exact (World.cell?_of_block (w:=u) i).trans h
theorem tx {u v:Qd} {b:Nat} {x:Value} {xs:Qc} {t:Qf} {o:Nat×Nat} (h:u.heap[b]?=some (.cells (x::xs).toArray t o)) (p:Ext u v):v.heap[b]?=some (.cells (x::xs).toArray t o):=by
 rcases p _ (NE h) with i | i
 ·rw [i] at h;simp at h
 ·rw [i];exact h
theorem aQ {u v:Qd} {A:N_} {xs:Qc} (h:Rd u A xs) (i:Ext u v):Rd v A xs:=fun k x p=>by
 obtain ⟨b,o,e,hc⟩:=h k x p;exact ⟨b,o,e,I8 hc i⟩
def Nh {α:Type} (R:eQ α):Prop:=∀{u v:Qd} {cs:Qc} {x:α},R u cs x->Ext u v->R v cs x
theorem eO {α:Type} {R:eQ α} {size:Nat} {u v:Qd} {A:N_} {l:List α} (y:Nh R) (h:de R size u A l) (i:Ext u v):de R size v A l:=by
 obtain ⟨rows,h1,o,B,p⟩:=h;exact ⟨rows,aQ h1 i,o,B,fun j x C=>y (p j x C) i⟩
noncomputable def aF (S:Nat->Prop) (w:Qd):Qd:=by
 classical exact {w with heap:=w.heap.mapIdx fun k o=>if S k then .cells #[] 0 (0,0) else o}
theorem nJ (S:Nat->Prop) (w:Qd):(aF S w).heap.size=w.heap.size:=by simp [aF]
theorem gt {S:Nat->Prop} {w:Qd} {k:Nat} (h:¬S k):(aF S w).heap[k]?=w.heap[k]?:=by
 simp only [aF,Array.getElem?_mapIdx];simp [h]
theorem xh {S:Nat->Prop} {w:Qd} {k:Nat} (h:S k) (hk:k<w.heap.size):(aF S w).heap[k]?=some (.cells #[] 0 (0,0)):=by
 simp only [aF,Array.getElem?_mapIdx];simp [h,hk]
theorem er (S:Nat->Prop) (w:Qd):Ext (aF S w) w:=fun k hk=>by
 rw [nJ] at hk;by_cases h:S k
 ·exact .inl (xh h hk)
 ·exact .inr (gt h).symm
theorem aX {S S':Nat->Prop} {w i:Qd} (hk:Keep S w i) (hs:∀k,k<w.heap.size->S' k->S k):Ext (aF S w) (aF S' i):=fun k hl=>by
 rw [nJ] at hl;by_cases h:S k
 ·exact .inl (xh h hl)
 ·exact .inr (by rw [gt h,gt (fun e=>h (hs k hl e)),hk.block k hl h])
theorem dm {S:Nat->Prop} {w i:Qd} (hb:aq w i):Ext (aF S w) (aF S i):=aX (Keep.below hb) fun _ _ h=>h
theorem I6 {B:Nat} {S:Nat->Prop} {u w:Qd} (hb:∀k,B<=k->k<u.heap.size->w.heap[k]?=u.heap[k]?) (hs:∀k,B<=k->k<u.heap.size->¬S k):Ext (fZ B u) (aF S w):=fun k hl=>by
 rw [jK] at hl;rcases NY k B with h | h
 ·exact .inl (pJ h hl)
 ·exact .inr (by rw [gt (hs k h hl),hb k h hl,iM h])
theorem mr {S:Nat->Prop} {w:Qd} {A:N_} {xs:Qc} (h:Rd w A xs) (hA:∀y,A=some y->¬S y.block):Rd (aF S w) A xs:=fun k x i=>by
 obtain ⟨b,o,e,hc⟩:=h k x i;have hl:=aB hc;exact ⟨b,o,e,(World.cell?_of_block (w:=w) (a:=(ar b (o+k))) (gt (show ¬S b from hA _ e))).trans hc⟩
def fB (a b q:Int):Int:=if q<0\/62<q then 0 else wrap64 (a*b/2^q.toNat)
def uw (x:Int):Int:=x%18446744073709551616
theorem qY (x:Int):0<=uw x/\uw x<18446744073709551616:=by unfold uw;omega
theorem gF (x:Int): -9223372036854775808<=wrap64 x/\wrap64 x<=9223372036854775807:=by unfold wrap64;omega
theorem qt (x:Int):wrap64 (uw x)=wrap64 x:=by unfold wrap64 uw;omega
theorem uu {x y:Int} (h:∃k:Int,x=y+k*18446744073709551616):wrap64 x=wrap64 y:=by
 obtain ⟨k,rfl⟩:=h;unfold wrap64;omega
theorem np {x:Int} (h1: -9223372036854775808<=x) (h:x<=9223372036854775807):wrap64 x=x:=by unfold wrap64;omega
def fg (a b:Int):Int:=a*b/18446744073709551616
def im (a b:Int):Int:=uw (a*b)
theorem KD (a b:Int):fg a b*18446744073709551616+im a b=a*b:=by unfold fg im uw;omega
theorem Iv {a b:Int} (o: -9223372036854775808<=a/\a<=9223372036854775807) (hb: -9223372036854775808<=b/\b<=9223372036854775807): -85070591730234615865843651857942052864<=a*b/\a*b<=85070591730234615865843651857942052864:=by
 have h1:a.natAbs<=9223372036854775808:=ap;have h:b.natAbs<=9223372036854775808:=ap;have i:=Nat.mul_le_mul h1 h;rw [<-Int.natAbs_mul] at i;omega
theorem jz {a b:Int} (h: -9223372036854775808<=a/\a<=9223372036854775807) (hb: -9223372036854775808<=b/\b<=9223372036854775807): -9223372036854775808<=fg a b/\fg a b<=9223372036854775807:=by
 have:=Iv h hb;unfold fg;omega
theorem Gd (a b:Int) (q:Nat) (o:q<=62):fg a b*2^(64-q)+im a b/2^q=a*b/2^q:=by
 have e:(18446744073709551616:Int)=2^(64-q)*2^q:=by rw [<-Int.pow_add,show 64-q+q=64 by omega];rfl
 have i:(2:Int)^q≠0:=by have:=Int.pow_pos (n:=2) (m:=q) (by decide);omega
 have h:=KD a b;rw [<-h,e,<-Int.mul_assoc,Int.add_comm (fg a b*2^(64-q)*2^q),Int.add_mul_ediv_right _ _ i,Int.add_comm]
theorem oD (x y:Int):wrap64 (wrap64 x-y)=wrap64 (x-y):=by unfold wrap64;omega
theorem rQ (x y:Int):wrap64 (wrap64 x+y)=wrap64 (x+y):=by unfold wrap64;omega
theorem ux (a b:Int) (u: -9223372036854775808<=a/\a<=9223372036854775807) (hb: -9223372036854775808<=b/\b<=9223372036854775807):
  uw a*uw b=a*b+((if a<0 then b else 0)+(if b<0 then a else 0)+(if a<0/\b<0 then 18446744073709551616 else 0))*18446744073709551616:=by
 by_cases h1:a<0
 ·have p:uw a=a+18446744073709551616:=by unfold uw;omega
  by_cases i:b<0
  ·have o:uw b=b+18446744073709551616:=by unfold uw;omega
   rw [p,o,if_pos h1,if_pos i,if_pos ⟨h1,i⟩,Int.add_mul,Int.mul_add];omega
  ·have o:uw b=b:=by unfold uw;omega
   rw [p,o,if_pos h1,if_neg i,if_neg (fun h=>i h.2),Int.add_mul];omega
 ·have p:uw a=a:=by unfold uw;omega
  by_cases i:b<0
  ·have o:uw b=b+18446744073709551616:=by unfold uw;omega
   rw [p,o,if_neg h1,if_pos i,if_neg (fun h=>h1 h.1),Int.mul_add];omega
  ·have o:uw b=b:=by unfold uw;omega
   rw [p,o,if_neg h1,if_neg i,if_neg (fun h=>h1 h.1)];omega
theorem FB (a b:Int) (o: -9223372036854775808<=a/\a<=9223372036854775807) (hb: -9223372036854775808<=b/\b<=9223372036854775807):
  wrap64 (uw a*uw b/18446744073709551616-(if a<0 then b else 0)-(if b<0 then a else 0))=fg a b:=by
 rw [ux a b o hb,Int.add_mul_ediv_right _ _ (by decide)];have h:=jz o hb;rw [<-np h.1 h.2];refine uu ⟨if a<0/\b<0 then 1 else 0,?_⟩;unfold fg;by_cases h1:a<0
 ·by_cases i:b<0
  ·simp only [h1,i,if_true,and_self];omega
  ·simp only [h1,i,if_true,if_false,and_false];omega
 ·by_cases i:b<0
  ·simp only [h1,i,if_true,if_false,false_and];omega
  ·simp only [h1,i,if_false,false_and];omega
theorem FA (a b:Int) (h: -9223372036854775808<=a/\a<=9223372036854775807) (hb: -9223372036854775808<=b/\b<=9223372036854775807):uw (uw a*uw b)=im a b:=by
 rw [ux a b h hb];unfold im uw;rw [Int.add_mul_emod_self_right]
theorem qv (a:Int):∃X:Nat,uw a=X/\X<18446744073709551616:=⟨(uw a).toNat,by have:=qY a;omega,by have:=qY a;omega⟩
def W64 (l:Qa):Prop:=∀k,k<l.length-> -9223372036854775808<=nth l k/\nth l k<=9223372036854775807
theorem wY {l:Qa} {k:Nat} (h:k<l.length):nth l k∈l:=by rw [dd l k h];exact List.getElem_mem h
theorem iQ (l:Qa) (k:Nat) (v:Int) (j:Nat):nth (l.set k v) j=if j=k/\k<l.length then v else nth l j:=by
 unfold nth;simp only [List.getD_eq_getElem?_getD,List.getElem?_set];by_cases h:k=j
 ·subst h;by_cases i:k<l.length
  ·simp [i]
  ·simp [i,List.getElem?_eq_none (show l.length<=k by omega)]
 ·simp [h,Ne.symm h]
theorem js {a b:Qa} (hl:a.length=b.length) (h:∀k,k<a.length->nth a k=nth b k):a=b:=by
 refine List.ext_getElem hl fun k h1 i=>?_;rw [<-dd a k h1,<-dd b k i];exact h k h1
def dM (n:Nat) (f:Nat->Int):Qa:=(List.range n).map f
theorem cF (n:Nat) (f:Nat->Int):(dM n f).length=n:=by simp [dM]
theorem bU {n k:Nat} (f:Nat->Int) (h:k<n):nth (dM n f) k=f k:=by rw [dd _ _ (by rw [cF];exact h)];simp [dM]
theorem iC (n:Nat) (f:Nat->Int):dM (n+1) f=dM n f++[f n]:=by simp [dM,Ow]
theorem fJ {n:Nat} {f:Nat->Int} (h:∀k,k<n-> -9223372036854775808<=f k/\f k<=9223372036854775807):W64 (dM n f):=fun k hk=>by
 rw [cF] at hk;rw [bU f hk];exact h k hk
theorem eZ {n:Nat} {f g:Nat->Int} (h:∀k,k<n->f k=g k):dM n f=dM n g:=by
 unfold dM;exact List.map_congr_left fun k hk=>h k (List.mem_range.1 hk)
theorem fF {l:Qa} {n:Nat} {f:Nat->Int} (hl:l.length=n) (h:∀k,k<n->nth l k=f k):l=dM n f:=
 js (by rw [cF,hl]) fun k hk=>by rw [bU f ap];exact h k ap
def kT (l:Qa) (k:Nat) (f:Nat->Int):Qa:=dM l.length fun j=>if j<k then f j else nth l j
theorem qH (l:Qa) (k:Nat) (f:Nat->Int):(kT l k f).length=l.length:=cF _ _
theorem iH (l:Qa) (f:Nat->Int):kT l 0 f=l:=(fF rfl fun k _=>by rw [if_neg ap]).symm
theorem gK {l:Qa} {k:Nat} (f:Nat->Int) {j:Nat} (h:j<l.length):nth (kT l k f) j=if j<k then f j else nth l j:=bU _ h
theorem jE {l:Qa} {k:Nat} (f:Nat->Int) (hk:k<l.length):(kT l k f).set k (f k)=kT l (k+1) f:=by
 refine js (by simp [qH]) fun j h=>?_;rw [List.length_set,qH] at h;rw [iQ,gK f h,gK f h,qH];by_cases h1:j=k
 ·subst h1;simp [hk]
 ·by_cases i:j<k
  ·simp [h1,i,show j<k+1 by omega]
  ·simp [h1,i,show ¬j<k+1 by omega]
theorem jF (l:Qa) (f:Nat->Int):kT l l.length f=dM l.length f:=by
 unfold kT;exact eZ fun k hk=>by rw [if_pos hk]
def BN (xs ys:Qa) (q:Int):Nat->Int
 | 0=>0
 | k+1=>wrap64 (BN xs ys q k+fB (nth xs k) (nth ys k) q)
def um (xs ys:Qa) (q:Int):Int:=BN xs ys q xs.length
def qx (xs:Qa) (a q:Int):Qa:=dM xs.length fun k=>fB (nth xs k) a q
def fw (xs ys:Qa):Qa:=dM xs.length fun k=>wrap64 (nth xs k+nth ys k)
def dD (n size:Nat):Nat:=if n=0 then 0 else (n-1)/size+1
theorem Fe (n s:Nat) (hn:1<=n):((n:Int)-1)/(s:Int)=(((n-1)/s:Nat):Int):=by
 rw [show ((n:Int)-1)=((n-1:Nat):Int) by omega,<-Int.natCast_ediv]
theorem fR (n size:Nat):dD n size<=n:=by
 unfold dD
 split
 ·omega
 ·have:=Nat.div_le_self (n-1) size;omega
theorem jt {n size k:Nat} (h:k<dD n size):k*size<n:=by
 unfold dD at h
 split at h
 ·omega
 ·have h1:k<=(n-1)/size:=ap;have i:=OF size h1;have o:=Nat.div_mul_le_self (n-1) size;omega
def fU (n size k:Nat):Qc:=(List.range k).flatMap fun j=>[OH ((j*size:Nat):Int),OH ((min (j*size+size) n:Nat):Int)]
theorem ju (n size k:Nat):fU n size (k+1)=fU n size k++[OH ((k*size:Nat):Int),OH ((min (k*size+size) n:Nat):Int)]:=by simp [fU,Ow,List.flatMap_append]
theorem ry (n size k:Nat):(fU n size k).length=k*2:=by
 induction k with
 | zero=>simp [fU]
 | succ k ih=>rw [ju,Od,ih];simp;omega
theorem BZ (n size:Nat) {j k:Nat} (h:j<k):(fU n size k)[j*2]?=some (OH ((j*size:Nat):Int))/\(fU n size k)[j*2+1]?=some (OH ((min (j*size+size) n:Nat):Int)):=by
 induction k with
 | zero=>omega
 | succ k ih=>
  rw [ju];rcases NY j k with i | i
  ·obtain ⟨h1,o⟩:=ih i;have hl:=ry n size k;rw [Og ap,Og ap];exact ⟨h1,o⟩
  ·obtain rfl:j=k:=ap;have hl:=ry n size j;rw [Oh ap,Oh ap,hl];simp
theorem BS (n batch:Nat) (hb:1<=batch) (hn:batch<=n):dD (n-n%batch) batch=n/batch:=by
 have h1:=Nat.div_add_mod n batch;have i:=Nat.div_pos hn hb;have o:n-n%batch=batch*(n/batch):=ap;have p:1<=batch*(n/batch):=Nat.mul_pos hb i;unfold dD;rw [if_neg ap,o]
 have h:batch*(n/batch)-1=batch*(n/batch-1)+(batch-1):=by
  have:batch*(n/batch)=batch*(n/batch-1)+batch:=by rw [<-Nat.mul_succ];congr 1;omega
  omega
 rw [h,Nat.mul_add_div hb,show (batch-1)/batch=0 from Nat.div_eq_of_lt ap];omega
theorem Dh (n batch j:Nat) (hb:1<=batch) (h:j<n/batch):min (j*batch+batch) (n-n%batch)=j*batch+batch:=by
 have h1:=Nat.div_add_mod n batch;have i:(j+1)*batch<=(n/batch)*batch:=OF _ h;rw [Ox] at i;have o:(n/batch)*batch=batch*(n/batch):=Nat.mul_comm _ _;omega
theorem pG (n batch j:Nat) (h:j<n/batch):j*batch+batch<=n:=by
 have h1:=Nat.div_mul_le_self n batch;have i:(j+1)*batch<=(n/batch)*batch:=OF _ h;rw [Ox] at i;omega
theorem rO (n size:Nat) (hs:1<=size):dD n size=(n+size-1)/size:=by
 unfold dD
 split
 ·subst_vars;rw [Oz,Nat.div_eq_of_lt ap]
 ·rw [show n+size-1=(n-1)+size by omega,Nat.add_div_right _ hs]
abbrev Rg:=Nat×Nat
def aT (l:List Rg):Qc:=l.flatMap fun r=>[OH (r.1:Int),OH (r.2:Int)]
theorem iF (a b:List Rg):aT (a++b)=aT a++aT b:=by simp [aT]
theorem oN:∀l:List Rg,(aT l).length=l.length*2
 | []=>rfl
 | r::l=>by have:=oN l;simp only [aT,List.flatMap_cons,Od,List.length_cons,List.length_nil] at *;omega
theorem nz:∀{l:List Rg} {j:Nat} {r:Rg},l[j]?=some r->(aT l)[j*2]?=some (OH (r.1:Int))/\(aT l)[j*2+1]?=some (OH (r.2:Int))
 | [],_,_,h=>by simp at h
 | x::l,0,r,h=>by simp only [Oa,Option.some.injEq] at h;subst h;exact ⟨rfl,rfl⟩
 | x::l,j+1,r,h=>by
  simp only [N9] at h;have:=nz h;have e:aT (x::l)=[OH (x.1:Int),OH (x.2:Int)]++aT l:=by simp [aT]
  rw [e,Oh (by simp;omega),Oh (by simp;omega)];simp only [List.length_cons,List.length_nil];rw [show (j+1)*2-(0+1+1)=j*2 by omega,show (j+1)*2+1-(0+1+1)=j*2+1 by omega];exact this
def fC (n s:Nat):List Rg:=(List.range (dD n s)).map fun j=>(j*s,min (j*s+s) n)
theorem eP (n s:Nat):(fC n s).length=dD n s:=by simp [fC]
theorem qO (n s:Nat):aT (fC n s)=fU n s (dD n s):=by simp [aT,fC,fU,List.flatMap_map]
def bdN (n k i:Nat):Nat:=i*(n/k)+min i (n%k)
def fX (n k:Nat):List Rg:=(List.range k).map fun i=>(bdN n k i,bdN n k (i+1))
theorem fP (n k:Nat):(fX n k).length=k:=by simp [fX]
def shR (d:Nat) (l:List Rg):List Rg:=l.map fun r=>(r.1+d,r.2+d)
theorem me (d:Nat) (l:List Rg):(shR d l).length=l.length:=by simp [shR]
def eh (b:Rg) (W:Nat):List Rg:=shR b.1 (fX (b.2-b.1) W)
theorem pN (b:Rg) (W:Nat):(eh b W).length=W:=by rw [eh,me,fP]
def chR (s:Rg) (c:Nat):List Rg:=shR s.1 (fC (s.2-s.1) c)
def pB (n s:Nat):List Rg:=(fC n s).reverse
theorem lT (n s:Nat):(pB n s).length=dD n s:=by rw [pB,List.length_reverse,eP]
def aS (l:List Rg) (j:Nat):Rg:=l.getD j (0,0)
def mW (b:Rg) (W c:Nat):Nat:=((eh b W).map fun s=>(chR s c).length).sum
structure Acn where
 send:Bool
 add:Bool
 st:Nat
 bk:Nat
 ph:Nat
 rd:Nat
 ch:Nat
 at':Rg
def eI (W w ph r:Nat):Nat:=(w+(2*W+ph-r))%W
def fV (W w ph r:Nat):Nat:=(w+(2*W+ph-r-1))%W
def jT (x y:List Rg) (f g:Nat->Rg->Acn):List Acn:= (List.range (max x.length y.length)).flatMap fun i=>(if i<x.length then [f i (aS x i)] else [])++(if i<y.length then [g i (aS y i)] else [])
theorem Be (x y:List Rg) (f g:Nat->Rg->Acn):(jT x y f g).length=x.length+y.length:=by
 have h:∀m,((List.range m).flatMap fun i=>(if i<x.length then [f i (aS x i)] else [])++(if i<y.length then [g i (aS y i)] else [])).length=min m x.length+min m y.length:=by
  intro m
  induction m with
  | zero=>simp
  | succ m ih=>
   rw [Ow,List.flatMap_append,Od,ih];simp only [List.flatMap_cons,List.flatMap_nil,List.append_nil,Od];by_cases h1:m<x.length<;>by_cases o:m<y.length<;>simp [h1,o]<;>omega
 unfold jT;rw [h];omega
def dt (st bk:Nat) (b:Rg) (W c w ph r:Nat):List Acn:=
 jT (chR (aS (eh b W) (eI W w ph r)) c) (chR (aS (eh b W) (fV W w ph r)) c) (fun i s=>⟨true,false,st,bk,ph,r,i,s⟩) (fun i s=>⟨false,ph==0,st,bk,ph,r,i,s⟩)
structure Pln where
 W:Nat
 mi:Nat
 bu:Nat
 ck:Nat
 wi:Nat
 n:Nat
structure Itm where
 kind:Nat
 st:Nat
 n:Nat
 a:Option Acn
def Pln.buks (p:Pln):List Rg:=pB p.n p.bu
def Pln.grps (p:Pln):List Rg:=fC p.buks.length p.wi
def ip (st:Nat) (a:Acn):Itm:=⟨if a.send then 3 else 4,st,0,some a⟩
def cz (p:Pln) (w st ph r j:Nat):List Itm:=(dt st j (aS p.buks j) p.W p.ck w ph r).map (ip st)
def du (p:Pln) (w st:Nat) (g:Rg):List Itm:= (List.range' g.1 (g.2-g.1)).map (fun j=>⟨2,st,j,none⟩)++ ((List.range 2).flatMap fun ph=>(List.range (p.W-1)).flatMap fun r=>(List.range' g.1 (g.2-g.1)).flatMap fun j=>cz p w st ph r j)++ (List.range' g.1 (g.2-g.1)).map (fun j=>⟨5,st,j,none⟩)
def aJ (p:Pln) (w st:Nat):List Itm:= (List.range p.mi).map (fun a=>⟨1,st,a,none⟩)++p.grps.flatMap (du p w st)++[⟨6,st,0,none⟩]
def bP (n:Nat) (f:Nat->Nat):Nat:=((List.range n).map f).sum
theorem ff (n:Nat) (f:Nat->Nat):bP (n+1) f=bP n f+f n:=by simp [bP,Ow]
theorem dP {n:Nat} {f g:Nat->Nat} (h:∀k,k<n->f k=g k):bP n f=bP n g:=by
 unfold bP;congr 1;exact List.map_congr_left fun k hk=>h k (List.mem_range.1 hk)
theorem jx (n:Nat) (f g:Nat->Nat):bP n (fun k=>f k+g k)=bP n f+bP n g:=by
 induction n with
 | zero=>rfl
 | succ n ih=>rw [ff,ff,ff,ih];omega
theorem eT (n c:Nat):bP n (fun _=>c)=n*c:=by
 induction n with
 | zero=>simp [bP]
 | succ n ih=>rw [ff,ih,Ox]
theorem iD (n m:Nat) (f:Nat->Nat->Nat):bP n (fun i=>bP m (f i))=bP m (fun j=>bP n (fun i=>f i j)):=by
 induction n with
 | zero=>simp only [bP,List.range_zero,List.map_nil,List.sum_nil];rw [show (fun _:Nat=>0)=fun _=>0 from rfl];exact (eT m 0).symm
 | succ n ih=>rw [ff,ih,<-jx];exact dP fun j _=>(ff n (fun i=>f i j)).symm
theorem ku (a b:Nat) (f:Nat->Nat):bP (a+b) f=bP a f+bP b (fun k=>f (a+k)):=by
 induction b with
 | zero=>simp [bP]
 | succ b ih=>rw [<-Oy,ff,ih,ff];omega
theorem sd (W a:Nat) (f:Nat->Nat):bP W (fun w=>f ((w+a)%W))=bP W f:=by
 rcases Nat.eq_zero_or_pos W with rfl | p
 ·rfl
 have h:∀d,d<W->bP W (fun w=>f ((w+d)%W))=bP W f:=by
  intro d u;have i:=ku (W-d) d (fun w=>f ((w+d)%W));have o:=ku d (W-d) f;rw [show W-d+d=W by omega] at i;rw [show d+(W-d)=W by omega] at o;rw [i,o,Nat.add_comm]
  congr 1
  ·exact dP fun k hk=>by
    congr 1
    rw [show W-d+k+d=k+W by omega,Nat.add_mod_right,Nat.mod_eq_of_lt ap]
  ·exact dP fun k hk=>by rw [Nat.mod_eq_of_lt ap,Nat.add_comm]
 rw [<-h (a%W) (Nat.mod_lt _ p)];exact dP fun k _=>by rw [Nat.add_mod_mod]
theorem se {α:Type} (l:List α) (d:α) (f:α->Nat):(l.map f).sum=bP l.length fun k=>f (l.getD k d):=by
 induction l with
 | nil=>rfl
 | cons x l ih=>
  rw [List.map_cons,List.sum_cons,ih,List.length_cons,Nat.add_comm l.length 1,ku 1];have:bP 1 (fun k=>f ((x::l).getD k d))=f x:=by simp [bP]
  rw [this]
  congr 1
  exact dP fun k _=>by rw [Nat.add_comm 1 k,List.getD_cons_succ]
theorem BH {β:Type} (n:Nat) (f:Nat->List β):((List.range n).flatMap f).length=bP n fun k=>(f k).length:=by
 rw [List.length_flatMap];rfl
theorem zh {β:Type} (a n:Nat) (f:Nat->List β):((List.range' a n).flatMap f).length=bP n fun k=>(f (a+k)).length:=by
 rw [List.length_flatMap];unfold bP;rw [List.range'_eq_map_range,List.map_map];rfl
theorem JD (n s:Nat) (hs:1<=s) (f:Nat->Nat):((fC n s).map fun g=>bP (g.2-g.1) fun k=>f (g.1+k)).sum=bP n f:=by
 have h:∀m,m<=dD n s->(((List.range m).map fun j=>(j*s,min (j*s+s) n)).map fun g:Rg=>bP (g.2-g.1) fun k=>f (g.1+k)).sum=bP (min (m*s) n) f:=by
  intro m
  induction m with
  | zero=>intro _;simp [bP]
  | succ m ih=>
   intro hm;have h1:=jt (n:=n) (size:=s) (k:=m) ap;rw [Ow,List.map_append,List.map_append,List.sum_append,ih ap];simp only [List.map_cons,List.map_nil,List.sum_cons,List.sum_nil,Nat.add_zero];rw [show min (m*s) n=m*s by omega,Ox];have:=ku (m*s) (min (m*s+s) n-m*s) f;rw [show m*s+(min (m*s+s) n-m*s)=min (m*s+s) n by omega] at this;exact this.symm
 have:=h (dD n s) (NF _);unfold fC;rw [this]
 congr 1
 rcases Nat.eq_zero_or_pos n with rfl | hn
 ·simp
 ·have:n<=dD n s*s:=by
   unfold dD;rw [if_neg ap,Ox];have:=Nat.div_add_mod (n-1) s;have:=Nat.mod_lt (n-1) (show 0<s by omega);have:s*((n-1)/s)=(n-1)/s*s:=Nat.mul_comm _ _;omega
  omega
theorem jQ (st bk:Nat) (b:Rg) (W c w ph r:Nat):(dt st bk b W c w ph r).length=(chR (aS (eh b W) (eI W w ph r)) c).length+(chR (aS (eh b W) (fV W w ph r)) c).length:=Be _ _ _ _
theorem yJ (b:Rg) (W c:Nat):mW b W c=bP W fun s=>(chR (aS (eh b W) s) c).length:=by
 unfold mW;rw [se _ (0,0),pN];rfl
theorem AE (st bk:Nat) (b:Rg) (W c ph r:Nat):bP W (fun w=>(dt st bk b W c w ph r).length)=2*mW b W c:=by
 simp only [jQ,jx];unfold eI fV;rw [sd W _ (fun s=>(chR (aS (eh b W) s) c).length),sd W _ (fun s=>(chR (aS (eh b W) s) c).length),<-yJ];omega
theorem BD (p:Pln) (w st:Nat) (g:Rg):(du p w st g).length=bP (g.2-g.1) fun k=>2+bP 2 fun ph=>bP (p.W-1) fun r=>(cz p w st ph r (g.1+k)).length:=by
 unfold du;simp only [Od,List.length_map,List.length_range',BH,zh];rw [jx,eT]
 have e:(bP 2 fun ph=>bP (p.W-1) fun r=>bP (g.2-g.1) fun k=>(cz p w st ph r (g.1+k)).length)=bP (g.2-g.1) fun k=>bP 2 fun ph=>bP (p.W-1) fun r=>(cz p w st ph r (g.1+k)).length:=by
  rw [dP (g:=fun ph=>bP (g.2-g.1) fun k=>bP (p.W-1) fun r=>(cz p w st ph r (g.1+k)).length) (fun ph _=>iD _ _ _),iD]
 rw [e];omega
theorem pw (p:Pln) (w st:Nat) (hw:1<=p.wi):(aJ p w st).length=p.mi+1+bP p.buks.length fun j=>2+bP 2 fun ph=>bP (p.W-1) fun r=>(cz p w st ph r j).length:=by
 unfold aJ;simp only [Od,List.length_map,List.length_range,List.length_flatMap,List.length_cons,List.length_nil]
 have:((p.grps.map fun a=>(du p w st a).length)).sum=bP p.buks.length fun j=>2+bP 2 fun ph=>bP (p.W-1) fun r=>(cz p w st ph r j).length:=by
  simp only [BD];exact JD p.buks.length p.wi hw fun j=>2+bP 2 fun ph=>bP (p.W-1) fun r=>(cz p w st ph r j).length
 rw [this];omega
theorem EQ (p:Pln) (st:Nat) (hw:1<=p.wi):bP p.W (fun w=>(aJ p w st).length)=p.W*(p.mi+2*p.buks.length+1)+(p.buks.map fun b=>4*(p.W-1)*mW b p.W p.ck).sum:=by
 simp only [pw p _ st hw];rw [jx,eT,iD]
 have e:∀j,bP p.W (fun w=>2+bP 2 fun ph=>bP (p.W-1) fun r=>(cz p w st ph r j).length)=2*p.W+4*(p.W-1)*mW (aS p.buks j) p.W p.ck:=by
  intro j;rw [jx,eT,iD]
  have:(bP 2 fun ph=>bP p.W fun w=>bP (p.W-1) fun r=>(cz p w st ph r j).length)=bP 2 fun _=>(p.W-1)*(2*mW (aS p.buks j) p.W p.ck):=by
   refine dP fun ph _=>?_;rw [iD,<-eT];refine dP fun r _=>?_;unfold cz;simp only [List.length_map];exact AE _ _ _ _ _ _ _
  rw [this,eT,Nat.mul_comm p.W 2,show 2*((p.W-1)*(2*mW (aS p.buks j) p.W p.ck))=4*(p.W-1)*mW (aS p.buks j) p.W p.ck by rw [Nat.mul_left_comm (p.W-1) 2,<-Nat.mul_assoc,<-Nat.mul_assoc]]
 rw [dP (fun j _=>e j),jx,eT,se _ (0,0)];unfold aS
 have:p.W*(p.mi+1)+p.buks.length*(2*p.W)=p.W*(p.mi+2*p.buks.length+1):=by
  rw [show p.mi+2*p.buks.length+1=p.mi+1+2*p.buks.length by omega,Nat.mul_add p.W (p.mi+1),show p.buks.length*(2*p.W)=p.W*(2*p.buks.length) by rw [Nat.mul_left_comm,Nat.mul_comm p.buks.length,Nat.mul_left_comm]]
 omega
end Go.Proofs.YtgmajkppbhiopaaGreat
namespace Go.Proofs.YtgmajkppbhiopaaGreat
theorem zo (m k:Nat) (hk:0<k):(m%k+1<k->(m+1)/k=m/k/\(m+1)%k=m%k+1)/\(¬m%k+1<k->(m+1)/k=m/k+1/\(m+1)%k=0):=by
 have h1:=Nat.div_add_mod m k;have i:=Nat.mod_lt m hk;constructor
 ·intro h;have e:m+1=(m%k+1)+k*(m/k):=ap;rw [e,Nat.add_mul_div_left _ _ hk,Nat.add_mul_mod_self_left,Nat.div_eq_of_lt h,Nat.mod_eq_of_lt h];omega
 ·intro h;have e:m+1=k*(m/k+1):=by rw [Nat.mul_succ];omega
  rw [e,Nat.mul_div_cancel_left _ hk,Nat.mul_mod_right];exact ⟨rfl,rfl⟩
def szE (k m i:Nat):Nat:=m/k+if i<m%k then 1 else 0
theorem FN {k:Nat} (i:Nat):szE k 0 i=0:=by simp [szE]
theorem FO {k m i:Nat} (p:i<k):szE k (m+1) i=szE k m i+if i=m%k then 1 else 0:=by
 obtain ⟨h1,o⟩:=zo m k ap;have hm:=Nat.mod_lt m (show 0<k by omega);unfold szE;by_cases h:m%k+1<k
 ·rw [(h1 h).1,(h1 h).2]
  split<;>split<;>split<;>omega
 ·rw [(o h).1,(o h).2]
  split<;>split<;>split<;>omega
theorem ql (n k i:Nat):bdN n k (i+1)=bdN n k i+szE k n i:=by
 unfold bdN szE;rw [Ox]
 split<;>omega
theorem Ls (n k:Nat) (hk:0<k):bdN n k k=n:=by
 unfold bdN;have h1:=Nat.div_add_mod n k;have h:=Nat.mod_lt n hk;omega
theorem qm (n k:Nat) {i j:Nat} (h:i<=j):bdN n k i<=bdN n k j:=by
 unfold bdN;have:=OF (n/k) h;omega
theorem gh (n k i:Nat) (hk:0<k) (h:i<=k):bdN n k i<=n:=by
 have:=qm n k h
 rwa [Ls n k hk] at this
theorem tz (n k m:Nat):(List.range (m+1)).map (fun i=>(bdN n k i,bdN n k (i+1)))=(List.range m).map (fun i=>(bdN n k i,bdN n k (i+1)))++[(bdN n k m,bdN n k (m+1))]:=by
 rw [Ow,List.map_append];rfl
end Go.Proofs.YtgmajkppbhiopaaGreat
