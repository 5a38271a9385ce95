/- No condition. -/
import Derived.Test.YthamijnggdjaoaaGreatQ00
import Derived.WalkKit
import Derived.Lib.Hide
import Derived.Deep.Draws
import Derived.Deep.AppendLies
import Derived.Maps.AppendAt
import Derived.WalkSmall
import Derived.ProofKit
import Derived.OpenShut
import Derived.Deep.Slices
import Derived.StillTail
import Derived.OrdersHeld
import Derived.Deep.RegionHeld
import Derived.RowKit
import Derived.Test.YthamijnggdjaoaaGreatProg
import Derived.BigQuiet
import Derived.Deep.QuietTactic
import Derived.Deep.RegionHeld3
import Derived.IntWalk
import Derived.KernelRfl
import Derived.Lib.Mul64
import Derived.Laws.Bits64b
set_option linter.unusedSimpArgs false
set_option linter.unusedVariables false
set_option maxRecDepth 100000
set_option maxHeartbeats 4000000
namespace Go.Proofs.YthamijnggdjaoaaGreat
open Go.RowKit
open Tryz
def nth (l:N3) (k:Nat):Int:=l.getD k 0
theorem cJ (l:N3) (k:Nat) (h:k<l.length):nth l k=l[k]:=by simp [nth,List.getD,h]
theorem cM (l:N3) (k:Nat) (h:k<l.length):l.take (k+1)=l.take k++[nth l k]:=by
 rw [List.take_succ_eq_append_getElem h,cJ l k h]
theorem eb {l1 l2:N3} {k:Nat} (a:k<l1.length) (e:k<l2.length) (h:l1.take k=l2.take k) (g:nth l1 k=nth l2 k):l1.take (k+1)=l2.take (k+1):=by
 rw [cM l1 k a,cM l2 k e,h,g]
theorem fK {l1 l2:N3} (h:l1.length=l2.length) (a:l1.take l1.length=l2.take l1.length):l1=l2:=by
 rw [yK] at a;rw [a,h,yK]
theorem aD {k:IntKind} {a b:Int} (h:a=b):Ending.returned (.int k a)=.returned (.int k b):=by rw [h]
theorem aL {a b:Bool} (h:a=b):Ending.returned (.bool a)=.returned (.bool b):=by rw [h]
def au (q:IntKind) (zs:N3):N5:=zs.map (.int q)
theorem aS (q:IntKind) (zs:N3):(au q zs).length=zs.length:=by simp [au]
theorem aT (q:IntKind) (a b:N3):au q (a++b)=au q a++au q b:=by simp [au]
theorem jX (q:IntKind) (zs:N3) (k:Nat) (h:k<zs.length):(au q zs)[k]?=some (.int q (nth zs k)):=by
 simp [au,cJ zs k h,h]
theorem tE (q:IntKind) (zs:N3) (k:Nat) (a:Int):(au q zs).set k (.int q a)=au q (zs.set k a):=by simp [au,List.map_set]
theorem aV (q:IntKind) (zs:N3):∀u∈au q zs,u.oneCell'=true:=ints_oneCell q zs
theorem dq (q:IntKind) (zs:N3) (n:Nat):(au q zs).take n=au q (zs.take n):=by simp [au,List.map_take]
theorem dK (q:IntKind) (zs:N3) (n:Nat):(au q zs).drop n=au q (zs.drop n):=by simp [au,List.map_drop]
theorem dS (q:IntKind) (n:Nat) (a:Int):List.replicate n (Value.int q a)=au q (List.replicate n a):=by simp [au]
def Rd (w:N6) (A:N0) (xs:N5):Prop:=
 ∀k u,xs[k]?=some u->∃b o,A=some (ao b o)/\w.cell? (ao b (o+k))=some u
theorem aw {w:N6} {a:Addr} {u:Value} (h:w.cell? a=some u):a.block<w.heap.size:=World.block_lt_of_cell? w a h
theorem Rd.nil (w:N6) (A:N0):Rd w A []:=fun k u h=>by simp at h
theorem Rd.num {w:N6} {A:N0} {q:IntKind} {zs:N3} (h:Rd w A (au q zs)) {k:Nat} (a:k<zs.length):
  ∃b o,A=some (ao b o)/\w.cell? (ao b (o+k))=some (.int q (nth zs k)):=h k _ (jX q zs k a)
theorem Rd.same {w w':N6} {A:N0} {xs:N5} (h:Rd w A xs) (e:∀b,b<w.heap.size->w'.heap[b]?=w.heap[b]?):Rd w' A xs:=fun k u a=>by
 obtain ⟨b,o,hA,hc⟩:=h k u a;exact ⟨b,o,hA,(World.cell?_of_block (w:=w) (e _ (aw hc))).trans hc⟩
theorem Rd.below {w w':N6} {A:N0} {xs:N5} (h:Rd w A xs) (a:an w w'):Rd w' A xs:=h.same a.block
theorem Rd.alloc {w:N6} {A:N0} {xs:N5} (h:Rd w A xs) (o:Obj):Rd (w.alloc o) A xs:=h.same fun b a=>yj w o b a
theorem Rd.drew {w:N6} {A:N0} {xs:N5} (h:Rd w A xs):Rd w.drew A xs:=h
theorem Rd.drewN {w:N6} {A:N0} {xs:N5} (h:Rd w A xs) (n:Nat):Rd (w.drewN n) A xs:=h
theorem Rd.belowB {B:Nat} {w w':N6} {A:N0} {xs:N5} (h:Rd w A xs) (i:Below B w w') (hA:∀a,A=some a->a.block<B):Rd w' A xs:=fun k u g=>by
 obtain ⟨b,o,e,hc⟩:=h k u g;exact ⟨b,o,e,(i.cell (p:=(ao b (o+k))) (show b<B from hA _ e)).trans hc⟩
theorem Rd.own {w:N6} {base:Nat} {e:N7} {size n c:Nat} {A:N0} {xs:N5} (h:w.ownsRow base e size (.slice A n c) n xs):Rd w A xs:=fun k u j=>by
 have p:k<xs.length:=(yB.1 j).1;rcases h.2 with ⟨_,o⟩ | ⟨g,cap,l,i,_,hg,_,_,_,a⟩
 ·have:=h.1;rw [o] at this;omega
 ·simp only [yM] at i;obtain ⟨rfl,_,rfl⟩:=i;refine ⟨g,0,rfl,?_⟩;have m:=h.cellAt k (by have:=h.1;omega);rw [yR,m,j]
theorem Rd.grown {w w':N6} {row:Option Nat} {A:N0} {xs:N5} (h:Rd w A xs) (hg:w.grownBy w' row) (hA:∀a,A=some a->some a.block≠row):Rd w' A xs:=fun k u g=>by
 obtain ⟨b,o,e,hc⟩:=h k u g;exact ⟨b,o,e,hg.cell hc (show some b≠row from hA _ e)⟩
theorem Rd.take {w:N6} {A:N0} {xs:N5} (h:Rd w A xs) (n:Nat):Rd w A (xs.take n):=fun k u a=>by
 rw [List.getElem?_take] at a
 split at a
 ·exact h k u a
 ·cases a
theorem Rd.drop {w:N6} {b o:Nat} {xs:N5} (h:Rd w (some (ao b o)) xs) (n:Nat):Rd w (some (ao b (o+n))) (xs.drop n):=fun k u a=>by
 rw [List.getElem?_drop] at a;obtain ⟨g,i,e,hc⟩:=h _ _ a;injection e with e
 injection e with e1 e2 _
 subst e1;subst e2;exact ⟨b,o+n,rfl,by rw [yQ];exact hc⟩
theorem dO (w:N6) (xs:N5) (e:N7) (n:Nat) (g:w.heap.size=n):Rd (w.alloc (.cells xs.toArray e)) (some (ao n 0)) xs:=fun k u a=>by
 subst g;refine ⟨_,_,rfl,?_⟩;rw [yR,x7 _ w.heap.size k xs.toArray e (0,0) (x6 w _)];simpa using a
theorem aB {w:N6} {base:Nat} {e:N7} {size:Nat} {v:Value} {n:Nat} {xs:N5} (h:w.ownsRow base e size v n xs):∃A c,v=.slice A n c/\n<=c:=by
 rcases h.2 with ⟨rfl,rfl⟩ | ⟨g,cap,a,rfl,_,_,hc,_⟩
 ·exact ⟨none,0,rfl,x4 _⟩
 ·exact ⟨_,_,rfl,hc⟩
theorem az {w w':N6} {base:Nat} {e:N7} {size:Nat} {v:Value} {n:Nat} {xs:N5} (h:w.ownsRow base e size v n xs) (a:an w w'):w'.ownsRow base e size v n xs:=
 h.kept (row:=none) ⟨a.os,a.tape,a.output,a.size,fun k g _=>a.block k g⟩ (by cases hv:v.ownBlock<;>simp)
theorem aZ {w:N6} {base:Nat} {e:N7} {size:Nat} {v:Value} {n:Nat} {xs:N5} (h:w.ownsRow base e size v n xs) (m:Nat):(w.drewN m).ownsRow base e size v n xs:=h
theorem aA {w:N6} {base base':Nat} {e:N7} {size:Nat} {v:Value} {n:Nat} {xs:N5} (h:w.ownsRow base e size v n xs) (k:base'<=base):w.ownsRow base' e size v n xs:=by
 refine ⟨h.1,?_⟩;rcases h.2 with j | ⟨g,cap,a,i,hg,r⟩
 ·exact .inl j
 ·exact .inr ⟨g,cap,a,i,yd k hg,r⟩
structure Keep (S:Nat->Prop) (w w':N6):Prop where
 os:w'.os=w.os
 tape:w'.tape=w.tape
 output:w'.output=w.output
 size:w.heap.size<=w'.heap.size
 block:∀k,k<w.heap.size->¬S k->w'.heap[k]?=w.heap[k]?
theorem Keep.refl (S:Nat->Prop) (w:N6):Keep S w w:=⟨rfl,rfl,rfl,x4 _,fun _ _ _=>rfl⟩
theorem Keep.trans {S:Nat->Prop} {a b c:N6} (h:Keep S a b) (k:Keep S b c):Keep S a c:=
 ⟨k.os.trans h.os,k.tape.trans h.tape,k.output.trans h.output,yd h.size k.size,fun i e g=>(k.block i (ye e h.size) g).trans (h.block i e g)⟩
theorem Keep.below {S:Nat->Prop} {w w':N6} (h:an w w'):Keep S w w':=⟨h.os,h.tape,h.output,h.size,fun k a _=>h.block k a⟩
theorem Keep.mono {S a:Nat->Prop} {w w':N6} (h:Keep S w w') (i:∀k,k<w.heap.size->S k->a k):Keep a w w':=⟨h.os,h.tape,h.output,h.size,fun k e j=>h.block k e fun g=>j (i k e g)⟩
theorem Keep.drewN {S:Nat->Prop} {a w:N6} (h:Keep S a w) (n:Nat):Keep S a (w.drewN n):=⟨h.os,h.tape,h.output,h.size,h.block⟩
theorem Keep.drew {S:Nat->Prop} {a w:N6} (h:Keep S a w):Keep S a w.drew:=⟨h.os,h.tape,h.output,h.size,h.block⟩
theorem Keep.alloc {S:Nat->Prop} {a w:N6} (h:Keep S a w) (o:Obj):Keep S a (w.alloc o):=h.trans (Keep.below ((ya _ w).alloc (x4 _) o))
theorem Keep.setCell {S:Nat->Prop} {a w:N6} (h:Keep S a w) (p:Addr) (g:a.heap.size<=p.block\/S p.block) (u:Value):Keep S a (w.setCell p u):=
 ⟨h.os,h.tape,h.output,by simp [World.setCell];exact h.size,fun k j i=>(Below.heap_setCell w p u k (fun e=>by subst e;rcases g with g | g<;>first | omega | exact i g)).trans (h.block k j i)⟩
theorem Keep.grown {S:Nat->Prop} {a w w':N6} (h:Keep S a w) {row:Option Nat} (hg:w.grownBy w' row) (hr:∀k,row=some k->a.heap.size<=k\/S k):Keep S a w':=
 ⟨hg.os.trans h.os,hg.tape.trans h.tape,hg.output.trans h.output,yd h.size hg.size,fun k g j=>
  (hg.block k (ye g h.size) fun e=>by
   rcases hr k e.symm with i | i
   ·omega
   ·exact j i).trans (h.block k g j)⟩
theorem Keep.toBelow {S:Nat->Prop} {B:Nat} {w w':N6} (h:Keep S w w') (i:B<=w.heap.size) (a:∀k,S k->B<=k):Below B w w':=
 ⟨h.os,h.tape,h.output,h.size,fun k g=>h.block k am fun e=>by have:=a k e;omega⟩
theorem Keep.cell {S:Nat->Prop} {w w':N6} (h:Keep S w w') {p:Addr} {u:Value} (hc:w.cell? p=some u) (a:¬S p.block):w'.cell? p=some u:= (World.cell?_of_block (w:=w) (h.block _ (aw hc) a)).trans hc
theorem Keep.rd {S:Nat->Prop} {w w':N6} (h:Keep S w w') {A:N0} {xs:N5} (hr:Rd w A xs) (hA:∀a,A=some a->¬S a.block):Rd w' A xs:=fun k u g=>by
 obtain ⟨b,o,e,hc⟩:=hr k u g;exact ⟨b,o,e,h.cell hc (show ¬S b from hA _ e)⟩
theorem Keep.own {S:Nat->Prop} {w w':N6} (h:Keep S w w') {base:Nat} {e:N7} {size:Nat} {v:Value} {n:Nat} {xs:N5} (j:w.ownsRow base e size v n xs) (l:∀k,v.ownBlock=some k->¬S k):w'.ownsRow base e size v n xs:=by
 refine ⟨j.1,?_⟩;rcases j.2 with m | ⟨g,cap,i,rfl,hg,a,r⟩
 ·exact .inl m
 ·exact .inr ⟨g,cap,i,rfl,hg,(h.block g (xZ a) (l g rfl)).trans a,r⟩
structure cE (P:Program) (t e:N7) (z:Value) (size bytes:Nat):Prop where
 und:P.underlying t=some (.slice e)
 info:∃i,P.info? e=some i/\i.zero=some z/\i.size=size/\i.bytes=bytes
 zs:z.cells.size=size
 pos:0<size
theorem aE {P:Program} {t e:N7} {z:Value} {size l:Nat} (T:cE P t e z size l) (w:N6) {ops:N9} {rest:List Oper} {o:Oper} {a:Na} {Q:Exit->Na->N6->Prop} (y:o.guard=none) (s x:Operand) (D:o.op=.call {callee:=.builtin .append,args:=#[s,x],argTypes:=#[t,t]}) (base:Nat) (v:Value) (n:Nat) (xs:N5) (hs:a.eval s=v) (hown:w.ownsRow base e size v n xs) (us:N5) (hx:a.eval x=.slice (some (ao w.heap.size 0)) 1 1) (hus:us.length=size) (h1:∀u∈us,u.oneCell'=true) (hb:(n+1)*l<=140737488355328) (h63:n+1<=maxLen) (hbase:base<=w.heap.size) (h:∀g c w',w'.ownsRow base e size (.slice (some (ao g 0)) (n+1) c) (n+1) (xs++us)->Below base w w'->w.grownBy w' v.ownBlock->
   wpList P ops Q rest (a.put o.dst (.slice (some (ao g 0)) (n+1) c)) w'):wpList P ops Q (o::rest) a (w.alloc (.cells us.toArray e)):=by
 obtain ⟨i,G,A,B,q⟩:=T.info
 refine wpList_append_own (w.alloc (.cells us.toArray e)) y s x t D base e i z size l T.und G A B q T.zs T.pos v n xs hs (hown.alloc _) (ao w.heap.size 0) 1 1 us hx (by simpa using hus) ?_ h1 h63 hb
  (by simp;omega) ?_
 ·intro j u F;rw [Addr.add_lit,yR,x7 _ w.heap.size j us.toArray e (0,0) (x6 w _)];simpa using F
 ·intro H w' m hg _;obtain ⟨g,c,rfl,E,_⟩:=m.form am;have p:w.grownBy w' v.ownBlock:=(World.grownBy_alloc w _ _).trans hg;exact h g c w' m ((ya base w).grown p hbase fun k C=>(hown.lt k C).1) p
theorem gZ {P:Program} {t e:N7} {z:Value} {size a:Nat} (T:cE P t e z size a) (w:N6) (base:Nat) (m:N7) (v:Value) (n:Nat) (xs:N5) (h:w.ownsRow base e size v n xs) (c:Nat): (Builtin.append_ #[t,t] m #[v,.slice none 0 c]).run P w=.ok v w:=by
 obtain ⟨i,k,_,_,_⟩:=T.info;rcases h.2 with ⟨rfl,rfl⟩ | ⟨g,cap,l,rfl,_,_,j,_⟩
 ·simp [Builtin.append_,run_underlying T.und,sizeOf,typeInfo,k,Builtin.lenOf,Builtin.firstCells]
 ·simp [Builtin.append_,run_underlying T.und,sizeOf,typeInfo,k,Builtin.lenOf,Builtin.firstCells,j,storeCells]
theorem pP {P:Program} {t e:N7} {z:Value} {size a:Nat} (T:cE P t e z size a) (w:N6) (base:Nat) (G:N7) (v:Value) (n:Nat) (xs:N5) (g:w.ownsRow base e size v n xs) (A:N0) (m c:Nat) (q:N5) (hr:Rd w A q) (y:q.length=m*size) (L:∀u∈q,u.oneCell'=true) (J:(n+m)*a<=140737488355328) (E:n+m<=maxLen) (p:base<=w.heap.size):
  ∃x w',(Builtin.append_ #[t,t] G #[v,.slice A m c]).run P w=.ok x w'/\w'.ownsRow base e size x (n+m) (xs++q)/\Below base w w'/\w.grownBy w' v.ownBlock/\(x.ownBlock=v.ownBlock\/x.ownBlock=some w.heap.size):=by
 cases A with
 | none=>
  have hm:q=[]:=by
   cases q with
   | nil=>rfl
   | cons u l=>obtain ⟨b,o,h,_⟩:=hr 0 u rfl;cases h
  subst hm
  have D:m=0:=by
   have:=T.pos;rcases Nat.eq_zero_or_pos m with h | h
   ·exact h
   ·have:=Nat.mul_pos h this;simp at y;omega
  subst D;exact ⟨v,w,gZ T w base G v n xs g c,by simpa using g,ya _ _,World.grownBy.refl _ _,.inl rfl⟩
 | some ad=>
  obtain ⟨i,O,B,C,F⟩:=T.info
  have hc:∀j u,q[j]?=some u->w.cell? (ad.add j)=some u:=fun j u N=>by
   obtain ⟨b,o,e,h⟩:=hr j u N;injection e with e
   subst e;rw [Addr.add_lit];exact h
  obtain ⟨x,w',hr,I,H,Q,M⟩:=run_append_own_at (P:=P) w base t G e i z size a T.und O B C F T.zs T.pos v n xs g ad m c q y hc L E J p;exact ⟨x,w',hr,I,(ya base w).grown H p fun k K=>(g.lt k K).1,H,M⟩
theorem ew {P:Program} {t e:N7} {z:Value} {size g:Nat} (T:cE P t e z size g) (w:N6) {ops:N9} {rest:List Oper} {o:Oper} {a:Na} {Q:Exit->Na->N6->Prop} (l:o.guard=none) (s x:Operand) (y:o.op=.call {callee:=.builtin .append,args:=#[s,x],argTypes:=#[t,t]}) (base:Nat) (v:Value) (n:Nat) (xs:N5) (hs:a.eval s=v) (hown:w.ownsRow base e size v n xs) (A:N0) (m c:Nat) (us:N5) (hx:a.eval x=.slice A m c) (hr:Rd w A us) (hus:us.length=m*size) (h1:∀u∈us,u.oneCell'=true) (hb:(n+m)*g<=140737488355328) (h63:n+m<=maxLen) (hbase:base<=w.heap.size) (h:∀j i w',w'.ownsRow base e size (.slice j (n+m) i) (n+m) (xs++us)->Below base w w'->w.grownBy w' v.ownBlock->((Value.slice j (n+m) i).ownBlock=v.ownBlock\/(Value.slice j (n+m) i).ownBlock=some w.heap.size)->wpList P ops Q rest (a.put o.dst (.slice j (n+m) i)) w'):
  wpList P ops Q (o::rest) a w:=by
 refine wpList_plain l fun F p=>?_;obtain ⟨E,w',k,q,D,B,C⟩:=pP T w base o.type v n xs hown A m c us hr hus h1 hb h63 hbase;obtain ⟨j,i,rfl,_⟩:=aB q;unfold Oper.wp;simp [execOp,y,resolve,invoke,builtin,hs,hx,k,Result.andThen];exact p _ _ (h j i w' q D B C)
theorem sN {P:Program} {t e:N7} {z:Value} {size g:Nat} (T:cE P t e z size g) {w:N6} {ops:N9} {o:Oper} {a:Na} {K:Na->N6->Prop} {Q:Exit->Na->N6->Prop} {E:Prop} (l:o.guard=none) (s x:Operand) (q:o.op=.call {callee:=.builtin .append,args:=#[s,x],argTypes:=#[t,t]}) (base:Nat) (v:Value) (n:Nat) (xs:N5) (hs:a.eval s=v) (hown:w.ownsRow base e size v n xs) (A:N0) (m c:Nat) (us:N5) (hx:a.eval x=.slice A m c) (hr:Rd w A us) (hus:us.length=m*size) (h1:∀u∈us,u.oneCell'=true) (hb:(n+m)*g<=140737488355328) (h63:n+m<=maxLen) (hbase:base<=w.heap.size) (h:∀j i w',w'.ownsRow base e size (.slice j (n+m) i) (n+m) (xs++us)->Below base w w'->w.grownBy w' v.ownBlock->((Value.slice j (n+m) i).ownBlock=v.ownBlock\/(Value.slice j (n+m) i).ownBlock=some w.heap.size)->K (a.put o.dst (.slice j (n+m) i)) w'):
  if Region.wanted o (yielded ops a.tmps)=true then Oper.wp P o a w K Q else E:=by
 have hw:Region.wanted o (yielded ops a.tmps)=true:=by simp [Region.wanted,l]
 rw [if_pos hw];obtain ⟨D,w',k,p,C,y,B⟩:=pP T w base o.type v n xs hown A m c us hr hus h1 hb h63 hbase;obtain ⟨j,i,rfl,_⟩:=aB p;unfold Oper.wp;simp [execOp,q,resolve,invoke,builtin,hs,hx,k,Result.andThen];exact h j i w' p C y B
theorem gE (w:N6) (e:N7) (size:Nat):(w.alloc (.cells #[] e)).ownsRow w.heap.size e size (.slice (some (ao w.heap.size 0)) 0 0) 0 []:=
 World.ownsRow_made w #[] 0 (x4 _) (by unfold maxLen;omega) (by simp)
theorem kw {P:Program} {t e:N7} {z:Value} {g:Nat} (T:cE P t e z 1 g) (w:N6) {ops:N9} {rest:List Oper} {o:Oper} {a:Na} {Q:Exit->Na->N6->Prop} (hg:o.guard=none) (l c:Operand) (v:o.op=Op.makeSlice t l c) (u:z.cells=#[z]) (n:Nat) (hl:a.eval l=yY (n:Int)) (hc:a.eval c=yY (n:Int)) (A:g*n<=281474976710656) (B:n<=maxLen) (y:∀w',w'.ownsRow w.heap.size e 1 (.slice (some (ao w.heap.size 0)) n n) n (List.replicate n z)->an w w'->
   wpList P ops Q rest (a.put o.dst (.slice (some (ao w.heap.size 0)) n n)) w'):wpList P ops Q (o::rest) a w:=by
 obtain ⟨i,C,p,q,m⟩:=T.info;refine wpList_make_full w hg l c t v w.heap.size e i z 1 T.und C p q .i64 .i64 n n n hl hc rfl rfl (by rw [m];exact A) B (x4 _) ?_;intro w' j h;rw [u,Nat.mul_one,toList_madeCells_one] at j;exact y w' j ⟨h.os,h.tape,h.output,h.size,fun k x=>h.block k x (by simp)⟩
def Cs (w:N6) (b:Nat):Nat->N5->Prop
 | _,[]=>True
 | i,v::vs=>w.cell? (ao b i)=some v/\Cs w b (i+1) vs
theorem wt (w:N6) (b:Nat) (a:N5) (hc:∀j,w.cell? (ao b j)=a[j]?):∀(vs:N5) (i:Nat),(∀j,vs[j]?=a[i+j]?)->Cs w b i vs
 | [],_,_=>trivial
 | v::vs,i,h=>⟨by rw [hc];exact (h 0).symm,wt w b a hc vs (i+1) fun j=>by have:=h (j+1);simpa [yQ,Nat.add_comm 1 j] using this⟩
def Bx (w:N6) (b:Nat) (vs:N5):Prop:=Cs w b 0 vs/\b<w.heap.size/\∀j,w.frozen? (ao b j)=false
theorem bx {w:N6} {b:Nat} {vs:N5} {t:N7} (h:w.heap[b]?=some (.cells vs.toArray t (0,0))):Bx w b vs:=
 ⟨wt w b vs (fun j=>by rw [x7 w b j _ _ _ h];simp) vs 0 (fun j=>by simp),xZ h,fun j=>frozen_of_row w b j _ _ h⟩
theorem bx1 {w:N6} {b:Nat} {t:N7} {a:Value} (h:w.heap[b]?=some (.cells #[a] t (0,0))):(w.cell? (ao b 0)=some a)/\∀j,w.frozen? (ao b j)=false:=by
 have:=bx (vs:=[a]) h;simp only [Bx,Cs,Nat.reduceAdd,and_true] at this;exact ⟨this.1,this.2.2⟩
theorem bx2 {w:N6} {b:Nat} {t:N7} {e a:Value} (h:w.heap[b]?=some (.cells #[e,a] t (0,0))):(w.cell? (ao b 0)=some e/\w.cell? (ao b 1)=some a)/\∀j,w.frozen? (ao b j)=false:=by
 have:=bx (vs:=[e,a]) h;simp only [Bx,Cs,Nat.reduceAdd,and_true] at this;exact ⟨this.1,this.2.2⟩
theorem bx3 {w:N6} {b:Nat} {t:N7} {g e a:Value} (h:w.heap[b]?=some (.cells #[g,e,a] t (0,0))):(w.cell? (ao b 0)=some g/\w.cell? (ao b 1)=some e/\w.cell? (ao b 2)=some a)/\∀j,w.frozen? (ao b j)=false:=by
 have:=bx (vs:=[g,e,a]) h;simp only [Bx,Cs,Nat.reduceAdd,and_true] at this;exact ⟨this.1,this.2.2⟩
theorem bx4 {w:N6} {b:Nat} {t:N7} {i g e a:Value} (h:w.heap[b]?=some (.cells #[i,g,e,a] t (0,0))):(w.cell? (ao b 0)=some i/\w.cell? (ao b 1)=some g/\w.cell? (ao b 2)=some e/\w.cell? (ao b 3)=some a)/\∀j,w.frozen? (ao b j)=false:=by
 have:=bx (vs:=[i,g,e,a]) h;simp only [Bx,Cs,Nat.reduceAdd,and_true] at this;exact ⟨this.1,this.2.2⟩
theorem bx5 {w:N6} {b:Nat} {t:N7} {i g e a k:Value} (h:w.heap[b]?=some (.cells #[i,g,e,a,k] t (0,0))):(w.cell? (ao b 0)=some i/\w.cell? (ao b 1)=some g/\w.cell? (ao b 2)=some e/\w.cell? (ao b 3)=some a/\w.cell? (ao b 4)=some k)/\∀j,w.frozen? (ao b j)=false:=by
 have:=bx (vs:=[i,g,e,a,k]) h;simp only [Bx,Cs,Nat.reduceAdd,and_true] at this;exact ⟨this.1,this.2.2⟩
theorem bx8 {w:N6} {b:Nat} {t:N7} {k i e a l m g n:Value} (h:w.heap[b]?=some (.cells #[k,i,e,a,l,m,g,n] t (0,0))):(w.cell? (ao b 0)=some k/\w.cell? (ao b 1)=some i/\w.cell? (ao b 2)=some e/\w.cell? (ao b 3)=some a/\w.cell? (ao b 4)=some l/\w.cell? (ao b 5)=some m/\w.cell? (ao b 6)=some g/\w.cell? (ao b 7)=some n)/\∀j,w.frozen? (ao b j)=false:=by
 have:=bx (vs:=[k,i,e,a,l,m,g,n]) h;simp only [Bx,Cs,Nat.reduceAdd,and_true] at this;exact ⟨this.1,this.2.2⟩
theorem bx9 {w:N6} {b:Nat} {t:N7} {l k g e m n i o a:Value} (h:w.heap[b]?=some (.cells #[l,k,g,e,m,n,i,o,a] t (0,0))):(w.cell? (ao b 0)=some l/\w.cell? (ao b 1)=some k/\w.cell? (ao b 2)=some g/\w.cell? (ao b 3)=some e/\w.cell? (ao b 4)=some m/\w.cell? (ao b 5)=some n/\w.cell? (ao b 6)=some i/\w.cell? (ao b 7)=some o/\w.cell? (ao b 8)=some a)/\∀j,w.frozen? (ao b j)=false:=by
 have:=bx (vs:=[l,k,g,e,m,n,i,o,a]) h;simp only [Bx,Cs,Nat.reduceAdd,and_true] at this;exact ⟨this.1,this.2.2⟩
theorem fY {w:N6} {b:Nat} {t:N7} {n m l i o p k u g q a e:Value} (h:w.heap[b]?=some (.cells #[n,m,l,i,o,p,k,u,g,q,a,e] t (0,0))):(w.cell? (ao b 0)=some n/\w.cell? (ao b 1)=some m/\w.cell? (ao b 2)=some l/\w.cell? (ao b 3)=some i/\w.cell? (ao b 4)=some o/\w.cell? (ao b 5)=some p/\w.cell? (ao b 6)=some k/\w.cell? (ao b 7)=some u/\w.cell? (ao b 8)=some g/\w.cell? (ao b 9)=some q/\w.cell? (ao b 10)=some a/\w.cell? (ao b 11)=some e)/\∀j,w.frozen? (ao b j)=false:=by
 have:=bx (vs:=[n,m,l,i,o,p,k,u,g,q,a,e]) h;simp only [Bx,Cs,Nat.reduceAdd,and_true] at this;exact ⟨this.1,this.2.2⟩
theorem xk {w:N6} {b:Nat} {t:N7} {o n l k p q m v i u a e g:Value} (h:w.heap[b]?=some (.cells #[o,n,l,k,p,q,m,v,i,u,a,e,g] t (0,0))):(w.cell? (ao b 0)=some o/\w.cell? (ao b 1)=some n/\w.cell? (ao b 2)=some l/\w.cell? (ao b 3)=some k/\w.cell? (ao b 4)=some p/\w.cell? (ao b 5)=some q/\w.cell? (ao b 6)=some m/\w.cell? (ao b 7)=some v/\w.cell? (ao b 8)=some i/\w.cell? (ao b 9)=some u/\w.cell? (ao b 10)=some a/\w.cell? (ao b 11)=some e/\w.cell? (ao b 12)=some g)/\∀j,w.frozen? (ao b j)=false:=by
 have:=bx (vs:=[o,n,l,k,p,q,m,v,i,u,a,e,g]) h;simp only [Bx,Cs,Nat.reduceAdd,and_true] at this;exact ⟨this.1,this.2.2⟩
theorem em {w:N6} {b:Nat} {t:N7} {q o n l x p m y v u g i k e a:Value} (h:w.heap[b]?=some (.cells #[q,o,n,l,x,p,m,y,v,u,g,i,k,e,a] t (0,0))):(w.cell? (ao b 0)=some q/\w.cell? (ao b 1)=some o/\w.cell? (ao b 2)=some n/\w.cell? (ao b 3)=some l/\w.cell? (ao b 4)=some x/\w.cell? (ao b 5)=some p/\w.cell? (ao b 6)=some m/\w.cell? (ao b 7)=some y/\w.cell? (ao b 8)=some v/\w.cell? (ao b 9)=some u/\w.cell? (ao b 10)=some g/\w.cell? (ao b 11)=some i/\w.cell? (ao b 12)=some k/\w.cell? (ao b 13)=some e/\w.cell? (ao b 14)=some a)/\∀j,w.frozen? (ao b j)=false:=by
 have:=bx (vs:=[q,o,n,l,x,p,m,y,v,u,g,i,k,e,a]) h;simp only [Bx,Cs,Nat.reduceAdd,and_true] at this;exact ⟨this.1,this.2.2⟩
theorem sb {w:N6} {b:Nat} {x:Obj} (h:w.heap[b]?=some x):∀w',an w w'->w'.heap[b]?=some x:=fun _ q=>(q.block b (xZ h)).trans h
theorem sl {w:N6} {b:Nat} {x:Obj} (h:w.heap[b]?=some x):∀w',an w w'->b<w'.heap.size:=fun w' q=>ye (xZ h) q.size
theorem bt {a b c:N6} (h:an a b) (k:an b c):an a c:=h.trans (k.mono h.size)
theorem br (w:N6):an w w:=ya _ w
end Go.Proofs.YthamijnggdjaoaaGreat
namespace Go.Proofs.YthamijnggdjaoaaGreat
open Go.RowKit Go.ChangeShapes Go.WideShapes Go.ChangeAt
open Tryz
abbrev cf (α:Type):=N6->N5->α->Prop
def nR {α:Type} (R:cf α):Prop:=∀{w w':N6} {cs:N5} {a:α},an w w'->R w cs a->R w' cs a
def aK (l:List (N5)) (j:Nat):N5:=l.getD j []
theorem kJ {l:List (N5)} {j:Nat} (h:j<l.length):aK l j=l[j]:=by simp [aK,h]
theorem fX {a:List (N5)} {k:Nat} (h:∀r∈a,r.length=k) (i t:Nat) (e:i<a.length) (g:t<k):(List.flatten a)[i*k+t]?=(aK a i)[t]?:=by
 induction a generalizing i with
 | nil=>simp at e
 | cons r l ih=>
  have hr:r.length=k:=h r (by simp)
  cases i with
  | zero=>
   rw [List.flatten_cons,Nat.zero_mul,yR,yD am];simp [aK]
  | succ i=>
   rw [List.flatten_cons,yE (by rw [hr,Nat.add_mul];omega),hr,show (i+1)*k+t-k=i*k+t by rw [Nat.add_mul];omega,ih (fun r hr=>h r (by simp [hr])) i (by simpa using e)];simp [aK]
theorem uh {a:List (N5)} {k:Nat} (h:∀r∈a,r.length=k):(List.flatten a).length=a.length*k:=by
 induction a with
 | nil=>simp
 | cons r l ih=>rw [List.flatten_cons,yA,h r (by simp),ih (fun r hr=>h r (by simp [hr])),List.length_cons,Nat.add_mul];omega
def aQ {α:Type} (R:cf α) (size:Nat) (w:N6) (A:N0) (l:List α):Prop:=
 ∃a,Rd w A (List.flatten a)/\a.length=l.length/\(∀r∈a,r.length=size)/\∀j x,l[j]?=some x->R w (aK a j) x
def rSl {α:Type} (R:cf α) (size:Nat):cf (List α):=fun w a l=>∃A c,a=[.slice A l.length c]/\l.length<=c/\c<=9223372036854775807/\l.length<=17592186043904/\aQ R size w A l
def wJ (k:IntKind):cf Int:=fun _ a n=>a=[.int k n]/\(Lit.int k n).wf=true
def pT (q:IntKind):cf (N3):=fun w a zs=>∃A c,a=[.slice A zs.length c]/\zs.length<=c/\c<=9223372036854775807/\zs.length<=17592186043904/\Rd w A (au q zs)/\∀z∈zs,(Lit.int q z).wf=true
section
variable {α:Type} {R:cf α} {size:Nat} {w w':N6} {A:N0} {l:List α}
theorem aQ.below (k:nR R) (h:aQ R size w A l) (e:an w w'):aQ R size w' A l:=by
 obtain ⟨a,m,g,n,i⟩:=h;exact ⟨a,m.below e,g,n,fun j x o=>k e (i j x o)⟩
theorem aQ.nil (R:cf α) (size:Nat) (w:N6) (A:N0):aQ R size w A []:=⟨[],Rd.nil _ _,rfl,by simp,by simp⟩
theorem aQ.get (h:aQ R size w A l) (q:0<size) {j:Nat} {x:α} (C:l[j]?=some x):
  ∃b o g,A=some (ao b o)/\b<w.heap.size/\g.length=size/\R w g x/\w.cell? (ao b (o+j*size))=g[0]?/\∀t,t<size->w.cell? (ao b (o+j*size+t))=g[t]?:=by
 obtain ⟨a,y,D,p,E⟩:=h;have i:j<a.length:=by rw [D];exact (yB.1 C).1
 have n:(aK a j).length=size:=p _ (by rw [kJ i];exact List.getElem_mem i);have e:∀t,t<size->∃u,(aK a j)[t]?=some u:=fun t k=>⟨_,yC am⟩;obtain ⟨F,v⟩:=e 0 q;obtain ⟨b,o,rfl,G⟩:=y (j*size+0) F ((fX p j 0 i q).trans v)
 have hc:∀t,t<size->w.cell? (ao b (o+j*size+t))=(aK a j)[t]?:=fun t k=>by
  obtain ⟨u,B⟩:=e t k;obtain ⟨H,I,m,c⟩:=y (j*size+t) u ((fX p j t i k).trans B);injection m with m;injection m with e1 e2 _
  subst e1;subst e2;rw [yQ,c,B]
 refine ⟨b,o,aK a j,rfl,aw G,n,E j x C,?_,hc⟩;have:=hc 0 q
 rwa [Nat.add_zero] at this
end
def fz {H:Type} (P:Program) (t:N7) (d:DataW H):Prop:=∀n∈d.weights P t,n<=140737488351232
theorem rJ {H:Type} {P:Program} {e:N7}:∀{l:List (DataW H)},(∀n∈DataW.weightsAll P e l,n<=140737488351232)->∀(i:Nat) (d:DataW H),l[i]?=some d->fz P e d:=by
 intro l
 induction l with
 | nil=>intro _ i d h;simp at h
 | cons x r ih=>
  intro h i d a;unfold DataW.weightsAll at h
  cases i with
  | zero=>
   simp at a;subst a;exact fun n g=>h n (yN.2 (.inl g))
  | succ i=>exact ih (fun n g=>h n (yN.2 (.inr g))) i d (by simpa using a)
theorem j0 {H:Type} {P:Program}:∀{a:List N7} {l:List (DataW H)},(∀n∈DataW.weightsEach P a l,n<=140737488351232)->∀(i:Nat) (t:N7) (d:DataW H),a[i]?=some t->l[i]?=some d->fz P t d:=by
 intro a
 induction a with
 | nil=>intro l _ i t d h;simp at h
 | cons t0 a ih=>
  intro l h i t d g e
  cases l with
  | nil=>simp at e
  | cons x r=>
   unfold DataW.weightsEach at h
   cases i with
   | zero=>
    simp at g e;subst g;subst e;exact fun n j=>h n (yN.2 (.inl j))
   | succ i=>exact ih (fun n j=>h n (yN.2 (.inr j))) i t d (by simpa using g) (by simpa using e)
theorem iE {H:Type} {P:Program} {a:List N7} {l:List (DataW H)} (h:(DataW.weightsEach P a l).all (· <=reachBytes)=true) {i:Nat} {t:N7} {d:DataW H} (j:a[i]?=some t) (e:l[i]?=some d):fz P t d:=
 j0 (fun n k=>by have g:n<=reachBytes:=of_decide_eq_true (List.all_eq_true.1 h n k);exact g) i t d j e
def eI (P:Program) (t:N7) (size:Nat) {α:Type} (R:cf α):Prop:=
 P.cellsOf t=size/\∀{H:Type} {enc:N7×Value->H} {W:N6} {fuel:Nat} {cs:N5} {x:DataW H×List MemPlace},DataW.trod enc P W 0 (fun _=>true) true fuel t cs=some x->fz P t x.1->cs.length=size/\∃a,R W cs a
theorem kU {P:Program} {t:N7} {k:IntKind} (a:P.underlying t=some (.int k)) (hc:P.cellsOf t=1):eI P t 1 (wJ k):=⟨hc,fun h _=>by
 obtain ⟨n,rfl,_,hw⟩:=DataW.trod_int a h
 exact ⟨rfl,n,rfl,hw⟩⟩
theorem pS {w:N6} {a:Addr} {xs:N5} (h:∀i u,xs[i]?=some u->w.cell? (a.add i)=some u):Rd w (some a) xs:=fun k u p=>by
 have q:∃j,xs[0]?=some j:=by
  have:=(yB.1 p).1;exact ⟨xs[0],yC am⟩
 obtain ⟨j,l⟩:=q;have g:=h 0 j l;have e:a.add 0=a:=by simp [Addr.add]
 rw [e] at g
 have n:a=(ao a.block a.off):=by
  obtain ⟨b,o,s⟩:=a;unfold World.cell? at g
  split at g
  ·cases s with
   | none=>rfl
   | some x=>simp at g
  ·cases g
 refine ⟨a.block,a.off,by rw [<-n],?_⟩;have m:=h k u p;rw [n,Addr.add_lit] at m;exact m
theorem ig {P:Program} {t e:N7} {q:IntKind} (C:P.underlying t=some (.slice e)) (O:P.underlying e=some (.int q)) (hc:P.cellsOf e=1) (E:P.cellsOf t=1) (K:P.bytesOf e=8):eI P t 1 (pT q):=⟨E,fun {H M W G L y} h B=>by
 have o:∀a l c,L=[.slice a l c]->l<=17592186043904:=fun a l c v=>by
  rcases Go.Deep.open_slice C h with ⟨g,_⟩ | ⟨R,Q,cap,m,n,D,Pl,g,_,hl,_,J,N,_⟩
  ·rw [v] at g;injection g with g;injection g with _ g;omega
  ·rw [v] at g;injection g with g;injection g with _ g;subst g
   have hw:=B ((l+(m-l))*8) (by rw [N];simp [DataW.weights,C,K]);omega
 rcases open_ints C O hc h with ⟨rfl,_⟩ | ⟨x,l,c,zs,rfl,_,hl,hm,A,_,k,F⟩
 ·exact ⟨rfl,[],none,0,rfl,x4 _,by omega,by simp,Rd.nil _ _,by simp⟩
 ·have I:=o _ _ _ rfl;refine ⟨rfl,zs.take l,some x,c,?_,by simp;omega,by unfold maxLen at hm;exact hm,by simp;omega,?_,fun z A=>F z (List.mem_of_mem_take A)⟩
  ·rw [yF];simp at A;rw [Nat.min_eq_left am]
  ·refine pS fun i u p=>?_;rw [<-dq,List.getElem?_take] at p
   split at p
   ·rename_i S
    have j:i<zs.length:=by simp at A;omega
    rw [jX q zs i j] at p;rw [k i j,<-p,cJ zs i j];simp [List.getD,j]
   ·cases p⟩
theorem nl {P:Program} {t e:N7} {size:Nat} {α:Type} {R:cf α} (N:P.underlying t=some (.slice e)) (hR:eI P e size R) (T:P.cellsOf t=1) (hb:8<=P.bytesOf e):eI P t 1 (rSl R size):=⟨T,fun {H a2 W a0 cs x} h k=>by
 rcases Go.Deep.open_slice N h with ⟨rfl,_⟩ | ⟨a,g,cap,m,n,D,Pl,rfl,_,hl,hm,C,I,hi⟩
 ·exact ⟨rfl,[],none,0,rfl,x4 _,by omega,by simp,aQ.nil _ _ _ _⟩
 ·simp at C;subst C;obtain ⟨V,O⟩:=hR;rw [V] at hi
  have F:g<=17592186043904:=by
   have hw:=k ((g+(m-g))*P.bytesOf e) (by rw [I];simp [DataW.weights,N]);have:=Nat.mul_le_mul_left (g+(m-g)) hb;omega
  have S:∀i,i<g->fz P e (D i):=fun i X=>by
   refine rJ (l:=(List.range g).map D) (fun n hn=>k n ?_) i (D i) (by simp [X]);rw [I];simp only [DataW.weights,N];exact List.mem_cons_of_mem _ (yN.2 (.inl hn))
  classical
  have y:∀i,i<g->∃q x,W.cells? 0 (a.add (i*size)) size=some q/\q.length=size/\R W q x:=fun i k=>by
   obtain ⟨q,h1,M⟩:=hi i am;obtain ⟨J,x,h4⟩:=O M (S i k);exact ⟨q,x,h1,J,h4⟩
  let o:Nat->N5:=fun i=>if k:i<g then Classical.choose (y i k) else []
  have p:∀i (k:i<g),∃x,W.cells? 0 (a.add (i*size)) size=some (o i)/\(o i).length=size/\R W (o i) x:=fun i k=>by
   have:=Classical.choose_spec (y i k);simp only [o,dif_pos k];exact this
  let Z:(i:Nat)->i<g->α:=fun i k=>Classical.choose (p i k)
  let l:List α:=List.ofFn (n:=g) fun i=>Z i.1 i.2
  have v:l.length=g:=by simp [l]
  refine ⟨rfl,l,some a,m,by rw [v],by rw [v];exact hl,by unfold maxLen at hm;exact hm,by rw [v];exact F,(List.range g).map o,?_,by simp [l],?_,?_⟩
  ·have J:∀r∈(List.range g).map o,r.length=size:=by
    intro r hr;obtain ⟨i,B,rfl⟩:=List.mem_map.1 hr;obtain ⟨x,_,h,_⟩:=p i (List.mem_range.1 B);exact h
   refine pS fun i u G=>?_;have k:=(yB.1 G).1;rw [uh J,List.length_map,List.length_range] at k
   have A:0<size:=by
    rcases Nat.eq_zero_or_pos size with h | h
    ·rw [h] at k;omega
    ·exact h
   have E:i=i/size*size+i%size:=by rw [Nat.mul_comm];exact (Nat.div_add_mod i size).symm
   have Q:i/size<g:=Nat.div_lt_of_lt_mul (by rw [Nat.mul_comm];exact k);have hr:=Nat.mod_lt i A;obtain ⟨x,U,a1,_⟩:=p _ Q;obtain ⟨_,_,L⟩:=World.cells?_some U;rw [E,fX J _ _ (by simpa using Q) hr] at G;have e:aK ((List.range g).map o) (i/size)=o (i/size):=by simp [aK,Q]
   rw [e,<-L _ hr] at G;rw [E];rw [Go.Deep.add_add] at G;exact G
  ·intro r hr;obtain ⟨i,B,rfl⟩:=List.mem_map.1 hr;obtain ⟨x,_,h,_⟩:=p i (List.mem_range.1 B);exact h
  ·intro j x I;have Y:j<g:=by rw [<-v];exact (yB.1 I).1
   have e:aK ((List.range g).map o) j=o j:=by simp [aK,Y]
   rw [e]
   have K:x=Z j Y:=by
    have:=yB.1 I;obtain ⟨h1,M⟩:=this;rw [<-M];simp [l]
   rw [K]
   exact (Classical.choose_spec (p j Y)).2.2⟩
theorem aJ {P:Program} {t m:N7} {p:Array Field} {size:Nat} {α:Type} {R:cf α} (v:eI P t size R) (g:P.underlying m=some (.struct p)) {H:Type} {l:N7×Value->H} {W:N6} {n e:Nat} {o:N5} {x:DataW H×List MemPlace} {xs:List (DataW H×List MemPlace)} (u:x=(.agg (xs.map (·.1)),xs.flatMap (·.2))) (hl:fz P m x.1) {i:Nat} (h:DataW.trod l P W 0 (fun _=>true) true n t ((o.drop e).take (P.cellsOf t))=xs[i]?) (q:i<xs.length) (j:(p.toList.map (·.type))[i]?=some t):∃a,R W ((o.drop e).take size) a:=by
 obtain ⟨hc,k⟩:=v;rw [hc,yC q] at h;refine (k h ?_).2;subst u;simp only [fz,DataW.weights,g] at hl;exact j0 hl i t _ j (by simp [yC q])
theorem nm {P:Program} {t:N7} {size:Nat} {α:Type} {R:cf α} (k:eI P t size R) {H:Type} {e:N7×Value->H} {W:N6} {v:Value} {d:DataW H} {p:List MemPlace} (h:DataW.Trod e P W 0 (fun _=>true) true t v d p) (hl:fz P t d):∃a,R W v.cells.toList a/\v.cells.toList.length=size:=by
 obtain ⟨g,i⟩:=h;obtain ⟨l,a,j⟩:=k.2 i hl;exact ⟨a,j,l⟩
end Go.Proofs.YthamijnggdjaoaaGreat
namespace Go.Proofs.YthamijnggdjaoaaGreat
open Go.RowKit
open Tryz
def cZ (B:Nat) (w:N6):N6:={w with heap:=w.heap.mapIdx fun k o=>if k<B then .cells #[] 0 (0,0) else o}
theorem fj (B:Nat) (w:N6):(cZ B w).heap.size=w.heap.size:=by simp [cZ]
theorem eN {B k:Nat} {w:N6} (h:B<=k):(cZ B w).heap[k]?=w.heap[k]?:=by
 simp only [cZ,Array.getElem?_mapIdx];have a:¬k<B:=am;simp [a]
theorem jt {B k:Nat} {w:N6} (h:k<B) (a:k<w.heap.size):(cZ B w).heap[k]?=some (.cells #[] 0 (0,0)):=by
 simp only [cZ,Array.getElem?_mapIdx];simp [h,a]
theorem sG (B:Nat) (w:N6):Keep (fun j=>j<B) w (cZ B w):=⟨rfl,rfl,rfl,by rw [fj];exact x4 _,fun k _ a=>eN am⟩
theorem ed {w:N6} {B base:Nat} {e:N7} {size:Nat} {v:Value} {n:Nat} {xs:N5} (h:w.ownsRow base e size v n xs) (g:B<=base):(cZ B w).ownsRow base e size v n xs:= (sG B w).own h fun k a hl=>by have:=(h.lt k a).1;omega
theorem dn {B:Nat} {w w':N6} (h:an w w'):Below (cZ B w).heap.size (cZ B w) (cZ B w'):=
 ⟨h.os,h.tape,h.output,by rw [fj,fj];exact h.size,fun k e=>by
  rw [fj] at e;rcases yl k B with a | a
  ·rw [jt a (ye e h.size),jt a e]
  ·rw [eN a,eN a,h.block k e]⟩
def Agr (B:Nat) (u v:N6):Prop:=∀k,B<=k->k<u.heap.size->v.heap[k]?=u.heap[k]?
theorem Agr.refl (B:Nat) (u:N6):Agr B u u:=fun _ _ _=>rfl
theorem sH {B:Nat} {u v:N6} {a:Addr} {x:Value} (h:(cZ B u).cell? a=some x) (g:Agr B u v):v.cell? a=some x:=by
 have hl:=aw h;rw [fj] at hl;rcases yl a.block B with e | e
 ·have i:=jt (w:=u) e hl;rw [World.cell?] at h;simp only [i] at h;simp at h
 ·exact (World.cell?_of_block (w:=cZ B u) ((g _ e hl).trans (eN e).symm)).trans h
theorem mG {B:Nat} {u v:N6} {b:Nat} {x:Value} {xs:N5} {t:N7} {e:Nat×Nat} (h:(cZ B u).heap[b]?=some (.cells (x::xs).toArray t e)) (g:Agr B u v):v.heap[b]?=some (.cells (x::xs).toArray t e):=by
 have hl:=xZ h;rw [fj] at hl;rcases yl b B with a | a
 ·rw [jt a hl] at h;simp at h
 ·rw [g b a hl,<-eN a];exact h
theorem fA {B:Nat} {u v:N6} {A:N0} {xs:N5} (h:Rd (cZ B u) A xs) (a:Agr B u v):Rd v A xs:=fun k x g=>by
 obtain ⟨b,o,e,hc⟩:=h k x g;exact ⟨b,o,e,sH hc a⟩
theorem mq {B a:Nat} {u:N6} (h:B<=a):Agr a u (cZ B u):=fun k e _=>eN am
def xF {α:Type} (R:cf α):Prop:=∀{B:Nat} {u v:N6} {cs:N5} {x:α},R (cZ B u) cs x->Agr B u v->R v cs x
theorem sF {α:Type} {R:cf α} {size B:Nat} {u v:N6} {A:N0} {l:List α} (k:xF R) (h:aQ R size (cZ B u) A l) (e:Agr B u v):aQ R size v A l:=by
 obtain ⟨a,m,g,n,i⟩:=h;exact ⟨a,fA m e,g,n,fun j x o=>k (i j x o) e⟩
section
variable {P:Program} {ops:N9} {Q:Exit->Na->N6->Prop} {md:Region.Mode} {S:N6->Prop} {n:Nat}
def cn (P:Program) (md:Region.Mode) (ops:N9) (Q:Exit->Na->N6->Prop) (S:N6->Prop) (n:Nat):Nat->Array Bool->Na->N6->Prop
 | 0,listed,a,w=>Region.ready md ops listed=[]/\Q .normal a w
 | fuel+1,listed,a,w=>
  (Region.ready md ops listed=[]->Q .normal a w)/\
  ∀i∈Region.ready md ops listed,wpOp P ops Q i (fun e w'=>((listed.setIfInBounds i true).getD n true=false->S w')/\cn P md ops Q S n fuel (listed.setIfInBounds i true) e w') a w
theorem jC:∀(e:Nat) (g:Array Bool) (a:Na) (w:N6),cn P md ops Q S n e g a w->wpAny P md ops Q e g a w
 | 0,_,_,_,h=>h
 | e+1,_,_,_,h=>⟨h.1,fun i l=>wpOp_mono (fun k w' j=>jC e _ k w' j.2) (h.2 i l)⟩
theorem tg {a:Array Bool} {i j:Nat} (v:Region.waitsFor md ops n i=true) (u:i∈Region.ready md ops a) (q:j∈Region.ready md ops a):j≠n:=fun l=>by
 subst l;obtain ⟨_,A,k,g⟩:=mem_ready.1 q;obtain ⟨y,m,e,p,x,h⟩:=Region.waitsFor_spec v;have:y=A:=Option.some.inj (m.symm.trans k);subst this;have o:=g e p x;rw [h,getD_both (mem_ready.1 u).1] at o
 cases o
theorem lK {i:Nat} {B:Oper} {v:Value} (hB:Region.waitsFor md ops n i=true) (Y:i≠n) (W:ops[i]?=some B) (y:∀(j:Nat) (o:Oper) F b,ops[j]?=some o->o.op≠.select F b) (hQ:∀c a w,Q (.panic c) (a.put B.dst v) w->Q (.panic c) a w):
  ∀(m:Nat) (g:Array Bool) (a:Na) (w:N6),
   (∀j C,ops[j]?=some C->j≠i->g.getD j true=false->(∀e∈C.after,Region.binds md e=true->e.on≠i)->B.apart ops C=true)->
   i∈Region.ready md ops g->YieldsIf P ops S B v a->g.getD n true=false->S w->
   cn P md ops Q S n m (g.setIfInBounds i true) (a.put B.dst v) w->cn P md ops Q S n (m+1) g a w:=by
 intro m
 induction m with
 | zero=>
  intro g a w _ hr O X M H;refine ⟨fun h=>(by rw [h] at hr;cases hr),fun j L=>?_⟩;by_cases l:j=i
  ·subst l;exact O.wpOp W M ⟨fun _=>M,H⟩
  ·have:=ready_mono L l;rw [H.1] at this
   cases this
 | succ m ih=>
  intro g a w q hr O X M H;refine ⟨fun h=>(by rw [h] at hr;cases hr),fun j L=>?_⟩;by_cases l:j=i
  ·subst l;exact O.wpOp W M ⟨fun _=>M,H⟩
  ·have N:=H.2 j (ready_mono L l);have G:=tg hB hr L
   have p:(g.setIfInBounds j true).getD n true=false->((g.setIfInBounds i true).setIfInBounds j true).getD n true=false:=fun h=>by
    rw [Array.setIfInBounds_comm _ _ (Ne.symm l),getD_set_ne true Y];exact h
   obtain ⟨x,C,A,K⟩:=mem_ready.1 L
   have E:∀e∈C.after,Region.binds md e=true->e.on≠i:=fun e he hb V=>by
    have N:=K e he hb;rw [V,getD_both (mem_ready.1 hr).1] at N
    cases N
   have Z:=wpOp_putIf A (q j C A l x E) (fun F b=>y i B F b W) (fun F b=>y j C F b A) hQ O N
   have u:∀k I,ops[k]?=some I->k≠i->(g.setIfInBounds j true).getD k true=false->
     (∀e∈I.after,Region.binds md e=true->e.on≠i)->B.apart ops I=true:=fun k I hk U J T=>by
    refine q k I hk U ?_ T;by_cases D:j=k
    ·subst D;exact x
    ·rw [getD_set_ne true D] at J;exact J
   refine wpOp_mono (fun a' w' R=>⟨(fun h=>R.2.1 (p h)),ih (g.setIfInBounds j true) a' w' u (ready_mono hr (Ne.symm l)) R.1 (by rw [getD_set_ne true G];exact X) (R.2.1 (p (by rw [getD_set_ne true G];exact X))) ?_⟩) Z;rw [Array.setIfInBounds_comm _ _ l];exact R.2.2
theorem kr {i:Nat} {C:Oper} {v:Value} (W:i≠n) (V:ops[i]?=some C) (A:∀(j:Nat) (o:Oper) G b,ops[j]?=some o->o.op≠.select G b) (hQ:∀c a w,Q (.panic c) (a.put C.dst v) w->Q (.panic c) a w):
  ∀(m:Nat) (g:Array Bool) (a:Na) (w:N6),
   (∀j D,ops[j]?=some D->j≠i->g.getD j true=false->(∀e∈D.after,Region.binds md e=true->e.on≠i)->C.apart ops D=true)->
   i∈Region.ready md ops g->YieldsIf P ops (fun _=>True) C v a->(g.getD n true=false->S w)->
   cn P md ops Q S n m (g.setIfInBounds i true) (a.put C.dst v) w->cn P md ops Q S n (m+1) g a w:=by
 intro m
 induction m with
 | zero=>
  intro g a w _ hr M X H;refine ⟨fun h=>(by rw [h] at hr;cases hr),fun j O=>?_⟩;by_cases l:j=i
  ·subst l;exact M.wpOp V trivial ⟨fun h=>X (by
    by_cases u:j=n
    ·subst u;exact (mem_ready.1 hr).1
    ·rwa [getD_set_ne true u] at h),H⟩
  ·have:=ready_mono O l;rw [H.1] at this
   cases this
 | succ m ih=>
  intro g a w q hr M X H;refine ⟨fun h=>(by rw [h] at hr;cases hr),fun j O=>?_⟩;by_cases l:j=i
  ·subst l;exact M.wpOp V trivial ⟨fun h=>X (by
    by_cases u:j=n
    ·subst u;exact (mem_ready.1 hr).1
    ·rwa [getD_set_ne true u] at h),H⟩
  ·have L:=H.2 j (ready_mono O l)
   have p:(g.setIfInBounds j true).getD n true=false->((g.setIfInBounds i true).setIfInBounds j true).getD n true=false:=fun h=>by
    rw [Array.setIfInBounds_comm _ _ (Ne.symm l),getD_set_ne true W];exact h
   obtain ⟨y,D,B,K⟩:=mem_ready.1 O
   have F:∀e∈D.after,Region.binds md e=true->e.on≠i:=fun e he Z U=>by
    have L:=K e he Z;rw [U,getD_both (mem_ready.1 hr).1] at L
    cases L
   have Y:=wpOp_putIf B (q j D B l y F) (fun G b=>A i C G b V) (fun G b=>A j D G b B) hQ M L
   have x:∀k I,ops[k]?=some I->k≠i->(g.setIfInBounds j true).getD k true=false->
     (∀e∈I.after,Region.binds md e=true->e.on≠i)->C.apart ops I=true:=fun k I hk T J R=>by
    refine q k I hk T ?_ R;by_cases E:j=k
    ·subst E;exact y
    ·rw [getD_set_ne true E] at J;exact J
   refine wpOp_mono (fun a' w' N=>⟨(fun h=>N.2.1 (p h)),ih (g.setIfInBounds j true) a' w' x (ready_mono hr (Ne.symm l)) N.1 (fun h=>N.2.1 (p h)) ?_⟩) Y;rw [Array.setIfInBounds_comm _ _ l];exact N.2.2
theorem je {i:Nat} {j:Oper} {v:Value} {g:Nat} {e:Array Bool} {a:Na} {w:N6} (l:ops[i]?=some j) (q:Region.waitsFor md ops n i=true) (k:i≠n) (y:e.getD n true=false) (u:Region.noSelect ops=true) (m:Region.free md ops e i=true) (hr:(Region.ready md ops e).contains i=true) (x:∀c a w,Q (.panic c) (a.put j.dst v) w->Q (.panic c) a w) (o:YieldsIf P ops S j v a) (p:S w) (h:cn P md ops Q S n g (e.setIfInBounds i true) (a.put j.dst v) w):cn P md ops Q S n (g+1) e a w:=
 lK q k l (Region.noSelect_spec u) x g e a w (Region.free_spec l m) (by simpa using hr) o y p h
theorem io {i:Nat} {j:Oper} {v:Value} {g:Nat} {e:Array Bool} {a:Na} {w:N6} (l:ops[i]?=some j) (k:i≠n) (u:Region.noSelect ops=true) (m:Region.free md ops e i=true) (hr:(Region.ready md ops e).contains i=true) (o:∀c a w,Q (.panic c) (a.put j.dst v) w->Q (.panic c) a w) (p:YieldsIf P ops (fun _=>True) j v a) (q:S w) (h:cn P md ops Q S n g (e.setIfInBounds i true) (a.put j.dst v) w):cn P md ops Q S n (g+1) e a w:=
 kr k l (Region.noSelect_spec u) o g e a w (Region.free_spec l m) (by simpa using hr) p (fun _=>q) h
theorem wX {k:Oper} {v:Value} {j:Nat} {e:Array Bool} {a:Na} {w:N6} (i:Nat) (q:S w) (h:cn P .any ops Q S n j (e.setIfInBounds i true) (a.put k.dst v) w) (u:ops[i]?=some k:=by rfl) (hB:Region.waitsFor .any ops n i=true:=by kernel_rfl) (hni:i≠n:=by decide) (hn:e.getD n true=false:=by kernel_rfl) (hs:Region.noSelect ops=true:=by kernel_rfl) (hf:Region.free .any ops e i=true:=by kernel_rfl) (hr:(Region.ready .any ops e).contains i=true:=by kernel_rfl) (hQ:∀c a w,Q (.panic c) (a.put k.dst v) w->Q (.panic c) a w:=by exact fun _ _ _ h=>h) (hy:YieldsIf P ops S k v a:=by (refine Or.inl ⟨by rfl,?_⟩;intro x g;(try dsimp only at g);(first | obtain ⟨m,l,o,p,y⟩:=g | obtain ⟨m,l,o,p⟩:=g | obtain ⟨m,l,o⟩:=g | obtain ⟨m,l⟩:=g | skip);go_simp;(try with_reducible rfl))):cn P .any ops Q S n (j+1) e a w:=je u hB hni hn hs hf hr hQ hy q h
theorem wX0 {j:Oper} {v:Value} {g:Nat} {e:Array Bool} {a:Na} {w:N6} (i:Nat) (k:S w) (h:cn P .any ops Q S n g (e.setIfInBounds i true) (a.put j.dst v) w) (l:ops[i]?=some j:=by rfl) (hni:i≠n:=by decide) (hs:Region.noSelect ops=true:=by kernel_rfl) (hf:Region.free .any ops e i=true:=by kernel_rfl) (hr:(Region.ready .any ops e).contains i=true:=by kernel_rfl) (hQ:∀c a w,Q (.panic c) (a.put j.dst v) w->Q (.panic c) a w:=by exact fun _ _ _ h=>h) (hy:YieldsIf P ops (fun _=>True) j v a:=by (refine Or.inl ⟨by rfl,?_⟩;intro m _;go_simp;(try with_reducible rfl))):cn P .any ops Q S n (g+1) e a w:=io l hni hs hf hr hQ hy k h
def aC (P:Program) (md:Region.Mode) (ops:N9) (Q:Exit->Na->N6->Prop) (S:N6->Prop) (n:Nat) (g:Nat) (e:Array Bool) (a:Na) (w:N6) (rs:List Nat):Prop:=
 ∀i∈rs,wpOp P ops Q i (fun h w'=>((e.setIfInBounds i true).getD n true=false->S w')/\cn P md ops Q S n g (e.setIfInBounds i true) h w') a w
theorem aC.nil {g:Nat} {e:Array Bool} {a:Na} {w:N6}:aC P md ops Q S n g e a w []:=fun _ h=>by cases h
theorem aC.cons {g:Nat} {e:Array Bool} {a:Na} {w:N6} {i:Nat} {o:Oper} {rs:List Nat} (q:ops[i]?=some o) (h:∀k:Na->N6->Prop,Shut (∀a w,S w->(S w->cn P md ops Q S n g (e.setIfInBounds i true) a w)->k a w)->if Region.wanted o (yielded ops a.tmps)=true then Oper.wp P o a w k Q else k (a.put o.dst undef) w) (v:aC P md ops Q S n g e a w rs):aC P md ops Q S n g e a w (i::rs):=fun j l=>by
 rcases List.mem_cons.1 l with rfl | l
 ·exact wpOp_step q (fun k u=>h k (fun a w m p=>u a w ⟨fun _=>m,p m⟩))
 ·exact v j l
theorem aU {rs:List Nat} {g:Nat} {e:Array Bool} {a:Na} {w:N6} (hr:Region.ready md ops e=rs) (i:rs≠[]) (h:aC P md ops Q S n g e a w rs):cn P md ops Q S n (g+1) e a w:=⟨fun j=>absurd (hr▸j) i,hr▸h⟩
theorem jD:∀(l:List Oper) (k:Nat) (e:Array Bool) (a:Na) (w:N6),(k≠n->e.getD n true=true)->(∀j,l[j]?=ops[k+j]?)->
  Region.seqB md ops l.length k e=true->wpList P ops Q l a w->cn P md ops Q S n l.length e a w
 | [],_,_,_,_,_,_,hB,h=>⟨by simpa [Region.seqB] using hB,h⟩
 | o::l,k,e,a,w,hk,hl,hB,h=>by
  have y:ops[k]?=some o:=by simpa using (hl 0).symm
  simp only [List.length_cons,Region.seqB,Bool.and_eq_true,yV] at hB
  have g:(e.setIfInBounds k true).getD n true=true:=by
   by_cases m:k=n
   ·subst m;rcases yl k e.size with p | p
    ·simp [p]
    ·simp [Nat.not_lt.2 p]
   ·rw [getD_set_ne true m];exact hk m
  refine ⟨fun u=>(by rw [hB.1] at u;cases u),fun i v=>?_⟩;rw [hB.1] at v;have q:i=k:=by simpa using v
  subst q;have hw:wpOp P ops Q i (wpList P ops Q l) a w:=by unfold wpOp;simp only [y];exact h
  exact wpOp_mono (fun x w' p=>⟨fun h=>(by rw [g] at h;cases h),jD l (i+1) _ x w' (fun _=>g) (fun j=>by have:=hl (j+1);simpa [yQ,Nat.add_comm 1 j] using this) hB.2 p⟩) hw
theorem cF {l:List Oper} {g:Nat} {e:Array Bool} {a:Na} {w:N6} (i:g=(l.drop n).length) (k:Region.seqB md l.toArray (l.drop n).length n e=true) (h:wpList P l.toArray Q (l.drop n) a w):
  cn P md l.toArray Q S n g e a w:=by
 subst i;exact jD (l.drop n) n e a w (fun h=>absurd rfl h) (fun j=>by simp [List.getElem?_drop]) k h
theorem cN {t e:N7} {z:Value} {size g:Nat} (T:cE P t e z size g) {w:N6} {o:Oper} {l:N4} {a:Na} {K:Na->N6->Prop} {E:Prop} (s x:Operand) (i:o.guard=none) (p:o.op=.call {callee:=.builtin .append,args:=#[s,x],argTypes:=#[t,t]}) (base:Nat) (v:Value) (n:Nat) (xs:N5) (hs:a.eval s=v) (hown:w.ownsRow base e size v n xs) (A:N0) (m c:Nat) (us:N5) (hx:a.eval x=.slice A m c) (hr:Rd w A us) (hus:us.length=m*size) (h1:∀u∈us,u.oneCell'=true) (hb:(n+m)*g<=140737488355328) (h63:n+m<=maxLen) (hbase:base<=w.heap.size) (h:∀k j w',w'.ownsRow base e size (.slice k (n+m) j) (n+m) (xs++us)->Below base w w'->w.grownBy w' v.ownBlock->((Value.slice k (n+m) j).ownBlock=v.ownBlock\/(Value.slice k (n+m) j).ownBlock=some w.heap.size)->K (a.put o.dst (.slice k (n+m) j)) w'):
  if Region.wanted o (yielded ops l)=true then Oper.wp P o a w K Q else E:=by
 rw [if_pos (by simp [Region.wanted,i])];have:=sN (ops:=ops) (K:=K) (Q:=Q) (E:=E) T i s x p base v n xs hs hown A m c us hx hr hus h1 hb h63 hbase h
 rwa [if_pos (by simp [Region.wanted,i])] at this
theorem eL (n:Nat) (S:N6->Prop) {id:Nat} {a:Na} {w:N6} (hm:P.follows .mixedOrders=true) (h:cn P .any ops Q S n ops.size (Array.replicate ops.size false) a w.drew):(Code.region id ops true).wp P Q a w:=
 wp_region_any hm (jC _ _ _ _ h)
end
end Go.Proofs.YthamijnggdjaoaaGreat
namespace Go.Proofs.YthamijnggdjaoaaGreat
open Tryz
section
variable {P:Program} {ops:N9} {Q:Exit->Na->N6->Prop} {S:N6->Prop} {n:Nat}
def unl (l:Array Bool):Nat:=l.toList.count false
theorem uY {l:Array Bool} {i:Nat} (h:l.getD i true=false):unl l=unl (l.setIfInBounds i true)+1:=by
 have e:i<l.size:=by
  rcases yl i l.size with a | a
  ·exact a
  ·simp [Array.getElem?_eq_none a] at h
 have hl:l.toList[i]'(by simpa using e)=false:=by simpa [e] using h
 have g:List.count false (l.toList.set i true)=List.count false l.toList-1:=by
  rw [List.count_set (by simpa using e)];simp [hl]
 have j:0<List.count false l.toList:=List.count_pos_iff.2 (by rw [<-hl];exact List.getElem_mem _);unfold unl;rw [Array.toList_setIfInBounds,g];omega
def aO (m:Nat) (L:List Nat):Array Bool:=L.foldr (fun i l=>l.setIfInBounds i true) (Array.replicate m false)
theorem jn (m:Nat):∀L:List Nat,(aO m L).size=m
 | []=>by simp [aO]
 | a::L=>by simp only [aO,List.foldr_cons,Array.size_setIfInBounds];exact jn m L
theorem eA (m i:Nat) (d:Bool):∀L:List Nat,(aO m L).getD i d=if i<m then L.contains i else d
 | []=>by simp only [aO,List.foldr_nil,List.contains_nil];split<;>simp_all [Array.getElem?_replicate]
 | a::L=>by
  have g:=eA m i d L;have j:=jn m L
  show ((aO m L).setIfInBounds a true).getD i d=_
  by_cases h:i<m
  ·rw [if_pos h] at g ⊢;by_cases e:a=i
   ·subst e;simp [j,h]
   ·rw [getD_set_ne d e,g];simp [Ne.symm e]
  ·rw [if_neg h] at g ⊢;by_cases e:a=i
   ·subst e;simp [j,h]
   ·rw [getD_set_ne d e,g]
def bT (ops:N9) (L:List Nat):List Nat:= (List.range ops.size).filter fun i=> !L.contains i&&((ops[i]?).map (·.after.all fun e=> !Region.binds .any e||(L.contains e.on&&decide (e.on<ops.size)))).getD false
theorem cD (L:List Nat):Region.ready .any ops (aO ops.size L)=bT ops L:=by
 unfold Region.ready bT;refine List.filter_congr fun i a=>?_;rw [eA,if_pos (List.mem_range.1 a)]
 congr 3
 funext o
 congr 1
 funext e
 rw [eA];by_cases h:e.on<ops.size<;>simp [h]
def nJ (ops:N9) (L:List Nat) (i:Nat):Bool:=
 match ops[i]? with
 | none=>false
 | some oi=>(List.range ops.size).all fun j=>j==i||L.contains j||match ops[j]? with
   | some oj=>oj.after.any (fun e=>Region.binds .any e&&e.on==i)||oi.apart ops oj
   | none=>true
theorem j7 (L:List Nat) (i:Nat):Region.free .any ops (aO ops.size L) i=nJ ops L i:=by
 unfold Region.free nJ
 cases ops[i]? with
 | none=>rfl
 | some oi=>
  dsimp only;rw [Bool.eq_iff_iff,List.all_eq_true,List.all_eq_true];refine forall_congr' fun j=>forall_congr' fun a=>?_;rw [eA,if_pos (List.mem_range.1 a)];exact Iff.rfl
def qM (ops:N9):Nat->Nat->List Nat->Bool
 | 0,_,L=>(bT ops L).isEmpty
 | g+1,k,L=>decide (bT ops L=[k])&&qM ops g (k+1) (k::L)
theorem pO:∀(g k:Nat) (L:List Nat),Region.seqB .any ops g k (aO ops.size L)=qM ops g k L
 | 0,k,L=>by simp only [Region.seqB,qM,cD]
 | g+1,k,L=>by
  simp only [Region.seqB,qM,cD];rw [<-pO g (k+1) (k::L)];rfl
inductive Ys (P:Program) (ops:N9) (S:N6->Prop):List Nat->Na->Na->Prop
 | nil {a:Na}:Ys P ops S [] a a
 | cons {i:Nat} {is:List Nat} {o:Oper} {v:Value} {a a':Na} (ho:ops[i]?=some o) (hy:YieldsIf P ops S o v a) (ht:Ys P ops S is (a.put o.dst v) a'):Ys P ops S (i::is) a a'
def jI (ops:N9):List Nat->List Nat->Bool
 | _,[]=>true
 | L,i::is=>(nJ ops L i&&(bT ops L).contains i)&&jI ops (i::L) is
def lM (ops:N9) (n:Nat):List Nat->List Nat->Bool
 | _,[]=>true
 | L,i::is=>(Region.waitsFor .any ops n i&&decide (i≠n)&&(decide (n<ops.size)&& !L.contains n)&&nJ ops L i&&(bT ops L).contains i)&&lM ops n (i::L) is
structure HA (P:Program) (ops:N9) (Q:Exit->Na->N6->Prop) (S:N6->Prop) (L:List Nat) (a:Na) (w:N6):Prop where
 out:wpAnyH P .any ops Q S (unl (aO ops.size L)) (aO ops.size L) a w
structure XA (P:Program) (ops:N9) (Q:Exit->Na->N6->Prop) (S:N6->Prop) (n:Nat) (L:List Nat) (a:Na) (w:N6):Prop where
 out:cn P .any ops Q S n (unl (aO ops.size L)) (aO ops.size L) a w
theorem jF (m:Nat):unl (aO m [])=m:=by simp [unl,aO,List.count_replicate]
theorem HA.go {id:Nat} {a:Na} {w:N6} (S:N6->Prop) (hm:P.follows .mixedOrders=true) (h:HA P ops Q S [] a w.drew):(Code.region id ops true).wp P Q a w:=by
 refine wp_region_held (S:=S) hm ?_;have e:=h.out;rw [jF] at e;exact e
theorem XA.go {id:Nat} {a:Na} {w:N6} (n:Nat) (S:N6->Prop) (hm:P.follows .mixedOrders=true) (h:XA P ops Q S n [] a w.drew):(Code.region id ops true).wp P Q a w:=by
 refine eL n S hm ?_;have e:=h.out;rw [jF] at e;exact e
theorem bW {L:List Nat} {i:Nat} (h:(bT ops L).contains i=true):unl (aO ops.size L)=unl (aO ops.size (i::L))+1:=
 uY (mem_ready.1 (show i∈Region.ready .any ops (aO ops.size L) by rw [cD];simpa using h)).1
theorem HA.takes (k:Region.noSelect ops=true) (l:∀c a w d v,Q (.panic c) (Act.put a d v) w->Q (.panic c) a w) {w:N6} (j:S w):
  ∀(e:List Nat) {L:List Nat} {a g:Na},jI ops L e=true->Ys P ops S e a g->HA P ops Q S (e.reverse++L) g w->HA P ops Q S L a w
 | [],_,_,_,_,.nil,h=>h
 | i::e,L,a,g,hc,.cons ho hy ht,h=>by
  simp only [jI,Bool.and_eq_true] at hc;have m:=HA.takes k l j e (L:=i::L) hc.2 ht (by simpa using h);refine ⟨?_⟩;rw [bW hc.1.2];exact wpAnyH_take ho k (by rw [j7];exact hc.1.1) (by rw [cD];exact hc.1.2) (fun c a w=>l c a w _ _) hy j m.out
theorem XA.takes (k:Region.noSelect ops=true) (l:∀c a w d v,Q (.panic c) (Act.put a d v) w->Q (.panic c) a w) {w:N6} (j:S w):
  ∀(e:List Nat) {L:List Nat} {a g:Na},lM ops n L e=true->Ys P ops S e a g->XA P ops Q S n (e.reverse++L) g w->XA P ops Q S n L a w
 | [],_,_,_,_,.nil,h=>h
 | i::e,L,a,g,hc,.cons ho hy ht,h=>by
  simp only [lM,Bool.and_eq_true,yV,Bool.not_eq_true'] at hc;have m:=XA.takes k l j e (L:=i::L) hc.2 ht (by simpa using h);refine ⟨?_⟩;rw [bW hc.1.2];exact je ho hc.1.1.1.1.1 hc.1.1.1.1.2 (by rw [eA,if_pos hc.1.1.1.2.1,hc.1.1.1.2.2]) k (by rw [j7];exact hc.1.1.2) (by rw [cD];exact hc.1.2) (fun c a w=>l c a w _ _) hy j m.out
def wH (ops:N9) (n:Nat):List Nat->List Nat->Bool
 | _,[]=>true
 | L,i::is=>(decide (i≠n)&&nJ ops L i&&(bT ops L).contains i)&&wH ops n (i::L) is
theorem XA.takes0 (l:Region.noSelect ops=true) (j:∀c a w d v,Q (.panic c) (Act.put a d v) w->Q (.panic c) a w) {w:N6} (k:S w):
  ∀(e:List Nat) {L:List Nat} {a g:Na},wH ops n L e=true->Ys P ops (fun _=>True) e a g->XA P ops Q S n (e.reverse++L) g w->XA P ops Q S n L a w
 | [],_,_,_,_,.nil,h=>h
 | i::e,L,a,g,hc,.cons ho hy ht,h=>by
  simp only [wH,Bool.and_eq_true,yV] at hc;have m:=XA.takes0 l j k e (L:=i::L) hc.2 ht (by simpa using h);refine ⟨?_⟩;rw [bW hc.1.2];exact io ho hc.1.1.1 l (by rw [j7];exact hc.1.1.2) (by rw [cD];exact hc.1.2) (fun c a w=>j c a w _ _) hy k m.out
theorem kM {L:List Nat} {i:Nat} (hr:bT ops L=[i]):unl (aO ops.size L)=unl (aO ops.size (i::L))+1:=
 bW (by rw [hr];simp)
theorem HA.one {L:List Nat} {a:Na} {w:N6} (i:Nat) {o:Oper} (j:ops[i]?=some o) (hr:bT ops L=[i]) (h:∀e:Na->N6->Prop,Shut (∀a w,S w->(S w->HA P ops Q S (i::L) a w)->e a w)->if Region.wanted o (yielded ops a.tmps)=true then Oper.wp P o a w e Q else e (a.put o.dst undef) w):HA P ops Q S L a w:=by
 refine ⟨?_⟩;rw [kM hr];exact wpAnyH_ready (by rw [cD];exact hr) (by simp) (AllReadyH.cons j (fun e l=>h e fun a w k hw=>l.out a w k fun g=>(hw g).out) AllReadyH.nil)
theorem XA.one {L:List Nat} {a:Na} {w:N6} (i:Nat) {o:Oper} (j:ops[i]?=some o) (hr:bT ops L=[i]) (h:∀e:Na->N6->Prop,Shut (∀a w,S w->(S w->XA P ops Q S n (i::L) a w)->e a w)->if Region.wanted o (yielded ops a.tmps)=true then Oper.wp P o a w e Q else e (a.put o.dst undef) w):XA P ops Q S n L a w:=by
 refine ⟨?_⟩;rw [kM hr];exact aU (by rw [cD];exact hr) (by simp) (aC.cons j (fun e l=>h e fun a w k hw=>l.out a w k fun g=>(hw g).out) aC.nil)
theorem HA.call {L:List Nat} {a:Na} {w:N6} (i:Nat) {f:FuncId} {args:N4} {R:Ending->N6->Prop} (hc:Calls P f args w R) {o:Oper} (g:ops[i]?=some o) (hr:bT ops L=[i]) (hw:Region.wanted o (yielded ops a.tmps)=true) (j:(execOp a.eval o).run P w=.ok (.enter f args) w) (k:∀e w',R e w'->∃v,e=.returned v/\S w'/\(S w'->HA P ops Q S (i::L) (a.put o.dst v) w')):HA P ops Q S L a w:=by
 refine HA.one i g hr fun p n=>?_;rw [if_pos hw];unfold Oper.wp;rw [j];refine hc.mono fun e w' l=>?_;obtain ⟨v,rfl,m,h⟩:=k e w' l;exact n.out _ _ m h
theorem XA.call {L:List Nat} {a:Na} {w:N6} (i:Nat) {f:FuncId} {args:N4} {R:Ending->N6->Prop} (hc:Calls P f args w R) {o:Oper} (g:ops[i]?=some o) (hr:bT ops L=[i]) (hw:Region.wanted o (yielded ops a.tmps)=true) (j:(execOp a.eval o).run P w=.ok (.enter f args) w) (k:∀e w',R e w'->∃v,e=.returned v/\S w'/\(S w'->XA P ops Q S n (i::L) (a.put o.dst v) w')):XA P ops Q S n L a w:=by
 refine XA.one i g hr fun q p=>?_;rw [if_pos hw];unfold Oper.wp;rw [j];refine hc.mono fun e w' l=>?_;obtain ⟨v,rfl,m,h⟩:=k e w' l;exact p.out _ _ m h
theorem XA.tail {l:List Oper} {L:List Nat} {a:Na} {w:N6} (e:unl (aO l.toArray.size L)=(l.drop n).length) (g:qM l.toArray (l.drop n).length n L=true) (h:wpList P l.toArray Q (l.drop n) a w):
  XA P l.toArray Q S n L a w:=by
 refine ⟨?_⟩;exact cF e (by rw [pO];exact g) h
theorem HA.g {id:Nat} {a:Na} {w:N6} (S:N6->Prop) (h:HA P ops Q S [] a w.drew) (hm:P.follows .mixedOrders=true:=by decide +kernel):(Code.region id ops true).wp P Q a w:=HA.go S hm h
theorem XA.g {id:Nat} {a:Na} {w:N6} (n:Nat) (S:N6->Prop) (h:XA P ops Q S n [] a w.drew) (hm:P.follows .mixedOrders=true:=by decide +kernel):(Code.region id ops true).wp P Q a w:=XA.go n S hm h
theorem HA.t (i:Na) (g:List Nat) {L:List Nat} {a:Na} {w:N6} (j:S w) (h:HA P ops Q S (g.reverse++L) i w) (k:Region.noSelect ops=true:=by decide +kernel) (hQ:∀c a w d v,Q (.panic c) (Act.put a d v) w->Q (.panic c) a w:=by (intro _ _ _ d _ h;cases d<;>exact h)) (hc:jI ops L g=true:=by decide +kernel) (hy:Ys P ops S g a i:=by (try simp only [yn,yo,yp,Act.put,yq,yr,yt]);(repeat ((first | (refine Ys.cons (v:=?_) (by (simp only [yu,yw,yx];rfl)) (Or.inl ⟨by rfl,?_⟩) ?_;rotate_left;(· (intro l e;(try dsimp only at e);(try (have m:=em e.1));go_simp;(try with_reducible rfl)))) | refine Ys.cons (v:=undef) (by (simp only [yu,yw,yx];rfl)) (Or.inr ⟨by rfl,rfl⟩) ?_);simp only [yn,yo,yp,Act.put,yq,yr,yt]));exact Ys.nil):HA P ops Q S L a w:=HA.takes k hQ j g hc hy h
theorem XA.t (i:Na) (g:List Nat) {L:List Nat} {a:Na} {w:N6} (j:S w) (h:XA P ops Q S n (g.reverse++L) i w) (k:Region.noSelect ops=true:=by decide +kernel) (hQ:∀c a w d v,Q (.panic c) (Act.put a d v) w->Q (.panic c) a w:=by (intro _ _ _ d _ h;cases d<;>exact h)) (hc:lM ops n L g=true:=by decide +kernel) (hy:Ys P ops S g a i:=by (try simp only [yn,yo,yp,Act.put,yq,yr,yt]);(repeat ((first | (refine Ys.cons (v:=?_) (by (simp only [yu,yw,yx];rfl)) (Or.inl ⟨by rfl,?_⟩) ?_;rotate_left;(· (intro l e;(try dsimp only at e);(try (have m:=em e.1));go_simp;(try with_reducible rfl)))) | refine Ys.cons (v:=undef) (by (simp only [yu,yw,yx];rfl)) (Or.inr ⟨by rfl,rfl⟩) ?_);simp only [yn,yo,yp,Act.put,yq,yr,yt]));exact Ys.nil):XA P ops Q S n L a w:=XA.takes k hQ j g hc hy h
theorem XA.t0 (g:Na) (e:List Nat) {L:List Nat} {a:Na} {w:N6} (i:S w) (h:XA P ops Q S n (e.reverse++L) g w) (j:Region.noSelect ops=true:=by decide +kernel) (hQ:∀c a w d v,Q (.panic c) (Act.put a d v) w->Q (.panic c) a w:=by (intro _ _ _ d _ h;cases d<;>exact h)) (hc:wH ops n L e=true:=by decide +kernel) (hy:Ys P ops (fun _=>True) e a g:=by (try simp only [yn,yo,yp,Act.put,yq,yr,yt]);(repeat ((first | (refine Ys.cons (v:=?_) (by (simp only [yu,yw,yx];rfl)) (Or.inl ⟨by rfl,?_⟩) ?_;rotate_left;(· (intro k _;go_simp;(try with_reducible rfl)))) | refine Ys.cons (v:=undef) (by (simp only [yu,yw,yx];rfl)) (Or.inr ⟨by rfl,rfl⟩) ?_);simp only [yn,yo,yp,Act.put,yq,yr,yt]));exact Ys.nil):XA P ops Q S n L a w:=XA.takes0 j hQ i e hc hy h
theorem HA.c {L:List Nat} {a:Na} {w:N6} (i:Nat) {f:FuncId} {args:N4} {R:Ending->N6->Prop} {o:Oper} (hc:Calls P f args w R) (k:∀e w',R e w'->∃v,e=.returned v/\S w'/\(S w'->HA P ops Q S (i::L) (a.put o.dst v) w')) (g:ops[i]?=some o:=by (simp only [yu,yw,yx];rfl)) (hr:bT ops L=[i]:=by decide +kernel) (hw:Region.wanted o (yielded ops a.tmps)=true:=by rfl) (he:(execOp a.eval o).run P w=.ok (.enter f args) w:=by go_simp):HA P ops Q S L a w:=HA.call i hc g hr hw he k
theorem XA.c {L:List Nat} {a:Na} {w:N6} (i:Nat) {f:FuncId} {args:N4} {R:Ending->N6->Prop} {o:Oper} (hc:Calls P f args w R) (k:∀e w',R e w'->∃v,e=.returned v/\S w'/\(S w'->XA P ops Q S n (i::L) (a.put o.dst v) w')) (g:ops[i]?=some o:=by (simp only [yu,yw,yx];rfl)) (hr:bT ops L=[i]:=by decide +kernel) (hw:Region.wanted o (yielded ops a.tmps)=true:=by rfl) (he:(execOp a.eval o).run P w=.ok (.enter f args) w:=by go_simp):XA P ops Q S n L a w:=XA.call i hc g hr hw he k
theorem HA.d {L:List Nat} {a:Na} {w:N6} (h:Q .normal a w) (hr:bT ops L=[]:=by decide +kernel):HA P ops Q S L a w:=⟨wpAnyH_done (by rw [cD];exact hr) h _⟩
theorem XA.e {l:List Oper} {L:List Nat} {a:Na} {w:N6} (h:wpList P l.toArray Q (l.drop n) a w) (g:unl (aO l.toArray.size L)=(l.drop n).length:=by rfl) (hB:qM l.toArray (l.drop n).length n L=true:=by decide +kernel):
  XA P l.toArray Q S n L a w:=XA.tail g hB h
theorem HA.o {L:List Nat} {a:Na} {w:N6} {o:Oper} (i:Nat) (h:∀e:Na->N6->Prop,Shut (∀a w,S w->(S w->HA P ops Q S (i::L) a w)->e a w)->if Region.wanted o (yielded ops a.tmps)=true then Oper.wp P o a w e Q else e (a.put o.dst undef) w) (g:ops[i]?=some o:=by (simp only [yu,yw,yx];rfl)) (hr:bT ops L=[i]:=by decide +kernel):HA P ops Q S L a w:=HA.one i g hr h
theorem XA.o {L:List Nat} {a:Na} {w:N6} {o:Oper} (i:Nat) (h:∀e:Na->N6->Prop,Shut (∀a w,S w->(S w->XA P ops Q S n (i::L) a w)->e a w)->if Region.wanted o (yielded ops a.tmps)=true then Oper.wp P o a w e Q else e (a.put o.dst undef) w) (g:ops[i]?=some o:=by (simp only [yu,yw,yx];rfl)) (hr:bT ops L=[i]:=by decide +kernel):XA P ops Q S n L a w:=XA.one i g hr h
theorem HA.s {L:List Nat} {a:Na} {w:N6} {o:Oper} (i:Nat) (w':N6) (g:S w') (k:HA P ops Q S (i::L) (a.put o.dst undef) w') (e:ops[i]?=some o:=by (simp only [yu,yw,yx];rfl)) (hr:bT ops L=[i]:=by decide +kernel) (hw:Region.wanted o (yielded ops a.tmps)=true:=by rfl) (he:(execOp a.eval o).run P w=.ok .skip w':=by go_simp):HA P ops Q S L a w:=by
 refine HA.one i e hr fun j h=>?_;rw [if_pos hw];unfold Oper.wp;rw [he];exact h.out _ _ g fun _=>k
theorem HA.v {L:List Nat} {a:Na} {w:N6} {o:Oper} (i:Nat) (w':N6) (v:Value) (g:S w') (k:HA P ops Q S (i::L) (a.put o.dst v) w') (e:ops[i]?=some o:=by (simp only [yu,yw,yx];rfl)) (hr:bT ops L=[i]:=by decide +kernel) (hw:Region.wanted o (yielded ops a.tmps)=true:=by rfl) (he:(execOp a.eval o).run P w=.ok (.value v) w':=by go_simp):HA P ops Q S L a w:=by
 refine HA.one i e hr fun j h=>?_;rw [if_pos hw];unfold Oper.wp;rw [he];exact h.out _ _ g fun _=>k
end
end Go.Proofs.YthamijnggdjaoaaGreat
namespace Go.Proofs.YthamijnggdjaoaaGreat
open Go.RowKit
open Tryz
def cP (a b q:Int):Int:=if q<0\/62<q then 0 else wrap64 (a*b/2^q.toNat)
def uw (x:Int):Int:=x%18446744073709551616
theorem jf (x:Int):0<=uw x/\uw x<18446744073709551616:=by unfold uw;omega
theorem dg (x:Int): -9223372036854775808<=wrap64 x/\wrap64 x<=9223372036854775807:=by unfold wrap64;omega
theorem iP (x:Int):wrap64 (uw x)=wrap64 x:=by unfold wrap64 uw;omega
theorem kv {x y:Int} (h:∃k:Int,x=y+k*18446744073709551616):wrap64 x=wrap64 y:=by
 obtain ⟨k,rfl⟩:=h;unfold wrap64;omega
theorem gh {x:Int} (a: -9223372036854775808<=x) (e:x<=9223372036854775807):wrap64 x=x:=by unfold wrap64;omega
def cH (a b:Int):Int:=a*b/18446744073709551616
def dz (a b:Int):Int:=uw (a*b)
theorem vl (a b:Int):cH a b*18446744073709551616+dz a b=a*b:=by unfold cH dz uw;omega
theorem tJ {a b:Int} (i: -9223372036854775808<=a/\a<=9223372036854775807) (j: -9223372036854775808<=b/\b<=9223372036854775807): -85070591730234615865843651857942052864<=a*b/\a*b<=85070591730234615865843651857942052864:=by
 have g:a.natAbs<=9223372036854775808:=am;have e:b.natAbs<=9223372036854775808:=am;have h:=Nat.mul_le_mul g e;rw [<-Int.natAbs_mul] at h;omega
theorem ep {a b:Int} (e: -9223372036854775808<=a/\a<=9223372036854775807) (g: -9223372036854775808<=b/\b<=9223372036854775807): -9223372036854775808<=cH a b/\cH a b<=9223372036854775807:=by
 have:=tJ e g;unfold cH;omega
theorem sU (a b:Int) (q:Nat) (i:q<=62):cH a b*2^(64-q)+dz a b/2^q=a*b/2^q:=by
 have e:(18446744073709551616:Int)=2^(64-q)*2^q:=by rw [<-Int.pow_add,show 64-q+q=64 by omega];rfl
 have g:(2:Int)^q≠0:=by have:=Int.pow_pos (n:=2) (m:=q) (by decide);omega
 have h:=vl a b;rw [<-h,e,<-Int.mul_assoc,Int.add_comm (cH a b*2^(64-q)*2^q),Int.add_mul_ediv_right _ _ g,Int.add_comm]
theorem gT (x y:Int):wrap64 (wrap64 x-y)=wrap64 (x-y):=by unfold wrap64;omega
theorem jB (x y:Int):wrap64 (wrap64 x+y)=wrap64 (x+y):=by unfold wrap64;omega
theorem kx (a b:Int) (k: -9223372036854775808<=a/\a<=9223372036854775807) (l: -9223372036854775808<=b/\b<=9223372036854775807):
  uw a*uw b=a*b+((if a<0 then b else 0)+(if b<0 then a else 0)+(if a<0/\b<0 then 18446744073709551616 else 0))*18446744073709551616:=by
 by_cases g:a<0
 ·have j:uw a=a+18446744073709551616:=by unfold uw;omega
  by_cases e:b<0
  ·have i:uw b=b+18446744073709551616:=by unfold uw;omega
   rw [j,i,if_pos g,if_pos e,if_pos ⟨g,e⟩,Int.add_mul,Int.mul_add];omega
  ·have i:uw b=b:=by unfold uw;omega
   rw [j,i,if_pos g,if_neg e,if_neg (fun h=>e h.2),Int.add_mul];omega
 ·have j:uw a=a:=by unfold uw;omega
  by_cases e:b<0
  ·have i:uw b=b+18446744073709551616:=by unfold uw;omega
   rw [j,i,if_neg g,if_pos e,if_neg (fun h=>g h.1),Int.mul_add];omega
  ·have i:uw b=b:=by unfold uw;omega
   rw [j,i,if_neg g,if_neg e,if_neg (fun h=>g h.1)];omega
theorem sm (a b:Int) (i: -9223372036854775808<=a/\a<=9223372036854775807) (j: -9223372036854775808<=b/\b<=9223372036854775807):
  wrap64 (uw a*uw b/18446744073709551616-(if a<0 then b else 0)-(if b<0 then a else 0))=cH a b:=by
 rw [kx a b i j,Int.add_mul_ediv_right _ _ (by decide)];have h:=ep i j;rw [<-gh h.1 h.2];refine kv ⟨if a<0/\b<0 then 1 else 0,?_⟩;unfold cH;by_cases g:a<0
 ·by_cases e:b<0
  ·simp only [g,e,if_true,and_self];omega
  ·simp only [g,e,if_true,if_false,and_false];omega
 ·by_cases e:b<0
  ·simp only [g,e,if_true,if_false,false_and];omega
  ·simp only [g,e,if_false,false_and];omega
theorem sk (a b:Int) (e: -9223372036854775808<=a/\a<=9223372036854775807) (g: -9223372036854775808<=b/\b<=9223372036854775807):uw (uw a*uw b)=dz a b:=by
 rw [kx a b e g];unfold dz uw;rw [Int.add_mul_emod_self_right]
theorem iQ (a:Int):∃X:Nat,uw a=X/\X<18446744073709551616:=⟨(uw a).toNat,by have:=jf a;omega,by have:=jf a;omega⟩
def W64 (l:N3):Prop:=∀k,k<l.length-> -9223372036854775808<=nth l k/\nth l k<=9223372036854775807
theorem p5 {l:N3} {k:Nat} (h:k<l.length):nth l k∈l:=by rw [cJ l k h];exact List.getElem_mem h
theorem eh (l:N3) (k:Nat) (v:Int) (j:Nat):nth (l.set k v) j=if j=k/\k<l.length then v else nth l j:=by
 unfold nth;simp only [List.getD_eq_getElem?_getD,List.getElem?_set];by_cases h:k=j
 ·subst h;by_cases a:k<l.length
  ·simp [a]
  ·simp [a,List.getElem?_eq_none (show l.length<=k by omega)]
 ·simp [h,Ne.symm h]
theorem fd {a b:N3} (hl:a.length=b.length) (h:∀k,k<a.length->nth a k=nth b k):a=b:=by
 refine List.ext_getElem hl fun k e g=>?_;rw [<-cJ a k e,<-cJ b k g];exact h k e
def bH (n:Nat) (f:Nat->Int):N3:=(List.range n).map f
theorem aG (n:Nat) (f:Nat->Int):(bH n f).length=n:=by simp [bH]
theorem aI {n k:Nat} (f:Nat->Int) (h:k<n):nth (bH n f) k=f k:=by rw [cJ _ _ (by rw [aG];exact h)];simp [bH]
theorem di (n:Nat) (f:Nat->Int):bH (n+1) f=bH n f++[f n]:=by simp [bH,yO]
theorem cY {n:Nat} {f:Nat->Int} (h:∀k,k<n-> -9223372036854775808<=f k/\f k<=9223372036854775807):W64 (bH n f):=fun k a=>by
 rw [aG] at a;rw [aI f a];exact h k a
theorem df {n:Nat} {f g:Nat->Int} (h:∀k,k<n->f k=g k):bH n f=bH n g:=by
 unfold bH;exact List.map_congr_left fun k a=>h k (List.mem_range.1 a)
theorem dB {l:N3} {n:Nat} {f:Nat->Int} (hl:l.length=n) (h:∀k,k<n->nth l k=f k):l=bH n f:=
 fd (by rw [aG,hl]) fun k a=>by rw [aI f am];exact h k am
def eU (l:N3) (k:Nat) (f:Nat->Int):N3:=bH l.length fun j=>if j<k then f j else nth l j
theorem iW (l:N3) (k:Nat) (f:Nat->Int):(eU l k f).length=l.length:=aG _ _
theorem dL (l:N3) (f:Nat->Int):eU l 0 f=l:=(dB rfl fun k _=>by rw [if_neg am]).symm
theorem dt {l:N3} {k:Nat} (f:Nat->Int) {j:Nat} (a:j<l.length):nth (eU l k f) j=if j<k then f j else nth l j:=aI _ a
theorem et {l:N3} {k:Nat} (f:Nat->Int) (h:k<l.length):(eU l k f).set k (f k)=eU l (k+1) f:=by
 refine fd (by simp [iW]) fun j a=>?_;rw [List.length_set,iW] at a;rw [eh,dt f a,dt f a,iW];by_cases e:j=k
 ·subst e;simp [h]
 ·by_cases g:j<k
  ·simp [e,g,show j<k+1 by omega]
  ·simp [e,g,show ¬j<k+1 by omega]
theorem eu (l:N3) (f:Nat->Int):eU l l.length f=bH l.length f:=by
 unfold eU;exact df fun k a=>by rw [if_pos a]
def ku (xs ys:N3) (q:Int):Nat->Int
 | 0=>0
 | k+1=>wrap64 (ku xs ys q k+cP (nth xs k) (nth ys k) q)
def ke (xs ys:N3) (q:Int):Int:=ku xs ys q xs.length
def iS (xs:N3) (a q:Int):N3:=bH xs.length fun k=>cP (nth xs k) a q
def eK (xs ys:N3):N3:=bH xs.length fun k=>wrap64 (nth xs k+nth ys k)
def szN (sz:N3) (k:Nat):Nat:=(nth sz k).toNat
def aF (sz:N3):Nat->Nat
 | 0=>0
 | k+1=>aF sz k+(szN sz k+1)*szN sz (k+1)
def bI (sz:N3) (k:Nat):Nat:=aF sz k+szN sz (k+1)*szN sz k
def aX (sz:N3):Prop:=(2<=sz.length/\sz.length<=16)/\∀k,k<sz.length->1<=nth sz k/\nth sz k<=1048576
def bn (sz:N3):Prop:=aX sz/\aF sz (sz.length-1)<=1048576
theorem aX.at {sz:N3} (h:aX sz) {k:Nat} (a:k<sz.length):1<=szN sz k/\szN sz k<=1048576/\nth sz k=(szN sz k:Int):=by
 have:=h.2 k a;unfold szN;omega
theorem cR (sz:N3) (k:Nat):bI sz k+szN sz (k+1)=aF sz (k+1):=by
 unfold bI;rw [aF,Nat.add_mul,Nat.one_mul,Nat.mul_comm (szN sz k)];omega
theorem aX.mul {sz:N3} (h:aX sz) {k:Nat} (e:k+1<sz.length):szN sz (k+1)*szN sz k<=1099511627776:=by
 have g:=h.at e;have a:=h.at (k:=k) am;exact Nat.mul_le_mul g.2.1 a.2.1
theorem aX.cnt {sz:N3} (h:aX sz):∀k,k<sz.length->aF sz k<=k*1099512676352:=by
 intro k
 induction k with
 | zero=>intro _;simp [aF]
 | succ k ih=>
  intro a;have i:=ih am;have g:=h.mul a;have j:=(h.at a).2.1;have e:=cR sz k;unfold bI at e;omega
theorem cW (sz:N3) {j k:Nat} (h:j<=k):aF sz j<=aF sz k:=by
 induction h with
 | refl=>exact x4 _
 | step _ ih=>rw [aF];omega
theorem aX.bound {sz:N3} (h:aX sz) {k:Nat} (a:k<sz.length):aF sz k<=17592202821632:=by
 have g:=h.cnt k a;have e:=h.1.2;have:k*1099512676352<=16*1099512676352:=yX _ am;omega
theorem bn.bound {sz:N3} (h:bn sz) {k:Nat} (a:k<sz.length):aF sz k<=1048576:=yd (cW sz am) h.2
theorem bn.mul {sz:N3} (h:bn sz) {k:Nat} (e:k+1<sz.length):szN sz (k+1)*szN sz k<=1048576:=by
 have g:=h.bound e;have a:=cR sz k;unfold bI at a;omega
def iq (sz:N3) (k:Nat):N5:=(List.range k).flatMap fun j=>[yY (aF sz j:Int),yY (bI sz j:Int)]
def iM (sz:N3) (k:Nat):N5:=(List.range k).flatMap fun j=>[yY (bI sz j:Int),yY (aF sz (j+1):Int)]
theorem gW (sz:N3) (k:Nat):iq sz (k+1)=iq sz k++[yY (aF sz k:Int),yY (bI sz k:Int)]:=by simp [iq,yO,List.flatMap_append]
theorem il (sz:N3) (k:Nat):iM sz (k+1)=iM sz k++[yY (bI sz k:Int),yY (aF sz (k+1):Int)]:=by simp [iM,yO,List.flatMap_append]
theorem fi (sz:N3) (k:Nat):(iq sz k).length=k*2:=by
 induction k with
 | zero=>rfl
 | succ k ih=>rw [gW,yA,ih];simp;omega
theorem fy (sz:N3) (k:Nat):(iM sz k).length=k*2:=by
 induction k with
 | zero=>rfl
 | succ k ih=>rw [il,yA,ih];simp;omega
theorem sr (sz:N3) {j n:Nat} (h:j<n):(iq sz n)[j*2]?=some (yY (aF sz j:Int))/\(iq sz n)[j*2+1]?=some (yY (bI sz j:Int)):=by
 induction n with
 | zero=>omega
 | succ n ih=>
  rw [gW];by_cases a:j<n
  ·have:=ih a;rw [yD (by rw [fi];omega),yD (by rw [fi];omega)];exact this
  ·obtain rfl:j=n:=am;rw [yE (by rw [fi];omega),yE (by rw [fi];omega),fi];simp
theorem uL (sz:N3) {j n:Nat} (h:j<n):(iM sz n)[j*2]?=some (yY (bI sz j:Int))/\(iM sz n)[j*2+1]?=some (yY (aF sz (j+1):Int)):=by
 induction n with
 | zero=>omega
 | succ n ih=>
  rw [il];by_cases a:j<n
  ·have:=ih a;rw [yD (by rw [fy];omega),yD (by rw [fy];omega)];exact this
  ·obtain rfl:j=n:=am;rw [yE (by rw [fy];omega),yE (by rw [fy];omega),fy];simp
def aR (T:N7) (w:N6) (b:Nat) (sz:N3):Prop:=∃a j g h e i,
 w.heap[b]?=some (.cells #[.slice a sz.length j,.slice g (sz.length-1) h,.slice e (sz.length-1) i,yY (aF sz (sz.length-1):Int)] T (0,0))/\
 Rd w a (au .i64 sz)/\Rd w g (iq sz (sz.length-1))/\Rd w e (iM sz (sz.length-1))
theorem aR.below {T:N7} {w w':N6} {b:Nat} {sz:N3} (h:aR T w b sz) (a:an w w'):aR T w' b sz:=by
 obtain ⟨i,p,k,g,j,m,e,n,l,o⟩:=h;exact ⟨i,p,k,g,j,m,(a.block b (xZ e)).trans e,n.below a,l.below a,o.below a⟩
theorem aR.lt {T:N7} {w:N6} {b:Nat} {sz:N3} (h:aR T w b sz):b<w.heap.size:=by
 obtain ⟨g,l,j,e,i,k,a,_⟩:=h;exact xZ a
theorem ar {W:N6} {b:Nat} {l:N4} {t e:N7} {n:Nat×Nat} (h:W.heap[b]?=some (.cells l t n)) (i:t≠e) {base size k:Nat} {v:Value} {xs:N5} (hr:W.ownsRow base e size v k xs):some b≠v.ownBlock:=by
 rcases hr.2 with ⟨rfl,_⟩ | ⟨g,cap,j,rfl,_,a,_⟩
 ·simp [Value.ownBlock]
 ·intro m;obtain rfl:b=g:=by simpa [Value.ownBlock] using m
  have:=h.symm.trans a;simp at this;exact i this.2.1
theorem bX {W i:N6} {b:Nat} {g:N4} {t e:N7} {j:Nat×Nat} {o:Obj} (h:W.heap[b]?=some (.cells g t j)) (a:t≠e) {base size k:Nat} {v:Value} {xs:N5} (hr:W.ownsRow base e size v k xs) (hg:(W.alloc o).grownBy i v.ownBlock):i.heap[b]?=some (.cells g t j):= (hg.block b (by have:=xZ h;simp;omega) (ar h a hr)).trans ((yj W o b (xZ h)).trans h)
theorem pw {W g:N6} {b o:Nat} {u:Value} {e:N7} {a:Obj} (h:W.cell? (ao b o)=some u) {base size k:Nat} {v:Value} {xs:N5} (j:b<base) (hr:W.ownsRow base e size v k xs) (hg:(W.alloc a).grownBy g v.ownBlock):g.cell? (ao b o)=some u:=
 hg.cell ((World.cell?_of_block (w:=W) (yj W a b (aw h))).trans h) (fun e=>by
  have i:v.ownBlock=some b:=e.symm;have:=(hr.lt b i).1
  omega)
theorem kQ {W p:N6} {base':Nat} {n:N7} {a m:Nat} {v j u:Value} {ys:N5} {o:Obj} (l:W.ownsRow base' n a u m ys) (h:∀i,v.ownBlock=some i->u.ownBlock≠some i) (hg:(W.alloc o).grownBy p v.ownBlock) (g:j.ownBlock=v.ownBlock\/j.ownBlock=some (W.alloc o).heap.size):p.ownsRow base' n a u m ys/\∀i,j.ownBlock=some i->u.ownBlock≠some i:=by
 refine ⟨(l.alloc o).kept hg ?_,fun i q=>?_⟩
 ·cases hub:u.ownBlock with
  | none=>exact .inl rfl
  | some k=>exact .inr fun e=>h k e.symm hub
 ·rcases g with g | g
  ·exact h i (g▸q)
  ·intro e;have x:=(l.lt i e).2;rw [q] at g;simp at g;omega
theorem ay {W:N6} {p:Addr} {u:Value} (h:W.cell? p=some u) (o:Obj):(W.alloc o).cell? p=some u:= (World.cell?_of_block (w:=W) (yj W o _ (aw h))).trans h
theorem aq {w w':N6} {p:Addr} {u:Value} (a:an w w') (h:w.cell? p=some u):w'.cell? p=some u:=(World.cell?_of_block (w:=w) (a.block _ (aw h))).trans h
theorem es {W:N6} {q B p m A v C D:Nat} {l n:Value} {h j:N5} (x:W.ownsRow q p A l C h) (u:W.ownsRow B m v n D j) (a:p≠m):∀i,l.ownBlock=some i->n.ownBlock≠some i:=by
 intro i o e;rcases x.2 with ⟨rfl,_⟩ | ⟨g,cap,y,rfl,_,k,_⟩
 ·cases o
 ·obtain rfl:g=i:=by simpa [Value.ownBlock] using o
  exact ar k a u e.symm
theorem ni {W h:N6} {g e a size n m:Nat} {v u y:Value} {xs ys:N5} {o:Obj} {base base' B j:Nat} {C:N4} {t:N7} (p:W.ownsRow base' g a u m ys) (x:W.ownsRow base e size v n xs) (hg:(W.alloc o).grownBy h v.ownBlock) (E:h.heap[B]?=some (.cells C t (0,0))) (D:e≠g) (A:t≠g):(h.setCell (ao B j) y).ownsRow base' g a u m ys:=by
 have q:h.ownsRow base' g a u m ys:=by
  refine (p.alloc o).kept hg ?_
  cases hub:u.ownBlock with
  | none=>exact .inl rfl
  | some k=>exact .inr fun l=>es x p D k l.symm hub
 exact (Keep.setCell (S:=fun i=>i=B) (Keep.refl _ h) (ao B j) (.inr rfl) y).own q (fun i F l=>ar E A q (by rw [F,l]))
theorem iH {W a:N6} {r:Option Nat} (h:W.drew.grownBy a r):W.grownBy a r:=⟨h.os,h.tape,h.output,h.size,h.block⟩
theorem vf (a b:Int) (w:N6):Sem.run prog (Instr.field 321 (.agg #[yY a,yY b]) 1) w=.ok (yY b) w:=by kernel_rfl
theorem pQ (a b:Int) (w:N6):Sem.run prog (Instr.field 321 (.agg #[yY a,yY b]) 0) w=.ok (yY a) w:=by kernel_rfl
theorem ey (A:N0) (sz:N3) (m c:Nat) (w:N6) (hA:Rd w A (au .i64 sz)) (I:aX sz) (U:1<=m) (hm:m<=sz.length):Calls prog 39 #[.slice A m c] w fun e w'=>e=.returned (yY (aF sz (m-1):Int))/\∃n,w'=w.drewN n:=by
 have W:m<=16:=by have:=I.1.2;omega
 obtain ⟨h,C,X⟩:=ae hA I hm;clear hA I hm;go_enter func39,ntmps39;go_wp2_with fail
 go_loopw [3,4] (fun v i wr=>∃k:Nat,k+1<=m/\i=yY k/\v=yY (aF sz k:Int)/\∃n,wr=w.drewN n) (fun _ i _=>m-(intOf i).toNat)
 ·exact ⟨0,U,rfl,rfl,0,rfl⟩
 case round=>
  obtain ⟨k,Y,rfl,rfl,n,rfl⟩:=hrel;by_cases S:k+1<m
  ·have hm:=X.o;have G:=C.o.at (k:=k) am;have x:=C.o.at (k:=k+1) am;obtain ⟨b,o,rfl,Q⟩:=h.o.num (show k<sz.length by omega);obtain ⟨_,_,B,P⟩:=h.o.num (show k+1<sz.length by omega);injection B with B;injection B with e1 e2 _;subst e1;subst e2
   have O:=C.o.bound (k:=k+1) am;rw [G.2.2] at Q;rw [x.2.2] at P;have hc:aF sz (k+1)=aF sz k+(szN sz k+1)*szN sz (k+1):=rfl;obtain ⟨a,R⟩:∃a,szN sz k=a:=⟨_,rfl⟩;obtain ⟨d,L⟩:∃d,szN sz (k+1)=d:=⟨_,rfl⟩;obtain ⟨N,F⟩:∃N,aF sz k=N:=⟨_,rfl⟩;obtain ⟨M,j⟩:∃M,aF sz (k+1)=M:=⟨_,rfl⟩;obtain ⟨p,D⟩:∃p,(a+1)*d=p:=⟨_,rfl⟩;rw [R] at Q G hc;rw [L] at P x hc;rw [F,j,D] at hc;rw [j] at O;rw [F];have T:=aa j;clear j F R L;have l:(k:Int)+1<m:=am;have K:(k:Int)<m:=am;have y:(0:Int)<=(k:Int)+1:=am;have H:((k:Int)+1).toNat=k+1:=am;have J:IntKind.i64.wrap ((k:Int)+1)=(k:Int)+1:=yc _ am;have E:IntKind.i64.wrap ((a:Int)+1)=(a:Int)+1:=yc _ am;have g:((a:Int)+1)*(d:Int)=(p:Int):=by rw [<-D];push_cast;rfl
   have u:IntKind.i64.wrap (((a:Int)+1)*(d:Int))=(p:Int):=by rw [g];exact yc _ am
   have q:IntKind.i64.wrap ((N:Int)+(p:Int))=(M:Int):=by rw [yc _ am];omega
   clear g D hc O G x;go_wp2_with fail
   go_quiet (fail)
   clear J E u q K l y H;go_wp2_with fail;go_roundw
   ·exact ⟨k+1,by omega,by go_num,by rw [T.o],_,by first | rfl | exact World.drewN_drewN _ _ _⟩
   ·simp [intOf];omega
  ·obtain rfl:k=m-1:=am;have V:IntKind.i64.wrap (((m-1:Nat):Int)+1)=(m:Int):=by rw [yc _ am];omega
   go_wp2_with fail;go_ret;exact ⟨rfl,n,rfl⟩
theorem lZ (A:N0) (sz:N3) (c:Nat) (w:N6) (hl:sz.length<=17592186043904) (h:¬(2<=sz.length/\sz.length<=16)):Calls prog 80 #[.slice A sz.length c] w fun e w'=>e=.returned (yY 5)/\w=w':=by
 by_cases g:sz.length<2
 ·go_enter func80,ntmps80;go_wp2;go_ret;exact ⟨rfl,rfl⟩
 ·have a:16<sz.length:=am;go_enter func80,ntmps80;go_wp2;go_ret;exact ⟨rfl,rfl⟩
def lv (sz:N3):Int:=if 1048576<aF sz (sz.length-1) then 4 else 0
theorem nc (A:N0) (sz:N3) (c:Nat) (w:N6) (hA:Rd w A (au .i64 sz)) (h:2<=sz.length/\sz.length<=16):Calls prog 80 #[.slice A sz.length c] w fun e w'=>((aX sz/\e=.returned (yY (lv sz)))\/(¬aX sz/\e=.returned (yY 5)))/\∃n,w'=w.drewN n:=by
 obtain ⟨O,M⟩:=h;obtain ⟨n,C⟩:∃n,sz.length=n:=⟨_,rfl⟩;have D:=fun (v:aX sz)=>ey A sz n c w hA v am am;have v:(∀k,k<n->1<=nth sz k/\nth sz k<=1048576)->aX sz:=fun h=>⟨by omega,by rw [C];exact h⟩;have E:aX sz->∀k,k<n->1<=nth sz k/\nth sz k<=1048576:=fun h=>by rw [<-C];exact h.2
 have I:lv sz=if 1048576<aF sz (n-1) then 4 else 0:=by unfold lv;rw [C]
 rw [C] at O M ⊢;obtain ⟨K,H,Q,F,L,G⟩:=ah hA D v E C I;clear hA D v E C I;go_enter func80,ntmps80;go_wp2_with fail
 go_loop [3] (fun i=>∃k:Nat,k<=n/\i=yY k/\al (∀j,j<k->1<=nth sz j/\nth sz j<=1048576)) (fun i=>n-(intOf i).toNat)
 ·exact ⟨0,yb _,rfl,aa fun j S=>am⟩
 case round=>
  obtain ⟨k,U,rfl,q⟩:=hrel;by_cases x:k<n
  ·obtain ⟨b,o,rfl,p⟩:=K.o.num (show k<sz.length by rw [L.o];exact x);by_cases P:nth sz k<1
   ·have a:¬aX sz:=fun h=>by have:=F.o h k x;omega
    have B:=aa a;clear a;go_wp2_with fail;go_ret;exact ⟨.inr ⟨B.o,rfl⟩,0,rfl⟩
   ·by_cases R:1048576<nth sz k
    ·have a:¬aX sz:=fun h=>by have:=F.o h k x;omega
     have B:=aa a;clear a;go_wp2_with fail;go_ret;exact ⟨.inr ⟨B.o,rfl⟩,0,rfl⟩
    ·have N:=aa (show 1<=nth sz k/\nth sz k<=1048576 by omega);go_wp2_with fail;go_round
     case rel=>exact ⟨k+1,by omega,by go_num,aa (p:=∀j,j<k+1->1<=nth sz j/\nth sz j<=1048576) fun j S=>by
      rcases yl j k with h | h
      ·exact q.out j h
      ·obtain rfl:j=k:=am
       exact N.o⟩
     case measure=>simp [intOf];omega
  ·obtain rfl:k=n:=am;have v:=Q.o q.out;have T:=v.bound (k:=k-1) (by rw [L.o];omega);have l:=aa v;clear v;by_cases u:1048576<aF sz (k-1)
   ·have J:(1048576:Int)<aF sz (k-1):=am;have g:lv sz=4:=by rw [G.o,if_pos u]
    have y:=aa g;clear g;go_wp2_with fail;refine (H.o l.o).mono ?_;rintro e w' ⟨rfl,m,rfl⟩;go_wp2_with fail;go_ret;exact ⟨.inl ⟨l.o,by rw [y.o];rfl⟩,m,rfl⟩
   ·have J:¬(1048576:Int)<aF sz (k-1):=am;have g:lv sz=0:=by rw [G.o,if_neg u]
    have y:=aa g;clear g;go_wp2_with fail;refine (H.o l.o).mono ?_;rintro e w' ⟨rfl,m,rfl⟩;go_wp2_with fail;go_ret;exact ⟨.inl ⟨l.o,by rw [y.o];rfl⟩,m,rfl⟩
theorem ix (A:N0) (sz:N3) (k c:Nat) (w:N6) (hA:Rd w A (au .i64 sz)) (q:aX sz) (B:k+1<sz.length) (hc:sz.length<=c):Calls prog 185 #[.slice A sz.length c,yY k] w fun e w'=>e=.returned (.agg #[yY (aF sz k:Int),yY (bI sz k:Int)])/\an w w':=by
 have x:=q.1.2;have G:=q.at (k:=k) am;have C:=q.at B;obtain ⟨b,o,rfl,J⟩:=hA.num (show k<sz.length by omega);obtain ⟨_,_,E,O⟩:=hA.num B;injection E with E;injection E with e1 e2 _;subst e1;subst e2
 have j:=fun w' (h:an w w')=>ey (some (ao b o)) sz (k+1) c w' (hA.below h) q am am;have T:=q.bound (k:=k+1) B;have hm:bI sz k=aF sz k+szN sz (k+1)*szN sz k:=rfl;have l:=cR sz k;simp only [Nat.add_sub_cancel] at j;rw [G.2.2] at J;rw [C.2.2] at O;obtain ⟨a,Q⟩:∃a,szN sz k=a:=⟨_,rfl⟩;obtain ⟨d,L⟩:∃d,szN sz (k+1)=d:=⟨_,rfl⟩;obtain ⟨N,H⟩:∃N,aF sz k=N:=⟨_,rfl⟩;obtain ⟨M,y⟩:∃M,bI sz k=M:=⟨_,rfl⟩;obtain ⟨p,F⟩:∃p,d*a=p:=⟨_,rfl⟩;obtain ⟨n,P⟩:∃n,sz.length=n:=⟨_,rfl⟩;rw [Q] at J G hm;rw [L] at O C hm l;rw [H,y,F] at hm;rw [y] at l;rw [H] at j ⊢;rw [y];rw [P] at B hc x ⊢;have S:b<w.heap.size:=aw J;have I:=aa j;clear j hA q;have R:(k:Int)+1<n:=am;have Z:(k:Int)<n:=am;have W:(0:Int)<=(k:Int)+1:=am;have Y:((k:Int)+1).toNat=k+1:=am;have X:((n-1:Nat):Int)=(n:Int)-1:=am;have V:¬((n:Int)-1<=k):=am;have U:k+1<=c:=am;have u:(a:Int)*(d:Int)=(p:Int):=by rw [<-F,Nat.mul_comm];push_cast;rfl
 have i:IntKind.i64.wrap ((a:Int)*(d:Int))=(p:Int):=by rw [u];exact yc _ am
 have g:IntKind.i64.wrap ((N:Int)+(p:Int))=(M:Int):=by rw [yc _ am];omega
 obtain ⟨K,D⟩:=ab i g;clear u F T G C hm l y H Q L P i g;go_enter func185,ntmps185;go_wp2_with fail;refine (I.o _ ?_).mono ?_
 ·exact ak
 rintro e w' ⟨rfl,m,rfl⟩;have i:=K.o;have g:=D.o;go_wp2_with fail
 go_region
 all_goals clear i g
 all_goals go_wp2_with fail
 all_goals
  refine yk (v:=.agg #[yY N,yY M]) (by simp [results,results185,go_sem]) rfl ⟨rfl,?_⟩;exact ak
theorem nd (A:N0) (sz:N3) (k c:Nat) (w:N6) (hA:Rd w A (au .i64 sz)) (B:aX sz) (L:k+1<sz.length) (hc:sz.length<=c):Calls prog 221 #[.slice A sz.length c,yY k] w fun e w'=>e=.returned (.agg #[yY (bI sz k:Int),yY (aF sz (k+1):Int)])/\an w w':=by
 have y:=B.1.2;have l:=fun w' (h:an w w')=>ix A sz k c w' (hA.below h) B L hc;have j:=fun w' (h:an w w')=>ey A sz (k+2) c w' (hA.below h) B am am;simp only [show k+2-1=k+1 by omega] at j;obtain ⟨b,o,rfl,X⟩:=hA.num (show k<sz.length by omega);obtain ⟨n,P⟩:∃n,sz.length=n:=⟨_,rfl⟩;obtain ⟨N,Q⟩:∃N,aF sz (k+1)=N:=⟨_,rfl⟩;obtain ⟨M,J⟩:∃M,bI sz k=M:=⟨_,rfl⟩;rw [Q] at j ⊢;have H:aF sz k=aF sz k:=rfl;clear H;rw [J] at l ⊢;rw [P] at l L hc y ⊢;obtain ⟨E,I⟩:=ab l j;clear l j hA B X P Q J;have T:¬((n:Int)-1<=k):=am;have S:(k:Int)+2<=c:=am;have U:(0:Int)<=(k:Int)+2:=am;have Y:((k:Int)+2).toNat=k+2:=am;have Z:IntKind.i64.wrap ((k:Int)+2)=(k:Int)+2:=yc _ am;have a0:=vf;go_enter func221,ntmps221;go_wp2_with fail;have a:(fun _:N6=>True) (w.alloc (.cells #[yY 0,yY 0] 321)).drew:=trivial;refine HA.g (fun _:N6=>True) ?_;refine HA.t ?_ [0,1,4,5,6,7] a ?_;refine HA.o 2 (fun K p=>?_);go_simp;refine (E.o _ ?_).mono ?_
 ·exact ak
 rintro e u ⟨rfl,q⟩;have D:an w u:=(((ya _ w).alloc (x4 _) _).drew).trans (q.mono (by simp));have i:=(q.block w.heap.size (by simp)).trans (x6 w (.cells #[yY 0,yY 0] 321));obtain ⟨⟨k0,k1⟩,kf⟩:=bx2 i;have l1:w.heap.size<u.heap.size:=xZ i;have C:=aa i;clear q i;dsimp only;refine p.out _ _ trivial (fun a=>?_);clear p K;refine HA.t ?_ [3] a ?_;refine HA.o 8 (fun K p=>?_);go_simp;refine (I.o _ D).mono ?_;rintro e w2 ⟨rfl,m,rfl⟩;dsimp only;refine p.out _ _ trivial (fun a=>?_);clear p K;refine HA.t ?_ [9] a ?_;refine HA.o 10 (fun K p=>?_);go_simp;refine p.out _ _ trivial (fun a=>?_);clear p K;refine HA.d ?_;go_wp2_with fail;have V:=yW (u.drewN m) w.heap.size 0 _ _ (yY M) C.o;have O:=yW _ w.heap.size 1 _ _ (yY N) V;have x:an w (((u.drewN m).setCell (ao w.heap.size 0) (yY M)).setCell (ao w.heap.size 1) (yY N)):=by exact ak
 obtain ⟨G,F⟩:∃G,G=((u.drewN m).setCell (ao w.heap.size 0) (yY M)).setCell (ao w.heap.size 1) (yY N):=⟨_,rfl⟩;rw [<-F] at O x ⊢;have W:G.heap[w.heap.size]?=some (.cells #[yY M,yY N] 321 (0,0)):=O;obtain ⟨⟨R,x1⟩,xf⟩:=bx2 W;exact yk (v:=.agg #[yY M,yY N]) (by simp [results,results221,go_sem,R,x1]) rfl ⟨rfl,x⟩
theorem tR (a:Nat) (g:a<18446744073709551616):bits .and .u64 (a:Int) 4294967295=((a%4294967296:Nat):Int):=by
 have h:=bits_and_u64_nat a 4294967295 g am;have e:a&&& 4294967295=a%4294967296:=Nat.and_two_pow_sub_one_eq_mod a 32;rw [e] at h;exact h
theorem xT (a:Nat):(a:Int)/4294967296=((a/4294967296:Nat):Int):=am
theorem xR (a b:Nat):(a:Int)*(b:Int)=((a*b:Nat):Int):=(Int.natCast_mul a b).symm
theorem xU (a b:Nat):(a:Int)+(b:Int)=((a+b:Nat):Int):=(Int.natCast_add a b).symm
theorem jd (a:Nat) (e:a<18446744073709551616):IntKind.u64.wrap (a:Int)=(a:Int):=by rw [IntKind.wrap_u64];omega
theorem xw (a:Nat):IntKind.u64.wrap (a:Int)=((a%18446744073709551616:Nat):Int):=by rw [IntKind.wrap_u64];omega
theorem rE (x y:Nat) (m:x<18446744073709551616) (l:y<18446744073709551616) (w:N6):Calls prog 183 #[.int .u64 x,.int .u64 y] w fun e w'=>e=.returned (.tuple #[.int .u64 ((x*y/18446744073709551616:Nat):Int),.int .u64 ((x*y%18446744073709551616:Nat):Int)])/\w=w':=by
 obtain ⟨n,bt,p,h⟩:=Lib.mul64_hi x y m l;have ba:=Lib.half_mul_le (a:=x/4294967296) (b:=y/4294967296) am am;have q:=Lib.half_mul_le (a:=x/4294967296) (b:=y%4294967296) am am;have u:=Lib.half_mul_le (a:=x%4294967296) (b:=y/4294967296) am am;have i:x/4294967296*(y/4294967296)<18446744073709551616:=am;have g:x/4294967296*(y%4294967296)<18446744073709551616:=am;have k:x%4294967296*(y/4294967296)<18446744073709551616:=am;have j:x/4294967296*(y/4294967296)+(x/4294967296*(y%4294967296)+x%4294967296*(y%4294967296)/4294967296)/4294967296<18446744073709551616:=am;have o:x/4294967296*(y/4294967296)+(x/4294967296*(y%4294967296)+x%4294967296*(y%4294967296)/4294967296)/4294967296+((x/4294967296*(y%4294967296)+x%4294967296*(y%4294967296)/4294967296)%4294967296+x%4294967296*(y/4294967296))/4294967296<18446744073709551616:=am;go_enter func183,ntmps183;go_wp2;simp only [tR x m,tR y l,xT,xR,xU,jd _ n,jd _ g,jd _ bt,tR _ bt,jd _ k,jd _ p,jd _ i,jd _ j,jd _ o,xw (x*y)];rw [h];go_ret2;exact ⟨rfl,rfl⟩
theorem te (a:Int) (w:N6):Calls prog 135 #[yY a] w fun e w'=>e=.returned (yY (max a 0))/\w=w':=by
 go_enter func135,ntmps135;go_wp2
 all_goals
  go_ret;exact ⟨aD am,rfl⟩
theorem uf (a g:Int) (w:N6):Calls prog 230 #[yY a,yY g] w fun e w'=>e=.returned (yY (if 0<a then g else 0))/\w=w':=by
 by_cases h:a<=0
 ·rw [if_neg am];go_enter func230,ntmps230;go_wp2;go_ret;exact ⟨rfl,rfl⟩
 ·rw [if_pos am];go_enter func230,ntmps230;go_wp2;go_ret;exact ⟨rfl,rfl⟩
theorem pM (a b:Int) (w:N6):Calls prog 98 #[yY a,yY b] w fun e w'=>e=.returned (yY (wrap64 (a-b)))/\w=w':=by
 go_enter func98,ntmps98;go_wp2;go_ret;exact ⟨rfl,rfl⟩
theorem mO (a lo:Int) (q:Nat) (o:q<=63) (h:0<=lo/\lo<18446744073709551616):
  bits .or .u64 (IntKind.u64.wrap (IntKind.u64.wrap a*2^(64-q))) (lo/2^q)=(uw a%2^q)*2^(64-q)+lo/2^q:=by
 obtain ⟨H,g,_⟩:=iQ a;obtain ⟨L,rfl⟩:=Int.eq_ofNat_of_zero_le h.1;have i:(18446744073709551616:Nat)=2^(64-q)*2^q:=by rw [<-Nat.pow_add,show 64-q+q=64 by omega]
 have hw:IntKind.u64.wrap a=uw a:=by rw [IntKind.wrap_u64];rfl
 have n:IntKind.u64.wrap (uw a*2^(64-q))=((2^(64-q)*(H%2^q):Nat):Int):=by
  rw [IntKind.wrap_u64,g]
  have:((H*2^(64-q):Nat):Int)%((18446744073709551616:Nat):Int)=((2^(64-q)*(H%2^q):Nat):Int):=by
   rw [<-Int.natCast_emod,Nat.mul_comm H,i,Nat.mul_mod_mul_left]
  simpa using this
 have k:((L:Int)/2^q)=((L/2^q:Nat):Int):=by simp
 have e:0<2^q:=Nat.pow_pos (by decide)
 have j:L/2^q<2^(64-q):=by
  rw [Nat.div_lt_iff_lt_mul e];have:=h.2;omega
 have l:2^(64-q)*(H%2^q)<18446744073709551616:=by
  rw [i];exact Nat.mul_lt_mul_of_pos_left (Nat.mod_lt _ e) (Nat.pow_pos (by decide))
 have m:L/2^q<18446744073709551616:=Nat.lt_of_le_of_lt (Nat.div_le_self _ _) am;rw [hw,n,k,bits_or_u64_nat _ _ l m,<-Nat.two_pow_add_eq_or_of_lt j,g,Int.natCast_add,Int.natCast_mul,Int.mul_comm];simp
theorem qK (a lo:Int) (q:Nat) (g:q<=63) (i:0<=lo/\lo<18446744073709551616):
  wrap64 (bits .or .u64 (IntKind.u64.wrap (IntKind.u64.wrap a*2^(64-q))) (lo/2^q))=wrap64 (a*2^(64-q)+lo/2^q):=by
 rw [mO a lo q g i];have j:(18446744073709551616:Int)=2^(64-q)*2^q:=by rw [<-Int.pow_add,show 64-q+q=64 by omega];rfl
 obtain ⟨k,n⟩:∃k:Int,uw a=a+k*18446744073709551616:=⟨-(a/18446744073709551616),by unfold uw;omega⟩;have m:=Int.emod_add_mul_ediv (uw a) (2^q);refine kv ⟨k*2^(64-q)-uw a/2^q,?_⟩;have e:uw a%2^q=a+k*18446744073709551616-2^q*(uw a/2^q):=am;rw [e,Int.sub_mul,Int.add_mul,Int.sub_mul]
 have l:2^q*(uw a/2^q)*2^(64-q)=(uw a/2^q)*18446744073709551616:=by
  rw [j,Int.mul_comm (2^q:Int),Int.mul_assoc,Int.mul_comm (2^q:Int)]
 have h:k*18446744073709551616*2^(64-q)=k*2^(64-q)*18446744073709551616:=by rw [Int.mul_assoc,Int.mul_comm 18446744073709551616,<-Int.mul_assoc]
 rw [l,h];omega
def dI (a b:Int):Nat->Int
 | 0=>wrap64 (uw a*uw b/18446744073709551616)
 | 1=>if a<0 then wrap64 (wrap64 (uw a*uw b/18446744073709551616)-b) else wrap64 (uw a*uw b/18446744073709551616)
 | _=>cH a b
theorem pU (a b:Int) (h: -9223372036854775808<=a/\a<=9223372036854775807) (i: -9223372036854775808<=b/\b<=9223372036854775807):cH a b=if b<0 then wrap64 (dI a b 1-a) else dI a b 1:=by
 rw [<-sm a b h i];unfold dI;by_cases g:a<0
 ·by_cases e:b<0
  ·simp only [g,e,if_true,gT]
  ·simp only [g,e,if_true,if_false,gT,Int.sub_zero]
 ·by_cases e:b<0
  ·simp only [g,e,if_true,if_false,gT,Int.sub_zero]
  ·simp only [g,e,if_false,Int.sub_zero]
theorem ti (a b:Int) (w:N6) (F: -9223372036854775808<=a/\a<=9223372036854775807) (y: -9223372036854775808<=b/\b<=9223372036854775807):Calls prog 136 #[yY a,yY b] w fun e w'=>e=.returned (.tuple #[yY (cH a b),.int .u64 (dz a b)])/\an w w':=by
 obtain ⟨X,u,x⟩:=iQ a;obtain ⟨Y,v,B⟩:=iQ b;have J:IntKind.u64.wrap a=(X:Int):=by rw [IntKind.wrap_u64,<-u];rfl
 have G:IntKind.u64.wrap b=(Y:Int):=by rw [IntKind.wrap_u64,<-v];rfl
 have l:wrap64 ((X*Y/18446744073709551616:Nat):Int)=dI a b 0:=by unfold dI;rw [u,v];simp
 have q:((X*Y%18446744073709551616:Nat):Int)=dz a b:=by rw [<-sk a b F y,u,v];unfold uw;simp
 have hm:=rE X Y x B w;rw [q] at hm;obtain ⟨h,H⟩:∃h:Int,((X*Y/18446744073709551616:Nat):Int)=h:=⟨_,rfl⟩;rw [H] at hm l;have C:∀w,(Instr.index 318 (.agg #[yY a,yY b,yY b,yY a]) (yY 0)).run prog w=.ok (.agg #[yY a,yY b]) w:=fun w=>by kernel_rfl
 have E:∀w,(Instr.index 318 (.agg #[yY a,yY b,yY b,yY a]) (yY 1)).run prog w=.ok (.agg #[yY b,yY a]) w:=fun w=>by kernel_rfl
 obtain ⟨O,M,L,D,N,K⟩:=ah hm J G l C E;clear hm J G l q u v H C E;go_enter func136,ntmps136;go_wp2_with fail;rw [M.o,L.o];refine O.o.mono ?_;rintro e P ⟨rfl,rfl⟩;go_wp2_with fail;rw [D.o]
 go_loopw [4,26] (fun s i wr=>∃k:Nat,k<=2/\i=yY k/\s=yY (dI a b k)/\an w wr) (fun _ i _=>2-(intOf i).toNat)
 ·exact ⟨0,by omega,rfl,rfl,ya _ _⟩
 case round=>
  obtain ⟨k,n,rfl,rfl,j⟩:=hrel;obtain ⟨I,p⟩:=ab (j.trans ((ya _ _).alloc j.size (.cells #[yY a,yY b] 317))) (j.trans ((ya _ _).alloc j.size (.cells #[yY b,yY a] 317)));rcases (show k=0\/k=1\/k=2 by omega) with rfl | rfl | rfl
  ·rw [show (((0:Nat):Int))=0 from rfl];have C:=N.o;by_cases h:a<0
   ·have g:wrap64 (dI a b 0-b)=dI a b 1:=by simp only [dI,h,if_true]
    have m:=aa g;clear g j n;go_wp2_with fail;rw [m.o];go_roundw
    ·exact ⟨1,by omega,rfl,rfl,I.o⟩
    ·simp [intOf]
   ·have g:dI a b 0=dI a b 1:=by simp only [dI,h,if_false]
    have m:=aa g;clear g j n;go_wp2_with fail;rw [m.o];go_roundw
    ·exact ⟨1,by omega,rfl,rfl,I.o⟩
    ·simp [intOf]
  ·rw [show (((1:Nat):Int))=1 from rfl];have E:=K.o;by_cases h:b<0
   ·have g:wrap64 (dI a b 1-a)=dI a b 2:=by rw [show dI a b 2=cH a b from rfl,pU a b F y,if_pos h]
    have m:=aa g;clear g j n;go_wp2_with fail;rw [m.o];go_roundw
    ·exact ⟨2,by omega,rfl,rfl,p.o⟩
    ·simp [intOf]
   ·have g:dI a b 1=dI a b 2:=by rw [show dI a b 2=cH a b from rfl,pU a b F y,if_neg h]
    have m:=aa g;clear g j n;go_wp2_with fail;rw [m.o];go_roundw
    ·exact ⟨2,by omega,rfl,rfl,p.o⟩
    ·simp [intOf]
  ·rw [show (((2:Nat):Int))=2 from rfl];have A:=aa j;clear j n;go_wp2_with fail;go_ret2;exact ⟨rfl,A.o⟩
theorem qL (a lo:Int) (q:Nat) (w:N6) (j:q<=62) (k: -9223372036854775808<=a/\a<=9223372036854775807) (h:0<=lo/\lo<18446744073709551616):Calls prog 137 #[yY a,.int .u64 lo,yY q] w fun e w'=>e=.returned (yY (wrap64 (a*2^(64-q)+lo/2^q)))/\∃n,w'=w.drewN n:=by
 have g:=qK a lo q am h;have i:=aa g;clear g;go_enter func137,ntmps137;go_wp2_with fail
 go_quiet (fail)
 rw [i.o];go_wp2;go_ret;exact ⟨rfl,_,rfl⟩
theorem vy (a b:Int) (q:Nat) (e:q<=62):cP a b q=wrap64 (cH a b*2^(64-q)+dz a b/2^q):=by
 rw [sU a b q e];unfold cP;rw [if_neg am];simp
theorem j8 (a b q:Int) (w:N6) (j: -9223372036854775808<=a/\a<=9223372036854775807) (k: -9223372036854775808<=b/\b<=9223372036854775807):Calls prog 99 #[yY a,yY b,yY q] w fun e w'=>e=.returned (yY (cP a b q))/\an w w':=by
 by_cases u:q<0
 ·have g:cP a b q=0:=by unfold cP;rw [if_pos (.inl u)]
  rw [g];clear g;go_enter func99,ntmps99;go_wp2_with fail;go_ret;exact ⟨rfl,ya _ _⟩
 ·by_cases p:62<q
  ·have g:cP a b q=0:=by unfold cP;rw [if_pos (.inr p)]
   rw [g];clear g;go_enter func99,ntmps99;go_wp2_with fail;go_ret;exact ⟨rfl,ya _ _⟩
  ·obtain ⟨Q,rfl⟩:=Int.eq_ofNat_of_zero_le (show 0<=q by omega);have g:=vy a b Q am;rw [g];have i:=ti a b w j k;have l:=fun w'=>qL (cH a b) (dz a b) Q w' am (ep j k) (jf _);obtain ⟨x,v⟩:=ab i l;clear i l g;go_enter func99,ntmps99;go_wp2_with fail;refine x.o.mono ?_;rintro e y ⟨rfl,h⟩;have m:=aa h;clear h;go_wp2_with fail;refine (v.o _).mono ?_;rintro e A ⟨rfl,n,rfl⟩;go_wp2_with fail;go_ret;exact ⟨rfl,yh m.o _⟩
end Go.Proofs.YthamijnggdjaoaaGreat
