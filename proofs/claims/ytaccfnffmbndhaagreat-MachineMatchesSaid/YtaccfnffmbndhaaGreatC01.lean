/- No condition. -/
import Derived.Test.YtaccfnffmbndhaaGreatC00
import Derived.WalkKit
import Derived.Lib.Hide
import Derived.Deep.Draws
import Derived.Deep.AppendLies
import Derived.Maps.AppendAt
import Derived.WalkSmall
import Derived.ProofKit
import Derived.OpenShut
import Derived.Deep.Slices
import Derived.RowKit
set_option linter.unusedSimpArgs false
set_option linter.unusedVariables false
set_option maxRecDepth 100000
set_option maxHeartbeats 4000000
namespace Go.Proofs.YtaccfnffmbndhaaGreat
open Go.RowKit
def nth (l:List Int) (k:Nat):Int:=l.getD k 0
theorem dI (l:List Int) (k:Nat) (h:k<l.length):nth l k=l[k]:=by simp [nth,List.getD,h]
theorem eJ (l:List Int) (k:Nat) (h:k<l.length):l.take (k+1)=l.take k++[nth l k]:=by
 rw [List.take_succ_eq_append_getElem h,dI l k h]
theorem np {j i:List Int} {k:Nat} (h1:k<j.length) (o:k<i.length) (h:j.take k=i.take k) (hx:nth j k=nth i k):j.take (k+1)=i.take (k+1):=by
 rw [eJ j k h1,eJ i k o,h,hx]
theorem rD {i j:List Int} (h:i.length=j.length) (o:i.take i.length=j.take i.length):i=j:=by
 rw [Ks] at o
 rw [o,h,Ks]
theorem aV {k:IntKind} {a b:Int} (h:a=b):Ending.returned (.int k a)=.returned (.int k b):=by rw [h]
theorem cP {a b:Bool} (h:a=b):Ending.returned (.bool a)=.returned (.bool b):=by rw [h]
def aq (q:IntKind) (zs:List Int):List Value:=zs.map (.int q)
theorem a9 (q:IntKind) (zs:List Int):(aq q zs).length=zs.length:=by simp [aq]
theorem cD (q:IntKind) (a b:List Int):aq q (a++b)=aq q a++aq q b:=by simp [aq]
theorem li (q:IntKind) (zs:List Int) (k:Nat) (h:k<zs.length):(aq q zs)[k]?=some (.int q (nth zs k)):=by
 simp [aq,dI zs k h,h]
theorem vG (q:IntKind) (zs:List Int) (k:Nat) (a:Int):(aq q zs).set k (.int q a)=aq q (zs.set k a):=by simp [aq,List.map_set]
theorem bP (q:IntKind) (zs:List Int):∀u∈aq q zs,u.oneCell'=true:=ints_oneCell q zs
theorem cK (q:IntKind) (zs:List Int) (n:Nat):(aq q zs).take n=aq q (zs.take n):=by simp [aq,List.map_take]
theorem cV (q:IntKind) (zs:List Int) (n:Nat):(aq q zs).drop n=aq q (zs.drop n):=by simp [aq,List.map_drop]
theorem dS (q:IntKind) (n:Nat) (a:Int):List.replicate n (Value.int q a)=aq q (List.replicate n a):=by simp [aq]
def Rd (w:World) (A:Option Addr) (xs:List Value):Prop:=
 ∀k u,xs[k]?=some u→∃b o,A=some ⟨b,o,none⟩∧w.cell? ⟨b,o+k,none⟩=some u
theorem ar {w:World} {a:Addr} {u:Value} (h:w.cell? a=some u):a.block<w.heap.size:=World.block_lt_of_cell? w a h
theorem Rd.nil (w:World) (A:Option Addr):Rd w A []:=fun k u h=>by simp at h
theorem Rd.num {w:World} {A:Option Addr} {q:IntKind} {zs:List Int} (h:Rd w A (aq q zs)) {k:Nat} (i:k<zs.length):
  ∃b o,A=some ⟨b,o,none⟩∧w.cell? ⟨b,o+k,none⟩=some (.int q (nth zs k)):=h k _ (li q zs k i)
theorem Rd.same {w i:World} {A:Option Addr} {xs:List Value} (h:Rd w A xs) (j:∀b,b<w.heap.size→i.heap[b]?=w.heap[b]?):Rd i A xs:=fun k u hu=>by
 obtain ⟨b,o,hA,hc⟩:=h k u hu
 exact ⟨b,o,hA,(World.cell?_of_block (w:=w) (j _ (ar hc))).trans hc⟩
theorem Rd.below {w i:World} {A:Option Addr} {xs:List Value} (h:Rd w A xs) (j:Below w.heap.size w i):Rd i A xs:=h.same j.block
theorem Rd.alloc {w:World} {A:Option Addr} {xs:List Value} (h:Rd w A xs) (o:Obj):Rd (w.alloc o) A xs:=h.same fun b i=>JP w o b i
theorem Rd.drew {w:World} {A:Option Addr} {xs:List Value} (h:Rd w A xs):Rd w.drew A xs:=h
theorem Rd.drewN {w:World} {A:Option Addr} {xs:List Value} (h:Rd w A xs) (n:Nat):Rd (w.drewN n) A xs:=h
theorem Rd.belowB {B:Nat} {w j:World} {A:Option Addr} {xs:List Value} (h:Rd w A xs) (q:Below B w j) (hA:∀a,A=some a→a.block<B):Rd j A xs:=fun k u hu=>by
 obtain ⟨b,o,i,hc⟩:=h k u hu
 exact ⟨b,o,i,(q.cell (p:=⟨b,o+k,none⟩) (show b<B from hA _ i)).trans hc⟩
theorem Rd.own {w:World} {base:Nat} {e:TypeId} {size n c:Nat} {A:Option Addr} {xs:List Value} (h:w.ownsRow base e size (.slice A n c) n xs):Rd w A xs:=fun k u hu=>by
 have q:k<xs.length:=(Kg.1 hu).1
 rcases h.2 with ⟨_,p⟩ | ⟨g,cap,j,hv,_,hg,_,_,_,i⟩
 ·have:=h.1;rw [p] at this;omega
 ·simp only [Ku] at hv
  obtain ⟨rfl,_,rfl⟩:=hv
  refine ⟨g,0,rfl,?_⟩
  have o:=h.cellAt k (by have:=h.1;omega)
  rw [Kz,o,hu]
theorem Rd.grown {w j:World} {row:Option Nat} {A:Option Addr} {xs:List Value} (h:Rd w A xs) (hg:w.grownBy j row) (hA:∀a,A=some a→some a.block≠row):Rd j A xs:=fun k u hu=>by
 obtain ⟨b,o,i,hc⟩:=h k u hu
 exact ⟨b,o,i,hg.cell hc (show some b≠row from hA _ i)⟩
theorem Rd.take {w:World} {A:Option Addr} {xs:List Value} (h:Rd w A xs) (n:Nat):Rd w A (xs.take n):=fun k u hu=>by
 rw [List.getElem?_take] at hu
 split at hu
 ·exact h k u hu
 ·cases hu
theorem Rd.drop {w:World} {b o:Nat} {xs:List Value} (h:Rd w (some ⟨b,o,none⟩) xs) (n:Nat):Rd w (some ⟨b,o+n,none⟩) (xs.drop n):=fun k u hu=>by
 rw [List.getElem?_drop] at hu
 obtain ⟨j,i,e,hc⟩:=h _ _ hu
 injection e with e
 injection e with e1 e2 _
 subst e1;subst e2
 exact ⟨b,o+n,rfl,by rw [Ky];exact hc⟩
theorem dZ (w:World) (xs:List Value) (e:TypeId) (n:Nat) (hn:w.heap.size=n):Rd (w.alloc (.cells xs.toArray e)) (some ⟨n,0,none⟩) xs:=fun k u hu=>by
 subst hn
 refine ⟨_,_,rfl,?_⟩
 rw [Kz,JF _ w.heap.size k xs.toArray e (0,0) (JE w _)]
 simpa using hu
theorem aw {w:World} {base:Nat} {e:TypeId} {size:Nat} {v:Value} {n:Nat} {xs:List Value} (h:w.ownsRow base e size v n xs):∃A c,v=.slice A n c∧n≤c:=by
 rcases h.2 with ⟨rfl,rfl⟩ | ⟨g,cap,i,rfl,_,_,hc,_⟩
 ·exact ⟨none,0,rfl,JD _⟩
 ·exact ⟨_,_,rfl,hc⟩
theorem ap {w j:World} {base:Nat} {e:TypeId} {size:Nat} {v:Value} {n:Nat} {xs:List Value} (h:w.ownsRow base e size v n xs) (i:Below w.heap.size w j):j.ownsRow base e size v n xs:=
 h.kept (row:=none) ⟨i.os,i.tape,i.output,i.size,fun k o _=>i.block k o⟩ (by cases hv:v.ownBlock<;>simp)
theorem bC {w:World} {base:Nat} {e:TypeId} {size:Nat} {v:Value} {n:Nat} {xs:List Value} (h:w.ownsRow base e size v n xs) (m:Nat):(w.drewN m).ownsRow base e size v n xs:=h
theorem ax {w:World} {base base':Nat} {e:TypeId} {size:Nat} {v:Value} {n:Nat} {xs:List Value} (h:w.ownsRow base e size v n xs) (o:base'≤base):w.ownsRow base' e size v n xs:=by
 refine ⟨h.1,?_⟩
 rcases h.2 with j | ⟨g,cap,i,hv,hg,r⟩
 ·exact .inl j
 ·exact .inr ⟨g,cap,i,hv,JJ o hg,r⟩
structure Keep (S:Nat→Prop) (w w':World):Prop where
 os:w'.os=w.os
 tape:w'.tape=w.tape
 output:w'.output=w.output
 size:w.heap.size≤w'.heap.size
 block:∀k,k<w.heap.size→¬S k→w'.heap[k]?=w.heap[k]?
theorem Keep.refl (S:Nat→Prop) (w:World):Keep S w w:=⟨rfl,rfl,rfl,JD _,fun _ _ _=>rfl⟩
theorem Keep.trans {S:Nat→Prop} {a b c:World} (h:Keep S a b) (k:Keep S b c):Keep S a c:=
 ⟨k.os.trans h.os,k.tape.trans h.tape,k.output.trans h.output,JJ h.size k.size,fun i j hn=>(k.block i (JK j h.size) hn).trans (h.block i j hn)⟩
theorem Keep.below {S:Nat→Prop} {w i:World} (h:Below w.heap.size w i):Keep S w i:=⟨h.os,h.tape,h.output,h.size,fun k j _=>h.block k j⟩
theorem Keep.mono {S S':Nat→Prop} {w i:World} (h:Keep S w i) (hs:∀k,k<w.heap.size→S k→S' k):Keep S' w i:=⟨h.os,h.tape,h.output,h.size,fun k j hn=>h.block k j fun o=>hn (hs k j o)⟩
theorem Keep.drewN {S:Nat→Prop} {a w:World} (h:Keep S a w) (n:Nat):Keep S a (w.drewN n):=⟨h.os,h.tape,h.output,h.size,h.block⟩
theorem Keep.drew {S:Nat→Prop} {a w:World} (h:Keep S a w):Keep S a w.drew:=⟨h.os,h.tape,h.output,h.size,h.block⟩
theorem Keep.alloc {S:Nat→Prop} {a w:World} (h:Keep S a w) (o:Obj):Keep S a (w.alloc o):=h.trans (Keep.below ((JG _ w).alloc (JD _) o))
theorem Keep.setCell {S:Nat→Prop} {a w:World} (h:Keep S a w) (p:Addr) (i:a.heap.size≤p.block∨S p.block) (u:Value):Keep S a (w.setCell p u):=
 ⟨h.os,h.tape,h.output,by simp [World.setCell];exact h.size,fun k j hn=>(Below.heap_setCell w p u k (fun e=>by subst e;rcases i with i | i<;>first | omega | exact hn i)).trans (h.block k j hn)⟩
theorem Keep.grown {S:Nat→Prop} {a w i:World} (h:Keep S a w) {row:Option Nat} (hg:w.grownBy i row) (hr:∀k,row=some k→a.heap.size≤k∨S k):Keep S a i:=
 ⟨hg.os.trans h.os,hg.tape.trans h.tape,hg.output.trans h.output,JJ h.size hg.size,fun k j hn=>
  (hg.block k (JK j h.size) fun e=>by
   rcases hr k e.symm with h1 | h1
   ·omega
   ·exact hn h1).trans (h.block k j hn)⟩
theorem Keep.toBelow {S:Nat→Prop} {B:Nat} {w i:World} (h:Keep S w i) (hB:B≤w.heap.size) (j:∀k,S k→B≤k):Below B w i:=
 ⟨h.os,h.tape,h.output,h.size,fun k o=>h.block k (by omega) fun hs=>by have:=j k hs;omega⟩
theorem Keep.cell {S:Nat→Prop} {w i:World} (h:Keep S w i) {p:Addr} {u:Value} (hc:w.cell? p=some u) (j:¬S p.block):i.cell? p=some u:=
 (World.cell?_of_block (w:=w) (h.block _ (ar hc) j)).trans hc
theorem Keep.rd {S:Nat→Prop} {w j:World} (h:Keep S w j) {A:Option Addr} {xs:List Value} (hr:Rd w A xs) (hA:∀a,A=some a→¬S a.block):Rd j A xs:=fun k u hu=>by
 obtain ⟨b,o,i,hc⟩:=hr k u hu
 exact ⟨b,o,i,h.cell hc (show ¬S b from hA _ i)⟩
theorem Keep.own {S:Nat→Prop} {w p:World} (h:Keep S w p) {base:Nat} {e:TypeId} {size:Nat} {v:Value} {n:Nat} {xs:List Value} (o:w.ownsRow base e size v n xs) (hv:∀k,v.ownBlock=some k→¬S k):p.ownsRow base e size v n xs:=by
 refine ⟨o.1,?_⟩
 rcases o.2 with q | ⟨g,cap,j,rfl,hg,i,r⟩
 ·exact .inl q
 ·exact .inr ⟨g,cap,j,rfl,hg,(h.block g (JC i) (hv g rfl)).trans i,r⟩
structure dq (P:Program) (t e:TypeId) (z:Value) (size bytes:Nat):Prop where
 und:P.underlying t=some (.slice e)
 info:∃i,P.info? e=some i∧i.zero=some z∧i.size=size∧i.bytes=bytes
 zs:z.cells.size=size
 pos:0<size
theorem aQ {P:Program} {t e:TypeId} {z:Value} {size p:Nat} (T:dq P t e z size p) (w:World) {ops:Array Oper} {rest:List Oper} {o:Oper} {a:Act} {Q:Exit→Act→World→Prop}
  (C:o.guard=none) (s x:Operand) (J:o.op=.call {callee:=.builtin .append,args:=#[s,x],argTypes:=#[t,t]})
  (base:Nat) (v:Value) (n:Nat) (xs:List Value) (hs:a.eval s=v) (hown:w.ownsRow base e size v n xs)
  (us:List Value) (hx:a.eval x=.slice (some ⟨w.heap.size,0,none⟩) 1 1) (hus:us.length=size) (h1:∀u∈us,u.oneCell'=true)
  (hb:(n+1)*p≤140737488355328) (h63:n+1≤maxLen) (hbase:base≤w.heap.size)
  (h:∀g c y,y.ownsRow base e size (.slice (some ⟨g,0,none⟩) (n+1) c) (n+1) (xs++us)→Below base w y→w.grownBy y v.ownBlock→
   wpList P ops Q rest (a.put o.dst (.slice (some ⟨g,0,none⟩) (n+1) c)) y):wpList P ops Q (o::rest) a (w.alloc (.cells us.toArray e)):=by
 obtain ⟨i,N,D,H,B⟩:=T.info
 refine wpList_append_own (w.alloc (.cells us.toArray e)) C s x t J base e i z size p T.und N D H B T.zs T.pos v n xs hs (hown.alloc _) ⟨w.heap.size,0,none⟩ 1 1 us hx (by simpa using hus) ?_ h1 h63 hb
  (by simp;omega) ?_
 ·intro j u hu
  rw [Addr.add_lit,Kz,JF _ w.heap.size j us.toArray e (0,0) (JE w _)]
  simpa using hu
 ·intro v' y q hg _
  obtain ⟨g,c,rfl,L,_⟩:=q.form (by omega)
  have A:w.grownBy y v.ownBlock:=(World.grownBy_alloc w _ _).trans hg
  exact h g c y q ((JG base w).grown A hbase fun k I=>(hown.lt k I).1) A
theorem mL {P:Program} {t e:TypeId} {z:Value} {size j:Nat} (T:dq P t e z size j) (w:World) (base:Nat) (x:TypeId) (v:Value) (n:Nat) (xs:List Value) (o:w.ownsRow base e size v n xs) (c:Nat):
  (Builtin.append_ #[t,t] x #[v,.slice none 0 c]).run P w=.ok v w:=by
 obtain ⟨i,q,_,_,_⟩:=T.info
 rcases o.2 with ⟨rfl,rfl⟩ | ⟨g,cap,u,rfl,_,_,p,_⟩
 ·simp [Builtin.append_,run_underlying T.und,sizeOf,typeInfo,q,Builtin.lenOf,Builtin.firstCells]
 ·simp [Builtin.append_,run_underlying T.und,sizeOf,typeInfo,q,Builtin.lenOf,Builtin.firstCells,p,storeCells]
theorem zA {P:Program} {t e:TypeId} {z:Value} {size p:Nat} (T:dq P t e z size p) (w:World) (base:Nat) (N:TypeId) (v:Value) (n:Nat) (xs:List Value) (q:w.ownsRow base e size v n xs)
  (A:Option Addr) (m c:Nat) (y:List Value) (hr:Rd w A y) (C:y.length=m*size) (h1:∀u∈y,u.oneCell'=true)
  (R:(n+m)*p≤140737488355328) (J:n+m≤maxLen) (x:base≤w.heap.size):
  ∃v' B,(Builtin.append_ #[t,t] N #[v,.slice A m c]).run P w=.ok v' B∧B.ownsRow base e size v' (n+m) (xs++y)∧Below base w B∧w.grownBy B v.ownBlock∧(v'.ownBlock=v.ownBlock∨v'.ownBlock=some w.heap.size):=by
 cases A with
 | none=>
  have hm:y=[]:=by
   cases y with
   | nil=>rfl
   | cons u l=>obtain ⟨b,o,h,_⟩:=hr 0 u rfl;cases h
  subst hm
  have I:m=0:=by
   have:=T.pos
   rcases Nat.eq_zero_or_pos m with h | h
   ·exact h
   ·have:=Nat.mul_pos h this;simp at C;omega
  subst I
  exact ⟨v,w,mL T w base N v n xs q c,by simpa using q,JG _ _,World.grownBy.refl _ _,.inl rfl⟩
 | some ad=>
  obtain ⟨i,X,D,H,L⟩:=T.info
  have hc:∀j u,y[j]?=some u→w.cell? (ad.add j)=some u:=fun j u hu=>by
   obtain ⟨b,o,e,h⟩:=hr j u hu
   injection e with e
   subst e
   rw [Addr.add_lit];exact h
  obtain ⟨v',B,hr,Q,O,Y,V⟩:=run_append_own_at (P:=P) w base t N e i z size p T.und X D H L T.zs T.pos v n xs q ad m c y C hc h1 J R x
  exact ⟨v',B,hr,Q,(JG base w).grown O x fun k U=>(q.lt k U).1,O,V⟩
theorem dX {P:Program} {t e:TypeId} {z:Value} {size i:Nat} (T:dq P t e z size i) (w:World) {ops:Array Oper} {rest:List Oper} {o:Oper} {a:Act} {Q:Exit→Act→World→Prop}
  (B:o.guard=none) (s x:Operand) (H:o.op=.call {callee:=.builtin .append,args:=#[s,x],argTypes:=#[t,t]})
  (base:Nat) (v:Value) (n:Nat) (xs:List Value) (hs:a.eval s=v) (hown:w.ownsRow base e size v n xs)
  (A:Option Addr) (m c:Nat) (us:List Value) (hx:a.eval x=.slice A m c) (hr:Rd w A us) (hus:us.length=m*size) (h1:∀u∈us,u.oneCell'=true)
  (hb:(n+m)*i≤140737488355328) (h63:n+m≤maxLen) (hbase:base≤w.heap.size)
  (h:∀q p j,j.ownsRow base e size (.slice q (n+m) p) (n+m) (xs++us)→Below base w j→w.grownBy j v.ownBlock→((Value.slice q (n+m) p).ownBlock=v.ownBlock∨(Value.slice q (n+m) p).ownBlock=some w.heap.size)→wpList P ops Q rest (a.put o.dst (.slice q (n+m) p)) j):
  wpList P ops Q (o::rest) a w:=by
 refine wpList_plain B fun N C=>?_
 obtain ⟨v',j,y,D,L,I,J⟩:=zA T w base o.type v n xs hown A m c us hr hus h1 hb h63 hbase
 obtain ⟨q,p,rfl,_⟩:=aw D
 unfold Oper.wp
 simp [execOp,H,resolve,invoke,builtin,hs,hx,y,Result.andThen]
 exact C _ _ (h q p j D L I J)
theorem ij {P:Program} {t e:TypeId} {z:Value} {size i:Nat} (T:dq P t e z size i) {w:World} {ops:Array Oper} {o:Oper} {a:Act} {K:Act→World→Prop} {Q:Exit→Act→World→Prop} {E:Prop}
  (B:o.guard=none) (s x:Operand) (D:o.op=.call {callee:=.builtin .append,args:=#[s,x],argTypes:=#[t,t]})
  (base:Nat) (v:Value) (n:Nat) (xs:List Value) (hs:a.eval s=v) (hown:w.ownsRow base e size v n xs)
  (A:Option Addr) (m c:Nat) (us:List Value) (hx:a.eval x=.slice A m c) (hr:Rd w A us) (hus:us.length=m*size) (h1:∀u∈us,u.oneCell'=true)
  (hb:(n+m)*i≤140737488355328) (h63:n+m≤maxLen) (hbase:base≤w.heap.size)
  (h:∀q p j,j.ownsRow base e size (.slice q (n+m) p) (n+m) (xs++us)→Below base w j→w.grownBy j v.ownBlock→((Value.slice q (n+m) p).ownBlock=v.ownBlock∨(Value.slice q (n+m) p).ownBlock=some w.heap.size)→K (a.put o.dst (.slice q (n+m) p)) j):
  if Region.wanted o (yielded ops a.tmps)=true then Oper.wp P o a w K Q else E:=by
 have hw:Region.wanted o (yielded ops a.tmps)=true:=by simp [Region.wanted,B]
 rw [if_pos hw]
 obtain ⟨v',j,y,C,J,H,I⟩:=zA T w base o.type v n xs hown A m c us hr hus h1 hb h63 hbase
 obtain ⟨q,p,rfl,_⟩:=aw C
 unfold Oper.wp
 simp [execOp,D,resolve,invoke,builtin,hs,hx,y,Result.andThen]
 exact h q p j C J H I
theorem fq (w:World) (e:TypeId) (size:Nat):(w.alloc (.cells #[] e)).ownsRow w.heap.size e size (.slice (some ⟨w.heap.size,0,none⟩) 0 0) 0 []:=
 World.ownsRow_made w #[] 0 (JD _) (by unfold maxLen;omega) (by simp)
theorem se {P:Program} {t e:TypeId} {z:Value} {j:Nat} (T:dq P t e z 1 j) (w:World) {ops:Array Oper} {rest:List Oper} {o:Oper} {a:Act} {Q:Exit→Act→World→Prop}
  (hg:o.guard=none) (l c:Operand) (hop:o.op=Op.makeSlice t l c) (A:z.cells=#[z])
  (n:Nat) (hl:a.eval l=KL (n:Int)) (hc:a.eval c=KL (n:Int)) (D:j*n≤281474976710656) (b3:n≤maxLen)
  (C:∀u,u.ownsRow w.heap.size e 1 (.slice (some ⟨w.heap.size,0,none⟩) n n) n (List.replicate n z)→Below w.heap.size w u→
   wpList P ops Q rest (a.put o.dst (.slice (some ⟨w.heap.size,0,none⟩) n n)) u):wpList P ops Q (o::rest) a w:=by
 obtain ⟨i,H,x,y,v⟩:=T.info
 refine wpList_make_full w hg l c t hop w.heap.size e i z 1 T.und H x y .i64 .i64 n n n hl hc rfl rfl (by rw [v];exact D) b3 (JD _) ?_
 intro u q p
 rw [A,Nat.mul_one,toList_madeCells_one] at q
 exact C u q ⟨p.os,p.tape,p.output,p.size,fun k B=>p.block k B (by simp)⟩
def Cs (w:World) (b:Nat):Nat→List Value→Prop
 | _,[]=>True
 | i,v::vs=>w.cell? ⟨b,i,none⟩=some v∧Cs w b (i+1) vs
theorem In (w:World) (b:Nat) (o:List Value) (hc:∀j,w.cell? ⟨b,j,none⟩=o[j]?):∀(vs:List Value) (i:Nat),(∀j,vs[j]?=o[i+j]?)→Cs w b i vs
 | [],_,_=>trivial
 | v::vs,i,h=>⟨by rw [hc];exact (h 0).symm,In w b o hc vs (i+1) fun j=>by have:=h (j+1);simpa [Ky,Nat.add_comm 1 j] using this⟩
def Bx (w:World) (b:Nat) (vs:List Value):Prop:=Cs w b 0 vs∧b<w.heap.size∧∀j,w.frozen? ⟨b,j,none⟩=false
theorem bx {w:World} {b:Nat} {vs:List Value} {t:TypeId} (h:w.heap[b]?=some (.cells vs.toArray t (0,0))):Bx w b vs:=
 ⟨In w b vs (fun j=>by rw [JF w b j _ _ _ h];simp) vs 0 (fun j=>by simp),JC h,fun j=>JM w b j _ _ h⟩
theorem bx1 {w:World} {b:Nat} {t:TypeId} {v0:Value} (h:w.heap[b]?=some (.cells #[v0] t (0,0))):(w.cell? ⟨b,0,none⟩=some v0)∧∀j,w.frozen? ⟨b,j,none⟩=false:=by
 have:=bx (vs:=[v0]) h;simp only [Bx,Cs,Nat.reduceAdd,and_true] at this;exact ⟨this.1,this.2.2⟩
theorem bx2 {w:World} {b:Nat} {t:TypeId} {v0 v1:Value} (h:w.heap[b]?=some (.cells #[v0,v1] t (0,0))):(w.cell? ⟨b,0,none⟩=some v0∧w.cell? ⟨b,1,none⟩=some v1)∧∀j,w.frozen? ⟨b,j,none⟩=false:=by
 have:=bx (vs:=[v0,v1]) h;simp only [Bx,Cs,Nat.reduceAdd,and_true] at this;exact ⟨this.1,this.2.2⟩
theorem bx3 {w:World} {b:Nat} {t:TypeId} {v0 v1 v2:Value} (h:w.heap[b]?=some (.cells #[v0,v1,v2] t (0,0))):(w.cell? ⟨b,0,none⟩=some v0∧w.cell? ⟨b,1,none⟩=some v1∧w.cell? ⟨b,2,none⟩=some v2)∧∀j,w.frozen? ⟨b,j,none⟩=false:=by
 have:=bx (vs:=[v0,v1,v2]) h;simp only [Bx,Cs,Nat.reduceAdd,and_true] at this;exact ⟨this.1,this.2.2⟩
theorem bx4 {w:World} {b:Nat} {t:TypeId} {v0 v1 v2 v3:Value} (h:w.heap[b]?=some (.cells #[v0,v1,v2,v3] t (0,0))):(w.cell? ⟨b,0,none⟩=some v0∧w.cell? ⟨b,1,none⟩=some v1∧w.cell? ⟨b,2,none⟩=some v2∧w.cell? ⟨b,3,none⟩=some v3)∧∀j,w.frozen? ⟨b,j,none⟩=false:=by
 have:=bx (vs:=[v0,v1,v2,v3]) h;simp only [Bx,Cs,Nat.reduceAdd,and_true] at this;exact ⟨this.1,this.2.2⟩
theorem bx5 {w:World} {b:Nat} {t:TypeId} {v0 v1 v2 v3 v4:Value} (h:w.heap[b]?=some (.cells #[v0,v1,v2,v3,v4] t (0,0))):(w.cell? ⟨b,0,none⟩=some v0∧w.cell? ⟨b,1,none⟩=some v1∧w.cell? ⟨b,2,none⟩=some v2∧w.cell? ⟨b,3,none⟩=some v3∧w.cell? ⟨b,4,none⟩=some v4)∧∀j,w.frozen? ⟨b,j,none⟩=false:=by
 have:=bx (vs:=[v0,v1,v2,v3,v4]) h;simp only [Bx,Cs,Nat.reduceAdd,and_true] at this;exact ⟨this.1,this.2.2⟩
theorem bx6 {w:World} {b:Nat} {t:TypeId} {v0 v1 v2 v3 v4 v5:Value} (h:w.heap[b]?=some (.cells #[v0,v1,v2,v3,v4,v5] t (0,0))):(w.cell? ⟨b,0,none⟩=some v0∧w.cell? ⟨b,1,none⟩=some v1∧w.cell? ⟨b,2,none⟩=some v2∧w.cell? ⟨b,3,none⟩=some v3∧w.cell? ⟨b,4,none⟩=some v4∧w.cell? ⟨b,5,none⟩=some v5)∧∀j,w.frozen? ⟨b,j,none⟩=false:=by
 have:=bx (vs:=[v0,v1,v2,v3,v4,v5]) h;simp only [Bx,Cs,Nat.reduceAdd,and_true] at this;exact ⟨this.1,this.2.2⟩
theorem bx9 {w:World} {b:Nat} {t:TypeId} {v0 v1 v2 v3 v4 v5 v6 v7 v8:Value} (h:w.heap[b]?=some (.cells #[v0,v1,v2,v3,v4,v5,v6,v7,v8] t (0,0))):(w.cell? ⟨b,0,none⟩=some v0∧w.cell? ⟨b,1,none⟩=some v1∧w.cell? ⟨b,2,none⟩=some v2∧w.cell? ⟨b,3,none⟩=some v3∧w.cell? ⟨b,4,none⟩=some v4∧w.cell? ⟨b,5,none⟩=some v5∧w.cell? ⟨b,6,none⟩=some v6∧w.cell? ⟨b,7,none⟩=some v7∧w.cell? ⟨b,8,none⟩=some v8)∧∀j,w.frozen? ⟨b,j,none⟩=false:=by
 have:=bx (vs:=[v0,v1,v2,v3,v4,v5,v6,v7,v8]) h;simp only [Bx,Cs,Nat.reduceAdd,and_true] at this;exact ⟨this.1,this.2.2⟩
theorem jN {w:World} {b:Nat} {t:TypeId} {v0 v1 v2 v3 v4 v5 v6 v7 v8 v9 v10 v11:Value} (h:w.heap[b]?=some (.cells #[v0,v1,v2,v3,v4,v5,v6,v7,v8,v9,v10,v11] t (0,0))):(w.cell? ⟨b,0,none⟩=some v0∧w.cell? ⟨b,1,none⟩=some v1∧w.cell? ⟨b,2,none⟩=some v2∧w.cell? ⟨b,3,none⟩=some v3∧w.cell? ⟨b,4,none⟩=some v4∧w.cell? ⟨b,5,none⟩=some v5∧w.cell? ⟨b,6,none⟩=some v6∧w.cell? ⟨b,7,none⟩=some v7∧w.cell? ⟨b,8,none⟩=some v8∧w.cell? ⟨b,9,none⟩=some v9∧w.cell? ⟨b,10,none⟩=some v10∧w.cell? ⟨b,11,none⟩=some v11)∧∀j,w.frozen? ⟨b,j,none⟩=false:=by
 have:=bx (vs:=[v0,v1,v2,v3,v4,v5,v6,v7,v8,v9,v10,v11]) h;simp only [Bx,Cs,Nat.reduceAdd,and_true] at this;exact ⟨this.1,this.2.2⟩
theorem uC {w:World} {b:Nat} {t:TypeId} {v0 v1 v2 v3 v4 v5 v6 v7 v8 v9 v10 v11 i:Value} (h:w.heap[b]?=some (.cells #[v0,v1,v2,v3,v4,v5,v6,v7,v8,v9,v10,v11,i] t (0,0))):(w.cell? ⟨b,0,none⟩=some v0∧w.cell? ⟨b,1,none⟩=some v1∧w.cell? ⟨b,2,none⟩=some v2∧w.cell? ⟨b,3,none⟩=some v3∧w.cell? ⟨b,4,none⟩=some v4∧w.cell? ⟨b,5,none⟩=some v5∧w.cell? ⟨b,6,none⟩=some v6∧w.cell? ⟨b,7,none⟩=some v7∧w.cell? ⟨b,8,none⟩=some v8∧w.cell? ⟨b,9,none⟩=some v9∧w.cell? ⟨b,10,none⟩=some v10∧w.cell? ⟨b,11,none⟩=some v11∧w.cell? ⟨b,12,none⟩=some i)∧∀j,w.frozen? ⟨b,j,none⟩=false:=by
 have:=bx (vs:=[v0,v1,v2,v3,v4,v5,v6,v7,v8,v9,v10,v11,i]) h;simp only [Bx,Cs,Nat.reduceAdd,and_true] at this;exact ⟨this.1,this.2.2⟩
theorem Fu {w:World} {b:Nat} {t:TypeId} {v0 v1 v2 v3 v4 v5 v6 v7 v8 v9 v10 v11 o i:Value} (h:w.heap[b]?=some (.cells #[v0,v1,v2,v3,v4,v5,v6,v7,v8,v9,v10,v11,o,i] t (0,0))):(w.cell? ⟨b,0,none⟩=some v0∧w.cell? ⟨b,1,none⟩=some v1∧w.cell? ⟨b,2,none⟩=some v2∧w.cell? ⟨b,3,none⟩=some v3∧w.cell? ⟨b,4,none⟩=some v4∧w.cell? ⟨b,5,none⟩=some v5∧w.cell? ⟨b,6,none⟩=some v6∧w.cell? ⟨b,7,none⟩=some v7∧w.cell? ⟨b,8,none⟩=some v8∧w.cell? ⟨b,9,none⟩=some v9∧w.cell? ⟨b,10,none⟩=some v10∧w.cell? ⟨b,11,none⟩=some v11∧w.cell? ⟨b,12,none⟩=some o∧w.cell? ⟨b,13,none⟩=some i)∧∀j,w.frozen? ⟨b,j,none⟩=false:=by
 have:=bx (vs:=[v0,v1,v2,v3,v4,v5,v6,v7,v8,v9,v10,v11,o,i]) h;simp only [Bx,Cs,Nat.reduceAdd,and_true] at this;exact ⟨this.1,this.2.2⟩
theorem jM {w:World} {b:Nat} {t:TypeId} {v0 v1 v2 v3 v4 v5 v6 v7 v8 v9 v10 v11 p o i:Value} (h:w.heap[b]?=some (.cells #[v0,v1,v2,v3,v4,v5,v6,v7,v8,v9,v10,v11,p,o,i] t (0,0))):(w.cell? ⟨b,0,none⟩=some v0∧w.cell? ⟨b,1,none⟩=some v1∧w.cell? ⟨b,2,none⟩=some v2∧w.cell? ⟨b,3,none⟩=some v3∧w.cell? ⟨b,4,none⟩=some v4∧w.cell? ⟨b,5,none⟩=some v5∧w.cell? ⟨b,6,none⟩=some v6∧w.cell? ⟨b,7,none⟩=some v7∧w.cell? ⟨b,8,none⟩=some v8∧w.cell? ⟨b,9,none⟩=some v9∧w.cell? ⟨b,10,none⟩=some v10∧w.cell? ⟨b,11,none⟩=some v11∧w.cell? ⟨b,12,none⟩=some p∧w.cell? ⟨b,13,none⟩=some o∧w.cell? ⟨b,14,none⟩=some i)∧∀j,w.frozen? ⟨b,j,none⟩=false:=by
 have:=bx (vs:=[v0,v1,v2,v3,v4,v5,v6,v7,v8,v9,v10,v11,p,o,i]) h;simp only [Bx,Cs,Nat.reduceAdd,and_true] at this;exact ⟨this.1,this.2.2⟩
theorem sb {w:World} {b:Nat} {x:Obj} (h:w.heap[b]?=some x):∀i,Below w.heap.size w i→i.heap[b]?=some x:=fun _ q=>(q.block b (JC h)).trans h
theorem sl {w:World} {b:Nat} {x:Obj} (h:w.heap[b]?=some x):∀i,Below w.heap.size w i→b<i.heap.size:=fun i q=>JK (JC h) q.size
theorem bt {a b c:World} (h:Below a.heap.size a b) (k:Below b.heap.size b c):Below a.heap.size a c:=h.trans (k.mono h.size)
theorem br (w:World):Below w.heap.size w w:=JG _ w
theorem ss {w:World} {b i:Nat} {t:TypeId} {v:Value} {j cs':Array Value} (h:w.heap[b]?=some (.cells j t (0,0))) (e:j.setIfInBounds i v=cs':=by simp):(w.setCell ⟨b,i,none⟩ v).heap[b]?=some (.cells cs' t (0,0)):=by
 subst e;exact KG w b i j t v h
theorem ss2 {w:World} {b i j:Nat} {t:TypeId} {v u:Value} {o cs':Array Value} (h:w.heap[b]?=some (.cells o t (0,0))) (e:(o.setIfInBounds i v).setIfInBounds j u=cs':=by simp):((w.setCell ⟨b,i,none⟩ v).setCell ⟨b,j,none⟩ u).heap[b]?=some (.cells cs' t (0,0)):=ss (ss h rfl) e
theorem ss3 {w:World} {b i j k:Nat} {t:TypeId} {v u x:Value} {o cs':Array Value} (h:w.heap[b]?=some (.cells o t (0,0))) (e:((o.setIfInBounds i v).setIfInBounds j u).setIfInBounds k x=cs':=by simp):(((w.setCell ⟨b,i,none⟩ v).setCell ⟨b,j,none⟩ u).setCell ⟨b,k,none⟩ x).heap[b]?=some (.cells cs' t (0,0)):=ss (ss2 h rfl) e
end Go.Proofs.YtaccfnffmbndhaaGreat
namespace Go.Proofs.YtaccfnffmbndhaaGreat
open Go.RowKit Go.ChangeShapes Go.WideShapes Go.ChangeAt
abbrev dD (α:Type):=World→List Value→α→Prop
def AA {α:Type} (R:dD α):Prop:=∀{w w':World} {cs:List Value} {a:α},Below w.heap.size w w'→R w cs a→R w' cs a
def bq (l:List (List Value)) (j:Nat):List Value:=l.getD j []
theorem oE {l:List (List Value)} {j:Nat} (h:j<l.length):bq l j=l[j]:=by simp [bq,h]
theorem lD {j:List (List Value)} {k:Nat} (h:∀r∈j,r.length=k) (i t:Nat) (o:i<j.length) (p:t<k):(List.flatten j)[i*k+t]?=(bq j i)[t]?:=by
 induction j generalizing i with
 | nil=>simp at o
 | cons r l ih=>
  have hr:r.length=k:=h r (by simp)
  cases i with
  | zero=>
   rw [List.flatten_cons,Nat.zero_mul,Kz,Ki (by omega)]
   simp [bq]
  | succ i=>
   rw [List.flatten_cons,Kj (by rw [hr,Nat.add_mul];omega),hr,show (i+1)*k+t-k=i*k+t by rw [Nat.add_mul];omega,ih (fun r hr=>h r (by simp [hr])) i (by simpa using o)]
   simp [bq]
theorem EN {i:List (List Value)} {k:Nat} (h:∀r∈i,r.length=k):(List.flatten i).length=i.length*k:=by
 induction i with
 | nil=>simp
 | cons r l ih=>rw [List.flatten_cons,Kf,h r (by simp),ih (fun r hr=>h r (by simp [hr])),List.length_cons,Nat.add_mul];omega
theorem CB {i:List (List Value)} {k:Nat} (h:∀r∈i,r.length=k):∀n,(List.flatten i).drop (n*k)=List.flatten (i.drop n):=by
 induction i with
 | nil=>intro n;simp
 | cons r l ih=>
  intro n
  cases n with
  | zero=>simp
  | succ n=>
   have hr:=h r (by simp)
   rw [List.flatten_cons,List.drop_append,List.drop_of_length_le (by rw [hr,Nat.add_mul];omega),List.nil_append,hr,show (n+1)*k-k=n*k by rw [Nat.add_mul];omega,ih (fun r hr=>h r (by simp [hr])) n,Kc]
theorem Cz {i:List (List Value)} {k:Nat} (h:∀r∈i,r.length=k):∀n,(List.flatten i).take (n*k)=List.flatten (i.take n):=by
 induction i with
 | nil=>intro n;simp
 | cons r l ih=>
  intro n
  cases n with
  | zero=>simp
  | succ n=>
   have hr:=h r (by simp)
   rw [List.flatten_cons,List.take_append,List.take_of_length_le (by rw [hr,Nat.add_mul];omega),hr,show (n+1)*k-k=n*k by rw [Nat.add_mul];omega,ih (fun r hr=>h r (by simp [hr])) n,List.take_succ_cons,List.flatten_cons]
def cE {α:Type} (R:dD α) (size:Nat) (w:World) (A:Option Addr) (l:List α):Prop:=
 ∃i,Rd w A (List.flatten i)∧i.length=l.length∧(∀r∈i,r.length=size)∧∀j x,l[j]?=some x→R w (bq i j) x
def rSl {α:Type} (R:dD α) (size:Nat):dD (List α):=fun w i l=>∃A c,i=[.slice A l.length c]∧l.length≤c∧c≤9223372036854775807∧l.length≤17592186043904∧cE R size w A l
def Gi (k:IntKind):dD Int:=fun _ i n=>i=[.int k n]∧(Lit.int k n).wf=true
def DZ:dD Bool:=fun _ i b=>i=[.bool b]
def zJ (q:IntKind):dD (List Int):=fun w i zs=>∃A c,i=[.slice A zs.length c]∧zs.length≤c∧c≤9223372036854775807∧zs.length≤17592186043904∧Rd w A (aq q zs)∧∀z∈zs,(Lit.int q z).wf=true
section
variable {α:Type} {R:dD α} {size:Nat} {w w':World} {A:Option Addr} {l:List α}
theorem cE.below (hR:AA R) (h:cE R size w A l) (o:Below w.heap.size w w'):cE R size w' A l:=by
 obtain ⟨i,h1,p,u,q⟩:=h
 exact ⟨i,h1.below o,p,u,fun j x hx=>hR o (q j x hx)⟩
theorem cE.nil (R:dD α) (size:Nat) (w:World) (A:Option Addr):cE R size w A []:=⟨[],Rd.nil _ _,rfl,by simp,by simp⟩
theorem cE.get (h:cE R size w A l) (hs:0<size) {j:Nat} {x:α} (hx:l[j]?=some x):
  ∃b o v,A=some ⟨b,o,none⟩∧b<w.heap.size∧v.length=size∧R w v x∧w.cell? ⟨b,o+j*size,none⟩=v[0]?∧∀t,t<size→w.cell? ⟨b,o+j*size+t,none⟩=v[t]?:=by
 obtain ⟨i,h1,I,D,J⟩:=h
 have q:j<i.length:=by rw [I];exact (Kg.1 hx).1
 have y:(bq i j).length=size:=D _ (by rw [oE q];exact List.getElem_mem q)
 have p:∀t,t<size→∃u,(bq i j)[t]?=some u:=fun t B=>⟨_,Kh (by omega)⟩
 obtain ⟨L,H⟩:=p 0 hs
 obtain ⟨b,o,rfl,c0⟩:=h1 (j*size+0) L ((lD D j 0 q hs).trans H)
 have hc:∀t,t<size→w.cell? ⟨b,o+j*size+t,none⟩=(bq i j)[t]?:=fun t B=>by
  obtain ⟨u,hu⟩:=p t B
  obtain ⟨N,O,C,c⟩:=h1 (j*size+t) u ((lD D j t q B).trans hu)
  injection C with C;injection C with e1 e2 _
  subst e1;subst e2
  rw [Ky,c,hu]
 refine ⟨b,o,bq i j,rfl,ar c0,y,J j x hx,?_,hc⟩
 have:=hc 0 hs
 rwa [Nat.add_zero] at this
theorem cE.drop (h:cE R size w A l) (hs:0<size) (n:Nat) (q:Option Addr) (hA:∀b o,A=some ⟨b,o,none⟩→q=some ⟨b,o+n*size,none⟩):cE R size w q (l.drop n):=by
 by_cases hn:n<l.length
 ·obtain ⟨b,o,_,rfl,_⟩:=h.get hs (Kh (show 0<l.length by omega))
  obtain rfl:=hA b o rfl
  obtain ⟨i,h1,u,p,v⟩:=h
  refine ⟨i.drop n,?_,by simp [u],fun r hr=>p r (List.mem_of_mem_drop hr),fun j x hx=>?_⟩
  ·rw [←CB p];exact h1.drop _
  ·have:=v (n+j) x (by simpa using hx)
   simpa [bq] using this
 ·rw [List.drop_of_length_le (by omega)];exact cE.nil _ _ _ _
theorem cE.take (h:cE R size w A l) (n:Nat):cE R size w A (l.take n):=by
 obtain ⟨i,h1,q,o,u⟩:=h
 refine ⟨i.take n,?_,by simp [q],fun r hr=>o r (List.mem_of_mem_take hr),fun j x hx=>?_⟩
 ·rw [←Cz o];exact h1.take _
 ·rw [List.getElem?_take] at hx
  split at hx
  ·rename_i p
   have:=u j x hx
   simpa [bq,List.getElem?_take,p] using this
  ·cases hx
end
def iC {H:Type} (P:Program) (t:TypeId) (d:DataW H):Prop:=∀n∈d.weights P t,n≤140737488351232
theorem Cl {H:Type} {P:Program} {e:TypeId}:∀{l:List (DataW H)},(∀n∈DataW.weightsAll P e l,n≤140737488351232)→∀(i:Nat) (d:DataW H),l[i]?=some d→iC P e d:=by
 intro l
 induction l with
 | nil=>intro _ i d h;simp at h
 | cons x r ih=>
  intro h i d j
  unfold DataW.weightsAll at h
  cases i with
  | zero=>
   simp at j;subst j
   exact fun n hn=>h n (Kv.2 (.inl hn))
  | succ i=>exact ih (fun n hn=>h n (Kv.2 (.inr hn))) i d (by simpa using j)
theorem qX {H:Type} {P:Program}:∀{j:List TypeId} {l:List (DataW H)},(∀n∈DataW.weightsEach P j l,n≤140737488351232)→∀(i:Nat) (t:TypeId) (d:DataW H),j[i]?=some t→l[i]?=some d→iC P t d:=by
 intro j
 induction j with
 | nil=>intro l _ i t d h;simp at h
 | cons t0 j ih=>
  intro l h i t d p o
  cases l with
  | nil=>simp at o
  | cons x r=>
   unfold DataW.weightsEach at h
   cases i with
   | zero=>
    simp at p o;subst p;subst o
    exact fun n hn=>h n (Kv.2 (.inl hn))
   | succ i=>exact ih (fun n hn=>h n (Kv.2 (.inr hn))) i t d (by simpa using p) (by simpa using o)
theorem ku {H:Type} {P:Program} {j:List TypeId} {l:List (DataW H)} (h:(DataW.weightsEach P j l).all (· ≤reachBytes)=true) {i:Nat} {t:TypeId} {d:DataW H} (q:j[i]?=some t) (o:l[i]?=some d):iC P t d:=
 qX (fun n hn=>by have p:n≤reachBytes:=of_decide_eq_true (List.all_eq_true.1 h n hn);exact p) i t d q o
def fR (P:Program) (t:TypeId) (size:Nat) {α:Type} (R:dD α):Prop:=
 P.cellsOf t=size∧∀{H:Type} {enc:TypeId×Value→H} {W:World} {fuel:Nat} {cs:List Value} {x:DataW H×List MemPlace},DataW.trod enc P W 0 (fun _=>true) true fuel t cs=some x→iC P t x.1→cs.length=size∧∃a,R W cs a
theorem oL {P:Program} {t:TypeId} {k:IntKind} (i:P.underlying t=some (.int k)) (hc:P.cellsOf t=1):fR P t 1 (Gi k):=⟨hc,fun h _=>by
 obtain ⟨n,rfl,_,hw⟩:=DataW.trod_int i h
 exact ⟨rfl,n,rfl,hw⟩⟩
theorem yz {P:Program} {t:TypeId} (i:P.underlying t=some .bool) (hc:P.cellsOf t=1):fR P t 1 DZ:=⟨hc,fun h _=>by
 obtain ⟨b,rfl,_⟩:=DataW.trod_bool i h
 exact ⟨rfl,b,rfl⟩⟩
theorem zH {w:World} {a:Addr} {xs:List Value} (h:∀i u,xs[i]?=some u→w.cell? (a.add i)=some u):Rd w (some a) xs:=fun k u hu=>by
 have A:∃p,xs[0]?=some p:=by
  have:=(Kg.1 hu).1
  exact ⟨xs[0],Kh (by omega)⟩
 obtain ⟨p,q⟩:=A
 have j:=h 0 p q
 have e:a.add 0=a:=by simp [Addr.add]
 rw [e] at j
 have y:a=⟨a.block,a.off,none⟩:=by
  obtain ⟨b,o,s⟩:=a
  unfold World.cell? at j
  split at j
  ·cases s with
   | none=>rfl
   | some x=>simp at j
  ·cases j
 refine ⟨a.block,a.off,by rw [←y],?_⟩
 have v:=h k u hu
 rw [y,Addr.add_lit] at v
 exact v
theorem mV {P:Program} {t e:TypeId} {q:IntKind} (C:P.underlying t=some (.slice e)) (he:P.underlying e=some (.int q)) (hc:P.cellsOf e=1) (I:P.cellsOf t=1) (Q:P.bytesOf e=8):fR P t 1 (zJ q):=⟨I,fun {H T W L R y} h B=>by
 have v:∀a l c,R=[.slice a l c]→l≤17592186043904:=fun a l c hcs=>by
  rcases Go.Deep.open_slice C h with ⟨j,_⟩ | ⟨V,U,cap,m,n,D,Pl,j,_,hl,_,O,hx,_⟩
  ·rw [hcs] at j;injection j with j;injection j with _ j;omega
  ·rw [hcs] at j;injection j with j;injection j with _ j;subst j
   have hw:=B ((l+(m-l))*8) (by rw [hx];simp [DataW.weights,C,Q])
   omega
 rcases open_ints C he hc h with ⟨rfl,_⟩ | ⟨x,l,c,zs,rfl,_,hl,hm,A,_,p,J⟩
 ·exact ⟨rfl,[],none,0,rfl,JD _,by omega,by simp,Rd.nil _ _,by simp⟩
 ·have N:=v _ _ _ rfl
  refine ⟨rfl,zs.take l,some x,c,?_,by simp;omega,by unfold maxLen at hm;exact hm,by simp;omega,?_,fun z A=>J z (List.mem_of_mem_take A)⟩
  ·rw [Kk];simp at A;rw [Nat.min_eq_left (by omega)]
  ·refine zH fun i u hu=>?_
   rw [←cK,List.getElem?_take] at hu
   split at hu
   ·rename_i X
    have o:i<zs.length:=by simp at A;omega
    rw [li q zs i o] at hu
    rw [p i o,←hu,dI zs i o]
    simp [List.getD,o]
   ·cases hu⟩
theorem pN {P:Program} {t e:TypeId} {size:Nat} {α:Type} {R:dD α} (U:P.underlying t=some (.slice e)) (hR:fR P e size R) (Y:P.cellsOf t=1) (hb:8≤P.bytesOf e):fR P t 1 (rSl R size):=⟨Y,fun {H a4 W a2 cs x} h p=>by
 rcases Go.Deep.open_slice U h with ⟨rfl,_⟩ | ⟨a,o,cap,m,n,D,Pl,rfl,_,hl,hm,I,hx,hi⟩
 ·exact ⟨rfl,[],none,0,rfl,JD _,by omega,by simp,cE.nil _ _ _ _⟩
 ·simp at I
  subst I
  obtain ⟨a0,hop⟩:=hR
  rw [a0] at hi
  have L:o≤17592186043904:=by
   have hw:=p ((o+(m-o))*P.bytesOf e) (by rw [hx];simp [DataW.weights,U])
   have:=Nat.mul_le_mul_left (o+(m-o)) hb
   omega
  have X:∀i,i<o→iC P e (D i):=fun i a1=>by
   refine Cl (l:=(List.range o).map D) (fun n hn=>p n ?_) i (D i) (by simp [a1])
   rw [hx];simp only [DataW.weights,U]
   exact List.mem_cons_of_mem _ (Kv.2 (.inl hn))
  classical
  have A:∀i,i<o→∃cs' x,W.cells? 0 (a.add (i*size)) size=some cs'∧cs'.length=size∧R W cs' x:=fun i p=>by
   obtain ⟨cs',h1,T⟩:=hi i (by omega)
   obtain ⟨N,x,h4⟩:=hop T (X i p)
   exact ⟨cs',x,h1,N,h4⟩
  let q:Nat→List Value:=fun i=>if p:i<o then Classical.choose (A i p) else []
  have v:∀i (p:i<o),∃x,W.cells? 0 (a.add (i*size)) size=some (q i)∧(q i).length=size∧R W (q i) x:=fun i p=>by
   have:=Classical.choose_spec (A i p)
   simp only [q,dif_pos p]
   exact this
  let el:(i:Nat)→i<o→α:=fun i p=>Classical.choose (v i p)
  let l:List α:=List.ofFn (n:=o) fun i=>el i.1 i.2
  have y:l.length=o:=by simp [l]
  refine ⟨rfl,l,some a,m,by rw [y],by rw [y];exact hl,by unfold maxLen at hm;exact hm,by rw [y];exact L,(List.range o).map q,?_,by simp [l],?_,?_⟩
  ·have N:∀r∈(List.range o).map q,r.length=size:=by
    intro r hr
    obtain ⟨i,C,rfl⟩:=List.mem_map.1 hr
    obtain ⟨x,_,h,_⟩:=v i (List.mem_range.1 C)
    exact h
   refine zH fun i u hu=>?_
   have p:=(Kg.1 hu).1
   rw [EN N,List.length_map,List.length_range] at p
   have B:0<size:=by
    rcases Nat.eq_zero_or_pos size with h | h
    ·rw [h] at p;omega
    ·exact h
   have J:i=i/size*size+i%size:=by rw [Nat.mul_comm];exact (Nat.div_add_mod i size).symm
   have V:i/size<o:=Nat.div_lt_of_lt_mul (by rw [Nat.mul_comm];exact p)
   have hr:=Nat.mod_lt i B
   obtain ⟨x,Z,a3,_⟩:=v _ V
   obtain ⟨_,_,Q⟩:=World.cells?_some Z
   rw [J,lD N _ _ (by simpa using V) hr] at hu
   have e:bq ((List.range o).map q) (i/size)=q (i/size):=by simp [bq,V]
   rw [e,←Q _ hr] at hu
   rw [J]
   rw [Go.Deep.add_add] at hu
   exact hu
  ·intro r hr
   obtain ⟨i,C,rfl⟩:=List.mem_map.1 hr
   obtain ⟨x,_,h,_⟩:=v i (List.mem_range.1 C)
   exact h
  ·intro j x hx
   have hj:j<o:=by rw [←y];exact (Kg.1 hx).1
   have e:bq ((List.range o).map q) j=q j:=by simp [bq,hj]
   rw [e]
   have O:x=el j hj:=by
    have:=Kg.1 hx
    obtain ⟨h1,T⟩:=this
    rw [←T]
    simp [l]
   rw [O]
   exact (Classical.choose_spec (v j hj)).2.2⟩
theorem aY {P:Program} {t u:TypeId} {y:Array Field} {size:Nat} {α:Type} {R:dD α} (hR:fR P t size R) (o:P.underlying u=some (.struct y)) {H:Type} {q:TypeId×Value→H} {W:World} {n j:Nat} {v:List Value} {x:DataW H×List MemPlace} {xs:List (DataW H×List MemPlace)} (hx:x=(.agg (xs.map (·.1)),xs.flatMap (·.2))) (hl:iC P u x.1) {i:Nat}
  (h:DataW.trod q P W 0 (fun _=>true) true n t ((v.drop j).take (P.cellsOf t))=xs[i]?) (A:i<xs.length) (p:(y.toList.map (·.type))[i]?=some t):∃a,R W ((v.drop j).take size) a:=by
 obtain ⟨hc,hop⟩:=hR
 rw [hc,Kh A] at h
 refine (hop h ?_).2
 subst hx
 simp only [iC,DataW.weights,o] at hl
 exact qX hl i t _ p (by simp [Kh A])
theorem pO {P:Program} {t:TypeId} {size:Nat} {α:Type} {R:dD α} (hR:fR P t size R) {H:Type} {i:TypeId×Value→H} {W:World} {v:Value} {d:DataW H} {p:List MemPlace} (h:DataW.Trod i P W 0 (fun _=>true) true t v d p) (hl:iC P t d):∃a,R W v.cells.toList a∧v.cells.toList.length=size:=by
 obtain ⟨j,o⟩:=h
 obtain ⟨h1,a,q⟩:=hR.2 o hl
 exact ⟨a,q,h1⟩
end Go.Proofs.YtaccfnffmbndhaaGreat
namespace Go.Proofs.YtaccfnffmbndhaaGreat
open Go.RowKit
def fB (B:Nat) (w:World):World:={w with heap:=w.heap.mapIdx fun k o=>if k<B then .cells #[] 0 (0,0) else o}
theorem iV (B:Nat) (w:World):(fB B w).heap.size=w.heap.size:=by simp [fB]
theorem gY {B k:Nat} {w:World} (h:B≤k):(fB B w).heap[k]?=w.heap[k]?:=by
 simp only [fB,Array.getElem?_mapIdx]
 have i:¬k<B:=by omega
 simp [i]
theorem nm {B k:Nat} {w:World} (h:k<B) (i:k<w.heap.size):(fB B w).heap[k]?=some (.cells #[] 0 (0,0)):=by
 simp only [fB,Array.getElem?_mapIdx]
 simp [h,i]
theorem qo (B:Nat) (w:World):Keep (fun j=>j<B) w (fB B w):=⟨rfl,rfl,rfl,by rw [iV];exact JD _,fun k _ hn=>gY (by omega)⟩
theorem eO {w:World} {B base:Nat} {e:TypeId} {size:Nat} {v:Value} {n:Nat} {xs:List Value} (h:w.ownsRow base e size v n xs) (hB:B≤base):(fB B w).ownsRow base e size v n xs:=
 (qo B w).own h fun k i hl=>by have:=(h.lt k i).1;omega
theorem AG {B:Nat} {w o:World} (h:Below w.heap.size w o):Below (fB B w).heap.size (fB B w) (fB B o):=
 ⟨h.os,h.tape,h.output,by rw [iV,iV];exact h.size,fun k j=>by
  rw [iV] at j
  rcases JR k B with i | i
  ·rw [nm i (JK j h.size),nm i j]
  ·rw [gY i,gY i,h.block k j]⟩
def Agr (B:Nat) (u v:World):Prop:=∀k,B≤k→k<u.heap.size→v.heap[k]?=u.heap[k]?
theorem Agr.refl (B:Nat) (u:World):Agr B u u:=fun _ _ _=>rfl
theorem De {B:Nat} {u v:World} {a:Addr} {x:Value} (h:(fB B u).cell? a=some x) (hv:Agr B u v):v.cell? a=some x:=by
 have hl:=ar h
 rw [iV] at hl
 rcases JR a.block B with i | i
 ·have j:=nm (w:=u) i hl
  rw [World.cell?] at h
  simp only [j] at h
  simp at h
 ·exact (World.cell?_of_block (w:=fB B u) ((hv _ i hl).trans (gY i).symm)).trans h
theorem qp {B:Nat} {u v:World} {b:Nat} {x:Value} {xs:List Value} {t:TypeId} {j:Nat×Nat} (h:(fB B u).heap[b]?=some (.cells (x::xs).toArray t j)) (hv:Agr B u v):v.heap[b]?=some (.cells (x::xs).toArray t j):=by
 have hl:=JC h
 rw [iV] at hl
 rcases JR b B with i | i
 ·rw [nm i hl] at h
  simp at h
 ·rw [hv b i hl,←gY i];exact h
theorem j3 {B:Nat} {u v:World} {A:Option Addr} {xs:List Value} (h:Rd (fB B u) A xs) (hv:Agr B u v):Rd v A xs:=fun k x hx=>by
 obtain ⟨b,o,e,hc⟩:=h k x hx
 exact ⟨b,o,e,De hc hv⟩
theorem Az {B i:Nat} {u:World} (h:B≤i):Agr i u (fB B u):=fun k j _=>gY (by omega)
def Ext (u v:World):Prop:=∀k,k<u.heap.size→u.heap[k]?=some (.cells #[] 0 (0,0))∨v.heap[k]?=u.heap[k]?
theorem Ext.refl (u:World):Ext u u:=fun _ _=>.inr rfl
theorem ER {u v:World} {a:Addr} {x:Value} (h:u.cell? a=some x) (hv:Ext u v):v.cell? a=some x:=by
 rcases hv _ (ar h) with i | i
 ·rw [World.cell?] at h
  simp only [i] at h
  simp at h
 ·exact (World.cell?_of_block (w:=u) i).trans h
theorem rt {u v:World} {b:Nat} {x:Value} {xs:List Value} {t:TypeId} {j:Nat×Nat} (h:u.heap[b]?=some (.cells (x::xs).toArray t j)) (hv:Ext u v):v.heap[b]?=some (.cells (x::xs).toArray t j):=by
 rcases hv _ (JC h) with i | i
 ·rw [i] at h;simp at h
 ·rw [i];exact h
theorem aU {u v:World} {A:Option Addr} {xs:List Value} (h:Rd u A xs) (hv:Ext u v):Rd v A xs:=fun k x hx=>by
 obtain ⟨b,o,e,hc⟩:=h k x hx
 exact ⟨b,o,e,ER hc hv⟩
def Jj {α:Type} (R:dD α):Prop:=∀{u v:World} {cs:List Value} {x:α},R u cs x→Ext u v→R v cs x
theorem dJ {α:Type} {R:dD α} {size:Nat} {u v:World} {A:Option Addr} {l:List α} (hR:Jj R) (h:cE R size u A l) (hv:Ext u v):cE R size v A l:=by
 obtain ⟨i,h1,o,q,p⟩:=h
 exact ⟨i,aU h1 hv,o,q,fun j x hx=>hR (p j x hx) hv⟩
noncomputable def ay (S:Nat→Prop) (w:World):World:=by
 classical exact {w with heap:=w.heap.mapIdx fun k o=>if S k then .cells #[] 0 (0,0) else o}
theorem oV (S:Nat→Prop) (w:World):(ay S w).heap.size=w.heap.size:=by simp [ay]
theorem jm {S:Nat→Prop} {w:World} {k:Nat} (h:¬S k):(ay S w).heap[k]?=w.heap[k]?:=by
 simp only [ay,Array.getElem?_mapIdx]
 simp [h]
theorem ur {S:Nat→Prop} {w:World} {k:Nat} (h:S k) (i:k<w.heap.size):(ay S w).heap[k]?=some (.cells #[] 0 (0,0)):=by
 simp only [ay,Array.getElem?_mapIdx]
 simp [h,i]
theorem cJ (S:Nat→Prop) (w:World):Ext (ay S w) w:=fun k i=>by
 rw [oV] at i
 by_cases h:S k
 ·exact .inl (ur h i)
 ·exact .inr (jm h).symm
theorem cu {S S':Nat→Prop} {w i:World} (j:Keep S w i) (hs:∀k,k<w.heap.size→S' k→S k):Ext (ay S w) (ay S' i):=fun k hl=>by
 rw [oV] at hl
 by_cases h:S k
 ·exact .inl (ur h hl)
 ·exact .inr (by rw [jm h,jm (fun e=>h (hs k hl e)),j.block k hl h])
theorem cX {S:Nat→Prop} {w i:World} (j:Below w.heap.size w i):Ext (ay S w) (ay S i):=cu (Keep.below j) fun _ _ h=>h
theorem EQ {B:Nat} {S:Nat→Prop} {u w:World} (i:∀k,B≤k→k<u.heap.size→w.heap[k]?=u.heap[k]?) (hs:∀k,B≤k→k<u.heap.size→¬S k):Ext (fB B u) (ay S w):=fun k hl=>by
 rw [iV] at hl
 rcases JR k B with h | h
 ·exact .inl (nm h hl)
 ·exact .inr (by rw [jm (hs k h hl),i k h hl,gY h])
theorem kh {S:Nat→Prop} {w:World} {A:Option Addr} {xs:List Value} (h:Rd w A xs) (hA:∀y,A=some y→¬S y.block):Rd (ay S w) A xs:=fun k x hx=>by
 obtain ⟨b,o,e,hc⟩:=h k x hx
 have hl:=ar hc
 exact ⟨b,o,e,(World.cell?_of_block (w:=w) (a:=⟨b,o+k,none⟩) (jm (show ¬S b from hA _ e))).trans hc⟩
def eL (a b q:Int):Int:=if q<0∨62<q then 0 else wrap64 (a*b/2^q.toNat)
def uw (x:Int):Int:=x%18446744073709551616
theorem pC (x:Int):0≤uw x∧uw x<18446744073709551616:=by unfold uw;omega
theorem gH (x:Int): -9223372036854775808≤wrap64 x∧wrap64 x≤9223372036854775807:=by unfold wrap64;omega
theorem oh (x:Int):wrap64 (uw x)=wrap64 x:=by unfold wrap64 uw;omega
theorem sd {x y:Int} (h:∃k:Int,x=y+k*18446744073709551616):wrap64 x=wrap64 y:=by
 obtain ⟨k,rfl⟩:=h
 unfold wrap64;omega
theorem lI {x:Int} (h1: -9223372036854775808≤x) (i:x≤9223372036854775807):wrap64 x=x:=by unfold wrap64;omega
def ed (a b:Int):Int:=a*b/18446744073709551616
def fY (a b:Int):Int:=uw (a*b)
theorem Gk (a b:Int):ed a b*18446744073709551616+fY a b=a*b:=by unfold ed fY uw;omega
theorem Ek {a b:Int} (o: -9223372036854775808≤a∧a≤9223372036854775807) (p: -9223372036854775808≤b∧b≤9223372036854775807): -85070591730234615865843651857942052864≤a*b∧a*b≤85070591730234615865843651857942052864:=by
 have h1:a.natAbs≤9223372036854775808:=by omega
 have i:b.natAbs≤9223372036854775808:=by omega
 have j:=Nat.mul_le_mul h1 i
 rw [←Int.natAbs_mul] at j
 omega
theorem iM {a b:Int} (i: -9223372036854775808≤a∧a≤9223372036854775807) (j: -9223372036854775808≤b∧b≤9223372036854775807): -9223372036854775808≤ed a b∧ed a b≤9223372036854775807:=by
 have:=Ek i j
 unfold ed;omega
theorem Dt (a b:Int) (q:Nat) (j:q≤62):ed a b*2^(64-q)+fY a b/2^q=a*b/2^q:=by
 have e:(18446744073709551616:Int)=2^(64-q)*2^q:=by rw [←Int.pow_add,show 64-q+q=64 by omega];rfl
 have i:(2:Int)^q≠0:=by have:=Int.pow_pos (n:=2) (m:=q) (by decide);omega
 have h:=Gk a b
 rw [←h,e,←Int.mul_assoc,Int.add_comm (ed a b*2^(64-q)*2^q),Int.add_mul_ediv_right _ _ i,Int.add_comm]
theorem mH (x y:Int):wrap64 (wrap64 x-y)=wrap64 (x-y):=by unfold wrap64;omega
theorem ql (x y:Int):wrap64 (wrap64 x+y)=wrap64 (x+y):=by unfold wrap64;omega
theorem sj (a b:Int) (p: -9223372036854775808≤a∧a≤9223372036854775807) (q: -9223372036854775808≤b∧b≤9223372036854775807):
  uw a*uw b=a*b+((if a<0 then b else 0)+(if b<0 then a else 0)+(if a<0∧b<0 then 18446744073709551616 else 0))*18446744073709551616:=by
 by_cases h1:a<0
 ·have o:uw a=a+18446744073709551616:=by unfold uw;omega
  by_cases i:b<0
  ·have j:uw b=b+18446744073709551616:=by unfold uw;omega
   rw [o,j,if_pos h1,if_pos i,if_pos ⟨h1,i⟩,Int.add_mul,Int.mul_add]
   omega
  ·have j:uw b=b:=by unfold uw;omega
   rw [o,j,if_pos h1,if_neg i,if_neg (fun h=>i h.2),Int.add_mul]
   omega
 ·have o:uw a=a:=by unfold uw;omega
  by_cases i:b<0
  ·have j:uw b=b+18446744073709551616:=by unfold uw;omega
   rw [o,j,if_neg h1,if_pos i,if_neg (fun h=>h1 h.1),Int.mul_add]
   omega
  ·have j:uw b=b:=by unfold uw;omega
   rw [o,j,if_neg h1,if_neg i,if_neg (fun h=>h1 h.1)]
   omega
theorem C5 (a b:Int) (j: -9223372036854775808≤a∧a≤9223372036854775807) (o: -9223372036854775808≤b∧b≤9223372036854775807):
  wrap64 (uw a*uw b/18446744073709551616-(if a<0 then b else 0)-(if b<0 then a else 0))=ed a b:=by
 rw [sj a b j o,Int.add_mul_ediv_right _ _ (by decide)]
 have h:=iM j o
 rw [←lI h.1 h.2]
 refine sd ⟨if a<0∧b<0 then 1 else 0,?_⟩
 unfold ed
 by_cases h1:a<0
 ·by_cases i:b<0
  ·simp only [h1,i,if_true,and_self];omega
  ·simp only [h1,i,if_true,if_false,and_false];omega
 ·by_cases i:b<0
  ·simp only [h1,i,if_true,if_false,false_and];omega
  ·simp only [h1,i,if_false,false_and];omega
theorem C4 (a b:Int) (i: -9223372036854775808≤a∧a≤9223372036854775807) (j: -9223372036854775808≤b∧b≤9223372036854775807):uw (uw a*uw b)=fY a b:=by
 rw [sj a b i j]
 unfold fY uw
 rw [Int.add_mul_emod_self_right]
theorem ot (a:Int):∃X:Nat,uw a=X∧X<18446744073709551616:=⟨(uw a).toNat,by have:=pC a;omega,by have:=pC a;omega⟩
def W64 (l:List Int):Prop:=∀k,k<l.length→ -9223372036854775808≤nth l k∧nth l k≤9223372036854775807
theorem ul {l:List Int} {k:Nat} (h:k<l.length):nth l k∈l:=by rw [dI l k h];exact List.getElem_mem h
theorem fZ (l:List Int) (k:Nat) (v:Int) (j:Nat):nth (l.set k v) j=if j=k∧k<l.length then v else nth l j:=by
 unfold nth
 simp only [List.getD_eq_getElem?_getD,List.getElem?_set]
 by_cases h:k=j
 ·subst h
  by_cases i:k<l.length
  ·simp [i]
  ·simp [i,List.getElem?_eq_none (show l.length≤k by omega)]
 ·simp [h,Ne.symm h]
theorem W64.set {l:List Int} (h:W64 l) {k:Nat} {v:Int} (hv: -9223372036854775808≤v∧v≤9223372036854775807):W64 (l.set k v):=fun j i=>by
 rw [fZ]
 split
 ·exact hv
 ·exact h j (by simpa using i)
theorem iH {a b:List Int} (hl:a.length=b.length) (h:∀k,k<a.length→nth a k=nth b k):a=b:=by
 refine List.ext_getElem hl fun k h1 i=>?_
 rw [←dI a k h1,←dI b k i]
 exact h k h1
def dh (n:Nat) (f:Nat→Int):List Int:=(List.range n).map f
theorem bR (n:Nat) (f:Nat→Int):(dh n f).length=n:=by simp [dh]
theorem bj {n k:Nat} (f:Nat→Int) (h:k<n):nth (dh n f) k=f k:=by rw [dI _ _ (by rw [bR];exact h)];simp [dh]
theorem gK (n:Nat) (f:Nat→Int):dh (n+1) f=dh n f++[f n]:=by simp [dh,Kw]
theorem fE {n:Nat} {f:Nat→Int} (h:∀k,k<n→ -9223372036854775808≤f k∧f k≤9223372036854775807):W64 (dh n f):=fun k i=>by
 rw [bR] at i
 rw [bj f i];exact h k i
theorem fK {n:Nat} {f g:Nat→Int} (h:∀k,k<n→f k=g k):dh n f=dh n g:=by
 unfold dh;exact List.map_congr_left fun k i=>h k (List.mem_range.1 i)
theorem eQ {l:List Int} {n:Nat} {f:Nat→Int} (hl:l.length=n) (h:∀k,k<n→nth l k=f k):l=dh n f:=
 iH (by rw [bR,hl]) fun k i=>by rw [bj f (by omega)];exact h k (by omega)
def jC (l:List Int) (k:Nat) (f:Nat→Int):List Int:=dh l.length fun j=>if j<k then f j else nth l j
theorem oQ (l:List Int) (k:Nat) (f:Nat→Int):(jC l k f).length=l.length:=bR _ _
theorem gP (l:List Int) (f:Nat→Int):jC l 0 f=l:=(eQ rfl fun k _=>by rw [if_neg (by omega)]).symm
theorem fN {l:List Int} {k:Nat} (f:Nat→Int) {j:Nat} (i:j<l.length):nth (jC l k f) j=if j<k then f j else nth l j:=bj _ i
theorem iQ {l:List Int} {k:Nat} (f:Nat→Int) (p:k<l.length):(jC l k f).set k (f k)=jC l (k+1) f:=by
 refine iH (by simp [oQ]) fun j i=>?_
 rw [List.length_set,oQ] at i
 rw [fZ,fN f i,fN f i,oQ]
 by_cases h1:j=k
 ·subst h1;simp [p]
 ·by_cases o:j<k
  ·simp [h1,o,show j<k+1 by omega]
  ·simp [h1,o,show ¬j<k+1 by omega]
theorem iR (l:List Int) (f:Nat→Int):jC l l.length f=dh l.length f:=by
 unfold jC;exact fK fun k i=>by rw [if_pos i]
def yW (xs ys:List Int) (q:Int):Nat→Int
 | 0=>0
 | k+1=>wrap64 (yW xs ys q k+eL (nth xs k) (nth ys k) q)
def rX (xs ys:List Int) (q:Int):Int:=yW xs ys q xs.length
def oC (xs:List Int) (a q:Int):List Int:=dh xs.length fun k=>eL (nth xs k) a q
def eI (xs ys:List Int):List Int:=dh xs.length fun k=>wrap64 (nth xs k+nth ys k)
def cZ (n size:Nat):Nat:=if n=0 then 0 else (n-1)/size+1
theorem CE (n s:Nat) (hn:1≤n):((n:Int)-1)/(s:Int)=(((n-1)/s:Nat):Int):=by
 rw [show ((n:Int)-1)=((n-1:Nat):Int) by omega,←Int.natCast_ediv]
theorem fu (n size:Nat):cZ n size≤n:=by
 unfold cZ
 split
 ·omega
 ·have:=Nat.div_le_self (n-1) size
  omega
theorem iI {n size k:Nat} (h:k<cZ n size):k*size<n:=by
 unfold cZ at h
 split at h
 ·omega
 ·have h1:k≤(n-1)/size:=by omega
  have i:=KH size h1
  have j:=Nat.div_mul_le_self (n-1) size
  omega
def fy (n size k:Nat):List Value:=(List.range k).flatMap fun j=>[KL ((j*size:Nat):Int),KL ((min (j*size+size) n:Nat):Int)]
theorem iJ (n size k:Nat):fy n size (k+1)=fy n size k++[KL ((k*size:Nat):Int),KL ((min (k*size+size) n:Nat):Int)]:=by simp [fy,Kw,List.flatMap_append]
theorem pT (n size k:Nat):(fy n size k).length=k*2:=by
 induction k with
 | zero=>simp [fy]
 | succ k ih=>rw [iJ,Kf,ih];simp;omega
theorem zh (n size:Nat) {j k:Nat} (h:j<k):(fy n size k)[j*2]?=some (KL ((j*size:Nat):Int))∧(fy n size k)[j*2+1]?=some (KL ((min (j*size+size) n:Nat):Int)):=by
 induction k with
 | zero=>omega
 | succ k ih=>
  rw [iJ]
  rcases JR j k with i | i
  ·obtain ⟨h1,o⟩:=ih i
   have hl:=pT n size k
   rw [Ki (by omega),Ki (by omega)]
   exact ⟨h1,o⟩
  ·obtain rfl:j=k:=by omega
   have hl:=pT n size j
   rw [Kj (by omega),Kj (by omega),hl]
   simp
theorem za (n batch:Nat) (i:1≤batch) (hn:batch≤n):cZ (n-n%batch) batch=n/batch:=by
 have h1:=Nat.div_add_mod n batch
 have j:=Nat.div_pos hn i
 have p:n-n%batch=batch*(n/batch):=by omega
 have q:1≤batch*(n/batch):=Nat.mul_pos i j
 unfold cZ
 rw [if_neg (by omega),p]
 have o:batch*(n/batch)-1=batch*(n/batch-1)+(batch-1):=by
  have:batch*(n/batch)=batch*(n/batch-1)+batch:=by rw [←Nat.mul_succ];congr 1;omega
  omega
 rw [o,Nat.mul_add_div i,show (batch-1)/batch=0 from Nat.div_eq_of_lt (by omega)]
 omega
theorem AD (n batch j:Nat) (q:1≤batch) (i:j<n/batch):min (j*batch+batch) (n-n%batch)=j*batch+batch:=by
 have h1:=Nat.div_add_mod n batch
 have o:(j+1)*batch≤(n/batch)*batch:=KH _ i
 rw [Kx] at o
 have p:(n/batch)*batch=batch*(n/batch):=Nat.mul_comm _ _
 omega
theorem nh (n batch j:Nat) (i:j<n/batch):j*batch+batch≤n:=by
 have h1:=Nat.div_mul_le_self n batch
 have o:(j+1)*batch≤(n/batch)*batch:=KH _ i
 rw [Kx] at o
 omega
theorem qj (n size:Nat) (hs:1≤size):cZ n size=(n+size-1)/size:=by
 unfold cZ
 split
 ·subst_vars;rw [Kz,Nat.div_eq_of_lt (by omega)]
 ·rw [show n+size-1=(n-1)+size by omega,Nat.add_div_right _ hs]
abbrev Rg:=Nat×Nat
def aF (l:List Rg):List Value:=l.flatMap fun r=>[KL (r.1:Int),KL (r.2:Int)]
theorem gN (a b:List Rg):aF (a++b)=aF a++aF b:=by simp [aF]
theorem mO:∀l:List Rg,(aF l).length=l.length*2
 | []=>rfl
 | r::l=>by have:=mO l;simp only [aF,List.flatMap_cons,Kf,List.length_cons,List.length_nil] at *;omega
theorem lQ:∀{l:List Rg} {j:Nat} {r:Rg},l[j]?=some r→(aF l)[j*2]?=some (KL (r.1:Int))∧(aF l)[j*2+1]?=some (KL (r.2:Int))
 | [],_,_,h=>by simp at h
 | x::l,0,r,h=>by simp only [Kb,Option.some.injEq] at h;subst h;exact ⟨rfl,rfl⟩
 | x::l,j+1,r,h=>by
  simp only [Ka] at h
  have:=lQ h
  have e:aF (x::l)=[KL (x.1:Int),KL (x.2:Int)]++aF l:=by simp [aF]
  rw [e,Kj (by simp;omega),Kj (by simp;omega)]
  simp only [List.length_cons,List.length_nil]
  rw [show (j+1)*2-(0+1+1)=j*2 by omega,show (j+1)*2+1-(0+1+1)=j*2+1 by omega]
  exact this
def eR (n s:Nat):List Rg:=(List.range (cZ n s)).map fun j=>(j*s,min (j*s+s) n)
theorem dU (n s:Nat):(eR n s).length=cZ n s:=by simp [eR]
theorem pd (n s:Nat):aF (eR n s)=fy n s (cZ n s):=by simp [aF,eR,fy,List.flatMap_map]
def bdN (n k i:Nat):Nat:=i*(n/k)+min i (n%k)
def fA (n k:Nat):List Rg:=(List.range k).map fun i=>(bdN n k i,bdN n k (i+1))
theorem ft (n k:Nat):(fA n k).length=k:=by simp [fA]
def shR (d:Nat) (l:List Rg):List Rg:=l.map fun r=>(r.1+d,r.2+d)
theorem j6 (d:Nat) (l:List Rg):(shR d l).length=l.length:=by simp [shR]
def dR (b:Rg) (W:Nat):List Rg:=shR b.1 (fA (b.2-b.1) W)
theorem qz (b:Rg) (W:Nat):(dR b W).length=W:=by rw [dR,j6,ft]
def chR (s:Rg) (c:Nat):List Rg:=shR s.1 (eR (s.2-s.1) c)
def m6 (n s:Nat):List Rg:=(eR n s).reverse
theorem jY (n s:Nat):(m6 n s).length=cZ n s:=by rw [m6,List.length_reverse,dU]
def aO (l:List Rg) (j:Nat):Rg:=l.getD j (0,0)
structure Acn where
 send:Bool
 add:Bool
 st:Nat
 bk:Nat
 ph:Nat
 rd:Nat
 ch:Nat
 at':Rg
def eZ (W w ph r:Nat):Nat:=(w+(2*W+ph-r))%W
def fV (W w ph r:Nat):Nat:=(w+(2*W+ph-r-1))%W
def mT (x y:List Rg) (f g:Nat→Rg→Acn):List Acn:=
 (List.range (max x.length y.length)).flatMap fun i=>(if i<x.length then [f i (aO x i)] else [])++(if i<y.length then [g i (aO y i)] else [])
theorem yt (x y:List Rg) (f g:Nat→Rg→Acn):(mT x y f g).length=x.length+y.length:=by
 have h:∀m,((List.range m).flatMap fun i=>(if i<x.length then [f i (aO x i)] else [])++(if i<y.length then [g i (aO y i)] else [])).length=min m x.length+min m y.length:=by
  intro m
  induction m with
  | zero=>simp
  | succ m ih=>
   rw [Kw,List.flatMap_append,Kf,ih]
   simp only [List.flatMap_cons,List.flatMap_nil,List.append_nil,Kf]
   by_cases h1:m<x.length<;>by_cases j:m<y.length<;>simp [h1,j]<;>omega
 unfold mT
 rw [h];omega
def dF (st bk:Nat) (b:Rg) (W c w ph r:Nat):List Acn:=
 mT (chR (aO (dR b W) (eZ W w ph r)) c) (chR (aO (dR b W) (fV W w ph r)) c) (fun i s=>⟨true,false,st,bk,ph,r,i,s⟩) (fun i s=>⟨false,ph==0,st,bk,ph,r,i,s⟩)
structure Pln where
 W:Nat
 mi:Nat
 bu:Nat
 ck:Nat
 wi:Nat
 n:Nat
structure Itm where
 kind:Nat
 st:Nat
 n:Nat
 a:Option Acn
def Pln.buks (p:Pln):List Rg:=m6 p.n p.bu
def Pln.grps (p:Pln):List Rg:=eR p.buks.length p.wi
def gh (st:Nat) (a:Acn):Itm:=⟨if a.send then 3 else 4,st,0,some a⟩
def cC (p:Pln) (w st ph r j:Nat):List Itm:=(dF st j (aO p.buks j) p.W p.ck w ph r).map (gh st)
def de (p:Pln) (w st:Nat) (g:Rg):List Itm:=
 (List.range' g.1 (g.2-g.1)).map (fun j=>⟨2,st,j,none⟩)++
 ((List.range 2).flatMap fun ph=>(List.range (p.W-1)).flatMap fun r=>(List.range' g.1 (g.2-g.1)).flatMap fun j=>cC p w st ph r j)++
 (List.range' g.1 (g.2-g.1)).map (fun j=>⟨5,st,j,none⟩)
def aD (p:Pln) (w st:Nat):List Itm:=
 (List.range p.mi).map (fun a=>⟨1,st,a,none⟩)++p.grps.flatMap (de p w st)++[⟨6,st,0,none⟩]
def cB (n:Nat) (f:Nat→Nat):Nat:=((List.range n).map f).sum
theorem eT (n:Nat) (f:Nat→Nat):cB (n+1) f=cB n f+f n:=by simp [cB,Kw]
theorem pG {n:Nat} {f g:Nat→Nat} (h:∀k,k<n→f k=g k):cB n f=cB n g:=by
 unfold cB;congr 1;exact List.map_congr_left fun k i=>h k (List.mem_range.1 i)
theorem sk (n:Nat) (f g:Nat→Nat):cB n (fun k=>f k+g k)=cB n f+cB n g:=by
 induction n with
 | zero=>rfl
 | succ n ih=>rw [eT,eT,eT,ih];omega
theorem pF (n c:Nat):cB n (fun _=>c)=n*c:=by
 induction n with
 | zero=>simp [cB]
 | succ n ih=>rw [eT,ih,Kx]
theorem qt (n m:Nat) (f:Nat→Nat→Nat):cB n (fun i=>cB m (f i))=cB m (fun j=>cB n (fun i=>f i j)):=by
 induction n with
 | zero=>simp only [cB,List.range_zero,List.map_nil,List.sum_nil];rw [show (fun _:Nat=>0)=fun _=>0 from rfl];exact (pF m 0).symm
 | succ n ih=>rw [eT,ih,←sk];exact pG fun j _=>(eT n (fun i=>f i j)).symm
theorem uO (a b:Nat) (f:Nat→Nat):cB (a+b) f=cB a f+cB b (fun k=>f (a+k)):=by
 induction b with
 | zero=>simp [cB]
 | succ b ih=>rw [←Ky,eT,ih,eT];omega
theorem yS {β:Type} (n:Nat) (f:Nat→List β):((List.range n).flatMap f).length=cB n fun k=>(f k).length:=by
 rw [List.length_flatMap];rfl
theorem wD {β:Type} (a n:Nat) (f:Nat→List β):((List.range' a n).flatMap f).length=cB n fun k=>(f (a+k)).length:=by
 rw [List.length_flatMap]
 unfold cB
 rw [List.range'_eq_map_range,List.map_map];rfl
theorem Fz (n s:Nat) (hs:1≤s) (f:Nat→Nat):((eR n s).map fun g=>cB (g.2-g.1) fun k=>f (g.1+k)).sum=cB n f:=by
 have h:∀m,m≤cZ n s→(((List.range m).map fun j=>(j*s,min (j*s+s) n)).map fun g:Rg=>cB (g.2-g.1) fun k=>f (g.1+k)).sum=cB (min (m*s) n) f:=by
  intro m
  induction m with
  | zero=>intro _;simp [cB]
  | succ m ih=>
   intro hm
   have h1:=iI (n:=n) (size:=s) (k:=m) (by omega)
   rw [Kw,List.map_append,List.map_append,List.sum_append,ih (by omega)]
   simp only [List.map_cons,List.map_nil,List.sum_cons,List.sum_nil,Nat.add_zero]
   rw [show min (m*s) n=m*s by omega,Kx]
   have:=uO (m*s) (min (m*s+s) n-m*s) f
   rw [show m*s+(min (m*s+s) n-m*s)=min (m*s+s) n by omega] at this
   exact this.symm
 have:=h (cZ n s) (JD _)
 unfold eR
 rw [this]
 congr 1
 rcases Nat.eq_zero_or_pos n with rfl | hn
 ·simp
 ·have:n≤cZ n s*s:=by
   unfold cZ
   rw [if_neg (by omega),Kx]
   have:=Nat.div_add_mod (n-1) s
   have:=Nat.mod_lt (n-1) (show 0<s by omega)
   have:s*((n-1)/s)=(n-1)/s*s:=Nat.mul_comm _ _
   omega
  omega
theorem ke (st bk:Nat) (b:Rg) (W c w ph r:Nat):(dF st bk b W c w ph r).length=(chR (aO (dR b W) (eZ W w ph r)) c).length+(chR (aO (dR b W) (fV W w ph r)) c).length:=yt _ _ _ _
theorem yP (p:Pln) (w st:Nat) (g:Rg):(de p w st g).length=cB (g.2-g.1) fun k=>2+cB 2 fun ph=>cB (p.W-1) fun r=>(cC p w st ph r (g.1+k)).length:=by
 unfold de
 simp only [Kf,List.length_map,List.length_range',yS,wD]
 rw [sk,pF]
 have e:(cB 2 fun ph=>cB (p.W-1) fun r=>cB (g.2-g.1) fun k=>(cC p w st ph r (g.1+k)).length)=cB (g.2-g.1) fun k=>cB 2 fun ph=>cB (p.W-1) fun r=>(cC p w st ph r (g.1+k)).length:=by
  rw [pG (g:=fun ph=>cB (g.2-g.1) fun k=>cB (p.W-1) fun r=>(cC p w st ph r (g.1+k)).length) (fun ph _=>qt _ _ _),qt]
 rw [e];omega
theorem rh (p:Pln) (w st:Nat) (hw:1≤p.wi):(aD p w st).length=p.mi+1+cB p.buks.length fun j=>2+cB 2 fun ph=>cB (p.W-1) fun r=>(cC p w st ph r j).length:=by
 unfold aD
 simp only [Kf,List.length_map,List.length_range,List.length_flatMap,List.length_cons,List.length_nil]
 have:((p.grps.map fun a=>(de p w st a).length)).sum=cB p.buks.length fun j=>2+cB 2 fun ph=>cB (p.W-1) fun r=>(cC p w st ph r j).length:=by
  simp only [yP]
  exact Fz p.buks.length p.wi hw fun j=>2+cB 2 fun ph=>cB (p.W-1) fun r=>(cC p w st ph r j).length
 rw [this];omega
end Go.Proofs.YtaccfnffmbndhaaGreat
