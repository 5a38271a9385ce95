/- No condition. -/
import Derived.Test.YtgmajkppbhiopaaGreatK00
import Derived.WalkKit
import Derived.Lib.Hide
import Derived.Deep.Draws
import Derived.Deep.AppendLies
import Derived.Maps.AppendAt
import Derived.WalkSmall
import Derived.StillTail
import Derived.OrdersHeld
import Derived.Deep.RegionHeld
import Derived.RangeFuncNested
import Derived.RangeFuncBound
import Derived.RangeFuncCalls
import Derived.RangeFuncLeaves
import Derived.RangeFuncBox
import Derived.Shelf.Abstract
import Derived.OwnWalkIn
import Derived.TacticsInMore
import Derived.LoopNIn
import Derived.LoopIn
import Derived.Test.YtgmajkppbhiopaaGreatProg
import Derived.Deep.MidRow
import Derived.RowKit
import Derived.ProofKit
import Derived.OpenShut
import Derived.Deep.Slices
import Derived.WalkSpells
import Derived.BigQuiet
import Derived.Deep.QuietTactic
import Derived.RegionTactic
import Derived.Deep.RegionHeld3
import Derived.IntWalk
import Derived.KernelRfl
import Derived.Lib.Mul64
import Derived.Laws.Bits64b
import Derived.StillTailTactics
set_option linter.unusedSimpArgs false
set_option linter.unusedVariables false
set_option maxRecDepth 100000
set_option maxHeartbeats 4000000
namespace Go.Proofs.YtgmajkppbhiopaaGreat
open Tryz
variable {Q:Exit->Ro->R8->Prop} {F:Fence} {q:IntKind} {rows:List (R7)} {rest:List Oper} {A:N_} {B L M X b base base' h i id j k m n n₀ ph r size:Nat} {f:Nat->Int} {J:Nat->List Nat->List Nat->(Nat->Prop)->R8->Prop} {S S':Nat->Prop} {row:Option Nat} {P:Program} {E:Prop} {l1 ps sz:Q_} {xs ys:R7} {C W w:R8} {T:R9} {y:Region.Mode} {ops:Rn} {a:Ro} {K:Ro->R8->Prop} {a1 u v' v0 v1 v10 v11 v2 v3 v4 v5 v6 v7 v8 v9 x z:Value}
section
open Go.RowKit
abbrev Vj:=Calls prog
def nth (l:Q_) (k:Nat):Int:=l.getD k 0
theorem dN (l:Q_) (k:Nat) (h:k<l.length):nth l k=l[k]:=by simp [nth,List.getD,h]
theorem fE (l:Q_) (k:Nat) (h:k<l.length):l.take (k+1)=l.take k++[nth l k]:=by
 rw [List.take_succ_eq_append_getElem h,dN l k h]
theorem qo {i:Q_} (h1:k<l1.length) (o:k<i.length) (h:l1.take k=i.take k) (p:nth l1 k=nth i k):l1.take (k+1)=i.take (k+1):=by
 rw [fE l1 k h1,fE i k o,h,p]
theorem uW {i:Q_} (h:l1.length=i.length) (o:l1.take l1.length=i.take l1.length):l1=i:=by
 rw [QF] at o;rw [o,h,QF]
theorem bE {k:IntKind} {a b:Int} (h:a=b):Ending.returned (.int k a)=.returned (.int k b):=by rw [h]
theorem dC {a b:Bool} (h:a=b):Ending.returned (.bool a)=.returned (.bool b):=by rw [h]
def aA (q:IntKind) (zs:Q_):R7:=zs.map (.int q)
theorem cq (q:IntKind) (zs:Q_):(aA q zs).length=zs.length:=by simp [aA]
theorem dd (q:IntKind) (a b:Q_):aA q (a++b)=aA q a++aA q b:=by simp [aA]
theorem ns (q:IntKind) (zs:Q_) (k:Nat) (h:k<zs.length):(aA q zs)[k]?=some (.int q (nth zs k)):=by
 simp [aA,dN zs k h,h]
theorem zR (q:IntKind) (zs:Q_) (k:Nat) (a:Int):(aA q zs).set k (.int q a)=aA q (zs.set k a):=by simp [aA,List.map_set]
theorem cU (q:IntKind) (zs:Q_):∀u∈aA q zs,u.oneCell'=true:=ints_oneCell q zs
theorem dH (q:IntKind) (zs:Q_) (n:Nat):(aA q zs).take n=aA q (zs.take n):=by simp [aA,List.map_take]
theorem dK (q:IntKind) (zs:Q_) (n:Nat):(aA q zs).drop n=aA q (zs.drop n):=by simp [aA,List.map_drop]
theorem fB (q:IntKind) (n:Nat) (a:Int):List.replicate n (Value.int q a)=aA q (List.replicate n a):=by simp [aA]
def Rd (w:R8) (A:N_) (xs:R7):Prop:=
 ∀k u,xs[k]?=some u->∃b o,A=some (ar b o)/\w.cell? (ar b (o+k))=some u
theorem aB {a:Addr} (h:w.cell? a=some u):a.block<w.heap.size:=World.block_lt_of_cell? w a h
theorem Rd.nil (w:R8) (A:N_):Rd w A []:=λk u h=>by simp at h
theorem Rd.num {zs:Q_} (h:Rd w A (aA q zs)) (hk:k<zs.length):
  ∃b o,A=some (ar b o)/\Vh w b (o+k) (.int q (nth zs k)):=h k _ (ns q zs k hk)
theorem Rd.same {i:R8} (h:Rd w A xs) (hb:∀b,b<w.heap.size->i.heap[b]?=w.heap[b]?):Rd i A xs:=λk u p=>by
 obtain ⟨b,o,hA,hc⟩:=h k u p;exact ⟨b,o,hA,(World.cell?_of_block (w:=w) (hb _ (aB hc))).trans hc⟩
theorem Rd.below {i:R8} (h:Rd w A xs) (hb:aq w i):Rd i A xs:=h.same hb.block
theorem Rd.alloc (h:Rd w A xs) (o:Obj):Rd (w.alloc o) A xs:=h.same λb hb=>Qc w o b hb
theorem Rd.drew (h:Rd w A xs):Rd w.drew A xs:=h
theorem Rd.drewN (h:Rd w A xs) (n:Nat):Rd (w.drewN n) A xs:=h
theorem Rd.belowB {v:R8} (h:Rd w A xs) (hb:Below B w v) (hA:∀a,A=some a->a.block<B):Rd v A xs:=λk u x=>by
 obtain ⟨b,o,i,hc⟩:=h k u x;exact ⟨b,o,i,(hb.cell (p:=(ar b (o+k))) (show b<B from hA _ i)).trans hc⟩
theorem Rd.own {e:R9} {c:Nat} (h:w.ownsRow base e size (.slice A n c) n xs):Rd w A xs:=λk u p=>by
 have hk:k<xs.length:=(Qu.1 p).1;rcases h.2 with ⟨_,y⟩ | ⟨g,cap,v,o,_,hg,_,_,_,i⟩
 .have:=h.1;rw [y] at this;omega
 .simp only [QH] at o;obtain ⟨rfl,_,rfl⟩:=o;refine ⟨g,0,rfl,?_⟩;have x:=h.cellAt k (by have:=h.1;omega);rw [QP,x,p]
theorem Rd.grown {p:R8} (h:Rd w A xs) (hg:w.grownBy p row) (hA:∀a,A=some a->some a.block≠row):Rd p A xs:=λk u v=>by
 obtain ⟨b,o,i,hc⟩:=h k u v;exact ⟨b,o,i,hg.cell hc (show some b≠row from hA _ i)⟩
theorem Rd.take (h:Rd w A xs) (n:Nat):Rd w A (xs.take n):=λk u i=>by
 rw [List.getElem?_take] at i
 split at i
 .exact h k u i
 .cases i
theorem Rd.drop {o:Nat} (h:Rd w (some (ar b o)) xs) (n:Nat):Rd w (some (ar b (o+n))) (xs.drop n):=λk u i=>by
 rw [List.getElem?_drop] at i;obtain ⟨p,v,e,hc⟩:=h _ _ i;injection e with e
 injection e with e1 e2 _
 subst e1;subst e2;exact ⟨b,o+n,rfl,by rw [QO];exact hc⟩
theorem dW (w:R8) (xs:R7) (e:R9) (n:Nat) (hn:w.heap.size=n):Rd (w.alloc (.cells xs.toArray e)) (some (ar n 0)) xs:=λk u h=>by
 subst hn;refine ⟨_,_,rfl,?_⟩;rw [QP,PX _ w.heap.size k xs.toArray e (0,0) (PW w _)];simpa using h
theorem aC {e:R9} {v:Value} (h:w.ownsRow base e size v n xs):∃A c,v=.slice A n c/\n<=c:=by
 rcases h.2 with ⟨rfl,rfl⟩ | ⟨g,cap,i,rfl,_,_,hc,_⟩
 .exact ⟨none,0,rfl,PV _⟩
 .exact ⟨_,_,rfl,hc⟩
theorem az {i:R8} {e:R9} {v:Value} (h:w.ownsRow base e size v n xs) (hb:aq w i):i.ownsRow base e size v n xs:=
 h.kept (row:=none) ⟨hb.os,hb.tape,hb.output,hb.size,λk hk _=>hb.block k hk⟩ (by cases hv:v.ownBlock<;>simp)
theorem bZ {e:R9} {v:Value} (h:w.ownsRow base e size v n xs) (m:Nat):(w.drewN m).ownsRow base e size v n xs:=h
theorem aF {e:R9} {v:Value} (h:w.ownsRow base e size v n xs) (hb:base'<=base):w.ownsRow base' e size v n xs:=by
 refine ⟨h.1,?_⟩;rcases h.2 with p | ⟨g,cap,i,o,hg,r⟩
 .exact .inl p
 .exact .inr ⟨g,cap,i,o,P4 hb hg,r⟩
structure Keep (S:Nat->Prop) (w w':R8):Prop where
 os:w'.os=w.os
 tape:w'.tape=w.tape
 output:w'.output=w.output
 size:w.heap.size<=w'.heap.size
 block:∀k,k<w.heap.size->¬S k->w'.heap[k]?=w.heap[k]?
theorem Keep.refl (S:Nat->Prop) (w:R8):Keep S w w:=⟨rfl,rfl,rfl,PV _,λ_ _ _=>rfl⟩
theorem Keep.trans {a b c:R8} (h:Keep S a b) (k:Keep S b c):Keep S a c:=
 ⟨k.os.trans h.os,k.tape.trans h.tape,k.output.trans h.output,P4 h.size k.size,λi o hn=>(k.block i (P6 o h.size) hn).trans (h.block i o hn)⟩
theorem Keep.below {i:R8} (h:aq w i):Keep S w i:=⟨h.os,h.tape,h.output,h.size,λk hk _=>h.block k hk⟩
theorem Keep.mono {i:R8} (h:Keep S w i) (hs:∀k,k<w.heap.size->S k->S' k):Keep S' w i:=⟨h.os,h.tape,h.output,h.size,λk hk hn=>h.block k hk λo=>hn (hs k hk o)⟩
theorem Keep.drewN {a:R8} (h:Keep S a w) (n:Nat):Keep S a (w.drewN n):=⟨h.os,h.tape,h.output,h.size,h.block⟩
theorem Keep.drew {a:R8} (h:Keep S a w):Keep S a w.drew:=⟨h.os,h.tape,h.output,h.size,h.block⟩
theorem Keep.alloc {a:R8} (h:Keep S a w) (o:Obj):Keep S a (w.alloc o):=h.trans (Keep.below ((PY _ w).alloc (PV _) o))
theorem Keep.setCell {S:Nat->Prop} {a w:R8} (h:Keep S a w) (p:Addr) (i:a.heap.size<=p.block\/S p.block) (u:Value):Keep S a (w.setCell p u):=
 ⟨h.os,h.tape,h.output,by simp [World.setCell];exact h.size,λk hk hn=>(Below.heap_setCell w p u k (λe=>by subst e;rcases i with i | i<;>first | omega | exact hn i)).trans (h.block k hk hn)⟩
abbrev Vk (b:Nat):=@Keep.setCell (λj=>j=b)
theorem Keep.grown {a i:R8} (h:Keep S a w) (hg:w.grownBy i row) (hr:∀k,row=some k->a.heap.size<=k\/S k):Keep S a i:=
 ⟨hg.os.trans h.os,hg.tape.trans h.tape,hg.output.trans h.output,P4 h.size hg.size,λk hk hn=>
  (hg.block k (P6 hk h.size) λe=>by
   rcases hr k e.symm with h1 | h1
   .omega
   .exact hn h1).trans (h.block k hk hn)⟩
theorem Keep.toBelow {i:R8} (h:Keep S w i) (hB:B<=w.heap.size) (o:∀k,S k->B<=k):Below B w i:=
 ⟨h.os,h.tape,h.output,h.size,λk hk=>h.block k ap λhs=>by have:=o k hs;omega⟩
theorem Keep.cell {i:R8} (h:Keep S w i) {p:Addr} (hc:w.cell? p=some u) (o:¬S p.block):i.cell? p=some u:= (World.cell?_of_block (w:=w) (h.block _ (aB hc) o)).trans hc
theorem Keep.rd {p:R8} (h:Keep S w p) (hr:Rd w A xs) (hA:∀a,A=some a->¬S a.block):Rd p A xs:=λk u v=>by
 obtain ⟨b,o,i,hc⟩:=hr k u v;exact ⟨b,o,i,h.cell hc (show ¬S b from hA _ i)⟩
theorem Keep.own {u:R8} (h:Keep S w u) {e:R9} {v:Value} (p:w.ownsRow base e size v n xs) (y:∀k,v.ownBlock=some k->¬S k):u.ownsRow base e size v n xs:=by
 refine ⟨p.1,?_⟩;rcases p.2 with x | ⟨g,cap,o,rfl,hg,i,r⟩
 .exact .inl x
 .exact .inr ⟨g,cap,o,rfl,hg,(h.block g (PU i) (y g rfl)).trans i,r⟩
structure dM (P:Program) (t e:R9) (z:Value) (size bytes:Nat):Prop where
 und:P.underlying t=some (.slice e)
 info:∃i,P.info? e=some i/\i.zero=some z/\i.size=size/\i.bytes=bytes
 zs:z.cells.size=size
 pos:0<size
theorem aV {t e:R9} {p:Nat} (T:dM P t e z size p) (w:R8) {o:Oper} (D:o.guard=none) (s x:Operand) (J:o.op=.call {callee:=.builtin .append,args:=#[s,x],argTypes:=#[t,t]}) (base:Nat) (v:Value) (n:Nat) (xs:R7) (hs:a.eval s=v) (hown:w.ownsRow base e size v n xs) (us:R7) (hx:a.eval x=Vf w.heap.size 0 1 1) (hus:us.length=size) (h1:∀u∈us,u.oneCell'=true) (hb:(n+1)*p<=140737488355328) (h63:n+1<=maxLen) (hbase:base<=w.heap.size) (h:∀g c A,A.ownsRow base e size (Vf g 0 (n+1) c) (n+1) (xs++us)->Below base w A->w.grownBy A v.ownBlock->
   wpList P ops Q rest (a.put o.dst (Vf g 0 (n+1) c)) A):wpList P ops Q (o::rest) a (w.alloc (.cells us.toArray e)):=by
 obtain ⟨i,O,H,I,C⟩:=T.info
 refine wpList_append_own (w.alloc (.cells us.toArray e)) D s x t J base e i z size p T.und O H I C T.zs T.pos v n xs hs (hown.alloc _) (ar w.heap.size 0) 1 1 us hx (by simpa using hus) ?_ h1 h63 hb
  V6 ?_
 .intro j u N;rw [Addr.add_lit,QP,PX _ w.heap.size j us.toArray e (0,0) (PW w _)];simpa using N
 .intro v' A y hg _;obtain ⟨g,c,rfl,L,_⟩:=y.form ap;have B:w.grownBy A v.ownBlock:=(World.grownBy_alloc w _ _).trans hg;exact h g c A y ((PY base w).grown B hbase λk hk=>(hown.lt k hk).1) B
theorem pH {t e:R9} (T:dM P t e z size h) (w:R8) (base:Nat) (y:R9) (v:Value) (n:Nat) (xs:R7) (o:w.ownsRow base e size v n xs) (c:Nat): (Builtin.append_ #[t,t] y #[v,.slice none 0 c]).run P w=.ok v w:=by
 obtain ⟨i,u,_,_,_⟩:=T.info;rcases o.2 with ⟨rfl,rfl⟩ | ⟨g,cap,x,rfl,_,_,p,_⟩
 .simp [Builtin.append_,run_underlying T.und,sizeOf,typeInfo,u,Builtin.lenOf,Builtin.firstCells]
 .simp [Builtin.append_,run_underlying T.und,sizeOf,typeInfo,u,Builtin.lenOf,Builtin.firstCells,p,storeCells]
theorem DG {t e:R9} {p:Nat} (T:dM P t e z size p) (w:R8) (base:Nat) (O:R9) (v:Value) (n:Nat) (xs:R7) (x:w.ownsRow base e size v n xs) (A:N_) (m c:Nat) (B:R7) (hr:Rd w A B) (D:B.length=m*size) (h1:∀u∈B,u.oneCell'=true) (hb:(n+m)*p<=140737488355328) (L:n+m<=maxLen) (y:base<=w.heap.size):
  ∃v' C,(Builtin.append_ #[t,t] O #[v,.slice A m c]).run P w=.ok v' C/\C.ownsRow base e size v' (n+m) (xs++B)/\Below base w C/\w.grownBy C v.ownBlock/\(v'.ownBlock=v.ownBlock\/v'.ownBlock=some (Ve w)):=by
 cases A with
 | none=>
  have hm:B=[]:=by
   cases B with
   | nil=>rfl
   | cons u l=>obtain ⟨b,o,h,_⟩:=hr 0 u rfl;cases h
  subst hm
  have J:m=0:=by
   have:=T.pos;rcases Nat.eq_zero_or_pos m with h | h
   .exact h
   .have:=Nat.mul_pos h this;simp at D;omega
  subst J;exact ⟨v,w,pH T w base O v n xs x c,by simpa using x,PY _ _,World.grownBy.refl _ _,.inl rfl⟩
 | some ad=>
  obtain ⟨i,Y,H,I,N⟩:=T.info
  have hc:∀j u,B[j]?=some u->w.cell? (ad.add j)=some u:=λj u V=>by
   obtain ⟨b,o,e,h⟩:=hr j u V;injection e with e
   subst e;rw [Addr.add_lit];exact h
  obtain ⟨v',C,hr,R,Q,Z,U⟩:=run_append_own_at (P:=P) w base t O e i z size p T.und Y H I N T.zs T.pos v n xs x ad m c B D hc h1 L hb y;exact ⟨v',C,hr,R,(PY base w).grown Q y λk hk=>(x.lt k hk).1,Q,U⟩
theorem dQ {t e:R9} (T:dM P t e z size i) (w:R8) {o:Oper} (D:o.guard=none) (s x:Operand) (J:o.op=.call {callee:=.builtin .append,args:=#[s,x],argTypes:=#[t,t]}) (base:Nat) (v:Value) (n:Nat) (xs:R7) (hs:a.eval s=v) (hown:w.ownsRow base e size v n xs) (A:N_) (m c:Nat) (us:R7) (hx:a.eval x=.slice A m c) (hr:Rd w A us) (hus:us.length=m*size) (h1:∀u∈us,u.oneCell'=true) (hb:(n+m)*i<=140737488355328) (h63:n+m<=maxLen) (hbase:base<=w.heap.size) (h:∀B y p,p.ownsRow base e size (.slice B (n+m) y) (n+m) (xs++us)->Below base w p->w.grownBy p v.ownBlock->((Value.slice B (n+m) y).ownBlock=v.ownBlock\/(Value.slice B (n+m) y).ownBlock=some (Ve w))->wpList P ops Q rest (a.put o.dst (.slice B (n+m) y)) p):
  wpList P ops Q (o::rest) a w:=by
 refine wpList_plain D λR H=>?_;obtain ⟨v',p,C,I,O,L,N⟩:=DG T w base o.type v n xs hown A m c us hr hus h1 hb h63 hbase;obtain ⟨B,y,rfl,_⟩:=aC I;unfold Oper.wp;simp [execOp,J,resolve,invoke,builtin,hs,hx,C,Result.andThen];exact H _ _ (h B y p I O L N)
theorem ji {t e:R9} (T:dM P t e z size i) {o:Oper} (D:o.guard=none) (s x:Operand) (I:o.op=.call {callee:=.builtin .append,args:=#[s,x],argTypes:=#[t,t]}) (base:Nat) (v:Value) (n:Nat) (xs:R7) (hs:a.eval s=v) (hown:w.ownsRow base e size v n xs) (A:N_) (m c:Nat) (us:R7) (hx:a.eval x=.slice A m c) (hr:Rd w A us) (hus:us.length=m*size) (h1:∀u∈us,u.oneCell'=true) (hb:(n+m)*i<=140737488355328) (h63:n+m<=maxLen) (hbase:base<=w.heap.size) (h:∀B y p,p.ownsRow base e size (.slice B (n+m) y) (n+m) (xs++us)->Below base w p->w.grownBy p v.ownBlock->((Value.slice B (n+m) y).ownBlock=v.ownBlock\/(Value.slice B (n+m) y).ownBlock=some (Ve w))->K (a.put o.dst (.slice B (n+m) y)) p):
  if Region.wanted o (yielded ops a.tmps)=true then Oper.wp P o a w K Q else E:=by
 have hw:Region.wanted o (yielded ops a.tmps)=true:=by simp [Region.wanted,D]
 rw [if_pos hw];obtain ⟨v',p,C,H,N,J,L⟩:=DG T w base o.type v n xs hown A m c us hr hus h1 hb h63 hbase;obtain ⟨B,y,rfl,_⟩:=aC H;unfold Oper.wp;simp [execOp,I,resolve,invoke,builtin,hs,hx,C,Result.andThen];exact h B y p H N J L
theorem fg (w:R8) (e:R9) (size:Nat):(w.alloc (.cells #[] e)).ownsRow w.heap.size e size (Vf w.heap.size 0 0 0) 0 []:=
 World.ownsRow_made w #[] 0 (PV _) V2 V3
theorem vN {t e:R9} (T:dM P t e z 1 h) (w:R8) {o:Oper} (hg:o.guard=none) (l c:Operand) (C:o.op=Op.makeSlice t l c) (B:z.cells=#[z]) (n:Nat) (hl:a.eval l=QZ (n:Int)) (hc:a.eval c=QZ (n:Int)) (H:h*n<=281474976710656) (b3:n<=maxLen) (D:∀v,v.ownsRow w.heap.size e 1 (Vf (Ve w) 0 n n) n (List.replicate n z)->aq w v->
   wpList P ops Q rest (a.put o.dst (Vf (Ve w) 0 n n)) v):wpList P ops Q (o::rest) a w:=by
 obtain ⟨i,I,y,A,x⟩:=T.info;refine wpList_make_full w hg l c t C (Ve w) e i z 1 T.und I y A .i64 .i64 n n n hl hc rfl rfl (by rw [x];exact H) b3 (PV _) ?_;intro v u p;rw [B,Nat.mul_one,toList_madeCells_one] at u;exact D v u ⟨p.os,p.tape,p.output,p.size,λk hk=>p.block k hk V3⟩
def Cs (w:R8) (b:Nat):Nat->R7->Prop
 | _,[]=>True
 | i,v::vs=>w.cell? (ar b i)=some v/\Cs w b (i+1) vs
theorem NA (w:R8) (b:Nat) (o:R7) (hc:∀j,w.cell? (ar b j)=o[j]?):∀(vs:R7) (i:Nat),(∀j,vs[j]?=o[i+j]?)->Cs w b i vs
 | [],_,_=>trivial
 | v::vs,i,h=>⟨by rw [hc];exact (h 0).symm,NA w b o hc vs (i+1) λj=>by have:=h (j+1);simpa [QO,Nat.add_comm 1 j] using this⟩
def Bx (w:R8) (b:Nat) (vs:R7):Prop:=Cs w b 0 vs/\b<w.heap.size/\∀j,w.frozen? (ar b j)=false
theorem bx {vs:R7} {t:R9} (h:Vg w b vs.toArray t):Bx w b vs:=
 ⟨NA w b vs (λj=>by rw [PX w b j _ _ _ h];simp) vs 0 (λj=>by simp),PU h,λj=>P8 w b j _ _ h⟩
theorem bx1 {t:R9} (h:Vg w b #[v0] t):(Vh w b 0 v0)/\∀j,w.frozen? (ar b j)=false:=by
 have:=bx (vs:=[v0]) h;simp only [Bx,Cs,Nat.reduceAdd,and_true] at this;exact ⟨this.1,this.2.2⟩
theorem bx2 {t:R9} (h:Vg w b #[v0,v1] t):(Vh w b 0 v0/\Vh w b 1 v1)/\∀j,w.frozen? (ar b j)=false:=by
 have:=bx (vs:=[v0,v1]) h;simp only [Bx,Cs,Nat.reduceAdd,and_true] at this;exact ⟨this.1,this.2.2⟩
theorem bx3 {t:R9} (h:Vg w b #[v0,v1,v2] t):(Vh w b 0 v0/\Vh w b 1 v1/\Vh w b 2 v2)/\∀j,w.frozen? (ar b j)=false:=by
 have:=bx (vs:=[v0,v1,v2]) h;simp only [Bx,Cs,Nat.reduceAdd,and_true] at this;exact ⟨this.1,this.2.2⟩
theorem bx4 {t:R9} (h:Vg w b #[v0,v1,v2,v3] t):(Vh w b 0 v0/\Vh w b 1 v1/\Vh w b 2 v2/\Vh w b 3 v3)/\∀j,w.frozen? (ar b j)=false:=by
 have:=bx (vs:=[v0,v1,v2,v3]) h;simp only [Bx,Cs,Nat.reduceAdd,and_true] at this;exact ⟨this.1,this.2.2⟩
theorem bx5 {t:R9} (h:Vg w b #[v0,v1,v2,v3,v4] t):(Vh w b 0 v0/\Vh w b 1 v1/\Vh w b 2 v2/\Vh w b 3 v3/\Vh w b 4 v4)/\∀j,w.frozen? (ar b j)=false:=by
 have:=bx (vs:=[v0,v1,v2,v3,v4]) h;simp only [Bx,Cs,Nat.reduceAdd,and_true] at this;exact ⟨this.1,this.2.2⟩
theorem bx6 {t:R9} (h:Vg w b #[v0,v1,v2,v3,v4,v5] t):(Vh w b 0 v0/\Vh w b 1 v1/\Vh w b 2 v2/\Vh w b 3 v3/\Vh w b 4 v4/\Vh w b 5 v5)/\∀j,w.frozen? (ar b j)=false:=by
 have:=bx (vs:=[v0,v1,v2,v3,v4,v5]) h;simp only [Bx,Cs,Nat.reduceAdd,and_true] at this;exact ⟨this.1,this.2.2⟩
theorem bx9 {t:R9} (h:Vg w b #[v0,v1,v2,v3,v4,v5,v6,v7,v8] t):(Vh w b 0 v0/\Vh w b 1 v1/\Vh w b 2 v2/\Vh w b 3 v3/\Vh w b 4 v4/\Vh w b 5 v5/\Vh w b 6 v6/\Vh w b 7 v7/\Vh w b 8 v8)/\∀j,w.frozen? (ar b j)=false:=by
 have:=bx (vs:=[v0,v1,v2,v3,v4,v5,v6,v7,v8]) h;simp only [Bx,Cs,Nat.reduceAdd,and_true] at this;exact ⟨this.1,this.2.2⟩
theorem lL {t:R9} (h:Vg w b #[v0,v1,v2,v3,v4,v5,v6,v7,v8,v9,v10,v11] t):(Vh w b 0 v0/\Vh w b 1 v1/\Vh w b 2 v2/\Vh w b 3 v3/\Vh w b 4 v4/\Vh w b 5 v5/\Vh w b 6 v6/\Vh w b 7 v7/\Vh w b 8 v8/\Vh w b 9 v9/\Vh w b 10 v10/\Vh w b 11 v11)/\∀j,w.frozen? (ar b j)=false:=by
 have:=bx (vs:=[v0,v1,v2,v3,v4,v5,v6,v7,v8,v9,v10,v11]) h;simp only [Bx,Cs,Nat.reduceAdd,and_true] at this;exact ⟨this.1,this.2.2⟩
theorem vG {t:R9} {i:Value} (h:Vg w b #[v0,v1,v2,v3,v4,v5,v6,v7,v8,v9,v10,v11,i] t):(Vh w b 0 v0/\Vh w b 1 v1/\Vh w b 2 v2/\Vh w b 3 v3/\Vh w b 4 v4/\Vh w b 5 v5/\Vh w b 6 v6/\Vh w b 7 v7/\Vh w b 8 v8/\Vh w b 9 v9/\Vh w b 10 v10/\Vh w b 11 v11/\Vh w b 12 i)/\∀j,w.frozen? (ar b j)=false:=by
 have:=bx (vs:=[v0,v1,v2,v3,v4,v5,v6,v7,v8,v9,v10,v11,i]) h;simp only [Bx,Cs,Nat.reduceAdd,and_true] at this;exact ⟨this.1,this.2.2⟩
theorem Lz {t:R9} {o i:Value} (h:Vg w b #[v0,v1,v2,v3,v4,v5,v6,v7,v8,v9,v10,v11,o,i] t):(Vh w b 0 v0/\Vh w b 1 v1/\Vh w b 2 v2/\Vh w b 3 v3/\Vh w b 4 v4/\Vh w b 5 v5/\Vh w b 6 v6/\Vh w b 7 v7/\Vh w b 8 v8/\Vh w b 9 v9/\Vh w b 10 v10/\Vh w b 11 v11/\Vh w b 12 o/\Vh w b 13 i)/\∀j,w.frozen? (ar b j)=false:=by
 have:=bx (vs:=[v0,v1,v2,v3,v4,v5,v6,v7,v8,v9,v10,v11,o,i]) h;simp only [Bx,Cs,Nat.reduceAdd,and_true] at this;exact ⟨this.1,this.2.2⟩
theorem jB {t:R9} {p o i:Value} (h:Vg w b #[v0,v1,v2,v3,v4,v5,v6,v7,v8,v9,v10,v11,p,o,i] t):(Vh w b 0 v0/\Vh w b 1 v1/\Vh w b 2 v2/\Vh w b 3 v3/\Vh w b 4 v4/\Vh w b 5 v5/\Vh w b 6 v6/\Vh w b 7 v7/\Vh w b 8 v8/\Vh w b 9 v9/\Vh w b 10 v10/\Vh w b 11 v11/\Vh w b 12 p/\Vh w b 13 o/\Vh w b 14 i)/\∀j,w.frozen? (ar b j)=false:=by
 have:=bx (vs:=[v0,v1,v2,v3,v4,v5,v6,v7,v8,v9,v10,v11,p,o,i]) h;simp only [Bx,Cs,Nat.reduceAdd,and_true] at this;exact ⟨this.1,this.2.2⟩
theorem sb {x:Obj} (h:w.heap[b]?=some x):∀i,aq w i->i.heap[b]?=some x:=λ_ q=>(q.block b (PU h)).trans h
theorem sl {x:Obj} (h:w.heap[b]?=some x):∀i,aq w i->b<i.heap.size:=λi q=>P6 (PU h) q.size
theorem bt {a b c:R8} (h:aq a b) (k:aq b c):aq a c:=h.trans (k.mono h.size)
theorem br (w:R8):aq w w:=PY _ w
theorem ss {t:R9} {v:Value} {p o:R6} (h:Vg w b p t) (e:p.setIfInBounds i v=o:=by simp):Vg (w.setCell (ar b i) v) b o t:=by
 subst e;exact QX w b i p t v h
theorem ss2 {t:R9} {v:Value} {p o:R6} (h:Vg w b p t) (e:(p.setIfInBounds i v).setIfInBounds j u=o:=by simp):Vg ((w.setCell (ar b i) v).setCell (ar b j) u) b o t:=ss (ss h rfl) e
theorem ss3 {t:R9} {v:Value} {p o:R6} (h:Vg w b p t) (e:((p.setIfInBounds i v).setIfInBounds j u).setIfInBounds k x=o:=by simp):Vg (((w.setCell (ar b i) v).setCell (ar b j) u).setCell (ar b k) x) b o t:=ss (ss2 h rfl) e
section
variable {P:Program} {ops:Rn} {Q:Exit->Ro->R8->Prop} {md:Region.Mode} {S:R8->Prop} {n:Nat}
def eK (P:Program) (md:Region.Mode) (ops:Rn) (Q:Exit->Ro->R8->Prop) (S:R8->Prop) (n:Nat):Nat->Array Bool->Ro->R8->Prop
 | 0,listed,a,w=>Region.ready md ops listed=[]/\Q .normal a w
 | fuel+1,listed,a,w=>
  (Region.ready md ops listed=[]->Q .normal a w)/\
  ∀i∈Region.ready md ops listed,wpOp P ops Q i (λo h=>((listed.setIfInBounds i true).getD n true=false->S h)/\eK P md ops Q S n fuel (listed.setIfInBounds i true) o h) a w
theorem td:∀(o:Nat) (p:Array Bool) (a:Ro) (w:R8),eK P md ops Q S n o p a w->wpAny P md ops Q o p a w
 | 0,_,_,_,h=>h
 | o+1,_,_,_,h=>⟨h.1,λi y=>wpOp_mono (λx v u=>td o _ x v u.2) (h.2 i y)⟩
theorem Jv {h:Array Bool} {i j:Nat} (hB:Region.waitsFor md ops n i=true) (B:i∈Region.ready md ops h) (A:j∈Region.ready md ops h):j≠n:=λv=>by
 subst v;obtain ⟨_,D,u,o⟩:=mem_ready.1 A;obtain ⟨C,x,e,he,hb,p⟩:=Region.waitsFor_spec hB;have:C=D:=Option.some.inj (x.symm.trans u);subst this;have y:=o e he hb;rw [p,getD_both (mem_ready.1 B).1] at y
 cases y
theorem xF {i:Nat} {J:Oper} {v:Value} (hB:Region.waitsFor md ops n i=true) (a3:i≠n) (hi:ops[i]?=some J) (D:∀(j:Nat) (o:Oper) R b,ops[j]?=some o->o.op≠.select R b) (hQ:∀c a w,Q (.panic c) (a.put J.dst v) w->Q (.panic c) a w):
  ∀(x:Nat) (p:Array Bool) (a:Ro) (w:R8),
   (∀j L,ops[j]?=some L->j≠i->p.getD j true=false->(∀e∈L.after,Region.binds md e=true->e.on≠i)->J.apart ops L=true)->
   i∈Region.ready md ops p->YieldsIf P ops S J v a->p.getD n true=false->S w->
   eK P md ops Q S n x (p.setIfInBounds i true) (a.put J.dst v) w->eK P md ops Q S n (x+1) p a w:=by
 intro x
 induction x with
 | zero=>
  intro p a w _ hr hy hn Z H;refine ⟨λh=>(by rw [h] at hr;cases hr),λj Y=>?_⟩;by_cases u:j=i
  .subst u;exact hy.wpOp hi Z ⟨λ_=>Z,H⟩
  .have:=ready_mono Y u;rw [H.1] at this
   cases this
 | succ x ih=>
  intro p a w A hr hy hn Z H;refine ⟨λh=>(by rw [h] at hr;cases hr),λj Y=>?_⟩;by_cases u:j=i
  .subst u;exact hy.wpOp hi Z ⟨λ_=>Z,H⟩
  .have h1:=H.2 j (ready_mono Y u);have T:=Jv hB hr Y
   have y:(p.setIfInBounds j true).getD n true=false->((p.setIfInBounds i true).setIfInBounds j true).getD n true=false:=λh=>by
    rw [Array.setIfInBounds_comm _ _ (Ne.symm u),getD_set_ne true a3];exact h
   obtain ⟨C,L,I,V⟩:=mem_ready.1 Y
   have O:∀e∈L.after,Region.binds md e=true->e.on≠i:=λe he hb a2=>by
    have h1:=V e he hb;rw [a2,getD_both (mem_ready.1 hr).1] at h1
    cases h1
   have h2:=wpOp_putIf I (A j L I u C O) (λR b=>D i J R b hi) (λR b=>D j L R b I) hQ hy h1
   have B:∀k ok,ops[k]?=some ok->k≠i->(p.setIfInBounds j true).getD k true=false->
     (∀e∈ok.after,Region.binds md e=true->e.on≠i)->J.apart ops ok=true:=λk ok hk a1 U a0=>by
    refine A k ok hk a1 ?_ a0;by_cases N:j=k
    .subst N;exact C
    .rw [getD_set_ne true N] at U;exact U
   refine wpOp_mono (λa' w' h3=>⟨(λh=>h3.2.1 (y h)),ih (p.setIfInBounds j true) a' w' B (ready_mono hr (Ne.symm u)) h3.1 (by rw [getD_set_ne true T];exact hn) (h3.2.1 (y (by rw [getD_set_ne true T];exact hn))) ?_⟩) h2;rw [Array.setIfInBounds_comm _ _ u];exact h3.2.2
theorem vu {i:Nat} {L:Oper} {v:Value} (a3:i≠n) (hi:ops[i]?=some L) (I:∀(j:Nat) (o:Oper) T b,ops[j]?=some o->o.op≠.select T b) (hQ:∀c a w,Q (.panic c) (a.put L.dst v) w->Q (.panic c) a w):
  ∀(x:Nat) (p:Array Bool) (a:Ro) (w:R8),
   (∀j N,ops[j]?=some N->j≠i->p.getD j true=false->(∀e∈N.after,Region.binds md e=true->e.on≠i)->L.apart ops N=true)->
   i∈Region.ready md ops p->YieldsIf P ops (λ_=>True) L v a->(p.getD n true=false->S w)->
   eK P md ops Q S n x (p.setIfInBounds i true) (a.put L.dst v) w->eK P md ops Q S n (x+1) p a w:=by
 intro x
 induction x with
 | zero=>
  intro p a w _ hr Y hS H;refine ⟨λh=>(by rw [h] at hr;cases hr),λj hj=>?_⟩;by_cases u:j=i
  .subst u;exact Y.wpOp hi trivial ⟨λh=>hS (by
    by_cases B:j=n
    .subst B;exact (mem_ready.1 hr).1
    .rwa [getD_set_ne true B] at h),H⟩
  .have:=ready_mono hj u;rw [H.1] at this
   cases this
 | succ x ih=>
  intro p a w A hr Y hS H;refine ⟨λh=>(by rw [h] at hr;cases hr),λj hj=>?_⟩;by_cases u:j=i
  .subst u;exact Y.wpOp hi trivial ⟨λh=>hS (by
    by_cases B:j=n
    .subst B;exact (mem_ready.1 hr).1
    .rwa [getD_set_ne true B] at h),H⟩
  .have h1:=H.2 j (ready_mono hj u)
   have y:(p.setIfInBounds j true).getD n true=false->((p.setIfInBounds i true).setIfInBounds j true).getD n true=false:=λh=>by
    rw [Array.setIfInBounds_comm _ _ (Ne.symm u),getD_set_ne true a3];exact h
   obtain ⟨D,N,J,V⟩:=mem_ready.1 hj
   have R:∀e∈N.after,Region.binds md e=true->e.on≠i:=λe he hb a2=>by
    have h1:=V e he hb;rw [a2,getD_both (mem_ready.1 hr).1] at h1
    cases h1
   have h2:=wpOp_putIf J (A j N J u D R) (λT b=>I i L T b hi) (λT b=>I j N T b J) hQ Y h1
   have C:∀k ok,ops[k]?=some ok->k≠i->(p.setIfInBounds j true).getD k true=false->
     (∀e∈ok.after,Region.binds md e=true->e.on≠i)->L.apart ops ok=true:=λk ok hk a1 U a0=>by
    refine A k ok hk a1 ?_ a0;by_cases O:j=k
    .subst O;exact D
    .rw [getD_set_ne true O] at U;exact U
   refine wpOp_mono (λa' w' Z=>⟨(λh=>Z.2.1 (y h)),ih (p.setIfInBounds j true) a' w' C (ready_mono hr (Ne.symm u)) Z.1 (λh=>Z.2.1 (y h)) ?_⟩) h2;rw [Array.setIfInBounds_comm _ _ u];exact Z.2.2
theorem rT {i:Nat} {u:Oper} {v:Value} {p:Nat} {o:Array Bool} {a:Ro} {w:R8} (y:ops[i]?=some u) (hB:Region.waitsFor md ops n i=true) (x:i≠n) (hn:o.getD n true=false) (hs:Region.noSelect ops=true) (A:Region.free md ops o i=true) (hr:(Region.ready md ops o).contains i=true) (D:∀c a w,Q (.panic c) (a.put u.dst v) w->Q (.panic c) a w) (B:YieldsIf P ops S u v a) (C:S w) (h:eK P md ops Q S n p (o.setIfInBounds i true) (a.put u.dst v) w):eK P md ops Q S n (p+1) o a w:=
 xF hB x y (Region.noSelect_spec hs) D p o a w (Region.free_spec y A) (by simpa using hr) B hn C h
theorem qh {i:Nat} {u:Oper} {v:Value} {p:Nat} {o:Array Bool} {a:Ro} {w:R8} (y:ops[i]?=some u) (x:i≠n) (hs:Region.noSelect ops=true) (A:Region.free md ops o i=true) (hr:(Region.ready md ops o).contains i=true) (B:∀c a w,Q (.panic c) (a.put u.dst v) w->Q (.panic c) a w) (C:YieldsIf P ops (λ_=>True) u v a) (D:S w) (h:eK P md ops Q S n p (o.setIfInBounds i true) (a.put u.dst v) w):eK P md ops Q S n (p+1) o a w:=
 vu x y (Region.noSelect_spec hs) B p o a w (Region.free_spec y A) (by simpa using hr) C (λ_=>D) h
theorem wX {x:Oper} {v:Value} {u:Nat} {o:Array Bool} {a:Ro} {w:R8} (i:Nat) (B:S w) (h:eK P .any ops Q S n u (o.setIfInBounds i true) (a.put x.dst v) w) (C:ops[i]?=some x:=by rfl) (hB:Region.waitsFor .any ops n i=true:=by kernel_rfl) (hni:i≠n:=by decide) (hn:o.getD n true=false:=by kernel_rfl) (hs:Region.noSelect ops=true:=by kernel_rfl) (hf:Region.free .any ops o i=true:=by kernel_rfl) (hr:(Region.ready .any ops o).contains i=true:=by kernel_rfl) (hQ:∀c a w,Q (.panic c) (a.put x.dst v) w->Q (.panic c) a w:=by exact λ_ _ _ h=>h) (hy:YieldsIf P ops S x v a:=by (refine Or.inl ⟨by rfl,?_⟩;intro D p;(try dsimp only at p);(first | obtain ⟨s1,s2,y,A,H⟩:=p | obtain ⟨s1,s2,y,A⟩:=p | obtain ⟨s1,s2,y⟩:=p | obtain ⟨s1,s2⟩:=p | skip);go_simp;(try with_reducible rfl))):eK P .any ops Q S n (u+1) o a w:=rT C hB hni hn hs hf hr hQ hy B h
theorem wX0 {u:Oper} {v:Value} {p:Nat} {o:Array Bool} {a:Ro} {w:R8} (i:Nat) (x:S w) (h:eK P .any ops Q S n p (o.setIfInBounds i true) (a.put u.dst v) w) (y:ops[i]?=some u:=by rfl) (hni:i≠n:=by decide) (hs:Region.noSelect ops=true:=by kernel_rfl) (hf:Region.free .any ops o i=true:=by kernel_rfl) (hr:(Region.ready .any ops o).contains i=true:=by kernel_rfl) (hQ:∀c a w,Q (.panic c) (a.put u.dst v) w->Q (.panic c) a w:=by exact λ_ _ _ h=>h) (hy:YieldsIf P ops (λ_=>True) u v a:=by (refine Or.inl ⟨by rfl,?_⟩;intro A _;go_simp;(try with_reducible rfl))):eK P .any ops Q S n (p+1) o a w:=qh y hni hs hf hr hQ hy x h
def aT (P:Program) (md:Region.Mode) (ops:Rn) (Q:Exit->Ro->R8->Prop) (S:R8->Prop) (n:Nat) (o:Nat) (h:Array Bool) (a:Ro) (w:R8) (rs:List Nat):Prop:=
 ∀i∈rs,wpOp P ops Q i (λu p=>((h.setIfInBounds i true).getD n true=false->S p)/\eK P md ops Q S n o (h.setIfInBounds i true) u p) a w
theorem aT.nil {o:Nat} {i:Array Bool} {a:Ro} {w:R8}:aT P md ops Q S n o i a w []:=λ_ h=>by cases h
theorem aT.cons {u:Nat} {p:Array Bool} {a:Ro} {w:R8} {i:Nat} {o:Oper} {rs:List Nat} (B:ops[i]?=some o) (h:∀v:Ro->R8->Prop,Shut (∀a w,S w->(S w->eK P md ops Q S n u (p.setIfInBounds i true) a w)->v a w)->if Region.wanted o (yielded ops a.tmps)=true then Oper.wp P o a w v Q else v (a.put o.dst undef) w) (hs:aT P md ops Q S n u p a w rs):aT P md ops Q S n u p a w (i::rs):=λj x=>by
 rcases List.mem_cons.1 x with rfl | x
 .exact wpOp_step B (λv C=>h v (λa w y A=>C a w ⟨λ_=>y,A y⟩))
 .exact hs j x
theorem cJ {rs:List Nat} {o:Nat} {i:Array Bool} {a:Ro} {w:R8} (hr:Region.ready md ops i=rs) (p:rs≠[]) (h:aT P md ops Q S n o i a w rs):eK P md ops Q S n (o+1) i a w:=⟨λu=>absurd (hr▸u) p,hr▸h⟩
theorem te:∀(l:List Oper) (k:Nat) (p:Array Bool) (a:Ro) (w:R8),(k≠n->p.getD n true=true)->(∀j,l[j]?=ops[k+j]?)->
  Region.seqB md ops l.length k p=true->wpList P ops Q l a w->eK P md ops Q S n l.length p a w
 | [],_,_,_,_,_,_,hB,h=>⟨by simpa [Region.seqB] using hB,h⟩
 | o::l,k,p,a,w,hk,hl,hB,h=>by
  have D:ops[k]?=some o:=by simpa using (hl 0).symm
  simp only [List.length_cons,Region.seqB,Bool.and_eq_true,QV] at hB
  have u:(p.setIfInBounds k true).getD n true=true:=by
   by_cases v:k=n
   .subst v;rcases Qf k p.size with x | x
    .simp [x]
    .simp [Nat.not_lt.2 x]
   .rw [getD_set_ne true v];exact hk v
  refine ⟨λh1=>(by rw [hB.1] at h1;cases h1),λi A=>?_⟩;rw [hB.1] at A;have y:i=k:=by simpa using A
  subst y;have hw:wpOp P ops Q i (wpList P ops Q l) a w:=by unfold wpOp;simp only [D];exact h
  exact wpOp_mono (λC B x=>⟨λh=>(by rw [u] at h;cases h),te l (i+1) _ C B (λ_=>u) (λj=>by have:=hl (j+1);simpa [QO,Nat.add_comm 1 j] using this) hB.2 x⟩) hw
theorem fq {l:List Oper} {o:Nat} {i:Array Bool} {a:Ro} {w:R8} (p:o=(l.drop n).length) (hB:Region.seqB md l.toArray (l.drop n).length n i=true) (h:wpList P l.toArray Q (l.drop n) a w):
  eK P md l.toArray Q S n o i a w:=by
 subst p;exact te (l.drop n) n i a w (λh=>absurd rfl h) (λj=>by simp [List.getElem?_drop]) hB h
theorem bY {t e:R9} {z:Value} {size i:Nat} (T:dM P t e z size i) {w:R8} {o:Oper} {D:R6} {a:Ro} {K:Ro->R8->Prop} {E:Prop} (s x:Operand) (p:o.guard=none) (H:o.op=.call {callee:=.builtin .append,args:=#[s,x],argTypes:=#[t,t]}) (base:Nat) (v:Value) (n:Nat) (xs:R7) (hs:a.eval s=v) (hown:w.ownsRow base e size v n xs) (A:N_) (m c:Nat) (us:R7) (hx:a.eval x=.slice A m c) (hr:Rd w A us) (hus:us.length=m*size) (h1:∀u∈us,u.oneCell'=true) (hb:(n+m)*i<=140737488355328) (h63:n+m<=maxLen) (hbase:base<=w.heap.size) (h:∀C B y,y.ownsRow base e size (.slice C (n+m) B) (n+m) (xs++us)->Below base w y->w.grownBy y v.ownBlock->((Value.slice C (n+m) B).ownBlock=v.ownBlock\/(Value.slice C (n+m) B).ownBlock=some (Ve w))->K (a.put o.dst (.slice C (n+m) B)) y):
  if Region.wanted o (yielded ops D)=true then Oper.wp P o a w K Q else E:=by
 rw [if_pos (by simp [Region.wanted,p])];have:=ji (ops:=ops) (K:=K) (Q:=Q) (E:=E) T p s x H base v n xs hs hown A m c us hx hr hus h1 hb h63 hbase h
 rwa [if_pos (by simp [Region.wanted,p])] at this
theorem kO (n:Nat) (S:R8->Prop) {id:Nat} {a:Ro} {w:R8} (hm:P.follows .mixedOrders=true) (h:eK P .any ops Q S n ops.size (Array.replicate ops.size false) a w.drew):(Code.region id ops true).wp P Q a w:=
 wp_region_any hm (td _ _ _ _ h)
end
end
section
variable {P:Program} {ops:Rn} {Q:Exit->Ro->R8->Prop} {S:R8->Prop} {n:Nat}
def unl (l:Array Bool):Nat:=l.toList.count false
theorem Mg {l:Array Bool} {i:Nat} (h:l.getD i true=false):unl l=unl (l.setIfInBounds i true)+1:=by
 have o:i<l.size:=by
  rcases Qf i l.size with p | p
  .exact p
  .simp [Array.getElem?_eq_none p] at h
 have hl:l.toList[i]'(by simpa using o)=false:=by simpa [o] using h
 have u:List.count false (l.toList.set i true)=List.count false l.toList-1:=by
  rw [List.count_set (by simpa using o)];simp [hl]
 have h1:0<List.count false l.toList:=List.count_pos_iff.2 (by rw [<-hl];exact List.getElem_mem _);unfold unl;rw [Array.toList_setIfInBounds,u];omega
def bP (m:Nat) (L:List Nat):Array Bool:=L.foldr (λi l=>l.setIfInBounds i true) (Array.replicate m false)
theorem sC (m:Nat):∀L:List Nat,(bP m L).size=m
 | []=>by simp [bP]
 | a::L=>by simp only [bP,List.foldr_cons,Array.size_setIfInBounds];exact sC m L
theorem kr (m i:Nat) (d:Bool):∀L:List Nat,(bP m L).getD i d=if i<m then L.contains i else d
 | []=>by simp only [bP,List.foldr_nil,List.contains_nil];split<;>simp_all [Array.getElem?_replicate]
 | a::L=>by
  have p:=kr m i d L;have hs:=sC m L
  show ((bP m L).setIfInBounds a true).getD i d=_
  by_cases h:i<m
  .rw [if_pos h] at p |-;by_cases o:a=i
   .subst o;simp [hs,h]
   .rw [getD_set_ne d o,p];simp [Ne.symm o]
  .rw [if_neg h] at p |-;by_cases o:a=i
   .subst o;simp [hs,h]
   .rw [getD_set_ne d o,p]
def dz (ops:Rn) (L:List Nat):List Nat:= (List.range ops.size).filter λi=> !L.contains i&&((ops[i]?).map (·.after.all λe=> !Region.binds .any e||(L.contains e.on&&decide (e.on<ops.size)))).getD false
theorem ep (L:List Nat):Region.ready .any ops (bP ops.size L)=dz ops L:=by
 unfold Region.ready dz;refine List.filter_congr λi p=>?_;rw [kr,if_pos (List.mem_range.1 p)]
 congr 3
 funext o
 congr 1
 funext e
 rw [kr];by_cases h:e.on<ops.size<;>simp [h]
def AH (ops:Rn) (L:List Nat) (i:Nat):Bool:=
 match ops[i]? with
 | none=>false
 | some oi=>(List.range ops.size).all λj=>j==i||L.contains j||match ops[j]? with
   | some oj=>oj.after.any (λe=>Region.binds .any e&&e.on==i)||oi.apart ops oj
   | none=>true
theorem uI (L:List Nat) (i:Nat):Region.free .any ops (bP ops.size L) i=AH ops L i:=by
 unfold Region.free AH
 cases ops[i]? with
 | none=>rfl
 | some oi=>
  dsimp only;rw [Bool.eq_iff_iff,List.all_eq_true,List.all_eq_true];refine forall_congr' λj=>forall_congr' λh=>?_;rw [kr,if_pos (List.mem_range.1 h)];exact Iff.rfl
def ER (ops:Rn):Nat->Nat->List Nat->Bool
 | 0,_,L=>(dz ops L).isEmpty
 | g+1,k,L=>decide (dz ops L=[k])&&ER ops g (k+1) (k::L)
theorem DD:∀(g k:Nat) (L:List Nat),Region.seqB .any ops g k (bP ops.size L)=ER ops g k L
 | 0,k,L=>by simp only [Region.seqB,ER,ep]
 | g+1,k,L=>by
  simp only [Region.seqB,ER,ep];rw [<-DD g (k+1) (k::L)];rfl
inductive Ys (P:Program) (ops:Rn) (S:R8->Prop):List Nat->Ro->Ro->Prop
 | nil {a:Ro}:Ys P ops S [] a a
 | cons {i:Nat} {is:List Nat} {o:Oper} {v:Value} {a a':Ro} (ho:ops[i]?=some o) (hy:YieldsIf P ops S o v a) (ht:Ys P ops S is (a.put o.dst v) a'):Ys P ops S (i::is) a a'
def my (ops:Rn):List Nat->List Nat->Bool
 | _,[]=>true
 | L,i::is=>(AH ops L i&&(dz ops L).contains i)&&my ops (i::L) is
def tu (ops:Rn) (n:Nat):List Nat->List Nat->Bool
 | _,[]=>true
 | L,i::is=>(Region.waitsFor .any ops n i&&decide (i≠n)&&(decide (n<ops.size)&& !L.contains n)&&AH ops L i&&(dz ops L).contains i)&&tu ops n (i::L) is
structure HA (P:Program) (ops:Rn) (Q:Exit->Ro->R8->Prop) (S:R8->Prop) (L:List Nat) (a:Ro) (w:R8):Prop where
 out:wpAnyH P .any ops Q S (unl (bP ops.size L)) (bP ops.size L) a w
structure XA (P:Program) (ops:Rn) (Q:Exit->Ro->R8->Prop) (S:R8->Prop) (n:Nat) (L:List Nat) (a:Ro) (w:R8):Prop where
 out:eK P .any ops Q S n (unl (bP ops.size L)) (bP ops.size L) a w
theorem ti (m:Nat):unl (bP m [])=m:=by simp [unl,bP,List.count_replicate]
theorem HA.go {id:Nat} {a:Ro} {w:R8} (S:R8->Prop) (hm:P.follows .mixedOrders=true) (h:HA P ops Q S [] a w.drew):(Code.region id ops true).wp P Q a w:=by
 refine wp_region_held (S:=S) hm ?_;have i:=h.out;rw [ti] at i;exact i
theorem XA.go {id:Nat} {a:Ro} {w:R8} (n:Nat) (S:R8->Prop) (hm:P.follows .mixedOrders=true) (h:XA P ops Q S n [] a w.drew):(Code.region id ops true).wp P Q a w:=by
 refine kO n S hm ?_;have i:=h.out;rw [ti] at i;exact i
theorem cW {L:List Nat} {i:Nat} (h:(dz ops L).contains i=true):unl (bP ops.size L)=unl (bP ops.size (i::L))+1:=
 Mg (mem_ready.1 (show i∈Region.ready .any ops (bP ops.size L) by rw [ep];simpa using h)).1
theorem HA.takes (hs:Region.noSelect ops=true) (x:∀c a w d v,Q (.panic c) (Act.put a d v) w->Q (.panic c) a w) {w:R8} (u:S w):
  ∀(o:List Nat) {L:List Nat} {a p:Ro},my ops L o=true->Ys P ops S o a p->HA P ops Q S (o.reverse++L) p w->HA P ops Q S L a w
 | [],_,_,_,_,.nil,h=>h
 | i::o,L,a,p,hc,.cons ho hy ht,h=>by
  simp only [my,Bool.and_eq_true] at hc;have y:=HA.takes hs x u o (L:=i::L) hc.2 ht (by simpa using h);refine ⟨?_⟩;rw [cW hc.1.2];exact wpAnyH_take ho hs (by rw [uI];exact hc.1.1) (by rw [ep];exact hc.1.2) (λc a w=>x c a w _ _) hy u y.out
theorem XA.takes (hs:Region.noSelect ops=true) (x:∀c a w d v,Q (.panic c) (Act.put a d v) w->Q (.panic c) a w) {w:R8} (u:S w):
  ∀(o:List Nat) {L:List Nat} {a p:Ro},tu ops n L o=true->Ys P ops S o a p->XA P ops Q S n (o.reverse++L) p w->XA P ops Q S n L a w
 | [],_,_,_,_,.nil,h=>h
 | i::o,L,a,p,hc,.cons ho hy ht,h=>by
  simp only [tu,Bool.and_eq_true,QV,Bool.not_eq_true'] at hc;have y:=XA.takes hs x u o (L:=i::L) hc.2 ht (by simpa using h);refine ⟨?_⟩;rw [cW hc.1.2];exact rT ho hc.1.1.1.1.1 hc.1.1.1.1.2 (by rw [kr,if_pos hc.1.1.1.2.1,hc.1.1.1.2.2]) hs (by rw [uI];exact hc.1.1.2) (by rw [ep];exact hc.1.2) (λc a w=>x c a w _ _) hy u y.out
def NH (ops:Rn) (n:Nat):List Nat->List Nat->Bool
 | _,[]=>true
 | L,i::is=>(decide (i≠n)&&AH ops L i&&(dz ops L).contains i)&&NH ops n (i::L) is
theorem XA.takes0 (hs:Region.noSelect ops=true) (u:∀c a w d v,Q (.panic c) (Act.put a d v) w->Q (.panic c) a w) {w:R8} (x:S w):
  ∀(o:List Nat) {L:List Nat} {a p:Ro},NH ops n L o=true->Ys P ops (λ_=>True) o a p->XA P ops Q S n (o.reverse++L) p w->XA P ops Q S n L a w
 | [],_,_,_,_,.nil,h=>h
 | i::o,L,a,p,hc,.cons ho hy ht,h=>by
  simp only [NH,Bool.and_eq_true,QV] at hc;have y:=XA.takes0 hs u x o (L:=i::L) hc.2 ht (by simpa using h);refine ⟨?_⟩;rw [cW hc.1.2];exact qh ho hc.1.1.1 hs (by rw [uI];exact hc.1.1.2) (by rw [ep];exact hc.1.2) (λc a w=>u c a w _ _) hy x y.out
theorem wA {L:List Nat} {i:Nat} (hr:dz ops L=[i]):unl (bP ops.size L)=unl (bP ops.size (i::L))+1:=
 cW (by rw [hr];simp)
theorem HA.one {L:List Nat} {a:Ro} {w:R8} (i:Nat) {o:Oper} (v:ops[i]?=some o) (hr:dz ops L=[i]) (h:∀p:Ro->R8->Prop,Shut (∀a w,S w->(S w->HA P ops Q S (i::L) a w)->p a w)->if Region.wanted o (yielded ops a.tmps)=true then Oper.wp P o a w p Q else p (a.put o.dst undef) w):HA P ops Q S L a w:=by
 refine ⟨?_⟩;rw [wA hr];exact wpAnyH_ready (by rw [ep];exact hr) V3 (AllReadyH.cons v (λp y=>h p λa w x hw=>y.out a w x λu=>(hw u).out) AllReadyH.nil)
theorem XA.one {L:List Nat} {a:Ro} {w:R8} (i:Nat) {o:Oper} (v:ops[i]?=some o) (hr:dz ops L=[i]) (h:∀p:Ro->R8->Prop,Shut (∀a w,S w->(S w->XA P ops Q S n (i::L) a w)->p a w)->if Region.wanted o (yielded ops a.tmps)=true then Oper.wp P o a w p Q else p (a.put o.dst undef) w):XA P ops Q S n L a w:=by
 refine ⟨?_⟩;rw [wA hr];exact cJ (by rw [ep];exact hr) V3 (aT.cons v (λp y=>h p λa w x hw=>y.out a w x λu=>(hw u).out) aT.nil)
theorem HA.call {L:List Nat} {a:Ro} {w:R8} (i:Nat) {f:FuncId} {args:R6} {R:Ending->R8->Prop} (hc:Calls P f args w R) {o:Oper} (u:ops[i]?=some o) (hr:dz ops L=[i]) (hw:Region.wanted o (yielded ops a.tmps)=true) (he:(execOp a.eval o).run P w=.ok (.enter f args) w) (k:∀e p,R e p->∃v,Vi e v/\S p/\(S p->HA P ops Q S (i::L) (a.put o.dst v) p)):HA P ops Q S L a w:=by
 refine HA.one i u hr λB A=>?_;rw [if_pos hw];unfold Oper.wp;rw [he];refine hc.mono λe p y=>?_;obtain ⟨v,rfl,x,h⟩:=k e p y;exact A.out _ _ x h
theorem XA.call {L:List Nat} {a:Ro} {w:R8} (i:Nat) {f:FuncId} {args:R6} {R:Ending->R8->Prop} (hc:Calls P f args w R) {o:Oper} (u:ops[i]?=some o) (hr:dz ops L=[i]) (hw:Region.wanted o (yielded ops a.tmps)=true) (he:(execOp a.eval o).run P w=.ok (.enter f args) w) (k:∀e p,R e p->∃v,Vi e v/\S p/\(S p->XA P ops Q S n (i::L) (a.put o.dst v) p)):XA P ops Q S n L a w:=by
 refine XA.one i u hr λB A=>?_;rw [if_pos hw];unfold Oper.wp;rw [he];refine hc.mono λe p y=>?_;obtain ⟨v,rfl,x,h⟩:=k e p y;exact A.out _ _ x h
theorem XA.tail {l:List Oper} {L:List Nat} {a:Ro} {w:R8} (i:unl (bP l.toArray.size L)=(l.drop n).length) (hB:ER l.toArray (l.drop n).length n L=true) (h:wpList P l.toArray Q (l.drop n) a w):
  XA P l.toArray Q S n L a w:=by
 refine ⟨?_⟩;exact fq i (by rw [DD];exact hB) h
theorem HA.g {id:Nat} {a:Ro} {w:R8} (S:R8->Prop) (h:HA P ops Q S [] a w.drew) (hm:P.follows .mixedOrders=true:=by decide +kernel):(Code.region id ops true).wp P Q a w:=HA.go S hm h
theorem XA.g {id:Nat} {a:Ro} {w:R8} (n:Nat) (S:R8->Prop) (h:XA P ops Q S n [] a w.drew) (hm:P.follows .mixedOrders=true:=by decide +kernel):(Code.region id ops true).wp P Q a w:=XA.go n S hm h
theorem HA.t (p:Ro) (o:List Nat) {L:List Nat} {a:Ro} {w:R8} (u:S w) (h:HA P ops Q S (o.reverse++L) p w) (hs:Region.noSelect ops=true:=by decide +kernel) (hQ:∀c a w d v,Q (.panic c) (Act.put a d v) w->Q (.panic c) a w:=by (intro _ _ _ d _ h;cases d<;>exact h)) (hc:my ops L o=true:=by decide +kernel) (hy:Ys P ops S o a p:=by (try simp only [Qh,Qi,Qj,Act.put,Qk,Ql,Qm]);(repeat ((first | (refine Ys.cons (v:=?_) (by (simp only [Qn,Qo,Qp];rfl)) (Or.inl ⟨by rfl,?_⟩) ?_;rotate_left;(· (intro x i;(try dsimp only at i);(try (have y:=jB i.1));go_simp;(try with_reducible rfl)))) | refine Ys.cons (v:=undef) (by (simp only [Qn,Qo,Qp];rfl)) (Or.inr ⟨by rfl,rfl⟩) ?_);simp only [Qh,Qi,Qj,Act.put,Qk,Ql,Qm]));exact Ys.nil):HA P ops Q S L a w:=HA.takes hs hQ u o hc hy h
theorem XA.t (p:Ro) (o:List Nat) {L:List Nat} {a:Ro} {w:R8} (u:S w) (h:XA P ops Q S n (o.reverse++L) p w) (hs:Region.noSelect ops=true:=by decide +kernel) (hQ:∀c a w d v,Q (.panic c) (Act.put a d v) w->Q (.panic c) a w:=by (intro _ _ _ d _ h;cases d<;>exact h)) (hc:tu ops n L o=true:=by decide +kernel) (hy:Ys P ops S o a p:=by (try simp only [Qh,Qi,Qj,Act.put,Qk,Ql,Qm]);(repeat ((first | (refine Ys.cons (v:=?_) (by (simp only [Qn,Qo,Qp];rfl)) (Or.inl ⟨by rfl,?_⟩) ?_;rotate_left;(· (intro x i;(try dsimp only at i);(try (have y:=jB i.1));go_simp;(try with_reducible rfl)))) | refine Ys.cons (v:=undef) (by (simp only [Qn,Qo,Qp];rfl)) (Or.inr ⟨by rfl,rfl⟩) ?_);simp only [Qh,Qi,Qj,Act.put,Qk,Ql,Qm]));exact Ys.nil):XA P ops Q S n L a w:=XA.takes hs hQ u o hc hy h
theorem XA.t0 (o:Ro) (i:List Nat) {L:List Nat} {a:Ro} {w:R8} (p:S w) (h:XA P ops Q S n (i.reverse++L) o w) (hs:Region.noSelect ops=true:=by decide +kernel) (hQ:∀c a w d v,Q (.panic c) (Act.put a d v) w->Q (.panic c) a w:=by (intro _ _ _ d _ h;cases d<;>exact h)) (hc:NH ops n L i=true:=by decide +kernel) (hy:Ys P ops (λ_=>True) i a o:=by (try simp only [Qh,Qi,Qj,Act.put,Qk,Ql,Qm]);(repeat ((first | (refine Ys.cons (v:=?_) (by (simp only [Qn,Qo,Qp];rfl)) (Or.inl ⟨by rfl,?_⟩) ?_;rotate_left;(· (intro u _;go_simp;(try with_reducible rfl)))) | refine Ys.cons (v:=undef) (by (simp only [Qn,Qo,Qp];rfl)) (Or.inr ⟨by rfl,rfl⟩) ?_);simp only [Qh,Qi,Qj,Act.put,Qk,Ql,Qm]));exact Ys.nil):XA P ops Q S n L a w:=XA.takes0 hs hQ p i hc hy h
theorem HA.c {L:List Nat} {a:Ro} {w:R8} (i:Nat) {f:FuncId} {args:R6} {R:Ending->R8->Prop} {o:Oper} (hc:Calls P f args w R) (k:∀e h,R e h->∃v,Vi e v/\S h/\(S h->HA P ops Q S (i::L) (a.put o.dst v) h)) (p:ops[i]?=some o:=by (simp only [Qn,Qo,Qp];rfl)) (hr:dz ops L=[i]:=by decide +kernel) (hw:Region.wanted o (yielded ops a.tmps)=true:=by rfl) (he:(execOp a.eval o).run P w=.ok (.enter f args) w:=by go_simp):HA P ops Q S L a w:=HA.call i hc p hr hw he k
theorem XA.c {L:List Nat} {a:Ro} {w:R8} (i:Nat) {f:FuncId} {args:R6} {R:Ending->R8->Prop} {o:Oper} (hc:Calls P f args w R) (k:∀e h,R e h->∃v,Vi e v/\S h/\(S h->XA P ops Q S n (i::L) (a.put o.dst v) h)) (p:ops[i]?=some o:=by (simp only [Qn,Qo,Qp];rfl)) (hr:dz ops L=[i]:=by decide +kernel) (hw:Region.wanted o (yielded ops a.tmps)=true:=by rfl) (he:(execOp a.eval o).run P w=.ok (.enter f args) w:=by go_simp):XA P ops Q S n L a w:=XA.call i hc p hr hw he k
theorem HA.d {L:List Nat} {a:Ro} {w:R8} (h:Q .normal a w) (hr:dz ops L=[]:=by decide +kernel):HA P ops Q S L a w:=⟨wpAnyH_done (by rw [ep];exact hr) h _⟩
theorem XA.e {l:List Oper} {L:List Nat} {a:Ro} {w:R8} (h:wpList P l.toArray Q (l.drop n) a w) (i:unl (bP l.toArray.size L)=(l.drop n).length:=by rfl) (hB:ER l.toArray (l.drop n).length n L=true:=by decide +kernel):
  XA P l.toArray Q S n L a w:=XA.tail i hB h
theorem HA.o {L:List Nat} {a:Ro} {w:R8} {o:Oper} (i:Nat) (h:∀p:Ro->R8->Prop,Shut (∀a w,S w->(S w->HA P ops Q S (i::L) a w)->p a w)->if Region.wanted o (yielded ops a.tmps)=true then Oper.wp P o a w p Q else p (a.put o.dst undef) w) (u:ops[i]?=some o:=by (simp only [Qn,Qo,Qp];rfl)) (hr:dz ops L=[i]:=by decide +kernel):HA P ops Q S L a w:=HA.one i u hr h
theorem XA.o {L:List Nat} {a:Ro} {w:R8} {o:Oper} (i:Nat) (h:∀p:Ro->R8->Prop,Shut (∀a w,S w->(S w->XA P ops Q S n (i::L) a w)->p a w)->if Region.wanted o (yielded ops a.tmps)=true then Oper.wp P o a w p Q else p (a.put o.dst undef) w) (u:ops[i]?=some o:=by (simp only [Qn,Qo,Qp];rfl)) (hr:dz ops L=[i]:=by decide +kernel):XA P ops Q S n L a w:=XA.one i u hr h
theorem HA.s {L:List Nat} {a:Ro} {w:R8} {o:Oper} (i:Nat) (h:R8) (u:S h) (k:HA P ops Q S (i::L) (a.put o.dst undef) h) (p:ops[i]?=some o:=by (simp only [Qn,Qo,Qp];rfl)) (hr:dz ops L=[i]:=by decide +kernel) (hw:Region.wanted o (yielded ops a.tmps)=true:=by rfl) (he:(execOp a.eval o).run P w=.ok .skip h:=by go_simp):HA P ops Q S L a w:=by
 refine HA.one i p hr λx v=>?_;rw [if_pos hw];unfold Oper.wp;rw [he];exact v.out _ _ u λ_=>k
theorem HA.v {L:List Nat} {a:Ro} {w:R8} {o:Oper} (i:Nat) (h:R8) (v:Value) (u:S h) (k:HA P ops Q S (i::L) (a.put o.dst v) h) (p:ops[i]?=some o:=by (simp only [Qn,Qo,Qp];rfl)) (hr:dz ops L=[i]:=by decide +kernel) (hw:Region.wanted o (yielded ops a.tmps)=true:=by rfl) (he:(execOp a.eval o).run P w=.ok (.value v) h:=by go_simp):HA P ops Q S L a w:=by
 refine HA.one i p hr λy x=>?_;rw [if_pos hw];unfold Oper.wp;rw [he];exact x.out _ _ u λ_=>k
end
section
open Go.RowKit
theorem ay {u:R6} {t e:R9} {y:Nat×Nat} (h:W.heap[b]?=some (.cells u t y)) (o:t≠e) {v:Value} (hr:W.ownsRow base e size v k xs):some b≠v.ownBlock:=by
 rcases hr.2 with ⟨rfl,_⟩ | ⟨g,cap,p,rfl,_,i,_⟩
 .simp [Value.ownBlock]
 .intro x;obtain rfl:b=g:=by simpa [Value.ownBlock] using x
  have:=h.symm.trans i;simp at this;exact o this.2.1
theorem eh {u:R8} {p:R6} {t e:R9} {x:Nat×Nat} {o:Obj} (h:W.heap[b]?=some (.cells p t x)) (i:t≠e) {v:Value} (hr:W.ownsRow base e size v k xs) (hg:(W.alloc o).grownBy u v.ownBlock):u.heap[b]?=some (.cells p t x):= (hg.block b (by have:=PU h;simp;omega) (ay h i hr)).trans ((Qc W o b (PU h)).trans h)
theorem De {i:R8} {o:Nat} {e:R9} {p:Obj} (h:Vh W b o u) {v:Value} (hb:b<base) (hr:W.ownsRow base e size v k xs) (hg:(W.alloc p).grownBy i v.ownBlock):Vh i b o u:=
 hg.cell ((World.cell?_of_block (w:=W) (Qc W p b (aB h))).trans h) (λe=>by
  have x:v.ownBlock=some b:=e.symm;have:=(hr.lt b x).1
  omega)
theorem wH {B:R8} {A:R9} {v:Value} {o:Obj} (y:W.ownsRow base' A h u m ys) (x:∀i,v.ownBlock=some i->u.ownBlock≠some i) (hg:(W.alloc o).grownBy B v.ownBlock) (p:v'.ownBlock=v.ownBlock\/v'.ownBlock=some (W.alloc o).heap.size):B.ownsRow base' A h u m ys/\∀i,v'.ownBlock=some i->u.ownBlock≠some i:=by
 refine ⟨(y.alloc o).kept hg ?_,λi C=>?_⟩
 .cases hub:u.ownBlock with
  | none=>exact .inl rfl
  | some k=>exact .inr λe=>x k e.symm hub
 .rcases p with p | p
  .exact x i (p▸C)
  .intro e;have h1:=(y.lt i e).2;rw [C] at p;simp at p;omega
theorem aJ {p:Addr} (h:W.cell? p=some u) (o:Obj):(W.alloc o).cell? p=some u:= (World.cell?_of_block (w:=W) (Qc W o _ (aB h))).trans h
theorem aw {i:R8} {p:Addr} (hb:aq w i) (h:w.cell? p=some u):i.cell? p=some u:=(World.cell?_of_block (w:=w) (hb.block _ (aB h))).trans h
theorem jP {H v y s1 s2 D I:Nat} {u o:R7} (h1:W.ownsRow B v s1 v1 D u) (C:W.ownsRow H y s2 v2 I o) (p:v≠y):∀i,v1.ownBlock=some i->v2.ownBlock≠some i:=by
 intro i x e;rcases h1.2 with ⟨rfl,_⟩ | ⟨g,cap,A,rfl,_,h,_⟩
 .cases x
 .obtain rfl:g=i:=by simpa [Value.ownBlock] using x
  exact ay h p C e.symm
theorem zK {x:R8} {p e:Nat} {v y:Value} {o:Obj} {J:R6} {t:R9} (C:W.ownsRow base' p h u m ys) (H:W.ownsRow base e size v n xs) (hg:(W.alloc o).grownBy x v.ownBlock) (hB:Vg x B J t) (h1:e≠p) (I:t≠p):(x.setCell (ar B j) y).ownsRow base' p h u m ys:=by
 have D:x.ownsRow base' p h u m ys:=by
  refine (C.alloc o).kept hg ?_
  cases hub:u.ownBlock with
  | none=>exact .inl rfl
  | some k=>exact .inr λA=>jP H C h1 k A.symm hub
 exact (Vk B (Keep.refl _ x) (ar B j) (.inr rfl) y).own D (λi L A=>ay hB I D (by rw [L,A]))
theorem qI {i:R8} {r:Option Nat} (h:W.drew.grownBy i r):W.grownBy i r:=⟨h.os,h.tape,h.output,h.size,h.block⟩
end
section
open Go.RowKit Go.Shelf
theorem mW {i:R8} (h:aq w i):w.grownBy i none:=⟨h.os,h.tape,h.output,h.size,λk hk _=>h.block k hk⟩
theorem gH {β:Type} (B b:Nat) (o:Obj) (i:o.isCells=true):OwnFrom B (λ(_:β) W=>W.heap[b]?=some o):=λ_ W p row hs hg hr=> (hg.block b (PU hs) λe=>by
  obtain ⟨u,h,hc⟩:=(hr b e.symm).2;rw [hs] at h
  cases h
  rw [i] at hc
  cases hc).trans hs
theorem oZ {t e:R9} {p:Nat} (T:dM P t e z size p) (W:R8) {o:Oper} (L:o.guard=none) (s x:Operand) (ho:o.op=.call {callee:=.builtin .append,args:=#[s,x],argTypes:=#[t,t]}) (n₀ B:Nat) (v:Value) (n:Nat) (xs:R7) (hs:a.eval s=v) (hbx:Boxed W B t v) (hte:t≠e) (hown:W.ownsRow n₀ e size v n xs) (us:R7) (hx:a.eval x=Vf W.heap.size 0 1 1) (hus:us.length=size) (h1:∀u∈us,u.oneCell'=true) (hb:(n+1)*p<=140737488355328) (h63:n+1<=maxLen) (hbase:n₀<=W.heap.size) (hB:n₀<=B) (h:∀g c y,Boxed y B t v->Boxed (y.setCell (ar B 0) (Vf g 0 (n+1) c)) B t (Vf g 0 (n+1) c)-> (y.setCell (ar B 0) (Vf g 0 (n+1) c)).ownsRow n₀ e size (Vf g 0 (n+1) c) (n+1) (xs++us)->
   KeepsOthers W (y.setCell (ar B 0) (Vf g 0 (n+1) c))->Below n₀ W (y.setCell (ar B 0) (Vf g 0 (n+1) c))->
   (∀b H C I,b≠B->C≠e->W.heap[b]?=some (.cells H C I)->(y.setCell (ar B 0) (Vf g 0 (n+1) c)).heap[b]?=some (.cells H C I))->
   wpListIn F m P ops Q rest (a.put o.dst (Vf g 0 (n+1) c)) y):wpListIn F m P ops Q (o::rest) a (W.alloc (.cells us.toArray e)):=by
 obtain ⟨i,hi,N,R,U⟩:=T.info
 refine wpListIn_append_own (W.alloc (.cells us.toArray e)) L s x t ho n₀ e i z size p T.und hi N R U T.zs T.pos v n xs hs (hown.alloc _) (ar W.heap.size 0) 1 1 us hx (by simpa using hus) ?_ h1 h63 hb
  V6 ?_
 .intro j u hu;rw [Addr.add_lit,QP,PX _ W.heap.size j us.toArray e (0,0) (PW W _)];simpa using hu
 .intro v' y A hg _;obtain ⟨g,c,rfl⟩:=ownsRow_succ A;obtain ⟨Y,k2,Z,k4,k5⟩:=hbx.appended hte hown hbase hB A hg;refine h g c y Y k2 Z k4 k5 λb H C I V D J=>?_;have O:(W.alloc (.cells us.toArray e)).heap[b]?=some (.cells H C I):=(Qc W _ b (PU J)).trans J;have h1:y.heap[b]?=some (.cells H C I):=(hg.block b (PU O) (ay O D (hown.alloc _))).trans O;exact (Below.heap_setCell y _ _ b (λe=>V e)).trans h1
theorem zJ {u:R8} {e:R9} {v:Value} (h:W.ownsRow base e size v n xs) (hg:W.grownBy u row) (hr:∀r,row=some r->B<=r/\∃o:Obj,W.heap[r]?=some o/\o.isCells=false):u.ownsRow base e size v n xs:=by
 refine h.kept hg ?_;rcases h.2 with ⟨rfl,_⟩ | ⟨g,cap,x,rfl,_,i,_⟩
 .exact .inl rfl
 .refine .inr λy=>?_;obtain ⟨o,p,hc⟩:=(hr g (by simpa [Value.ownBlock] using y.symm)).2;rw [i] at p;cases p;cases hc
theorem eQ {p:R8} {o:Obj} (u:o.isCells=true) (h:W.heap[b]?=some o) (hg:W.grownBy p row) (hr:∀r,row=some r->B<=r/\∃o:Obj,W.heap[r]?=some o/\o.isCells=false):p.heap[b]?=some o:= (hg.block b (PU h) λe=>by
  obtain ⟨v,i,hc⟩:=(hr b e.symm).2;rw [h] at i
  cases i
  rw [u] at hc
  cases hc).trans h
theorem no {i:R8} (h:Keep S W i) (u:∀k o,S k->W.heap[k]?=some o->o.isCells=true):KeepsOthers W i:=
 ⟨h.size,λk o hk p=>(h.block k (PU hk) λhs=>by rw [u k o hs hk] at p;cases p).trans hk⟩
theorem yP {t e:R9} (T:dM P t e z 1 h) (w:R8) {o:Oper} (hg:o.guard=none) (l c:Operand) (p:o.op=Op.makeSlice t l c) (D:z.cells=#[z]) (n:Nat) (hl:a.eval l=QZ (n:Int)) (hc:a.eval c=QZ (n:Int)) (L:h*n<=281474976710656) (b3:n<=maxLen) (J:∀x,x.ownsRow w.heap.size e 1 (Vf (Ve w) 0 n n) n (List.replicate n z)->Below (Ve w) w x->
   wpListIn F m P ops Q rest (a.put o.dst (Vf (Ve w) 0 n n)) x):wpListIn F m P ops Q (o::rest) a w:=by
 obtain ⟨i,N,B,C,y⟩:=T.info;refine wpListIn_plain hg λK H=>?_;obtain ⟨x,v,I,u⟩:=run_make_full (P:=P) w (Ve w) t e i z 1 T.und N B C .i64 .i64 n (by rw [y];exact L) b3 (PV _);rw [D,Nat.mul_one,toList_madeCells_one] at I;unfold Oper.wpIn;refine ⟨by simp [Oper.about,p],?_⟩;rw [Oper.semAt_plain F _ _ (by rw [p];intro c A;cases A)];simp [execOp,p,hl,hc,v,Result.andThen];exact H _ _ (J x I ⟨u.os,u.tape,u.output,u.size,λk hk=>u.block k hk V3⟩)
end
section
open Go.RowKit
theorem mK {i:Func} {t u v x:Tmp} (h:i.results=#[.tmp t,.tmp u,.tmp v,.tmp x]) (tmps:R6) (P:Program) (w:R8): (results i tmps).run P w=.ok (.tuple #[tmps.getD t undef,tmps.getD u undef,tmps.getD v undef,tmps.getD x undef]) w:=by
 simp [results,h]
theorem Mr {v o:N_} {x u:Nat} {p:Value} {z:Int} (hb:Vg w X #[.slice v n x,.slice o n u,p] 96) (B:z<0\/(n:Int)<=z):Vj 47 #[(au X),QZ z] w λe i=>Vi e (.tuple #[.nilIface,.pointer none,.pointer none,.bool false])/\aq w i:=by
 have t:=λi q=>bx3 (sb hb i q);have y:=br w;clear hb;by_cases h:z<0
 .go_enter func47,ntmps47;go_wp2_with fail
  (try simp only [Exit.inBlock,Exit.then]);refine Qd (mK rfl _ _ _) rfl ?_
  exact ⟨rfl,br w⟩
 .have A:(n:Int)<=z:=ap;go_enter func47,ntmps47;go_wp2_with fail
  (try simp only [Exit.inBlock,Exit.then]);refine Qd (mK rfl _ _ _) rfl ?_
  exact ⟨rfl,br w⟩
theorem NN {L C:N_} {R U z p:Nat} {Q v l O:Value} {J x:R7} (hb:Vg w X #[.slice L n R,.slice C n U,Q] 96) (I:Rd w L J) (y:Rd w C x) (hz:z<n) (hn:n<=1000) (A:(z+n-1)%n=p) (N:J[z]?=some v) (hl:x[p]?=some l) (u:x[z]?=some O):Vj 47 #[(au X),Vd z] w λe h=>Vi e (.tuple #[v,l,O,.bool true])/\aq w h:=by
 have T:p<n:=by rw [<-A];exact Nat.mod_lt _ ap
 obtain ⟨b1,o1,rfl,c1⟩:=I _ _ N;obtain ⟨b2,o2,rfl,c2⟩:=y _ _ hl;obtain ⟨b3,o3,V,c3⟩:=y _ _ u
 cases V
 have t:=λh q=>bx3 (sb hb h q);have t1:=λh (q:aq w h)=>(World.cell?_of_block (q.block _ (aB c1))).trans c1;have t2:=λh (q:aq w h)=>(World.cell?_of_block (q.block _ (aB c2))).trans c2;have t3:=λh (q:aq w h)=>(World.cell?_of_block (q.block _ (aB c3))).trans c3
 have i:((z:Int)+(n:Int)-1).tmod (n:Int)=(p:Int):=by
  rw [<-A,Int.tmod_eq_emod_of_nonneg ap,Int.natCast_emod,show ((z+n-1:Nat):Int)=(z:Int)+n-1 by omega]
 have B:((z:Int)+(n:Int)-1)%(n:Int)=(p:Int):=by rw [<-Int.tmod_eq_emod_of_nonneg ap];exact i
 have Y:¬(n=0):=ap;have h1:0<=(z:Int):=ap;have h2:(z:Int)<(n:Int):=ap;have h3:0<=(p:Int):=ap;have h4:(p:Int)<(n:Int):=ap;have Z:IntKind.i64.wrap ((z:Int)+n)=(z:Int)+n:=P3 _ ap;have w2:IntKind.i64.wrap ((z:Int)+n-1)=(z:Int)+n-1:=P3 _ ap;have H:IntKind.i64.wrap (p:Int)=(p:Int):=P3 _ ap;have w5:IntKind.i64.wrap (((z:Int)+n-1).tmod n)=(p:Int):=by rw [i];exact H
 have w6:IntKind.i64.wrap (((z:Int)+n-1)%n)=(p:Int):=by rw [B];exact H
 have D:=br w;clear hb I y A N hl u c1 c2 c3;go_enter func47,ntmps47;go_wp2;refine HA.g (λh:R8=>aq w h) ?_;refine HA.t ?_ [0,1,2,3,4,5,6,7,8,9,10,11,12,13,14,15,16,17,18,19,20,21,22,23,24,25,26,27,28,29] D.drew ?_;refine HA.d ?_;have K:=aa D.drew;go_wp2_with fail
 (try simp only [Exit.inBlock,Exit.then]);refine Qd (mK rfl _ _ _) rfl ?_
 exact ⟨rfl,K.o⟩
end
section
variable {P:Program} {ops:Rn} {Q:Exit->Ro->R8->Prop} {S:R8->Prop}
structure HAS (P:Program) (ops:Rn) (Q:Exit->Ro->R8->Prop) (S:R8->Prop) (i:Nat) (L:List Nat) (a:Ro) (w:R8):Prop where
 out:∃o,ops[i]?=some o/\∀K':Ro->R8->Prop,Shut (∀a w,S w->(S w->HA P ops Q S (i::L) a w)->K' a w)->if Region.wanted o (yielded ops a.tmps)=true then Oper.wp P o a w K' Q else K' (a.put o.dst undef) w
theorem HAS.c {L:List Nat} {a:Ro} {w:R8} {i:Nat} {f:FuncId} {args:R6} {R:Ending->R8->Prop} {o:Oper} (hc:Calls P f args w R) (k:∀e p,R e p->∃v,Vi e v/\S p/\(S p->HA P ops Q S (i::L) (a.put o.dst v) p)) (u:ops[i]?=some o:=by (simp only [Qn,Qo,Qp];rfl)) (hw:Region.wanted o (yielded ops a.tmps)=true:=by rfl) (he:(execOp a.eval o).run P w=.ok (.enter f args) w:=by go_simp):HAS P ops Q S i L a w:=by
 refine ⟨o,u,λB A=>?_⟩;rw [if_pos hw];unfold Oper.wp;rw [he];refine hc.mono λe p y=>?_;obtain ⟨v,rfl,x,h⟩:=k e p y;exact A.out _ _ x h
theorem HAS.v {L:List Nat} {a:Ro} {w:R8} {i:Nat} {o:Oper} (h:R8) (v:Value) (u:S h) (k:HA P ops Q S (i::L) (a.put o.dst v) h) (p:ops[i]?=some o:=by (simp only [Qn,Qo,Qp];rfl)) (hw:Region.wanted o (yielded ops a.tmps)=true:=by rfl) (he:(execOp a.eval o).run P w=.ok (.value v) h:=by go_simp):HAS P ops Q S i L a w:=by
 refine ⟨o,p,λy x=>?_⟩;rw [if_pos hw];unfold Oper.wp;rw [he];exact x.out _ _ u λ_=>k
theorem HA.two {L:List Nat} {a:Ro} {w:R8} (i j:Nat) (y:HAS P ops Q S i L a w) (p:HAS P ops Q S j L a w) (hr:dz ops L=[i,j]:=by decide +kernel):HA P ops Q S L a w:=by
 obtain ⟨H,x,y⟩:=y;obtain ⟨I,o,p⟩:=p;have B:unl (bP ops.size L)=unl (bP ops.size (i::L))+1:=cW (by rw [hr];simp);have D:unl (bP ops.size L)=unl (bP ops.size (j::L))+1:=cW (by rw [hr];simp);have C:unl (bP ops.size (j::L))=unl (bP ops.size (i::L)):=ap;refine ⟨?_⟩;rw [B];refine wpAnyH_ready (by rw [ep];exact hr) V3 (AllReadyH.cons x (λA v=>y A λa w u hw=>v.out a w u λh=>(hw h).out) (AllReadyH.cons o (λA v=>p A λa w u hw=>v.out a w u λh=>?_) AllReadyH.nil));have:=(hw h).out;rw [C] at this;exact this
theorem HA.three {L:List Nat} {a:Ro} {w:R8} (i j k:Nat) (B:HAS P ops Q S i L a w) (y:HAS P ops Q S j L a w) (hk:HAS P ops Q S k L a w) (hr:dz ops L=[i,j,k]:=by decide +kernel):HA P ops Q S L a w:=by
 obtain ⟨N,A,B⟩:=B;obtain ⟨O,x,y⟩:=y;obtain ⟨ok,v,hk⟩:=hk;have D:unl (bP ops.size L)=unl (bP ops.size (i::L))+1:=cW (by rw [hr];simp);have I:unl (bP ops.size L)=unl (bP ops.size (j::L))+1:=cW (by rw [hr];simp);have J:unl (bP ops.size L)=unl (bP ops.size (k::L))+1:=cW (by rw [hr];simp);have C:unl (bP ops.size (j::L))=unl (bP ops.size (i::L)):=ap;have H:unl (bP ops.size (k::L))=unl (bP ops.size (i::L)):=ap;refine ⟨?_⟩;rw [D];refine wpAnyH_ready (by rw [ep];exact hr) V3 (AllReadyH.cons A (λu p=>B u λa w o hw=>p.out a w o λh=>(hw h).out) (AllReadyH.cons x (λu p=>y u λa w o hw=>p.out a w o λh=>?_) (AllReadyH.cons v (λu p=>hk u λa w o hw=>p.out a w o λh=>?_) AllReadyH.nil)))
 .have:=(hw h).out;rw [C] at this;exact this
 .have:=(hw h).out;rw [H] at this;exact this
end
section
open Go.RowKit
section
variable {P:Program}
structure dg (P:Program) (t:R9) (n:Nat):Prop where
 d:∃d,P.underlying t=some d/\d.isRow=true
 s:(P.info? t).map (·.size)=some n
theorem eF {w:R8} {b:Nat} {xs:R6} {t:R9} {u:Nat×Nat} (h:w.heap[b]?=some (.cells xs t u)) (o:Nat) {p:R7} (hcs:(xs.toList.drop o).take p.length=p):w.rangeAt b o p:=λj v i=>by
 rw [PX w b (o+j) xs t u h];rw [<-hcs,List.getElem?_take] at i
 split at i
 .rw [List.getElem?_drop] at i;simpa using i
 .cases i
theorem rW (w:R8) (g:Nat) (h:R6):Keep (λj=>j=g) w (w.setRow g h):=by
 refine ⟨rfl,rfl,rfl,by simp [World.setRow],λk hk hs=>?_⟩;simp only [World.setRow,Array.getElem?_modify];rw [if_neg (λe=>hs e.symm)]
theorem aQ {ops:Rn} {rest:List Oper} {op:Oper} {a:Ro} {w:R8} {Q:Exit->Ro->R8->Prop} {u:R9} {x:Operand} {b o:Nat} {xs:R6} {t:R9} {C:Nat×Nat} (i:R6) (hb:w.heap[b]?=some (.cells xs t C)) (hr:dg P u i.size) (p:op.guard=none) (v:op.op=.load u x) (B:a.eval x=.pointer (some (ar b o))) (hcs:(xs.toList.drop o).take i.toList.length=i.toList) (h:wpList P ops Q rest (a.put op.dst (.agg i)) w):wpList P ops Q (op::rest) a w:=by
 obtain ⟨⟨d,h1,y⟩,A⟩:=hr;exact wpList_load_mid p u x v b o B i.toList d (eF hb o hcs) h1 y (by simpa using A) (by simpa using h)
theorem fu {ops:Rn} {rest:List Oper} {op:Oper} {a:Ro} {w:R8} {Q:Exit->Ro->R8->Prop} {u:R9} {x:Operand} {b o:Nat} {i:R7} (hb:w.rangeAt b o i) (hr:dg P u i.length) (p:op.guard=none) (v:op.op=.load u x) (B:a.eval x=.pointer (some (ar b o))) (h:wpList P ops Q rest (a.put op.dst (.agg i.toArray)) w):wpList P ops Q (op::rest) a w:=by
 obtain ⟨⟨d,h1,y⟩,A⟩:=hr;exact wpList_load_mid p u x v b o B i d hb h1 y A h
theorem aI {ops:Rn} {rest:List Oper} {op:Oper} {a:Ro} {w:R8} {Q:Exit->Ro->R8->Prop} {p:R9} {x y:Operand} {b n:Nat} {xs ys:R6} {t:R9} (hb:Vg w b xs t) (hr:dg P p n) (i:op.guard=none) (u:op.op=.store p x y) (B:a.eval x=(au b)) (v:a.eval y=.agg ys) (hn:ys.size=n) (hs:xs.size=ys.size) (h1:ys.toList.all (·.oneCell')=true) (h:∀o,Vg o b ys t->Keep (λj=>j=b) w o->wpList P ops Q rest (a.put op.dst undef) o):wpList P ops Q (op::rest) a w:=by
 refine wpList_plain i λK A=>?_;unfold Oper.wp execOp;simp only [u,B,v,Instr.storeAt,Instr.sureAddr,Sem.run_bind,Sem.run_pure,Result.andThen_ok,run_storeVar_row w b t p xs ys hb (by rw [hn];exact hr.s) hs (by rw [<-Array.all_toList];exact h1)];exact A _ _ (h _ (setRow_heap w b xs ys t (0,0) hb) (rW w b ys))
theorem Js {f:Func} {x:Tmp} {o:R9} (h:f.results=#[.cell x o]) {tmps:R6} {w:R8} {b:Nat} {xs:R6} {t:R9} {y:Nat×Nat} (v:tmps.getD x undef=(au b)) (hb:w.heap[b]?=some (.cells xs t y)) (hr:dg P o xs.size):(results f tmps).run P w=.ok (.agg xs) w:=by
 obtain ⟨⟨d,h1,p⟩,u⟩:=hr;have:=run_loadVar_mid (P:=P) w b 0 o xs.toList d (eF hb 0 (by rw [Qs,QF])) h1 p (by simpa using u);rw [Array.toArray_toList] at this;have i:tmps[x]?.getD undef=(au b):=by simpa using v
 simp [results,h,i,asAddr,this]
theorem dV {f:Func} {x y:Tmp} {o:R9} (h:f.results=#[.cell x o,.tmp y]) {tmps:R6} {w:R8} {b:Nat} {xs:R6} {t:R9} {A:Nat×Nat} (v:tmps.getD x undef=(au b)) (hb:w.heap[b]?=some (.cells xs t A)) (hr:dg P o xs.size):(results f tmps).run P w=.ok (.tuple #[.agg xs,tmps.getD y undef]) w:=by
 obtain ⟨⟨d,h1,p⟩,u⟩:=hr;have:=run_loadVar_mid (P:=P) w b 0 o xs.toList d (eF hb 0 (by rw [Qs,QF])) h1 p (by simpa using u);rw [Array.toArray_toList] at this;have i:tmps[x]?.getD undef=(au b):=by simpa using v
 simp [results,h,i,asAddr,this]
end
section
variable {P:Program} {ops:Rn} {Q:Exit->Ro->R8->Prop} {S:R8->Prop} {n:Nat}
theorem vK {S:R8->Prop} {a:Ro} {o:Oper} {u:R9} {x:Operand} {b off:Nat} {xs:R6} {t:R9} {B:Nat×Nat} (h:R6) (hb:∀i,S i->i.heap[b]?=some (.cells xs t B)) (hr:dg P u h.size) (p:o.op=.load u x) (A:a.eval x=.pointer (some (ar b off))) (hcs:(xs.toList.drop off).take h.toList.length=h.toList) (hg:Region.wanted o (yielded ops a.tmps)=true):YieldsIf P ops S o (.agg h) a:=by
 obtain ⟨⟨d,h1,v⟩,y⟩:=hr;have:=yieldsIf_load_mid (P:=P) (ops:=ops) (S:=S) (op:=o) (a:=a) hg u x p b off A h.toList d (λi q=>eF (hb i q) off hcs) h1 v (by simpa using y);simpa using this
theorem HA.ld {L:List Nat} {a:Ro} {w:R8} (i:Nat) (p:R6) {o:Oper} {y:R9} {x:Operand} {b off:Nat} {xs:R6} {t:R9} {C:Nat×Nat} (hb:∀u,S u->u.heap[b]?=some (.cells xs t C)) (hr:dg P y p.size) (B:S w) (k:HA P ops Q S (i::L) (a.put o.dst (.agg p)) w) (A:ops[i]?=some o:=by (simp only [Qn,Qo,Qp];rfl)) (hop:o.op=.load y x:=by rfl) (hx:a.eval x=.pointer (some (ar b off)):=by rfl) (hcs:(xs.toList.drop off).take p.toList.length=p.toList:=by rfl) (hg:Region.wanted o (yielded ops a.tmps)=true:=by rfl) (hs:Region.noSelect ops=true:=by decide +kernel) (hQ:∀c a w d v,Q (.panic c) (Act.put a d v) w->Q (.panic c) a w:=by (intro _ _ _ d _ h;cases d<;>exact h)) (hc:my ops L [i]=true:=by decide +kernel):HA P ops Q S L a w:=
 HA.takes hs hQ B [i] hc (Ys.cons A (vK p hb hr hop hx hcs hg) Ys.nil) (by simpa using k)
theorem XA.ld {L:List Nat} {a:Ro} {w:R8} (i:Nat) (p:R6) {o:Oper} {y:R9} {x:Operand} {b off:Nat} {xs:R6} {t:R9} {C:Nat×Nat} (hb:∀u,S u->u.heap[b]?=some (.cells xs t C)) (hr:dg P y p.size) (B:S w) (k:XA P ops Q S n (i::L) (a.put o.dst (.agg p)) w) (A:ops[i]?=some o:=by (simp only [Qn,Qo,Qp];rfl)) (hop:o.op=.load y x:=by rfl) (hx:a.eval x=.pointer (some (ar b off)):=by rfl) (hcs:(xs.toList.drop off).take p.toList.length=p.toList:=by rfl) (hg:Region.wanted o (yielded ops a.tmps)=true:=by rfl) (hs:Region.noSelect ops=true:=by decide +kernel) (hQ:∀c a w d v,Q (.panic c) (Act.put a d v) w->Q (.panic c) a w:=by (intro _ _ _ d _ h;cases d<;>exact h)) (hc:tu ops n L [i]=true:=by decide +kernel):XA P ops Q S n L a w:=
 XA.takes hs hQ B [i] hc (Ys.cons A (vK p hb hr hop hx hcs hg) Ys.nil) (by simpa using k)
theorem HA.lr {L:List Nat} {a:Ro} {w:R8} (i:Nat) {p:R7} {o:Oper} {u:R9} {x:Operand} {b off:Nat} (hb:∀y,S y->y.rangeAt b off p) (hr:dg P u p.length) (C:S w) (k:HA P ops Q S (i::L) (a.put o.dst (.agg p.toArray)) w) (A:ops[i]?=some o:=by (simp only [Qn,Qo,Qp];rfl)) (hop:o.op=.load u x:=by rfl) (hx:a.eval x=.pointer (some (ar b off)):=by rfl) (hg:Region.wanted o (yielded ops a.tmps)=true:=by rfl) (hs:Region.noSelect ops=true:=by decide +kernel) (hQ:∀c a w d v,Q (.panic c) (Act.put a d v) w->Q (.panic c) a w:=by (intro _ _ _ d _ h;cases d<;>exact h)) (hc:my ops L [i]=true:=by decide +kernel):HA P ops Q S L a w:=by
 obtain ⟨⟨d,h1,B⟩,D⟩:=hr;exact HA.takes hs hQ C [i] hc (Ys.cons A (yieldsIf_load_mid hg u x hop b off hx p d hb h1 B D) Ys.nil) (by simpa using k)
theorem HA.st {L:List Nat} {a:Ro} {w:R8} (i:Nat) {o:Oper} {p:R9} {x y:Operand} {b m:Nat} {xs ys:R6} {t:R9} (hb:Vg w b xs t) (hr:dg P p m) (k:∀h,Vg h b ys t->Keep (λj=>j=b) w h->S h/\HA P ops Q S (i::L) (a.put o.dst undef) h) (v:ops[i]?=some o:=by (simp only [Qn,Qo,Qp];rfl)) (hop:o.op=.store p x y:=by rfl) (hx:a.eval x=(au b):=by rfl) (hy:a.eval y=.agg ys:=by rfl) (hn:ys.size=m:=by rfl) (hs:xs.size=ys.size:=by rfl) (h1:ys.toList.all (·.oneCell')=true:=by rfl) (hrd:dz ops L=[i]:=by decide +kernel) (hw:Region.wanted o (yielded ops a.tmps)=true:=by rfl):HA P ops Q S L a w:=by
 obtain ⟨u,k⟩:=k _ (setRow_heap w b xs ys t (0,0) hb) (rW w b ys);refine HA.s i _ u k v hrd hw ?_;unfold execOp;simp only [hop,hx,hy,Instr.storeAt,Instr.sureAddr,Sem.run_bind,Sem.run_pure,Result.andThen_ok,run_storeVar_row w b t p xs ys hb (by rw [hn];exact hr.s) hs (by rw [<-Array.all_toList];exact h1)]
end
def fJ (a b q:Int):Int:=if q<0\/62<q then 0 else wrap64 (a*b/2^q.toNat)
def uw (x:Int):Int:=x%18446744073709551616
theorem rU (x:Int):0<=uw x/\uw x<18446744073709551616:=by unfold uw;omega
theorem fD (x:Int): -9223372036854775808<=wrap64 x/\wrap64 x<=9223372036854775807:=by unfold wrap64;omega
theorem qR (x:Int):wrap64 (uw x)=wrap64 x:=by unfold wrap64 uw;omega
theorem vL {x y:Int} (h:∃k:Int,x=y+k*18446744073709551616):wrap64 x=wrap64 y:=by
 obtain ⟨k,rfl⟩:=h;unfold wrap64;omega
theorem nT {x:Int} (h1: -9223372036854775808<=x) (h:x<=9223372036854775807):wrap64 x=x:=by unfold wrap64;omega
def fw (a b:Int):Int:=a*b/18446744073709551616
def iB (a b:Int):Int:=uw (a*b)
theorem ME (a b:Int):fw a b*18446744073709551616+iB a b=a*b:=by unfold fw iB uw;omega
theorem J9 {a b:Int} (o: -9223372036854775808<=a/\a<=9223372036854775807) (hb: -9223372036854775808<=b/\b<=9223372036854775807): -85070591730234615865843651857942052864<=a*b/\a*b<=85070591730234615865843651857942052864:=by
 have h1:a.natAbs<=9223372036854775808:=ap;have h:b.natAbs<=9223372036854775808:=ap;have i:=Nat.mul_le_mul h1 h;rw [<-Int.natAbs_mul] at i;omega
theorem jN {a b:Int} (h: -9223372036854775808<=a/\a<=9223372036854775807) (hb: -9223372036854775808<=b/\b<=9223372036854775807): -9223372036854775808<=fw a b/\fw a b<=9223372036854775807:=by
 have:=J9 h hb;unfold fw;omega
theorem IT (a b:Int) (q:Nat) (o:q<=62):fw a b*2^(64-q)+iB a b/2^q=a*b/2^q:=by
 have e:(18446744073709551616:Int)=2^(64-q)*2^q:=by rw [<-Int.pow_add,show 64-q+q=64 by omega];rfl
 have i:(2:Int)^q≠0:=by have:=Int.pow_pos (n:=2) (m:=q) V0;omega
 have h:=ME a b;rw [<-h,e,<-Int.mul_assoc,Int.add_comm (fw a b*2^(64-q)*2^q),Int.add_mul_ediv_right _ _ i,Int.add_comm]
theorem pF (x y:Int):wrap64 (wrap64 x-y)=wrap64 (x-y):=by unfold wrap64;omega
theorem tc (x y:Int):wrap64 (wrap64 x+y)=wrap64 (x+y):=by unfold wrap64;omega
theorem vO (a b:Int) (u: -9223372036854775808<=a/\a<=9223372036854775807) (hb: -9223372036854775808<=b/\b<=9223372036854775807):
  uw a*uw b=a*b+((if a<0 then b else 0)+(if b<0 then a else 0)+(if a<0/\b<0 then 18446744073709551616 else 0))*18446744073709551616:=by
 by_cases h1:a<0
 .have p:uw a=a+18446744073709551616:=by unfold uw;omega
  by_cases i:b<0
  .have o:uw b=b+18446744073709551616:=by unfold uw;omega
   rw [p,o,if_pos h1,if_pos i,if_pos ⟨h1,i⟩,Int.add_mul,Int.mul_add];omega
  .have o:uw b=b:=by unfold uw;omega
   rw [p,o,if_pos h1,if_neg i,if_neg (λh=>i h.2),Int.add_mul];omega
 .have p:uw a=a:=by unfold uw;omega
  by_cases i:b<0
  .have o:uw b=b+18446744073709551616:=by unfold uw;omega
   rw [p,o,if_neg h1,if_pos i,if_neg (λh=>h1 h.1),Int.mul_add];omega
  .have o:uw b=b:=by unfold uw;omega
   rw [p,o,if_neg h1,if_neg i,if_neg (λh=>h1 h.1)];omega
theorem Io (a b:Int) (o: -9223372036854775808<=a/\a<=9223372036854775807) (hb: -9223372036854775808<=b/\b<=9223372036854775807):
  wrap64 (uw a*uw b/18446744073709551616-(if a<0 then b else 0)-(if b<0 then a else 0))=fw a b:=by
 rw [vO a b o hb,Int.add_mul_ediv_right _ _ V0];have h:=jN o hb;rw [<-nT h.1 h.2];refine vL ⟨if a<0/\b<0 then 1 else 0,?_⟩;unfold fw;by_cases h1:a<0
 .by_cases i:b<0
  .simp only [h1,i,if_true,and_self];omega
  .simp only [h1,i,if_true,if_false,and_false];omega
 .by_cases i:b<0
  .simp only [h1,i,if_true,if_false,false_and];omega
  .simp only [h1,i,if_false,false_and];omega
theorem In (a b:Int) (h: -9223372036854775808<=a/\a<=9223372036854775807) (hb: -9223372036854775808<=b/\b<=9223372036854775807):uw (uw a*uw b)=iB a b:=by
 rw [vO a b h hb];unfold iB uw;rw [Int.add_mul_emod_self_right]
theorem qS (a:Int):∃X:Nat,uw a=X/\X<18446744073709551616:=⟨(uw a).toNat,by have:=rU a;omega,by have:=rU a;omega⟩
def W64 (l:Q_):Prop:=∀k,k<l.length-> -9223372036854775808<=nth l k/\nth l k<=9223372036854775807
theorem ym {l:Q_} (h:k<l.length):nth l k∈l:=by rw [dN l k h];exact List.getElem_mem h
theorem jc (l:Q_) (k:Nat) (v:Int) (j:Nat):nth (l.set k v) j=if j=k/\k<l.length then v else nth l j:=by
 unfold nth;simp only [List.getD_eq_getElem?_getD,List.getElem?_set];by_cases h:k=j
 .subst h;by_cases i:k<l.length
  .simp [i]
  .simp [i,List.getElem?_eq_none (show l.length<=k by omega)]
 .simp [h,Ne.symm h]
theorem gQ {a b:Q_} (hl:a.length=b.length) (h:∀k,k<a.length->nth a k=nth b k):a=b:=by
 refine List.ext_getElem hl λk h1 i=>?_;rw [<-dN a k h1,<-dN b k i];exact h k h1
def dU (n:Nat) (f:Nat->Int):Q_:=(List.range n).map f
theorem cD (n:Nat) (f:Nat->Int):(dU n f).length=n:=by simp [dU]
theorem bJ (f:Nat->Int) (h:k<n):nth (dU n f) k=f k:=by rw [dN _ _ (by rw [cD];exact h)];simp [dU]
theorem iN (n:Nat) (f:Nat->Int):dU (n+1) f=dU n f++[f n]:=by simp [dU,QL]
theorem eZ (h:∀k,k<n-> -9223372036854775808<=f k/\f k<=9223372036854775807):W64 (dU n f):=λk hk=>by
 rw [cD] at hk;rw [bJ f hk];exact h k hk
theorem fv {g:Nat->Int} (h:∀k,k<n->f k=g k):dU n f=dU n g:=by
 unfold dU;exact List.map_congr_left λk hk=>h k (List.mem_range.1 hk)
theorem fN {l:Q_} (hl:l.length=n) (h:∀k,k<n->nth l k=f k):l=dU n f:=
 gQ (by rw [cD,hl]) λk hk=>by rw [bJ f ap];exact h k ap
def lq (l:Q_) (k:Nat) (f:Nat->Int):Q_:=dU l.length λj=>if j<k then f j else nth l j
theorem rx (l:Q_) (k:Nat) (f:Nat->Int):(lq l k f).length=l.length:=cD _ _
theorem iS (l:Q_) (f:Nat->Int):lq l 0 f=l:=(fN rfl λk _=>by rw [if_neg ap]).symm
theorem ii {l:Q_} (f:Nat->Int) (h:j<l.length):nth (lq l k f) j=if j<k then f j else nth l j:=bJ _ h
theorem jR {l:Q_} (f:Nat->Int) (hk:k<l.length):(lq l k f).set k (f k)=lq l (k+1) f:=by
 refine gQ (by simp [rx]) λj h=>?_;rw [List.length_set,rx] at h;rw [jc,ii f h,ii f h,rx];by_cases h1:j=k
 .subst h1;simp [hk]
 .by_cases i:j<k
  .simp [h1,i,show j<k+1 by omega]
  .simp [h1,i,show ¬j<k+1 by omega]
theorem jS (l:Q_) (f:Nat->Int):lq l l.length f=dU l.length f:=by
 unfold lq;exact fv λk hk=>by rw [if_pos hk]
def C7 (xs ys:Q_) (q:Int):Nat->Int
 | 0=>0
 | k+1=>wrap64 (C7 xs ys q k+fJ (nth xs k) (nth ys k) q)
def vE (xs ys:Q_) (q:Int):Int:=C7 xs ys q xs.length
def qT (xs:Q_) (a q:Int):Q_:=dU xs.length λk=>fJ (nth xs k) a q
def eT (xs ys:Q_):Q_:=dU xs.length λk=>wrap64 (nth xs k+nth ys k)
def di (n size:Nat):Nat:=if n=0 then 0 else (n-1)/size+1
theorem GU (n s:Nat) (hn:1<=n):((n:Int)-1)/(s:Int)=(((n-1)/s:Nat):Int):=by
 rw [show ((n:Int)-1)=((n-1:Nat):Int) by omega,<-Int.natCast_ediv]
theorem gj (n size:Nat):di n size<=n:=by
 unfold di
 split
 .omega
 .have:=Nat.div_le_self (n-1) size;omega
theorem iH (h:k<di n size):k*size<n:=by
 unfold di at h
 split at h
 .omega
 .have h1:k<=(n-1)/size:=ap;have i:=QY size h1;have o:=Nat.div_mul_le_self (n-1) size;omega
def gq (n size k:Nat):R7:=(List.range k).flatMap λj=>[QZ ((j*size:Nat):Int),QZ ((min (j*size+size) n:Nat):Int)]
theorem jJ (n size k:Nat):gq n size (k+1)=gq n size k++[QZ ((k*size:Nat):Int),QZ ((min (k*size+size) n:Nat):Int)]:=by simp [gq,QL,List.flatMap_append]
theorem sF (n size k:Nat):(gq n size k).length=k*2:=by
 induction k with
 | zero=>simp [gq]
 | succ k ih=>rw [jJ,Qt,ih];simp;omega
theorem Di (n size:Nat) (h:j<k):(gq n size k)[j*2]?=some (QZ ((j*size:Nat):Int))/\(gq n size k)[j*2+1]?=some (QZ ((min (j*size+size) n:Nat):Int)):=by
 induction k with
 | zero=>omega
 | succ k ih=>
  rw [jJ];rcases Qf j k with i | i
  .obtain ⟨h1,o⟩:=ih i;have hl:=sF n size k;rw [Qw ap,Qw ap];exact ⟨h1,o⟩
  .obtain rfl:j=k:=ap;have hl:=sF n size j;rw [Qx ap,Qx ap,hl];simp
theorem Db (n batch:Nat) (hb:1<=batch) (hn:batch<=n):di (n-n%batch) batch=n/batch:=by
 have h1:=Nat.div_add_mod n batch;have i:=Nat.div_pos hn hb;have o:n-n%batch=batch*(n/batch):=ap;have p:1<=batch*(n/batch):=Nat.mul_pos hb i;unfold di;rw [if_neg ap,o]
 have h:batch*(n/batch)-1=batch*(n/batch-1)+(batch-1):=by
  have:batch*(n/batch)=batch*(n/batch-1)+batch:=by rw [<-Nat.mul_succ];congr 1;omega
  omega
 rw [h,Nat.mul_add_div hb,show (batch-1)/batch=0 from Nat.div_eq_of_lt ap];omega
theorem Ey (n batch j:Nat) (hb:1<=batch) (h:j<n/batch):min (j*batch+batch) (n-n%batch)=j*batch+batch:=by
 have h1:=Nat.div_add_mod n batch;have i:(j+1)*batch<=(n/batch)*batch:=QY _ h;rw [QM] at i;have o:(n/batch)*batch=batch*(n/batch):=Nat.mul_comm _ _;omega
theorem qi (n batch j:Nat) (h:j<n/batch):j*batch+batch<=n:=by
 have h1:=Nat.div_mul_le_self n batch;have i:(j+1)*batch<=(n/batch)*batch:=QY _ h;rw [QM] at i;omega
theorem sX (n size:Nat) (hs:1<=size):di n size=(n+size-1)/size:=by
 unfold di
 split
 .subst_vars;rw [QP,Nat.div_eq_of_lt ap]
 .rw [show n+size-1=(n-1)+size by omega,Nat.add_div_right _ hs]
abbrev Rg:=Nat×Nat
def aS (l:List Rg):R7:=l.flatMap λr=>[QZ (r.1:Int),QZ (r.2:Int)]
theorem iQ (a b:List Rg):aS (a++b)=aS a++aS b:=by simp [aS]
theorem pK:∀l:List Rg,(aS l).length=l.length*2
 | []=>rfl
 | r::l=>by have:=pK l;simp only [aS,List.flatMap_cons,Qt,List.length_cons,List.length_nil] at *;omega
theorem nY:∀{l:List Rg} {j:Nat} {r:Rg},l[j]?=some r->(aS l)[j*2]?=some (QZ (r.1:Int))/\(aS l)[j*2+1]?=some (QZ (r.2:Int))
 | [],_,_,h=>by simp at h
 | x::l,0,r,h=>by simp only [Qp,Option.some.injEq] at h;subst h;exact ⟨rfl,rfl⟩
 | x::l,j+1,r,h=>by
  simp only [Qo] at h;have:=nY h;have e:aS (x::l)=[QZ (x.1:Int),QZ (x.2:Int)]++aS l:=by simp [aS]
  rw [e,Qx V6,Qx V6];simp only [List.length_cons,List.length_nil];rw [show (j+1)*2-(0+1+1)=j*2 by omega,show (j+1)*2+1-(0+1+1)=j*2+1 by omega];exact this
def fp (n s:Nat):List Rg:=(List.range (di n s)).map λj=>(j*s,min (j*s+s) n)
theorem fj (n s:Nat):(fp n s).length=di n s:=by simp [fp]
theorem rG (n s:Nat):aS (fp n s)=gq n s (di n s):=by simp [aS,fp,gq,List.flatMap_map]
def bdN (n k i:Nat):Nat:=i*(n/k)+min i (n%k)
def fT (n k:Nat):List Rg:=(List.range k).map λi=>(bdN n k i,bdN n k (i+1))
theorem gh (n k:Nat):(fT n k).length=k:=by simp [fT]
def shR (d:Nat) (l:List Rg):List Rg:=l.map λr=>(r.1+d,r.2+d)
theorem mA (d:Nat) (l:List Rg):(shR d l).length=l.length:=by simp [shR]
def dy (b:Rg) (W:Nat):List Rg:=shR b.1 (fT (b.2-b.1) W)
theorem qs (b:Rg) (W:Nat):(dy b W).length=W:=by rw [dy,mA,gh]
def chR (s:Rg) (c:Nat):List Rg:=shR s.1 (fp (s.2-s.1) c)
def pZ (n s:Nat):List Rg:=(fp n s).reverse
theorem js (n s:Nat):(pZ n s).length=di n s:=by rw [pZ,List.length_reverse,fj]
def aK (l:List Rg) (j:Nat):Rg:=l.getD j (0,0)
def m7 (b:Rg) (W c:Nat):Nat:=((dy b W).map λs=>(chR s c).length).sum
structure Acn where
 send:Bool
 add:Bool
 st:Nat
 bk:Nat
 ph:Nat
 rd:Nat
 ch:Nat
 at':Rg
def cV (W w ph r:Nat):Nat:=(w+(2*W+ph-r))%W
def cH (W w ph r:Nat):Nat:=(w+(2*W+ph-r-1))%W
def iR (x y:List Rg) (f g:Nat->Rg->Acn):List Acn:= (List.range (max x.length y.length)).flatMap λi=>(if i<x.length then [f i (aK x i)] else [])++(if i<y.length then [g i (aK y i)] else [])
theorem CA (x y:List Rg) (f g:Nat->Rg->Acn):(iR x y f g).length=x.length+y.length:=by
 have h:∀m,((List.range m).flatMap λi=>(if i<x.length then [f i (aK x i)] else [])++(if i<y.length then [g i (aK y i)] else [])).length=min m x.length+min m y.length:=by
  intro m
  induction m with
  | zero=>simp
  | succ m ih=>
   rw [QL,List.flatMap_append,Qt,ih];simp only [List.flatMap_cons,List.flatMap_nil,List.append_nil,Qt];by_cases h1:m<x.length<;>by_cases o:m<y.length<;>simp [h1,o]<;>omega
 unfold iR;rw [h];omega
def db (st bk:Nat) (b:Rg) (W c w ph r:Nat):List Acn:=
 iR (chR (aK (dy b W) (cV W w ph r)) c) (chR (aK (dy b W) (cH W w ph r)) c) (λi s=>⟨true,false,st,bk,ph,r,i,s⟩) (λi s=>⟨false,ph==0,st,bk,ph,r,i,s⟩)
structure Pln where
 W:Nat
 mi:Nat
 bu:Nat
 ck:Nat
 wi:Nat
 n:Nat
structure Itm where
 kind:Nat
 st:Nat
 n:Nat
 a:Option Acn
def Pln.buks (p:Pln):List Rg:=pZ p.n p.bu
def Pln.grps (p:Pln):List Rg:=fp p.buks.length p.wi
def fy (st:Nat) (a:Acn):Itm:=⟨if a.send then 3 else 4,st,0,some a⟩
def cz (p:Pln) (w st ph r j:Nat):List Itm:=(db st j (aK p.buks j) p.W p.ck w ph r).map (fy st)
def dt (p:Pln) (w st:Nat) (g:Rg):List Itm:= (List.range' g.1 (g.2-g.1)).map (λj=>⟨2,st,j,none⟩)++ ((List.range 2).flatMap λph=>(List.range (p.W-1)).flatMap λr=>(List.range' g.1 (g.2-g.1)).flatMap λj=>cz p w st ph r j)++ (List.range' g.1 (g.2-g.1)).map (λj=>⟨5,st,j,none⟩)
def aE (p:Pln) (w st:Nat):List Itm:= (List.range p.mi).map (λa=>⟨1,st,a,none⟩)++p.grps.flatMap (dt p w st)++[⟨6,st,0,none⟩]
def bH (n:Nat) (f:Nat->Nat):Nat:=((List.range n).map f).sum
theorem eN (n:Nat) (f:Nat->Nat):bH (n+1) f=bH n f+f n:=by simp [bH,QL]
theorem dY {f g:Nat->Nat} (h:∀k,k<n->f k=g k):bH n f=bH n g:=by
 unfold bH;congr 1;exact List.map_congr_left λk hk=>h k (List.mem_range.1 hk)
theorem jM (n:Nat) (f g:Nat->Nat):bH n (λk=>f k+g k)=bH n f+bH n g:=by
 induction n with
 | zero=>rfl
 | succ n ih=>rw [eN,eN,eN,ih];omega
theorem ft (n c:Nat):bH n (λ_=>c)=n*c:=by
 induction n with
 | zero=>simp [bH]
 | succ n ih=>rw [eN,ih,QM]
theorem iO (n m:Nat) (f:Nat->Nat->Nat):bH n (λi=>bH m (f i))=bH m (λj=>bH n (λi=>f i j)):=by
 induction n with
 | zero=>simp only [bH,List.range_zero,List.map_nil,List.sum_nil];rw [show (λ_:Nat=>0)=λ_=>0 from rfl];exact (ft m 0).symm
 | succ n ih=>rw [eN,ih,<-jM];exact dY λj _=>(eN n (λi=>f i j)).symm
theorem kT (a b:Nat) (f:Nat->Nat):bH (a+b) f=bH a f+bH b (λk=>f (a+k)):=by
 induction b with
 | zero=>simp [bH]
 | succ b ih=>rw [<-QO,eN,ih,eN];omega
theorem tx (W a:Nat) (f:Nat->Nat):bH W (λw=>f ((w+a)%W))=bH W f:=by
 rcases Nat.eq_zero_or_pos W with rfl | p
 .rfl
 have h:∀d,d<W->bH W (λw=>f ((w+d)%W))=bH W f:=by
  intro d u;have i:=kT (W-d) d (λw=>f ((w+d)%W));have o:=kT d (W-d) f;rw [show W-d+d=W by omega] at i;rw [show d+(W-d)=W by omega] at o;rw [i,o,Nat.add_comm]
  congr 1
  .exact dY λk hk=>by
    congr 1
    rw [show W-d+k+d=k+W by omega,Nat.add_mod_right,Nat.mod_eq_of_lt ap]
  .exact dY λk hk=>by rw [Nat.mod_eq_of_lt ap,Nat.add_comm]
 rw [<-h (a%W) (Nat.mod_lt _ p)];exact dY λk _=>by rw [Nat.add_mod_mod]
theorem tz {α:Type} (l:List α) (d:α) (f:α->Nat):(l.map f).sum=bH l.length λk=>f (l.getD k d):=by
 induction l with
 | nil=>rfl
 | cons x l ih=>
  rw [List.map_cons,List.sum_cons,ih,List.length_cons,Nat.add_comm l.length 1,kT 1];have:bH 1 (λk=>f ((x::l).getD k d))=f x:=by simp [bH]
  rw [this]
  congr 1
  exact dY λk _=>by rw [Nat.add_comm 1 k,List.getD_cons_succ]
theorem C0 {β:Type} (n:Nat) (f:Nat->List β):((List.range n).flatMap f).length=bH n λk=>(f k).length:=by
 rw [List.length_flatMap];rfl
theorem AJ {β:Type} (a n:Nat) (f:Nat->List β):((List.range' a n).flatMap f).length=bH n λk=>(f (a+k)).length:=by
 rw [List.length_flatMap];unfold bH;rw [List.range'_eq_map_range,List.map_map];rfl
theorem LD (n s:Nat) (hs:1<=s) (f:Nat->Nat):((fp n s).map λg=>bH (g.2-g.1) λk=>f (g.1+k)).sum=bH n f:=by
 have h:∀m,m<=di n s->(((List.range m).map λj=>(j*s,min (j*s+s) n)).map λg:Rg=>bH (g.2-g.1) λk=>f (g.1+k)).sum=bH (min (m*s) n) f:=by
  intro m
  induction m with
  | zero=>intro _;simp [bH]
  | succ m ih=>
   intro hm;have h1:=iH (n:=n) (size:=s) (k:=m) ap;rw [QL,List.map_append,List.map_append,List.sum_append,ih ap];simp only [List.map_cons,List.map_nil,List.sum_cons,List.sum_nil,Nat.add_zero];rw [show min (m*s) n=m*s by omega,QM];have:=kT (m*s) (min (m*s+s) n-m*s) f;rw [show m*s+(min (m*s+s) n-m*s)=min (m*s+s) n by omega] at this;exact this.symm
 have:=h (di n s) (PV _);unfold fp;rw [this]
 congr 1
 rcases Nat.eq_zero_or_pos n with rfl | hn
 .simp
 .have:n<=di n s*s:=by
   unfold di;rw [if_neg ap,QM];have:=Nat.div_add_mod (n-1) s;have:=Nat.mod_lt (n-1) (show 0<s by omega);have:s*((n-1)/s)=(n-1)/s*s:=Nat.mul_comm _ _;omega
  omega
theorem ke (st bk:Nat) (b:Rg) (W c w ph r:Nat):(db st bk b W c w ph r).length=(chR (aK (dy b W) (cV W w ph r)) c).length+(chR (aK (dy b W) (cH W w ph r)) c).length:=CA _ _ _ _
theorem zZ (b:Rg) (W c:Nat):m7 b W c=bH W λs=>(chR (aK (dy b W) s) c).length:=by
 unfold m7;rw [tz _ (0,0),qs];rfl
theorem Cd (st bk:Nat) (b:Rg) (W c ph r:Nat):bH W (λw=>(db st bk b W c w ph r).length)=2*m7 b W c:=by
 simp only [ke,jM];unfold cV cH;rw [tx W _ (λs=>(chR (aK (dy b W) s) c).length),tx W _ (λs=>(chR (aK (dy b W) s) c).length),<-zZ];omega
theorem CU (p:Pln) (w st:Nat) (g:Rg):(dt p w st g).length=bH (g.2-g.1) λk=>2+bH 2 λph=>bH (p.W-1) λr=>(cz p w st ph r (g.1+k)).length:=by
 unfold dt;simp only [Qt,List.length_map,List.length_range',C0,AJ];rw [jM,ft]
 have e:(bH 2 λph=>bH (p.W-1) λr=>bH (g.2-g.1) λk=>(cz p w st ph r (g.1+k)).length)=bH (g.2-g.1) λk=>bH 2 λph=>bH (p.W-1) λr=>(cz p w st ph r (g.1+k)).length:=by
  rw [dY (g:=λph=>bH (g.2-g.1) λk=>bH (p.W-1) λr=>(cz p w st ph r (g.1+k)).length) (λph _=>iO _ _ _),iO]
 rw [e];omega
theorem pW (p:Pln) (w st:Nat) (hw:1<=p.wi):(aE p w st).length=p.mi+1+bH p.buks.length λj=>2+bH 2 λph=>bH (p.W-1) λr=>(cz p w st ph r j).length:=by
 unfold aE;simp only [Qt,List.length_map,List.length_range,List.length_flatMap,List.length_cons,List.length_nil]
 have:((p.grps.map λa=>(dt p w st a).length)).sum=bH p.buks.length λj=>2+bH 2 λph=>bH (p.W-1) λr=>(cz p w st ph r j).length:=by
  simp only [CU];exact LD p.buks.length p.wi hw λj=>2+bH 2 λph=>bH (p.W-1) λr=>(cz p w st ph r j).length
 rw [this];omega
theorem GE (p:Pln) (st:Nat) (hw:1<=p.wi):bH p.W (λw=>(aE p w st).length)=p.W*(p.mi+2*p.buks.length+1)+(p.buks.map λb=>4*(p.W-1)*m7 b p.W p.ck).sum:=by
 simp only [pW p _ st hw];rw [jM,ft,iO]
 have e:∀j,bH p.W (λw=>2+bH 2 λph=>bH (p.W-1) λr=>(cz p w st ph r j).length)=2*p.W+4*(p.W-1)*m7 (aK p.buks j) p.W p.ck:=by
  intro j;rw [jM,ft,iO]
  have:(bH 2 λph=>bH p.W λw=>bH (p.W-1) λr=>(cz p w st ph r j).length)=bH 2 λ_=>(p.W-1)*(2*m7 (aK p.buks j) p.W p.ck):=by
   refine dY λph _=>?_;rw [iO,<-ft];refine dY λr _=>?_;unfold cz;simp only [List.length_map];exact Cd _ _ _ _ _ _ _
  rw [this,ft,Nat.mul_comm p.W 2,show 2*((p.W-1)*(2*m7 (aK p.buks j) p.W p.ck))=4*(p.W-1)*m7 (aK p.buks j) p.W p.ck by rw [Nat.mul_left_comm (p.W-1) 2,<-Nat.mul_assoc,<-Nat.mul_assoc]]
 rw [dY (λj _=>e j),jM,ft,tz _ (0,0)];unfold aK
 have:p.W*(p.mi+1)+p.buks.length*(2*p.W)=p.W*(p.mi+2*p.buks.length+1):=by
  rw [show p.mi+2*p.buks.length+1=p.mi+1+2*p.buks.length by omega,Nat.mul_add p.W (p.mi+1),show p.buks.length*(2*p.W)=p.W*(2*p.buks.length) by rw [Nat.mul_left_comm,Nat.mul_comm p.buks.length,Nat.mul_left_comm]]
 omega
end
theorem AU (m k:Nat) (hk:0<k):(m%k+1<k->(m+1)/k=m/k/\(m+1)%k=m%k+1)/\(¬m%k+1<k->(m+1)/k=m/k+1/\(m+1)%k=0):=by
 have h1:=Nat.div_add_mod m k;have i:=Nat.mod_lt m hk;constructor
 .intro h;have e:m+1=(m%k+1)+k*(m/k):=ap;rw [e,Nat.add_mul_div_left _ _ hk,Nat.add_mul_mod_self_left,Nat.div_eq_of_lt h,Nat.mod_eq_of_lt h];omega
 .intro h;have e:m+1=k*(m/k+1):=by rw [Nat.mul_succ];omega
  rw [e,Nat.mul_div_cancel_left _ hk,Nat.mul_mod_right];exact ⟨rfl,rfl⟩
def szE (k m i:Nat):Nat:=m/k+if i<m%k then 1 else 0
theorem ID (i:Nat):szE k 0 i=0:=by simp [szE]
theorem IE (p:i<k):szE k (m+1) i=szE k m i+if i=m%k then 1 else 0:=by
 obtain ⟨h1,o⟩:=AU m k ap;have hm:=Nat.mod_lt m (show 0<k by omega);unfold szE;by_cases h:m%k+1<k
 .rw [(h1 h).1,(h1 h).2]
  split<;>split<;>split<;>omega
 .rw [(o h).1,(o h).2]
  split<;>split<;>split<;>omega
theorem qN (n k i:Nat):bdN n k (i+1)=bdN n k i+szE k n i:=by
 unfold bdN szE;rw [QM]
 split<;>omega
theorem s9 (n k:Nat) (hk:0<k):bdN n k k=n:=by
 unfold bdN;have h1:=Nat.div_add_mod n k;have h:=Nat.mod_lt n hk;omega
theorem kC (n k:Nat) (h:i<=j):bdN n k i<=bdN n k j:=by
 unfold bdN;have:=QY (n/k) h;omega
theorem fU (n k i:Nat) (hk:0<k) (h:i<=k):bdN n k i<=n:=by
 have:=kC n k h
 rwa [s9 n k hk] at this
theorem uQ (n k m:Nat):(List.range (m+1)).map (λi=>(bdN n k i,bdN n k (i+1)))=(List.range m).map (λi=>(bdN n k i,bdN n k (i+1)))++[(bdN n k m,bdN n k (m+1))]:=by
 rw [QL,List.map_append];rfl
section
open Go.RowKit Go.ChangeShapes Go.WideShapes Go.ChangeAt
abbrev fl (α:Type):=R8->R7->α->Prop
def Es {α:Type} (R:fl α):Prop:=∀{w w':R8} {cs:R7} {a:α},aq w w'->R w cs a->R w' cs a
def bS (l:List (R7)) (j:Nat):R7:=l.getD j []
theorem qY {l:List (R7)} (h:j<l.length):bS l j=l[j]:=by simp [bS,h]
theorem nH (h:∀r∈rows,r.length=k) (i t:Nat) (o:i<rows.length) (p:t<k):(List.flatten rows)[i*k+t]?=(bS rows i)[t]?:=by
 induction rows generalizing i with
 | nil=>simp at o
 | cons r l ih=>
  have hr:r.length=k:=h r V3
  cases i with
  | zero=>
   rw [List.flatten_cons,Nat.zero_mul,QP,Qw ap];simp [bS]
  | succ i=>
   rw [List.flatten_cons,Qx (by rw [hr,Nat.add_mul];omega),hr,show (i+1)*k+t-k=i*k+t by rw [Nat.add_mul];omega,ih (λr hr=>h r (by simp [hr])) i (by simpa using o)];simp [bS]
theorem KR (h:∀r∈rows,r.length=k):(List.flatten rows).length=rows.length*k:=by
 induction rows with
 | nil=>simp
 | cons r l ih=>rw [List.flatten_cons,Qt,h r V3,ih (λr hr=>h r (by simp [hr])),List.length_cons,Nat.add_mul];omega
def dx {α:Type} (R:fl α) (size:Nat) (w:R8) (A:N_) (l:List α):Prop:=
 ∃rows,Rd w A (List.flatten rows)/\rows.length=l.length/\(∀r∈rows,r.length=size)/\∀j x,l[j]?=some x->R w (bS rows j) x
def rSl {α:Type} (R:fl α) (size:Nat):fl (List α):=λw h l=>∃A c,h=[.slice A l.length c]/\l.length<=c/\c<=9223372036854775807/\l.length<=17592186043904/\dx R size w A l
def NX (k:IntKind):fl Int:=λ_ h n=>h=[.int k n]/\(Lit.int k n).wf=true
def DR (q:IntKind):fl (Q_):=λw h zs=>∃A c,h=[.slice A zs.length c]/\zs.length<=c/\c<=9223372036854775807/\zs.length<=17592186043904/\Rd w A (aA q zs)/\∀z∈zs,(Lit.int q z).wf=true
section
variable {α:Type} {R:fl α} {size:Nat} {w w':R8} {A:N_} {l:List α}
theorem dx.below (p:Es R) (h:dx R size w A l) (hb:aq w w'):dx R size w' A l:=by
 obtain ⟨rows,h1,i,u,o⟩:=h;exact ⟨rows,h1.below hb,i,u,λj x v=>p hb (o j x v)⟩
theorem dx.nil (R:fl α) (size:Nat) (w:R8) (A:N_):dx R size w A []:=⟨[],Rd.nil _ _,rfl,by simp,by simp⟩
theorem dx.get (h:dx R size w A l) (hs:0<size) {j:Nat} {x:α} (I:l[j]?=some x):
  ∃b o v,A=some (ar b o)/\b<w.heap.size/\v.length=size/\R w v x/\w.cell? (ar b (o+j*size))=v[0]?/\∀t,t<size->w.cell? (ar b (o+j*size+t))=v[t]?:=by
 obtain ⟨rows,h1,J,C,L⟩:=h;have p:j<rows.length:=by rw [J];exact (Qu.1 I).1
 have hrl:(bS rows j).length=size:=C _ (by rw [qY p];exact List.getElem_mem p);have i:∀t,t<size->∃u,(bS rows j)[t]?=some u:=λt y=>⟨_,Qv ap⟩;obtain ⟨N,D⟩:=i 0 hs;obtain ⟨b,o,rfl,c0⟩:=h1 (j*size+0) N ((nH C j 0 p hs).trans D)
 have hc:∀t,t<size->w.cell? (ar b (o+j*size+t))=(bS rows j)[t]?:=λt y=>by
  obtain ⟨u,H⟩:=i t y;obtain ⟨O,Q,B,c⟩:=h1 (j*size+t) u ((nH C j t p y).trans H);injection B with B;injection B with e1 e2 _
  subst e1;subst e2;rw [QO,c,H]
 refine ⟨b,o,bS rows j,rfl,aB c0,hrl,L j x I,?_,hc⟩;have:=hc 0 hs
 rwa [Nat.add_zero] at this
end
def jH {H:Type} (P:Program) (t:R9) (d:DataW H):Prop:=∀n∈d.weights P t,n<=140737488351232
theorem Gz {H:Type} {e:R9}:∀{l:List (DataW H)},(∀n∈DataW.weightsAll P e l,n<=140737488351232)->∀(i:Nat) (d:DataW H),l[i]?=some d->jH P e d:=by
 intro l
 induction l with
 | nil=>intro _ i d h;simp at h
 | cons x r ih=>
  intro h i d o;unfold DataW.weightsAll at h
  cases i with
  | zero=>
   simp at o;subst o;exact λn hn=>h n (QI.2 (.inl hn))
  | succ i=>exact ih (λn hn=>h n (QI.2 (.inr hn))) i d (by simpa using o)
theorem uy {H:Type}:∀{o:List R9} {l:List (DataW H)},(∀n∈DataW.weightsEach P o l,n<=140737488351232)->∀(i:Nat) (t:R9) (d:DataW H),o[i]?=some t->l[i]?=some d->jH P t d:=by
 intro o
 induction o with
 | nil=>intro l _ i t d h;simp at h
 | cons t0 o ih=>
  intro l h i t d u p
  cases l with
  | nil=>simp at p
  | cons x r=>
   unfold DataW.weightsEach at h
   cases i with
   | zero=>
    simp at u p;subst u;subst p;exact λn hn=>h n (QI.2 (.inl hn))
   | succ i=>exact ih (λn hn=>h n (QI.2 (.inr hn))) i t d (by simpa using u) (by simpa using p)
theorem mR {H:Type} {o:List R9} {l:List (DataW H)} (h:(DataW.weightsEach P o l).all (· <=reachBytes)=true) {t:R9} {d:DataW H} (v:o[i]?=some t) (p:l[i]?=some d):jH P t d:=
 uy (λn hn=>by have u:n<=reachBytes:=of_decide_eq_true (List.all_eq_true.1 h n hn);exact u) i t d v p
def kH (P:Program) (t:R9) (size:Nat) {α:Type} (R:fl α):Prop:=
 P.cellsOf t=size/\∀{H:Type} {enc:R9×Value->H} {W:R8} {fuel:Nat} {cs:R7} {x:DataW H×List MemPlace},DataW.trod enc P W 0 (λ_=>true) true fuel t cs=some x->jH P t x.1->cs.length=size/\∃a,R W cs a
theorem wN {t:R9} {k:IntKind} (i:P.underlying t=some (.int k)) (hc:P.cellsOf t=1):kH P t 1 (NX k):=⟨hc,λh _=>by
 obtain ⟨n,rfl,_,hw⟩:=DataW.trod_int i h
 exact ⟨rfl,n,rfl,hw⟩⟩
theorem DP {a:Addr} (h:∀i u,xs[i]?=some u->w.cell? (a.add i)=some u):Rd w (some a) xs:=λk u B=>by
 have C:∃v,xs[0]?=some v:=by
  have:=(Qu.1 B).1;exact ⟨xs[0],Qv ap⟩
 obtain ⟨v,y⟩:=C;have p:=h 0 v y;have e:a.add 0=a:=by simp [Addr.add]
 rw [e] at p
 have A:a=(ar a.block a.off):=by
  obtain ⟨b,o,s⟩:=a;unfold World.cell? at p
  split at p
  .cases s with
   | none=>rfl
   | some x=>simp at p
  .cases p
 refine ⟨a.block,a.off,by rw [<-A],?_⟩;have hk:=h k u B;rw [A,Addr.add_lit] at hk;exact hk
theorem pQ {t e:R9} (J:P.underlying t=some (.slice e)) (he:P.underlying e=some (.int q)) (hc:P.cellsOf e=1) (L:P.cellsOf t=1) (hb:P.bytesOf e=8):kH P t 1 (DR q):=⟨L,λ{H U W O T y} h I=>by
 have A:∀a l c,T=[.slice a l c]->l<=17592186043904:=λa l c hcs=>by
  rcases Go.Deep.open_slice J h with ⟨o,_⟩ | ⟨Z,Y,cap,m,n,D,Pl,o,_,hl,_,R,V,_⟩
  .rw [hcs] at o;injection o with o;injection o with _ o;omega
  .rw [hcs] at o;injection o with o;injection o with _ o;subst o
   have hw:=I ((l+(m-l))*8) (by rw [V];simp [DataW.weights,J,hb]);omega
 rcases open_ints J he hc h with ⟨rfl,_⟩ | ⟨x,l,c,zs,rfl,_,hl,hm,C,_,v,N⟩
 .exact ⟨rfl,[],none,0,rfl,PV _,ap,by simp,Rd.nil _ _,by simp⟩
 .have Q:=A _ _ _ rfl;refine ⟨rfl,zs.take l,some x,c,?_,by simp;omega,by unfold maxLen at hm;exact hm,by simp;omega,?_,λz C=>N z (List.mem_of_mem_take C)⟩
  .rw [Qy];simp at C;rw [Nat.min_eq_left ap]
  .refine DP λi u B=>?_;rw [<-dH,List.getElem?_take] at B
   split at B
   .rename_i hi
    have p:i<zs.length:=by simp at C;omega
    rw [ns q zs i p] at B;rw [v i p,<-B,dN zs i p];simp [List.getD,p]
   .cases B⟩
theorem zO {t e:R9} {α:Type} {R:fl α} (ht:P.underlying t=some (.slice e)) (hR:kH P e size R) (a2:P.cellsOf t=1) (hb:8<=P.bytesOf e):kH P t 1 (rSl R size):=⟨a2,λ{H a8 W a6 cs x} h p=>by
 rcases Go.Deep.open_slice ht h with ⟨rfl,_⟩ | ⟨a,o,cap,m,n,D,Pl,rfl,_,hl,hm,L,T,hi⟩
 .exact ⟨rfl,[],none,0,rfl,PV _,ap,by simp,dx.nil _ _ _ _⟩
 .simp at L;subst L;obtain ⟨a4,a0⟩:=hR;rw [a4] at hi
  have O:o<=17592186043904:=by
   have hw:=p ((o+(m-o))*P.bytesOf e) (by rw [T];simp [DataW.weights,ht]);have:=Nat.mul_le_mul_left (o+(m-o)) hb;omega
  have a1:∀i,i<o->jH P e (D i):=λi a5=>by
   refine Gz (l:=(List.range o).map D) (λn hn=>p n ?_) i (D i) (by simp [a5]);rw [T];simp only [DataW.weights,ht];exact List.mem_cons_of_mem _ (QI.2 (.inl hn))
  classical
  have C:∀i,i<o->∃A x,W.cells? 0 (a.add (i*size)) size=some A/\A.length=size/\R W A x:=λi p=>by
   obtain ⟨A,h1,Z⟩:=hi i ap;obtain ⟨U,x,h4⟩:=a0 Z (a1 i p);exact ⟨A,x,h1,U,h4⟩
  let v:Nat->R7:=λi=>if p:i<o then Classical.choose (C i p) else []
  have y:∀i (p:i<o),∃x,W.cells? 0 (a.add (i*size)) size=some (v i)/\(v i).length=size/\R W (v i) x:=λi p=>by
   have:=Classical.choose_spec (C i p);simp only [v,dif_pos p];exact this
  let el:(i:Nat)->i<o->α:=λi p=>Classical.choose (y i p)
  let l:List α:=List.ofFn (n:=o) λi=>el i.1 i.2
  have B:l.length=o:=by simp [l]
  refine ⟨rfl,l,some a,m,by rw [B],by rw [B];exact hl,by unfold maxLen at hm;exact hm,by rw [B];exact O,(List.range o).map v,?_,by simp [l],?_,?_⟩
  .have U:∀r∈(List.range o).map v,r.length=size:=by
    intro r hr;obtain ⟨i,J,rfl⟩:=List.mem_map.1 hr;obtain ⟨x,_,h,_⟩:=y i (List.mem_range.1 J);exact h
   refine DP λi u Q=>?_;have p:=(Qu.1 Q).1;rw [KR U,List.length_map,List.length_range] at p
   have I:0<size:=by
    rcases Nat.eq_zero_or_pos size with h | h
    .rw [h] at p;omega
    .exact h
   have N:i=i/size*size+i%size:=by rw [Nat.mul_comm];exact (Nat.div_add_mod i size).symm
   have hq:i/size<o:=Nat.div_lt_of_lt_mul (by rw [Nat.mul_comm];exact p);have hr:=Nat.mod_lt i I;obtain ⟨x,a3,a7,_⟩:=y _ hq;obtain ⟨_,_,Y⟩:=World.cells?_some a3;rw [N,nH U _ _ (by simpa using hq) hr] at Q;have e:bS ((List.range o).map v) (i/size)=v (i/size):=by simp [bS,hq]
   rw [e,<-Y _ hr] at Q;rw [N];rw [Go.Deep.add_add] at Q;exact Q
  .intro r hr;obtain ⟨i,J,rfl⟩:=List.mem_map.1 hr;obtain ⟨x,_,h,_⟩:=y i (List.mem_range.1 J);exact h
  .intro j x T;have hj:j<o:=by rw [<-B];exact (Qu.1 T).1
   have e:bS ((List.range o).map v) j=v j:=by simp [bS,hj]
   rw [e]
   have V:x=el j hj:=by
    have:=Qu.1 T;obtain ⟨h1,Z⟩:=this;rw [<-Z];simp [l]
   rw [V]
   exact (Classical.choose_spec (y j hj)).2.2⟩
theorem cB {t y:R9} {B:Array Field} {α:Type} {R:fl α} (D:kH P t size R) (o:P.underlying y=some (.struct B)) {H:Type} {v:R9×Value->H} {off:Nat} {A:R7} {x:DataW H×List MemPlace} {xs:List (DataW H×List MemPlace)} (I:x=(.agg (xs.map (·.1)),xs.flatMap (·.2))) (hl:jH P y x.1) (h:DataW.trod v P W 0 (λ_=>true) true n t ((A.drop off).take (P.cellsOf t))=xs[i]?) (C:i<xs.length) (u:(B.toList.map (·.type))[i]?=some t):∃a,R W ((A.drop off).take size) a:=by
 obtain ⟨hc,p⟩:=D;rw [hc,Qv C] at h;refine (p h ?_).2;subst I;simp only [jH,DataW.weights,o] at hl;exact uy hl i t _ u (by simp [Qv C])
theorem sy {t:R9} {α:Type} {R:fl α} (y:kH P t size R) {H:Type} {i:R9×Value->H} {v:Value} {d:DataW H} {p:List MemPlace} (h:DataW.Trod i P W 0 (λ_=>true) true t v d p) (hl:jH P t d):∃a,R W v.cells.toList a/\v.cells.toList.length=size:=by
 obtain ⟨o,u⟩:=h;obtain ⟨h1,a,x⟩:=y.2 u hl;exact ⟨a,x,h1⟩
end
section
open Go.RowKit
def gt (B:Nat) (w:R8):R8:={w with heap:=w.heap.mapIdx λk o=>if k<B then .cells #[] 0 (0,0) else o}
theorem jY (B:Nat) (w:R8):(gt B w).heap.size=w.heap.size:=by simp [gt]
theorem iY (h:B<=k):(gt B w).heap[k]?=w.heap[k]?:=by
 simp only [gt,Array.getElem?_mapIdx];have i:¬k<B:=ap;simp [i]
theorem qm (h:k<B) (hk:k<w.heap.size):(gt B w).heap[k]?=some (.cells #[] 0 (0,0)):=by
 simp only [gt,Array.getElem?_mapIdx];simp [h,hk]
theorem tr (B:Nat) (w:R8):Keep (λj=>j<B) w (gt B w):=⟨rfl,rfl,rfl,by rw [jY];exact PV _,λk _ hn=>iY ap⟩
theorem fK {e:R9} {v:Value} (h:w.ownsRow base e size v n xs) (hB:B<=base):(gt B w).ownsRow base e size v n xs:= (tr B w).own h λk hk hl=>by have:=(h.lt k hk).1;omega
theorem EB {i:R8} (h:aq w i):Below (gt B w).heap.size (gt B w) (gt B i):=
 ⟨h.os,h.tape,h.output,by rw [jY,jY];exact h.size,λk hk=>by
  rw [jY] at hk;rcases Qf k B with hb | hb
  .rw [qm hb (P6 hk h.size),qm hb hk]
  .rw [iY hb,iY hb,h.block k hk]⟩
def Agr (B:Nat) (u v:R8):Prop:=∀k,B<=k->k<u.heap.size->v.heap[k]?=u.heap[k]?
theorem Agr.refl (B:Nat) (u:R8):Agr B u u:=λ_ _ _=>rfl
theorem Iz {u v:R8} {a:Addr} (h:(gt B u).cell? a=some x) (i:Agr B u v):v.cell? a=some x:=by
 have hl:=aB h;rw [jY] at hl;rcases Qf a.block B with hb | hb
 .have o:=qm (w:=u) hb hl;rw [World.cell?] at h;simp only [o] at h;simp at h
 .exact (World.cell?_of_block (w:=gt B u) ((i _ hb hl).trans (iY hb).symm)).trans h
theorem tt {u v:R8} {t:R9} {i:Nat×Nat} (h:(gt B u).heap[b]?=some (.cells (x::xs).toArray t i)) (o:Agr B u v):v.heap[b]?=some (.cells (x::xs).toArray t i):=by
 have hl:=PU h;rw [jY] at hl;rcases Qf b B with hb | hb
 .rw [qm hb hl] at h;simp at h
 .rw [o b hb hl,<-iY hb];exact h
theorem mx {u v:R8} (h:Rd (gt B u) A xs) (i:Agr B u v):Rd v A xs:=λk x p=>by
 obtain ⟨b,o,e,hc⟩:=h k x p;exact ⟨b,o,e,Iz hc i⟩
theorem Er {u:R8} (h:B<=i):Agr i u (gt B u):=λk hk _=>iY ap
def szN (sz:Q_) (k:Nat):Nat:=(nth sz k).toNat
def bT (sz:Q_):Nat->Nat
 | 0=>0
 | k+1=>bT sz k+(szN sz k+1)*szN sz (k+1)
def dL (sz:Q_) (k:Nat):Nat:=bT sz k+szN sz (k+1)*szN sz k
def de (sz:Q_):Prop:=(2<=sz.length/\sz.length<=16)/\∀k,k<sz.length->1<=nth sz k/\nth sz k<=1048576
def dX (sz:Q_):Prop:=de sz/\bT sz (sz.length-1)<=1048576
theorem de.at (h:de sz) (hk:k<sz.length):1<=szN sz k/\szN sz k<=1048576/\nth sz k=(szN sz k:Int):=by
 have:=h.2 k hk;unfold szN;omega
theorem fL (sz:Q_) (k:Nat):dL sz k+szN sz (k+1)=bT sz (k+1):=by
 unfold dL;rw [bT,Nat.add_mul,Nat.one_mul,Nat.mul_comm (szN sz k)];omega
theorem de.mul (h:de sz) (hk:k+1<sz.length):szN sz (k+1)*szN sz k<=1099511627776:=by
 have h1:=h.at hk;have i:=h.at (k:=k) ap;exact Nat.mul_le_mul h1.2.1 i.2.1
theorem de.cnt (h:de sz):∀k,k<sz.length->bT sz k<=k*1099512676352:=by
 intro k
 induction k with
 | zero=>intro _;simp [bT]
 | succ k ih=>
  intro hk;have h1:=ih ap;have o:=h.mul hk;have p:=(h.at hk).2.1;have i:=fL sz k;unfold dL at i;omega
theorem gn (sz:Q_) (h:j<=k):bT sz j<=bT sz k:=by
 induction h with
 | refl=>exact PV _
 | step _ ih=>rw [bT];omega
theorem de.bound (h:de sz) (hk:k<sz.length):bT sz k<=17592202821632:=by
 have h1:=h.cnt k hk;have i:=h.1.2;have:k*1099512676352<=16*1099512676352:=QY _ ap;omega
theorem dX.bound (h:dX sz) (hk:k<sz.length):bT sz k<=1048576:=P4 (gn sz ap) h.2
theorem dX.mul (h:dX sz) (hk:k+1<sz.length):szN sz (k+1)*szN sz k<=1048576:=by
 have h1:=h.bound hk;have i:=fL sz k;unfold dL at i;omega
def qj (sz:Q_) (k:Nat):R7:=(List.range k).flatMap λj=>[QZ (bT sz j:Int),QZ (dL sz j:Int)]
def qO (sz:Q_) (k:Nat):R7:=(List.range k).flatMap λj=>[QZ (dL sz j:Int),QZ (bT sz (j+1):Int)]
theorem pG (sz:Q_) (k:Nat):qj sz (k+1)=qj sz k++[QZ (bT sz k:Int),QZ (dL sz k:Int)]:=by simp [qj,QL,List.flatMap_append]
theorem qb (sz:Q_) (k:Nat):qO sz (k+1)=qO sz k++[QZ (dL sz k:Int),QZ (bT sz (k+1):Int)]:=by simp [qO,QL,List.flatMap_append]
theorem lR (sz:Q_) (k:Nat):(qj sz k).length=k*2:=by
 induction k with
 | zero=>rfl
 | succ k ih=>rw [pG,Qt,ih];simp;omega
theorem mj (sz:Q_) (k:Nat):(qO sz k).length=k*2:=by
 induction k with
 | zero=>rfl
 | succ k ih=>rw [qb,Qt,ih];simp;omega
theorem Iq (sz:Q_) (h:j<n):(qj sz n)[j*2]?=some (QZ (bT sz j:Int))/\(qj sz n)[j*2+1]?=some (QZ (dL sz j:Int)):=by
 induction n with
 | zero=>omega
 | succ n ih=>
  rw [pG];by_cases i:j<n
  .have:=ih i;rw [Qw (by rw [lR];omega),Qw (by rw [lR];omega)];exact this
  .obtain rfl:j=n:=ap;rw [Qx (by rw [lR];omega),Qx (by rw [lR];omega),lR];simp
theorem LK (sz:Q_) (h:j<n):(qO sz n)[j*2]?=some (QZ (dL sz j:Int))/\(qO sz n)[j*2+1]?=some (QZ (bT sz (j+1):Int)):=by
 induction n with
 | zero=>omega
 | succ n ih=>
  rw [qb];by_cases i:j<n
  .have:=ih i;rw [Qw (by rw [mj];omega),Qw (by rw [mj];omega)];exact this
  .obtain rfl:j=n:=ap;rw [Qx (by rw [mj];omega),Qx (by rw [mj];omega),mj];simp
def cT (T:R9) (w:R8) (b:Nat) (sz:Q_):Prop:=∃A1 c1 h c2 i c3,
 w.heap[b]?=some (.cells #[.slice A1 sz.length c1,.slice h (sz.length-1) c2,.slice i (sz.length-1) c3,QZ (bT sz (sz.length-1):Int)] T (0,0))/\
 Rd w A1 (aA .i64 sz)/\Rd w h (qj sz (sz.length-1))/\Rd w i (qO sz (sz.length-1))
theorem cT.below {i:R8} (h:cT T w b sz) (hb:aq w i):cT T i b sz:=by
 obtain ⟨A1,c1,u,c2,p,c3,o,h1,v,x⟩:=h;exact ⟨A1,c1,u,c2,p,c3,(hb.block b (PU o)).trans o,h1.below hb,v.below hb,x.below hb⟩
theorem cT.lt (h:cT T w b sz):b<w.heap.size:=by
 obtain ⟨A1,c1,p,c2,o,c3,i,_⟩:=h;exact PU i
theorem gi:dM prog 22 3 (QZ 0) 1 8:=⟨underlying22,info_parts V1,rfl,by decide⟩
theorem mV (A:N_) (zs:Q_) (c:Nat) (w:R8) (hA:Rd w A (aA .i64 zs)) (hl:zs.length<=17592186043904):Vj 40 #[.slice A zs.length c] w λe y=>∃v,Vi e v/\y.ownsRow w.heap.size 3 1 v zs.length (aA .i64 zs)/\aq w y:=by
 have q:=λ(w:R8)=>Lib.run_eql_slice_nil (P:=prog) w 22 3 A zs.length c 0 0 underlying22
 cases A with
 | none=>
  have B:zs=[]:=by
   cases zs with
   | nil=>rfl
   | cons z l=>obtain ⟨b,o,h,_⟩:=hA 0 _ rfl;cases h
  subst B;clear q;have q:=λ(w:R8)=>Lib.run_eql_slice_nil (P:=prog) w 22 3 none 0 c 0 0 underlying22;simp only [Option.isNone_none] at q;rw [List.length_nil];go_enter func40,ntmps40;go_wp2;go_ret;exact ⟨_,rfl,Qb _ _ _ _,PY _ _⟩
 | some a=>
  go_enter func40,ntmps40;go_wp2_with (at_builtin;refine dQ gi _ rfl (.tmp 5) (.tmp 6) rfl (Ve w) _ 0 [] rfl (fg w 3 1) _ zs.length c (aA .i64 zs) rfl (hA.alloc _) (by rw [cq];omega) (cU _ _) ap V2 V3 ?_);intro H D C i hb _ _;have u:=((PY _ w).alloc (PV _) (.cells #[] 3)).trans hb;obtain ⟨p,x⟩:=ae i u;clear i hb u;go_wp2;go_ret;exact ⟨_,rfl,p.o,x.o⟩
theorem nj (b:Nat) (sz:Q_) (w:R8) (h:cT 212 w b sz) (hl:sz.length<=17592186043904):Vj 240 #[(au b)] w λe x=>∃A c,Vi e (.slice A sz.length c)/\x.ownsRow w.heap.size 3 1 (.slice A sz.length c) sz.length (aA .i64 sz)/\aq w x:=by
 obtain ⟨A1,c1,V,c2,U,c3,y,h1,C,N⟩:=h;obtain ⟨⟨I,D,O,B⟩,J⟩:=bx4 y;have hc:=mV A1 sz c1 w h1 hl;have H:=aa hc;clear hc y h1 C N;go_enter func240,ntmps240;go_wp2_with fail;refine H.o.mono ?_;rintro e Q ⟨v,rfl,i,hb⟩;obtain ⟨T,R,rfl,u⟩:=aC i;obtain ⟨p,L⟩:=ae i hb;clear i hb u;clear I D O B J;go_wp2;go_ret;exact ⟨_,_,rfl,p.o,L.o⟩
theorem kZ (b:Nat) (sz:Q_) (w:R8) (h:cT 212 w b sz):Vj 241 #[(au b)] w λe o=>Vi e (QZ ((sz.length-1:Nat):Int))/\w=o:=by
 obtain ⟨A1,c1,A,c2,x,c3,i,h1,p,u⟩:=h;obtain ⟨⟨C,B,v,y⟩,D⟩:=bx4 i;clear i h1 p u;go_enter func241,ntmps241;go_wp2;go_ret;exact ⟨rfl,rfl⟩
theorem le (b:Nat) (sz:Q_) (w:R8) (h:cT 212 w b sz):Vj 79 #[(au b)] w λe o=>Vi e (QZ (bT sz (sz.length-1):Int))/\w=o:=by
 obtain ⟨A1,c1,A,c2,x,c3,i,h1,p,u⟩:=h;obtain ⟨⟨C,B,v,y⟩,D⟩:=bx4 i;clear i h1 p u;go_enter func79,ntmps79;go_wp2;go_ret;exact ⟨rfl,rfl⟩
theorem pr (b:Nat) (sz:Q_) (k:Nat) (w:R8) (h:cT 212 w b sz) (hl:sz.length<=17592186043904) (hk:k<sz.length-1):Vj 242 #[(au b),QZ k] w λe p=>Vi e (.agg #[QZ (bT sz k:Int),QZ (dL sz k:Int)])/\aq w p:=by
 have i:=λp (hb:aq w p)=>kZ b sz p (h.below hb);have O:=h.lt;obtain ⟨A1,c1,A2,c2,A3,c3,y,h1,u,D⟩:=h;obtain ⟨n,hn⟩:=Vb (sz.length-1);rw [hn] at y u D hk i;obtain ⟨⟨Y,V,r2,U⟩,Z⟩:=bx4 y;obtain ⟨H,C⟩:=Iq sz hk;obtain ⟨b2,B,rfl,Q⟩:=u _ _ H;obtain ⟨N,I,A,L⟩:=u _ _ C;injection A with A;injection A with e3 e4 _
 subst e3;subst e4;rw [show B+(k*2+1)=B+k*2+1 by omega] at L;have T:=aB Q;have x:=aa i;have R:n<=17592186043904:=ap;clear i y h1 u D H C hn hl;go_enter func242,ntmps242;go_wp2_with fail;refine (x.o _ ?_).mono ?_
 .exact am
 rintro e p ⟨rfl,rfl⟩;have J:(k:Int)<n:=ap;go_wp2_with fail;refine Qd (v:=.agg #[QZ (bT sz k:Int),QZ (dL sz k:Int)]) (by simp [results,results242,go_sem]) rfl ⟨rfl,?_⟩;exact am
theorem qp (b:Nat) (sz:Q_) (k:Nat) (w:R8) (h:cT 212 w b sz) (hl:sz.length<=17592186043904) (hk:k<sz.length-1):Vj 243 #[(au b),QZ k] w λe p=>Vi e (.agg #[QZ (dL sz k:Int),QZ (bT sz (k+1):Int)])/\aq w p:=by
 have i:=λp (hb:aq w p)=>kZ b sz p (h.below hb);have O:=h.lt;obtain ⟨A1,c1,A2,c2,A3,c3,y,h1,B,u⟩:=h;obtain ⟨n,hn⟩:=Vb (sz.length-1);rw [hn] at y B u hk i;obtain ⟨⟨Y,V,r2,U⟩,Z⟩:=bx4 y;obtain ⟨H,D⟩:=LK sz hk;obtain ⟨b2,C,rfl,Q⟩:=u _ _ H;obtain ⟨N,I,A,L⟩:=u _ _ D;injection A with A;injection A with e3 e4 _
 subst e3;subst e4;rw [show C+(k*2+1)=C+k*2+1 by omega] at L;have T:=aB Q;have x:=aa i;have R:n<=17592186043904:=ap;clear i y h1 B u H D hn hl;go_enter func243,ntmps243;go_wp2_with fail;refine (x.o _ ?_).mono ?_
 .exact am
 rintro e p ⟨rfl,rfl⟩;have J:(k:Int)<n:=ap;go_wp2_with fail;refine Qd (v:=.agg #[QZ (dL sz k:Int),QZ (bT sz (k+1):Int)]) (by simp [results,results243,go_sem]) rfl ⟨rfl,?_⟩;exact am
theorem Ev (n:Int) (w:R8):Vj 112 #[QZ n] w λe h=>Vi e (.bool (!decide (1<=n/\n<=1048576)))/\w=h:=by
 by_cases h1:n<1
 .go_enter func112,ntmps112;go_wp2;go_ret;exact ⟨dC (by first | (simp;omega) | (simp;done)),rfl⟩
 .by_cases i:1048576<n
  .go_enter func112,ntmps112;go_wp2;go_ret;exact ⟨dC (by first | (simp;omega) | (simp;done)),rfl⟩
  .go_enter func112,ntmps112;go_wp2;go_ret;exact ⟨dC (by first | (simp;omega) | (simp;done)),rfl⟩
def Nt (sz:Q_) (e:Ending):Prop:=∃d:Int,e=.returned (QZ d)/\ -1<=d/\(d<0↔∀k,k<sz.length->1<=nth sz k/\nth sz k<=1048576)
theorem xd (A:N_) (sz:Q_) (c:Nat) (w:R8) (hA:Rd w A (aA .i64 sz)) (hl:sz.length<=17592186043904):Vj 154 #[.slice A sz.length c,.func (.func 112) #[] #[]] w λe C=>Nt sz e/\w=C:=by
 obtain ⟨n,hn⟩:=Vb sz.length;have hw:=λz=>Ev z w;rw [hn] at hl |-;obtain ⟨HA,H,I⟩:=af hA hn hw;clear hA hn hw;go_enter func154,ntmps154;go_wp2
 go_loop [5,8] (λ_ i=>∃k:Nat,k<=n/\i=QZ k/\an (∀j,j<k->1<=nth sz j/\nth sz j<=1048576)) (λ_ i=>n-(intOf i).toNat)
 .exact ⟨0,PZ _,rfl,aa λj J=>ap⟩
 case round=>
  obtain ⟨k,hk,rfl,u⟩:=hrel;by_cases B:k<n
  .obtain ⟨b,o,rfl,p⟩:=HA.o.num (show k<sz.length by rw [H.o];exact B);by_cases x:1<=nth sz k/\nth sz k<=1048576
   .have y:(!decide (1<=nth sz k/\nth sz k<=1048576))=false:=by simp [x.1,x.2]
    have hw:=I.o (nth sz k);rw [y] at hw;obtain ⟨D,v⟩:=ae x hw;clear x hw y;go_wp2_with fail;refine v.o.mono ?_;rintro e C ⟨rfl,rfl⟩;go_wp2;go_round
    case rel=>exact ⟨k+1,ap,Vc,aa (p:=∀j,j<k+1->1<=nth sz j/\nth sz j<=1048576) λj J=>by
     rcases Qf j k with h | h
     .exact u.out j h
     .obtain rfl:j=k:=ap
      exact D.o⟩
    case measure=>exact Va
   .have y:(!decide (1<=nth sz k/\nth sz k<=1048576))=true:=by simp;omega
    have hw:=I.o (nth sz k);rw [y] at hw;obtain ⟨D,v⟩:=ae x hw;clear x hw y;go_wp2_with fail;refine v.o.mono ?_;rintro e C ⟨rfl,rfl⟩;go_wp2;go_ret;exact ⟨⟨k,rfl,ap,λh=>ap,λh=>absurd (h k (by rw [H.o];exact B)) D.o⟩,rfl⟩
  .obtain rfl:k=n:=ap;go_wp2;go_ret;exact ⟨⟨-1,rfl,ap,λ_=>by rw [H.o];exact u.out,λ_=>ap⟩,rfl⟩
theorem yC (A:N_) (sz:Q_) (c:Nat) (w:R8) (hA:Rd w A (aA .i64 sz)) (hl:sz.length<=17592186043904) (h:¬∀k,k<sz.length->1<=nth sz k/\nth sz k<=1048576):Vj 113 #[.slice A sz.length c,.func (.func 112) #[] #[]] w λe p=>Vi e (.bool true)/\w=p:=by
 have u:=xd A sz c w hA hl;obtain ⟨x,H⟩:=ae u h;clear u hA h;go_enter func113,ntmps113;go_wp2_with fail;refine x.o.mono ?_;rintro e p ⟨⟨d,rfl,y,i⟩,rfl⟩
 have v:0<=d:=by
  rcases Int.lt_or_le d 0 with h | h
  .exact absurd (i.1 h) H.o
  .exact h
 clear i;go_wp2;go_ret;exact ⟨dC (by simp [v]),rfl⟩
theorem AY (A:N_) (sz:Q_) (c:Nat) (w:R8) (hA:Rd w A (aA .i64 sz)) (hl:sz.length<=17592186043904) (h:∀k,k<sz.length->1<=nth sz k/\nth sz k<=1048576):Vj 113 #[.slice A sz.length c,.func (.func 112) #[] #[]] w λe p=>Vi e (.bool false)/\w=p:=by
 have u:=xd A sz c w hA hl;obtain ⟨v,H⟩:=ae u h;clear u hA h;go_enter func113,ntmps113;go_wp2_with fail;refine v.o.mono ?_;rintro e p ⟨⟨d,rfl,x,i⟩,rfl⟩;have y:d<0:=i.2 H.o;clear i;go_wp2;go_ret;exact ⟨dC V6,rfl⟩
theorem zS (m N:Nat) (P S:Nat) (v0 v1 v2:Value) (w:R8) (hP:Vg w P #[(au S)] 159) (h:Vg w S #[v0,v1,v2,QZ N] 212) (H:N<=17592202821632) (hm:m<=17592202821632):Vj 114 #[QZ m,(au P)] w λe p=>Vi e (.agg #[QZ N,QZ ((N+m:Nat):Int)])/\Vg p S #[v0,v1,v2,QZ ((N+m:Nat):Int)] 212/\Keep (λi=>i=S) w p:=by
 obtain ⟨B,D⟩:=bx1 hP;obtain ⟨⟨s0,s1,s2,A⟩,C⟩:=bx4 h;have x:=PU hP;have u:=PU h;have y:=aa h;clear h hP;rw [Int.natCast_add];go_enter func114,ntmps114;go_wp2
 go_region
 all_goals go_wp2_with fail
 refine Qd (v:=.agg #[QZ N,QZ ((N:Int)+(m:Int))]) (by simp [results,results114,go_sem]) rfl ⟨rfl,?_,?_⟩
 .have h1:Vg (w.setCell (ar S 3) (QZ ((N:Int)+(m:Int)))) S #[v0,v1,v2,QZ ((N:Int)+(m:Int))] 212:=QX w S 3 _ _ _ y.o;have l1:=PU h1;exact (Qc _ _ S (by simp at l1 |-;omega)).trans ((Qc _ _ S l1).trans h1)
 .exact (((Vk S (Keep.refl _ w) (ar S 3) (.inr rfl) _).alloc _).alloc _).drew
theorem nU {u v:R8} (h:cT T (gt B u) b sz) (i:Agr B u v):cT T v b sz:=by
 obtain ⟨A1,c1,p,c2,o,c3,y,h1,x,A⟩:=h;exact ⟨A1,c1,p,c2,o,c3,tt y i,mx h1 i,mx x i,mx A i⟩
theorem mZ:dM prog 170 148 (.agg #[QZ 0,QZ 0]) 2 16:=⟨underlying170,info_parts V1,rfl,by decide⟩
def PN (sz:Q_) (o:Value) (P S:Nat) (k:Nat) (p w:R8):Prop:=
 ∃A1 c1 h c2,w.heap[P]?=some (.cells #[(au S)] 159 (0,0))/\w.heap[S]?=some (.cells #[o,.slice A1 k c1,.slice h k c2,QZ (bT sz k:Int)] 212 (0,0))/\
  w.ownsRow S 148 2 (.slice A1 k c1) k (qj sz k)/\w.ownsRow S 148 2 (.slice h k c2) k (qO sz k)/\(∀i,(Value.slice A1 k c1).ownBlock=some i->(Value.slice h k c2).ownBlock≠some i)/\Below S p w
theorem BK (A:N_) (sz:Q_) (c:Nat) (w:R8) (hc:sz.length<=c) (hm:c<=9223372036854775807) (h:¬(2<=sz.length/\sz.length<=16)):Vj 77 #[.slice A sz.length c] w λe i=>Vi e (.tuple #[.pointer none,QZ 5])/\w=i:=by
 by_cases h1:sz.length<2
 .go_enter func77,ntmps77;go_wp2;go_ret2;exact ⟨rfl,rfl⟩
 .have o:16<sz.length:=ap;go_enter func77,ntmps77;go_wp2;go_ret2;exact ⟨rfl,rfl⟩
theorem BJ (A:N_) (sz:Q_) (c:Nat) (w:R8) (hA:Rd w A (aA .i64 sz)) (hc:sz.length<=c) (hm:c<=9223372036854775807) (h:2<=sz.length/\sz.length<=16) (hb:¬∀k,k<sz.length->1<=nth sz k/\nth sz k<=1048576):Vj 77 #[.slice A sz.length c] w λe u=>Vi e (.tuple #[.pointer none,QZ 5])/\w=u:=by
 obtain ⟨h1,v⟩:=h;have i:=yC A sz c w hA ap hb;have p:=aa i;clear i hb hA;go_enter func77,ntmps77;go_wp2_with fail;refine p.o.mono ?_;rintro e u ⟨rfl,rfl⟩;go_wp2;go_ret2;exact ⟨rfl,rfl⟩
theorem yV (A:N_) (sz:Q_) (c:Nat) (w:R8) (hA:Rd w A (aA .i64 sz)) (hc:sz.length<=c) (hm:c<=9223372036854775807) (h:de sz):Vj 77 #[.slice A sz.length c] w λe D=>aq w D/\((1048576<bT sz (sz.length-1)/\Vi e (.tuple #[.pointer none,QZ 4]))\/
   (bT sz (sz.length-1)<=1048576/\∃b,Vi e (.tuple #[(au b),QZ 0])/\cT 212 (gt w.heap.size D) b sz/\w.heap.size<=b)):=by
 obtain ⟨b,o,rfl,_⟩:=hA.num (show 0<sz.length by have:=h.1.1;omega);have b7:=AY (some (ar b o)) sz c w hA (by have:=h.1.2;omega) h.2;have bb:=mV (some (ar b o)) sz c w hA (by have:=h.1.2;omega);obtain ⟨n,hn⟩:=Vb sz.length;obtain ⟨h1,h2⟩:=h.1;rw [hn] at h1 h2 b7 bb hc |-;have e4:¬(c=1):=ap;have e0:1<=c:=ap;obtain ⟨d9,dk,co,HR,Hn⟩:=ah b7 bb hA h hn;clear b7 bb hA h hn;go_enter func77,ntmps77;go_wp2_with fail;refine d9.o.mono ?_;rintro e D ⟨rfl,rfl⟩;go_wp2_with fail;refine dk.o.mono ?_;rintro e u ⟨v,rfl,U,hb⟩;obtain ⟨Ac,cc,rfl,cj⟩:=aC U;obtain ⟨cr,Hb,e3⟩:=af U hb cj;clear U hb cj;go_wp2
 go_loopw [30] (λi wr=>∃k:Nat,k<=n-1/\i=QZ k/\PN sz (.slice Ac n cc) (u.heap.size+1) u.heap.size k u wr) (λi _=>n-(intOf i).toNat)
 case atStart=>
  refine ⟨0,PZ _,rfl,none,0,none,0,?_,?_,Qb _ _ _ _,Qb _ _ _ _,(λi y=>by cases y),?_⟩
  .have:=PW (u.alloc (.cells #[.slice Ac n cc,Ra,Ra,QZ 0] 212)) (.cells #[(au u.heap.size)] 159);simpa using this
  .exact (Qc _ _ _ V3).trans (PW u _)
  .exact am
 case round=>
  obtain ⟨k,hk,rfl,A1,c1,A2,c2,hP,hS,c8,bI,bd,hW⟩:=hrel;have ab:k<sz.length:=by rw [Hn.o];omega
  have d6:=HR.o.bound ab;obtain ⟨x0,xf⟩:=bx1 hP;obtain ⟨⟨s0,s1,s2,s3⟩,sf⟩:=bx4 hS;have cO:=PU hP;have d0:=PU hS;obtain ⟨HP,HS,ao,aG,HN,HW⟩:=ai hP hS c8 bI bd hW;clear hP hS c8 bI bd hW;by_cases dG:k<n-1
  .have C:k+1<sz.length:=by rw [Hn.o];omega
   have c6:=HR.o.mul C;have z0:=HR.o.at ab;have z1:=HR.o.at C;obtain ⟨_,_,e',p0⟩:=co.o.num ab;injection e' with e';injection e' with e1 e2 _;subst e1;subst e2
   obtain ⟨_,_,e',p1⟩:=co.o.num C;injection e' with e';injection e' with e1 e2 _;subst e1;subst e2
   have bs:b<w.heap.size:=aB p0;have ci:b<u.heap.size:=by have:=Hb.o.size;omega
   have b5:=((Hb.o.trans (HW.o.mono Hb.o.size)).cell (p:=(ar b (o+k))) bs).trans p0;have d2:=((Hb.o.trans (HW.o.mono Hb.o.size)).cell (p:=⟨b,o+(k+1),none⟩) bs).trans p1;rw [z0.2.2] at b5;rw [z1.2.2,show o+(k+1)=o+1+k by omega] at d2;have J:dL sz k=bT sz k+szN sz (k+1)*szN sz k:=rfl;obtain ⟨p,hp⟩:=Vb (szN sz (k+1)*szN sz k);rw [hp] at c6 J;have I:=λW (h1:W.heap[u.heap.size+1]?=_) (h2:W.heap[u.heap.size]?=_)=>zS p (bT sz k) (u.heap.size+1) u.heap.size (.slice Ac n cc) (.slice A1 k c1) (.slice A2 k c2) W h1 h2 d6 ap;rw [<-J] at I;have d7:(szN sz (k+1):Int)*(szN sz k:Int)=(p:Int):=by rw [<-Int.natCast_mul,hp]
   have d5:IntKind.i64.wrap (p:Int)=(p:Int):=P3 _ ap;obtain ⟨cf,ds⟩:=ae I J;clear I p0 p1 z0 z1 J;have dT:(k:Int)<n:=ap;go_wp2_with fail;have x:(λD:R8=>Vh D (u.heap.size+1) 0 ((au u.heap.size))/\Vh D u.heap.size 1 (.slice A1 k c1)/\Vh D b (o+k) (QZ (szN sz k))) wr.drew:=⟨x0,s1,b5⟩;refine XA.g 15 (λD:R8=>Vh D (u.heap.size+1) 0 ((au u.heap.size))/\Vh D u.heap.size 1 (.slice A1 k c1)/\Vh D b (o+k) (QZ (szN sz k))) ?_;refine XA.t ?_ [0,1,2,3,4,5,6,7,8,9,10,11] x ?_;refine XA.o 12 (λK H=>?_);go_simp;refine (cf.o wr.drew HP.o HS.o).mono ?_;rintro e w3 ⟨rfl,ad,a2⟩;have g0:=a2.cell (p:=(ar (u.heap.size+1) 0)) x0 V3;have g1:=PX w3 _ 1 _ _ _ ad;have g2:=a2.cell (p:=(ar b (o+k))) b5 V6;have l0:u.heap.size+1<w3.heap.size:=aB g0;have l1:u.heap.size<w3.heap.size:=aB g1;have l2:b<w3.heap.size:=aB g2;obtain ⟨bw,T⟩:=ae ad a2;clear ad a2;dsimp only;refine H.out _ _ ⟨g0,g1,g2⟩ (λx=>?_);clear H K;refine XA.o 13 (λK H=>?_);go_simp;refine H.out _ _ ⟨aJ g0 _,aJ g1 _,aJ g2 _⟩ (λx=>?_);clear H K;have bO:=T.o.own (bZ ao.o 1) (λi y e=>ay HS.o V0 ao.o (by rw [y,e]));have bN:=(T.o.block _ (PU HP.o) ap).trans HP.o;obtain ⟨Z,bn⟩:=ae bO bN;clear bO bN;refine XA.o 14 (λK H=>?_);refine bY mZ (.tmp 39) (.tmp 48) rfl rfl u.heap.size (.slice A1 k c1) k (qj sz k) rfl (Z.o.alloc _) (some (ar w3.heap.size 0)) 1 1 [QZ (bT sz k:Int),QZ (dL sz k:Int)] rfl (dW w3 _ _ _ rfl) rfl V5 ap V2 V6 ?_;intro A4 c4 w4 cn cx Y bl;have aR:=eh bn.o V0 Z.o Y;have a5:=eh bw.o V0 Z.o Y;have i0:=PX w4 _ 0 _ _ _ aR;have i1:=PX w4 _ 1 _ _ _ a5;have i2:=De g2 ci Z.o Y;have i3:=P8 w4 _ 1 _ _ a5;obtain ⟨b0,bo,a1,bM,c9,bf⟩:=ai cn aR a5 Y bl cx;clear cn aR a5 Y bl cx;dsimp only;refine H.out _ _ ⟨i0,i1,i2⟩ (λx=>?_);clear H K x;refine XA.e ?_;simp only [Qq,Qs];go_wp2_with fail;obtain ⟨L,a4⟩:=wH (T.o.own (bZ aG.o 1) (λi y e=>ay HS.o V0 aG.o (by rw [y,e]))) HN.o bM.o c9.o;have O:=(Below.heap_setCell w4 (ar u.heap.size 1) (.slice A4 (k+1) c4) (u.heap.size+1) V3).trans bo.o;have Q:=QX w4 u.heap.size 1 _ _ (.slice A4 (k+1) c4) a1.o;have b2:Keep (λi=>i=u.heap.size) w4 (w4.setCell (ar u.heap.size 1) (.slice A4 (k+1) c4)):=Vk u.heap.size (Keep.refl _ _) (ar u.heap.size 1) (.inr rfl) _;have a0:=b2.own b0.o (λi y e=>ay a1.o V0 b0.o (by rw [y,e]));have V:=b2.own L (λi y e=>ay a1.o V0 L (by rw [y,e]))
   have b3:aq u (w4.setCell (ar u.heap.size 1) (.slice A4 (k+1) c4)):=
    ((HW.o.drew.trans ((T.o.toBelow (B:=u.heap.size) V6 (λi y=>ap)))).trans ((((PY _ w3).alloc ap _)).trans bf.o)).setCell V3 _
   rw [<-pG] at a0;obtain ⟨w5,bG⟩:∃w5,w5=w4.setCell (ar u.heap.size 1) (.slice A4 (k+1) c4):=⟨_,rfl⟩;rw [<-bG] at O Q a0 V b3 |-;clear bG b2 L i0 i1 i2 i3 g0 g1 g2 l0 l1 l2 x0 xf s0 s1 s2 s3 sf;obtain ⟨x0,xf⟩:=bx1 O;have y2:=PX w5 _ 2 _ _ _ Q;have aM:=fL sz k;have z1:=(HR.o.at C).2.1;have dv:=HR.o.bound C;have I:=λW (h1:W.heap[u.heap.size+1]?=_) (h2:W.heap[u.heap.size]?=_)=>zS (szN sz (k+1)) (dL sz k) (u.heap.size+1) u.heap.size (.slice Ac n cc) (.slice A4 (k+1) c4) (.slice A2 k c2) W h1 h2 ap ap;rw [aM] at I;have cO:=PU O;have d0:=PU Q;obtain ⟨dc,b6,aP,bi,a8,cP,da,dw⟩:=ak I O Q a0 V a4 b3 aM;clear I O Q a0 V a4 b3 aM cf T bw Z bn b0 bo a1 bM c9 bf d7 d5;go_wp2_with fail;have x:(λD:R8=>Vh D (u.heap.size+1) 0 ((au u.heap.size))/\Vh D u.heap.size 2 (.slice A2 k c2)) w5.drew:=⟨x0,y2⟩;refine XA.g 10 (λD:R8=>Vh D (u.heap.size+1) 0 ((au u.heap.size))/\Vh D u.heap.size 2 (.slice A2 k c2)) ?_;refine XA.t ?_ [0,1,2,3,4,5,6] x ?_;refine XA.o 7 (λK H=>?_);go_simp;refine (dc.o w5.drew b6.o aP.o).mono ?_;rintro e w6 ⟨rfl,b8,av⟩;have g0:=av.cell (p:=(ar (u.heap.size+1) 0)) x0 V3;have g1:=PX w6 _ 2 _ _ _ b8;have l0:u.heap.size+1<w6.heap.size:=aB g0;obtain ⟨d4,a7⟩:=ae b8 av;clear b8 av;dsimp only;refine H.out _ _ ⟨g0,g1⟩ (λx=>?_);clear H K;refine XA.o 8 (λK H=>?_);go_simp;refine H.out _ _ ⟨aJ g0 _,aJ g1 _⟩ (λx=>?_);clear H K;have cl:=a7.o.own (bZ a8.o 1) (λi y e=>ay aP.o V0 a8.o (by rw [y,e]));have bV:=(a7.o.block _ (PU b6.o) ap).trans b6.o;obtain ⟨b4,d3⟩:=ae cl bV;clear cl bV;refine XA.o 9 (λK H=>?_);refine bY mZ (.tmp 56) (.tmp 60) rfl rfl u.heap.size (.slice A2 k c2) k (qO sz k) rfl (b4.o.alloc _) (some (ar w6.heap.size 0)) 1 1 [QZ (dL sz k:Int),QZ (bT sz (k+1):Int)] rfl (dW w6 _ _ _ rfl) rfl V5 ap V2 V6 ?_;intro A7 c7 w7 bv cv a3 cb;have b1:=eh d3.o V0 b4.o a3;have a6:=eh d4.o V0 b4.o a3;have i0:=PX w7 _ 0 _ _ _ b1;have i1:=PX w7 _ 2 _ _ _ a6;have i3:=P8 w7 _ 2 _ _ a6;obtain ⟨bz,cL,b9,cA,dr,d1⟩:=ai bv b1 a6 a3 cb cv;clear bv b1 a6 a3 cb cv;dsimp only;refine H.out _ _ ⟨i0,i1⟩ (λx=>?_);clear H K x;refine XA.e ?_;simp only [Qq,Qs];go_wp2_with fail;obtain ⟨L,a4⟩:=wH (a7.o.own (bZ bi.o 1) (λi y e=>ay aP.o V0 bi.o (by rw [y,e]))) (λi y e=>cP.o i e y) cA.o dr.o;have dn:=(Below.heap_setCell w7 (ar u.heap.size 2) (.slice A7 (k+1) c7) (u.heap.size+1) V3).trans cL.o;have cy:=QX w7 u.heap.size 2 _ _ (.slice A7 (k+1) c7) b9.o;have bX:Keep (λi=>i=u.heap.size) w7 (w7.setCell (ar u.heap.size 2) (.slice A7 (k+1) c7)):=Vk u.heap.size (Keep.refl _ _) (ar u.heap.size 2) (.inr rfl) _;have be:=bX.own bz.o (λi y e=>ay b9.o V0 bz.o (by rw [y,e]));have cd:=bX.own L (λi y e=>ay b9.o V0 L (by rw [y,e]))
   have d8:aq u (w7.setCell (ar u.heap.size 2) (.slice A7 (k+1) c7)):=
    ((da.o.drew.trans ((a7.o.toBelow (B:=u.heap.size) V6 (λi y=>ap)))).trans ((((PY _ w6).alloc ap _)).trans d1.o)).setCell V3 _
   rw [<-qb] at be;go_roundw
   .exact ⟨k+1,ap,Vc,A4,c4,A7,c7,dn,cy,cd,be,λi y e=>a4 i e y,d8⟩
   .simp [intOf];omega
  .obtain rfl:k=n-1:=ap;have N:sz.length-1=n-1:=by rw [Hn.o]
   have cw:cT 212 (gt w.heap.size wr) u.heap.size sz:=by
    have dp:=Hb.o.size;refine ⟨Ac,cc,A1,c1,A2,c2,?_,?_,?_,?_⟩
    .rw [Hn.o,iY dp];exact HS.o
    .exact Rd.own (fK (az cr.o HW.o) (PV _))
    .rw [N];exact Rd.own (fK ao.o ap)
    .rw [N];exact Rd.own (fK aG.o ap)
   have a9:aq w wr:=Hb.o.trans (HW.o.mono Hb.o.size);obtain ⟨bA,R,bh⟩:=af cw a9 Hb.o.size;clear cw a9 N;by_cases cs:1048576<bT sz (n-1)
   .have cM:(1048576:Int)<bT sz (n-1):=ap;go_wp2;go_ret2;exact ⟨R.o,.inl ⟨cs,rfl⟩⟩
   .have cM:¬(1048576:Int)<bT sz (n-1):=ap;go_wp2;go_ret2
    first | exact ⟨R.o,ap,_,rfl,bA.o,bh.o⟩ | exact ⟨R.o,.inr ⟨ap,_,rfl,bA.o,bh.o⟩⟩
theorem xk (n size:Nat) (w:R8) (hn:n<=1048576) (hs:1<=size) (v:size<=1048576):Vj 123 #[QZ n,QZ size] w λe u=>Vi e (QZ (di n size:Int))/\w=u:=by
 have B:¬((size:Int)<1):=ap;by_cases p:n=0
 .subst p;go_enter func123,ntmps123;go_wp2;go_ret;exact ⟨rfl,rfl⟩
 .have x:¬((n:Int)<1):=ap;have i:(0:Int)<=(n:Int)-1:=ap;have he:=GU n size ap;have o:=Nat.div_le_self (n-1) size;have hc:di n size=(n-1)/size+1:=by unfold di;rw [if_neg p]
  rw [hc];obtain ⟨y,h⟩:=Vb ((n-1)/size);rw [h] at he o |-;have A:((n:Int)-1).tdiv size=y:=by rw [Int.tdiv_eq_ediv_of_nonneg i,he]
  obtain ⟨D,C⟩:=ae h hc;clear h hc p;go_enter func123,ntmps123;go_wp2;go_ret;exact ⟨rfl,rfl⟩
theorem m6 (n size:Nat) (w:R8) (hn:n<=1048576) (hs:1<=size) (T:size<=1048576):Vj 119 #[QZ n,QZ size] w λe Q=>∃v,Vi e v/\Q.ownsRow w.heap.size 148 2 v (di n size) (gq n size (di n size))/\aq w Q:=by
 have D:=xk n size w hn hs T;have Y:=gj n size;have A:=λk (h:k<di n size)=>iH h;obtain ⟨m,hm⟩:=Vb (di n size);rw [hm] at D Y A |-;obtain ⟨R,U⟩:=ae D A;clear D hm A;go_enter func119,ntmps119;go_wp2_with fail;refine R.o.mono ?_;rintro e Q ⟨rfl,rfl⟩;go_wp2
 go_loopw [5,11] (λv x wr=>∃k:Nat,k<=m/\x=QZ k/\wr.ownsRow w.heap.size 148 2 v k (gq n size k)/\aq w wr) (λ_ x _=>m-(intOf x).toNat)
 .exact ⟨0,PZ _,rfl,Qb _ _ _ _,PY _ _⟩
 case round=>
  obtain ⟨k,hk,rfl,i,hb⟩:=hrel;by_cases O:k<m
  .have V:=U.o k O;obtain ⟨y,N⟩:=Vb (k*size);rw [N] at V;have a0:(k:Int)*(size:Int)=(y:Int):=by rw [<-N];push_cast;rfl
   obtain ⟨Z,cl,rfl,_⟩:=aC i;obtain ⟨Hy,p,J⟩:=af N i hb;clear i hb N;by_cases a1:(size:Int)<=(n:Int)-y
   .have L:(y:Int)+size<=n:=ap;go_wp2_with (at_builtin;refine aV mZ _ rfl (.tmp 17) (.tmp 27) rfl (Ve w) (.slice Z k cl) k _ rfl p.o [QZ (y:Int),QZ ((y:Int)+size)] rfl rfl (cU .i64 [_,_]) ap V2 J.o.size ?_);intro g6 c6 w6 u B I;obtain ⟨H,C⟩:=ae u (J.o.trans B);clear u B I;go_wp2;go_roundw
    case rel=>
     refine ⟨k+1,ap,Vc,?_,C.o⟩;rw [jJ,Hy.o,show ((min (y+size) n:Nat):Int)=(y:Int)+size by omega];exact H.o
    case measure=>exact Va
   .have L:(n:Int)-y<size:=ap;go_wp2_with (at_builtin;refine aV mZ _ rfl (.tmp 17) (.tmp 27) rfl (Ve w) (.slice Z k cl) k _ rfl p.o [QZ (y:Int),QZ ((y:Int)+((n:Int)-y))] rfl rfl (cU .i64 [_,_]) ap V2 J.o.size ?_);intro g6 c6 w6 u B I;obtain ⟨H,C⟩:=ae u (J.o.trans B);clear u B I;go_wp2;go_roundw
    case rel=>
     refine ⟨k+1,ap,Vc,?_,C.o⟩;rw [jJ,Hy.o,show ((min (y+size) n:Nat):Int)=(y:Int)+((n:Int)-y) by omega];exact H.o
    case measure=>exact Va
  .obtain rfl:m=k:=ap;obtain ⟨p,J⟩:=ae i hb;clear i hb;go_wp2;go_ret;exact ⟨_,rfl,p.o,J.o⟩
theorem tO (a b:Nat) (w:R8) (p:a<=1048576) (hb:b<=1048576):Vj 175 #[.agg #[QZ a,QZ b]] w λe o=>Vi e (QZ ((b-a:Nat):Int))/\aq w o:=by
 have hB:aq w (w.alloc (.cells #[QZ a,QZ b] 148)):=(br w).alloc (PV _) _;by_cases h:a<=b
 .have h1:¬((b:Int)-a<0):=ap;have i:((b-a:Nat):Int)=(b:Int)-a:=ap;rw [i];clear i;go_enter func175,ntmps175;go_wp2;go_ret;exact ⟨bE (by first | rfl | omega | (simp;omega)),hB⟩
 .have h1:(b:Int)-a<0:=ap;have i:((b-a:Nat):Int)=0:=ap;rw [i];clear i;go_enter func175,ntmps175;go_wp2;go_ret;exact ⟨bE (by first | rfl | omega | (simp;omega)),hB⟩
theorem HU (i n k V bk:Nat) (w:R8) (hn:Vg w V #[QZ n] 3) (hk:Vg w bk #[QZ k] 3) (h1:1<=k) (h2:k<=1048576) (h3:n<=1048576) (hi:i<=k):Vj 187 #[QZ i,(au V),(au bk)] w λe u=>Vi e (QZ (bdN n k i:Int))/\aq w u:=by
 have tn:=λu q=>bx1 (sb hn u q);have tk:=λu q=>bx1 (sb hk u q);have J:=br w;have a0:¬(k=0):=ap;have x:(n:Int).tdiv (k:Int)=((n/k:Nat):Int):=rfl;have I:(n:Int)/(k:Int)=((n/k:Nat):Int):=rfl;have D:(n:Int).tmod (k:Int)=((n%k:Nat):Int):=rfl;have y:(n:Int)%(k:Int)=((n%k:Nat):Int):=rfl;have H:=fU n k i ap hi;have h:bdN n k i=i*(n/k)+min i (n%k):=rfl;have T:n/k<=n:=Nat.div_le_self _ _;obtain ⟨q,Y⟩:=Vb (n/k);obtain ⟨r,hr⟩:=Vb (n%k);obtain ⟨p,Q⟩:=Vb (i*q);have hm:(i:Int)*(q:Int)=(p:Int):=by rw [<-Q];push_cast;rfl
 rw [Y] at x I h T;rw [hr] at D y h;rw [Q] at h;have Z:p<=1048576:=ap;have R:IntKind.i64.wrap (p:Int)=p:=P3 _ ap;have O:IntKind.i64.wrap (q:Int)=q:=P3 _ ap;obtain ⟨d,U⟩:=Vb (bdN n k i);rw [U] at H h |-;have A:=aa h;clear hn hk Y hr Q U h H;go_enter func187,ntmps187;go_wp2;refine HA.g (λu:R8=>aq w u) ?_;refine HA.t ?_ [0,1,2,3,4,5,6,7,8] J.drew ?_;obtain ⟨v,C⟩:∃v:Nat,min i r=v:=⟨_,rfl⟩;have B:(if r<i then (r:Int) else (i:Int))=(v:Int):=by rw [<-C];split<;>omega
 have N:IntKind.i64.wrap ((p:Int)+(v:Int))=(p:Int)+v:=P3 _ ap;refine HA.t ?_ [9] J.drew ?_;refine HA.t ?_ [10,11] J.drew ?_;refine HA.d ?_;have hB:=J.drew;have L:=aa (show (p:Int)+v=(d:Int) by have:=A.o;omega);clear C B R O N x I D y hm;go_wp2;go_ret;exact ⟨bE L.o,hB⟩
theorem AP (n k:Nat) (w:R8) (h1:1<=k) (h2:k<=1048576) (h3:n<=1048576):Vj 174 #[QZ n,QZ k] w λe u=>∃v,Vi e v/\u.ownsRow w.heap.size 148 2 v k (aS (fT n k))/\aq w u:=by
 have a1:¬((n:Int)<0):=ap;have a6:¬((k:Int)<1):=ap;obtain ⟨p,h⟩:=Vb ((w.alloc (.cells #[QZ n] 3)).alloc (.cells #[QZ k] 3))
 have hn:p.heap[w.heap.size]?=some (.cells #[QZ n] 3 (0,0)):=by
  rw [<-h,Qc _ _ _ V3];exact PW w _
 have hk:p.heap[w.heap.size+1]?=some (.cells #[QZ k] 3 (0,0)):=by
  rw [<-h];have:=PW (w.alloc (.cells #[QZ n] 3)) (.cells #[QZ k] 3);simpa using this
 have H:p.heap.size=w.heap.size+1+1:=by rw [<-h];simp
 have L:aq w p:=by rw [<-h];exact ((br w).alloc (PV _) _).alloc V3 _
 have tn:=λu q=>bx1 (sb hn u q);have tk:=λu q=>bx1 (sb hk u q);have O:=λi u (q:aq p u) (hi:i<=k)=>HU i n k w.heap.size (w.heap.size+1) u (sb hn u q) (sb hk u q) h1 h2 h3 hi;have N:=λi (hi:i<=k)=>fU n k i ap hi;obtain ⟨U,D,a3,T,C⟩:=ah h O N H L;clear h hn hk O N H L;go_enter func174,ntmps174;have q0:=br p;go_wp2_with fail;rw [U.o]
 go_loopw [6,16] (λv x wr=>∃m:Nat,m<=k/\x=QZ m/\wr.ownsRow p.heap.size 148 2 v m (aS ((List.range m).map λi=>(bdN n k i,bdN n k (i+1))))/\aq p wr) (λ_ x _=>k-(intOf x).toNat)
 .exact ⟨0,PZ _,rfl,Qb _ _ _ _,q0⟩
 case round=>
  obtain ⟨m,hm,rfl,J,q⟩:=hrel;by_cases a2:m<k
  .have a4:(m:Int)<k:=ap;obtain ⟨A,c,rfl,_⟩:=aC J;have Q:=aa J;clear J;go_wp2_with fail;refine (D.o m wr q ap).mono ?_;rintro e w1 ⟨rfl,R⟩;have V:=bt q R;have O1:=aa (az Q.o R);have a5:IntKind.i64.wrap ((m:Int)+1)=((m+1:Nat):Int):=by rw [P3 _ ap];push_cast;rfl
   clear R q;go_wp2_with fail;have y:=D.o (m+1) w1 V ap;rw [show ((m+1:Nat):Int)=(m:Int)+1 from by omega] at y;refine y.mono ?_;rintro e w2 ⟨rfl,k2⟩;have q2:=bt V k2;have O2:=aa (az O1.o k2);have Y:=q2.size;clear y k2 V O1 Q;go_wp2_with (at_builtin;refine aV mZ _ rfl (.tmp 19) (.tmp 28) rfl p.heap.size (.slice A m c) m _ rfl O2.o [Vd (bdN n k m),QZ (bdN n k (m+1):Nat)] rfl rfl (cU .i64 [_,_]) ap V2 Y ?_);intro g6 c6 w6 B I a0;have Z:=aa B;have q6:=q2.trans I;clear B I a0 q2;go_wp2;go_roundw
   .exact ⟨m+1,ap,Vc,by rw [uQ,iQ];exact Z.o,q6⟩
   .simp [intOf];omega
  .obtain rfl:k=m:=ap;have Q:=aa (aF (base':=w.heap.size) J (by have:=T.o;omega));have hB:=C.o.trans (q.mono C.o.size);have HB:=aa hB;clear J hB;go_wp2;go_ret;exact ⟨_,rfl,Q.o,HB.o⟩
theorem cZ (l:List Rg) (j:Nat) (h:j<l.length):aK l j=l[j]:=by simp [aK,List.getD,h]
theorem eO {l:List Rg} (h:j<l.length):(aS l)[j*2]?=some (QZ ((aK l j).1:Int))/\(aS l)[j*2+1]?=some (QZ ((aK l j).2:Int)):=nY (by rw [cZ l j h];simp [h])
theorem tQ:∀(l:List Rg) (j:Nat) (r:Rg),((aS l).set (j*2) (QZ (r.1:Int))).set (j*2+1) (QZ (r.2:Int))=aS (l.set j r)
 | [],_,_=>rfl
 | x::l,0,r=>rfl
 | x::l,j+1,r=>by
  have h:=tQ l j r;have e:∀y (m:List Rg),aS (y::m)=QZ (y.1:Int)::QZ (y.2:Int)::aS m:=λy m=>by simp [aS]
  rw [e,Qm,e,<-h,show (j+1)*2=j*2+1+1 by omega,show j*2+1+1+1=(j*2+1)+1+1 by omega];simp only [Qm]
theorem Jm {g c:Nat} {l:List Rg} {e:R9} (h:w.ownsRow base e 2 (Vf g 0 n c) n (aS l)) (j:Nat) (r:Rg): ((w.setCell (ar g (j*2)) (QZ (r.1:Int))).setCell (ar g (j*2+1)) (QZ (r.2:Int))).ownsRow base e 2 (Vf g 0 n c) n (aS (l.set j r)):=by
 have:=((h.stored (j*2) (QZ (r.1:Int))).1.stored (j*2+1) (QZ (r.2:Int))).1
 rwa [tQ] at this
theorem ja {g c:Nat} {l:List Rg} {e:R9} (h:w.ownsRow base e 2 (.slice (some (ar g 0)) n c) n (aS l)) (i:j<n):
  w.cell? (ar g (j*2))=some (QZ ((aK l j).1:Int))/\w.cell? (ar g (j*2+1))=some (QZ ((aK l j).2:Int)):=by
 have hl:=h.1;rw [pK] at hl;have:=eO (l:=l) (j:=j) ap;exact ⟨by rw [h.cellAt _ ap];exact this.1,by rw [h.cellAt _ ap];exact this.2⟩
def qv (l:List Rg) (k:Nat):List Rg:=(List.range l.length).map λt=>if t<k\/l.length-1-t<k then aK l (l.length-1-t) else aK l t
theorem iy (l:List Rg) (k:Nat):(qv l k).length=l.length:=by simp [qv]
theorem nZ {l:List Rg} {t:Nat} (h:t<l.length):aK (qv l k) t=if t<k\/l.length-1-t<k then aK l (l.length-1-t) else aK l t:=by
 rw [cZ _ _ (by rw [iy];exact h)];simp [qv]
theorem Cj {a b:List Rg} (h:a.length=b.length) (hn:∀k,k<a.length->aK a k=aK b k):a=b:=List.ext_getElem h λk h1 i=>by
 have:=hn k h1;rwa [cZ _ _ h1,cZ _ _ i] at this
theorem Fo (l:List Rg):qv l 0=l:=Cj (iy l 0) λk hk=>by
 rw [iy] at hk;rw [nZ hk,if_neg ap]
theorem zn {l:List Rg} {r:Rg} (h:i<l.length):aK (l.set j r) i=if j=i then r else aK l i:=by
 rw [cZ _ _ (by simpa using h),List.getElem_set,cZ _ _ h]
theorem Fp {l:List Rg} (h:2*k+1<l.length):((qv l k).set k (aK (qv l k) (l.length-1-k))).set (l.length-1-k) (aK (qv l k) k)=qv l (k+1):=by
 refine Cj (by simp [iy]) λt u=>?_;have i:t<l.length:=by simpa [iy] using u
 rw [zn (by simpa [iy] using i),zn (by rw [iy];exact i),nZ i,nZ ap,nZ ap,nZ i];by_cases h1:l.length-1-k=t
 .subst h1;rw [if_pos rfl,if_neg ap,if_pos ap,show l.length-1-(l.length-1-k)=k by omega]
 .rw [if_neg h1];by_cases o:k=t
  .subst o;rw [if_pos rfl,if_neg ap,if_pos ap]
  .rw [if_neg o];by_cases p:t<k\/l.length-1-t<k
   .rw [if_pos p,if_pos ap]
   .rw [if_neg p,if_neg ap]
theorem Jr {l:List Rg} (h:l.length<=2*k+1):qv l k=l.reverse:=by
 refine Cj (by simp [iy]) λt o=>?_;have i:t<l.length:=by simpa [iy] using o
 rw [nZ i,cZ l.reverse t (by simpa using i),List.getElem_reverse,<-cZ l _ ap];by_cases h1:t<k\/l.length-1-t<k
 .rw [if_pos h1]
 .rw [if_neg h1,show l.length-1-t=t by omega]
theorem Jp (A:N_) (l:List Rg) (n c base:Nat) (w:R8) (ho:w.ownsRow base 148 2 (.slice A n c) n (aS l)) (hn:l.length=n) (hl:n<=1048576):Vj 159 #[.slice A n c] w λe v=>Vi e (.tuple #[])/\v.ownsRow base 148 2 (.slice A n c) n (aS l.reverse)/\Keep (λj=>(Value.slice A n c).ownBlock=some j) w v:=by
 have h0:w.ownsRow base 148 2 (.slice A n c) n (aS (qv l 0)):=by rw [Fo];exact ho
 have x:=λk (h:2*k+1<n)=>Fp (l:=l) (k:=k) ap;have u:=λk (h:n<=2*k+1)=>Jr (l:=l) (k:=k) ap;rw [hn] at x;obtain ⟨H0,Q,H,Hn⟩:=ag h0 x u hn;clear ho h0 x u hn;go_enter func159,ntmps159;go_wp2
 go_loopw [2,3] (λi j wr=>∃k:Nat,2*k<=n+1/\i=QZ k/\j=QZ ((n:Int)-1-k)/\wr.ownsRow base 148 2 (.slice A n c) n (aS (qv l k))/\Keep (λj=>(Value.slice A n c).ownBlock=some j) w wr) (λi _ _=>n-(intOf i).toNat)
 .exact ⟨0,ap,rfl,Vc,H0.o,Keep.refl _ _⟩
 case round=>
  obtain ⟨k,hk,rfl,rfl,hr,J⟩:=hrel;by_cases O:2*k+1<n
  .obtain ⟨g,rfl⟩:∃g,A=some (ar g 0):=by
    obtain ⟨g,e,hv,_⟩:=hr.form ap;simp only [QH] at hv;exact ⟨g,hv.1⟩
   have L:=ja hr (show k<n by omega);have C:=ja hr (show n-1-k<n by omega);have f1:=λj=>hr.frozenAt j;have D:(k:Int)<(n:Int)-1-k:=ap;have N:(n:Int)-1-k=((n-1-k:Nat):Int):=ap;have V:n-1-k<n:=ap;have a0:k<n:=ap;have T:n-1-k≠k:=ap;have B:¬((n-1-k)*2=k*2)/\¬((n-1-k)*2=k*2+1)/\¬((n-1-k)*2+1=k*2)/\¬((n-1-k)*2+1=k*2+1):=ap;obtain ⟨R,y⟩:∃r,aK (qv l k) k=r:=⟨_,rfl⟩;obtain ⟨Z,p⟩:∃r,aK (qv l k) (n-1-k)=r:=⟨_,rfl⟩;obtain ⟨j,I⟩:=Vb (n-1-k);have hs:=Q.o k O;rw [y,p] at hs;rw [y] at L;rw [p] at C;rw [I] at C N V T B hs;rw [N] at D |-;obtain ⟨U,Y,Hj,Hs⟩:=ag hr J N hs;clear hr J N I hs y p;go_wp2;refine XA.g 13 (λv:R8=>(Vh v g (k*2) (QZ (R.1:Int))/\Vh v g (k*2+1) (QZ (R.2:Int)))/\(Vh v g (j*2) (QZ (Z.1:Int))/\Vh v g (j*2+1) (QZ (Z.2:Int)))) ?_;refine XA.t0 ?_ [0,1,2,3,4,5,6,8,9,10] ⟨L,C⟩ ?_;refine XA.t ?_ [7,11] ⟨L,C⟩ ?_;refine XA.t0 ?_ [12] ⟨L,C⟩ ?_;refine XA.e ?_;simp only [Qq,Qs];go_wp2;go_roundw
   .exact ⟨k+1,ap,Vc,by have:=Hj.o;go_num,by rw [<-Hs.o];exact Jm (Jm U.o k Z) j R,Keep.setCell (S:=λj=>(Vf g 0 n c).ownBlock=some j) (Keep.setCell (S:=λj=>(Vf g 0 n c).ownBlock=some j) (Keep.setCell (S:=λj=>(Vf g 0 n c).ownBlock=some j) (Keep.setCell (S:=λj=>(Vf g 0 n c).ownBlock=some j) Y.o.drew (ar g (k*2)) (.inr rfl) _) (ar g (k*2+1)) (.inr rfl) _) (ar g (j*2)) (.inr rfl) _) (ar g (j*2+1)) (.inr rfl) _⟩
   .simp [intOf];omega
  .have D:¬((k:Int)<(n:Int)-1-k):=ap;have p:=H.o k ap;rw [p] at hr;obtain ⟨U,Y⟩:=ae hr J;clear hr J p;go_wp2
   go_end0
   exact ⟨rfl,U.o,Y.o⟩
theorem Be (n s:Nat) (w:R8) (hn:n<=1048576) (hs:1<=s) (B:s<=1048576):Vj 124 #[QZ n,QZ s] w λe i=>∃v,Vi e v/\i.ownsRow w.heap.size 148 2 v (pZ n s).length (aS (pZ n s))/\aq w i:=by
 have hb:=m6 n s w hn hs B;have hl:=gj n s;rw [<-rG,<-fj] at hb;have h:=js n s;rw [fj] at hb;rw [h];have p:=λ(A:N_) c base i (L:i.ownsRow base 148 2 (.slice A (di n s) c) (di n s) (aS (fp n s)))=>Jp A (fp n s) (di n s) c base i L (fj n s) ap;obtain ⟨O,x⟩:=ae hb p;clear hb p h hl;go_enter func124,ntmps124;go_wp2_with fail;refine O.o.mono ?_;rintro e I ⟨v,rfl,C,u⟩;obtain ⟨A,c,rfl,_⟩:=aC C;have y:=aa C;clear C;go_wp2_with fail;refine (x.o A c _ I y.o).mono ?_;rintro e Q ⟨rfl,H,D⟩;have hB:=u.trans (D.toBelow u.size (λj N=>(y.o.lt j N).1));have J:=aa H;clear H u D y;go_wp2;go_ret;exact ⟨_,rfl,J.o,hB⟩
theorem CT (n s:Nat) (w:R8) (hn:n<=1048576) (hs:1<=s) (h:s<=1048576):Vj 125 #[QZ n,QZ s] w λe i=>∃v,Vi e v/\i.ownsRow w.heap.size 148 2 v (fp n s).length (aS (fp n s))/\aq w i:=by
 have hb:=m6 n s w hn hs h;rw [<-rG,<-fj] at hb;have y:=aa hb;clear hb;go_enter func125,ntmps125;go_wp2_with fail;refine y.o.mono ?_;rintro e A ⟨v,rfl,p,u⟩;have x:=aa p;clear p;go_wp2;go_ret;exact ⟨_,rfl,x.o,u⟩
end
section
open Go.RowKit Go.Shelf
attribute [local go_sem] Oper.semAt_some
theorem tE (P:Program) (w:R8) (a:Addr) (i:Fn) (h ca:R6) (m:Mode):(store a (.func i h ca) m).run P w=stored P w a (.func i h ca) m:=run_store P w a _ m rfl
attribute [local go_sem] tE
structure lC (w:R8) (L S B:Nat) (A:N_) (rs:List Rg) (c d:Nat) (tf:R9):Prop where
 l:w.heap[L]?=some (.cells #[.slice A rs.length c] 170 (0,0))
 s:w.heap[S]?=some (.cells #[.func (.func 185) #[] #[(au B)]] tf (0,0))
 b:w.heap[B]?=some (.cells #[QZ d] 3 (0,0))
 r:Rd w A (aS rs)
theorem lC.below {i:R8} {S:Nat} {rs:List Rg} {c d:Nat} {o:R9} (h:lC w L S B A rs c d o) (hb:aq w i):lC i L S B A rs c d o:=
 ⟨sb h.l _ hb,sb h.s _ hb,sb h.b _ hb,h.r.below hb⟩
theorem CQ (lo h d B:Nat) (w:R8) (hB:Vg w B #[QZ d] 3) (h1:lo<=1048576) (C:h<=1048576) (D:d<=1048576):Vj 185 #[.agg #[QZ lo,QZ h],(au B)] w λe A=>Vi e (.agg #[QZ ((lo+d:Nat):Int),QZ ((h+d:Nat):Int)])/\aq w A:=by
 have hb:=bx1 hB;have hl:=PU hB;have o:((lo+d:Nat):Int)=(lo:Int)+d:=ap;have y:((h+d:Nat):Int)=(h:Int)+d:=ap;rw [o,y];clear o y hB;go_enter func185,ntmps185;go_wp2_with fail;have o:=PW (w.alloc (.cells #[QZ lo,QZ h] 148)) (.cells #[QZ ((lo:Int)+d),QZ ((h:Int)+d)] 148);obtain ⟨u,i⟩:∃u,u=(w.alloc (.cells #[QZ lo,QZ h] 148)).alloc (.cells #[QZ ((lo:Int)+d),QZ ((h:Int)+d)] 148):=⟨_,rfl⟩;have p:aq w u:=by rw [i];exact ((PY _ w).alloc (PV _) _).alloc V3 _
 rw [<-i,Qg] at o;rw [<-i];have x:=bx2 o;exact Qd (v:=.agg #[QZ ((lo:Int)+d),QZ ((h:Int)+d)]) (by simp [results,results185,go_sem,x]) rfl ⟨rfl,p⟩
def DN (r:Rg):R6:=#[.agg #[QZ (r.1:Int),QZ (r.2:Int)]]
theorem ED {α:Type} {l:List α} {x:α} (h:l[k]?=some x):l.take (k+1)=l.take k++[x]:=by
 rw [List.take_add_one,h];rfl
theorem wW (A:N_) (rs:List Rg) (c d:Nat) (w:R8) (hr:Rd w A (aS rs)):Vj 173 #[.slice A rs.length c,QZ d] w λe u=>∃L S B,Vi e (.func (.func 186) #[] #[(au L),(au S)])/\lC u L S B A rs c d 302/\(w.heap.size<=L/\(Ve w)<=S/\(Ve w)<=B)/\aq w u:=by
 obtain ⟨n,hn⟩:∃n,n=rs.length:=⟨_,rfl⟩;rw [<-hn];obtain ⟨H,D⟩:=ae hn hr;clear hn hr;go_enter func173,ntmps173;go_wp2_with fail;have a1:=PW w (.cells #[.slice A n c] 170);have p:aq w (w.alloc (.cells #[.slice A n c] 170)):=(PY _ w).alloc (PV _) _;have s1:=Qg w (.cells #[.slice A n c] 170);generalize w.alloc (.cells #[.slice A n c] 170)=W1 at *;have x:=PW W1 (.cells #[QZ d] 3);have y:aq W1 (W1.alloc (.cells #[QZ d] 3)):=(PY _ W1).alloc (PV _) _;have s2:=Qg W1 (.cells #[QZ d] 3);generalize W1.alloc (.cells #[QZ d] 3)=W2 at *;have C:=PW W2 (.cells #[.func (.func 185) #[] #[(au (Ve w+1))]] 302);have b3:aq W2 (W2.alloc (.cells #[.func (.func 185) #[] #[(au (Ve w+1))]] 302)):=(PY _ W2).alloc (PV _) _;generalize W2.alloc (.cells #[.func (.func 185) #[] #[(au (Ve w+1))]] 302)=W3 at *;have i:=y.trans (b3.mono y.size);have h:=p.trans (i.mono p.size);rw [s2,s1] at C;rw [s1] at x
 exact Qd (v:=.func (.func 186) #[] #[(au (Ve w)),(au (Ve w+1+1))]) (by simp [results,results173,go_sem]) rfl
  ⟨Ve w,Ve w+1+1,Ve w+1,rfl,⟨by rw [<-H.o];exact sb a1 _ i,C,sb x _ b3,D.o.below h⟩,⟨PV _,ap,ap⟩,h⟩
theorem GC (n l L S B:Nat) (A:N_) (rs:List Rg) (c d:Nat) (Kp:R8->R8->Prop) (U:∀W C,lC W L S B A rs c d 302->Kp W C->lC C L S B A rs c d 302) (y:rs.length<=1048576) (hd:d<=1048576) (a5:∀r∈rs,r.1<=1048576/\r.2<=1048576) (J Jx:List Rg->R8->Prop) (Bx:Nat) (hJ:AbidesFrom Bx J) (hY:∀p x W,J p W->x∈shR d rs->p.length<rs.length->YieldAt Fence.wide (n-1) prog l (DN x) W λe C=> (Vi e (.bool true)/\J (p++[x]) C/\Kp W C)\/(Vi e (.bool false)/\Jx (p++[x]) C)) (W:R8) (hA:lC W L S B A rs c d 302) (h0:J [] W):
  CallsIn Fence.wide n prog 186 #[.func (.yield l) #[] #[],(au L),(au S)] W λe C=>(∃v,Vi e v)/\
   ((∃ys,ys=shR d rs/\J ys C)\/(∃p,True/\Jx p C)):=by
 have xL:=bx1 hA.l;obtain ⟨N,Q⟩:∃N,N=rs.length:=⟨_,rfl⟩;rw [<-Q] at hY y xL;obtain ⟨R,HA,HK⟩:=af Q hA U;clear Q hA U;refine callsIn_of_wp func186 rfl trivial ?_ rfl;simp only [ntmps186,List.size_toArray,List.length_cons,List.length_nil,Nat.reduceAdd,Nat.reduceSub,Array.replicate_succ,Array.replicate_zero,List.push_toArray,List.append_toArray,List.nil_append,List.cons_append]
 gi_wp2
 gi_loopw [8] (λi wr=>∃k:Nat,k<=N/\i=QZ k/\J ((shR d rs).take k) wr/\lC wr L S B A rs c d 302) (λi _=>N-(intOf i).toNat)
 .exact ⟨0,PZ _,rfl,h0,HA.o⟩
 case round=>
  obtain ⟨k,hk,rfl,u,hL⟩:=hrel;clear xL h0 HA W;by_cases a4:k<N
  .obtain ⟨r,hr⟩:∃r,rs[k]?=some r:=⟨_,Qv (by rw [<-R.o];exact a4)⟩;have T:=a5 r (List.mem_of_getElem? hr);have H:=nY hr;obtain ⟨g,o,rfl,c0⟩:=hL.r _ _ H.1;obtain ⟨g',o',e',c1⟩:=hL.r _ _ H.2;obtain ⟨rfl,rfl⟩:g'=g/\o'=o:=by simpa using e'.symm
   rw [<-QO] at c1;have xS:=bx1 hL.s;have lS:=aB xS.1;obtain ⟨O,Hr,HL⟩:=af u hr hL;clear u hr H e' hL;have y:((shR d rs).take k).length<N:=by rw [Qy,mA];omega
   have hx:(shR d rs)[k]?=some (r.1+d,r.2+d):=by simp [shR,Hr.o]
   have Hx:=aa hx;have qa:aq wr (wr.alloc (.cells #[QZ (r.1:Int),QZ (r.2:Int)] 148)):=(PY _ wr).alloc (PV _) _;clear hx
   gi_wp2_with fail
   refine ⟨trivial,(λh=>by cases h),?_⟩;refine (callsIn_wide.2 (CQ r.1 r.2 d B _ (HL.o.below qa).b T.1 T.2 hd)).mono ?_;rintro e w3 ⟨rfl,a1⟩;have I:=qa.trans (a1.mono qa.size);have a0:=hJ _ _ _ none O.o (mW I) (λ_ h=>by cases h);obtain ⟨fn,tmps,a2,a8,hy,hR⟩:=hY _ (r.1+d,r.2+d) w3 a0 (List.mem_of_getElem? Hx.o) y;unfold DN at hy;dsimp only at hy;rw [Int.natCast_add,Int.natCast_add] at hy;have a3:=aa (HL.o.below I);clear a0 a1 I qa xS lS c0 c1
   gi_wp2
   refine ⟨(λh=>by cases h),?_⟩;refine hR.mono ?_;rintro e w5 (⟨rfl,V,Z⟩ | ⟨rfl,Y⟩)
   .obtain ⟨a7,a6⟩:=ae V Z;clear V Z
    gi_wp2
    go_roundw
    .exact ⟨k+1,ap,Vc,by rw [ED Hx.o];exact a7.o,HK.o _ _ a3.o a6.o⟩
    .simp [intOf];omega
   .gi_wp2
    refine Qd (results_none rfl _ _ _) rfl ?_;exact ⟨⟨_,rfl⟩,.inr ⟨_,trivial,Y⟩⟩
  .obtain rfl:k=N:=ap;have D:(shR d rs).take k=shR d rs:=List.take_of_length_le (by rw [mA,R.o];exact PV _);rw [D] at u;have O:=aa u;clear u D
   gi_wp2
   go_end0
   exact ⟨⟨_,rfl⟩,.inl ⟨_,rfl,O.o⟩⟩
structure Kd (n₁ n₂:Nat) (W W':R8):Prop where
 size:W.heap.size<=W'.heap.size
 block:∀k,n₁<=k->k<n₂->W'.heap[k]?=W.heap[k]?
theorem Kd.trans {o:Nat} {A B:R8} (h:Kd i o A B) (k:Kd i o B C):Kd i o A C:=⟨P4 h.size k.size,λj h1 p=>(k.block j h1 p).trans (h.block j h1 p)⟩
theorem PH {v u:Nat} (hn:u<=w.heap.size) (W:R8) (l:Nat) (o i:Obj) (hl:w.heap.size<=l) (h:W.heap[l]?=some o) (h1:o.isCells=false) (p:o.isWalk=false):Kd v u W (W.putObj l i):=
 ⟨(belowK_b hn W l o i hl h h1 p).size,λk _ hk=>(belowK_b hn W l o i hl h h1 p).block k hk⟩
theorem AB {p:Nat} {o:R8} (h:Below i W o):Kd p i W o:=⟨h.size,λk _ hk=>h.block k hk⟩
structure Ii (n₁ n₂ L S B:Nat) (A:N_):Prop where
 l:n₁<=L/\L<n₂
 s:n₁<=S/\S<n₂
 b:n₁<=B/\B<n₂
 a:∀x,A=some x->n₁<=x.block/\x.block<n₂
theorem lC.kd {p:Nat} {v:R8} {S:Nat} {rs:List Rg} {c d:Nat} {u:R9} (h:lC W L S B A rs c d u) (hb:Ii p i L S B A) (k:Kd p i W v):lC v L S B A rs c d u:=
 ⟨(k.block _ hb.l.1 hb.l.2).trans h.l,(k.block _ hb.s.1 hb.s.2).trans h.s,(k.block _ hb.b.1 hb.b.2).trans h.b,λj x y=>by
  obtain ⟨b,o,e,hc⟩:=h.r j x y;refine ⟨b,o,e,?_⟩;have:=hb.a _ e;rw [World.cell?] at hc |-;rw [k.block b this.1 this.2]
  exact hc⟩
theorem Az (n v u L S B:Nat) (A:N_) (rs:List Rg) (c d:Nat) (w:R8) (hA:lC w L S B A rs c d 302) (hB:Ii v u L S B A) (i:rs.length<=1048576) (y:d<=1048576) (o:∀r∈rs,r.1<=1048576/\r.2<=1048576):
  SeqStopsK Fence.wide n prog 186 #[(au L),(au S)] DN (Kd v u) (λys=>ys=shR d rs) (λ_=>True) rs.length w:=λl J I W C D _ N H=>
 GC n l L S B A rs c d (Kd v u) (λ_ _ h k=>h.kd hB k) i y o J I _ D (λp x W h _=>N p x W h) W (hA.below C) H
theorem kl {e:R9} {c:Nat} (h:w.ownsRow base e size (.slice A n c) n xs):∀x,A=some x->base<=x.block/\x.block<w.heap.size:=λx o=>by
 rcases h.2 with ⟨i,_⟩ | ⟨g,cap,p,i,hb,hg,_⟩
 .simp only [QH] at i;rw [o] at i;cases i.1
 .simp only [QH] at i;rw [o] at i;cases i.1;exact ⟨hb,PU hg⟩
attribute [local go_sem] Oper.semAt_some
theorem zm (l:List Rg) (x:Rg):aS (l++[x])=aS l++[QZ (x.1:Int),QZ (x.2:Int)]:=by simp [aS]
theorem LM (L S B:Nat) (A:N_) (rs:List Rg) (c d:Nat) (w:R8) (hA:lC w L S B A rs c d 302) (hB:Ii 0 (Ve w) L S B A) (N:rs.length<=1048576) (hd:d<=1048576) (V:∀r∈rs,r.1<=1048576/\r.2<=1048576):Vj 198 #[Ra,.func (.func 186) #[] #[(au L),(au S)]] w λe w'=>∃v,Vi e v/\w'.ownsRow w.heap.size 148 2 v rs.length (aS (shR d rs))/\aq w w':=by
 have I:=λn=>Az n 0 (Ve w) L S B A rs c d w hA hB N hd V;have U:=aa I;clear I;refine (callsIn_wide (n:=3)).1 ?_;refine callsIn_of_wp_marks func198 rfl trivial ?_ rfl;simp only [ntmps198,List.size_toArray,List.length_cons,List.length_nil,Nat.reduceAdd,Nat.reduceSub,Array.replicate_succ,Array.replicate_zero,List.push_toArray,List.append_toArray,List.nil_append,List.cons_append]
 gi_wp2_with fail
 have y:aq w (w.alloc (.cells #[Ra] 170)):=(PY _ w).alloc (PV _) _
 refine' wpIn_rangeFunc_ownH (F:=Fence.wide) (n:=3) rfl ap (gf:=186) (lb:=#[(au L),(au S)]) rfl trivial (enters_of func186 V1 rfl)
  (U.o _) Kd.trans (PH y.size) y (λ_=>rfl)
  (λ(p:List Rg) W=>(∃v,Boxed W (Ve w) 170 v/\W.ownsRow w.heap.size 148 2 v p.length (aS p)/\True)/\aq w W)
  (λ_ _ _=>False)
  (OwnFrom.and (Own.from (holdsRow_own (Ve w) (Ve w) 170 148 2 (λp:List Rg=>p.length) (λp=>aS p) (λ_ _=>True)) _) (ownFrom_below (PV _) y.size))
  (λ_ _ _ _ _ hs _ _=>hs)
  ⟨⟨_,Boxed.new w 170 (Ra),Qb _ _ _ _,trivial⟩,y⟩
  (λ(x:Rg) Y W=>∃b,Y={tmps:=#[Ra,.func (.func 186) #[] #[(au L),(au S)],(au (Ve w)),undef,Ra,(au b),.func (.func 186) #[] #[(au L),(au S)],.agg #[QZ (x.1:Int),QZ (x.2:Int)],undef,undef,undef,undef,undef],defers:=[]}/\Vg W b #[QZ (x.1:Int),QZ (x.2:Int)] 148)
  (λx Y _ W W' row h hg hr=>by obtain ⟨b,e,hb⟩:=h;exact ⟨b,e,gH _ b _ rfl () W W' row hb hg hr⟩)
  ?assign ?body ?done ?stop
 case assign=>
  rintro l p x W K ⟨⟨v,C,i,_⟩,u⟩ J;unfold DN;have R:aq W (W.alloc (.cells #[QZ (x.1:Int),QZ (x.2:Int)] 148)):=(PY _ W).alloc (PV _) _
  gi_wp2
  refine J _ _ ((KeepsOthers.of_grownBy (row:=none) (mW R) (λ_ _ h=>by cases h)).from _) (AB (R.mono u.size)) ⟨⟨v,C.alloc _,i.alloc _,trivial⟩,u.trans (R.mono u.size)⟩ ⟨_,rfl,PW _ _⟩
 case body=>
  rintro l p x Y W _ _ ⟨⟨v,C,i,_⟩,u⟩ ⟨b,rfl,hb⟩ H;have hc:=C.cell;have hW:=u.size;have a0:=aB hc;have xb:=bx2 hb;have lb:=PU hb;have R:aq W (W.alloc (.cells #[QZ (x.1:Int),QZ (x.2:Int)] 148)):=(PY _ W).alloc (PV _) _;obtain ⟨Hv,O,Z,Q,HW⟩:=ah C i u H hW;clear C i u H hW hb
  gi_wp2_with (gi_at_builtin;refine oZ mZ W rfl (.tmp 8) (.tmp 10) rfl (Ve w) (Ve w) v p.length _ rfl Hv.o V0 O.o [QZ (x.1:Int),QZ (x.2:Int)] rfl rfl V5 (by have:=Q.o;omega) (by have:=Q.o;unfold maxLen;omega) HW.o (PV _) ?_)
  intro g1 c1 w1 T k2 k3 k4 k5 k6;have a2:=T.cell;have a1:=T.frozen;obtain ⟨K2,K3,K4,K5⟩:=ag k2 k3 k4 k5;clear T k2 k3 k4 k5 k6 hc xb
  gi_wp2_with fail
  exact ⟨K4.o.from _,AB K5.o,⟨⟨_,K2.o,by rw [Qt,zm];exact K3.o,trivial⟩,Z.o.trans K5.o⟩⟩
 case done=>
  rintro D ys W hD rfl ⟨⟨v,C,i,_⟩,u⟩ J;have hc:=C.cell
  gi_wp2
  refine ⟨by simp,.inl ⟨_,_,rfl,run_takeDeferred J,?_⟩⟩;rw [mA] at i;refine ⟨v,by simp [results,results198,go_sem],v,rfl,ownsRow_putObj i _ J rfl,u.trans (belowK_b (w:=w) (PV _) W D _ _ (by simp at hD;omega) J rfl rfl)⟩
 case stop=>
  rintro D c p W _ _ h _;exact h.elim
theorem AZ (L S B:Nat) (A:N_) (rs:List Rg) (c d:Nat) (w:R8) (hA:lC w L S B A rs c d 302) (hB:Ii 0 (Ve w) L S B A) (i:rs.length<=1048576) (u:d<=1048576) (p:∀r∈rs,r.1<=1048576/\r.2<=1048576):Vj 197 #[.func (.func 186) #[] #[(au L),(au S)]] w λe x=>∃v,Vi e v/\x.ownsRow w.heap.size 148 2 v rs.length (aS (shR d rs))/\aq w x:=by
 have h:=LM L S B A rs c d w hA hB i u p;have H:=aa h;clear h hA hB i u p;go_enter func197,ntmps197;go_wp2_with fail;refine H.o.mono ?_;rintro e I ⟨v,rfl,y,C⟩;have D:=aa y;clear y;go_wp2;go_ret;exact ⟨_,rfl,D.o,C⟩
end
section
open Go.RowKit
theorem AQ (h1:1<=k) (hn:n<=1048576):∀r∈fT n k,r.1<=1048576/\r.2<=1048576:=by
 intro r hr;simp only [fT,List.mem_map,List.mem_range] at hr;obtain ⟨i,h,rfl⟩:=hr;have a:=fU n k i h1 ap;have b:=fU n k (i+1) h1 ap;exact ⟨by simp only;omega,by simp only;omega⟩
theorem El {s:Nat} (hn:n<=1048576):∀r∈fp n s,r.1<=1048576/\r.2<=1048576:=by
 intro r hr;simp only [fp,List.mem_map,List.mem_range] at hr;obtain ⟨i,h,rfl⟩:=hr;have:=iH h;exact ⟨by simp only;omega,by simp only;omega⟩
theorem IX (lo h k:Nat) (w:R8) (h1:1<=k) (h2:k<=1048576) (h3:lo<=1048576) (h4:h<=1048576):Vj 189 #[.agg #[QZ lo,QZ h],QZ k] w λe y=>∃v,Vi e v/\y.ownsRow w.heap.size 148 2 v k (aS (dy (lo,h) k))/\aq w y:=by
 obtain ⟨u,i⟩:=Vb (w.alloc (.cells #[QZ lo,QZ h] 148));have h0:Vg u (Ve w) #[QZ lo,QZ h] 148:=by rw [<-i];exact PW w _
 have D:aq w u:=by rw [<-i];exact (br w).alloc (PV _) _
 have t0:=λy q=>bx2 (sb h0 y q);obtain ⟨N,p⟩:=ae i D;clear i h0 D;have R:an (dy (lo,h) k=shR lo (fT (h-lo) k)):=aa rfl;go_enter func189,ntmps189;have Z:=br u;go_wp2_with fail;rw [N.o];refine HA.g (λy:R8=>aq u y) ?_;refine HA.t ?_ [0,2,4,5] Z.drew ?_;refine HA.c 1 (tO lo h _ h3 h4) ?_;rintro e w1 ⟨rfl,Y⟩;have Q:=bt Z.drew Y;refine ⟨_,rfl,Q,λ_=>?_⟩;refine HA.c 3 (AP (h-lo) k _ h1 h2 ap) ?_;rintro e w2 ⟨v2,rfl,I,k2⟩;obtain ⟨A,c,rfl,_⟩:=aC I;have U:=bt Q k2;have hl:=wW A (fT (h-lo) k) c lo w2 (Rd.own I);rw [gh] at hl;refine ⟨_,rfl,U,λ_=>?_⟩;refine HA.c 6 hl ?_;rintro e w3 ⟨L,S,B,rfl,hA,V,O⟩;have C:Ii 0 (Ve w3) L S B A:=⟨⟨PZ _,PU hA.l⟩,⟨PZ _,PU hA.s⟩,⟨PZ _,PU hA.b⟩,λx hx=>⟨PZ _,P6 (kl I x hx).2 O.size⟩⟩;clear V;have H:=bt U O;refine ⟨_,rfl,H,λ_=>?_⟩;refine HA.c 7 (AZ L S B A _ c lo w3 hA C (by rw [gh];exact h2) h3 (AQ h1 ap)) ?_;rintro e w4 ⟨v4,rfl,T,k4⟩;have J:=bt H k4;refine ⟨_,rfl,J,λ_=>?_⟩;refine HA.t ?_ [8] J ?_;refine HA.d ?_;have hB:=aa (p.o.trans (J.mono p.o.size));rw [gh,<-R.out] at T;have O4:=aa (aF (base':=Ve w) T (P4 p.o.size H.size));clear T I hl hA C Y k2 O k4 Q U H J t0;go_wp2;go_ret;exact ⟨_,rfl,O4.o,hB.o⟩
theorem Bb (lo h k:Nat) (w:R8) (h1:1<=k) (h2:k<=1048576) (h3:lo<=1048576) (h4:h<=1048576):Vj 190 #[.agg #[QZ lo,QZ h],QZ k] w λe C=>∃v,Vi e v/\C.ownsRow w.heap.size 148 2 v (chR (lo,h) k).length (aS (chR (lo,h) k))/\aq w C:=by
 obtain ⟨y,i⟩:=Vb (w.alloc (.cells #[QZ lo,QZ h] 148));have h0:Vg y (Ve w) #[QZ lo,QZ h] 148:=by rw [<-i];exact PW w _
 have H:aq w y:=by rw [<-i];exact (br w).alloc (PV _) _
 have t0:=λC q=>bx2 (sb h0 C q);obtain ⟨T,u⟩:=ae i H;clear i h0 H;have I:an (chR (lo,h) k=shR lo (fp (h-lo) k)):=aa rfl;go_enter func190,ntmps190;have q0:=br y;go_wp2_with fail;rw [T.o];refine HA.g (λC:R8=>aq y C) ?_;refine HA.t ?_ [0,2,4,5] q0.drew ?_;refine HA.c 1 (tO lo h _ h3 h4) ?_;rintro e w1 ⟨rfl,k1⟩;have V:=bt q0.drew k1;refine ⟨_,rfl,V,λ_=>?_⟩;have p:=m6 (h-lo) k w1 ap h1 h2;have N:=gj (h-lo) k;rw [<-rG,<-fj] at p;rw [<-fj] at N;refine HA.c 3 p ?_;rintro e w2 ⟨v2,rfl,Q,k2⟩;obtain ⟨A,c,rfl,_⟩:=aC Q;have Z:=bt V k2;have hl:=wW A (fp (h-lo) k) c lo w2 (Rd.own Q);refine ⟨_,rfl,Z,λ_=>?_⟩;refine HA.c 6 hl ?_;rintro e w3 ⟨L,S,B,rfl,hA,a0,U⟩;have D:Ii 0 (Ve w3) L S B A:=⟨⟨PZ _,PU hA.l⟩,⟨PZ _,PU hA.s⟩,⟨PZ _,PU hA.b⟩,λx hx=>⟨PZ _,P6 (kl Q x hx).2 U.size⟩⟩;clear a0;have O:=bt Z U;refine ⟨_,rfl,O,λ_=>?_⟩;refine HA.c 7 (AZ L S B A _ c lo w3 hA D ap h3 (El ap)) ?_;rintro e w4 ⟨v4,rfl,Y,k4⟩;have R:=bt O k4;refine ⟨_,rfl,R,λ_=>?_⟩;refine HA.t ?_ [8] R ?_;refine HA.d ?_;have hB:=aa (u.o.trans (R.mono u.o.size));have J:(chR (lo,h) k).length=(fp (h-lo) k).length:=by rw [I.out,mA]
 rw [<-I.out,<-J] at Y;have O4:=aa (aF (base':=Ve w) Y (P4 u.o.size O.size));clear Y Q hl hA D p N J k1 k2 U k4 V Z O R t0;go_wp2;go_ret;exact ⟨_,rfl,O4.o,hB.o⟩
end
section
open Go.RowKit Go.Shelf
theorem x6 {l:Nat} {row:String} {args:R6} {R:Value->R8->Prop} (h:Rows P row args w R):RowsIn (Fence.wide.inRound l) n P row args w R:=
 λc i _=>let ⟨v,w',r,s⟩:=h c i;⟨v,w',r,(stepsIn_wide (P:=P)).2 s⟩
theorem yi {l:Nat} {o:Oper} (i:∀c,o.op≠.defer c) (h:o.wp P a w K Q):o.wpIn (Fence.wide.inRound l) n P a w K Q:=by
 unfold Oper.wp at h;unfold Oper.wpIn;refine ⟨λ_ _=>trivial,?_⟩;rw [Oper.semAt_plain _ _ _ i];generalize (execOp a.eval o).run P w=r at *
 cases r with
 | ok x w'=>
  cases x<;>simp only [Oper.upon,Oper.uponIn] at h |-<;>
   first
    | exact h
    | exact ⟨λp=>(by cases p),CallsIn.inRound l (callsIn_wide.2 h)⟩
    | exact ⟨λp=>(by cases p),x6 h⟩
    | exact h.elim
 | halt x w'=>cases x<;>simp only [Oper.upon,Oper.uponIn] at h |-<;>exact h
theorem xE {l:Nat} (v:∀(i:Nat) (o:Oper),ops[i]?=some o->∀c,o.op≠.defer c) (u:¬LetsOut Q) (h:wpOp P ops Q i K a w):wpOpIn (Fence.wide.inRound l) n P ops Q i K a w:=by
 unfold wpOp at h;unfold wpOpIn
 split at h
 .rename_i p;simp only [p];exact h
 .rename_i o p
  simp only [p]
  split at h
  .rename_i hw
   rw [if_pos hw];rcases h with h | ⟨_,h⟩
   .exact yi (v i o p) h
   .exact absurd h u
  .rename_i hw
   rw [if_neg hw];exact ⟨λ_ _=>trivial,h⟩
theorem pd {l:Nat} (x:∀(i:Nat) (o:Oper),ops[i]?=some o->∀c,o.op≠.defer c) (v:¬LetsOut Q):∀(p:Nat) (u:Array Bool) (a:Ro) (w:R8),
  wpAny P y ops Q p u a w->wpAnyIn (Fence.wide.inRound l) n P y ops Q p u a w
 | 0,_,_,_,h=>h
 | p+1,_,_,_,h=>⟨h.1,λi D=>wpOpIn_mono (λC B A=>pd x v p _ C B A) (xE x v (h.2 i D))⟩
def PT:Op->Bool
 | .defer _=>true
 | _=>false
theorem MO (h:ops.all (λo=> !PT o.op)=true):∀(i:Nat) (o:Oper),ops[i]?=some o->∀c,o.op≠.defer c:=λi o p c e=>by
 have:=(Array.all_eq_true.1 h) i (Array.getElem?_eq_some_iff.1 p).1;rw [(Array.getElem?_eq_some_iff.1 p).2,e] at this
 cases this
theorem nl {l:Nat} (S:R8->Prop) (hm:P.follows .mixedOrders=true) (i:ops.all (λo=> !PT o.op)=true) (p:¬LetsOut Q) (h:wpAnyH P .any ops Q S ops.size (Array.replicate ops.size false) a w.drew):(Code.region id ops true).wpIn (Fence.wide.inRound l) n P Q a w:=
 wpIn_region_any hm (pd (MO i) p _ _ _ _ (wpAny_of_held _ _ _ _ h))
attribute [local go_sem] Oper.semAt_some
theorem yE (s:Rg) (c:Nat):(chR s c).length=di (s.2-s.1) c:=by rw [chR,mA,fj]
theorem Mq {b:Rg} (h1:1<=k) (h:b.1<=1048576) (hb:b.2<=1048576):∀r∈dy b k,r.1<=1048576/\r.2<=1048576:=by
 intro r hr;simp only [dy,shR,fT,List.map_map,List.mem_map,List.mem_range,Function.comp] at hr;obtain ⟨i,o,rfl⟩:=hr;have a:=fU (b.2-b.1) k i h1 ap;have c:=fU (b.2-b.1) k (i+1) h1 ap;exact ⟨by simp only;omega,by simp only;omega⟩
end
section
open Go.RowKit
theorem EC (n:Int) (W:Nat) (h:1<=W):n%(W:Int)=if n.tmod W<0 then n.tmod W+W else n.tmod W:=by
 rw [Int.tmod_eq_emod];have h1:=Int.emod_nonneg n (show (W:Int)≠0 by omega);have o:=Int.emod_lt_of_pos n (show (0:Int)<W by omega);have i:((W:Int).natAbs:Int)=W:=by simp
 split<;>split<;>omega
theorem Mh (n:Int) (W:Nat) (h:1<=W): -(W:Int)<n.tmod W/\n.tmod W<W:=by
 rw [Int.tmod_eq_emod];have h1:=Int.emod_nonneg n (show (W:Int)≠0 by omega);have p:=Int.emod_lt_of_pos n (show (0:Int)<W by omega);have i:((W:Int).natAbs:Int)=W:=by simp
 split
 .omega
 .rename_i o
  have:n%(W:Int)≠0:=λe=>o (.inr (Int.dvd_of_emod_eq_zero e));omega
theorem qd (st bk lo u W c:Nat) (n:Int) (w:R8) (h1:1<=W) (v:W<=1048576) (hn: -(W:Int)<=n) (p:n<=2*W):Vj 196 #[.agg #[Vd st,Vd bk,Vd lo,Vd u,Vd W,Vd c],QZ n] w λe i=>Vi e (QZ (n%(W:Int)))/\aq w i:=by
 have x:¬((W:Int)=0):=ap;have hm:=Mh n W h1;have he:=EC n W h1;obtain ⟨r,hr⟩:=Vb (n.tmod (W:Int));rw [hr] at hm he;by_cases h:r<0
 .rw [if_pos h] at he;rw [he];have o:=aa he;clear he;go_enter func196,ntmps196;go_wp2;go_ret;exact ⟨rfl,(br w).alloc (PV _) _⟩
 .rw [if_neg h] at he;rw [he];have o:=aa he;clear he;go_enter func196,ntmps196;go_wp2;go_ret;exact ⟨rfl,(br w).alloc (PV _) _⟩
theorem rZ (st bk lo u W c x r:Nat) (w:R8) (h1:1<=W) (A:W<=1048576) (B:x<W) (hr:r<W):Vj 194 #[.agg #[Vd st,Vd bk,Vd lo,Vd u,Vd W,Vd c],QZ x,QZ r] w λe h=>Vi e (QZ (((x:Int)-r)%(W:Int)))/\aq w h:=by
 have p:=λh=>qd st bk lo u W c ((x:Int)-r) h h1 A ap ap;have y:=aa p;clear p;go_enter func194,ntmps194;go_wp2_with fail;refine (y.o _).mono ?_;rintro e v ⟨rfl,i⟩;have hB:aq w v:=((br w).alloc (PV _) _).trans (i.mono V3);clear i;go_wp2;go_ret;exact ⟨rfl,hB⟩
theorem uH (st bk lo u W c x r:Nat) (w:R8) (h1:1<=W) (A:W<=1048576) (B:x<W) (hr:r<W):Vj 195 #[.agg #[Vd st,Vd bk,Vd lo,Vd u,Vd W,Vd c],QZ x,QZ r] w λe h=>Vi e (QZ (((x:Int)+1-r)%(W:Int)))/\aq w h:=by
 have p:=λh=>qd st bk lo u W c ((x:Int)+1-r) h h1 A ap ap;have y:=aa p;clear p;go_enter func195,ntmps195;go_wp2_with fail;refine (y.o _).mono ?_;rintro e v ⟨rfl,i⟩;have hB:aq w v:=((br w).alloc (PV _) _).trans (i.mono V3);clear i;go_wp2;go_ret;exact ⟨rfl,hB⟩
theorem BR {W x:Nat} (hr:r<W) (n:Int) (hn:n=(x:Int)+ph-r):n%(W:Int)=((cV W x ph r:Nat):Int):=by
 unfold cV;rw [Int.natCast_emod,show ((x+(2*W+ph-r):Nat):Int)=n+2*W by omega,Int.add_mul_emod_self_right]
theorem we {W x:Nat} (hr:r+1<=W) (n:Int) (hn:n=((x:Int)-1)%(W:Int)+ph-r):n%(W:Int)=((cH W x ph r:Nat):Int):=by
 unfold cH;rw [Int.natCast_emod,show ((x+(2*W+ph-r-1):Nat):Int)=((x:Int)-1+ph-r)+2*W by omega,Int.add_mul_emod_self_right,hn,Int.add_sub_assoc,Int.emod_add_emod,Int.add_sub_assoc]
theorem KG (w:R8) (f g:Fn):(Instr.index 309 (.agg #[.func f #[] #[],.func g #[] #[]]) (QZ 0)).run prog w=.ok (.func f #[] #[]) w:=by
 simp [Instr.index,run_underlying underlying309,asIntOf,go_sem]
theorem M7 (w:R8) (f g:Fn):(Instr.index 309 (.agg #[.func f #[] #[],.func g #[] #[]]) (QZ 1)).run prog w=.ok (.func g #[] #[]) w:=by
 simp [Instr.index,run_underlying underlying309,asIntOf,go_sem]
attribute [local go_sem] KG M7
theorem I3 (st bk lo y W c x ph r:Nat) (w:R8) (h1:1<=W) (A:W<=1048576) (B:x<W) (C:ph<2) (hr:r+1<W):Vj 188 #[.agg #[Vd st,Vd bk,Vd lo,Vd y,Vd W,Vd c],QZ x,QZ ph,QZ r,.bool true] w λe p=>Vi e (.tuple #[Vd (cV W x ph r),.bool true])/\aq w p:=by
 have g1:(x:Int)<W:=ap;have D:(r:Int)<(W:Int)-1:=ap;have hs:=BR (W:=W) (x:=x) (ph:=ph) (r:=r) ap _ rfl;obtain rfl | rfl:ph=0\/ph=1:=ap
 .have h:=λp=>rZ st bk lo y W c x r p h1 A B ap;rw [show ((x:Int)+(0:Nat)-r)=(x:Int)-r by omega] at hs;rw [hs] at h;have v:=aa h;clear h hs;go_enter func188,ntmps188;go_wp2_with fail;refine (v.o _).mono ?_;rintro e u ⟨rfl,i⟩;have hB:aq w u:=((br w).alloc (PV _) _).trans (i.mono V3);clear i;go_wp2;go_ret2;exact ⟨rfl,hB⟩
 .have h:=λp=>uH st bk lo y W c x r p h1 A B ap;rw [show ((x:Int)+(1:Nat)-r)=(x:Int)+1-r by omega] at hs;rw [hs] at h;have v:=aa h;clear h hs;go_enter func188,ntmps188;go_wp2_with fail;refine (v.o _).mono ?_;rintro e u ⟨rfl,i⟩;have hB:aq w u:=((br w).alloc (PV _) _).trans (i.mono V3);clear i;go_wp2;go_ret2;exact ⟨rfl,hB⟩
theorem I4 (st bk lo I W c x ph r:Nat) (w:R8) (h1:1<=W) (T:W<=1048576) (hx:x<W) (hp:ph<2) (hr:r+1<W):Vj 188 #[.agg #[Vd st,Vd bk,Vd lo,Vd I,Vd W,Vd c],QZ x,QZ ph,QZ r,.bool false] w λe i=>Vi e (.tuple #[Vd (cH W x ph r),.bool true])/\aq w i:=by
 have g1:(x:Int)<W:=ap;have g2:(r:Int)<(W:Int)-1:=ap;obtain ⟨A,u⟩:=Vb (w.alloc (.cells #[Vd st,Vd bk,Vd lo,Vd I,Vd W,Vd c] 296));have V:Vg A (Ve w) #[Vd st,Vd bk,Vd lo,Vd I,Vd W,Vd c] 296:=by rw [<-u];exact PW w _
 have Q:aq w A:=by rw [<-u];exact (br w).alloc (PV _) _
 have t0:=λi q=>bx6 (sb V i q);have C:=λi=>qd st bk lo I W c ((x:Int)-1) i h1 T ap ap;have Z:IntKind.i64.wrap ((x:Int)-1)=(x:Int)-1:=P3 _ ap;obtain ⟨y,U⟩:∃y:Nat,(y:Int)=((x:Int)-1)%(W:Int):=⟨(((x:Int)-1)%(W:Int)).toNat,Int.toNat_of_nonneg (Int.emod_nonneg _ ap)⟩;have L:y<W:=by have:=Int.emod_lt_of_pos ((x:Int)-1) (show (0:Int)<W by omega);omega
 rw [<-U] at C;obtain ⟨N,p,O⟩:=af u Q C;clear u V Q C;obtain rfl | rfl:ph=0\/ph=1:=ap
 .have hs:=we (W:=W) (x:=x) (ph:=0) (r:=r) ap ((y:Int)-r) (by rw [U];omega);have h:=λi=>rZ st bk lo I W c y r i h1 T L ap;rw [hs] at h;have H:=aa h;clear h hs;go_enter func188,ntmps188;have B:=br A;go_wp2_with fail;rw [N.o];refine HA.g (λi:R8=>aq A i) ?_;refine HA.t ?_ [0,1,2,3,4,6] B.drew ?_;refine HA.c 5 (O.o _) ?_;rintro e Y ⟨rfl,J⟩;have D:=bt B.drew J;refine ⟨_,rfl,D,λ_=>?_⟩;refine HA.c 7 (H.o _) ?_;rintro e w2 ⟨rfl,R⟩;have v:=bt D R;refine ⟨_,rfl,v,λ_=>?_⟩;refine HA.t ?_ [8,9] v ?_;refine HA.d ?_;have hB:=p.o.trans (v.mono p.o.size);clear J R B D v t0;go_wp2;go_ret2;exact ⟨rfl,hB⟩
 .have hs:=we (W:=W) (x:=x) (ph:=1) (r:=r) ap ((y:Int)+1-r) (by rw [U];omega);have h:=λi=>uH st bk lo I W c y r i h1 T L ap;rw [hs] at h;have H:=aa h;clear h hs;go_enter func188,ntmps188;have B:=br A;go_wp2_with fail;rw [N.o];refine HA.g (λi:R8=>aq A i) ?_;refine HA.t ?_ [0,1,2,3,4,6] B.drew ?_;refine HA.c 5 (O.o _) ?_;rintro e Y ⟨rfl,J⟩;have D:=bt B.drew J;refine ⟨_,rfl,D,λ_=>?_⟩;refine HA.c 7 (H.o _) ?_;rintro e w2 ⟨rfl,R⟩;have v:=bt D R;refine ⟨_,rfl,v,λ_=>?_⟩;refine HA.t ?_ [8,9] v ?_;refine HA.d ?_;have hB:=p.o.trans (v.mono p.o.size);clear J R B D v t0;go_wp2;go_ret2;exact ⟨rfl,hB⟩
theorem XA.v {S:R8->Prop} {L:List Nat} {o:Oper} (i:Nat) (h:R8) (v:Value) (u:S h) (k:XA P ops Q S n (i::L) (a.put o.dst v) h) (p:ops[i]?=some o:=by (simp only [Qn,Qo,Qp];rfl)) (hr:dz ops L=[i]:=by decide +kernel) (hw:Region.wanted o (yielded ops a.tmps)=true:=by rfl) (he:(execOp a.eval o).run P w=.ok (.value v) h:=by go_simp):XA P ops Q S n L a w:=by
 refine XA.one i p hr λy x=>?_;rw [if_pos hw];unfold Oper.wp;rw [he];exact x.out _ _ u λ_=>k
def aZ (a:Acn):R7:=[.bool a.send,.bool a.add,QZ (a.st:Nat),QZ (a.bk:Nat),QZ (a.ph:Nat),QZ (a.rd:Nat),QZ (a.ch:Nat),QZ (a.at'.1:Nat),QZ (a.at'.2:Nat)]
def eU (l:List Acn):R7:=l.flatMap aZ
theorem qQ (l:List Acn) (a:Acn):eU (l++[a])=eU l++aZ a:=by simp [eU]
theorem Ef:dM prog 297 150 (.agg Ri) 9 64:=⟨underlying297,info_parts V1,rfl,by decide⟩
theorem Ig (snd:Bool) (i:Nat) (A:N_) (n c J u h N:Nat) (w:R8) (v:n<=i):Vj 191 #[.bool snd,QZ i,.slice A n c,(au J),(au u),(au h),(au N)] w λe o=>Vi e (.tuple #[])/\o=w:=by
 have p:¬((i:Int)<n):=ap;go_enter func191,ntmps191;go_wp2
 go_end0
 exact ⟨rfl,rfl⟩
theorem LW (snd:Bool) (i:Nat) (A:N_) (rs:List Rg) (n c J Pb Rb N base:Nat) (st bk lo hi W cc ph r:Nat) (x:Rg) (v:Value) (l:List Acn) (m:Nat) (w:R8) (hJ:Vg w J #[Vd st,Vd bk,Vd lo,Vd hi,Vd W,Vd cc] 296) (hP:Vg w Pb #[Vd ph] 3) (hR:Vg w Rb #[Vd r] 3) (hN:Vg w N #[v] 297) (ho:w.ownsRow base 150 9 v m (eU l)) (hb:base<=w.heap.size) (hA:Rd w A (aS rs)) (hn:rs.length=n) (hx:rs[i]?=some x) (hm:m<=8388608) (a9:n<=1048576) (a2:∀y,A=some y->y.block<base):Vj 191 #[.bool snd,QZ i,.slice A n c,(au J),(au Pb),(au Rb),(au N)] w λe p=>Vi e (.tuple #[])/\
   ∃v',Vg p N #[v'] 297/\p.ownsRow base 150 9 v' (m+1) (eU (l++[⟨snd, !snd&&ph==0,st,bk,ph,r,i,x⟩]))/\Keep (λj=>j=N\/v.ownBlock=some j) w p:=by
 have a8:i<n:=by rw [<-hn];exact (Qu.1 hx).1
 have a7:(i:Int)<n:=ap;have V:=nY hx;obtain ⟨g,o,rfl,c0⟩:=hA _ _ V.1;obtain ⟨g',o',e',c1⟩:=hA _ _ V.2;obtain ⟨rfl,rfl⟩:g'=g/\o'=o:=by simpa using e'.symm
 rw [<-QO] at c1;obtain ⟨h,Q⟩:=Vb (w.alloc (.cells #[Vd st,Vd bk,Vd ph,Vd r,Vd i] 77));have h0:Vg h (Ve w) #[Vd st,Vd bk,Vd ph,Vd r,Vd i] 77:=by rw [<-Q];exact PW w _
 have D:aq w h:=by rw [<-Q];exact (br w).alloc (PV _) _
 have xJ:=bx6 hJ;have xP:=bx1 hP;have xR:=bx1 hR;have U:=az ho D;have nt:=λb cs t' sg (a6:h.heap[b]?=some (.cells cs t' sg)) (a4:t'≠150) (e:v.ownBlock=some b)=>ay a6 a4 U e.symm;have R:=sb hP _ D;have T:=sb hN _ D;have kP:=λp (q:Keep (λj=>v.ownBlock=some j) h p)=>(q.block _ (PU R) (nt _ _ _ _ R V0)).trans R;have kN:=λp (q:Keep (λj=>v.ownBlock=some j) h p)=>(q.block _ (PU T) (nt _ _ _ _ T V0)).trans T;have tP:=λp q=>bx1 (kP p q);have tN:=λp q=>bx1 (kN p q);have t0:=λp (q:Keep (λj=>v.ownBlock=some j) h p)=>bx5 ((q.block _ (PU h0) (nt _ _ _ _ h0 V0)).trans h0)
 have a0:¬v.ownBlock=some g':=λe=>by
  have h1:=(U.lt g' e).1;have h2:=a2 _ rfl;simp only at h2;omega
 have d0:=λp (q:Keep (λj=>v.ownBlock=some j) h p)=>q.cell (aw D c0) a0;have d1:=λp (q:Keep (λj=>v.ownBlock=some j) h p)=>q.cell (aw D c1) a0;obtain ⟨HN,HO,O,a5⟩:=ag kN U D Q;clear hJ hP hR hN ho D Q V hA e' hx hn h0 R T kP kN U nt a0 c0 c1 a2;go_enter func191,ntmps191;have q0:Keep (λj=>v.ownBlock=some j) h h.drew:=(Keep.refl _ _).drew;go_wp2_with fail;rw [a5.o];have a1:((ph:Int)==0)=(ph==0):=by rw [Bool.eq_iff_iff];simp
 cases snd
 .refine XA.g 16 (λp:R8=>Keep (λj=>v.ownBlock=some j) h p) ?_;refine XA.t ?_ [0,1,2,3,4,5,6,7,8,9,10,11,12,13] q0 ?_;obtain ⟨a,ha⟩:∃a:Acn,a=⟨false,(!false&&ph==0),st,bk,ph,r,i,x⟩:=⟨_,rfl⟩;refine XA.v 14 (h.drew.alloc (.cells (aZ a).toArray 150)) (Vf (Ve h) 0 1 1) (q0.alloc _) ?_ rfl (by decide +kernel) rfl (by subst ha;go_simp;simp [aZ,a1];try rfl);refine XA.o 15 (λK' hK=>?_) rfl (by decide +kernel);have hO:=(HO.o.drew).alloc (.cells (aZ a).toArray 150);have a3:=O.o.size;refine bY Ef (.tmp 23) (.tmp 37) rfl rfl base v m _ rfl hO (some (ar (Ve h) 0)) 1 1 (aZ a) rfl (λk u hu=>⟨_,_,rfl,by rw [QP,PX _ (Ve h) k (aZ a).toArray 150 (0,0) (PW h.drew _)];simpa using hu⟩) rfl (by simp [aZ,Value.oneCell']) ap V2 V6 ?_;intro Y c5 H B Z L _;have I:Keep (λj=>v.ownBlock=some j) h H:=(q0.alloc _).grown L (λk hk=>.inr hk);refine hK.out _ _ I λ_=>?_;refine XA.e ?_;simp only [Qq,Qs];have C:=HN.o H I;have e3:=QX H N 0 _ _ (.slice Y (m+1) c5) C;have k1:Keep (λj=>j=N) H (H.setCell (ar N 0) (.slice Y (m+1) c5)):=Vk N (Keep.refl _ _) (ar N 0) (.inr rfl) _;have o6:=k1.own B (λj hj e=>ay C V0 B (by rw [hj,e]));have k6:Keep (λj=>j=N\/v.ownBlock=some j) w (H.setCell (ar N 0) (.slice Y (m+1) c5)):=Keep.setCell (S:=λj=>j=N\/v.ownBlock=some j) ((Keep.below O.o).trans (I.mono λk _ hk=>.inr hk)) (ar N 0) (.inr (.inl rfl)) _;obtain ⟨E3,O6,K6,HA⟩:=ag e3 o6 k6 ha;have xN:=tN H I;clear B Z L C e3 k1 o6 k6 tN tP t0 d0 d1 hK K' ha I hO;go_wp2
  go_end0
  refine ⟨rfl,_,by simpa using E3.o,?_,K6.o⟩;rw [qQ,<-HA.o];exact O6.o
 .refine XA.g 16 (λp:R8=>Keep (λj=>v.ownBlock=some j) h p) ?_;refine XA.t ?_ [0,1,2,3,4,5,6,7,8,9,10,11,12,13] q0 ?_;obtain ⟨a,ha⟩:∃a:Acn,a=⟨true,(!true&&ph==0),st,bk,ph,r,i,x⟩:=⟨_,rfl⟩;refine XA.v 14 (h.drew.alloc (.cells (aZ a).toArray 150)) (Vf (Ve h) 0 1 1) (q0.alloc _) ?_ rfl (by decide +kernel) rfl (by subst ha;go_simp;simp [aZ,a1];try rfl);refine XA.o 15 (λK' hK=>?_) rfl (by decide +kernel);have hO:=(HO.o.drew).alloc (.cells (aZ a).toArray 150);have a3:=O.o.size;refine bY Ef (.tmp 23) (.tmp 37) rfl rfl base v m _ rfl hO (some (ar (Ve h) 0)) 1 1 (aZ a) rfl (λk u hu=>⟨_,_,rfl,by rw [QP,PX _ (Ve h) k (aZ a).toArray 150 (0,0) (PW h.drew _)];simpa using hu⟩) rfl (by simp [aZ,Value.oneCell']) ap V2 V6 ?_;intro Y c5 H B Z L _;have I:Keep (λj=>v.ownBlock=some j) h H:=(q0.alloc _).grown L (λk hk=>.inr hk);refine hK.out _ _ I λ_=>?_;refine XA.e ?_;simp only [Qq,Qs];have C:=HN.o H I;have e3:=QX H N 0 _ _ (.slice Y (m+1) c5) C;have k1:Keep (λj=>j=N) H (H.setCell (ar N 0) (.slice Y (m+1) c5)):=Vk N (Keep.refl _ _) (ar N 0) (.inr rfl) _;have o6:=k1.own B (λj hj e=>ay C V0 B (by rw [hj,e]));have k6:Keep (λj=>j=N\/v.ownBlock=some j) w (H.setCell (ar N 0) (.slice Y (m+1) c5)):=Keep.setCell (S:=λj=>j=N\/v.ownBlock=some j) ((Keep.below O.o).trans (I.mono λk _ hk=>.inr hk)) (ar N 0) (.inr (.inl rfl)) _;obtain ⟨E3,O6,K6,HA⟩:=ag e3 o6 k6 ha;have xN:=tN H I;clear B Z L C e3 k1 o6 k6 tN tP t0 d0 d1 hK K' ha I hO;go_wp2
  go_end0
  refine ⟨rfl,_,by simpa using E3.o,?_,K6.o⟩;rw [qQ,<-HA.o];exact O6.o
def jC (snd:Bool) (i:Nat) (rs:List Rg) (st bk ph r:Nat) (l:List Acn):List Acn:=if i<rs.length then l++[⟨snd, !snd&&ph==0,st,bk,ph,r,i,aK rs i⟩] else l
theorem xy (snd:Bool) (i:Nat) (A:N_) (rs:List Rg) (c J u p N base:Nat) (st bk lo L W I ph r:Nat) (v:Value) (l:List Acn) (w:R8) (V:Vg w J #[Vd st,Vd bk,Vd lo,Vd L,Vd W,Vd I] 296) (hP:Vg w u #[Vd ph] 3) (U:Vg w p #[Vd r] 3) (O:Vg w N #[v] 297) (B:w.ownsRow base 150 9 v l.length (eU l)) (hb:base<=w.heap.size) (D:base<=N) (hA:Rd w A (aS rs)) (hm:l.length<=8388608) (x:rs.length<=1048576) (H:∀y,A=some y->y.block<base):Vj 191 #[.bool snd,QZ i,.slice A rs.length c,(au J),(au u),(au p),(au N)] w λe o=>Vi e (.tuple #[])/\
   ∃v',Vg o N #[v'] 297/\o.ownsRow base 150 9 v' (jC snd i rs st bk ph r l).length (eU (jC snd i rs st bk ph r l))/\Below base w o:=by
 by_cases h:i<rs.length
 .refine (LW snd i A rs rs.length c J u p N base st bk lo L W I ph r (aK rs i) v l l.length w V hP U O B hb hA rfl (by rw [cZ rs i h];simp [h]) hm x H).mono ?_;rintro e o ⟨rfl,v',T,Y,Q⟩;have C:jC snd i rs st bk ph r l=l++[⟨snd, !snd&&ph==0,st,bk,ph,r,i,aK rs i⟩]:=if_pos h;refine ⟨rfl,v',T,?_,Q.toBelow hb ?_⟩
  .rw [C,Qt];exact Y
  .rintro j (rfl | R)
   .exact D
   .exact (B.lt j R).1
 .refine (Ig snd i A rs.length c J u p N w ap).mono ?_;rintro e o ⟨rfl,rfl⟩;have C:jC snd i rs st bk ph r l=l:=if_neg h;exact ⟨rfl,v,O,by rw [C];exact B,PY _ _⟩
theorem Oi:dM prog 93 110 .nilIface 1 16:=⟨underlying93,info_parts V1,rfl,by decide⟩
theorem Oj:dM prog 94 100 (.pointer none) 1 8:=⟨underlying94,info_parts V1,rfl,by decide⟩
theorem DJ:dg prog 29 15:=⟨⟨_,underlying29,rfl⟩,by kernel_rfl⟩
theorem fZ {u s1 s2 A C:Nat} {o p:R9} (h1:w.ownsRow u o s1 v1 A xs) (y:w.ownsRow B p s2 v2 C ys) (h:o≠p) (j:Nat) (e:v1.ownBlock=some j) (f:v2.ownBlock=some j):False:=by
 rcases h1.2 with ⟨i,_⟩ | ⟨x,_,_,i,_,hg,_⟩
 .rw [i] at e;cases e
 .rw [i] at e;have v:x=j:=by simpa [Value.ownBlock] using e
  subst v;exact ay hg h y f.symm
structure LY (X cap:Nat) (rb rb':Nat->Prop) (l1:Nat) (w1 w':R8):Prop where
 hk:Keep (λj=>j=X\/rb j) w1 w'
 hty:∀j c,(j=X\/rb j)->w1.heap[j]?≠some (.cells c 2 (0,0))
 hrb:∀j,rb' j->rb j\/(w1.heap.size<=j/\j≠l1)
 hrl:∀j,rb' j->j<w'.heap.size
 hl:w1.heap.size<=l1/\l1<w'.heap.size
 hb:w'.heap[l1]?=some (.cells #[Ra,QZ (cap:Nat),QZ 0,QZ 0,QZ 0] 182 (0,0))
def m8 (a b:Value) (j:Nat):Prop:=a.ownBlock=some j\/b.ownBlock=some j
structure Et (J:Nat->List Nat->List Nat->(Nat->Prop)->R8->Prop) (W1:R8) (X k:Nat) (w:R8) (bs ls:List Nat) (AW AL:N_) (cw cl:Nat):Prop where
 j:J X bs ls (m8 (.slice AW k cw) (.slice AL k cl)) w
 hb:bs.length=k
 hl:ls.length=k
 box:w.heap[X]?=some (.cells #[.slice AW k cw,.slice AL k cl,QZ 0] 96 (0,0))
 oW:w.ownsRow (X+1) 110 1 (.slice AW k cw) k (bs.map λb=>.iface 97 ((au b)))
 oL:w.ownsRow (X+1) 100 1 (.slice AL k cl) k (ls.map λb=>(au b))
 lo:W1.heap.size<=X
 q:aq W1 w
theorem IP {i0 i1 i2 i3 i5 i6 i7 i8 i9 C H B A:Value} {N cap:Nat} {W1:R8} (a8:w.alloc (.cells #[i0,i1,i2,i3,Vd N,i5,i6,i7,i8,i9,C,Vd cap,H,B,A] 29)=W1) (hN:N<=1000) (bf:1<=cap/\cap<=1048576) (b2:∀h,aq W1 h->Vj 43 #[.agg #[i0,i1,i2,i3,Vd N,i5,i6,i7,i8,i9,C,Vd cap,H,B,A]] h λe a9=>Vi e (QZ 0)/\aq h a9) (hl:∀h:R8,Vj 45 #[Vd cap] h λe a9=>Vi e ((au h.heap.size))/\a9=h.alloc (.cells #[Ra,Vd cap,QZ 0,QZ 0,QZ 0] 182)) (h0:∀X h,W1.heap.size<=X->X<h.heap.size->aq W1 h->J X [] [] (λ_=>False) h) (hm:∀X k bs I rb h,k<N->W1.heap.size<=X->X<h.heap.size->aq W1 h->bs.length=k->I.length=k->J X bs I rb h->Vj 44 #[.agg #[i0,i1,i2,i3,Vd N,i5,i6,i7,i8,i9,C,Vd cap,H,B,A],Vd k] h λe D=>
   ∃b,Vi e (.tuple #[(au b),QZ 0])/\aq h D/\∀l1 b0 w2,LY X cap rb b0 l1 D w2->J X (bs++[b]) (I++[l1]) b0 w2):
  Vj 13 #[.agg #[i0,i1,i2,i3,Vd N,i5,i6,i7,i8,i9,C,Vd cap,H,B,A]] w λe h=>
   ∃X bs I AW x cw y,Vi e (.tuple #[(au X),QZ 0])/\Et J W1 X N h bs I AW x cw y:=by
 have g0:Vg W1 w.heap.size #[i0,i1,i2,i3,Vd N,i5,i6,i7,i8,i9,C,Vd cap,H,B,A] 29:=by rw [<-a8];exact PW w _
 have t4:∀h,aq W1 h->Vh h w.heap.size 4 (Vd N):=λh q=>PX h w.heap.size 4 _ _ _ (sb g0 h q);have a5:∀h,aq W1 h->Vh h w.heap.size 11 (Vd cap):=λh q=>PX h w.heap.size 11 _ _ _ (sb g0 h q);have tl:=sl g0;have bh:w.heap.size<W1.heap.size:=PU g0;obtain ⟨be,Hl,Hm,H0,aR,G0⟩:=ai b2 hl hm h0 a8 g0;have q1:=br W1;clear b2 hl hm h0 a8 g0;go_enter func13,ntmps13;go_wp2_with (refine aQ #[i0,i1,i2,i3,Vd N,i5,i6,i7,i8,i9,C,Vd cap,H,B,A] (b:=w.heap.size) (by rw [aR.o];exact G0.o) DJ rfl rfl rfl rfl ?_);rw [aR.o];refine (be.o _ q1).mono ?_;rintro e w2 ⟨rfl,k2⟩;have q2:=bt q1 k2;clear k2;go_wp2_with fail;obtain ⟨X,hX⟩:=Vb w2.heap.size;obtain ⟨W3,a1⟩:=Vb (w2.alloc (.cells #[Ra,Ra,QZ 0] 96));have g3:Vg W3 X #[Ra,Ra,QZ 0] 96:=by rw [<-a1,<-hX];exact PW w2 _
 have q3:aq W1 W3:=by rw [<-a1];exact q2.alloc q2.size _
 have gX:W1.heap.size<=X:=by rw [<-hX];exact q2.size
 have m3:Et J W1 X 0 W3 [] [] none none 0 0:=⟨(by
  have hrb:m8 (Ra) (Ra)=λ_=>False:=by funext j;simp [m8,Value.ownBlock]
  rw [hrb];exact H0.o X W3 gX (PU g3) q3),rfl,rfl,g3,Qb ..,Qb ..,gX,q3⟩
 rw [hX,a1];have M3:=aa m3;clear m3 g3 a1 hX q2 q1
 go_loopw [19] (λv wr=>∃k:Nat,k<=N/\v=QZ k/\∃bs I AW x cw y,Et J W1 X k wr bs I AW x cw y) (λv _=>N-(intOf v).toNat)
 .exact ⟨0,PZ _,rfl,[],[],none,none,0,0,M3.o⟩
 case round=>
  obtain ⟨k,hk,rfl,bs,I,AW,x,cw,y,m⟩:=hrel;have ad:=PU m.box;have bn:=m.q.size;have tb:=bx3 m.box;have p:=aa m;clear m;by_cases b7:k<N
  .have bN:(k:Int)<N:=ap;have c1:=Hm.o X k bs I _ wr b7 p.o.lo ad p.o.q p.o.hb p.o.hl p.o.j;have C1:=aa c1;have q0:=p.o.q;clear c1;go_wp2_with (refine aQ #[i0,i1,i2,i3,Vd N,i5,i6,i7,i8,i9,C,Vd cap,H,B,A] (b:=w.heap.size) (sb G0.o _ q0) DJ rfl rfl rfl rfl ?_);refine C1.o.mono ?_;rintro e D ⟨b,rfl,k1,hJ⟩;have HJ:=aa hJ;have q1:=bt q0 k1;have b1:=sb p.o.box D k1;have oW:=az p.o.oW k1;have oL:=az p.o.oL k1;have bI:=k1.size;have bd:=bx3 b1;obtain ⟨B1,OW,OL,Q1,K1⟩:=ah b1 oW oL q1 k1;clear hJ b1 oW oL q1 k1 tb q0;go_wp2_with (at_builtin;refine dQ Oi _ rfl (.tmp 32) (.tmp 35) rfl (X+1) (.slice AW k cw) k _ rfl (OW.o.alloc _) (some (ar D.heap.size 0)) 1 1 [.iface 97 ((au b))] rfl (dW D _ _ D.heap.size rfl) V3 V5 ap V2 V6 ?_);intro A2 c2 w3 o3 b3 g3 n3;have kA:aq D (D.alloc (.cells #[.iface 97 ((au b))] 110)):=(br D).alloc (PV _) _;have a0:w3.heap[X]?=_:=(b3.block X ap).trans (sb B1.o _ kA);have kW:Keep (λj=>(Value.slice AW k cw).ownBlock=some j) D w3:=((Keep.refl _ D).alloc _).grown g3 (λk hk=>.inr hk);have ao:=kW.own OL.o (λj h1 h2=>fZ OL.o OW.o V0 j h1 h2);have b9:=bx3 a0;have bi:=kW.size;have bO:=PU a0;obtain ⟨b5,aG,aM,O3,N3,HK⟩:=ai a0 kW ao o3 n3 hk;clear kA a0 kW ao o3 n3 b3 g3 bd ad;go_wp2_with fail;obtain ⟨i,Y⟩:=Vb (w3.setCell (ar X 0) (.slice A2 (k+1) c2));have kX:Keep (λj=>j=X) w3 i:=by rw [<-Y];exact Vk X (Keep.refl _ _) _ (.inr rfl) _
   have T:Vg i X #[.slice A2 (k+1) c2,.slice x k y,QZ 0] 96:=by rw [<-Y];exact ss b5.o
   have bb:=λ(v:Value) (e:R9) (xs:R7) (o:i.ownsRow (X+1) e 1 v xs.length xs)=>o;have o4:=kX.own O3.o (λj h1 h2=>by have:=(O3.o.lt j h1).1;omega);have a2:=kX.own aM.o (λj h1 h2=>by have:=(aM.o.lt j h1).1;omega);rw [Y];have bG:=kX.size;have aP:=PU T;have tX:=λh (q:Keep (λj=>(Value.slice x k y).ownBlock=some j) i h)=>bx3 ((q.block X aP (λe=>by have:=(a2.lt X e).1;omega)).trans T)
   have av:∀h,Keep (λj=>(Value.slice x k y).ownBlock=some j) i h->Vh h w.heap.size 11 (Vd cap):=λh q=>by
    have hW:Vh i w.heap.size 11 (Vd cap):=a5 i (Q1.o.trans ((aG.o.toBelow Q1.o.size (λj e=>by have:=(OW.o.lt j e).1;have:=p.o.lo;omega)).trans (kX.toBelow (by have:=Q1.o.size;omega) (λj e=>by have:=p.o.lo;omega))));exact (World.cell?_of_block (q.block w.heap.size ap (λe=>by have:=(a2.lt _ e).1;have:=p.o.lo;omega))).trans hW
   have q4:Keep (λj=>(Value.slice x k y).ownBlock=some j) i i.drew:=(Keep.refl _ _).drew;obtain ⟨ab,O4,b8,KX⟩:=ag a2 o4 T kX;clear b9 Y T kX o4 a2 bb t4 a5;refine XA.g 11 (λh:R8=>Keep (λj=>(Value.slice x k y).ownBlock=some j) i h) ?_;refine XA.t ?_ [0,1,2,3,4,5,6,7] q4 ?_;refine XA.c 8 (Hl.o _) ?_;rintro _ R ⟨rfl,h5⟩;obtain ⟨u,V⟩:=Vb i.drew.heap.size;rw [V];have g5:Vg R u #[Ra,Vd cap,QZ 0,QZ 0,QZ 0] 182:=by rw [h5,<-V];exact PW i.drew _
   have k5:aq i R:=by rw [h5];exact (br i).drew.alloc (PV _) _
   have q5:Keep (λj=>(Value.slice x k y).ownBlock=some j) i R:=by rw [h5];exact q4.alloc _
   have bz:R.heap.size=u+1:=by rw [h5,<-V];simp
   have bl:u=i.heap.size:=by rw [<-V];rfl
   clear h5 q4;refine ⟨_,rfl,q5,λ_=>?_⟩;refine XA.v 9 (R.alloc (.cells #[(au u)] 100)) (Vf R.heap.size 0 1 1) (q5.alloc _) ?_;refine XA.o 10 (λK' hK=>?_);have hO:=(az ab.o k5).alloc (.cells #[(au u)] 100);refine bY Oj (.tmp 43) (.tmp 48) rfl rfl (X+1) (.slice x k y) k _ rfl hO (some (ar R.heap.size 0)) 1 1 [(au u)] rfl (dW R _ _ R.heap.size rfl) V3 V5 ap V2 V6 ?_;intro A6 c6 U o6 b6 g6 n6;have a4:Keep (λj=>(Value.slice x k y).ownBlock=some j) R U:=((Keep.refl _ R).alloc (.cells #[(au u)] 100)).grown g6 (λk hk=>.inr hk);have q6:=(q5.alloc (.cells #[(au u)] 100)).grown g6 (λk hk=>.inr hk);refine hK.out _ _ q6 λ_=>?_;refine XA.e ?_;simp only [Qq,Qs];have Z:U.heap[X]?=_:=(q6.block X aP (λe=>by have:=(ab.o.lt X e).1;omega)).trans b8.o;have bA:=bx3 Z;have bv:=PU Z;have a3:∀j,(Value.slice x k y).ownBlock=some j->j<D.heap.size:=λj e=>(OL.o.lt j e).2;have a6:U.heap[u]?=_:=(a4.block u ap (λe=>by have:=a3 u e;omega)).trans g5;have k7:Keep (λj=>j=X) U (U.setCell (ar X 1) (.slice A6 (k+1) c6)):=Vk X (Keep.refl _ _) _ (.inr rfl) _;have h7:Vg (U.setCell (ar X 1) (.slice A6 (k+1) c6)) X #[.slice A2 (k+1) c2,.slice A6 (k+1) c6,QZ 0] 96:=ss Z;have bM:=k7.size;have bo:=a4.size;have b4:=PU a6;have L:Keep (λj=>j=X\/m8 (.slice AW k cw) (.slice x k y) j) D (U.setCell (ar X 1) (.slice A6 (k+1) c6)):=(((aG.o.mono λk _ e=>.inr (.inl e)).trans (KX.o.mono λk _ e=>.inl e)).trans (q6.mono λk _ e=>.inr (.inr e))).trans (k7.mono λk _ e=>.inl e)
   have O:LY X cap (m8 (.slice AW k cw) (.slice x k y)) (m8 (.slice A2 (k+1) c2) (.slice A6 (k+1) c6)) u D (U.setCell (ar X 1) (.slice A6 (k+1) c6)):=by
    refine ⟨L,?_,?_,?_,⟨ap,ap⟩,(k7.block u b4 (λe=>ap)).trans a6⟩
    .rintro j c (rfl | e | e) hj
     .rw [B1.o] at hj;simp at hj
     .exact ay hj V0 OW.o e.symm
     .exact ay hj V0 OL.o e.symm
    .rintro j (e | e)
     .have:=(O3.o.lt j e).2;rcases N3.o with h1 | h1
      .rw [h1] at e;exact .inl (.inl e)
      .rw [h1] at e;simp at e;exact .inr ⟨ap,ap⟩
     .rcases n6 with h1 | h1
      .rw [h1] at e;exact .inl (.inr e)
      .rw [h1] at e;simp at e;exact .inr ⟨ap,ap⟩
    .rintro j (e | e)
     .have:=(O4.o.lt j e).2;have:=q6.size;omega
     .have:=(o6.lt j e).2;omega
   have Q:Et J W1 X (k+1) (U.setCell (ar X 1) (.slice A6 (k+1) c6)) (bs++[b]) (I++[u]) A2 A6 c2 c6:=by
    refine ⟨HJ.o _ _ _ O,by simp [p.o.hb],by simp [p.o.hl],h7,?_,?_,p.o.lo,Q1.o.trans (L.toBelow Q1.o.size (λj e=>?_))⟩
    .have:=k7.own (q6.own O4.o (λj h1 h2=>fZ ab.o O4.o V0 j h2 h1)) (λj h1 h2=>by have:=(O4.o.lt j h1).1;omega);rw [List.map_append];exact this
    .have:=k7.own o6 (λj h1 h2=>by have:=(o6.lt j h1).1;omega);rw [List.map_append];exact this
    .have bw:=p.o.lo;rcases e with e | e | e
     .omega
     .have:=(OW.o.lt j e).1;omega
     .have:=(OL.o.lt j e).1;omega
   have a7:=aa Q;clear Q O L k7 h7 a6 Z q6 a4 n6 g6 b6 o6 hO q5 k5 g5 tX av hK K' a3;go_wp2;go_roundw
   .exact ⟨k+1,ap,Vc,_,_,_,_,_,_,a7.o⟩
   .simp [intOf];omega
  .obtain rfl:k=N:=ap;clear tb t4 a5;go_wp2;go_ret2;exact ⟨X,bs,I,AW,x,cw,y,rfl,p.o⟩
def Ext (u v:R8):Prop:=∀k,k<u.heap.size->u.heap[k]?=some (.cells #[] 0 (0,0))\/v.heap[k]?=u.heap[k]?
theorem KY {u v:R8} {a:Addr} (h:u.cell? a=some x) (o:Ext u v):v.cell? a=some x:=by
 rcases o _ (aB h) with i | i
 .rw [World.cell?] at h;simp only [i] at h;simp at h
 .exact (World.cell?_of_block (w:=u) i).trans h
theorem uO {u v:R8} {t:R9} {o:Nat×Nat} (h:u.heap[b]?=some (.cells (x::xs).toArray t o)) (p:Ext u v):v.heap[b]?=some (.cells (x::xs).toArray t o):=by
 rcases p _ (PU h) with i | i
 .rw [i] at h;simp at h
 .rw [i];exact h
theorem aW {u v:R8} (h:Rd u A xs) (i:Ext u v):Rd v A xs:=λk x p=>by
 obtain ⟨b,o,e,hc⟩:=h k x p;exact ⟨b,o,e,KY hc i⟩
def Px {α:Type} (R:fl α):Prop:=∀{u v:R8} {cs:R7} {x:α},R u cs x->Ext u v->R v cs x
theorem fh {α:Type} {R:fl α} {u v:R8} {l:List α} (y:Px R) (h:dx R size u A l) (i:Ext u v):dx R size v A l:=by
 obtain ⟨rows,h1,o,B,p⟩:=h;exact ⟨rows,aW h1 i,o,B,λj x C=>y (p j x C) i⟩
noncomputable def aH (S:Nat->Prop) (w:R8):R8:=by
 classical exact {w with heap:=w.heap.mapIdx λk o=>if S k then .cells #[] 0 (0,0) else o}
theorem oH (S:Nat->Prop) (w:R8):(aH S w).heap.size=w.heap.size:=by simp [aH]
theorem jq (h:¬S k):(aH S w).heap[k]?=w.heap[k]?:=by
 simp only [aH,Array.getElem?_mapIdx];simp [h]
theorem yv (h:S k) (hk:k<w.heap.size):(aH S w).heap[k]?=some (.cells #[] 0 (0,0)):=by
 simp only [aH,Array.getElem?_mapIdx];simp [h,hk]
theorem dO (S:Nat->Prop) (w:R8):Ext (aH S w) w:=λk hk=>by
 rw [oH] at hk;by_cases h:S k
 .exact .inl (yv h hk)
 .exact .inr (jq h).symm
theorem bC {i:R8} (hk:Keep S w i) (hs:∀k,k<w.heap.size->S' k->S k):Ext (aH S w) (aH S' i):=λk hl=>by
 rw [oH] at hl;by_cases h:S k
 .exact .inl (yv h hl)
 .exact .inr (by rw [jq h,jq (λe=>h (hs k hl e)),hk.block k hl h])
theorem dI {i:R8} (hb:aq w i):Ext (aH S w) (aH S i):=bC (Keep.below hb) λ_ _ h=>h
theorem KU {u:R8} (hb:∀k,B<=k->k<u.heap.size->w.heap[k]?=u.heap[k]?) (hs:∀k,B<=k->k<u.heap.size->¬S k):Ext (gt B u) (aH S w):=λk hl=>by
 rw [jY] at hl;rcases Qf k B with h | h
 .exact .inl (qm h hl)
 .exact .inr (by rw [jq (hs k h hl),hb k h hl,iY h])
theorem mL (h:Rd w A xs) (hA:∀y,A=some y->¬S y.block):Rd (aH S w) A xs:=λk x i=>by
 obtain ⟨b,o,e,hc⟩:=h k x i;have hl:=aB hc;exact ⟨b,o,e,(World.cell?_of_block (w:=w) (a:=(ar b (o+k))) (jq (show ¬S b from hA _ e))).trans hc⟩
def ki (x y:List Rg) (f g:Nat->Rg->Acn) (k:Nat):List Acn:= (List.range k).flatMap λi=>(if i<x.length then [f i (aK x i)] else [])++(if i<y.length then [g i (aK y i)] else [])
theorem ui (x y:List Rg) (f g:Nat->Rg->Acn) (k:Nat):ki x y f g (k+1)=ki x y f g k++((if k<x.length then [f k (aK x k)] else [])++(if k<y.length then [g k (aK y k)] else [])):=by
 simp [ki,QL,List.flatMap_append]
theorem zI (x y:List Rg) (f g:Nat->Rg->Acn) (k:Nat):(ki x y f g k).length<=2*k:=by
 induction k with
 | zero=>simp [ki]
 | succ k ih=>
  rw [ui,Qt,Qt]
  split<;>split<;>simp<;>omega
theorem oq (X Y:List Rg) (st bk ph r m:Nat):jC false m Y st bk ph r (jC true m X st bk ph r (ki X Y (λi s=>(⟨true,false,st,bk,ph,r,i,s⟩:Acn)) (λi s=>(⟨false,ph==0,st,bk,ph,r,i,s⟩:Acn)) m))=ki X Y (λi s=>(⟨true,false,st,bk,ph,r,i,s⟩:Acn)) (λi s=>(⟨false,ph==0,st,bk,ph,r,i,s⟩:Acn)) (m+1):=by
 rw [ui];by_cases h1:m<X.length<;>by_cases h:m<Y.length<;>simp [jC,h1,h]
theorem Fh (st bk lo p W c x ph r:Nat) (w:R8) (h1:1<=W) (h2:W<=1048576) (hx:x<W) (hp:ph<2) (hr:r+1<W) (h3:lo<=1048576) (h4:p<=1048576) (h5:1<=c) (h6:c<=1048576):Vj 179 #[.agg #[Vd st,Vd bk,Vd lo,Vd p,Vd W,Vd c],QZ x,QZ ph,QZ r] w λe h=>∃v,Vi e v/\h.ownsRow w.heap.size 150 9 v (db st bk (lo,p) W c x ph r).length (eU (db st bk (lo,p) W c x ph r))/\aq w h:=by
 obtain ⟨H,u⟩:=Vb (((w.alloc (.cells #[Vd st,Vd bk,Vd lo,Vd p,Vd W,Vd c] 296)).alloc (.cells #[QZ ph] 3)).alloc (.cells #[QZ r] 3))
 have g0:H.heap[w.heap.size]?=some (.cells #[Vd st,Vd bk,Vd lo,Vd p,Vd W,Vd c] 296 (0,0)):=by
  rw [<-u,Qc _ _ _ V6,Qc _ _ _ V3];exact PW w _
 have g1:H.heap[w.heap.size+1]?=some (.cells #[QZ ph] 3 (0,0)):=by
  rw [<-u,Qc _ _ _ V3];have:=PW (w.alloc (.cells #[Vd st,Vd bk,Vd lo,Vd p,Vd W,Vd c] 296)) (.cells #[QZ ph] 3);simpa using this
 have g2:H.heap[w.heap.size+1+1]?=some (.cells #[QZ r] 3 (0,0)):=by
  rw [<-u];have:=PW ((w.alloc (.cells #[Vd st,Vd bk,Vd lo,Vd p,Vd W,Vd c] 296)).alloc (.cells #[QZ ph] 3)) (.cells #[QZ r] 3);simpa using this
 have a5:aq w H:=by rw [<-u];exact (((br w).alloc (PV _) _).alloc V3 _).alloc V6 _
 have a4:H.heap.size=w.heap.size+1+1+1:=by rw [<-u];simp
 have t0:=λh q=>bx6 (sb g0 h q);have t1:=λh q=>bx1 (sb g1 h q);have t2:=λh q=>bx1 (sb g2 h q);obtain ⟨b3,V,b8,G0,G1,G2⟩:=ai u a5 a4 g0 g1 g2;clear u g0 g1 g2 a5 a4;go_enter func179,ntmps179;have q0:=br H;go_wp2_with fail;rw [b3.o];refine (I3 st bk lo p W c x ph r H h1 h2 hx hp hr).mono ?_;rintro e w1 ⟨rfl,k1⟩;have q1:=bt q0 k1;go_wp2_with fail;refine (I4 st bk lo p W c x ph r w1 h1 h2 hx hp hr).mono ?_;rintro e w2 ⟨rfl,k2⟩;have q2:=bt q1 k2;go_wp2_with fail;refine (IX lo p W w2 h1 h2 h3 h4).mono ?_;rintro e T ⟨v3,rfl,o3,k3⟩;have q3:=bt q2 k3;have a0:cV W x ph r<W:=Nat.mod_lt _ h1;have O:cH W x ph r<W:=Nat.mod_lt _ h1;obtain ⟨so,A⟩:=Vb (cV W x ph r);obtain ⟨si,B⟩:=Vb (cH W x ph r);rw [A] at a0 |-;rw [B] at O |-;obtain ⟨g,c3,aR,ao,b2⟩:=o3.form ap;subst aR;have a1:=Mq (b:=(lo,p)) h1 h3 h4;obtain ⟨J,D⟩:=Vb (aK (dy (lo,p) W) so);obtain ⟨I,C⟩:=Vb (aK (dy (lo,p) W) si);have Z:=a1 J (by rw [<-D,cZ _ _ (by rw [qs];exact a0)];exact List.getElem_mem _);have Q:=a1 I (by rw [<-C,cZ _ _ (by rw [qs];exact O)];exact List.getElem_mem _);have po:=ja o3 a0;have pi:=ja o3 O;rw [D] at po;rw [C] at pi;have a2:=br T;have aM:=λh (q:aq T h)=>aw q po.1;have aP:=λh (q:aq T h)=>aw q po.2;have ad:=λh (q:aq T h)=>aw q pi.1;have b4:=λh (q:aq T h)=>aw q pi.2;have u0:=λh (q:aq T h)=>t0 h (bt q3 q);have b5:(so:Int)<W:=ap;have b6:(si:Int)<W:=ap;have HR:an (db st bk (lo,p) W c x ph r=iR (chR J c) (chR I c) (λi s=>⟨true,false,st,bk,ph,r,i,s⟩) (λi s=>⟨false,ph==0,st,bk,ph,r,i,s⟩)):=aa (by unfold db;rw [A,B,D,C]);have R:=aa q3;clear t0 ao b2 a1 D C A B po pi q0 q1 q2 q3 k1 k2 k3 o3;go_wp2;refine HA.g (λh:R8=>aq T h) ?_;refine HA.t ?_ [0,1,2,3,4,5,7,8,9,10,11,12] a2.drew ?_;refine HA.c 6 (Bb J.1 J.2 c _ h5 h6 Z.1 Z.2) ?_;rintro e w4 ⟨v4,rfl,o4,k4⟩;have q4:=bt a2.drew k4;refine ⟨_,rfl,q4,λ_=>?_⟩;refine HA.c 13 (Bb I.1 I.2 c _ h5 h6 Q.1 Q.2) ?_;rintro e N ⟨v5,rfl,o5,k5⟩;have q5:=bt q4 k5;refine ⟨_,rfl,q5,λ_=>?_⟩;refine HA.t ?_ [14,15] q5 ?_;refine HA.d ?_;obtain ⟨A4,c4,rfl,_⟩:=aC o4;obtain ⟨A5,c5,rfl,_⟩:=aC o5;obtain ⟨X,hX⟩:=Vb (chR J c);obtain ⟨Y,hY⟩:=Vb (chR I c);have bd:X.length<=1048576:=by rw [<-hX,yE];have:=gj (J.2-J.1) c;omega
 have b7:Y.length<=1048576:=by rw [<-hY,yE];have:=gj (I.2-I.1) c;omega
 rw [hX] at o4 HR |-;rw [hY] at o5 HR |-;simp only [Exit.then];obtain ⟨L,O4,O5,B4,B5⟩:=ah ((R.o).trans (q5.mono R.o.size)) (az o4 k5) o5 (kl (az o4 k5)) (kl o5);clear o4 o5 k4 k5 q4 q5 a2 aM aP ad b4 u0 t1 t2 R hX hY Z Q;obtain ⟨M,hM⟩:∃M:Nat,max X.length Y.length=M:=⟨_,rfl⟩;have be:(if X.length<Y.length then (Y.length:Int) else (X.length:Int))=(M:Int):=by rw [<-hM];split<;>omega
 have aG:=aa hM;clear hM;go_wp2
 go_loopw [62] (λx wr=>∃m:Nat,m<=M/\x=QZ m/\∃v,wr.heap[N.heap.size]?=some (.cells #[v] 297 (0,0))/\wr.ownsRow N.heap.size 150 9 v (ki X Y (λi s=>(⟨true,false,st,bk,ph,r,i,s⟩:Acn)) (λi s=>(⟨false,ph==0,st,bk,ph,r,i,s⟩:Acn)) m).length (eU (ki X Y (λi s=>(⟨true,false,st,bk,ph,r,i,s⟩:Acn)) (λi s=>(⟨false,ph==0,st,bk,ph,r,i,s⟩:Acn)) m))/\aq N wr) (λx _=>M-(intOf x).toNat)
 .exact ⟨0,PZ _,rfl,_,PW _ _,Qb _ _ _ _,(br N).alloc (PV _) _⟩
 case round=>
  obtain ⟨m,hm,rfl,v,n0,o0,q⟩:=hrel;by_cases bb:m<M
  .have b0:(m:Int)<M:=ap;have b9:IntKind.i64.wrap ((m:Int)+1)=((m+1:Nat):Int):=by rw [P3 _ ap];push_cast;rfl
   have a3:=zI X Y (λi s=>(⟨true,false,st,bk,ph,r,i,s⟩:Acn)) (λi s=>(⟨false,ph==0,st,bk,ph,r,i,s⟩:Acn)) m;have a7:=(Rd.own O4.o).below q;have a9:=λy e=>(B4.o y e).2;have c1:=xy true m A4 X c4 w.heap.size (w.heap.size+1) (w.heap.size+1+1) N.heap.size N.heap.size st bk lo p W c ph r v _ wr (sb G0.o wr (bt L.o q)) (sb G1.o wr (bt L.o q)) (sb G2.o wr (bt L.o q)) n0 o0 q.size (PV _) a7 ap ap a9;obtain ⟨C1,HQ,b1⟩:=af c1 q a3;clear c1 a7 a9 n0 o0 q a3;go_wp2_with fail;refine C1.o.mono ?_;rintro e w6 ⟨rfl,v6,n6,o6,k6⟩;have U:=HQ.o.trans k6;have ab:(jC true m X st bk ph r (ki X Y (λi s=>(⟨true,false,st,bk,ph,r,i,s⟩:Acn)) (λi s=>(⟨false,ph==0,st,bk,ph,r,i,s⟩:Acn)) m)).length<=2*m+1:=by have:=b1.o;unfold jC;split<;>simp<;>omega
   have a6:=(Rd.own O5.o).below U;have a8:=λy e=>(B5.o y e).2;have c2:=xy false m A5 Y c5 w.heap.size (w.heap.size+1) (w.heap.size+1+1) N.heap.size N.heap.size st bk lo p W c ph r v6 _ w6 (sb G0.o w6 (bt L.o U)) (sb G1.o w6 (bt L.o U)) (sb G2.o w6 (bt L.o U)) n6 o6 U.size (PV _) a6 ap ap a8;obtain ⟨C2,av⟩:=ae c2 U;clear c2 a6 a8 n6 o6 U k6 ab;go_wp2_with fail;refine C2.o.mono ?_;rintro e w7 ⟨rfl,v7,n7,o7,k7⟩;have q7:=av.o.trans k7;rw [oq] at o7;obtain ⟨N7,O7,Q7⟩:=af n7 o7 q7;clear n7 o7 q7 k7;go_wp2;go_roundw
   .exact ⟨m+1,ap,Vc,v7,N7.o,O7.o,Q7.o⟩
   .simp [intOf];omega
  .obtain rfl:M=m:=ap;have b0:¬((M:Int)<M):=ap;have tn:=λh q=>bx1 (sb n0 h q);obtain ⟨O0,HQ,HN⟩:=af o0 q n0;have q0:=br wr;clear o0 q n0;go_wp2;go_ret;refine ⟨_,rfl,?_,?_⟩
   .rw [HR.out];have:=O0.o;rw [<-aG.o] at this;exact aF this (P4 V.o.size L.o.size)
   .exact V.o.trans ((bt L.o HQ.o).mono V.o.size)
def LV:Option Acn->R7
 | none=>[.bool false,.bool false,QZ 0,QZ 0,QZ 0,QZ 0,QZ 0,QZ 0,QZ 0]
 | some a=>aZ a
def bj (x:Itm):R7:=QZ (x.kind:Nat)::QZ (x.st:Nat)::QZ (x.n:Nat)::LV x.a
def cE (l:List Itm):R7:=l.flatMap bj
theorem CR (l m:List Itm):cE (l++m)=cE l++cE m:=by simp [cE]
theorem fQ (l:List Itm) (a:Itm):cE (l++[a])=cE l++bj a:=by simp [cE]
theorem Lg:dM prog 176 152 (.agg Rh) 12 88:=⟨underlying176,info_parts V1,rfl,by decide⟩
theorem MZ (L base kd st n m:Nat) (H C:Bool) (N U D O Q J T:Int) (v:Value) (xs:R7) (w:R8) (hL:Vg w L #[Vd st,v] 276) (ho:w.ownsRow base 152 12 v m xs) (hb:base<=w.heap.size) (hm:m<=8388608):Vj 160 #[(au L),Vd kd,Vd n,.agg #[.bool H,.bool C,QZ N,QZ U,QZ D,QZ O,QZ Q,QZ J,QZ T]] w λe p=>Vi e (.tuple #[])/\
   ∃v',Vg p L #[Vd st,v'] 276/\p.ownsRow base 152 12 v' (m+1) (xs++[Vd kd,Vd st,Vd n,.bool H,.bool C,QZ N,QZ U,QZ D,QZ O,QZ Q,QZ J,QZ T])/\Keep (λj=>j=L\/v.ownBlock=some j) w p/\(v'.ownBlock=v.ownBlock\/∀k,v'.ownBlock=some k->w.heap.size<=k):=by
 obtain ⟨i,x⟩:=Vb (w.alloc (.cells #[.bool H,.bool C,QZ N,QZ U,QZ D,QZ O,QZ Q,QZ J,QZ T] 150));have h0:Vg i w.heap.size #[.bool H,.bool C,QZ N,QZ U,QZ D,QZ O,QZ Q,QZ J,QZ T] 150:=by rw [<-x];exact PW w _
 have y:aq w i:=by rw [<-x];exact (br w).alloc (PV _) _
 have V:=az ho y;have nt:=λb cs t' sg (a5:i.heap[b]?=some (.cells cs t' sg)) (a2:t'≠152) (e:v.ownBlock=some b)=>ay a5 a2 V e.symm;have A:=sb hL _ y;have kL:=λp (q:Keep (λj=>v.ownBlock=some j) i p)=>(q.block _ (PU A) (nt _ _ _ _ A V0)).trans A;have tL:=λp q=>bx2 (kL p q);have t0:=λp (q:Keep (λj=>v.ownBlock=some j) i p)=>bx9 ((q.block _ (PU h0) (nt _ _ _ _ h0 V0)).trans h0);obtain ⟨HL,HO,Z,a3⟩:=ag kL V y x;clear hL ho y x h0 A kL V nt;go_enter func160,ntmps160;have q0:Keep (λj=>v.ownBlock=some j) i i.drew:=(Keep.refl _ _).drew;go_wp2_with fail;rw [a3.o];refine XA.g 15 (λp:R8=>Keep (λj=>v.ownBlock=some j) i p) ?_;refine XA.t ?_ [0,1,2,3,4,5,6,7,8,9,10,11,12] q0 ?_;refine XA.v 13 (i.drew.alloc (.cells #[Vd kd,Vd st,Vd n,.bool H,.bool C,QZ N,QZ U,QZ D,QZ O,QZ Q,QZ J,QZ T] 152)) (Vf i.heap.size 0 1 1) (q0.alloc _) ?_;refine XA.o 14 (λK' hK=>?_);have hO:=(HO.o.drew).alloc (.cells #[Vd kd,Vd st,Vd n,.bool H,.bool C,QZ N,QZ U,QZ D,QZ O,QZ Q,QZ J,QZ T] 152);have a6:=Z.o.size;refine bY Lg (.tmp 12) (.tmp 21) rfl rfl base v m _ rfl hO (some (ar i.heap.size 0)) 1 1 [Vd kd,Vd st,Vd n,.bool H,.bool C,QZ N,QZ U,QZ D,QZ O,QZ Q,QZ J,QZ T] rfl (λk u hu=>⟨_,_,rfl,by rw [QP,PX _ i.heap.size k _ 152 (0,0) (PW i.drew _)];simpa using hu⟩) rfl V5 ap V2 V6 ?_;intro A5 c5 Y I a4 a1 a0
 have B:(Value.slice A5 (m+1) c5).ownBlock=v.ownBlock\/∀k,(Value.slice A5 (m+1) c5).ownBlock=some k->w.heap.size<=k:=by
  rcases a0 with h | h
  .exact .inl h
  .exact .inr λk hk=>by rw [h] at hk;simp at hk;omega
 have HN:=aa B;clear a0 B;have q5:Keep (λj=>v.ownBlock=some j) i Y:=(q0.alloc _).grown a1 (λk hk=>.inr hk);refine hK.out _ _ q5 λ_=>?_;refine XA.e ?_;simp only [Qq,Qs];have R:=HL.o Y q5;have e3:=QX Y L 1 _ _ (.slice A5 (m+1) c5) R;have k1:Keep (λj=>j=L) Y (Y.setCell (ar L 1) (.slice A5 (m+1) c5)):=Vk L (Keep.refl _ _) (ar L 1) (.inr rfl) _;have o6:=k1.own I (λj hj e=>ay R V0 I (by rw [hj,e]));have k6:Keep (λj=>j=L\/v.ownBlock=some j) w (Y.setCell (ar L 1) (.slice A5 (m+1) c5)):=Keep.setCell (S:=λj=>j=L\/v.ownBlock=some j) ((Keep.below Z.o).trans (q5.mono λk _ hk=>.inr hk)) (ar L 1) (.inr (.inl rfl)) _;obtain ⟨E3,O6,K6⟩:=af e3 o6 k6;have xL:=tL Y q5;clear I a4 a1 R e3 k1 o6 k6 tL t0 hK K' q5 hO;go_wp2
 go_end0
 exact ⟨rfl,_,by simpa using E3.o,O6.o,K6.o,HN.o⟩
def iq (w:R8) (L base st:Nat) (v:Value) (l:List Itm):Prop:=w.heap[L]?=some (.cells #[QZ (st:Nat),v] 276 (0,0))/\w.ownsRow base 152 12 v l.length (cE l)
def Apd (L:Nat) (w:R8) (v:Value) (h:R8) (v':Value):Prop:=Keep (λj=>j=L\/v.ownBlock=some j) w h/\(v'.ownBlock=v.ownBlock\/∀k,v'.ownBlock=some k->w.heap.size<=k)
theorem Apd.trans {a b c:R8} {v i:Value} (h:Apd L a v b v') (k:Apd L b v' c i):Apd L a v c i:=by
 refine ⟨⟨k.1.os.trans h.1.os,k.1.tape.trans h.1.tape,k.1.output.trans h.1.output,P4 h.1.size k.1.size,λj o hn=>(k.1.block j (P6 o h.1.size) λp=>?_).trans (h.1.block j o hn)⟩,?_⟩
 .rcases p with rfl | p
  .exact hn (.inl rfl)
  .rcases h.2 with x | x
   .exact hn (.inr (x▸p))
   .have:=x j p;omega
 .rcases k.2 with u | u
  .rw [u];exact h.2
  .exact .inr λj o=>P4 h.1.size (u j o)
theorem Apd.below {b c:R8} {v:Value} (h:aq b c):Apd L b v c v:=⟨Keep.below h,.inl rfl⟩
theorem Apd.refl (L:Nat) (w:R8) (v:Value):Apd L w v w v:=⟨Keep.refl _ _,.inl rfl⟩
theorem iq.below {i:R8} {st:Nat} {v:Value} {l:List Itm} (h:iq w L base st v l) (hb:aq w i):iq i L base st v l:=⟨sb h.1 _ hb,az h.2 hb⟩
theorem AA (L base o st n:Nat) (a:Option Acn) (v:Value) (l:List Itm) (w:R8) (hl:iq w L base st v l) (hb:base<=w.heap.size) (hm:l.length<=8388608):Vj 160 #[(au L),Vd o,Vd n,.agg (LV a).toArray] w λe h=>Vi e (.tuple #[])/\
   ∃v',iq h L base st v' (l++[(⟨o,st,n,a⟩:Itm)])/\Apd L w v h v':=by
 have i:∀y x p u D B C A H,LV a=[.bool y,.bool x,QZ p,QZ u,QZ D,QZ B,QZ C,QZ A,QZ H]->Vj 160 #[(au L),Vd o,Vd n,.agg (LV a).toArray] w λe h=>Vi e (.tuple #[])/\
   ∃v',iq h L base st v' (l++[(⟨o,st,n,a⟩:Itm)])/\Apd L w v h v':=by
  intro y x p u D B C A H e;rw [e];refine (MZ L base o st n l.length y x p u D B C A H v _ w hl.1 hl.2 hb hm).mono ?_;rintro J h ⟨rfl,v',h1,I,k,hn⟩;refine ⟨rfl,v',⟨h1,?_⟩,k,hn⟩;rw [fQ,Qt,bj,e];exact I
 cases a with
 | none=>exact i _ _ _ _ _ _ _ _ _ rfl
 | some a=>exact i _ _ _ _ _ _ _ _ _ rfl
theorem oC (L base st n:Nat) (o:Int) (h:Nat) (hk:(h:Int)=o) (v:Value) (l:List Itm) (w:R8) (hl:iq w L base st v l) (hb:base<=w.heap.size) (hm:l.length<=8388608):Vj 160 #[(au L),QZ o,Vd n,.agg Ri] w λe i=>Vi e (.tuple #[])/\
   ∃v',iq i L base st v' (l++[(⟨h,st,n,none⟩:Itm)])/\Apd L w v i v':=by
 subst hk;exact AA L base h st n none v l w hl hb hm
theorem GD (L base st:Nat) (o:Int) (h:Nat) (hk:(h:Int)=o) (a:Acn) (v:Value) (l:List Itm) (w:R8) (hl:iq w L base st v l) (hb:base<=w.heap.size) (hm:l.length<=8388608):Vj 160 #[(au L),QZ o,QZ 0,.agg #[.bool a.send,.bool a.add,Vd a.st,Vd a.bk,Vd a.ph,Vd a.rd,Vd a.ch,Vd a.at'.1,Vd a.at'.2]] w λe i=>Vi e (.tuple #[])/\
   ∃v',iq i L base st v' (l++[(⟨h,st,0,some a⟩:Itm)])/\Apd L w v i v':=by
 subst hk;exact AA L base h st 0 (some a) v l w hl hb hm
theorem sS {α β:Type} {g:α->List β} (hn:∀a,(g a).length=n):∀{l:List α} {i:Nat} {a:α},l[i]?=some a->∀f,f<n->(l.flatMap g)[i*n+f]?=(g a)[f]?
 | [],_,_,h,_,_=>by simp at h
 | x::l,0,a,h,f,hf=>by
  simp only [Qp,Option.some.injEq] at h;subst h;rw [List.flatMap_cons,Nat.zero_mul,QP,Qw (by rw [hn];exact hf)]
 | x::l,i+1,a,h,f,hf=>by
  simp only [Qo] at h;rw [List.flatMap_cons,Qx (by rw [hn,QM];omega),hn,show (i+1)*n+f-n=i*n+f by rw [QM];omega];exact sS hn h f hf
theorem Np (a:Acn):(aZ a).length=9:=rfl
theorem Bj {g c:Nat} {l:List Acn} {e:R9} (h:w.ownsRow base e 9 (Vf g 0 n c) n (eU l)) {a:Acn} (o:l[i]?=some a) (hl:l.length=n):
  ∀f,f<9->w.cell? (ar g (i*9+f))=(aZ a)[f]?:=λf p=>by
 have h1:i<l.length:=(Qu.1 o).1;have v:=h.1;have u:=sS Np o f p;rw [h.cellAt _ ap,eU,u]
theorem IZ {b:Rg} (h1:1<=k) (h:b.1<=b.2) (hb:b.2<=M):∀r∈dy b k,r.2<=M:=by
 intro r hr;simp only [dy,shR,fT,List.map_map,List.mem_map,List.mem_range,Function.comp] at hr;obtain ⟨i,o,rfl⟩:=hr;have c:=fU (b.2-b.1) k (i+1) h1 ap;simp only;omega
theorem vb (n c:Nat):di n c<=n:=by
 unfold di
 split
 .omega
 .have:=Nat.div_le_self (n-1) c;omega
theorem ve {b:Rg} {W c s:Nat} (h1:1<=W) (i:b.1<=b.2) (hb:b.2<=M):(chR (aK (dy b W) s) c).length<=M:=by
 rw [yE];have h:=vb ((aK (dy b W) s).2-(aK (dy b W) s).1) c;rcases Qf s (dy b W).length with hs | hs
 .have:=IZ h1 i hb _ (List.getElem_mem hs);rw [<-cZ _ _ hs] at this;omega
 .have:aK (dy b W) s=(0,0):=by simp [aK,List.getD,hs]
  rw [this] at h |-;exact P4 h (PZ _)
theorem Fi {st bk:Nat} {b:Rg} {W c w:Nat} (h1:1<=W) (h:b.1<=b.2) (hb:b.2<=M):(db st bk b W c w ph r).length<=2*M:=by
 rw [ke];have i:=ve (c:=c) (s:=cV W w ph r) h1 h hb;have o:=ve (c:=c) (s:=cH W w ph r) h1 h hb;omega
def ij (p:Pln) (w st k lo:Nat) (n:Nat):List Itm:=(List.range' lo n).flatMap λj=>cz p w st (k/(p.W-1)) (k%(p.W-1)) j
def cR (p:Pln) (w st:Nat) (g:Rg) (k:Nat):List Itm:=(List.range k).flatMap λk=>ij p w st k g.1 (g.2-g.1)
theorem pV (p:Pln) (w st k lo n:Nat):ij p w st k lo (n+1)=ij p w st k lo n++cz p w st (k/(p.W-1)) (k%(p.W-1)) (lo+n):=by
 simp [ij,List.range'_concat]
theorem ix (p:Pln) (w st:Nat) (g:Rg) (k:Nat):cR p w st g (k+1)=cR p w st g k++ij p w st k g.1 (g.2-g.1):=by
 simp [cR,QL]
theorem uA {p:Pln} {w st lo:Nat} (h:∀ph r j,(cz p w st ph r j).length<=M):(ij p w st k lo n).length<=n*M:=by
 induction n with
 | zero=>simp [ij]
 | succ n ih=>rw [pV,Qt,QM];have:=h (k/(p.W-1)) (k%(p.W-1)) (lo+n);omega
theorem j8 {p:Pln} {w st:Nat} {g:Rg} (h:∀ph r j,(cz p w st ph r j).length<=M):(cR p w st g k).length<=k*((g.2-g.1)*M):=by
 induction k with
 | zero=>simp [cR]
 | succ k ih=>rw [ix,Qt,QM];have:=uA (w:=w) (st:=st) (k:=k) (lo:=g.1) (n:=g.2-g.1) h;omega
theorem tK {p:Pln} {w st lo:Nat} (hm:p.W-1=m) (h1:k/m=ph) (h:k%m=r):ij p w st k lo n=(List.range' lo n).flatMap λj=>cz p w st ph r j:=by
 unfold ij;rw [hm,h1,h]
theorem sj (p:Pln) (w st:Nat) (g:Rg):cR p w st g (2*(p.W-1))=(List.range 2).flatMap λph=>(List.range (p.W-1)).flatMap λr=>(List.range' g.1 (g.2-g.1)).flatMap λj=>cz p w st ph r j:=by
 obtain ⟨m,hm⟩:=Vb (p.W-1);obtain ⟨F,u⟩:∃F:Nat->Nat->List Itm,(λph r=>(List.range' g.1 (g.2-g.1)).flatMap λj=>cz p w st ph r j)=F:=⟨_,rfl⟩;have h:∀ph r,((List.range' g.1 (g.2-g.1)).flatMap λj=>cz p w st ph r j)=F ph r:=λph r=>by rw [<-u]
 have o:∀k,k<=m->cR p w st g k=(List.range k).flatMap (F 0):=by
  intro k
  induction k with
  | zero=>intro _;rfl
  | succ k ih=>
   intro hk;have e:=tK (w:=w) (st:=st) (lo:=g.1) (n:=g.2-g.1) hm (Nat.div_eq_of_lt (show k<m by omega)) (Nat.mod_eq_of_lt (show k<m by omega));rw [ix,ih ap,e,h,QL,List.flatMap_append];simp only [List.flatMap_cons,List.flatMap_nil,List.append_nil]
 have h1:∀k,k<=m->cR p w st g (m+k)=cR p w st g m++(List.range k).flatMap (F 1):=by
  intro k
  induction k with
  | zero=>intro _;simp only [Nat.add_zero,List.range_zero,List.flatMap_nil,List.append_nil]
  | succ k ih=>
   intro hk;have d:(m+k)/m=1:=by rw [Nat.add_div_left k ap,Nat.div_eq_of_lt ap]
   have i:(m+k)%m=k:=by rw [Nat.add_mod_left,Nat.mod_eq_of_lt ap]
   have e:=tK (w:=w) (st:=st) (lo:=g.1) (n:=g.2-g.1) hm d i;rw [<-QO,ix,ih ap,e,h,QL,List.flatMap_append,Qz];simp only [List.flatMap_cons,List.flatMap_nil,List.append_nil]
 simp only [h];rw [hm,show 2*m=m+m by omega,h1 m (PV _),o m (PV _)]
 show _=List.flatMap (λph=>(List.range m).flatMap (F ph)) [0,1]
 simp only [List.flatMap_cons,List.flatMap_nil,List.append_nil]
structure bU (p:Pln):Prop where
 W1:1<=p.W
 W8:p.W<=8
 mi:p.mi<=20
 n:p.n<=60
 bu:1<=p.bu
 ck:1<=p.ck
 ck2:p.ck<=1048576
 wi:1<=p.wi
theorem Ek {s:Nat}:∀r∈pZ n s,r.1<=r.2/\r.2<=n:=by
 intro r hr;simp only [pZ,List.mem_reverse,fp,List.mem_map,List.mem_range] at hr;obtain ⟨i,h,rfl⟩:=hr;have:=iH h;exact ⟨by simp only;omega,by simp only;omega⟩
theorem bU.buks {p:Pln} (h:bU p):p.buks.length<=60:=by
 have:=vb p.n p.bu;have:=h.n;rw [Pln.buks,js];omega
theorem bU.buk {p:Pln} (h:bU p) (j:Nat):(aK p.buks j).1<=(aK p.buks j).2/\(aK p.buks j).2<=60:=by
 rcases Qf j p.buks.length with i | i
 .have:=Ek _ (List.getElem_mem i);rw [<-cZ _ _ i] at this;have hn:=h.n;exact ⟨this.1,ap⟩
 .have:aK p.buks j=(0,0):=by simp [aK,List.getD,i]
  rw [this];simp
theorem bU.round {p:Pln} (h:bU p) (w st ph r j:Nat):(cz p w st ph r j).length<=120:=by
 unfold cz;rw [List.length_map];exact Fi h.W1 (h.buk j).1 (h.buk j).2
theorem Cb (p:Pln) (L base st x:Nat) (lo B:Nat) (a0 a1 a2 a3 a5 a6 a7 a8 ab av aM:Value) (BA:N_) (bc:Nat) (v:Value) (l:List Itm) (w:R8) (hp:bU p) (hl:iq w L base st v l) (hb:base<=w.heap.size) (cb:Rd w BA (aS p.buks)) (bO:∀y,BA=some y->y.block<base) (hL:base<=L) (hx:x<p.W) (hg:B<=p.buks.length) (e2:l.length<=8000000):Vj 161 #[.agg #[a0,a1,a2,a3,Vd p.W,a5,a6,a7,a8,Vd p.ck,ab,av,.slice BA p.buks.length bc,aM],(au L),QZ x,.agg #[Vd lo,Vd B]] w λe u=>Vi e (.tuple #[])/\
   ∃v',iq u L base st v' (l++cR p x st (lo,B) (2*(p.W-1)))/\Apd L w v u v':=by
 obtain ⟨D,R⟩:=Vb ((w.alloc (.cells #[a0,a1,a2,a3,Vd p.W,a5,a6,a7,a8,Vd p.ck,ab,av,.slice BA p.buks.length bc,aM] 225)).alloc (.cells #[Vd lo,Vd B] 148))
 have g0:D.heap[w.heap.size]?=some (.cells #[a0,a1,a2,a3,Vd p.W,a5,a6,a7,a8,Vd p.ck,ab,av,.slice BA p.buks.length bc,aM] 225 (0,0)):=by
  rw [<-R,Qc _ _ _ V3];exact PW w _
 have g1:D.heap[w.heap.size+1]?=some (.cells #[Vd lo,Vd B] 148 (0,0)):=by
  rw [<-R];have:=PW (w.alloc (.cells #[a0,a1,a2,a3,Vd p.W,a5,a6,a7,a8,Vd p.ck,ab,av,.slice BA p.buks.length bc,aM] 225)) (.cells #[Vd lo,Vd B] 148);simpa using this
 have aG:aq w D:=by rw [<-R];exact ((br w).alloc (PV _) _).alloc V3 _
 have I:=hl.below aG;have d6:=PU I.1;have cx:=PU hl.1;have kS:=λu (q:Keep (λj=>j=L\/v.ownBlock=some j) D u)=>(q.block _ (PU g0) (λe=>e.elim (λh=>ap) (λh=>ay g0 V0 I.2 h.symm))).trans g0;have kG:=λu (q:Keep (λj=>j=L\/v.ownBlock=some j) D u)=>(q.block _ (PU g1) (λe=>e.elim (λh=>ap) (λh=>ay g1 V0 I.2 h.symm))).trans g1;have b0:Rd D BA (aS p.buks):=cb.below aG
 have kB:=λu (q:Keep (λj=>j=L\/v.ownBlock=some j) D u)=>q.rd b0 (λy hy=>by
  have:=bO y hy;rintro (h | h)
  .omega
  .have:=(hl.2.lt _ h).1;omega)
 have bA:=λj=>hp.buk j;have hrl:=λph r j=>hp.round x st ph r j;obtain ⟨m,hm⟩:=Vb (p.W-1);have cP:=hp.W1;have e1:=hp.W8;have cw:=hp.ck;have cc:=hp.ck2;have e4:=hp.buks;have e3:(p.W:Int)-1=(m:Int):=ap;obtain ⟨T,hT⟩:=Vb (2*m);have dG:(2:Int)*(m:Int)=(T:Int):=ap;have e0:IntKind.i64.wrap (m:Int)=m:=P3 _ ap;have dv:IntKind.i64.wrap (T:Int)=T:=P3 _ ap;rw [hm,hT];obtain ⟨d7,bN,cv,HS,HG,HB,cM,bd⟩:=ak R aG I kS kG kB bA hrl;obtain ⟨Hm,HT⟩:=ae hm hT;have tS:=λu (q:aq D u)=>Lz (kS u (Keep.below q));have q0:=br D;clear R g0 g1 aG I hl cb b0 kS kG kB bA hrl hm hT hp d6 cx bO;go_enter func161,ntmps161;go_wp2_with fail;rw [d7.o];clear tS q0
 go_loopw [19] (λy wr=>∃k:Nat,k<=T/\y=QZ k/\∃v',iq wr L base st v' (l++cR p x st (lo,B) k)/\Apd L D v wr v') (λy _=>T-(intOf y).toNat)
 .exact ⟨0,PZ _,rfl,v,by simpa [cR] using cv.o,Apd.refl _ _ _⟩
 case round=>
  obtain ⟨k,hk,rfl,v1,ao,A1⟩:=hrel;by_cases ds:k<T
  .have cA:(k:Int)<T:=ap;have bw:0<m:=by have:=HT.o;omega
   have dr:IntKind.i64.wrap ((k:Int)+1)=((k+1:Nat):Int):=by rw [P3 _ ap];push_cast;rfl
   obtain ⟨wq,rfl⟩:∃wq:R8,wq=wr:=⟨_,rfl⟩;have uG:=λu (q:aq wq u)=>bx2 (sb (HG.o wq A1.1) u q);have q1:=br wq;obtain ⟨b5,b4⟩:=ae ao A1;clear ao A1;go_wp2_with fail;clear uG q1
   go_loopw [9] (λy wr=>∃j:Nat,lo<=j/\(j<=B\/j=lo)/\y=QZ j/\∃v2,iq wr L base st v2 (l++cR p x st (lo,B) k++ij p x st k lo (j-lo))/\Apd L D v wr v2) (λy _=>B-(intOf y).toNat)
   .exact ⟨lo,PV _,.inr rfl,rfl,v1,by simpa [ij] using b5.o,b4.o⟩
   case round=>
    obtain ⟨j,hj,e5,rfl,v2,C,A2⟩:=hrel;have uG:=λu (q:aq wr u)=>bx2 (sb (HG.o wr A2.1) u q);by_cases dn:j<B
    .have d4:(j:Int)<B:=ap;obtain ⟨A,rfl⟩:∃A:R8,A=wr:=⟨_,rfl⟩;have d2:j<p.buks.length:=ap;have dc:(j:Int)<p.buks.length:=ap;have b3:=eO d2;obtain ⟨bb,bo,rfl,b9⟩:=HB.o A A2.1 _ _ b3.1;obtain ⟨cr,d8,e',a9⟩:=HB.o A A2.1 _ _ b3.2;obtain ⟨rfl,rfl⟩:cr=bb/\d8=bo:=by simpa using e'.symm
     rw [<-QO] at a9;have bI:=cM.o j;obtain ⟨b1,be⟩:=Vb ((aK p.buks j).1);obtain ⟨b2,b6⟩:=Vb ((aK p.buks j).2);rw [be] at b9 bI;rw [b6] at a9 bI;have d0:=λu (q:aq A u)=>aw q b9;have d1:=λu (q:aq A u)=>aw q a9;have uS:=λu (q:aq A u)=>Lz (sb (HS.o A A2.1) u q);have uL:=λu (q:aq A u)=>bx2 (sb C.1 u q);obtain ⟨H,Q,cy,d5⟩:=ag C A2 be b6;have q1:=br A;clear C A2 be b6 b3 e' b9 a9;go_wp2;refine XA.g 18 (λu:R8=>aq A u) ?_;refine XA.t ?_ [0,1,2,3,4,5,6,7,8,9,10,11,12,13,14,15,16] q1.drew ?_;refine XA.v 17 (A.drew.alloc (.cells Rj 296)) ((au A.heap.size)) (q1.drew.alloc (PV _) _) ?_;refine XA.e ?_;simp only [Qq,Qs];have cL:=PU (HG.o A Q.o.1);go_wp2_with fail;obtain ⟨Z,O⟩:=Vb ((A.alloc (.cells #[Vd st,Vd j,Vd b1,Vd b2,Vd p.W,Vd p.ck] 296)).drew);have h7:Z.heap[A.heap.size]?=some (.cells #[Vd st,Vd j,Vd b1,Vd b2,Vd p.W,Vd p.ck] 296 (0,0)):=by rw [<-O];exact PW A _
     have k7:aq A Z:=by rw [<-O];exact (q1.alloc (PV _) _).drew
     rw [O];have t7:=λu (q:aq Z u)=>bx6 (sb h7 u q);have t8:=λu (q:aq Z u)=>uS u (bt k7 q);have bX:(k:Int).tdiv (m:Int)=((k/m:Nat):Int):=rfl;have bG:(k:Int)/(m:Int)=((k/m:Nat):Int):=rfl;have bs:(k:Int).tmod (m:Int)=((k%m:Nat):Int):=rfl;have bi:(k:Int)%(m:Int)=((k%m:Nat):Int):=rfl;have dw:¬(m=0):=ap;have b8:k/m<2:=by rw [Nat.div_lt_iff_lt_mul bw];have:=HT.o;omega
     have cn:k%m<m:=Nat.mod_lt _ bw
     have e8:cz p x st (k/(p.W-1)) (k%(p.W-1)) j=(db st j (b1,b2) p.W p.ck x (k/m) (k%m)).map (fy st):=by
      unfold cz;rw [Hm.o,<-cy.o,<-d5.o]
     have hrl:=bd.o (k/(p.W-1)) (k%(p.W-1)) j;rw [e8,List.length_map] at hrl;obtain ⟨ph,V⟩:∃q,k/m=q:=⟨_,rfl⟩;obtain ⟨r,b7⟩:∃q,k%m=q:=⟨_,rfl⟩;rw [V] at bX bG b8;rw [b7] at bs bi cn;rw [V,b7] at e8 hrl;have cs:IntKind.i64.wrap (ph:Int)=ph:=P3 _ ap;obtain ⟨H7,K7,E8,a4⟩:=ag O k7 e8 hrl;have q7:=br Z;clear O h7 k7 uS uL uG d0 d1 q1 V b7 e8 hrl cL;refine HA.g (λu:R8=>aq Z u) ?_;refine HA.t ?_ [0,1,2,3,4,5,6,7,8,9,10,11,12,13,16] q7.drew ?_;refine HA.c 14 (Fh st j b1 b2 p.W p.ck x ph r _ cP ap hx b8 (by have:=Hm.o;omega) ap ap cw cc) ?_;rintro e w8 ⟨v8,rfl,o8,k8⟩;have q8:=bt q7.drew k8;refine ⟨_,rfl,q8,λ_=>?_⟩;obtain ⟨A8,c8,rfl,_⟩:=aC o8;refine HA.t ?_ [15] q8 ?_;refine HA.d ?_;simp only [Exit.then];obtain ⟨X,hX⟩:=Vb (db st j (b1,b2) p.W p.ck x ph r);rw [hX] at E8 a4 o8 |-;obtain ⟨N,hN⟩:=Vb X.length;rw [hN] at a4 o8 |-;have l8:=(H.o.below K7.o).below q8;have bl:Apd L D v w8 v2:=Q.o.trans (Apd.below (bt K7.o q8))
     have cd:=λu (q:Keep (λj=>j=L\/v2.ownBlock=some j) w8 u)=>q.own o8 (λk hk e=>by
      have h1:=(o8.lt k hk).1;have h2:=PU H.o.1;have h3:=K7.o.size;rcases e with e | e
      .have h4:Z.heap.size<=k:=h1;omega
      .have h5:k<A.heap.size:=(H.o.2.lt k e).2;have h4:Z.heap.size<=k:=h1
       omega)
     obtain ⟨L8,bh,cO,HN⟩:=ag l8 bl cd hN;clear o8 l8 bl cd k8 q8 q7 t7 t8 hX hN bX bG bs bi cs cn b8 H Q H7;go_wp2
     go_loopw [63] (λy wr=>∃i:Nat,i<=N/\y=QZ i/\∃v3,iq wr L base st v3 (l++cR p x st (lo,B) k++ij p x st k lo (j-lo)++(X.take i).map (fy st))/\Apd L w8 v2 wr v3) (λy _=>N-(intOf y).toNat)
     .exact ⟨0,PZ _,rfl,v2,by simpa using L8.o,Apd.refl _ _ _⟩
     case round=>
      obtain ⟨i,dp,rfl,v3,l3,A3⟩:=hrel;by_cases da:i<N
      .have d9:(i:Int)<N:=ap;have dT:IntKind.i64.wrap ((i:Int)+1)=((i+1:Nat):Int):=by rw [P3 _ (by have:=a4.o;omega)];push_cast;rfl
       have oX:=cO.o wr A3.1
       obtain ⟨J,rfl⟩:∃J,A8=some (ar J 0):=by
        obtain ⟨g,e,hv,_⟩:=oX.form ap;simp only [QH] at hv;exact ⟨g,hv.1⟩
       have d3:i<X.length:=by rw [HN.o];exact da
       obtain ⟨a,ha⟩:=Vb (X[i]);have co:X[i]?=some a:=by rw [<-ha];simp
       have Y:=Bj oX co HN.o;have cl:X.take (i+1)=X.take i++[a]:=by rw [List.take_succ_eq_append_getElem d3,ha]
       have aP:(l++cR p x st (lo,B) k++ij p x st k lo (j-lo)++(X.take i).map (fy st)).length<=8388608:=by
        have h1:=j8 (w:=x) (st:=st) (k:=k) (g:=(lo,B)) (M:=120) (p:=p) (λph r j=>bd.o ph r j);have h2:=uA (w:=x) (st:=st) (k:=k) (lo:=lo) (n:=j-lo) (M:=120) (p:=p) (λph r j=>bd.o ph r j);have h3:(X.take i).length<=120:=by rw [Qy];have:=a4.o;omega
        have h4:k*((B-lo)*120)<=14*(60*120):=Nat.mul_le_mul (by have:=HT.o;omega) (Nat.mul_le_mul ap (PV _));have h5:(j-lo)*120<=60*120:=Nat.mul_le_mul ap (PV _);simp only [Qt,List.length_map];dsimp only at h1;omega
       obtain ⟨snd,ad,bz,cj,bf,bn,c9,ci,bv⟩:=a;have c0:wr.cell? (ar J (i*9))=some (.bool snd):=Y 0 ap;have c1:wr.cell? (ar J (i*9+1))=some (.bool ad):=Y 1 ap;have c2:wr.cell? (ar J (i*9+2))=some (Vd bz):=Y 2 ap;have c3:wr.cell? (ar J (i*9+3))=some (Vd cj):=Y 3 ap;have c4:wr.cell? (ar J (i*9+4))=some (Vd bf):=Y 4 ap;have c5:wr.cell? (ar J (i*9+5))=some (Vd bn):=Y 5 ap;have c6:wr.cell? (ar J (i*9+6))=some (Vd c9):=Y 6 ap;have c7:wr.cell? (ar J (i*9+7))=some (Vd ci):=Y 7 ap;have c8:wr.cell? (ar J (i*9+8))=some (Vd bv):=Y 8 ap;have U:=λ(kd:Int) (kn:Nat) hk u (q:aq wr u)=>GD L base st kd kn hk ⟨snd,ad,bz,cj,bf,bn,c9,ci,bv⟩ v3 _ u (l3.below q) (P4 (P4 hb (P4 bN.o.size (bh.o.trans A3).1.size)) q.size) aP;dsimp only at U;obtain ⟨bM,aR,bV⟩:=af A3 U cl;clear oX Y l3 A3 U cl co aP
       cases snd
       .go_wp2_with fail;refine (aR.o 4 4 rfl _ ((br wr).alloc (PV _) _)).mono ?_;rintro e w9 ⟨rfl,v9,l9,A9⟩;obtain ⟨L9,B9⟩:=ae l9 (bM.o.trans ((Apd.below ((br wr).alloc (PV _) _)).trans A9));clear l9 A9 c0 c1 c2 c3 c4 c5 c6 c7 c8;go_wp2;go_roundw
        .exact ⟨i+1,ap,Vc,v9,by rw [bV.o,List.map_append,<-Qz];exact L9.o,B9.o⟩
        .simp [intOf];omega
       .go_wp2_with fail;refine (aR.o 3 3 rfl _ ((br wr).alloc (PV _) _)).mono ?_;rintro e w9 ⟨rfl,v9,l9,A9⟩;obtain ⟨L9,B9⟩:=ae l9 (bM.o.trans ((Apd.below ((br wr).alloc (PV _) _)).trans A9));clear l9 A9 c0 c1 c2 c3 c4 c5 c6 c7 c8;go_wp2;go_roundw
        .exact ⟨i+1,ap,Vc,v9,by rw [bV.o,List.map_append,<-Qz];exact L9.o,B9.o⟩
        .simp [intOf];omega
      .obtain rfl:N=i:=ap;have d9:¬((N:Int)<N):=ap;have dk:IntKind.i64.wrap ((j:Int)+1)=((j+1:Nat):Int):=by rw [P3 _ ap];push_cast;rfl
       rw [List.take_of_length_le (by rw [HN.o];exact PV _),<-E8.o,Qz,show ij p x st k lo (j-lo)++cz p x st (k/(p.W-1)) (k%(p.W-1)) j=ij p x st k lo (j+1-lo) from by rw [show j+1-lo=(j-lo)+1 by omega,pV,show lo+(j-lo)=j by omega]] at l3;obtain ⟨L3,B3⟩:=ae l3 (bh.o.trans A3);clear l3 A3;go_wp2;go_roundw
       .exact ⟨j+1,ap,ap,Vc,v3,L3.o,B3.o⟩
       .simp [intOf];omega
    .have d4:¬((j:Int)<B):=ap;have q1:=br wr;rw [show j-lo=B-lo by omega] at C;have e:=ix p x st (lo,B) k;dsimp only at e;rw [Qz,<-e] at C;obtain ⟨H,Q⟩:=ae C A2;clear C A2 e;go_wp2;go_roundw
     .exact ⟨k+1,ap,Vc,v2,H.o,Q.o⟩
     .simp [intOf];omega
  .obtain rfl:T=k:=ap;have cA:¬((T:Int)<T):=ap;obtain ⟨b5,b4⟩:=ae ao A1;clear ao A1;go_wp2
   go_end0
   exact ⟨rfl,v1,b5.o,(Apd.below (v:=v) (bt (br w) (bN.o))).trans b4.o⟩
theorem LE {s:Nat}:∀r∈fp n s,r.1<=r.2/\r.2<=n:=by
 intro r hr;simp only [fp,List.mem_map,List.mem_range] at hr;obtain ⟨i,h,rfl⟩:=hr;have:=iH h;exact ⟨by simp only;omega,by simp only;omega⟩
theorem bU.grp {p:Pln} (h:bU p) (o:i<p.grps.length):(aK p.grps i).1<=(aK p.grps i).2/\(aK p.grps i).2<=p.buks.length:=by
 have:=LE _ (List.getElem_mem o)
 rwa [<-cZ _ _ o] at this
theorem bU.grps {p:Pln} (h:bU p):p.grps.length<=60:=by
 have:=vb p.buks.length p.wi;have:=h.buks;rw [Pln.grps,fj];omega
theorem GM {p:Pln} (h:bU p) (w st:Nat) (g:Rg) (hg:g.2-g.1<=60):(dt p w st g).length<=100920:=by
 unfold dt;rw [<-sj];simp only [Qt,List.length_map,List.length_range'];have h1:=j8 (w:=w) (st:=st) (k:=2*(p.W-1)) (g:=g) (M:=120) (p:=p) (λph r j=>h.round w st ph r j);have i:=h.W8;have o:2*(p.W-1)*((g.2-g.1)*120)<=14*(60*120):=Nat.mul_le_mul ap (Nat.mul_le_mul hg (PV _));omega
def dS (p:Pln) (w st k:Nat):List Itm:=(List.range p.mi).map (λa=>(⟨1,st,a,none⟩:Itm))++(p.grps.take k).flatMap (dt p w st)
theorem pY {p:Pln} (w st:Nat) (hk:k<p.grps.length):dS p w st (k+1)=dS p w st k++dt p w st (aK p.grps k):=by
 unfold dS;rw [List.take_succ_eq_append_getElem hk,<-cZ _ _ hk,List.flatMap_append,<-Qz];simp
theorem nF {p:Pln} (h:bU p) (w st:Nat) (hk:k<=p.grps.length):(dS p w st k).length<=20+k*100920:=by
 induction k with
 | zero=>have:=h.mi;simp [dS];omega
 | succ k ih=>
  have h1:=h.grp (show k<p.grps.length by omega);have i:=h.buks;have:=GM h w st (aK p.grps k) ap;rw [pY w st ap,Qt];have:=ih ap;omega
def dD (st lo n:Nat) (h:Nat):List Itm:=(List.range' lo n).map (λj=>(⟨h,st,j,none⟩:Itm))
theorem mT (st lo n h:Nat):dD st lo (n+1) h=dD st lo n h++[(⟨h,st,lo+n,none⟩:Itm)]:=by simp [dD,List.range'_concat]
theorem jT (st lo n h:Nat):(dD st lo n h).length=n:=by simp [dD]
theorem xg (p:Pln) (w st lo h:Nat):dt p w st (lo,h)=dD st lo (h-lo) 2++cR p w st (lo,h) (2*(p.W-1))++dD st lo (h-lo) 5:=by
 rw [sj];rfl
theorem sB (st k:Nat):(List.range (k+1)).map (λa=>(⟨1,st,a,none⟩:Itm))=(List.range k).map (λa=>(⟨1,st,a,none⟩:Itm))++[(⟨1,st,k,none⟩:Itm)]:=by simp [QL]
theorem wZ (p:Pln) (st x:Nat) (a0 a1 a2 a3 a5 a7 a8 O U:Value) (BA GA:N_) (bc gc:Nat) (w:R8) (hp:bU p) (hx:x<p.W) (bn:Rd w BA (aS p.buks)) (bd:Rd w GA (aS p.grps)) (aR:∀y,BA=some y->y.block<w.heap.size) (bs:∀y,GA=some y->y.block<w.heap.size):Vj 126 #[.agg #[a0,a1,a2,a3,Vd p.W,a5,Vd p.mi,a7,a8,Vd p.ck,O,U,.slice BA p.buks.length bc,.slice GA p.grps.length gc],QZ x,Vd st] w λe u=>∃v,Vi e v/\u.ownsRow w.heap.size 152 12 v (aE p x st).length (cE (aE p x st))/\aq w u:=by
 obtain ⟨C,L⟩:=Vb ((w.alloc (.cells #[a0,a1,a2,a3,Vd p.W,a5,Vd p.mi,a7,a8,Vd p.ck,O,U,.slice BA p.buks.length bc,.slice GA p.grps.length gc] 225)).alloc (.cells #[Vd st,Ra] 276))
 have g0:C.heap[w.heap.size]?=some (.cells #[a0,a1,a2,a3,Vd p.W,a5,Vd p.mi,a7,a8,Vd p.ck,O,U,.slice BA p.buks.length bc,.slice GA p.grps.length gc] 225 (0,0)):=by
  rw [<-L,Qc _ _ _ V3];exact PW w _
 have g1:C.heap[w.heap.size+1]?=some (.cells #[Vd st,Ra] 276 (0,0)):=by
  rw [<-L];have:=PW (w.alloc (.cells #[a0,a1,a2,a3,Vd p.W,a5,Vd p.mi,a7,a8,Vd p.ck,O,U,.slice BA p.buks.length bc,.slice GA p.grps.length gc] 225)) (.cells #[Vd st,Ra] 276);simpa using this
 have a4:aq w C:=by rw [<-L];exact ((br w).alloc (PV _) _).alloc V3 _
 have b7:iq C (w.heap.size+1) (w.heap.size+1) st (Ra) []:=⟨g1,Qb _ _ _ _⟩;have bf:w.heap.size+1+1=C.heap.size:=by rw [<-L];simp
 have hz:w.heap.size+1<C.heap.size:=ap;have kS:=λu (q:Keep (λj=>j=w.heap.size+1\/(Value.slice none 0 0).ownBlock=some j) C u)=>(q.block _ (PU g0) (λe=>e.elim (λh=>ap) (λh=>by cases h))).trans g0
 have ad:Rd C BA (aS p.buks):=bn.below a4;have ab:Rd C GA (aS p.grps):=bd.below a4
 have kB:=λu (q:Keep (λj=>j=w.heap.size+1\/(Value.slice none 0 0).ownBlock=some j) C u)=>q.rd ad (λy hy=>by
  have:=aR y hy;rintro (h | h)
  .omega
  .cases h)
 have kG:=λu (q:Keep (λj=>j=w.heap.size+1\/(Value.slice none 0 0).ownBlock=some j) C u)=>q.rd ab (λy hy=>by
  have:=bs y hy;rintro (h | h)
  .omega
  .cases h)
 have cf:=hp.grps;have aM:=hp.buks;have cj:=hp.mi;obtain ⟨cb,bX,bN,HS,c7,bl,V,c8⟩:=ak L a4 b7 kS kB kG bf aR;have tS:=λu (q:aq C u)=>Lz (kS u (Keep.below q));have q0:=br C;clear L g0 g1 a4 b7 bn ad bd ab kS kB kG bf aR bs;go_enter func126,ntmps126;go_wp2_with fail;rw [cb.o];clear tS q0
 go_loopw [22] (λy wr=>∃k:Nat,k<=p.mi/\y=QZ k/\∃v',iq wr (w.heap.size+1) (w.heap.size+1) st v' ((List.range k).map (λa=>(⟨1,st,a,none⟩:Itm)))/\Apd (w.heap.size+1) C (Value.slice none 0 0) wr v') (λy _=>p.mi-(intOf y).toNat)
 .exact ⟨0,PZ _,rfl,_,bN.o,Apd.refl _ _ _⟩
 case round=>
  obtain ⟨k,hk,rfl,v1,l1,A1⟩:=hrel;by_cases Z:k<p.mi
  .have aG:(k:Int)<p.mi:=ap;have b9:IntKind.i64.wrap ((k:Int)+1)=((k+1:Nat):Int):=by rw [P3 _ ap];push_cast;rfl
   have hc:=oC (w.heap.size+1) (w.heap.size+1) st k 1 1 rfl v1 _ wr l1 (by have:=A1.1.size;have:=V.o;omega) V6;obtain ⟨Hc,av⟩:=ae hc A1;clear hc A1 l1;go_wp2_with fail;refine Hc.o.mono ?_;rintro e w5 ⟨rfl,v5,H,T⟩;rw [<-sB] at H;obtain ⟨L5,B5⟩:=ae H (av.o.trans T);clear H T;go_wp2;go_roundw
   .exact ⟨k+1,ap,Vc,v5,L5.o,B5.o⟩
   .simp [intOf];omega
  .obtain rfl:p.mi=k:=ap;have aG:¬((p.mi:Int)<p.mi):=ap;have tS:=λu (q:aq wr u)=>Lz (sb (HS.o wr A1.1) u q);have q0:=br wr;obtain ⟨bO,av⟩:=ae l1 A1;clear l1 A1;go_wp2_with fail;clear tS q0
   go_loopw [33] (λy wr=>∃k:Nat,k<=p.grps.length/\y=QZ k/\∃v',iq wr (w.heap.size+1) (w.heap.size+1) st v' (dS p x st k)/\Apd (w.heap.size+1) C (Value.slice none 0 0) wr v') (λy _=>p.grps.length-(intOf y).toNat)
   .exact ⟨0,PZ _,rfl,_,by simpa [dS] using bO.o,av.o⟩
   case round=>
    obtain ⟨k,hk,rfl,v2,l2,A2⟩:=hrel;by_cases Z:k<p.grps.length
    .have aG:(k:Int)<p.grps.length:=ap;have cn:IntKind.i64.wrap ((k:Int)+1)=((k+1:Nat):Int):=by rw [P3 _ ap];push_cast;rfl
     obtain ⟨wi,rfl⟩:∃wi:R8,wi=wr:=⟨_,rfl⟩;have ao:=eO Z;obtain ⟨bb,bo,rfl,b2⟩:=bl.o wi A2.1 _ _ ao.1;obtain ⟨b5,bv,e',Y⟩:=bl.o wi A2.1 _ _ ao.2;obtain ⟨rfl,rfl⟩:b5=bb/\bv=bo:=by simpa using e'.symm
     rw [<-QO] at Y;have a9:=hp.grp Z;have J:=pY (p:=p) x st Z;have I:=nF hp x st hk;obtain ⟨lo,i,bA⟩:∃lo i,aK p.grps k=(lo,i):=⟨_,_,rfl⟩;rw [bA] at a9 b2 Y J;rw [xg] at J;dsimp only at a9 b2 Y;obtain ⟨W3,a6⟩:=Vb (wi.alloc (.cells #[Vd lo,Vd i] 148));have h3:W3.heap[wi.heap.size]?=some (.cells #[Vd lo,Vd i] 148 (0,0)):=by rw [<-a6];exact PW wi _
     have k3:aq wi W3:=by rw [<-a6];exact (br wi).alloc (PV _) _
     have cl:(w.heap.size+1)<wi.heap.size:=by have:=A2.1.size;have:=V.o;omega
     have b4:=l2.below k3;have b8:=λu (q:Keep (λj=>j=(w.heap.size+1)\/v2.ownBlock=some j) W3 u)=>(q.block _ (PU h3) (λe=>e.elim (λh=>ap) (λh=>ay h3 V0 b4.2 h.symm))).trans h3;have b6:(w.heap.size+1)<=W3.heap.size:=by have:=k3.size;omega
     have bw:=A2.trans (Apd.below k3);obtain ⟨c6,b0,b3,aP,c9,bi,R⟩:=aj a6 b8 b6 bw b4 J I;clear a6 h3 k3 b4 b8 b6 bw J I l2 A2 ao e' bA;go_wp2_with fail;rw [c6.o];clear b2 Y
     have hrl:(cR p x st (lo,i) (2*(p.W-1))).length<=100800:=by
      have h1:=j8 (w:=x) (st:=st) (k:=2*(p.W-1)) (g:=(lo,i)) (M:=120) (p:=p) (λph r j=>hp.round x st ph r j);have h2:=hp.W8;have h4:2*(p.W-1)*((i-lo)*120)<=14*(60*120):=Nat.mul_le_mul ap (Nat.mul_le_mul ap (PV _));dsimp only at h1;omega
     have bz:=aa hrl;clear hrl
     go_loopw [12] (λy wr=>∃j:Nat,lo<=j/\j<=i/\y=QZ j/\∃v3,iq wr (w.heap.size+1) (w.heap.size+1) st v3 (dS p x st k++dD st lo (j-lo) 2)/\Apd (w.heap.size+1) W3 v2 wr v3) (λy _=>i-(intOf y).toNat)
     .exact ⟨lo,PV _,a9.1,rfl,v2,by simpa [dD] using c9.o,Apd.refl _ _ _⟩
     case round=>
      obtain ⟨j,hj,cd,rfl,v3,Q,D⟩:=hrel;have uR:=λu (q:aq wr u)=>bx2 (sb (b0.o wr D.1) u q);have q1:=br wr;by_cases bI:j<i
      .have b1:(j:Int)<i:=ap;have b9:IntKind.i64.wrap ((j:Int)+1)=((j+1:Nat):Int):=by rw [P3 _ ap];push_cast;rfl
       have e:dS p x st k++dD st lo (j+1-lo) 2=(dS p x st k++dD st lo (j-lo) 2)++[(⟨2,st,j,none⟩:Itm)]:=by rw [show j+1-lo=(j-lo)+1 by omega,mT,show lo+(j-lo)=j by omega];simp only [Qz]
       have A:(dS p x st k++dD st lo (j-lo) 2).length<=8388608:=by
        have:=R.o;have:=bz.o;simp only [Qt,jT];omega
       have hc:=oC (w.heap.size+1) (w.heap.size+1) st j 2 2 rfl v3 _ wr Q (by have:=D.1.size;have:=b3.o;omega) A;obtain ⟨Hc,N,He⟩:=af hc D e;clear hc D e Q A;go_wp2_with fail;refine Hc.o.mono ?_;rintro e w5 ⟨rfl,v5,H,T⟩;rw [<-He.o] at H;obtain ⟨L5,B5⟩:=ae H (N.o.trans T);clear H T uR q1;go_wp2;go_roundw
       .exact ⟨j+1,ap,ap,Vc,v5,L5.o,B5.o⟩
       .simp [intOf];omega
      .have b1:¬((j:Int)<i):=ap;obtain rfl:i=j:=ap;have uS:=λu (q:aq wr u)=>Lz (sb (HS.o wr (aP.o.trans D).1) u q)
       have be:=Cb p (w.heap.size+1) (w.heap.size+1) st x lo i a0 a1 a2 a3 a5 (Vd p.mi) a7 a8 O U (.slice (some (ar b5 bv)) p.grps.length gc) BA bc v3 _ wr hp Q (by have:=D.1.size;have:=b3.o;omega) (c7.o wr (aP.o.trans D).1) (λy hy=>by have:=c8.o y hy;omega) (PV _) hx ap (by
        have:=R.o;simp only [Qt,jT]
        omega)
       obtain ⟨bG,N⟩:=ae be D;clear be D Q;go_wp2_with fail;refine bG.o.mono ?_;rintro e w6 ⟨rfl,v6,l6,A6⟩;have A7:=N.o.trans A6;have bM:=λu (q:aq w6 u)=>bx2 (sb (b0.o w6 A7.1) u q);have q6:=br w6;obtain ⟨L6,cc⟩:=ae l6 A7;clear l6 A7 A6 uR q1 uS;go_wp2_with fail;clear bM q6
       go_loopw [13] (λy wr=>∃j:Nat,lo<=j/\j<=i/\y=QZ j/\∃v3,iq wr (w.heap.size+1) (w.heap.size+1) st v3 ((dS p x st k++dD st lo (i-lo) 2++cR p x st (lo,i) (2*(p.W-1)))++dD st lo (j-lo) 5)/\Apd (w.heap.size+1) W3 v2 wr v3) (λy _=>i-(intOf y).toNat)
       .exact ⟨lo,PV _,a9.1,rfl,v6,by simpa [dD] using L6.o,cc.o⟩
       case round=>
        obtain ⟨j,hj,cd,rfl,v3,Q,D⟩:=hrel;have uR:=λu (q:aq wr u)=>bx2 (sb (b0.o wr D.1) u q);have q1:=br wr;by_cases bI:j<i
        .have b1:(j:Int)<i:=ap;have b9:IntKind.i64.wrap ((j:Int)+1)=((j+1:Nat):Int):=by rw [P3 _ ap];push_cast;rfl
         have e:(dS p x st k++dD st lo (i-lo) 2++cR p x st (lo,i) (2*(p.W-1)))++dD st lo (j+1-lo) 5=((dS p x st k++dD st lo (i-lo) 2++cR p x st (lo,i) (2*(p.W-1)))++dD st lo (j-lo) 5)++[(⟨5,st,j,none⟩:Itm)]:=by rw [show j+1-lo=(j-lo)+1 by omega,mT,show lo+(j-lo)=j by omega];simp only [Qz]
         have A:((dS p x st k++dD st lo (i-lo) 2++cR p x st (lo,i) (2*(p.W-1)))++dD st lo (j-lo) 5).length<=8388608:=by
          have:=R.o;have:=bz.o;simp only [Qt,jT];omega
         have hc:=oC (w.heap.size+1) (w.heap.size+1) st j 5 5 rfl v3 _ wr Q (by have:=D.1.size;have:=b3.o;omega) A;obtain ⟨Hc,N,He⟩:=af hc D e;clear hc D e Q A;go_wp2_with fail;refine Hc.o.mono ?_;rintro e w5 ⟨rfl,v5,H,T⟩;rw [<-He.o] at H;obtain ⟨L5,B5⟩:=ae H (N.o.trans T);clear H T uR q1;go_wp2;go_roundw
         .exact ⟨j+1,ap,ap,Vc,v5,L5.o,B5.o⟩
         .simp [intOf];omega
        .have b1:¬((j:Int)<i):=ap;obtain rfl:i=j:=ap;rw [Qz,Qz] at Q;rw [show dS p x st k++(dD st lo (i-lo) 2++(cR p x st (lo,i) (2*(p.W-1))++dD st lo (i-lo) 5))=dS p x st (k+1) by rw [bi.o];simp only [Qz]] at Q;obtain ⟨L9,B9⟩:=ae Q (aP.o.trans D);clear Q D;go_wp2;go_roundw
         .exact ⟨k+1,ap,Vc,v3,L9.o,B9.o⟩
         .simp [intOf];omega
    .have aG:¬((k:Int)<p.grps.length):=ap;have bh:k=p.grps.length:=ap;have I:=nF hp x st hk;have hc:=oC (w.heap.size+1) (w.heap.size+1) st 0 6 6 rfl v2 _ wr l2 (by have:=A2.1.size;have:=V.o;omega) ap
     have e:dS p x st k++[(⟨6,st,0,none⟩:Itm)]=aE p x st:=by
      unfold dS aE;rw [bh,QF]
     rw [e] at hc;obtain ⟨Hc,bV⟩:=ae hc A2;clear hc A2 l2 e bh I;go_wp2_with fail;refine Hc.o.mono ?_;rintro e w5 ⟨rfl,v5,H,T⟩
     have aM:=(bV.o.trans T).1.toBelow (B:=w.heap.size) (by have:=V.o;omega) (by
      rintro j (rfl | hj)
      .omega
      .cases hj)
     have xL:=bx2 H.1;have ci:=PU H.1;obtain ⟨O5,HB⟩:=ae (aF (base':=w.heap.size) H.2 ap) (bX.o.trans aM);clear H T aM;go_wp2;go_ret;exact ⟨_,rfl,O5.o,HB.o⟩
def nD (p:Pln) (m:Nat):Q_:=(List.range m).map λx=>((aE p x 0).length:Int)
theorem CP (p:Pln) (m:Nat):nD p (m+1)=nD p m++[((aE p m 0).length:Int)]:=by simp [nD,QL]
theorem wV (p:Pln) (m:Nat):(nD p m).length=m:=by simp [nD]
def fz (w:R8) (P:Nat) (p:Pln) (v a1 x B C y h:Value):Prop:=∃BA bc o A i u,w.heap[P]?=some (.cells #[v,a1,x,B,QZ (p.W:Nat),C,QZ (p.mi:Nat),y,QZ (p.bu:Nat),QZ (p.ck:Nat),QZ (p.wi:Nat),h,.slice BA p.buks.length bc,.slice o p.grps.length A,.slice i p.W u] 227 (0,0))/\Rd w BA (aS p.buks)/\Rd w o (aS p.grps)/\Rd w i (aA .i64 (nD p p.W))
theorem fz.below {u:R8} {P:Nat} {p:Pln} {o v y A i:Value} (h:fz w P p o a1 v y A x i) (hb:aq w u):fz u P p o a1 v y A x i:=by
 obtain ⟨BA,bc,L,I,H,B,h1,C,J,D⟩:=h;exact ⟨BA,bc,L,I,H,B,sb h1 _ hb,C.below hb,J.below hb,D.below hb⟩
theorem fz.agr {u v:R8} {P:Nat} {p:Pln} {o A C y i:Value} (h:fz (gt B u) P p o a1 x A C y i) (hb:Agr B u v):fz v P p o a1 x A C y i:=by
 obtain ⟨BA,bc,O,L,J,D,h1,H,N,I⟩:=h;exact ⟨BA,bc,O,L,J,D,tt (xs:=[_,_,_,_,_,_,_,_,_,_,_,_,_,_]) h1 hb,mx H hb,mx N hb,mx I hb⟩
theorem FF (p:Pln) (R a1 T U Q I A:Value) (w:R8) (hp:bU p) (hn:1<=p.n) (cb:p.bu<=1048576) (bX:p.wi<=1048576) (b7:∀x,aq w x->Vj 76 #[.agg #[R,a1,T,U,Vd p.W,Q,Vd p.mi,I,Vd p.bu,Vd p.ck,Vd p.wi,A]] x λe a8=>Vi e (QZ 0)/\aq x a8):Vj 82 #[.agg #[R,a1,T,U,Vd p.W,Q,Vd p.mi,I,Vd p.bu,Vd p.ck,Vd p.wi,A],Vd p.n] w λe x=>∃P,Vi e (.tuple #[(au P),.bool true])/\w.heap.size<=P/\fz (gt w.heap.size x) P p R a1 T U Q I A/\aq w x:=by
 obtain ⟨W0,a4⟩:=Vb (w.alloc (.cells #[R,a1,T,U,Vd p.W,Q,Vd p.mi,I,Vd p.bu,Vd p.ck,Vd p.wi,A] 24));have g0:Vg W0 w.heap.size #[R,a1,T,U,Vd p.W,Q,Vd p.mi,I,Vd p.bu,Vd p.ck,Vd p.wi,A] 24:=by rw [<-a4];exact PW w _
 have a6:aq w W0:=by rw [<-a4];exact (br w).alloc (PV _) _
 have bi:=λx (q:aq W0 x)=>b7 x (a6.trans (q.mono a6.size));have t0:=λx q=>lL (sb g0 x q);have co:¬((p.n:Int)<1):=ap;have cn:=hp.n;have cL:¬((p.n:Int)>1048576):=ap;have cv:¬(1048576<(p.n:Int)):=ap;have cx:=hp.W1;have cy:=hp.W8;have bn:=hp.bu;have b2:=hp.wi;have ad:p.buks=pZ p.n p.bu:=rfl;have ab:p.grps=fp p.buks.length p.wi:=rfl;have cw:=hp.buks;obtain ⟨cf,N,bM,cA,bd,bf⟩:=ai a4 a6 bi g0 ad ab;have q0:=br W0;clear a4 g0 a6 bi b7 ad ab;go_enter func82,ntmps82;go_wp2_with fail;rw [cf.o];refine (bM.o _ q0).mono ?_;rintro e w1 ⟨rfl,k1⟩;have q1:=bt q0 k1;go_wp2_with fail;refine (Be p.n p.bu _ ap bn cb).mono ?_;rintro e w2 ⟨v2,rfl,o2,k2⟩;have q2:=bt q1 k2;rw [<-bd.o] at o2;obtain ⟨BA,bc,rfl,_⟩:=aC o2;go_wp2;refine HA.g (λx:R8=>aq W0 x) ?_;refine HA.t ?_ [0,1,2,3,4,5] q2.drew ?_;refine HA.c 6 (CT p.buks.length p.wi _ ap b2 bX) ?_;rintro e C ⟨v3,rfl,o3,k3⟩;have q3:=bt q2.drew k3;rw [<-bf.o] at o3;obtain ⟨GA,gc,rfl,_⟩:=aC o3;refine ⟨_,rfl,q3,λ_=>?_⟩;refine HA.t ?_ [7,8] q3 ?_;obtain ⟨D,O⟩:=Vb (C.alloc (.cells #[R,a1,T,U,Vd p.W,Q,Vd p.mi,I,Vd p.bu,Vd p.ck,Vd p.wi,A,.slice BA p.buks.length bc,.slice GA p.grps.length gc,Ra] 227));have k5:aq C D:=by rw [<-O];exact (br C).alloc (PV _) _
 refine HA.v 9 D ((au C.heap.size)) (bt q3 k5) ?_ (he:=by subst O;go_simp);refine HA.t ?_ [10] (bt q3 k5) ?_;refine HA.d ?_;simp only [Exit.then];have g5:Vg D C.heap.size #[R,a1,T,U,Vd p.W,Q,Vd p.mi,I,Vd p.bu,Vd p.ck,Vd p.wi,A,.slice BA p.buks.length bc,.slice GA p.grps.length gc,Ra] 227:=by rw [<-O];exact PW C _
 have Z:D.heap.size=C.heap.size+1:=by rw [<-O];simp
 have q5:=bt q3 k5;have be:=(N.o.trans (q2.mono N.o.size));have b9:w.heap.size<=C.heap.size:=P4 be.size (P4 (PV _) k3.size);have aM:=az (az (bZ o2 1) k3) k5;have aR:=az o3 k5;have b6:=Rd.own aM;have bo:=Rd.own aR;have c8:∀y,BA=some y->y.block<D.heap.size:=λy i=>(kl aM y i).2;have bz:∀y,GA=some y->y.block<D.heap.size:=λy i=>(kl aR y i).2;have a9:∀y,BA=some y->w.heap.size<=y.block/\y.block<C.heap.size:=λy i=>⟨P4 (P4 N.o.size q1.size) (kl o2 y i).1,P6 (kl o2 y i).2 k3.size⟩;have ao:∀y,GA=some y->w.heap.size<=y.block/\y.block<C.heap.size:=λy i=>⟨P4 be.size (kl o3 y i).1,(kl o3 y i).2⟩;obtain ⟨b3,bv,J,L,H5,bh,bV,b1⟩:=ak b6 bo a9 ao g5 Z q5 b9;have t5:=λx q=>t0 x (bt q5 q);have bA:=br D;clear O g5 Z aM aR o2 o3 b6 bo c8 bz a9 ao k3 k5 q0 q1 q2 q3 q5 t0 b9;go_wp2_with fail;clear t5 bA
 go_loopw [36] (λy wr=>∃m:Nat,m<=p.W/\y=QZ m/\∃v,Vg wr C.heap.size #[R,a1,T,U,Vd p.W,Q,Vd p.mi,I,Vd p.bu,Vd p.ck,Vd p.wi,A,.slice BA p.buks.length bc,.slice GA p.grps.length gc,v] 227/\wr.ownsRow D.heap.size 3 1 v m (aA .i64 (nD p m))/\Keep (λj=>j=C.heap.size) D wr) (λy _=>p.W-(intOf y).toNat)
 .exact ⟨0,PZ _,rfl,_,H5.o,Qb _ _ _ _,Keep.refl _ _⟩
 case round=>
  obtain ⟨m,hm,rfl,v,hP,V,H⟩:=hrel;by_cases bN:m<p.W
  .have c9:(m:Int)<p.W:=ap;have cs:IntKind.i64.wrap ((m:Int)+1)=((m+1:Nat):Int):=by rw [P3 _ ap];push_cast;rfl
   have bG:=PU hP;have kP:=λx (q:Keep (λj=>v.ownBlock=some j) wr x)=>(q.block _ bG (λh=>ay hP V0 V h.symm)).trans hP;have tP:=λx q=>jB (kP x q);have Z:=bh.o
   have bb:∀x,Keep (λj=>v.ownBlock=some j) wr x->Vj 126 #[.agg #[R,a1,T,U,Vd p.W,Q,Vd p.mi,I,Vd p.bu,Vd p.ck,Vd p.wi,A,.slice BA p.buks.length bc,.slice GA p.grps.length gc],Vd m,QZ 0] x λe a8=>∃v,Vi e v/\a8.ownsRow x.heap.size 152 12 v (aE p m 0).length (cE (aE p m 0))/\aq x a8:=λx q=>
    wZ p 0 m R a1 T U Q I (Vd p.bu) (Vd p.wi) A BA GA bc gc x hp bN
     (q.rd (H.rd b3.o (λy i=>by have:=J.o y i;omega)) (λy i e=>by have:=(V.lt _ e).1;have:=J.o y i;omega))
     (q.rd (H.rd bv.o (λy i=>by have:=L.o y i;omega)) (λy i e=>by have:=(V.lt _ e).1;have:=L.o y i;omega))
     (λy i=>by have:=J.o y i;have:=q.size;have:=H.size;omega) (λy i=>by have:=L.o y i;have:=q.size;have:=H.size;omega)
   have cj:(aE p m 0).length<=8000000:=by
    have h1:=nF hp m 0 (PV p.grps.length);have h2:=hp.grps;have:(aE p m 0).length=(dS p m 0 p.grps.length).length+1:=by simp [aE,dS];omega
    omega
   have bI:=H.size;obtain ⟨bO,b8,HO,HK⟩:=ag kP bb V H;have q0:Keep (λj=>v.ownBlock=some j) wr wr.drew:=(Keep.refl _ _).drew;obtain ⟨n,hn⟩:=Vb ((aE p m 0).length);have b0:=CP p m;rw [hn] at cj b8 b0;have cc:=aa b0;clear kP bb hP V H hn b0;go_wp2;refine XA.g 14 (λx:R8=>Keep (λj=>v.ownBlock=some j) wr x) ?_;refine XA.t ?_ [0,1,2,3,4,5,6,7,8,9] q0 ?_;refine XA.c 10 (b8.o _ q0) ?_;rintro e w6 ⟨v6,rfl,o6,k6⟩;obtain ⟨A6,c6,rfl,_⟩:=aC o6;have q6:Keep (λj=>v.ownBlock=some j) wr w6:=q0.trans (Keep.below k6);refine ⟨_,rfl,q6,λ_=>?_⟩;refine XA.t ?_ [11] q6 ?_;refine XA.v 12 (w6.alloc (.cells #[Vd n] 3)) (Vf w6.heap.size 0 1 1) (q6.alloc _) ?_;refine XA.o 13 (λK' bs=>?_);have b4:=(az (HO.o.drew) k6).alloc (.cells #[Vd n] 3);have cr:=q6.size;refine bY gi (.tmp 43) (.tmp 51) rfl rfl D.heap.size v m _ rfl b4 (some (ar w6.heap.size 0)) 1 1 [Vd n] rfl (λk u hu=>⟨_,_,rfl,by rw [QP,PX _ w6.heap.size k _ 3 (0,0) (PW w6 _)];simpa using hu⟩) rfl V5 ap V2 V6 ?_;intro A7 c7 w7 aG cl bl _;have Y:Keep (λj=>v.ownBlock=some j) wr w7:=(q6.alloc _).grown bl (λk hk=>.inr hk);refine bs.out _ _ Y λ_=>?_;refine XA.e ?_;simp only [Qq,Qs];have aP:=bO.o w7 Y;have e3:=QX w7 C.heap.size 14 _ _ (.slice A7 (m+1) c7) aP;have k1:Keep (λj=>j=C.heap.size) w7 (w7.setCell (ar C.heap.size 14) (.slice A7 (m+1) c7)):=Vk C.heap.size (Keep.refl _ _) (ar C.heap.size 14) (.inr rfl) _;have o8:=k1.own aG (λj hj e=>ay aP V0 aG (by rw [hj,e]))
   have kk:Keep (λj=>j=C.heap.size) D (w7.setCell (ar C.heap.size 14) (.slice A7 (m+1) c7)):=by
    refine Keep.trans (b:=w7) ?_ k1;have h1:=HK.o;refine ⟨Y.os.trans h1.os,Y.tape.trans h1.tape,Y.output.trans h1.output,P4 h1.size Y.size,λj hj hn=>(Y.block j (P6 hj h1.size) (λe=>by have:=(HO.o.lt _ e).1;omega)).trans (h1.block j hj hn)⟩
   rw [show aA .i64 (nD p m)++[Value.int .i64 (n:Nat)]=aA .i64 (nD p (m+1)) by rw [cc.o,dd];rfl] at o8;obtain ⟨E3,O8,KK⟩:=af e3 o8 kk;have xP:=tP w7 Y;clear aG cl bl aP e3 k1 o8 kk tP bs K' Y q6 q0 b4 o6 k6;go_wp2;go_roundw
   .exact ⟨m+1,ap,Vc,_,by simpa using E3.o,O8.o,KK.o⟩
   .simp [intOf];omega
  .have c9:¬((m:Int)<p.W):=ap;have b5:m=p.W:=ap;have Z:=bh.o;have bI:=H.size;obtain ⟨LA,lc,rfl,_⟩:=aC V;rw [b5] at V hP
   have bw:fz (gt w.heap.size wr) C.heap.size p R a1 T U Q I A:=by
    have hw:=b1.o;refine ⟨BA,bc,GA,gc,LA,lc,(iY hw).trans hP,(tr _ _).rd (H.rd b3.o (λy i=>by have:=(J.o y i).2;omega)) (λy i=>by have:=(J.o y i).1;omega),(tr _ _).rd (H.rd bv.o (λy i=>by have:=(L.o y i).2;omega)) (λy i=>by have:=(L.o y i).1;omega),Rd.own (fK V ap)⟩
   have cd:=aa bw;have av:=N.o.trans (bV.o.mono N.o.size);have ci:=aa (av.trans (H.toBelow (B:=w.heap.size) av.size (λj hj=>by have:=b1.o;omega)));clear hP V H bw av b5;go_wp2;go_ret2;exact ⟨_,rfl,b1.o,cd.o,ci.o⟩
theorem NV (l:List Rg):∀u∈aS l,u.oneCell'=true:=by
 intro u i;simp only [aS,List.mem_flatMap,List.mem_cons,List.not_mem_nil,or_false] at i;obtain ⟨r,_,h | h⟩:=i<;>subst h<;>rfl
theorem CZ (A:N_) (l:List Rg) (n c:Nat) (w:R8) (hA:Rd w A (aS l)) (hn:l.length=n) (hl:n<=1048576):Vj 131 #[.slice A n c] w λe y=>∃v,Vi e v/\y.ownsRow w.heap.size 148 2 v n (aS l)/\aq w y:=by
 subst hn;have q:=λ(w:R8)=>Lib.run_eql_slice_nil (P:=prog) w 170 148 A l.length c 0 0 underlying170
 cases A with
 | none=>
  have B:l=[]:=by
   cases l with
   | nil=>rfl
   | cons z l=>obtain ⟨b,o,h,_⟩:=hA 0 (QZ (z.1:Int)) (by simp [aS]);cases h
  subst B;clear q;have q:=λ(w:R8)=>Lib.run_eql_slice_nil (P:=prog) w 170 148 none 0 c 0 0 underlying170;simp only [Option.isNone_none] at q;rw [List.length_nil];go_enter func131,ntmps131;go_wp2;go_ret;exact ⟨_,rfl,Qb _ _ _ _,PY _ _⟩
 | some a=>
  go_enter func131,ntmps131;go_wp2_with (at_builtin;refine dQ mZ _ rfl (.tmp 5) (.tmp 6) rfl (Ve w) _ 0 [] rfl (fg w 148 2) _ l.length c (aS l) rfl (hA.alloc _) (pK l) (NV l) ap V2 V3 ?_);intro H D C i hb _ _;have u:=((PY _ w).alloc (PV _) (.cells #[] 148)).trans hb;obtain ⟨p,x⟩:=ae i u;clear i hb u;go_wp2;go_ret;exact ⟨_,rfl,by simpa using p.o,x.o⟩
theorem JL (p:Pln) (P:Nat) (U a1 Y H I A h:Value) (w:R8) (N:bU p) (hP:fz w P p U a1 Y H I A h):Vj 85 #[(au P)] w λe u=>∃v,Vi e v/\u.ownsRow w.heap.size 148 2 v p.buks.length (aS p.buks)/\aq w u:=by
 obtain ⟨BA,bc,GA,gc,LA,Z,hb,hB,R,L⟩:=hP;have y:=N.buks;have hc:=CZ BA p.buks p.buks.length bc w hB rfl ap;obtain ⟨⟨t0,t1,t2,t3,t4,t5,t6,t7,t8,t9,B,T,Q,J,O⟩,tf⟩:=jB hb;have D:=aa hc;clear hc hb hB R L;go_enter func85,ntmps85;go_wp2_with fail;refine D.o.mono ?_;rintro e w1 ⟨v,rfl,x,i⟩;obtain ⟨V,C⟩:=ae x i;clear x i;go_wp2;go_ret;exact ⟨_,rfl,V.o,C.o⟩
theorem zE (p:Pln) (P x:Nat) (O a1 Q B D v h:Value) (w:R8) (o:x<p.W) (hP:fz w P p O a1 Q B D v h):Vj 132 #[(au P),QZ x] w λe u=>Vi e (QZ ((aE p x 0).length:Nat))/\w=u:=by
 obtain ⟨BA,bc,GA,gc,LA,R,hb,hB,L,i⟩:=hP;obtain ⟨lb,lo,rfl,c0⟩:=i.num (k:=x) (by rw [wV];exact o)
 have e:nth (nD p p.W) x=((aE p x 0).length:Int):=by
  rw [dN _ _ (by rw [wV];exact o)];simp [nD]
 rw [e] at c0;obtain ⟨⟨t0,t1,t2,T,U,t5,Y,V,t8,Z,y,N,I,C,H⟩,tf⟩:=jB hb;have A:(x:Int)<p.W:=ap;have J:¬((p.W:Int)<=x):=ap;clear hb hB L i e;go_enter func132,ntmps132;go_wp2;go_ret;exact ⟨rfl,rfl⟩
theorem ku {p:Pln} (i:bU p) (x st:Nat):(aE p x st).length=(aE p x 0).length:=by
 rw [pW p x st i.wi,pW p x 0 i.wi]
 have h:∀j ph r,(cz p x st ph r j).length=(cz p x 0 ph r j).length:=λj ph r=>by
  unfold cz;rw [List.length_map,List.length_map,ke,ke]
 simp only [h]
theorem jU (p:Pln) (x st:Nat):0<(aE p x st).length:=by unfold aE;simp;omega
theorem Ba {s:Nat} (h:1<=n):0<di n s:=by unfold di;rw [if_neg ap];exact Nat.succ_pos _
theorem Bd {p:Pln} (hn:1<=p.n):0<p.buks.length:=by rw [Pln.buks,js];exact Ba hn
theorem KH {p:Pln} (hn:1<=p.n):0<p.grps.length:=by rw [Pln.grps,fj];exact Ba (Bd hn)
theorem Ny {l:List Rg} (h:Rd w A (aS l)) (hl:0<l.length):∀y,A=some y->y.block<w.heap.size:=λy i=>by
 obtain ⟨b,o,e,c⟩:=h _ _ (eO hl).1;rw [i] at e;injection e with e
 subst e;exact aB c
theorem wE (p:Pln) (P x st h:Nat) (C a1 D y A i:Value) (w:R8) (hp:bU p) (hn:1<=p.n) (O:x<p.W) (U:st<h) (hP:fz w P p C a1 D y A (Vd h) i):Vj 87 #[(au P),QZ x,Vd st] w λe L=>∃v,Vi e v/\L.ownsRow w.heap.size 152 12 v (aE p x st).length (cE (aE p x st))/\aq w L:=by
 have hl:=zE p P x C a1 D y A (Vd h) i w O hP;obtain ⟨BA,bc,GA,gc,LA,lc,hb,hB,B,hL⟩:=hP;have hc:=wZ p st x C a1 D y A (Vd h) (Vd p.bu) (Vd p.wi) i BA GA bc gc w hp O hB B (Ny hB (Bd hn)) (Ny B (KH hn));have I:=jU p x 0;obtain ⟨n,u⟩:=Vb ((aE p x 0).length);rw [u] at hl I;have H:¬((n:Int)=0):=ap;have R:((n:Int)==0)=false:=by simpa using H
 have a8:¬((h:Int)<=st):=ap;obtain ⟨⟨t0,t1,t2,t3,t4,t5,t6,t7,t8,t9,T,a9,a7,a4,a6⟩,tf⟩:=jB hb;obtain ⟨Z,Y⟩:=ae hc hl;clear hc hl hb hB B hL u;go_enter func87,ntmps87;go_wp2_with fail;refine Y.o.mono ?_;rintro e Q ⟨rfl,rfl⟩;go_wp2_with fail;refine Z.o.mono ?_;rintro e Q ⟨v,rfl,N,J⟩;obtain ⟨O1,V⟩:=ae N J;clear N J;go_wp2;go_ret;exact ⟨_,rfl,O1.o,V.o⟩
theorem wD (p:Pln) (P x st h:Nat) (C a1 D A B u:Value) (w:R8) (Y:x<p.W) (L:h<=st) (hP:fz w P p C a1 D A B (Vd h) u):Vj 87 #[(au P),QZ x,Vd st] w λe H=>Vi e (Ra)/\w=H:=by
 have hl:=zE p P x C a1 D A B (Vd h) u w Y hP;obtain ⟨BA,bc,GA,gc,LA,lc,hb,hB,V,O⟩:=hP;have y:=jU p x 0;obtain ⟨n,i⟩:=Vb ((aE p x 0).length);rw [i] at hl y;have v:¬((n:Int)=0):=ap;have I:((n:Int)==0)=false:=by simpa using v
 have U:(h:Int)<=st:=ap;obtain ⟨⟨t0,t1,t2,t3,t4,t5,t6,t7,t8,t9,J,Z,T,Q,R⟩,tf⟩:=jB hb;have N:=aa hl;clear hl hb hB V O i;go_enter func87,ntmps87;go_wp2_with fail;refine N.o.mono ?_;rintro e w1 ⟨rfl,rfl⟩;go_wp2;go_ret;exact ⟨rfl,rfl⟩
noncomputable def ff (sz:Q_):Int:=@ite _ (dX sz) (Classical.propDecidable _) 0 (@ite _ (de sz) (Classical.propDecidable _) 4 5)
theorem kR (h:dX sz):ff sz=0:=by unfold ff;rw [if_pos h]
theorem nc (h:¬dX sz) (hr:de sz):ff sz=4:=by unfold ff;rw [if_neg h,if_pos hr]
theorem iv (h:¬de sz):ff sz=5:=by unfold ff;rw [if_neg (λg=>h g.1),if_neg h]
theorem Bw (sz:Q_):ff sz=0↔dX sz:=by
 constructor
 .intro h;by_cases hg:dX sz
  .exact hg
  .by_cases hr:de sz
   .rw [nc hg hr] at h;omega
   .rw [iv hr] at h;omega
 .exact kR
theorem eD (b:Bool):b=false\/b=true:=by cases b<;>simp
structure Cfg where
 sizes:Q_
 shift:Int
 rate:Int
 mom:Int
 workers:Int
 batch:Int
 micros:Int
 steps:Int
 bucket:Int
 chunk:Int
 window:Int
 cap:Int
def okB (n:Int):Bool:=decide (1<=n/\n<=1048576)
theorem lY {n:Int} (h:okB n=true):1<=n/\n<=1048576:=by simpa [okB] using h
theorem FY {n:Int} (h:okB n=false):¬(1<=n/\n<=1048576):=by
 intro i;unfold okB at h;rw [QS i] at h;cases h
def tA (n:Int):Bool:=decide (0<=n/\n<=1048576)
def qF (k:Cfg):Bool:=okB k.micros&&okB k.bucket&&okB k.chunk&&okB k.window&&okB k.cap&&tA k.steps
def wkB (k:Cfg):Bool:=decide (1<=k.workers/\k.workers<=64)
def shB (k:Cfg):Bool:=decide (1<=k.shift/\k.shift<=62)
def baB (k:Cfg):Bool:=decide (k.workers<=k.batch/\k.batch<=1048576)
noncomputable def cK (k:Cfg):Int:=if wkB k=false then 6 else if shB k=false then 9 else if ff k.sizes≠0 then ff k.sizes else if qF k=false then 2 else if baB k=false then 7 else 0
theorem Lw {k:Cfg} (h:wkB k=false):cK k=6:=by unfold cK;rw [if_pos h]
theorem Lu {k:Cfg} (h1:wkB k=true) (h:shB k=false):cK k=9:=by unfold cK;rw [if_neg (by simp [h1]),if_pos h]
theorem Lt {k:Cfg} (h1:wkB k=true) (i:shB k=true) (h:ff k.sizes≠0):cK k=ff k.sizes:=by unfold cK;rw [if_neg (by simp [h1]),if_neg (by simp [i]),if_pos h]
theorem Lx {k:Cfg} (h1:wkB k=true) (i:shB k=true) (o:ff k.sizes=0) (h:qF k=false):cK k=2:=by unfold cK;rw [if_neg (by simp [h1]),if_neg (by simp [i]),if_neg (by simp [o]),if_pos h]
theorem Lv {k:Cfg} (h1:wkB k=true) (i:shB k=true) (p:ff k.sizes=0) (o:qF k=true) (h:baB k=false):cK k=7:=by unfold cK;rw [if_neg (by simp [h1]),if_neg (by simp [i]),if_neg (by simp [p]),if_neg (by simp [o]),if_pos h]
theorem Ly {k:Cfg} (h1:wkB k=true) (i:shB k=true) (p:ff k.sizes=0) (o:qF k=true) (h:baB k=true):cK k=0:=by unfold cK;rw [if_neg (by simp [h1]),if_neg (by simp [i]),if_neg (by simp [p]),if_neg (by simp [o]),if_neg (by simp [h])]
structure jL (k:Cfg):Prop where
 w:1<=k.workers/\k.workers<=64
 s:1<=k.shift/\k.shift<=62
 z:dX k.sizes
 mi:1<=k.micros/\k.micros<=1048576
 bu:1<=k.bucket/\k.bucket<=1048576
 ch:1<=k.chunk/\k.chunk<=1048576
 wi:1<=k.window/\k.window<=1048576
 ca:1<=k.cap/\k.cap<=1048576
 st:0<=k.steps/\k.steps<=1048576
 ba:k.workers<=k.batch/\k.batch<=1048576
theorem iI {k:Cfg}:cK k=0↔jL k:=by
 constructor
 .intro h
  cases h1:wkB k with
  | false=>rw [Lw h1] at h;omega
  | true=>
   cases h2:shB k with
   | false=>rw [Lu h1 h2] at h;omega
   | true=>
    by_cases i:ff k.sizes=0
    .cases h4:qF k with
     | false=>rw [Lx h1 h2 i h4] at h;omega
     | true=>
      cases h5:baB k with
      | false=>rw [Lv h1 h2 i h4 h5] at h;omega
      | true=>
       simp only [qF,Bool.and_eq_true] at h4;obtain ⟨⟨⟨⟨⟨a1,p⟩,u⟩,o⟩,v⟩,x⟩:=h4;exact ⟨by simpa [wkB] using h1,by simpa [shB] using h2,(Bw _).1 i,lY a1,lY p,lY u,lY o,lY v,by simpa [tA] using x,by simpa [baB] using h5⟩
    .rw [Lt h1 h2 i] at h;exact absurd h i
 .intro h;refine Ly (by simpa [wkB] using h.w) (by simpa [shB] using h.s) (kR h.z) ?_ (by simpa [baB] using h.ba);simp only [qF,Bool.and_eq_true];exact ⟨⟨⟨⟨⟨by simpa [okB] using h.mi,by simpa [okB] using h.bu⟩,by simpa [okB] using h.ch⟩,by simpa [okB] using h.wi⟩,by simpa [okB] using h.ca⟩,by simpa [tA] using h.st⟩
theorem Mv (a b:Int) (w:R8):Sem.run prog (Instr.field 187 (.agg #[QZ a,QZ b]) 1) w=.ok (QZ b) w:=by kernel_rfl
theorem DL (a b:Int) (w:R8):Sem.run prog (Instr.field 187 (.agg #[QZ a,QZ b]) 0) w=.ok (QZ a) w:=by kernel_rfl
theorem kg (A:N_) (sz:Q_) (m c:Nat) (w:R8) (hA:Rd w A (aA .i64 sz)) (T:de sz) (h1:1<=m) (hm:m<=sz.length):Vj 57 #[.slice A m c] w λe w'=>Vi e (QZ (bT sz (m-1):Int))/\∃n,w'=w.drewN n:=by
 have a2:m<=16:=by have:=T.1.2;omega
 obtain ⟨u,J,Hm⟩:=af hA T hm;clear hA T hm;go_enter func57,ntmps57;go_wp2
 go_loopw [3,4] (λv i wr=>∃k:Nat,k+1<=m/\i=QZ k/\v=QZ (bT sz k:Int)/\∃n,wr=w.drewN n) (λ_ i _=>m-(intOf i).toNat)
 .exact ⟨0,h1,rfl,rfl,0,rfl⟩
 case round=>
  obtain ⟨k,hk,rfl,rfl,n,rfl⟩:=hrel;by_cases a0:k+1<m
  .have hm:=Hm.o;have Q:=J.o.at (k:=k) ap;have D:=J.o.at (k:=k+1) ap;obtain ⟨b,o,rfl,p0⟩:=u.o.num (show k<sz.length by omega);obtain ⟨_,_,I,p1⟩:=u.o.num (show k+1<sz.length by omega);injection I with I;injection I with e1 e2 _;subst e1;subst e2
   have hb:=J.o.bound (k:=k+1) ap;rw [Q.2.2] at p0;rw [D.2.2] at p1;have hc:bT sz (k+1)=bT sz k+(szN sz k+1)*szN sz (k+1):=rfl;obtain ⟨a,ha⟩:=Vb (szN sz k);obtain ⟨d,Z⟩:=Vb (szN sz (k+1));obtain ⟨N,V⟩:=Vb (bT sz k);obtain ⟨M,x⟩:=Vb (bT sz (k+1));obtain ⟨p,L⟩:=Vb ((a+1)*d);rw [ha] at p0 Q hc;rw [Z] at p1 D hc;rw [V,x,L] at hc;rw [x] at hb;rw [V];have HM:=aa x;clear x V ha Z;have y:(k:Int)+1<m:=ap;have Y:(k:Int)<m:=ap;have H:(0:Int)<=(k:Int)+1:=ap;have R:((k:Int)+1).toNat=k+1:=ap;have U:IntKind.i64.wrap ((k:Int)+1)=(k:Int)+1:=P3 _ ap;have O:IntKind.i64.wrap ((a:Int)+1)=(a:Int)+1:=P3 _ ap;have h:((a:Int)+1)*(d:Int)=(p:Int):=by rw [<-L];push_cast;rfl
   have C:IntKind.i64.wrap (((a:Int)+1)*(d:Int))=(p:Int):=by rw [h];exact P3 _ ap
   have B:IntKind.i64.wrap ((N:Int)+(p:Int))=(M:Int):=by rw [P3 _ ap];omega
   clear h L hc hb Q D;go_wp2
   go_quiet (fail)
   clear U O C B Y y H R;go_wp2;go_roundw
   .exact ⟨k+1,ap,Vc,by rw [HM.o],_,by first | rfl | exact World.drewN_drewN _ _ _⟩
   .simp [intOf];omega
  .obtain rfl:k=m-1:=ap;have a1:IntKind.i64.wrap (((m-1:Nat):Int)+1)=(m:Int):=by rw [P3 _ ap];omega
   go_wp2;go_ret;exact ⟨rfl,n,rfl⟩
theorem ye (A:N_) (sz:Q_) (c:Nat) (w:R8) (hl:sz.length<=17592186043904) (h:¬(2<=sz.length/\sz.length<=16)):Vj 92 #[.slice A sz.length c] w λe i=>Vi e (QZ 5)/\w=i:=by
 by_cases h1:sz.length<2
 .go_enter func92,ntmps92;go_wp2;go_ret;exact ⟨rfl,rfl⟩
 .have o:16<sz.length:=ap;go_enter func92,ntmps92;go_wp2;go_ret;exact ⟨rfl,rfl⟩
def xo (sz:Q_):Int:=if 1048576<bT sz (sz.length-1) then 4 else 0
theorem zB (A:N_) (sz:Q_) (c:Nat) (w:R8) (hA:Rd w A (aA .i64 sz)) (h:2<=sz.length/\sz.length<=16):Vj 92 #[.slice A sz.length c] w λe T=>((de sz/\Vi e (QZ (xo sz)))\/(¬de sz/\Vi e (QZ 5)))/\∃n,T=w.drewN n:=by
 obtain ⟨h1,Z⟩:=h;obtain ⟨n,hn⟩:=Vb sz.length;have J:=λ(C:de sz)=>kg A sz n c w hA C ap ap;have C:(∀k,k<n->1<=nth sz k/\nth sz k<=1048576)->de sz:=λh=>⟨ap,by rw [hn];exact h⟩;have L:de sz->∀k,k<n->1<=nth sz k/\nth sz k<=1048576:=λh=>by rw [<-hn];exact h.2
 have R:xo sz=if 1048576<bT sz (n-1) then 4 else 0:=by unfold xo;rw [hn]
 rw [hn] at h1 Z |-;obtain ⟨V,Q,HR,N,Y,O⟩:=ai hA J C L hn R;clear hA J C L hn R;go_enter func92,ntmps92;go_wp2
 go_loop [3] (λi=>∃k:Nat,k<=n/\i=QZ k/\an (∀j,j<k->1<=nth sz j/\nth sz j<=1048576)) (λi=>n-(intOf i).toNat)
 .exact ⟨0,PZ _,rfl,aa λj hj=>ap⟩
 case round=>
  obtain ⟨k,hk,rfl,y⟩:=hrel;by_cases D:k<n
  .obtain ⟨b,o,rfl,p⟩:=V.o.num (show k<sz.length by rw [Y.o];exact D);by_cases a0:nth sz k<1
   .have u:¬de sz:=λh=>by have:=N.o h k D;omega
    have I:=aa u;clear u;go_wp2;go_ret;exact ⟨.inr ⟨I.o,rfl⟩,0,rfl⟩
   .by_cases a1:1048576<nth sz k
    .have u:¬de sz:=λh=>by have:=N.o h k D;omega
     have I:=aa u;clear u;go_wp2;go_ret;exact ⟨.inr ⟨I.o,rfl⟩,0,rfl⟩
    .have Hz:=aa (show 1<=nth sz k/\nth sz k<=1048576 by omega);go_wp2;go_round
     case rel=>exact ⟨k+1,ap,Vc,aa (p:=∀j,j<k+1->1<=nth sz j/\nth sz j<=1048576) λj hj=>by
      rcases Qf j k with h | h
      .exact y.out j h
      .obtain rfl:j=k:=ap
       exact Hz.o⟩
     case measure=>exact Va
  .obtain rfl:k=n:=ap;have C:=HR.o y.out;have hb:=C.bound (k:=k-1) (by rw [Y.o];omega);have x:=aa C;clear C;by_cases B:1048576<bT sz (k-1)
   .have U:(1048576:Int)<bT sz (k-1):=ap;have v:xo sz=4:=by rw [O.o,if_pos B]
    have H:=aa v;clear v;go_wp2_with fail;refine (Q.o x.o).mono ?_;rintro e T ⟨rfl,m,rfl⟩;go_wp2;go_ret;exact ⟨.inl ⟨x.o,by rw [H.o];rfl⟩,m,rfl⟩
   .have U:¬(1048576:Int)<bT sz (k-1):=ap;have v:xo sz=0:=by rw [O.o,if_neg B]
    have H:=aa v;clear v;go_wp2_with fail;refine (Q.o x.o).mono ?_;rintro e T ⟨rfl,m,rfl⟩;go_wp2;go_ret;exact ⟨.inl ⟨x.o,by rw [H.o];rfl⟩,m,rfl⟩
theorem qt (A:N_) (sz:Q_) (k c:Nat) (w:R8) (hA:Rd w A (aA .i64 sz)) (B:de sz) (hk:k+1<sz.length) (hc:sz.length<=c):Vj 182 #[.slice A sz.length c,QZ k] w λe C=>Vi e (.agg #[QZ (bT sz k:Int),QZ (dL sz k:Int)])/\aq w C:=by
 have H:=B.1.2;have R:=B.at (k:=k) ap;have J:=B.at hk;obtain ⟨b,o,rfl,U⟩:=hA.num (show k<sz.length by omega);obtain ⟨_,_,O,p1⟩:=hA.num hk;injection O with O;injection O with e1 e2 _;subst e1;subst e2
 have x:=λC (h:aq w C)=>kg (some (ar b o)) sz (k+1) c C (hA.below h) B ap ap;have hb:=B.bound (k:=k+1) hk;have hm:dL sz k=bT sz k+szN sz (k+1)*szN sz k:=rfl;have y:=fL sz k;simp only [Nat.add_sub_cancel] at x;rw [R.2.2] at U;rw [J.2.2] at p1;obtain ⟨a,ha⟩:=Vb (szN sz k);obtain ⟨d,Z⟩:=Vb (szN sz (k+1));obtain ⟨N,Y⟩:=Vb (bT sz k);obtain ⟨M,I⟩:=Vb (dL sz k);obtain ⟨p,Q⟩:=Vb (d*a);obtain ⟨n,hn⟩:=Vb sz.length;rw [ha] at U R hm;rw [Z] at p1 J hm y;rw [Y,I,Q] at hm;rw [I] at y;rw [Y] at x |-;rw [I];rw [hn] at hk hc H |-;have a1:b<(Ve w):=aB U;have T:=aa x;clear x hA B;have a0:(k:Int)+1<n:=ap;have a7:(k:Int)<n:=ap;have a4:(0:Int)<=(k:Int)+1:=ap;have a6:((k:Int)+1).toNat=k+1:=ap;have a5:((n-1:Nat):Int)=(n:Int)-1:=ap;have a3:¬((n:Int)-1<=k):=ap;have a2:k+1<=c:=ap;have D:(a:Int)*(d:Int)=(p:Int):=by rw [<-Q,Nat.mul_comm];push_cast;rfl
 have u:IntKind.i64.wrap ((a:Int)*(d:Int))=(p:Int):=by rw [D];exact P3 _ ap
 have i:IntKind.i64.wrap ((N:Int)+(p:Int))=(M:Int):=by rw [P3 _ ap];omega
 obtain ⟨V,L⟩:=ae u i;clear D Q hb R J hm y I Y ha Z hn u i;go_enter func182,ntmps182;go_wp2_with fail;refine (T.o _ ?_).mono ?_
 .exact am
 rintro e C ⟨rfl,m,rfl⟩;have u:=V.o;have i:=L.o;go_wp2
 go_region
 all_goals clear u i
 all_goals go_wp2_with fail
 all_goals
  refine Qd (v:=.agg #[QZ N,QZ M]) (by simp [results,results182,go_sem]) rfl ⟨rfl,?_⟩;exact am
theorem zC (A:N_) (sz:Q_) (k c:Nat) (w:R8) (hA:Rd w A (aA .i64 sz)) (J:de sz) (hk:k+1<sz.length) (hc:sz.length<=c):Vj 192 #[.slice A sz.length c,QZ k] w λe B=>Vi e (.agg #[QZ (dL sz k:Int),QZ (bT sz (k+1):Int)])/\aq w B:=by
 have I:=J.1.2;have x:=λB (h:aq w B)=>qt A sz k c B (hA.below h) J hk hc;have u:=λB (h:aq w B)=>kg A sz (k+2) c B (hA.below h) J ap ap;simp only [show k+2-1=k+1 by omega] at u;obtain ⟨b,o,rfl,p0⟩:=hA.num (show k<sz.length by omega);obtain ⟨n,hn⟩:=Vb sz.length;obtain ⟨N,hN⟩:=Vb (bT sz (k+1));obtain ⟨M,Y⟩:=Vb (dL sz k);rw [hN] at u |-;have V:bT sz k=bT sz k:=rfl;clear V;rw [Y] at x |-;rw [hn] at x hk hc I |-;obtain ⟨Q,U⟩:=ae x u;clear x u hA J p0 hn hN Y;have a1:¬((n:Int)-1<=k):=ap;have a0:(k:Int)+2<=c:=ap;have a2:(0:Int)<=(k:Int)+2:=ap;have a3:((k:Int)+2).toNat=k+2:=ap;have a4:IntKind.i64.wrap ((k:Int)+2)=(k:Int)+2:=P3 _ ap;have a5:=Mv;go_enter func192,ntmps192;go_wp2_with fail;have i:(λ_:R8=>True) (w.alloc (.cells #[QZ 0,QZ 0] 187)).drew:=trivial;refine HA.g (λ_:R8=>True) ?_;refine HA.t ?_ [0,1,4,5,6,7] i ?_;refine HA.o 2 (λK y=>?_);go_simp;refine (Q.o _ ?_).mono ?_
 .exact am
 rintro e D ⟨rfl,C⟩;have O:aq w D:=(((PY _ w).alloc (PV _) _).drew).trans (C.mono V3);have p:=(C.block (Ve w) V3).trans (PW w (.cells #[QZ 0,QZ 0] 187));obtain ⟨⟨k0,k1⟩,kf⟩:=bx2 p;have l1:w.heap.size<(Ve D):=PU p;have L:=aa p;clear C p;dsimp only;refine y.out _ _ trivial (λi=>?_);clear y K;refine HA.t ?_ [3] i ?_;refine HA.o 8 (λK y=>?_);go_simp;refine (U.o _ O).mono ?_;rintro e w2 ⟨rfl,m,rfl⟩;dsimp only;refine y.out _ _ trivial (λi=>?_);clear y K;refine HA.t ?_ [9] i ?_;refine HA.o 10 (λK y=>?_);go_simp;refine y.out _ _ trivial (λi=>?_);clear y K;refine HA.d ?_;go_wp2_with fail;have e1:=QX (D.drewN m) (Ve w) 0 _ _ (QZ M) L.o;have Z:=QX _ (Ve w) 1 _ _ (QZ N) e1;have H:aq w (((D.drewN m).setCell (ar (Ve w) 0) (QZ M)).setCell (ar (Ve w) 1) (QZ N)):=by exact am
 obtain ⟨T,R⟩:∃T,T=((D.drewN m).setCell (ar (Ve w) 0) (QZ M)).setCell (ar (Ve w) 1) (QZ N):=⟨_,rfl⟩;rw [<-R] at Z H |-;have e3:Vg T (Ve w) #[QZ M,QZ N] 187:=Z;obtain ⟨⟨x0,x1⟩,xf⟩:=bx2 e3;exact Qd (v:=.agg #[QZ M,QZ N]) (by simp [results,results192,go_sem,x0,x1]) rfl ⟨rfl,H⟩
theorem Ko (a:Nat) (i:a<18446744073709551616):bits .and .u64 (a:Int) 4294967295=((a%4294967296:Nat):Int):=by
 have h:=bits_and_u64_nat a 4294967295 i ap;have e:a&&& 4294967295=a%4294967296:=Nat.and_two_pow_sub_one_eq_mod a 32;rw [e] at h;exact h
theorem PI (a:Nat):(a:Int)/4294967296=((a/4294967296:Nat):Int):=ap
theorem PG (a b:Nat):(a:Int)*(b:Int)=((a*b:Nat):Int):=(Int.natCast_mul a b).symm
theorem PJ (a b:Nat):(a:Int)+(b:Int)=((a+b:Nat):Int):=(Int.natCast_add a b).symm
theorem rS (a:Nat) (h:a<18446744073709551616):IntKind.u64.wrap (a:Int)=(a:Int):=by rw [IntKind.wrap_u64];omega
theorem OH (a:Nat):IntKind.u64.wrap (a:Int)=((a%18446744073709551616:Nat):Int):=by rw [IntKind.wrap_u64];omega
theorem Gh (x y:Nat) (A:x<18446744073709551616) (v:y<18446744073709551616) (w:R8):Vj 275 #[.int .u64 x,.int .u64 y] w λe D=>Vi e (.tuple #[.int .u64 ((x*y/18446744073709551616:Nat):Int),.int .u64 ((x*y%18446744073709551616:Nat):Int)])/\w=D:=by
 obtain ⟨B,bt,H,p⟩:=Lib.mul64_hi x y A v;have ba:=Lib.half_mul_le (a:=x/4294967296) (b:=y/4294967296) ap ap;have bb:=Lib.half_mul_le (a:=x/4294967296) (b:=y%4294967296) ap ap;have bc:=Lib.half_mul_le (a:=x%4294967296) (b:=y/4294967296) ap ap;have i:x/4294967296*(y/4294967296)<18446744073709551616:=ap;have h:x/4294967296*(y%4294967296)<18446744073709551616:=ap;have u:x%4294967296*(y/4294967296)<18446744073709551616:=ap;have o:x/4294967296*(y/4294967296)+(x/4294967296*(y%4294967296)+x%4294967296*(y%4294967296)/4294967296)/4294967296<18446744073709551616:=ap;have C:x/4294967296*(y/4294967296)+(x/4294967296*(y%4294967296)+x%4294967296*(y%4294967296)/4294967296)/4294967296+((x/4294967296*(y%4294967296)+x%4294967296*(y%4294967296)/4294967296)%4294967296+x%4294967296*(y/4294967296))/4294967296<18446744073709551616:=ap;go_enter func275,ntmps275;go_wp2;simp only [Ko x A,Ko y v,PI,PG,PJ,rS _ B,rS _ h,rS _ bt,Ko _ bt,rS _ u,rS _ H,rS _ i,rS _ o,rS _ C,OH (x*y)];rw [p];go_ret2;exact ⟨rfl,rfl⟩
theorem Ju (a:Int) (w:R8):Vj 267 #[QZ a] w λe h=>Vi e (QZ (max a 0))/\w=h:=by
 go_enter func267,ntmps267;go_wp2
 all_goals
  go_ret;exact ⟨bE ap,rfl⟩
theorem KN (a g:Int) (w:R8):Vj 252 #[QZ a,QZ g] w λe i=>Vi e (QZ (if 0<a then g else 0))/\w=i:=by
 by_cases h:a<=0
 .rw [if_neg ap];go_enter func252,ntmps252;go_wp2;go_ret;exact ⟨rfl,rfl⟩
 .rw [if_pos ap];go_enter func252,ntmps252;go_wp2;go_ret;exact ⟨rfl,rfl⟩
theorem DA (a b:Int) (w:R8):Vj 257 #[QZ a,QZ b] w λe h=>Vi e (QZ (wrap64 (a-b)))/\w=h:=by
 go_enter func257,ntmps257;go_wp2;go_ret;exact ⟨rfl,rfl⟩
theorem yY (h lo:Int) (q:Nat) (A:q<=63) (o:0<=lo/\lo<18446744073709551616):
  bits .or .u64 (IntKind.u64.wrap (IntKind.u64.wrap h*2^(64-q))) (lo/2^q)=(uw h%2^q)*2^(64-q)+lo/2^q:=by
 obtain ⟨H,hH,_⟩:=qS h;obtain ⟨L,rfl⟩:=Int.eq_ofNat_of_zero_le o.1;have p:(18446744073709551616:Nat)=2^(64-q)*2^q:=by rw [<-Nat.pow_add,show 64-q+q=64 by omega]
 have hw:IntKind.u64.wrap h=uw h:=by rw [IntKind.wrap_u64];rfl
 have y:IntKind.u64.wrap (uw h*2^(64-q))=((2^(64-q)*(H%2^q):Nat):Int):=by
  rw [IntKind.wrap_u64,hH]
  have:((H*2^(64-q):Nat):Int)%((18446744073709551616:Nat):Int)=((2^(64-q)*(H%2^q):Nat):Int):=by
   rw [<-Int.natCast_emod,Nat.mul_comm H,p,Nat.mul_mod_mul_left]
  simpa using this
 have v:((L:Int)/2^q)=((L/2^q:Nat):Int):=by simp
 have i:0<2^q:=Nat.pow_pos V0
 have u:L/2^q<2^(64-q):=by
  rw [Nat.div_lt_iff_lt_mul i];have:=o.2;omega
 have x:2^(64-q)*(H%2^q)<18446744073709551616:=by
  rw [p];exact Nat.mul_lt_mul_of_pos_left (Nat.mod_lt _ i) (Nat.pow_pos V0)
 have b3:L/2^q<18446744073709551616:=Nat.lt_of_le_of_lt (Nat.div_le_self _ _) ap;rw [hw,y,v,bits_or_u64_nat _ _ x b3,<-Nat.two_pow_add_eq_or_of_lt u,hH,Int.natCast_add,Int.natCast_mul,Int.mul_comm];simp
theorem EO (h lo:Int) (q:Nat) (i:q<=63) (p:0<=lo/\lo<18446744073709551616):
  wrap64 (bits .or .u64 (IntKind.u64.wrap (IntKind.u64.wrap h*2^(64-q))) (lo/2^q))=wrap64 (h*2^(64-q)+lo/2^q):=by
 rw [yY h lo q i p];have u:(18446744073709551616:Int)=2^(64-q)*2^q:=by rw [<-Int.pow_add,show 64-q+q=64 by omega];rfl
 obtain ⟨k,hk⟩:∃k:Int,uw h=h+k*18446744073709551616:=⟨-(h/18446744073709551616),by unfold uw;omega⟩;have x:=Int.emod_add_mul_ediv (uw h) (2^q);refine vL ⟨k*2^(64-q)-uw h/2^q,?_⟩;have e:uw h%2^q=h+k*18446744073709551616-2^q*(uw h/2^q):=ap;rw [e,Int.sub_mul,Int.add_mul,Int.sub_mul]
 have v:2^q*(uw h/2^q)*2^(64-q)=(uw h/2^q)*18446744073709551616:=by
  rw [u,Int.mul_comm (2^q:Int),Int.mul_assoc,Int.mul_comm (2^q:Int)]
 have o:k*18446744073709551616*2^(64-q)=k*2^(64-q)*18446744073709551616:=by rw [Int.mul_assoc,Int.mul_comm 18446744073709551616,<-Int.mul_assoc]
 rw [v,o];omega
def iL (a b:Int):Nat->Int
 | 0=>wrap64 (uw a*uw b/18446744073709551616)
 | 1=>if a<0 then wrap64 (wrap64 (uw a*uw b/18446744073709551616)-b) else wrap64 (uw a*uw b/18446744073709551616)
 | _=>fw a b
theorem DS (a b:Int) (i: -9223372036854775808<=a/\a<=9223372036854775807) (hb: -9223372036854775808<=b/\b<=9223372036854775807):fw a b=if b<0 then wrap64 (iL a b 1-a) else iL a b 1:=by
 rw [<-Io a b i hb];unfold iL;by_cases h1:a<0
 .by_cases h:b<0
  .simp only [h1,h,if_true,pF]
  .simp only [h1,h,if_true,if_false,pF,Int.sub_zero]
 .by_cases h:b<0
  .simp only [h1,h,if_true,if_false,pF,Int.sub_zero]
  .simp only [h1,h,if_false,Int.sub_zero]
theorem JD (a b:Int) (w:R8) (N: -9223372036854775808<=a/\a<=9223372036854775807) (hb: -9223372036854775808<=b/\b<=9223372036854775807):Vj 270 #[QZ a,QZ b] w λe U=>Vi e (.tuple #[QZ (fw a b),.int .u64 (iB a b)])/\aq w U:=by
 obtain ⟨X,A,C⟩:=qS a;obtain ⟨Y,B,H⟩:=qS b;have T:IntKind.u64.wrap a=(X:Int):=by rw [IntKind.wrap_u64,<-A];rfl
 have O:IntKind.u64.wrap b=(Y:Int):=by rw [IntKind.wrap_u64,<-B];rfl
 have u:wrap64 ((X*Y/18446744073709551616:Nat):Int)=iL a b 0:=by unfold iL;rw [A,B];simp
 have y:((X*Y%18446744073709551616:Nat):Int)=iB a b:=by rw [<-In a b N hb,A,B];unfold uw;simp
 have hm:=Gh X Y C H w;rw [y] at hm;obtain ⟨h,Q⟩:∃h:Int,((X*Y/18446744073709551616:Nat):Int)=h:=⟨_,rfl⟩;rw [Q] at hm u;have I:∀w,(Instr.index 391 (.agg #[QZ a,QZ b,QZ b,QZ a]) (QZ 0)).run prog w=.ok (.agg #[QZ a,QZ b]) w:=λw=>by kernel_rfl
 have L:∀w,(Instr.index 391 (.agg #[QZ a,QZ b,QZ b,QZ a]) (QZ 1)).run prog w=.ok (.agg #[QZ b,QZ a]) w:=λw=>by kernel_rfl
 obtain ⟨Hm,EX,Z,J,I0,V⟩:=ai hm T O u I L;clear hm T O u y A B Q I L;go_enter func270,ntmps270;go_wp2_with fail;rw [EX.o,Z.o];refine Hm.o.mono ?_;rintro e w1 ⟨rfl,rfl⟩;go_wp2_with fail;rw [J.o]
 go_loopw [4,26] (λs i wr=>∃k:Nat,k<=2/\i=QZ k/\s=QZ (iL a b k)/\aq w wr) (λ_ i _=>2-(intOf i).toNat)
 .exact ⟨0,ap,rfl,rfl,PY _ _⟩
 case round=>
  obtain ⟨k,hk,rfl,rfl,p⟩:=hrel;obtain ⟨R,x⟩:=ae (p.trans ((PY _ _).alloc p.size (.cells #[QZ a,QZ b] 390))) (p.trans ((PY _ _).alloc p.size (.cells #[QZ b,QZ a] 390)));rcases (show k=0\/k=1\/k=2 by omega) with rfl | rfl | rfl
  .rw [show (((0:Nat):Int))=0 from rfl];have I:=I0.o;by_cases h:a<0
   .have he:wrap64 (iL a b 0-b)=iL a b 1:=by simp only [iL,h,if_true]
    have v:=aa he;clear he p hk;go_wp2_with fail;rw [v.o];go_roundw
    .exact ⟨1,ap,rfl,rfl,R.o⟩
    .simp [intOf]
   .have he:iL a b 0=iL a b 1:=by simp only [iL,h,if_false]
    have v:=aa he;clear he p hk;go_wp2_with fail;rw [v.o];go_roundw
    .exact ⟨1,ap,rfl,rfl,R.o⟩
    .simp [intOf]
  .rw [show (((1:Nat):Int))=1 from rfl];have L:=V.o;by_cases h:b<0
   .have he:wrap64 (iL a b 1-a)=iL a b 2:=by rw [show iL a b 2=fw a b from rfl,DS a b N hb,if_pos h]
    have v:=aa he;clear he p hk;go_wp2_with fail;rw [v.o];go_roundw
    .exact ⟨2,ap,rfl,rfl,x.o⟩
    .simp [intOf]
   .have he:iL a b 1=iL a b 2:=by rw [show iL a b 2=fw a b from rfl,DS a b N hb,if_neg h]
    have v:=aa he;clear he p hk;go_wp2_with fail;rw [v.o];go_roundw
    .exact ⟨2,ap,rfl,rfl,x.o⟩
    .simp [intOf]
  .rw [show (((2:Nat):Int))=2 from rfl];have D:=aa p;clear p hk;go_wp2;go_ret2;exact ⟨rfl,D.o⟩
theorem EP (h lo:Int) (q:Nat) (w:R8) (x:q<=62) (h1: -9223372036854775808<=h/\h<=9223372036854775807) (u:0<=lo/\lo<18446744073709551616):Vj 271 #[QZ h,.int .u64 lo,QZ q] w λe p=>Vi e (QZ (wrap64 (h*2^(64-q)+lo/2^q)))/\∃n,p=w.drewN n:=by
 have i:=EO h lo q ap u;have v:=aa i;clear i;go_enter func271,ntmps271;go_wp2
 go_quiet (fail)
 rw [v.o];go_wp2;go_ret;exact ⟨rfl,_,rfl⟩
theorem MP (a b:Int) (q:Nat) (h:q<=62):fJ a b q=wrap64 (fw a b*2^(64-q)+iB a b/2^q):=by
 rw [IT a b q h];unfold fJ;rw [if_neg ap];simp
theorem uK (a b q:Int) (w:R8) (v: -9223372036854775808<=a/\a<=9223372036854775807) (hb: -9223372036854775808<=b/\b<=9223372036854775807):Vj 260 #[QZ a,QZ b,QZ q] w λe p=>Vi e (QZ (fJ a b q))/\aq w p:=by
 by_cases h1:q<0
 .have h:fJ a b q=0:=by unfold fJ;rw [if_pos (.inl h1)]
  rw [h];clear h;go_enter func260,ntmps260;go_wp2;go_ret;exact ⟨rfl,PY _ _⟩
 .by_cases y:62<q
  .have h:fJ a b q=0:=by unfold fJ;rw [if_pos (.inr y)]
   rw [h];clear h;go_enter func260,ntmps260;go_wp2;go_ret;exact ⟨rfl,PY _ _⟩
  .obtain ⟨Q,rfl⟩:=Int.eq_ofNat_of_zero_le (show 0<=q by omega);have h:=MP a b Q ap;rw [h];have u:=JD a b w v hb;have hs:=λp=>EP (fw a b) (iB a b) Q p ap (jN v hb) (rU _);obtain ⟨B,A⟩:=ae u hs;clear u hs h;go_enter func260,ntmps260;go_wp2_with fail;refine B.o.mono ?_;rintro e C ⟨rfl,i⟩;have x:=aa i;clear i;go_wp2_with fail;refine (A.o _).mono ?_;rintro e D ⟨rfl,n,rfl⟩;go_wp2;go_ret;exact ⟨rfl,Qa x.o _⟩
theorem wt (a g:Int) (w:R8):Vj 169 #[QZ a,QZ g] w λe i=>Vi e (QZ (if 0<a then g else 0))/\w=i:=by
 by_cases h:0<a
 .rw [if_pos h];go_enter func169,ntmps169;go_wp2;go_ret;exact ⟨rfl,rfl⟩
 .rw [if_neg h];go_enter func169,ntmps169;go_wp2;go_ret;exact ⟨rfl,rfl⟩
def pb (b:Int) (k:Nat):Int:=if k<=63 then uw b%2^k else b
def rHi (a b:Int) (k:Nat):Int:=uw (a*pb b k/18446744073709551616)
def rLo (a b:Int) (k:Nat):Int:=uw (a*pb b k)
theorem Ie (N X:Int):uw (uw N+uw X)=uw (N+X):=by unfold uw;omega
theorem LQ (N X:Int) (h:¬uw (uw N+uw X)<uw N):uw (uw (N/18446744073709551616)+uw (X/18446744073709551616))=uw ((N+X)/18446744073709551616):=by unfold uw at *;omega
theorem LP (N X:Int) (h:uw (uw N+uw X)<uw N):uw (uw (uw (N/18446744073709551616)+1)+uw (X/18446744073709551616))=uw ((N+X)/18446744073709551616):=by unfold uw at *;omega
theorem wR (X:Int):uw (18446744073709551615-uw X+1)=uw (-X):=by unfold uw;omega
theorem zW (X:Int) (h:¬uw (-X)=0):18446744073709551615-uw (X/18446744073709551616)=uw (-X/18446744073709551616):=by unfold uw at *;omega
theorem zU (X:Int) (h:uw (-X)=0):uw (18446744073709551615-uw (X/18446744073709551616)+1)=uw (-X/18446744073709551616):=by unfold uw at *;omega
theorem ju (x:Int):IntKind.u64.wrap x=uw x:=by rw [IntKind.wrap_u64];rfl
theorem Nk (x:Int) (h:0<=x/\x<18446744073709551616):bits .and .u64 x 1=x%2:=by
 obtain ⟨n,rfl⟩:=Int.eq_ofNat_of_zero_le h.1;have h1:=bits_and_u64_nat n 1 ap ap;have e:n&&& 1=n%2:=Nat.and_one_is_mod n;rw [e] at h1;simpa using h1
theorem sJ (x:Int) (h:0<=x/\x<18446744073709551616):bits .xor .u64 (if IntKind.u64.signed=true then -1 else IntKind.u64.max) x=18446744073709551615-x:=by
 obtain ⟨n,rfl⟩:=Int.eq_ofNat_of_zero_le h.1;have hn:n<18446744073709551616:=ap;have h1:bits .xor .u64 (if IntKind.u64.signed=true then -1 else IntKind.u64.max) (n:Int)=IntKind.u64.wrap ((BitVec.ofInt 64 18446744073709551615^^^BitVec.ofInt 64 (n:Int)).toNat:Int):=rfl;have i:BitVec.ofInt 64 18446744073709551615=BitVec.allOnes 64:=by decide
 have o:(BitVec.ofInt 64 (n:Int)).toNat=n:=by rw [BitVec.ofInt_natCast,BitVec.toNat_ofNat];exact Nat.mod_eq_of_lt ap
 rw [h1,i,BitVec.allOnes_xor,BitVec.toNat_not,o,ju];unfold uw;omega
theorem JQ (m k:Nat) (y:Nat) (i:y<2^k) (o:2^k*m<18446744073709551616) (hk:k<=64):bits .or .u64 ((2^k*m:Nat):Int) (y:Int)=((2^k*m:Nat):Int)+(y:Int):=by
 have h:y<18446744073709551616:=P6 i (by have:=Nat.pow_le_pow_right (n:=2) V0 hk;simpa using this);rw [bits_or_u64_nat _ _ o h,<-Nat.two_pow_add_eq_or_of_lt i];simp
theorem FE (k:Nat) (hk:k<=64):(18446744073709551616:Int)=2^(64-k)*2^k:=by rw [<-Int.pow_add,show 64-k+k=64 by omega];rfl
theorem Cx (k:Nat) (hk:k<=64):(18446744073709551616:Nat)=2^(64-k)*2^k:=by rw [<-Nat.pow_add,show 64-k+k=64 by omega]
theorem Nw (a:Int) (k:Nat):IntKind.u64.wrap (IntKind.u64.wrap a*2^k)=uw (a*2^k):=by
 rw [ju,ju];unfold uw;rw [Int.mul_emod,Int.emod_emod_of_dvd _ (Int.dvd_refl _),<-Int.mul_emod]
theorem DB (a:Int) (k:Nat) (H:0<k) (hk:k<=63) (Q: -9223372036854775808<=a/\a<=9223372036854775807) (S:Int) (J:(S=18446744073709551615/\a<0)\/(S=0/\0<=a)):
  bits .or .u64 (IntKind.u64.wrap (S*2^k)) (IntKind.u64.wrap a/2^(64-k))=uw (a*2^k/18446744073709551616):=by
 obtain ⟨U,p,I⟩:=qS a;have x:=FE k ap;have i:=Cx k ap;have D:(0:Int)<2^(64-k):=Int.pow_pos V0;have o:(0:Int)<2^k:=Int.pow_pos V0
 have B:a*2^k/18446744073709551616=a/2^(64-k):=by
  rw [x];exact Int.mul_ediv_mul_of_pos_left _ _ o
 have hb:U/2^(64-k)<2^k:=by
  rw [Nat.div_lt_iff_lt_mul (Nat.pow_pos V0),Nat.mul_comm];omega
 have A:IntKind.u64.wrap a/2^(64-k)=((U/2^(64-k):Nat):Int):=by rw [ju,p];simp
 have L:2^k<=9223372036854775808:=by have:=Nat.pow_le_pow_right (n:=2) V0 hk;simpa using this
 have C:0<2^k:=Nat.pow_pos V0;rw [B,A];rcases J with ⟨rfl,h⟩ | ⟨rfl,h⟩
 .have hw:IntKind.u64.wrap (18446744073709551615*2^k)=((2^k*(2^(64-k)-1):Nat):Int):=by
   have h1:((2^k*(2^(64-k)-1):Nat):Int)=18446744073709551616-2^k:=by
    have O:2^k*(2^(64-k)-1)+2^k=18446744073709551616:=by
     rw [<-Nat.mul_succ,Nat.succ_eq_add_one,Nat.sub_add_cancel (Nat.pow_pos V0),Nat.mul_comm];exact i.symm
    have N:((2^k:Nat):Int)=2^k:=by simp
    omega
   rw [h1,ju];unfold uw;have y:((2^k:Nat):Int)=2^k:=by simp
   omega
  rw [hw,JQ _ _ _ hb (by rw [i,Nat.mul_comm];exact Nat.mul_lt_mul_of_pos_right (by have:0<2^(64-k):=Nat.pow_pos V0;omega) C) ap,<-hw,ju]
  have u:a=(U:Int)+(-(2^k))*2^(64-k):=by
   have:(2:Int)^k*2^(64-k)=18446744073709551616:=by rw [Int.mul_comm];exact x.symm
   rw [Int.neg_mul,this];unfold uw at p;omega
  rw [u,Int.add_mul_ediv_right _ _ ap];have v:((U/2^(64-k):Nat):Int)=(U:Int)/2^(64-k):=by simp
  rw [<-v];have y:(2:Int)^k=((2^k:Nat):Int):=by simp
  rw [y];generalize U/2^(64-k)=Y at *;generalize 2^k=P at *;clear B A hw u v x i D o y p;unfold uw;omega
 .have hw:IntKind.u64.wrap (0*2^k)=((2^k*0:Nat):Int):=by rw [Int.zero_mul];rfl
  rw [hw,JQ _ _ _ hb V3 ap];have u:a=(U:Int):=by unfold uw at p;omega
  rw [u];have v:((U/2^(64-k):Nat):Int)=(U:Int)/2^(64-k):=by simp
  rw [<-v];generalize U/2^(64-k)=Y at *;generalize 2^k=P at *;clear B A hw u v x i D o p;unfold uw;omega
theorem IU (a:Int) (k:Nat) (hk:k<=0) (h: -9223372036854775808<=a/\a<=9223372036854775807) (S:Int) (i:(S=18446744073709551615/\a<0)\/(S=0/\0<=a)):S=uw (a*2^k/18446744073709551616):=by
 obtain rfl:k=0:=ap;unfold uw;rw [Int.pow_zero,Int.mul_one];omega
theorem LG (b:Int) (k:Nat) (hk:k<64):bits .and .u64 (IntKind.u64.wrap b/2^k) 1=uw b/2^k%2:=by
 rw [ju];obtain ⟨V,o,i⟩:=qS b;rw [o];have h:(V:Int)/2^k=((V/2^k:Nat):Int):=by simp
 rw [h];have p:=Nat.div_le_self V (2^k);generalize V/2^k=Z at *;exact Nk _ ⟨ap,ap⟩
theorem oh (b:Int) (k:Nat) (hk:k<63):pb b (k+1)=pb b k+(uw b/2^k%2)*2^k:=by
 unfold pb;rw [if_pos ap,if_pos ap];obtain ⟨V,i,_⟩:=qS b;rw [i];have h:=Nat.mod_pow_succ (b:=2) (x:=V) (k:=k);have h1:((V%2^(k+1):Nat):Int)=(V:Int)%2^(k+1):=by simp
 rw [<-h1,h];simp [Int.mul_comm]
theorem sP (b:Int) (hb: -9223372036854775808<=b/\b<=9223372036854775807):pb b 64=pb b 63-(uw b/2^63%2)*2^63:=by
 unfold pb;rw [if_neg ap,if_pos ap];unfold uw;omega
theorem Pc (b:Int):pb b 0=0:=by unfold pb;rw [if_pos ap,Int.pow_zero];omega
theorem DW (b:Int):pb b 64=b:=by unfold pb;rw [if_neg ap]
theorem JB {a b:Int} (h:pb b (k+1)=pb b k):rHi a b k=rHi a b (k+1)/\rLo a b k=rLo a b (k+1):=by unfold rHi rLo;rw [h];exact ⟨rfl,rfl⟩
theorem wB {a b X:Int} (h:a*pb b (k+1)=a*pb b k+X) (o i:Int) (p:o=uw X) (hH:i=uw (X/18446744073709551616)):
  IntKind.u64.wrap (rLo a b k+o)=rLo a b (k+1)/\(rLo a b (k+1)<rLo a b k->IntKind.u64.wrap (IntKind.u64.wrap (rHi a b k+1)+i)=rHi a b (k+1))/\(¬rLo a b (k+1)<rLo a b k->IntKind.u64.wrap (rHi a b k+i)=rHi a b (k+1)):=by
 subst p;subst hH;simp only [ju];unfold rHi rLo;rw [h];have e:=Ie (a*pb b k) X;refine ⟨e,λhc=>?_,λhc=>?_⟩
 .exact LP _ _ (by rw [e];exact hc)
 .exact LQ _ _ (by rw [e];exact hc)
theorem Fe (a b:Int) (w:R8) (J: -9223372036854775808<=a/\a<=9223372036854775807) (hb: -9223372036854775808<=b/\b<=9223372036854775807):Vj 145 #[QZ a,QZ b] w λe w'=>Vi e (.tuple #[QZ (fw a b),.int .u64 (iB a b)])/\w=w':=by
 by_cases hs:a<0
 .have D:rHi a b 0=0/\rLo a b 0=0:=by unfold rHi rLo;rw [Pc,Int.mul_zero];exact ⟨rfl,rfl⟩
  have I:=aa D;clear D;go_enter func145,ntmps145;go_wp2
  go_loop [6,7,9] (λh l i=>∃k:Nat,k<=64/\i=QZ k/\h=.int .u64 (rHi a b k)/\l=.int .u64 (rLo a b k)) (λ_ _ i=>64-(intOf i).toNat)
  .exact ⟨0,ap,rfl,by rw [I.o.1],by rw [I.o.2]⟩
  case round=>
   obtain ⟨k,hk,rfl,rfl,rfl⟩:=hrel;have y:=aa hs;clear hs;by_cases L:k<64
   .have p:=LG b k L;obtain ⟨t,x⟩:=Vb (uw b/2^k%2);have N:t=0\/t=1:=ap;rw [x] at p;rcases N with U | h1
    .subst U
     have C:pb b (k+1)=pb b k:=by
      rcases Qf k 63 with h | h
      .rw [oh b k h,x];omega
      .obtain rfl:k=63:=ap;rw [sP b hb,x];omega
     have a0:(bits .and .u64 (IntKind.u64.wrap b/2^k) 1==0)=true:=by rw [p];rfl
     have hr:=JB (a:=a) C;have O:=aa hr;clear hr C x p;go_wp2;go_round
     .exact ⟨k+1,ap,Vc,by rw [O.o.1],by rw [O.o.2]⟩
     .simp [intOf];omega
    .subst h1;have a1:(bits .and .u64 (IntKind.u64.wrap b/2^k) 1==0)=false:=by rw [p];rfl
     have e1:=Nw a k;rcases (show k<=0\/(0<k/\k<63)\/63<=k by omega) with h | ⟨h,Y⟩ | h
     .have hr:=wB (a:=a) (b:=b) (k:=k) (X:=a*2^k) (by rw [oh b k ap,x,Int.mul_add,Int.one_mul]) (uw (a*2^k)) (18446744073709551615) rfl (IU a k h J _ (.inl ⟨rfl,y.o⟩));have H:((k:Int)==63)=false:=by simp;omega
      clear x p;obtain ⟨g1,u,v⟩:=hr;by_cases hc:rLo a b (k+1)<rLo a b k
      .have A:=u hc;clear u v;go_wp2;go_round
       .exact ⟨k+1,ap,Vc,rfl,rfl⟩
       .simp [intOf];omega
      .have A:=v hc;clear u v;go_wp2;go_round
       .exact ⟨k+1,ap,Vc,rfl,rfl⟩
       .simp [intOf];omega
     .have Q:=DB a k h ap J (18446744073709551615) (.inl ⟨rfl,y.o⟩);have hr:=wB (a:=a) (b:=b) (k:=k) (X:=a*2^k) (by rw [oh b k Y,x,Int.mul_add,Int.one_mul]) (uw (a*2^k)) (uw (a*2^k/18446744073709551616)) rfl rfl;have H:((k:Int)==63)=false:=by simp;omega
      clear x p;obtain ⟨g1,u,v⟩:=hr;by_cases hc:rLo a b (k+1)<rLo a b k
      .have A:=u hc;clear u v;go_wp2;go_round
       .exact ⟨k+1,ap,Vc,rfl,rfl⟩
       .simp [intOf];omega
      .have A:=v hc;clear u v;go_wp2;go_round
       .exact ⟨k+1,ap,Vc,rfl,rfl⟩
       .simp [intOf];omega
     .have Q:=DB a k ap ap J (18446744073709551615) (.inl ⟨rfl,y.o⟩);have e3:=sJ (uw (a*2^k)) (rU _);have e4:=sJ (uw (a*2^k/18446744073709551616)) (rU _);have e5:IntKind.u64.wrap (18446744073709551615-uw (a*2^k)+1)=uw (-(a*2^k)):=by rw [ju];exact wR _
      have H:((k:Int)==63)=true:=by simp;omega
      have hr:=wB (a:=a) (b:=b) (k:=k) (X:= -(a*2^k)) (by obtain rfl:k=63:=ap;rw [sP b hb,x,Int.mul_sub,Int.one_mul];omega) (uw (-(a*2^k))) (uw (-(a*2^k)/18446744073709551616)) rfl rfl;clear x p;by_cases B:uw (-(a*2^k))=0
      .have Z:IntKind.u64.wrap (18446744073709551615-uw (a*2^k/18446744073709551616)+1)=uw (-(a*2^k)/18446744073709551616):=by rw [ju];exact zU _ B
       have T:(uw (-(a*2^k))==0)=true:=by rw [B];rfl
       clear B;obtain ⟨g1,u,v⟩:=hr;by_cases hc:rLo a b (k+1)<rLo a b k
       .have A:=u hc;clear u v;go_wp2;go_round
        .exact ⟨k+1,ap,Vc,rfl,rfl⟩
        .simp [intOf];omega
       .have A:=v hc;clear u v;go_wp2;go_round
        .exact ⟨k+1,ap,Vc,rfl,rfl⟩
        .simp [intOf];omega
      .have Z:18446744073709551615-uw (a*2^k/18446744073709551616)=uw (-(a*2^k)/18446744073709551616):=zW _ B;have T:(uw (-(a*2^k))==0)=false:=by simpa using B
       clear B;obtain ⟨g1,u,v⟩:=hr;by_cases hc:rLo a b (k+1)<rLo a b k
       .have A:=u hc;clear u v;go_wp2;go_round
        .exact ⟨k+1,ap,Vc,rfl,rfl⟩
        .simp [intOf];omega
       .have A:=v hc;clear u v;go_wp2;go_round
        .exact ⟨k+1,ap,Vc,rfl,rfl⟩
        .simp [intOf];omega
   .obtain rfl:k=64:=ap
    have R:wrap64 (rHi a b 64)=fw a b:=by
     unfold rHi;rw [DW,qR];exact nT (jN J hb).1 (jN J hb).2
    have hl:rLo a b 64=iB a b:=by unfold rLo iB;rw [DW]
    obtain ⟨V,Hl⟩:=ae R hl;clear R hl;rw [show (((64:Nat):Int))=64 from rfl];go_wp2;go_ret2;exact ⟨by rw [V.o,Hl.o];rfl,rfl⟩
 .have D:rHi a b 0=0/\rLo a b 0=0:=by unfold rHi rLo;rw [Pc,Int.mul_zero];exact ⟨rfl,rfl⟩
  have I:=aa D;clear D;go_enter func145,ntmps145;go_wp2
  go_loop [6,7,9] (λh l i=>∃k:Nat,k<=64/\i=QZ k/\h=.int .u64 (rHi a b k)/\l=.int .u64 (rLo a b k)) (λ_ _ i=>64-(intOf i).toNat)
  .exact ⟨0,ap,rfl,by rw [I.o.1],by rw [I.o.2]⟩
  case round=>
   obtain ⟨k,hk,rfl,rfl,rfl⟩:=hrel;have y:=aa hs;clear hs;by_cases L:k<64
   .have p:=LG b k L;obtain ⟨t,x⟩:=Vb (uw b/2^k%2);have N:t=0\/t=1:=ap;rw [x] at p;rcases N with U | h1
    .subst U
     have C:pb b (k+1)=pb b k:=by
      rcases Qf k 63 with h | h
      .rw [oh b k h,x];omega
      .obtain rfl:k=63:=ap;rw [sP b hb,x];omega
     have a0:(bits .and .u64 (IntKind.u64.wrap b/2^k) 1==0)=true:=by rw [p];rfl
     have hr:=JB (a:=a) C;have O:=aa hr;clear hr C x p;go_wp2;go_round
     .exact ⟨k+1,ap,Vc,by rw [O.o.1],by rw [O.o.2]⟩
     .simp [intOf];omega
    .subst h1;have a1:(bits .and .u64 (IntKind.u64.wrap b/2^k) 1==0)=false:=by rw [p];rfl
     have e1:=Nw a k;rcases (show k<=0\/(0<k/\k<63)\/63<=k by omega) with h | ⟨h,Y⟩ | h
     .have hr:=wB (a:=a) (b:=b) (k:=k) (X:=a*2^k) (by rw [oh b k ap,x,Int.mul_add,Int.one_mul]) (uw (a*2^k)) (0) rfl (IU a k h J _ (.inr ⟨rfl,by have:=y.o;omega⟩));simp only [Int.add_zero] at hr;have H:((k:Int)==63)=false:=by simp;omega
      clear x p;obtain ⟨g1,u,v⟩:=hr;by_cases hc:rLo a b (k+1)<rLo a b k
      .have A:=u hc;clear u v;go_wp2;go_round
       .exact ⟨k+1,ap,Vc,rfl,rfl⟩
       .simp [intOf];omega
      .have A:=v hc;clear u v;go_wp2;go_round
       .exact ⟨k+1,ap,Vc,rfl,rfl⟩
       .simp [intOf];omega
     .have Q:=DB a k h ap J (0) (.inr ⟨rfl,by have:=y.o;omega⟩);rw [Int.zero_mul,show IntKind.u64.wrap 0=0 from rfl] at Q;have hr:=wB (a:=a) (b:=b) (k:=k) (X:=a*2^k) (by rw [oh b k Y,x,Int.mul_add,Int.one_mul]) (uw (a*2^k)) (uw (a*2^k/18446744073709551616)) rfl rfl;have H:((k:Int)==63)=false:=by simp;omega
      clear x p;obtain ⟨g1,u,v⟩:=hr;by_cases hc:rLo a b (k+1)<rLo a b k
      .have A:=u hc;clear u v;go_wp2;go_round
       .exact ⟨k+1,ap,Vc,rfl,rfl⟩
       .simp [intOf];omega
      .have A:=v hc;clear u v;go_wp2;go_round
       .exact ⟨k+1,ap,Vc,rfl,rfl⟩
       .simp [intOf];omega
     .have Q:=DB a k ap ap J (0) (.inr ⟨rfl,by have:=y.o;omega⟩);rw [Int.zero_mul,show IntKind.u64.wrap 0=0 from rfl] at Q;have e3:=sJ (uw (a*2^k)) (rU _);have e4:=sJ (uw (a*2^k/18446744073709551616)) (rU _);have e5:IntKind.u64.wrap (18446744073709551615-uw (a*2^k)+1)=uw (-(a*2^k)):=by rw [ju];exact wR _
      have H:((k:Int)==63)=true:=by simp;omega
      have hr:=wB (a:=a) (b:=b) (k:=k) (X:= -(a*2^k)) (by obtain rfl:k=63:=ap;rw [sP b hb,x,Int.mul_sub,Int.one_mul];omega) (uw (-(a*2^k))) (uw (-(a*2^k)/18446744073709551616)) rfl rfl;clear x p;by_cases B:uw (-(a*2^k))=0
      .have Z:IntKind.u64.wrap (18446744073709551615-uw (a*2^k/18446744073709551616)+1)=uw (-(a*2^k)/18446744073709551616):=by rw [ju];exact zU _ B
       have T:(uw (-(a*2^k))==0)=true:=by rw [B];rfl
       clear B;obtain ⟨g1,u,v⟩:=hr;by_cases hc:rLo a b (k+1)<rLo a b k
       .have A:=u hc;clear u v;go_wp2;go_round
        .exact ⟨k+1,ap,Vc,rfl,rfl⟩
        .simp [intOf];omega
       .have A:=v hc;clear u v;go_wp2;go_round
        .exact ⟨k+1,ap,Vc,rfl,rfl⟩
        .simp [intOf];omega
      .have Z:18446744073709551615-uw (a*2^k/18446744073709551616)=uw (-(a*2^k)/18446744073709551616):=zW _ B;have T:(uw (-(a*2^k))==0)=false:=by simpa using B
       clear B;obtain ⟨g1,u,v⟩:=hr;by_cases hc:rLo a b (k+1)<rLo a b k
       .have A:=u hc;clear u v;go_wp2;go_round
        .exact ⟨k+1,ap,Vc,rfl,rfl⟩
        .simp [intOf];omega
       .have A:=v hc;clear u v;go_wp2;go_round
        .exact ⟨k+1,ap,Vc,rfl,rfl⟩
        .simp [intOf];omega
   .obtain rfl:k=64:=ap
    have R:wrap64 (rHi a b 64)=fw a b:=by
     unfold rHi;rw [DW,qR];exact nT (jN J hb).1 (jN J hb).2
    have hl:rLo a b 64=iB a b:=by unfold rLo iB;rw [DW]
    obtain ⟨V,Hl⟩:=ae R hl;clear R hl;rw [show (((64:Nat):Int))=64 from rfl];go_wp2;go_ret2;exact ⟨by rw [V.o,Hl.o];rfl,rfl⟩
def sHi (N:Int) (k:Nat):Int:=N/2^k/18446744073709551616
def sLo (N:Int) (k:Nat):Int:=uw (N/2^k)
theorem xe (N:Int) (k:Nat):N/2^(k+1)=N/2^k/2:=by
 rw [Int.pow_succ,<-Int.ediv_ediv_of_nonneg];exact Int.le_of_lt (Int.pow_pos V0)
theorem zd (N:Int) (k:Nat):sHi N (k+1)=sHi N k/2:=by unfold sHi;rw [xe];omega
theorem FR (x y:Int):bits .or .u64 x y=bits .or .u64 y x:=by
 show IntKind.u64.wrap ((BitVec.ofInt 64 x||| BitVec.ofInt 64 y).toNat:Int)=IntKind.u64.wrap ((BitVec.ofInt 64 y||| BitVec.ofInt 64 x).toNat:Int)
 rw [BitVec.or_comm]
theorem I5 (N:Int) (k:Nat):bits .or .u64 (sLo N k/2) (IntKind.u64.wrap (IntKind.u64.wrap (sHi N k)*9223372036854775808))=sLo N (k+1):=by
 have h:=yY (sHi N k) (sLo N k) 1 ap (rU _);rw [FR];simp only [Int.pow_one,show (64-1:Nat)=63 from rfl,show (2:Int)^63=9223372036854775808 from rfl] at h;rw [h];unfold sLo sHi;rw [xe];unfold uw;omega
theorem NR (N:Int) (k:Nat) (h: -170141183460469231731687303715884105728<=N/\N<=170141183460469231731687303715884105727): -9223372036854775808<=sHi N k/\sHi N k<=9223372036854775807:=by
 induction k with
 | zero=>unfold sHi;rw [Int.pow_zero];omega
 | succ k ih=>rw [zd];omega
theorem BZ (N:Int) (q:Nat) (w:R8) (H:q<=62) (v: -170141183460469231731687303715884105728<=N/\N<=170141183460469231731687303715884105727):Vj 146 #[QZ (N/18446744073709551616),.int .u64 (uw N),QZ q] w λe A=>Vi e (QZ (wrap64 (N/2^q)))/\w=A:=by
 have p:N/18446744073709551616=sHi N 0/\uw N=sLo N 0:=by unfold sHi sLo;rw [Int.pow_zero,Int.ediv_one];exact ⟨rfl,rfl⟩
 rw [p.1,p.2];have B:=aa v;clear p v;go_enter func146,ntmps146;go_wp2
 go_loop [0,1,7] (λh l i=>∃k:Nat,k<=q/\i=QZ k/\h=QZ (sHi N k)/\l=.int .u64 (sLo N k)) (λ_ _ i=>q-(intOf i).toNat)
 .exact ⟨0,PZ _,rfl,rfl,rfl⟩
 case round=>
  obtain ⟨k,hk,rfl,rfl,rfl⟩:=hrel;have hb:=NR N k B.o;by_cases y:k<q
  .have D:=I5 N k;have u:=zd N k;have C:=aa u;clear u;go_wp2;go_round
   .exact ⟨k+1,ap,Vc,by rw [C.o],rfl⟩
   .simp [intOf];omega
  .obtain rfl:k=q:=ap;have he:wrap64 (sLo N k)=wrap64 (N/2^k):=by unfold sLo;exact qR _
   have x:=aa he;clear he;go_wp2;go_ret;exact ⟨by rw [<-x.o];rfl,rfl⟩
theorem tT (a b q:Int) (w:R8) (u: -9223372036854775808<=a/\a<=9223372036854775807) (hb: -9223372036854775808<=b/\b<=9223372036854775807):Vj 100 #[QZ a,QZ b,QZ q] w λe i=>Vi e (QZ (fJ a b q))/\w=i:=by
 by_cases h1:q<0
 .have h:fJ a b q=0:=by unfold fJ;rw [if_pos (.inl h1)]
  rw [h];clear h;go_enter func100,ntmps100;go_wp2;go_ret;exact ⟨rfl,rfl⟩
 .by_cases v:62<q
  .have h:fJ a b q=0:=by unfold fJ;rw [if_pos (.inr v)]
   rw [h];clear h;go_enter func100,ntmps100;go_wp2;go_ret;exact ⟨rfl,rfl⟩
  .obtain ⟨Q,rfl⟩:=Int.eq_ofNat_of_zero_le (show 0<=q by omega);have h:fJ a b Q=wrap64 (a*b/2^Q):=by unfold fJ;rw [if_neg ap];simp
   rw [h];have hm:=J9 u hb;have p:=Fe a b w u hb;have hs:=λi=>BZ (a*b) Q i ap ap;obtain ⟨y,x⟩:=ae p hs;clear p hs h hm;go_enter func100,ntmps100;go_wp2_with fail;refine y.o.mono ?_;rintro e A ⟨rfl,rfl⟩;go_wp2_with fail;refine (x.o _).mono ?_;rintro e B ⟨rfl,rfl⟩;go_wp2;go_ret;exact ⟨rfl,rfl⟩
def wL (sz ps:Q_) (k:Nat):Q_:=dU (szN sz (k+1)*szN sz k) λi=>nth ps (bT sz k+i)
def bL (sz ps:Q_) (k:Nat):Q_:=dU (szN sz (k+1)) λi=>nth ps (dL sz k+i)
theorem Bq (sz ps:Q_) (k:Nat):(wL sz ps k).length=szN sz (k+1)*szN sz k:=cD _ _
theorem LL (sz ps:Q_) (k:Nat):(bL sz ps k).length=szN sz (k+1):=cD _ _
def yN (w:R8) (h:R7) (sz ps:Q_) (k:Nat):Prop:=∃g o d B e,
 h=[QZ (szN sz (k+1):Int),QZ (szN sz k:Int),.slice (some (ar g o)) (szN sz (k+1)*szN sz k) d,.slice B (szN sz (k+1)) e]/\szN sz (k+1)*szN sz k<=d/\
 Rd w (some (ar g o)) (aA .i64 (wL sz ps k))/\Rd w B (aA .i64 (bL sz ps k))
def mt (u p:R9) (w:R8) (b:Nat) (sz ps:Q_) (q:Int):Prop:=∃S h cp i o rows,
 w.heap[b]?=some (.cells #[(au S),.slice h ps.length cp,QZ q,.slice i (sz.length-1) o] p (0,0))/\
 cT u w S sz/\Rd w h (aA .i64 ps)/\Rd w i (List.flatten rows)/\rows.length=sz.length-1/\(∀r∈rows,r.length=4)/\∀j,j<sz.length-1->yN w (bS rows j) sz ps j
theorem yN.below {i:R8} {p:R7} (h:yN w p sz ps k) (hb:aq w i):yN i p sz ps k:=by
 obtain ⟨g,o,d,B,e,h1,u,x,v⟩:=h;exact ⟨g,o,d,B,e,h1,u,x.below hb,v.below hb⟩
theorem mt.below {u o:R9} {i:R8} {q:Int} (h:mt u o w b sz ps q) (hb:aq w i):mt u o i b sz ps q:=by
 obtain ⟨S,I,cp,C,v,rows,p,h1,A,H,B,D,x⟩:=h;exact ⟨S,I,cp,C,v,rows,(hb.block b (PU p)).trans p,h1.below hb,A.below hb,H.below hb,B,D,λj y=>(x j y).below hb⟩
theorem mt.lt {p i:R9} {q:Int} (h:mt p i w b sz ps q):b<w.heap.size:=by
 obtain ⟨S,v,cp,x,u,rows,o,_⟩:=h;exact PU o
theorem mY:dM prog 139 2 (QZ 0) 1 8:=⟨underlying139,info_parts V1,rfl,by decide⟩
theorem BT (A:N_) (zs:Q_) (c:Nat) (w:R8) (hA:Rd w A (aA .i64 zs)) (hl:zs.length<=17592186043904):Vj 162 #[.slice A zs.length c] w λe y=>∃v,Vi e v/\y.ownsRow w.heap.size 2 1 v zs.length (aA .i64 zs)/\aq w y:=by
 have q:=λ(w:R8)=>Lib.run_eql_slice_nil (P:=prog) w 139 2 A zs.length c 0 0 underlying139
 cases A with
 | none=>
  have B:zs=[]:=by
   cases zs with
   | nil=>rfl
   | cons z l=>obtain ⟨b,o,h,_⟩:=hA 0 _ rfl;cases h
  subst B;clear q;have q:=λ(w:R8)=>Lib.run_eql_slice_nil (P:=prog) w 139 2 none 0 c 0 0 underlying139;simp only [Option.isNone_none] at q;rw [List.length_nil];go_enter func162,ntmps162;go_wp2;go_ret;exact ⟨_,rfl,Qb _ _ _ _,PY _ _⟩
 | some a=>
  go_enter func162,ntmps162;go_wp2_with (at_builtin;refine dQ mY _ rfl (.tmp 5) (.tmp 6) rfl (Ve w) _ 0 [] rfl (fg w 2 1) _ zs.length c (aA .i64 zs) rfl (hA.alloc _) (by rw [cq];omega) (cU _ _) ap V2 V3 ?_);intro H D C i hb _ _;have u:=((PY _ w).alloc (PV _) (.cells #[] 2)).trans hb;obtain ⟨p,x⟩:=ae i u;clear i hb u;go_wp2;go_ret;exact ⟨_,rfl,p.o,x.o⟩
theorem fP (A:N_) (zs:Q_) (c:Nat) (w:R8) (hA:Rd w A (aA .i64 zs)) (hl:zs.length<=17592186043904):Vj 127 #[.slice A zs.length c] w λe y=>∃x u,Vi e (.slice x zs.length u)/\zs.length<=u/\y.ownsRow w.heap.size 2 1 (.slice x zs.length u) zs.length (aA .i64 zs)/\aq w y:=by
 have h:=BT A zs c w hA hl;go_enter func127,ntmps127;go_wp2_with fail;refine h.mono ?_;rintro e D ⟨v,rfl,i,hb⟩;obtain ⟨x,u,rfl,hc⟩:=aC i;clear h;obtain ⟨p,C,B⟩:=af i hb hc;clear i hb hc;go_wp2;go_ret;exact ⟨_,_,rfl,B.o,p.o,C.o⟩
theorem Nd (A B:N_) (xs ys:Q_) (c d:Nat) (q:Int) (w:R8) (hA:Rd w A (aA .i64 xs)) (hB:Rd w B (aA .i64 ys)) (hl:xs.length=ys.length) (hm:xs.length<=17592186043904) (O:W64 xs) (N:W64 ys):Vj 274 #[.slice A xs.length c,.slice B ys.length d,QZ q] w λe C=>Vi e (.tuple #[QZ (vE xs ys q),.bool true])/\aq w C:=by
 obtain ⟨n,hn⟩:=Vb ys.length;have p:xs.length=n:=hl.trans hn;have J:vE xs ys q=C7 xs ys q n:=by unfold vE;rw [p]
 rw [p,hn,J];have U:n<=17592186043904:=ap;obtain ⟨Q,L,HA,T,Y,R⟩:=ai hn p hA hB O N;clear hn p hA hB O N hl hm J;go_enter func274,ntmps274;go_wp2
 go_loopw [8,18] (λs i wr=>∃k:Nat,k<=n/\i=QZ k/\s=QZ (C7 xs ys q k)/\aq w wr) (λ_ i _=>n-(intOf i).toNat)
 .exact ⟨0,PZ _,rfl,rfl,PY _ _⟩
 case round=>
  obtain ⟨k,hk,rfl,rfl,u⟩:=hrel;by_cases h:k<n
  .obtain ⟨Z,o1,H,p1⟩:=(HA.o.below u).num (show k<xs.length by rw [L.o];exact h);obtain ⟨b2,o2,D,p2⟩:=(T.o.below u).num (show k<ys.length by rw [Q.o];exact h);subst H;subst D;have v:=λC=>uK (nth xs k) (nth ys k) q C (Y.o k (by rw [L.o];exact h)) (R.o k (by rw [Q.o];exact h));obtain ⟨V,y⟩:=ae v u;clear v u;go_wp2_with fail;refine (V.o _).mono ?_;rintro e w3 ⟨rfl,x⟩;have I:=aa (y.o.trans (x.mono y.o.size));clear x;go_wp2;go_roundw
   .exact ⟨k+1,ap,Vc,rfl,I.o⟩
   .simp [intOf];omega
  .obtain rfl:k=n:=ap;have y:=aa u;clear u;go_wp2;go_ret2;exact ⟨rfl,y.o⟩
theorem cS {g c:Nat} {xs:Q_} {e:R9} (h:w.ownsRow base e 1 (.slice (some (ar g 0)) n c) n (aA .i64 xs)) (hk:k<n):w.cell? (ar g k)=some (QZ (nth xs k)):=by
 rw [h.cellAt k ap];have:=h.1;rw [cq] at this;exact ns .i64 xs k ap
theorem ln {v:Value} {xs:Q_} {e:R9} (h:w.ownsRow base e 1 v n (aA .i64 xs)):xs.length=n:=by
 have:=h.1;rw [cq] at this;omega
theorem eC {g c:Nat} {xs:Q_} {e:R9} (h:w.ownsRow base e 1 (Vf g 0 n c) n (aA .i64 xs)) (k:Nat) (v:Int): (w.setCell (ar g k) (QZ v)).ownsRow base e 1 (Vf g 0 n c) n (aA .i64 (xs.set k v)):=by
 have:=(h.stored k (QZ v)).1
 rwa [zR] at this
theorem EZ (A:N_) (xs:Q_) (c:Nat) (a q:Int) (w:R8) (hA:Rd w A (aA .i64 xs)) (hm:xs.length<=17592186043904) (wx:W64 xs) (ha: -9223372036854775808<=a/\a<=9223372036854775807):Vj 261 #[.slice A xs.length c,QZ a,QZ q] w λe L=>∃Q N,Vi e (.slice Q xs.length N)/\L.ownsRow w.heap.size 2 1 (.slice Q xs.length N) xs.length (aA .i64 (qT xs a q))/\aq w L:=by
 have D:=fP A xs c w hA hm;have y:=jS xs (λk=>fJ (nth xs k) a q);obtain ⟨n,hn⟩:=Vb xs.length;rw [hn] at D hm;unfold qT;rw [<-y,hn];obtain ⟨Hc,WX,Hn⟩:=af D wx hn;clear D wx hA y hn;go_enter func261,ntmps261;go_wp2_with fail;refine Hc.o.mono ?_;rintro e w1 ⟨Q,N,rfl,_,h,hb⟩;obtain ⟨HO,HB⟩:=ae h hb;clear h hb;go_wp2
 go_loopw [14] (λi wr=>∃k:Nat,k<=n/\i=QZ k/\wr.ownsRow w.heap.size 2 1 (.slice Q n N) n (aA .i64 (lq xs k (λk=>fJ (nth xs k) a q)))/\aq w wr) (λi _=>n-(intOf i).toNat)
 .exact ⟨0,PZ _,rfl,by rw [iS];exact HO.o,HB.o⟩
 case round=>
  obtain ⟨k,hk,rfl,h,O⟩:=hrel;by_cases B:k<n
  .obtain ⟨g,d,hv,hg,a0⟩:=h.form ap;simp only [QH] at hv;obtain ⟨rfl,Y,rfl⟩:=hv;clear Y;have x:k<xs.length:=by rw [Hn.o];exact B
   have p1:=cS h B;rw [ii _ x,if_neg ap] at p1;have J:=λL=>uK (nth xs k) a q L (WX.o k x) ha;have I:=jR (l:=xs) (k:=k) (λk=>fJ (nth xs k) a q) x;obtain ⟨Hm,R,C,T⟩:=ag J O h I;clear J O h I x;go_wp2_with fail;refine (Hm.o _).mono ?_;rintro e w3 ⟨rfl,H⟩;have v:=az C.o H;have Z:∃u,Vh w3 g k u:=⟨_,cS v B⟩;obtain ⟨u3,Z⟩:=Z;have f3:=v.frozenAt k;obtain ⟨V,U⟩:=ae (eC v k (fJ (nth xs k) a q)) ((R.o.trans (H.mono R.o.size)).setCell (p:=(ar g k)) hg (QZ (fJ (nth xs k) a q)));clear H v;go_wp2;go_roundw
   .exact ⟨k+1,ap,Vc,by rw [<-T.o];exact V.o,U.o⟩
   .simp [intOf];omega
  .obtain rfl:k=n:=ap;obtain ⟨R,C⟩:=ae O h;clear O h;go_wp2;go_ret;exact ⟨_,_,rfl,C.o,R.o⟩
theorem yI (base:Nat) (A B:N_) (xs ys:Q_) (n c d:Nat) (w:R8) (h:w.ownsRow base 2 1 (.slice A n c) n (aA .i64 xs)) (hB:Rd w B (aA .i64 ys)) (hl:ys.length=n) (hm:n<=17592186043904) (C:∀a b,A=some a->B=some b->a.block≠b.block):Vj 234 #[.slice A n c,.slice B n d] w λe O=>Vi e (.bool true)/\O.ownsRow base 2 1 (.slice A n c) n (aA .i64 (eT xs ys))/\Keep (λi=>(Value.slice A n c).ownBlock=some i) w O:=by
 have u:=ln h;have p:=jS xs (λk=>wrap64 (nth xs k+nth ys k));unfold eT;rw [<-p,u];obtain ⟨HO,U,Hn,V,HN⟩:=ah h hB u hl C;clear h hB u hl p C;go_enter func234,ntmps234;go_wp2
 go_loopw [13] (λi wr=>∃k:Nat,k<=n/\i=QZ k/\wr.ownsRow base 2 1 (.slice A n c) n (aA .i64 (lq xs k (λk=>wrap64 (nth xs k+nth ys k))))/\Keep (λi=>(Value.slice A n c).ownBlock=some i) w wr) (λi _=>n-(intOf i).toNat)
 .exact ⟨0,PZ _,rfl,by rw [iS];exact HO.o,Keep.refl _ _⟩
 case round=>
  obtain ⟨k,hk,rfl,h,H⟩:=hrel;by_cases v:k<n
  .obtain ⟨g,e,T,hg,a0⟩:=h.form ap;simp only [QH] at T;obtain ⟨rfl,J,rfl⟩:=T;clear J;have y:k<xs.length:=by rw [Hn.o];exact v
   have Z:=cS h v;rw [ii _ y,if_neg ap] at Z;have f1:=h.frozenAt k;obtain ⟨Q,Y,rfl,R⟩:=U.o.num (show k<ys.length by rw [V.o];exact v);have N:g≠Q:=HN.o _ _ rfl rfl;have p2:Vh wr Q (Y+k) (QZ (nth ys k)):=H.cell R (by simp [Value.ownBlock];exact N);have D:=jR (l:=xs) (k:=k) (λk=>wrap64 (nth xs k+nth ys k)) y;obtain ⟨L,x,I⟩:=af H h D;clear H h D y R;go_wp2
   go_region
   all_goals go_wp2_with fail
   all_goals
    go_roundw
    case rel=>
     refine ⟨k+1,ap,Vc,?_,?_⟩
     .rw [<-I.o];exact eC (bZ x.o 1) k _
     .exact Keep.setCell (L.o.drewN 1) (ar g k) (.inr rfl) _
    case measure=>exact Va
  .obtain rfl:k=n:=ap;obtain ⟨L,x⟩:=ae H h;clear H h;go_wp2;go_ret;exact ⟨rfl,x.o,L.o⟩
theorem vY (r c:Int) (w:R8) (hr:1<=r/\r<=1048576) (hc:1<=c/\c<=1048576):Vj 263 #[QZ r,QZ c] w λe h=>Vi e (.bool true)/\w=h:=by
 obtain ⟨h1,i⟩:=hr;obtain ⟨p,o⟩:=hc;go_enter func263,ntmps263;go_wp2;go_ret;exact ⟨dC (by simp [*]),rfl⟩
theorem nX (r c:Nat) (A:N_) (n d:Nat) (w:R8) (hr:1<=r/\r<=1048576) (hc:1<=c/\c<=1048576) (hn:n=r*c) (hm:n<=17592186043904):Vj 254 #[.agg #[QZ r,QZ c,.slice A n d]] w λe i=>Vi e (.bool true)/\i=w.alloc (.cells #[QZ r,QZ c,.slice A n d] 354):=by
 have hs:=λi=>vY r c i ap ap;have h:(r:Int)*(c:Int)=(n:Int):=by rw [hn];simp
 have u:0<=(r:Int)*(c:Int)/\(r:Int)*(c:Int)<=17592186043904:=ap;have y:((n:Int)==IntKind.i64.wrap ((r:Int)*(c:Int)))=true:=by rw [P3 _ ap,h];simp
 have v:((n:Int)==(r:Int)*(c:Int))=true:=by rw [h];simp
 have p:=aa hs;clear hs h hn;go_enter func254,ntmps254;go_wp2_with fail;refine (p.o _).mono ?_;rintro e x ⟨rfl,rfl⟩;go_wp2_with fail
 all_goals
  go_ret;exact ⟨dC (by first | rfl | simp [*]),rfl⟩
theorem N5 (r c:Nat) (A:N_) (zs:Q_) (d:Nat) (w:R8) (hr:1<=r/\r<=1048576) (hc:1<=c/\c<=1048576) (hn:zs.length=r*c) (hm:zs.length<=17592186043904) (hA:Rd w A (aA .i64 zs)):Vj 244 #[QZ r,QZ c,.slice A zs.length d] w λe x=>∃y u,Vi e (.tuple #[.agg #[QZ r,QZ c,.slice y zs.length u],.bool true])/\zs.length<=u/\x.ownsRow w.heap.size 2 1 (.slice y zs.length u) zs.length (aA .i64 zs)/\aq w x:=by
 have B:=λx (k:aq w x)=>fP A zs d x (hA.below k) hm;obtain ⟨n,H⟩:=Vb zs.length;rw [H] at B hn hm |-;have D:=λy u x=>nX r c y n u x hr hc hn hm;obtain ⟨O,R⟩:=ae B D;clear B D H hA hn;go_enter func244,ntmps244;go_wp2_with fail;refine (O.o _ ?_).mono ?_
 .exact am
 rintro e L ⟨y,u,rfl,J,h,hb⟩;have p:=(hb.block w.heap.size V3).trans (PW w _);obtain ⟨⟨Q,N,U⟩,Z⟩:=bx3 p;have I:w.heap.size<L.heap.size:=PU p;obtain ⟨HO,V,T,C⟩:=ag (aF h (base':=w.heap.size) V3) J (Below.trans ((PY _ w).alloc (PV _) _) (hb.mono V3)) h;clear h J hb p;go_wp2_with fail;refine (R.o _ _ _).mono ?_;rintro e w2 ⟨rfl,rfl⟩;go_wp2_with fail;refine Qd (v:=.tuple #[.agg #[QZ r,QZ c,.slice y n u],.bool true]) (by simp [results,results244,go_sem,Q,N,U,I]) rfl ⟨y,u,rfl,V.o,?_,?_⟩
 .refine aF (Keep.own (S:=λi=>i=w.heap.size) (w:=L) ?_ C.o (λk hk e=>by have:=(C.o.lt k hk).1;simp at this;omega)) V3
  (focus (repeat' (first | (with_reducible exact Keep.refl _ _) | (with_reducible assumption) | (with_reducible refine Keep.setCell ?_ _ ?_ _) | (with_reducible refine Keep.alloc ?_ _) | (with_reducible refine Keep.drewN ?_ _) | (with_reducible refine Keep.drew ?_) | (with_reducible exact Or.inr (je _ _)) | (with_reducible exact Or.inr (jd _ _)) | (refine Or.inr ?_;first | rfl | (simp;done) | omega) | (refine Or.inl ?_;first | omega | (simp;done) | (simp;omega)))))
 .have Y:=T.o;exact am
theorem Mw (r c k:Nat) (g o n d:Nat) (w:R8) (hr:r<=1048576) (hc:1<=c/\c<=1048576) (hk:k<r) (hn:n=r*c) (A:n<=d):Vj 269 #[.agg #[QZ r,QZ c,Vf g o n d],QZ k] w λe u=>Vi e (Vf g (o+k*c) c c)/\aq w u:=by
 have h1:k*c+c<=n:=by rw [hn];have:=QY c (show k+1<=r by omega);rw [QM] at this;exact this
 have v:k*c<=1048576*1048576:=Nat.mul_le_mul ap ap;have i:(k:Int)*(c:Int)=((k*c:Nat):Int):=(Int.natCast_mul k c).symm;have y:((k:Int)+1)*(c:Int)=((k*c+c:Nat):Int):=by rw [Int.add_mul,i];simp
 obtain ⟨p,h⟩:=Vb (k*c);rw [h] at h1 v i y |-;clear h hn;go_enter func269,ntmps269;go_wp2
 go_quiet (fail)
 have x:¬(p+c=p):=ap;go_wp2;rw [show p+c-p=c by omega];go_ret;refine ⟨rfl,?_⟩;exact am
theorem tI (h:R6) (w:R8):Vj 259 #[.agg h] w λe i=>Vi e (.func (.func 268) #[] #[(au (Ve w))])/\i=w.alloc (.cells h 354):=by
 go_enter func259,ntmps259;go_wp2;go_ret;exact ⟨rfl,rfl⟩
end
section
open Go.RowKit Go.Shelf
attribute [local go_sem] Oper.semAt_some
def qZ (g o c:Nat) {r:Nat} (k:Fin r):R6:=#[QZ (k.1:Int),.slice (some (ar g (o+k.1*c))) c c]
def jt (n₀ h:Nat) (W i:R8):Prop:=Below n₀ W i/\(h<W.heap.size->i.heap[h]?=W.heap[h]?)
theorem Ed (h:k<r):(List.finRange r).take (k+1)=(List.finRange r).take k++[⟨k,h⟩]:=by
 rw [List.take_add_one];simp [h]
theorem Ji (n l Bm n₀ g o r c V d:Nat) (hr:r<=1048576) (hc:1<=c/\c<=1048576) (a2:V=r*c) (hd:V<=d) (J Jx:List (Fin r)->R8->Prop) (B:Nat) (hJ:AbidesFrom B J) (hY:∀p x W,J p W->p.length<r->YieldAt Fence.wide (n-1) prog l (qZ g o c x) W λe O=> (Vi e (.bool true)/\J (p++[x]) O/\jt n₀ Bm W O)\/(Vi e (.bool false)/\Jx (p++[x]) O)) (W:R8) (L:Vg W Bm #[QZ r,QZ c,Vf g o V d] 354) (h0:J [] W):
  CallsIn Fence.wide n prog 268 #[.func (.yield l) #[] #[],(au Bm)] W λe O=>(∃v,Vi e v)/\
   ((∃ys,ys=List.finRange r/\J ys O)\/(∃p,True/\Jx p O)):=by
 obtain ⟨⟨e0,e1,e2⟩,ef⟩:=bx3 L;obtain ⟨a7,a4⟩:=ae L a2;clear L a2;refine callsIn_of_wp func268 rfl trivial ?_ rfl;simp only [ntmps268,List.size_toArray,List.length_cons,List.length_nil,Nat.reduceAdd,Nat.reduceSub,Array.replicate_succ,Array.replicate_zero,List.push_toArray,List.append_toArray,List.nil_append,List.cons_append]
 gi_wp2
 gi_loopw [6] (λi wr=>∃k:Nat,k<=r/\i=QZ k/\J ((List.finRange r).take k) wr/\Vg wr Bm #[QZ r,QZ c,Vf g o V d] 354)
  (λi _=>r-(intOf i).toNat)
 .exact ⟨0,PZ _,rfl,h0,a7.o⟩
 case round=>
  obtain ⟨k,hk,rfl,u,H⟩:=hrel;clear e0 e1 e2 ef;by_cases D:k<r
  .have Y:((List.finRange r).take k).length<r:=by simp;omega
   obtain ⟨⟨e0,e1,e2⟩,ef⟩:=bx3 H;have Q:=Mw r c k g o V d wr hr hc D a4.o hd;obtain ⟨I,a1,a5⟩:=af u H Q;clear u H Q
   gi_wp2_with fail
   refine ⟨trivial,(λh=>by cases h),?_⟩;refine (callsIn_wide.2 a5.o).mono ?_;rintro e w3 ⟨rfl,N⟩;have a0:=hJ _ _ _ none I.o (mW N) (λ_ h=>by cases h);have A:=(N.block _ (PU a1.o)).trans a1.o;obtain ⟨fn,tmps,a3,a9,hy,hR⟩:=hY _ ⟨k,D⟩ w3 a0 Y;unfold qZ at hy;dsimp only at hy;have y:=aa A;clear a0 A N
   gi_wp2
   refine ⟨(λh=>by cases h),?_⟩;refine hR.mono ?_;rintro e w5 (⟨rfl,R,U⟩ | ⟨rfl,T⟩)
   .have Z:=(U.2 (PU y.o)).trans y.o;obtain ⟨a6,a8⟩:=ae Z R;clear Z R U
    gi_wp2
    go_roundw
    .exact ⟨k+1,ap,Vc,by rw [Ed D];exact a8.o,a6.o⟩
    .simp [intOf];omega
   .gi_wp2
    refine Qd (results_none rfl _ _ _) rfl ?_;exact ⟨⟨_,rfl⟩,.inr ⟨_,trivial,T⟩⟩
  .obtain rfl:k=r:=ap;have C:(List.finRange k).take k=List.finRange k:=List.take_of_length_le V3;rw [C] at u;have I:=aa u;clear u C
   gi_wp2
   go_end0
   exact ⟨⟨_,rfl⟩,.inl ⟨_,rfl,I.o⟩⟩
theorem pJ (n p n₀ g o r c i d:Nat) (hr:r<=1048576) (hc:1<=c/\c<=1048576) (u:i=r*c) (v:i<=d) (w:R8) (h:Vg w p #[QZ r,QZ c,Vf g o i d] 354):
  SeqStopsK Fence.wide n prog 268 #[(au p)] (qZ (r:=r) g o c) (jt n₀ p) (λys=>ys=List.finRange r) (λ_=>True) r w:=λl J B W x y _ C A=>
 Ji n l p n₀ g o r c i d hr hc u v J B _ y C W ((x.block _ (PU h)).trans h) A
theorem mG {A B:R8} (h:jt n₀ i A B) (k:jt n₀ i B C):jt n₀ i A C:=
 ⟨h.1.trans k.1,λhb=>(k.2 (P6 hb h.1.size)).trans (h.2 hb)⟩
theorem mH (hn:n₀<=w.heap.size) (hb:i<w.heap.size) (W:R8) (l:Nat) (o p:Obj) (hl:w.heap.size<=l) (h:W.heap[l]?=some o) (h1:o.isCells=false) (u:o.isWalk=false):jt n₀ i W (W.putObj l p):=
 ⟨belowK_b hn W l o p hl h h1 u,λ_=>(belowK_b (n₀:=i+1) ap W l o p hl h h1 u).block i ap⟩
end
end Go.Proofs.YtgmajkppbhiopaaGreat
