/- Words of our own for memory: a slice that reads as a list; one element more behind an owned row; worlds that keep what was there. A region that draws its order: what is held need only be held till one certain operation has come (the store that ends it). Regions that draw their order, in few steps: what is taken first is taken all at once; a call in one step. Data that came in, opened part by part: what each type's cells read as. A world whose blocks below a number are empty: what is read there lies above. The product of two fixed-point numbers, in plain arithmetic: no program. Vectors of fixed-point numbers, in plain lists. The layout of the parameters of a network, in plain numbers. Blocks that are known whole, beside rows of one's own. The walks of sakiaref08. No condition. -/
import Derived.WalkKit
import Derived.Lib.Hide
import Derived.Deep.Draws
import Derived.Deep.AppendLies
import Derived.Maps.AppendAt
import Derived.WalkSmall
import Derived.StillTail
import Derived.OrdersHeld
import Derived.Deep.RegionHeld
import Derived.ProofKit
import Derived.OpenShut
import Derived.Deep.Slices
import Derived.RowKit
import Derived.Test.YthamijnggdjaoaaGreatDoorProg
import Derived.BigQuiet
import Derived.Deep.QuietTactic
import Derived.Deep.RegionHeld3
import Derived.IntWalk
set_option linter.unusedSimpArgs false
set_option linter.unusedVariables false
namespace Go.Proofs.YthamijnggdjaoaaGreatDoor
open Go.RowKit
def nth (l:List Int) (k:Nat):Int:=l.getD k 0
theorem nth_eq (l:List Int) (k:Nat) (h:k < l.length):nth l k = l[k]:=by simp [nth,List.getD,h]
theorem take_succ_nth (l:List Int) (k:Nat) (h:k < l.length):l.take (k + 1) = l.take k ++ [nth l k]:=by
  rw [List.take_succ_eq_append_getElem h,nth_eq l k h]
theorem ret_int {k:IntKind} {a b:Int} (h:a = b):Ending.returned (.int k a) = .returned (.int k b):=by rw [h]
theorem ret_bool {a b:Bool} (h:a = b):Ending.returned (.bool a) = .returned (.bool b):=by rw [h]
def nums (q:IntKind) (zs:List Int):List Value:=zs.map (.int q)
theorem nums_length (q:IntKind) (zs:List Int):(nums q zs).length = zs.length:=by simp [nums]
theorem nums_append (q:IntKind) (a b:List Int):nums q (a ++ b) = nums q a ++ nums q b:=by simp [nums]
theorem nums_get (q:IntKind) (zs:List Int) (k:Nat) (h:k < zs.length):(nums q zs)[k]? = some (.int q (nth zs k)):=by
  simp [nums,nth_eq zs k h,h]
theorem nums_set (q:IntKind) (zs:List Int) (k:Nat) (a:Int):(nums q zs).set k (.int q a) = nums q (zs.set k a):=by simp [nums,List.map_set]
theorem nums_cell (q:IntKind) (zs:List Int):∀ u ∈ nums q zs,u.oneCell' = true:=ints_oneCell q zs
theorem nums_take (q:IntKind) (zs:List Int) (n:Nat):(nums q zs).take n = nums q (zs.take n):=by simp [nums,List.map_take]
theorem nums_drop (q:IntKind) (zs:List Int) (n:Nat):(nums q zs).drop n = nums q (zs.drop n):=by simp [nums,List.map_drop]
theorem nums_rep (q:IntKind) (n:Nat) (a:Int):List.replicate n (Value.int q a) = nums q (List.replicate n a):=by simp [nums]
def Rd (w:World) (A:Option Addr) (xs:List Value):Prop:=
  ∀ k u,xs[k]? = some u → ∃ b o,A = some ⟨b,o,none⟩ ∧ w.cell? ⟨b,o + k,none⟩ = some u
theorem lt_of_cell {w:World} {a:Addr} {u:Value} (h:w.cell? a = some u):a.block < w.heap.size:=World.block_lt_of_cell? w a h
theorem Rd.nil (w:World) (A:Option Addr):Rd w A []:=fun k u h => by simp at h
theorem Rd.num {w:World} {A:Option Addr} {q:IntKind} {zs:List Int} (h:Rd w A (nums q zs)) {k:Nat} (hk:k < zs.length) :
    ∃ b o,A = some ⟨b,o,none⟩ ∧ w.cell? ⟨b,o + k,none⟩ = some (.int q (nth zs k)):=h k _ (nums_get q zs k hk)
theorem Rd.same {w w':World} {A:Option Addr} {xs:List Value} (h:Rd w A xs) (hb:∀ b,b < w.heap.size → w'.heap[b]? = w.heap[b]?):Rd w' A xs:=fun k u hu => by
  obtain ⟨b,o,hA,hc⟩:=h k u hu
  exact ⟨b,o,hA,(World.cell?_of_block (w:=w) (hb _ (lt_of_cell hc))).trans hc⟩
theorem Rd.below {w w':World} {A:Option Addr} {xs:List Value} (h:Rd w A xs) (hb:Below w.heap.size w w'):Rd w' A xs:=h.same hb.block
theorem Rd.alloc {w:World} {A:Option Addr} {xs:List Value} (h:Rd w A xs) (o:Obj):Rd (w.alloc o) A xs:=h.same fun b hb => Below.heap_alloc w o b hb
theorem Rd.drew {w:World} {A:Option Addr} {xs:List Value} (h:Rd w A xs):Rd w.drew A xs:=h
theorem Rd.drewN {w:World} {A:Option Addr} {xs:List Value} (h:Rd w A xs) (n:Nat):Rd (w.drewN n) A xs:=h
theorem Rd.belowB {B:Nat} {w w':World} {A:Option Addr} {xs:List Value} (h:Rd w A xs) (hb:Below B w w') (hA:∀ a,A = some a → a.block < B):Rd w' A xs:=fun k u hu => by
  obtain ⟨b,o,hA',hc⟩:=h k u hu
  exact ⟨b,o,hA',(hb.cell (p:=⟨b,o + k,none⟩) (show b < B from hA _ hA')).trans hc⟩
theorem Rd.own {w:World} {base:Nat} {e:TypeId} {size n c:Nat} {A:Option Addr} {xs:List Value} (h:w.ownsRow base e size (.slice A n c) n xs):Rd w A xs:=fun k u hu => by
  have hk:k < xs.length:=(List.getElem?_eq_some_iff.1 hu).1
  rcases h.2 with ⟨_,h0⟩ | ⟨g,cap,cur,hv,_,hg,_,_,_,htake⟩
  · have:=h.1;rw [h0] at this;omega
  · simp only [Value.slice.injEq] at hv
    obtain ⟨rfl,_,rfl⟩:=hv
    refine ⟨g,0,rfl,?_⟩
    have h2:=h.cellAt k (by have:=h.1;omega)
    rw [Nat.zero_add,h2,hu]
theorem Rd.grown {w w':World} {row:Option Nat} {A:Option Addr} {xs:List Value} (h:Rd w A xs) (hg:w.grownBy w' row) (hA:∀ a,A = some a → some a.block ≠ row):Rd w' A xs:=fun k u hu => by
  obtain ⟨b,o,hA',hc⟩:=h k u hu
  exact ⟨b,o,hA',hg.cell hc (show some b ≠ row from hA _ hA')⟩
theorem Rd.take {w:World} {A:Option Addr} {xs:List Value} (h:Rd w A xs) (n:Nat):Rd w A (xs.take n):=fun k u hu => by
  rw [List.getElem?_take] at hu
  split at hu
  · exact h k u hu
  · cases hu
theorem Rd.drop {w:World} {b o:Nat} {xs:List Value} (h:Rd w (some ⟨b,o,none⟩) xs) (n:Nat):Rd w (some ⟨b,o + n,none⟩) (xs.drop n):=fun k u hu => by
  rw [List.getElem?_drop] at hu
  obtain ⟨b',o',e,hc⟩:=h _ _ hu
  injection e with e
  injection e with e1 e2 _
  subst e1;subst e2
  exact ⟨b,o + n,rfl,by rw [Nat.add_assoc];exact hc⟩
theorem rd_newN (w:World) (xs:List Value) (e:TypeId) (n:Nat) (hn:w.heap.size = n):Rd (w.alloc (.cells xs.toArray e)) (some ⟨n,0,none⟩) xs:=fun k u hu => by
  subst hn
  refine ⟨_,_,rfl,?_⟩
  rw [Nat.zero_add,cell_of_row _ w.heap.size k xs.toArray e (0,0) (heap_alloc_new w _)]
  simpa using hu
theorem own_form {w:World} {base:Nat} {e:TypeId} {size:Nat} {v:Value} {n:Nat} {xs:List Value} (h:w.ownsRow base e size v n xs):∃ A c,v = .slice A n c ∧ n ≤ c:=by
  rcases h.2 with ⟨rfl,rfl⟩ | ⟨g,cap,cur,rfl,_,_,hc,_⟩
  · exact ⟨none,0,rfl,Nat.le_refl _⟩
  · exact ⟨_,_,rfl,hc⟩
theorem own_below {w w':World} {base:Nat} {e:TypeId} {size:Nat} {v:Value} {n:Nat} {xs:List Value} (h:w.ownsRow base e size v n xs) (hb:Below w.heap.size w w'):w'.ownsRow base e size v n xs:=
  h.kept (row:=none) ⟨hb.os,hb.tape,hb.output,hb.size,fun k hk _ => hb.block k hk⟩ (by cases hv:v.ownBlock <;> simp)
theorem own_drewN {w:World} {base:Nat} {e:TypeId} {size:Nat} {v:Value} {n:Nat} {xs:List Value} (h:w.ownsRow base e size v n xs) (m:Nat):(w.drewN m).ownsRow base e size v n xs:=h
theorem own_base {w:World} {base base':Nat} {e:TypeId} {size:Nat} {v:Value} {n:Nat} {xs:List Value} (h:w.ownsRow base e size v n xs) (hb:base' ≤ base):w.ownsRow base' e size v n xs:=by
  refine ⟨h.1,?_⟩
  rcases h.2 with h2 | ⟨g,cap,cur,hv,hg,r⟩
  · exact .inl h2
  · exact .inr ⟨g,cap,cur,hv,Nat.le_trans hb hg,r⟩
structure Keep (S:Nat → Prop) (w w':World):Prop where
  os:w'.os = w.os
  tape:w'.tape = w.tape
  output:w'.output = w.output
  size:w.heap.size ≤ w'.heap.size
  block:∀ k,k < w.heap.size → ¬ S k → w'.heap[k]? = w.heap[k]?
theorem Keep.refl (S:Nat → Prop) (w:World):Keep S w w:=⟨rfl,rfl,rfl,Nat.le_refl _,fun _ _ _ => rfl⟩
theorem Keep.trans {S:Nat → Prop} {a b c:World} (h:Keep S a b) (k:Keep S b c):Keep S a c:=
  ⟨k.os.trans h.os,k.tape.trans h.tape,k.output.trans h.output,Nat.le_trans h.size k.size,fun i hi hn => (k.block i (Nat.lt_of_lt_of_le hi h.size) hn).trans (h.block i hi hn)⟩
theorem Keep.below {S:Nat → Prop} {w w':World} (h:Below w.heap.size w w'):Keep S w w':=⟨h.os,h.tape,h.output,h.size,fun k hk _ => h.block k hk⟩
theorem Keep.mono {S S':Nat → Prop} {w w':World} (h:Keep S w w') (hs:∀ k,k < w.heap.size → S k → S' k):Keep S' w w':=⟨h.os,h.tape,h.output,h.size,fun k hk hn => h.block k hk fun hS => hn (hs k hk hS)⟩
theorem Keep.drewN {S:Nat → Prop} {a w:World} (h:Keep S a w) (n:Nat):Keep S a (w.drewN n):=⟨h.os,h.tape,h.output,h.size,h.block⟩
theorem Keep.drew {S:Nat → Prop} {a w:World} (h:Keep S a w):Keep S a w.drew:=⟨h.os,h.tape,h.output,h.size,h.block⟩
theorem Keep.alloc {S:Nat → Prop} {a w:World} (h:Keep S a w) (o:Obj):Keep S a (w.alloc o):=h.trans (Keep.below ((Below.refl _ w).alloc (Nat.le_refl _) o))
theorem Keep.setCell {S:Nat → Prop} {a w:World} (h:Keep S a w) (p:Addr) (hp:a.heap.size ≤ p.block ∨ S p.block) (u:Value):Keep S a (w.setCell p u):=
  ⟨h.os,h.tape,h.output,by simp [World.setCell];exact h.size,fun k hk hn => (Below.heap_setCell w p u k (fun e => by subst e;rcases hp with hp | hp <;> first | omega | exact hn hp)).trans (h.block k hk hn)⟩
theorem Keep.grown {S:Nat → Prop} {a w w':World} (h:Keep S a w) {row:Option Nat} (hg:w.grownBy w' row) (hr:∀ k,row = some k → a.heap.size ≤ k ∨ S k):Keep S a w':=
  ⟨hg.os.trans h.os,hg.tape.trans h.tape,hg.output.trans h.output,Nat.le_trans h.size hg.size,fun k hk hn =>
    (hg.block k (Nat.lt_of_lt_of_le hk h.size) fun e => by
      rcases hr k e.symm with h1 | h1
      · omega
      · exact hn h1).trans (h.block k hk hn)⟩
theorem Keep.toBelow {S:Nat → Prop} {B:Nat} {w w':World} (h:Keep S w w') (hB:B ≤ w.heap.size) (hS:∀ k,S k → B ≤ k):Below B w w':=
  ⟨h.os,h.tape,h.output,h.size,fun k hk => h.block k (by omega) fun hs => by have:=hS k hs;omega⟩
theorem Keep.cell {S:Nat → Prop} {w w':World} (h:Keep S w w') {p:Addr} {u:Value} (hc:w.cell? p = some u) (hp:¬ S p.block):w'.cell? p = some u:=
  (World.cell?_of_block (w:=w) (h.block _ (lt_of_cell hc) hp)).trans hc
theorem Keep.rd {S:Nat → Prop} {w w':World} (h:Keep S w w') {A:Option Addr} {xs:List Value} (hr:Rd w A xs) (hA:∀ a,A = some a → ¬ S a.block):Rd w' A xs:=fun k u hu => by
  obtain ⟨b,o,hA',hc⟩:=hr k u hu
  exact ⟨b,o,hA',h.cell hc (show ¬ S b from hA _ hA')⟩
theorem Keep.own {S:Nat → Prop} {w w':World} (h:Keep S w w') {base:Nat} {e:TypeId} {size:Nat} {v:Value} {n:Nat} {xs:List Value} (ho:w.ownsRow base e size v n xs) (hv:∀ k,v.ownBlock = some k → ¬ S k):w'.ownsRow base e size v n xs:=by
  refine ⟨ho.1,?_⟩
  rcases ho.2 with h2 | ⟨g,cap,cur,rfl,hg,hgg,r⟩
  · exact .inl h2
  · exact .inr ⟨g,cap,cur,rfl,hg,(h.block g (lt_of_block hgg) (hv g rfl)).trans hgg,r⟩
structure ElemT (P:Program) (t e:TypeId) (z:Value) (size bytes:Nat):Prop where
  und:P.underlying t = some (.slice e)
  info:∃ i,P.info? e = some i ∧ i.zero = some z ∧ i.size = size ∧ i.bytes = bytes
  zs:z.cells.size = size
  pos:0 < size
theorem wpList_push {P:Program} {t e:TypeId} {z:Value} {size bytes:Nat} (T:ElemT P t e z size bytes) (w:World) {ops:Array Oper} {rest:List Oper} {o:Oper} {a:Act} {Q:Exit → Act → World → Prop}
    (hgd:o.guard = none) (s x:Operand) (ho:o.op = .call { callee:=.builtin .append,args:=#[s,x],argTypes:=#[t,t] })
    (base:Nat) (v:Value) (n:Nat) (xs:List Value) (hs:a.eval s = v) (hown:w.ownsRow base e size v n xs)
    (us:List Value) (hx:a.eval x = .slice (some ⟨w.heap.size,0,none⟩) 1 1) (hus:us.length = size) (h1:∀ u ∈ us,u.oneCell' = true)
    (hb:(n + 1) * bytes ≤ 140737488355328) (h63:n + 1 ≤ maxLen) (hbase:base ≤ w.heap.size)
    (h:∀ g c w',w'.ownsRow base e size (.slice (some ⟨g,0,none⟩) (n + 1) c) (n + 1) (xs ++ us) → Below base w w' → w.grownBy w' v.ownBlock →
      wpList P ops Q rest (a.put o.dst (.slice (some ⟨g,0,none⟩) (n + 1) c)) w'):wpList P ops Q (o :: rest) a (w.alloc (.cells us.toArray e)):=by
  obtain ⟨i,hi,hz0,hz1,hz2⟩:=T.info
  refine wpList_append_own (w.alloc (.cells us.toArray e)) hgd s x t ho base e i z size bytes T.und hi hz0 hz1 hz2 T.zs T.pos v n xs hs (hown.alloc _) ⟨w.heap.size,0,none⟩ 1 1 us hx (by simpa using hus) ?_ h1 h63 hb
    (by simp;omega) ?_
  · intro j u hu
    rw [Addr.add_lit,Nat.zero_add,cell_of_row _ w.heap.size j us.toArray e (0,0) (heap_alloc_new w _)]
    simpa using hu
  · intro v' w' hown' hg _
    obtain ⟨g,c,rfl,hbg,_⟩:=hown'.form (by omega)
    have hg':w.grownBy w' v.ownBlock:=(World.grownBy_alloc w _ _).trans hg
    exact h g c w' hown' ((Below.refl base w).grown hg' hbase fun k hk => (hown.lt k hk).1) hg'
theorem run_append_nil_src {P:Program} {t e:TypeId} {z:Value} {size bytes:Nat} (T:ElemT P t e z size bytes) (w:World) (base:Nat) (ty:TypeId) (v:Value) (n:Nat) (xs:List Value) (hown:w.ownsRow base e size v n xs) (c:Nat) :
    (Builtin.append_ #[t,t] ty #[v,.slice none 0 c]).run P w = .ok v w:=by
  obtain ⟨i,hi,_,_,_⟩:=T.info
  rcases hown.2 with ⟨rfl,rfl⟩ | ⟨g,cap,cur,rfl,_,_,hnc,_⟩
  · simp [Builtin.append_,run_underlying T.und,sizeOf,typeInfo,hi,Builtin.lenOf,Builtin.firstCells]
  · simp [Builtin.append_,run_underlying T.und,sizeOf,typeInfo,hi,Builtin.lenOf,Builtin.firstCells,hnc,storeCells]
theorem run_app {P:Program} {t e:TypeId} {z:Value} {size bytes:Nat} (T:ElemT P t e z size bytes) (w:World) (base:Nat) (ty:TypeId) (v:Value) (n:Nat) (xs:List Value) (hown:w.ownsRow base e size v n xs)
    (A:Option Addr) (m c:Nat) (us:List Value) (hr:Rd w A us) (hus:us.length = m * size) (h1:∀ u ∈ us,u.oneCell' = true)
    (hb:(n + m) * bytes ≤ 140737488355328) (h63:n + m ≤ maxLen) (hbase:base ≤ w.heap.size) :
    ∃ v' w',(Builtin.append_ #[t,t] ty #[v,.slice A m c]).run P w = .ok v' w' ∧ w'.ownsRow base e size v' (n + m) (xs ++ us) ∧ Below base w w' ∧ w.grownBy w' v.ownBlock ∧ (v'.ownBlock = v.ownBlock ∨ v'.ownBlock = some w.heap.size):=by
  cases A with
  | none =>
    have hm:us = []:=by
      cases us with
      | nil => rfl
      | cons u l => obtain ⟨b,o,h,_⟩:=hr 0 u rfl;cases h
    subst hm
    have hm0:m = 0:=by
      have:=T.pos
      rcases Nat.eq_zero_or_pos m with h | h
      · exact h
      · have:=Nat.mul_pos h this;simp at hus;omega
    subst hm0
    exact ⟨v,w,run_append_nil_src T w base ty v n xs hown c,by simpa using hown,Below.refl _ _,World.grownBy.refl _ _,.inl rfl⟩
  | some ad =>
    obtain ⟨i,hi,hz0,hz1,hz2⟩:=T.info
    have hc:∀ j u,us[j]? = some u → w.cell? (ad.add j) = some u:=fun j u hu => by
      obtain ⟨b,o,e,h⟩:=hr j u hu
      injection e with e
      subst e
      rw [Addr.add_lit];exact h
    obtain ⟨v',w',hr,h2,h3,h4,h5⟩:=run_append_own_at (P:=P) w base t ty e i z size bytes T.und hi hz0 hz1 hz2 T.zs T.pos v n xs hown ad m c us hus hc h1 h63 hb hbase
    exact ⟨v',w',hr,h2,(Below.refl base w).grown h3 hbase fun k hk => (hown.lt k hk).1,h3,h5⟩
theorem wpList_app {P:Program} {t e:TypeId} {z:Value} {size bytes:Nat} (T:ElemT P t e z size bytes) (w:World) {ops:Array Oper} {rest:List Oper} {o:Oper} {a:Act} {Q:Exit → Act → World → Prop}
    (hgd:o.guard = none) (s x:Operand) (ho:o.op = .call { callee:=.builtin .append,args:=#[s,x],argTypes:=#[t,t] })
    (base:Nat) (v:Value) (n:Nat) (xs:List Value) (hs:a.eval s = v) (hown:w.ownsRow base e size v n xs)
    (A:Option Addr) (m c:Nat) (us:List Value) (hx:a.eval x = .slice A m c) (hr:Rd w A us) (hus:us.length = m * size) (h1:∀ u ∈ us,u.oneCell' = true)
    (hb:(n + m) * bytes ≤ 140737488355328) (h63:n + m ≤ maxLen) (hbase:base ≤ w.heap.size)
    (h:∀ A' c' w',w'.ownsRow base e size (.slice A' (n + m) c') (n + m) (xs ++ us) → Below base w w' → w.grownBy w' v.ownBlock → ((Value.slice A' (n + m) c').ownBlock = v.ownBlock ∨ (Value.slice A' (n + m) c').ownBlock = some w.heap.size) → wpList P ops Q rest (a.put o.dst (.slice A' (n + m) c')) w') :
    wpList P ops Q (o :: rest) a w:=by
  refine wpList_plain hgd fun K' hK' => ?_
  obtain ⟨v',w',hrun,h2,h3,h4,h5⟩:=run_app T w base o.type v n xs hown A m c us hr hus h1 hb h63 hbase
  obtain ⟨A',c',rfl,_⟩:=own_form h2
  unfold Oper.wp
  simp [execOp,ho,resolve,invoke,builtin,hs,hx,hrun,Result.andThen]
  exact hK' _ _ (h A' c' w' h2 h3 h4 h5)
theorem step_app {P:Program} {t e:TypeId} {z:Value} {size bytes:Nat} (T:ElemT P t e z size bytes) {w:World} {ops:Array Oper} {o:Oper} {a:Act} {K:Act → World → Prop} {Q:Exit → Act → World → Prop} {E:Prop}
    (hgd:o.guard = none) (s x:Operand) (ho:o.op = .call { callee:=.builtin .append,args:=#[s,x],argTypes:=#[t,t] })
    (base:Nat) (v:Value) (n:Nat) (xs:List Value) (hs:a.eval s = v) (hown:w.ownsRow base e size v n xs)
    (A:Option Addr) (m c:Nat) (us:List Value) (hx:a.eval x = .slice A m c) (hr:Rd w A us) (hus:us.length = m * size) (h1:∀ u ∈ us,u.oneCell' = true)
    (hb:(n + m) * bytes ≤ 140737488355328) (h63:n + m ≤ maxLen) (hbase:base ≤ w.heap.size)
    (h:∀ A' c' w',w'.ownsRow base e size (.slice A' (n + m) c') (n + m) (xs ++ us) → Below base w w' → w.grownBy w' v.ownBlock → ((Value.slice A' (n + m) c').ownBlock = v.ownBlock ∨ (Value.slice A' (n + m) c').ownBlock = some w.heap.size) → K (a.put o.dst (.slice A' (n + m) c')) w') :
    if Region.wanted o (yielded ops a.tmps) = true then Oper.wp P o a w K Q else E:=by
  have hw:Region.wanted o (yielded ops a.tmps) = true:=by simp [Region.wanted,hgd]
  rw [if_pos hw]
  obtain ⟨v',w',hrun,h2,h3,h4,h5⟩:=run_app T w base o.type v n xs hown A m c us hr hus h1 hb h63 hbase
  obtain ⟨A',c',rfl,_⟩:=own_form h2
  unfold Oper.wp
  simp [execOp,ho,resolve,invoke,builtin,hs,hx,hrun,Result.andThen]
  exact h A' c' w' h2 h3 h4 h5
theorem own_empty (w:World) (e:TypeId) (size:Nat):(w.alloc (.cells #[] e)).ownsRow w.heap.size e size (.slice (some ⟨w.heap.size,0,none⟩) 0 0) 0 []:=
  World.ownsRow_made w #[] 0 (Nat.le_refl _) (by unfold maxLen;omega) (by simp)
theorem wpList_mk {P:Program} {t e:TypeId} {z:Value} {bytes:Nat} (T:ElemT P t e z 1 bytes) (w:World) {ops:Array Oper} {rest:List Oper} {o:Oper} {a:Act} {Q:Exit → Act → World → Prop}
    (hg:o.guard = none) (l c:Operand) (hop:o.op = Op.makeSlice t l c) (hzc:z.cells = #[z])
    (n:Nat) (hl:a.eval l = .int .i64 (n:Int)) (hc:a.eval c = .int .i64 (n:Int)) (b2:bytes * n ≤ 281474976710656) (b3:n ≤ maxLen)
    (hK:∀ w',w'.ownsRow w.heap.size e 1 (.slice (some ⟨w.heap.size,0,none⟩) n n) n (List.replicate n z) → Below w.heap.size w w' →
      wpList P ops Q rest (a.put o.dst (.slice (some ⟨w.heap.size,0,none⟩) n n)) w'):wpList P ops Q (o :: rest) a w:=by
  obtain ⟨i,hi,hz0,hz1,hz2⟩:=T.info
  refine wpList_make_full w hg l c t hop w.heap.size e i z 1 T.und hi hz0 hz1 .i64 .i64 n n n hl hc rfl rfl (by rw [hz2];exact b2) b3 (Nat.le_refl _) ?_
  intro w' hown hg'
  rw [hzc,Nat.mul_one,toList_madeCells_one] at hown
  exact hK w' hown ⟨hg'.os,hg'.tape,hg'.output,hg'.size,fun k hk => hg'.block k hk (by simp)⟩
def Cs (w:World) (b:Nat):Nat → List Value → Prop
  | _,[] => True
  | i,v :: vs => w.cell? ⟨b,i,none⟩ = some v ∧ Cs w b (i + 1) vs
theorem cs_of (w:World) (b:Nat) (all:List Value) (hc:∀ j,w.cell? ⟨b,j,none⟩ = all[j]?):∀ (vs:List Value) (i:Nat),(∀ j,vs[j]? = all[i + j]?) → Cs w b i vs
  | [],_,_ => trivial
  | v :: vs,i,h => ⟨by rw [hc];exact (h 0).symm,cs_of w b all hc vs (i + 1) fun j => by have:=h (j + 1);simpa [Nat.add_assoc,Nat.add_comm 1 j] using this⟩
def Bx (w:World) (b:Nat) (vs:List Value):Prop:=Cs w b 0 vs ∧ b < w.heap.size ∧ ∀ j,w.frozen? ⟨b,j,none⟩ = false
theorem bx {w:World} {b:Nat} {vs:List Value} {t:TypeId} (h:w.heap[b]? = some (.cells vs.toArray t (0,0))):Bx w b vs:=
  ⟨cs_of w b vs (fun j => by rw [cell_of_row w b j _ _ _ h];simp) vs 0 (fun j => by simp),lt_of_block h,fun j => frozen_of_row w b j _ _ h⟩
theorem bx1 {w:World} {b:Nat} {t:TypeId} {v0:Value} (h:w.heap[b]? = some (.cells #[v0] t (0,0))):(w.cell? ⟨b,0,none⟩ = some v0) ∧ ∀ j,w.frozen? ⟨b,j,none⟩ = false:=by
  have:=bx (vs:=[v0]) h;simp only [Bx,Cs,Nat.reduceAdd,and_true] at this;exact ⟨this.1,this.2.2⟩
theorem bx2 {w:World} {b:Nat} {t:TypeId} {v0 v1:Value} (h:w.heap[b]? = some (.cells #[v0,v1] t (0,0))):(w.cell? ⟨b,0,none⟩ = some v0 ∧ w.cell? ⟨b,1,none⟩ = some v1) ∧ ∀ j,w.frozen? ⟨b,j,none⟩ = false:=by
  have:=bx (vs:=[v0,v1]) h;simp only [Bx,Cs,Nat.reduceAdd,and_true] at this;exact ⟨this.1,this.2.2⟩
theorem bx3 {w:World} {b:Nat} {t:TypeId} {v0 v1 v2:Value} (h:w.heap[b]? = some (.cells #[v0,v1,v2] t (0,0))):(w.cell? ⟨b,0,none⟩ = some v0 ∧ w.cell? ⟨b,1,none⟩ = some v1 ∧ w.cell? ⟨b,2,none⟩ = some v2) ∧ ∀ j,w.frozen? ⟨b,j,none⟩ = false:=by
  have:=bx (vs:=[v0,v1,v2]) h;simp only [Bx,Cs,Nat.reduceAdd,and_true] at this;exact ⟨this.1,this.2.2⟩
theorem bx4 {w:World} {b:Nat} {t:TypeId} {v0 v1 v2 v3:Value} (h:w.heap[b]? = some (.cells #[v0,v1,v2,v3] t (0,0))):(w.cell? ⟨b,0,none⟩ = some v0 ∧ w.cell? ⟨b,1,none⟩ = some v1 ∧ w.cell? ⟨b,2,none⟩ = some v2 ∧ w.cell? ⟨b,3,none⟩ = some v3) ∧ ∀ j,w.frozen? ⟨b,j,none⟩ = false:=by
  have:=bx (vs:=[v0,v1,v2,v3]) h;simp only [Bx,Cs,Nat.reduceAdd,and_true] at this;exact ⟨this.1,this.2.2⟩
theorem bx5 {w:World} {b:Nat} {t:TypeId} {v0 v1 v2 v3 v4:Value} (h:w.heap[b]? = some (.cells #[v0,v1,v2,v3,v4] t (0,0))):(w.cell? ⟨b,0,none⟩ = some v0 ∧ w.cell? ⟨b,1,none⟩ = some v1 ∧ w.cell? ⟨b,2,none⟩ = some v2 ∧ w.cell? ⟨b,3,none⟩ = some v3 ∧ w.cell? ⟨b,4,none⟩ = some v4) ∧ ∀ j,w.frozen? ⟨b,j,none⟩ = false:=by
  have:=bx (vs:=[v0,v1,v2,v3,v4]) h;simp only [Bx,Cs,Nat.reduceAdd,and_true] at this;exact ⟨this.1,this.2.2⟩
theorem bx8 {w:World} {b:Nat} {t:TypeId} {v0 v1 v2 v3 v4 v5 v6 v7:Value} (h:w.heap[b]? = some (.cells #[v0,v1,v2,v3,v4,v5,v6,v7] t (0,0))):(w.cell? ⟨b,0,none⟩ = some v0 ∧ w.cell? ⟨b,1,none⟩ = some v1 ∧ w.cell? ⟨b,2,none⟩ = some v2 ∧ w.cell? ⟨b,3,none⟩ = some v3 ∧ w.cell? ⟨b,4,none⟩ = some v4 ∧ w.cell? ⟨b,5,none⟩ = some v5 ∧ w.cell? ⟨b,6,none⟩ = some v6 ∧ w.cell? ⟨b,7,none⟩ = some v7) ∧ ∀ j,w.frozen? ⟨b,j,none⟩ = false:=by
  have:=bx (vs:=[v0,v1,v2,v3,v4,v5,v6,v7]) h;simp only [Bx,Cs,Nat.reduceAdd,and_true] at this;exact ⟨this.1,this.2.2⟩
theorem bx9 {w:World} {b:Nat} {t:TypeId} {v0 v1 v2 v3 v4 v5 v6 v7 v8:Value} (h:w.heap[b]? = some (.cells #[v0,v1,v2,v3,v4,v5,v6,v7,v8] t (0,0))):(w.cell? ⟨b,0,none⟩ = some v0 ∧ w.cell? ⟨b,1,none⟩ = some v1 ∧ w.cell? ⟨b,2,none⟩ = some v2 ∧ w.cell? ⟨b,3,none⟩ = some v3 ∧ w.cell? ⟨b,4,none⟩ = some v4 ∧ w.cell? ⟨b,5,none⟩ = some v5 ∧ w.cell? ⟨b,6,none⟩ = some v6 ∧ w.cell? ⟨b,7,none⟩ = some v7 ∧ w.cell? ⟨b,8,none⟩ = some v8) ∧ ∀ j,w.frozen? ⟨b,j,none⟩ = false:=by
  have:=bx (vs:=[v0,v1,v2,v3,v4,v5,v6,v7,v8]) h;simp only [Bx,Cs,Nat.reduceAdd,and_true] at this;exact ⟨this.1,this.2.2⟩
theorem bx12 {w:World} {b:Nat} {t:TypeId} {v0 v1 v2 v3 v4 v5 v6 v7 v8 v9 v10 v11:Value} (h:w.heap[b]? = some (.cells #[v0,v1,v2,v3,v4,v5,v6,v7,v8,v9,v10,v11] t (0,0))):(w.cell? ⟨b,0,none⟩ = some v0 ∧ w.cell? ⟨b,1,none⟩ = some v1 ∧ w.cell? ⟨b,2,none⟩ = some v2 ∧ w.cell? ⟨b,3,none⟩ = some v3 ∧ w.cell? ⟨b,4,none⟩ = some v4 ∧ w.cell? ⟨b,5,none⟩ = some v5 ∧ w.cell? ⟨b,6,none⟩ = some v6 ∧ w.cell? ⟨b,7,none⟩ = some v7 ∧ w.cell? ⟨b,8,none⟩ = some v8 ∧ w.cell? ⟨b,9,none⟩ = some v9 ∧ w.cell? ⟨b,10,none⟩ = some v10 ∧ w.cell? ⟨b,11,none⟩ = some v11) ∧ ∀ j,w.frozen? ⟨b,j,none⟩ = false:=by
  have:=bx (vs:=[v0,v1,v2,v3,v4,v5,v6,v7,v8,v9,v10,v11]) h;simp only [Bx,Cs,Nat.reduceAdd,and_true] at this;exact ⟨this.1,this.2.2⟩
theorem bx13 {w:World} {b:Nat} {t:TypeId} {v0 v1 v2 v3 v4 v5 v6 v7 v8 v9 v10 v11 v12:Value} (h:w.heap[b]? = some (.cells #[v0,v1,v2,v3,v4,v5,v6,v7,v8,v9,v10,v11,v12] t (0,0))):(w.cell? ⟨b,0,none⟩ = some v0 ∧ w.cell? ⟨b,1,none⟩ = some v1 ∧ w.cell? ⟨b,2,none⟩ = some v2 ∧ w.cell? ⟨b,3,none⟩ = some v3 ∧ w.cell? ⟨b,4,none⟩ = some v4 ∧ w.cell? ⟨b,5,none⟩ = some v5 ∧ w.cell? ⟨b,6,none⟩ = some v6 ∧ w.cell? ⟨b,7,none⟩ = some v7 ∧ w.cell? ⟨b,8,none⟩ = some v8 ∧ w.cell? ⟨b,9,none⟩ = some v9 ∧ w.cell? ⟨b,10,none⟩ = some v10 ∧ w.cell? ⟨b,11,none⟩ = some v11 ∧ w.cell? ⟨b,12,none⟩ = some v12) ∧ ∀ j,w.frozen? ⟨b,j,none⟩ = false:=by
  have:=bx (vs:=[v0,v1,v2,v3,v4,v5,v6,v7,v8,v9,v10,v11,v12]) h;simp only [Bx,Cs,Nat.reduceAdd,and_true] at this;exact ⟨this.1,this.2.2⟩
theorem bx15 {w:World} {b:Nat} {t:TypeId} {v0 v1 v2 v3 v4 v5 v6 v7 v8 v9 v10 v11 v12 v13 v14:Value} (h:w.heap[b]? = some (.cells #[v0,v1,v2,v3,v4,v5,v6,v7,v8,v9,v10,v11,v12,v13,v14] t (0,0))):(w.cell? ⟨b,0,none⟩ = some v0 ∧ w.cell? ⟨b,1,none⟩ = some v1 ∧ w.cell? ⟨b,2,none⟩ = some v2 ∧ w.cell? ⟨b,3,none⟩ = some v3 ∧ w.cell? ⟨b,4,none⟩ = some v4 ∧ w.cell? ⟨b,5,none⟩ = some v5 ∧ w.cell? ⟨b,6,none⟩ = some v6 ∧ w.cell? ⟨b,7,none⟩ = some v7 ∧ w.cell? ⟨b,8,none⟩ = some v8 ∧ w.cell? ⟨b,9,none⟩ = some v9 ∧ w.cell? ⟨b,10,none⟩ = some v10 ∧ w.cell? ⟨b,11,none⟩ = some v11 ∧ w.cell? ⟨b,12,none⟩ = some v12 ∧ w.cell? ⟨b,13,none⟩ = some v13 ∧ w.cell? ⟨b,14,none⟩ = some v14) ∧ ∀ j,w.frozen? ⟨b,j,none⟩ = false:=by
  have:=bx (vs:=[v0,v1,v2,v3,v4,v5,v6,v7,v8,v9,v10,v11,v12,v13,v14]) h;simp only [Bx,Cs,Nat.reduceAdd,and_true] at this;exact ⟨this.1,this.2.2⟩
theorem sb {w:World} {b:Nat} {x:Obj} (h:w.heap[b]? = some x):∀ w',Below w.heap.size w w' → w'.heap[b]? = some x:=fun _ q => (q.block b (lt_of_block h)).trans h
theorem sl {w:World} {b:Nat} {x:Obj} (h:w.heap[b]? = some x):∀ w',Below w.heap.size w w' → b < w'.heap.size:=fun w' q => Nat.lt_of_lt_of_le (lt_of_block h) q.size
theorem bt {a b c:World} (h:Below a.heap.size a b) (k:Below b.heap.size b c):Below a.heap.size a c:=h.trans (k.mono h.size)
theorem br (w:World):Below w.heap.size w w:=Below.refl _ w
end Go.Proofs.YthamijnggdjaoaaGreatDoor
namespace Go.Proofs.YthamijnggdjaoaaGreatDoor
open Go.RowKit
section
variable {P:Program} {ops:Array Oper} {Q:Exit → Act → World → Prop} {md:Region.Mode} {S:World → Prop} {n:Nat}
def wpAnyX (P:Program) (md:Region.Mode) (ops:Array Oper) (Q:Exit → Act → World → Prop) (S:World → Prop) (n:Nat):Nat → Array Bool → Act → World → Prop
  | 0,listed,a,w => Region.ready md ops listed = [] ∧ Q .normal a w
  | fuel + 1,listed,a,w =>
    (Region.ready md ops listed = [] → Q .normal a w) ∧
    ∀ i ∈ Region.ready md ops listed,wpOp P ops Q i (fun a' w' => ((listed.setIfInBounds i true).getD n true = false → S w') ∧ wpAnyX P md ops Q S n fuel (listed.setIfInBounds i true) a' w') a w
theorem wpAny_of_X:∀ (fuel:Nat) (listed:Array Bool) (a:Act) (w:World),wpAnyX P md ops Q S n fuel listed a w → wpAny P md ops Q fuel listed a w
  | 0,_,_,_,h => h
  | fuel + 1,_,_,_,h => ⟨h.1,fun i hi => wpOp_mono (fun a' w' h' => wpAny_of_X fuel _ a' w' h'.2) (h.2 i hi)⟩
theorem ready_ne {listed:Array Bool} {i j:Nat} (hB:Region.waitsFor md ops n i = true) (hi:i ∈ Region.ready md ops listed) (hj:j ∈ Region.ready md ops listed):j ≠ n:=fun hjn => by
  subst hjn
  obtain ⟨_,oj,hoj,hall⟩:=mem_ready.1 hj
  obtain ⟨o',ho',e,he,hb,hon⟩:=Region.waitsFor_spec hB
  have:o' = oj:=Option.some.inj (ho'.symm.trans hoj)
  subst this
  have h2:=hall e he hb
  rw [hon,getD_both (mem_ready.1 hi).1] at h2
  cases h2
theorem wpAnyX_first {i:Nat} {oi:Oper} {v:Value} (hB:Region.waitsFor md ops n i = true) (hni:i ≠ n) (hi:ops[i]? = some oi) (hsel:∀ (j:Nat) (o:Oper) cs b,ops[j]? = some o → o.op ≠ .select cs b)
    (hQ:∀ c a w,Q (.panic c) (a.put oi.dst v) w → Q (.panic c) a w) :
    ∀ (fuel:Nat) (listed:Array Bool) (a:Act) (w:World),
      (∀ j oj,ops[j]? = some oj → j ≠ i → listed.getD j true = false → (∀ e ∈ oj.after,Region.binds md e = true → e.on ≠ i) → oi.apart ops oj = true) →
      i ∈ Region.ready md ops listed → YieldsIf P ops S oi v a → listed.getD n true = false → S w →
      wpAnyX P md ops Q S n fuel (listed.setIfInBounds i true) (a.put oi.dst v) w → wpAnyX P md ops Q S n (fuel + 1) listed a w:=by
  intro fuel
  induction fuel with
  | zero =>
    intro listed a w _ hr hy hn hS H
    refine ⟨fun h => (by rw [h] at hr;cases hr),fun j hj => ?_⟩
    by_cases hji:j = i
    · subst hji;exact hy.wpOp hi hS ⟨fun _ => hS,H⟩
    · have:=ready_mono hj hji
      rw [H.1] at this
      cases this
  | succ fuel ih =>
    intro listed a w hfree hr hy hn hS H
    refine ⟨fun h => (by rw [h] at hr;cases hr),fun j hj => ?_⟩
    by_cases hji:j = i
    · subst hji;exact hy.wpOp hi hS ⟨fun _ => hS,H⟩
    · have h1:=H.2 j (ready_mono hj hji)
      have hjn:=ready_ne hB hr hj
      have getD_n:(listed.setIfInBounds j true).getD n true = false → ((listed.setIfInBounds i true).setIfInBounds j true).getD n true = false:=fun h => by
        rw [Array.setIfInBounds_comm _ _ (Ne.symm hji),getD_set_ne true hni];exact h
      obtain ⟨hjun,oj,hoj,hall⟩:=mem_ready.1 hj
      have hnot:∀ e ∈ oj.after,Region.binds md e = true → e.on ≠ i:=fun e he hb heq => by
        have h1:=hall e he hb
        rw [heq,getD_both (mem_ready.1 hr).1] at h1
        cases h1
      have h2:=wpOp_putIf hoj (hfree j oj hoj hji hjun hnot) (fun cs b => hsel i oi cs b hi) (fun cs b => hsel j oj cs b hoj) hQ hy h1
      have hfree':∀ k ok,ops[k]? = some ok → k ≠ i → (listed.setIfInBounds j true).getD k true = false →
          (∀ e ∈ ok.after,Region.binds md e = true → e.on ≠ i) → oi.apart ops ok = true:=fun k ok hk hki hun hno => by
        refine hfree k ok hk hki ?_ hno
        by_cases hjk:j = k
        · subst hjk;exact hjun
        · rw [getD_set_ne true hjk] at hun;exact hun
      refine wpOp_mono (fun a' w' h3 => ⟨(fun h => h3.2.1 (getD_n h)),ih (listed.setIfInBounds j true) a' w' hfree' (ready_mono hr (Ne.symm hji)) h3.1 (by rw [getD_set_ne true hjn];exact hn) (h3.2.1 (getD_n (by rw [getD_set_ne true hjn];exact hn))) ?_⟩) h2
      rw [Array.setIfInBounds_comm _ _ hji]
      exact h3.2.2
theorem wpAnyX_first0 {i:Nat} {oi:Oper} {v:Value} (hni:i ≠ n) (hi:ops[i]? = some oi) (hsel:∀ (j:Nat) (o:Oper) cs b,ops[j]? = some o → o.op ≠ .select cs b)
    (hQ:∀ c a w,Q (.panic c) (a.put oi.dst v) w → Q (.panic c) a w) :
    ∀ (fuel:Nat) (listed:Array Bool) (a:Act) (w:World),
      (∀ j oj,ops[j]? = some oj → j ≠ i → listed.getD j true = false → (∀ e ∈ oj.after,Region.binds md e = true → e.on ≠ i) → oi.apart ops oj = true) →
      i ∈ Region.ready md ops listed → YieldsIf P ops (fun _ => True) oi v a → (listed.getD n true = false → S w) →
      wpAnyX P md ops Q S n fuel (listed.setIfInBounds i true) (a.put oi.dst v) w → wpAnyX P md ops Q S n (fuel + 1) listed a w:=by
  intro fuel
  induction fuel with
  | zero =>
    intro listed a w _ hr hy hS H
    refine ⟨fun h => (by rw [h] at hr;cases hr),fun j hj => ?_⟩
    by_cases hji:j = i
    · subst hji;exact hy.wpOp hi trivial ⟨fun h => hS (by
        by_cases hin:j = n
        · subst hin;exact (mem_ready.1 hr).1
        · rwa [getD_set_ne true hin] at h),H⟩
    · have:=ready_mono hj hji
      rw [H.1] at this
      cases this
  | succ fuel ih =>
    intro listed a w hfree hr hy hS H
    refine ⟨fun h => (by rw [h] at hr;cases hr),fun j hj => ?_⟩
    by_cases hji:j = i
    · subst hji;exact hy.wpOp hi trivial ⟨fun h => hS (by
        by_cases hin:j = n
        · subst hin;exact (mem_ready.1 hr).1
        · rwa [getD_set_ne true hin] at h),H⟩
    · have h1:=H.2 j (ready_mono hj hji)
      have getD_n:(listed.setIfInBounds j true).getD n true = false → ((listed.setIfInBounds i true).setIfInBounds j true).getD n true = false:=fun h => by
        rw [Array.setIfInBounds_comm _ _ (Ne.symm hji),getD_set_ne true hni];exact h
      obtain ⟨hjun,oj,hoj,hall⟩:=mem_ready.1 hj
      have hnot:∀ e ∈ oj.after,Region.binds md e = true → e.on ≠ i:=fun e he hb heq => by
        have h1:=hall e he hb
        rw [heq,getD_both (mem_ready.1 hr).1] at h1
        cases h1
      have h2:=wpOp_putIf hoj (hfree j oj hoj hji hjun hnot) (fun cs b => hsel i oi cs b hi) (fun cs b => hsel j oj cs b hoj) hQ hy h1
      have hfree':∀ k ok,ops[k]? = some ok → k ≠ i → (listed.setIfInBounds j true).getD k true = false →
          (∀ e ∈ ok.after,Region.binds md e = true → e.on ≠ i) → oi.apart ops ok = true:=fun k ok hk hki hun hno => by
        refine hfree k ok hk hki ?_ hno
        by_cases hjk:j = k
        · subst hjk;exact hjun
        · rw [getD_set_ne true hjk] at hun;exact hun
      refine wpOp_mono (fun a' w' h3 => ⟨(fun h => h3.2.1 (getD_n h)),ih (listed.setIfInBounds j true) a' w' hfree' (ready_mono hr (Ne.symm hji)) h3.1 (fun h => h3.2.1 (getD_n h)) ?_⟩) h2
      rw [Array.setIfInBounds_comm _ _ hji]
      exact h3.2.2
theorem wpAnyX_take {i:Nat} {oi:Oper} {v:Value} {fuel:Nat} {listed:Array Bool} {a:Act} {w:World} (hi:ops[i]? = some oi) (hB:Region.waitsFor md ops n i = true) (hni:i ≠ n) (hn:listed.getD n true = false)
    (hs:Region.noSelect ops = true) (hf:Region.free md ops listed i = true) (hr:(Region.ready md ops listed).contains i = true)
    (hQ:∀ c a w,Q (.panic c) (a.put oi.dst v) w → Q (.panic c) a w) (hy:YieldsIf P ops S oi v a) (hS:S w)
    (h:wpAnyX P md ops Q S n fuel (listed.setIfInBounds i true) (a.put oi.dst v) w):wpAnyX P md ops Q S n (fuel + 1) listed a w:=
  wpAnyX_first hB hni hi (Region.noSelect_spec hs) hQ fuel listed a w (Region.free_spec hi hf) (by simpa using hr) hy hn hS h
theorem wpAnyX_take0 {i:Nat} {oi:Oper} {v:Value} {fuel:Nat} {listed:Array Bool} {a:Act} {w:World} (hi:ops[i]? = some oi) (hni:i ≠ n)
    (hs:Region.noSelect ops = true) (hf:Region.free md ops listed i = true) (hr:(Region.ready md ops listed).contains i = true)
    (hQ:∀ c a w,Q (.panic c) (a.put oi.dst v) w → Q (.panic c) a w) (hy:YieldsIf P ops (fun _ => True) oi v a) (hS:S w)
    (h:wpAnyX P md ops Q S n fuel (listed.setIfInBounds i true) (a.put oi.dst v) w):wpAnyX P md ops Q S n (fuel + 1) listed a w:=
  wpAnyX_first0 hni hi (Region.noSelect_spec hs) hQ fuel listed a w (Region.free_spec hi hf) (by simpa using hr) hy (fun _ => hS) h
theorem wX {oi:Oper} {v:Value} {fuel:Nat} {listed:Array Bool} {a:Act} {w:World} (i:Nat) (hS:S w) (h:wpAnyX P .any ops Q S n fuel (listed.setIfInBounds i true) (a.put oi.dst v) w) (hi:ops[i]? = some oi:=by rfl) (hB:Region.waitsFor .any ops n i = true:=by kernel_rfl) (hni:i ≠ n:=by decide) (hn:listed.getD n true = false:=by kernel_rfl)
    (hs:Region.noSelect ops = true:=by kernel_rfl) (hf:Region.free .any ops listed i = true:=by kernel_rfl) (hr:(Region.ready .any ops listed).contains i = true:=by kernel_rfl) (hQ:∀ c a w,Q (.panic c) (a.put oi.dst v) w → Q (.panic c) a w:=by exact fun _ _ _ h => h)
    (hy:YieldsIf P ops S oi v a:=by (refine Or.inl ⟨by rfl,?_⟩;intro w9 hS9;(try dsimp only at hS9);(first | obtain ⟨s1,s2,s3,s4,s5⟩:=hS9 | obtain ⟨s1,s2,s3,s4⟩:=hS9 | obtain ⟨s1,s2,s3⟩:=hS9 | obtain ⟨s1,s2⟩:=hS9 | skip);go_simp;(try with_reducible rfl))):wpAnyX P .any ops Q S n (fuel + 1) listed a w:=wpAnyX_take hi hB hni hn hs hf hr hQ hy hS h
theorem wX0 {oi:Oper} {v:Value} {fuel:Nat} {listed:Array Bool} {a:Act} {w:World} (i:Nat) (hS:S w) (h:wpAnyX P .any ops Q S n fuel (listed.setIfInBounds i true) (a.put oi.dst v) w) (hi:ops[i]? = some oi:=by rfl) (hni:i ≠ n:=by decide)
    (hs:Region.noSelect ops = true:=by kernel_rfl) (hf:Region.free .any ops listed i = true:=by kernel_rfl) (hr:(Region.ready .any ops listed).contains i = true:=by kernel_rfl) (hQ:∀ c a w,Q (.panic c) (a.put oi.dst v) w → Q (.panic c) a w:=by exact fun _ _ _ h => h)
    (hy:YieldsIf P ops (fun _ => True) oi v a:=by (refine Or.inl ⟨by rfl,?_⟩;intro w9 _;go_simp;(try with_reducible rfl))):wpAnyX P .any ops Q S n (fuel + 1) listed a w:=wpAnyX_take0 hi hni hs hf hr hQ hy hS h
def AllReadyX (P:Program) (md:Region.Mode) (ops:Array Oper) (Q:Exit → Act → World → Prop) (S:World → Prop) (n:Nat) (fuel:Nat) (listed:Array Bool) (a:Act) (w:World) (rs:List Nat):Prop:=
  ∀ i ∈ rs,wpOp P ops Q i (fun a' w' => ((listed.setIfInBounds i true).getD n true = false → S w') ∧ wpAnyX P md ops Q S n fuel (listed.setIfInBounds i true) a' w') a w
theorem AllReadyX.nil {fuel:Nat} {listed:Array Bool} {a:Act} {w:World}:AllReadyX P md ops Q S n fuel listed a w []:=fun _ h => by cases h
theorem AllReadyX.cons {fuel:Nat} {listed:Array Bool} {a:Act} {w:World} {i:Nat} {o:Oper} {rs:List Nat} (ho:ops[i]? = some o)
    (h:∀ K':Act → World → Prop,Shut (∀ a w,S w → (S w → wpAnyX P md ops Q S n fuel (listed.setIfInBounds i true) a w) → K' a w) → if Region.wanted o (yielded ops a.tmps) = true then Oper.wp P o a w K' Q else K' (a.put o.dst undef) w)
    (hs:AllReadyX P md ops Q S n fuel listed a w rs):AllReadyX P md ops Q S n fuel listed a w (i :: rs):=fun j hj => by
  rcases List.mem_cons.1 hj with rfl | hj
  · exact wpOp_step ho (fun K' hK => h K' (fun a w hS hW => hK a w ⟨fun _ => hS,hW hS⟩))
  · exact hs j hj
theorem wpAnyX_ready {rs:List Nat} {fuel:Nat} {listed:Array Bool} {a:Act} {w:World} (hr:Region.ready md ops listed = rs) (hne:rs ≠ [])
    (h:AllReadyX P md ops Q S n fuel listed a w rs):wpAnyX P md ops Q S n (fuel + 1) listed a w:=⟨fun h0 => absurd (hr ▸ h0) hne,hr ▸ h⟩
theorem wpAnyX_seq:∀ (l:List Oper) (k:Nat) (listed:Array Bool) (a:Act) (w:World),(k ≠ n → listed.getD n true = true) → (∀ j,l[j]? = ops[k + j]?) →
    Region.seqB md ops l.length k listed = true → wpList P ops Q l a w → wpAnyX P md ops Q S n l.length listed a w
  | [],_,_,_,_,_,_,hB,h => ⟨by simpa [Region.seqB] using hB,h⟩
  | o :: l,k,listed,a,w,hk,hl,hB,h => by
    have h0:ops[k]? = some o:=by simpa using (hl 0).symm
    simp only [List.length_cons,Region.seqB,Bool.and_eq_true,decide_eq_true_eq] at hB
    have hset:(listed.setIfInBounds k true).getD n true = true:=by
      by_cases hkn:k = n
      · subst hkn
        rcases Nat.lt_or_ge k listed.size with h' | h'
        · simp [h']
        · simp [Nat.not_lt.2 h']
      · rw [getD_set_ne true hkn];exact hk hkn
    refine ⟨fun h1 => (by rw [hB.1] at h1;cases h1),fun i hi => ?_⟩
    rw [hB.1] at hi
    have hik:i = k:=by simpa using hi
    subst hik
    have hw:wpOp P ops Q i (wpList P ops Q l) a w:=by unfold wpOp;simp only [h0];exact h
    exact wpOp_mono (fun a' w' h' => ⟨fun h => (by rw [hset] at h;cases h),wpAnyX_seq l (i + 1) _ a' w' (fun _ => hset) (fun j => by have:=hl (j + 1);simpa [Nat.add_assoc,Nat.add_comm 1 j] using this) hB.2 h'⟩) hw
theorem wpAnyX_tail {l:List Oper} {fuel:Nat} {listed:Array Bool} {a:Act} {w:World} (hf:fuel = (l.drop n).length) (hB:Region.seqB md l.toArray (l.drop n).length n listed = true) (h:wpList P l.toArray Q (l.drop n) a w) :
    wpAnyX P md l.toArray Q S n fuel listed a w:=by
  subst hf
  exact wpAnyX_seq (l.drop n) n listed a w (fun h => absurd rfl h) (fun j => by simp [List.getElem?_drop]) hB h
theorem step_appX {t e:TypeId} {z:Value} {size bytes:Nat} (T:ElemT P t e z size bytes) {w:World} {o:Oper} {tm:Array Value} {a:Act} {K:Act → World → Prop} {E:Prop}
    (s x:Operand) (hgd:o.guard = none) (ho:o.op = .call { callee:=.builtin .append,args:=#[s,x],argTypes:=#[t,t] })
    (base:Nat) (v:Value) (n:Nat) (xs:List Value) (hs:a.eval s = v) (hown:w.ownsRow base e size v n xs)
    (A:Option Addr) (m c:Nat) (us:List Value) (hx:a.eval x = .slice A m c) (hr:Rd w A us) (hus:us.length = m * size) (h1:∀ u ∈ us,u.oneCell' = true)
    (hb:(n + m) * bytes ≤ 140737488355328) (h63:n + m ≤ maxLen) (hbase:base ≤ w.heap.size)
    (h:∀ A' c' w',w'.ownsRow base e size (.slice A' (n + m) c') (n + m) (xs ++ us) → Below base w w' → w.grownBy w' v.ownBlock → ((Value.slice A' (n + m) c').ownBlock = v.ownBlock ∨ (Value.slice A' (n + m) c').ownBlock = some w.heap.size) → K (a.put o.dst (.slice A' (n + m) c')) w') :
    if Region.wanted o (yielded ops tm) = true then Oper.wp P o a w K Q else E:=by
  rw [if_pos (by simp [Region.wanted,hgd])]
  have:=step_app (ops:=ops) (K:=K) (Q:=Q) (E:=E) T hgd s x ho base v n xs hs hown A m c us hx hr hus h1 hb h63 hbase h
  rwa [if_pos (by simp [Region.wanted,hgd])] at this
theorem wp_region_X (n:Nat) (S:World → Prop) {id:Nat} {a:Act} {w:World} (hm:P.follows .mixedOrders = true)
    (h:wpAnyX P .any ops Q S n ops.size (Array.replicate ops.size false) a w.drew):(Code.region id ops true).wp P Q a w:=
  wp_region_any hm (wpAny_of_X _ _ _ _ h)
end
end Go.Proofs.YthamijnggdjaoaaGreatDoor
namespace Go.Proofs.YthamijnggdjaoaaGreatDoor
section
variable {P:Program} {ops:Array Oper} {Q:Exit → Act → World → Prop} {S:World → Prop} {n:Nat}
def unl (l:Array Bool):Nat:=l.toList.count false
theorem unl_set {l:Array Bool} {i:Nat} (h:l.getD i true = false):unl l = unl (l.setIfInBounds i true) + 1:=by
  have hi:i < l.size:=by
    rcases Nat.lt_or_ge i l.size with h' | h'
    · exact h'
    · simp [Array.getElem?_eq_none h'] at h
  have hl:l.toList[i]'(by simpa using hi) = false:=by simpa [hi] using h
  have h0:List.count false (l.toList.set i true) = List.count false l.toList - 1:=by
    rw [List.count_set (by simpa using hi)]
    simp [hl]
  have h1:0 < List.count false l.toList:=List.count_pos_iff.2 (by rw [← hl];exact List.getElem_mem _)
  unfold unl
  rw [Array.toList_setIfInBounds,h0]
  omega
def marked (m:Nat) (L:List Nat):Array Bool:=L.foldr (fun i l => l.setIfInBounds i true) (Array.replicate m false)
theorem marked_size (m:Nat):∀ L:List Nat,(marked m L).size = m
  | [] => by simp [marked]
  | a :: L => by simp only [marked,List.foldr_cons,Array.size_setIfInBounds];exact marked_size m L
theorem marked_get (m i:Nat) (d:Bool):∀ L:List Nat,(marked m L).getD i d = if i < m then L.contains i else d
  | [] => by simp only [marked,List.foldr_nil,List.contains_nil];split <;> simp_all [Array.getElem?_replicate]
  | a :: L => by
    have ih:=marked_get m i d L
    have hs:=marked_size m L
    show ((marked m L).setIfInBounds a true).getD i d = _
    by_cases h:i < m
    · rw [if_pos h] at ih ⊢
      by_cases ha:a = i
      · subst ha;simp [hs,h]
      · rw [getD_set_ne d ha,ih];simp [Ne.symm ha]
    · rw [if_neg h] at ih ⊢
      by_cases ha:a = i
      · subst ha;simp [hs,h]
      · rw [getD_set_ne d ha,ih]
def readyF (ops:Array Oper) (L:List Nat):List Nat:=
  (List.range ops.size).filter fun i => !L.contains i && ((ops[i]?).map (·.after.all fun e => !Region.binds .any e || (L.contains e.on && decide (e.on < ops.size)))).getD false
theorem readyF_eq (L:List Nat):Region.ready .any ops (marked ops.size L) = readyF ops L:=by
  unfold Region.ready readyF
  refine List.filter_congr fun i hi => ?_
  rw [marked_get,if_pos (List.mem_range.1 hi)]
  congr 3
  funext o
  congr 1
  funext e
  rw [marked_get]
  by_cases h:e.on < ops.size <;> simp [h]
def freeF (ops:Array Oper) (L:List Nat) (i:Nat):Bool:=
  match ops[i]? with
  | none => false
  | some oi => (List.range ops.size).all fun j => j == i || L.contains j || match ops[j]? with
      | some oj => oj.after.any (fun e => Region.binds .any e && e.on == i) || oi.apart ops oj
      | none => true
theorem freeF_eq (L:List Nat) (i:Nat):Region.free .any ops (marked ops.size L) i = freeF ops L i:=by
  unfold Region.free freeF
  cases ops[i]? with
  | none => rfl
  | some oi =>
    dsimp only
    rw [Bool.eq_iff_iff,List.all_eq_true,List.all_eq_true]
    refine forall_congr' fun j => forall_congr' fun hj => ?_
    rw [marked_get,if_pos (List.mem_range.1 hj)]
    exact Iff.rfl
def seqF (ops:Array Oper):Nat → Nat → List Nat → Bool
  | 0,_,L => (readyF ops L).isEmpty
  | g + 1,k,L => decide (readyF ops L = [k]) && seqF ops g (k + 1) (k :: L)
theorem seqF_eq:∀ (g k:Nat) (L:List Nat),Region.seqB .any ops g k (marked ops.size L) = seqF ops g k L
  | 0,k,L => by simp only [Region.seqB,seqF,readyF_eq]
  | g + 1,k,L => by
    simp only [Region.seqB,seqF,readyF_eq]
    rw [← seqF_eq g (k + 1) (k :: L)];rfl
inductive Ys (P:Program) (ops:Array Oper) (S:World → Prop):List Nat → Act → Act → Prop
  | nil {a:Act}:Ys P ops S [] a a
  | cons {i:Nat} {is:List Nat} {o:Oper} {v:Value} {a a':Act} (ho:ops[i]? = some o) (hy:YieldsIf P ops S o v a) (ht:Ys P ops S is (a.put o.dst v) a'):Ys P ops S (i :: is) a a'
def takesB (ops:Array Oper):List Nat → List Nat → Bool
  | _,[] => true
  | L,i :: is => (freeF ops L i && (readyF ops L).contains i) && takesB ops (i :: L) is
def takesX (ops:Array Oper) (n:Nat):List Nat → List Nat → Bool
  | _,[] => true
  | L,i :: is => (Region.waitsFor .any ops n i && decide (i ≠ n) && (decide (n < ops.size) && !L.contains n) && freeF ops L i && (readyF ops L).contains i) && takesX ops n (i :: L) is
structure HA (P:Program) (ops:Array Oper) (Q:Exit → Act → World → Prop) (S:World → Prop) (L:List Nat) (a:Act) (w:World):Prop where
  out:wpAnyH P .any ops Q S (unl (marked ops.size L)) (marked ops.size L) a w
structure XA (P:Program) (ops:Array Oper) (Q:Exit → Act → World → Prop) (S:World → Prop) (n:Nat) (L:List Nat) (a:Act) (w:World):Prop where
  out:wpAnyX P .any ops Q S n (unl (marked ops.size L)) (marked ops.size L) a w
theorem unl_marked (m:Nat):unl (marked m []) = m:=by simp [unl,marked,List.count_replicate]
theorem HA.go {id:Nat} {a:Act} {w:World} (S:World → Prop) (hm:P.follows .mixedOrders = true) (h:HA P ops Q S [] a w.drew):(Code.region id ops true).wp P Q a w:=by
  refine wp_region_held (S:=S) hm ?_
  have h':=h.out
  rw [unl_marked] at h'
  exact h'
theorem XA.go {id:Nat} {a:Act} {w:World} (n:Nat) (S:World → Prop) (hm:P.follows .mixedOrders = true) (h:XA P ops Q S n [] a w.drew):(Code.region id ops true).wp P Q a w:=by
  refine wp_region_X n S hm ?_
  have h':=h.out
  rw [unl_marked] at h'
  exact h'
theorem marked_ready {L:List Nat} {i:Nat} (h:(readyF ops L).contains i = true):unl (marked ops.size L) = unl (marked ops.size (i :: L)) + 1:=
  unl_set (mem_ready.1 (show i ∈ Region.ready .any ops (marked ops.size L) by rw [readyF_eq];simpa using h)).1
theorem HA.takes (hs:Region.noSelect ops = true) (hQ:∀ c a w d v,Q (.panic c) (Act.put a d v) w → Q (.panic c) a w) {w:World} (hS:S w) :
    ∀ (is:List Nat) {L:List Nat} {a a':Act},takesB ops L is = true → Ys P ops S is a a' → HA P ops Q S (is.reverse ++ L) a' w → HA P ops Q S L a w
  | [],_,_,_,_,.nil,h => h
  | i :: is,L,a,a',hc,.cons ho hy ht,h => by
    simp only [takesB,Bool.and_eq_true] at hc
    have h2:=HA.takes hs hQ hS is (L:=i :: L) hc.2 ht (by simpa using h)
    refine ⟨?_⟩
    rw [marked_ready hc.1.2]
    exact wpAnyH_take ho hs (by rw [freeF_eq];exact hc.1.1) (by rw [readyF_eq];exact hc.1.2) (fun c a w => hQ c a w _ _) hy hS h2.out
theorem XA.takes (hs:Region.noSelect ops = true) (hQ:∀ c a w d v,Q (.panic c) (Act.put a d v) w → Q (.panic c) a w) {w:World} (hS:S w) :
    ∀ (is:List Nat) {L:List Nat} {a a':Act},takesX ops n L is = true → Ys P ops S is a a' → XA P ops Q S n (is.reverse ++ L) a' w → XA P ops Q S n L a w
  | [],_,_,_,_,.nil,h => h
  | i :: is,L,a,a',hc,.cons ho hy ht,h => by
    simp only [takesX,Bool.and_eq_true,decide_eq_true_eq,Bool.not_eq_true'] at hc
    have h2:=XA.takes hs hQ hS is (L:=i :: L) hc.2 ht (by simpa using h)
    refine ⟨?_⟩
    rw [marked_ready hc.1.2]
    exact wpAnyX_take ho hc.1.1.1.1.1 hc.1.1.1.1.2 (by rw [marked_get,if_pos hc.1.1.1.2.1,hc.1.1.1.2.2]) hs (by rw [freeF_eq];exact hc.1.1.2) (by rw [readyF_eq];exact hc.1.2) (fun c a w => hQ c a w _ _) hy hS h2.out
def takes0 (ops:Array Oper) (n:Nat):List Nat → List Nat → Bool
  | _,[] => true
  | L,i :: is => (decide (i ≠ n) && freeF ops L i && (readyF ops L).contains i) && takes0 ops n (i :: L) is
theorem XA.takes0 (hs:Region.noSelect ops = true) (hQ:∀ c a w d v,Q (.panic c) (Act.put a d v) w → Q (.panic c) a w) {w:World} (hS:S w) :
    ∀ (is:List Nat) {L:List Nat} {a a':Act},YthamijnggdjaoaaGreatDoor.takes0 ops n L is = true → Ys P ops (fun _ => True) is a a' → XA P ops Q S n (is.reverse ++ L) a' w → XA P ops Q S n L a w
  | [],_,_,_,_,.nil,h => h
  | i :: is,L,a,a',hc,.cons ho hy ht,h => by
    simp only [YthamijnggdjaoaaGreatDoor.takes0,Bool.and_eq_true,decide_eq_true_eq] at hc
    have h2:=XA.takes0 hs hQ hS is (L:=i :: L) hc.2 ht (by simpa using h)
    refine ⟨?_⟩
    rw [marked_ready hc.1.2]
    exact wpAnyX_take0 ho hc.1.1.1 hs (by rw [freeF_eq];exact hc.1.1.2) (by rw [readyF_eq];exact hc.1.2) (fun c a w => hQ c a w _ _) hy hS h2.out
theorem ready_one {L:List Nat} {i:Nat} (hr:readyF ops L = [i]):unl (marked ops.size L) = unl (marked ops.size (i :: L)) + 1:=
  marked_ready (by rw [hr];simp)
theorem HA.one {L:List Nat} {a:Act} {w:World} (i:Nat) {o:Oper} (ho:ops[i]? = some o) (hr:readyF ops L = [i])
    (h:∀ K':Act → World → Prop,Shut (∀ a w,S w → (S w → HA P ops Q S (i :: L) a w) → K' a w) → if Region.wanted o (yielded ops a.tmps) = true then Oper.wp P o a w K' Q else K' (a.put o.dst undef) w):HA P ops Q S L a w:=by
  refine ⟨?_⟩
  rw [ready_one hr]
  exact wpAnyH_ready (by rw [readyF_eq];exact hr) (by simp) (AllReadyH.cons ho (fun K' hK => h K' fun a w hS hw => hK.out a w hS fun hS' => (hw hS').out) AllReadyH.nil)
theorem XA.one {L:List Nat} {a:Act} {w:World} (i:Nat) {o:Oper} (ho:ops[i]? = some o) (hr:readyF ops L = [i])
    (h:∀ K':Act → World → Prop,Shut (∀ a w,S w → (S w → XA P ops Q S n (i :: L) a w) → K' a w) → if Region.wanted o (yielded ops a.tmps) = true then Oper.wp P o a w K' Q else K' (a.put o.dst undef) w):XA P ops Q S n L a w:=by
  refine ⟨?_⟩
  rw [ready_one hr]
  exact wpAnyX_ready (by rw [readyF_eq];exact hr) (by simp) (AllReadyX.cons ho (fun K' hK => h K' fun a w hS hw => hK.out a w hS fun hS' => (hw hS').out) AllReadyX.nil)
theorem HA.call {L:List Nat} {a:Act} {w:World} (i:Nat) {f:FuncId} {args:Array Value} {R:Ending → World → Prop} (hc:Calls P f args w R) {o:Oper} (ho:ops[i]? = some o) (hr:readyF ops L = [i])
    (hw:Region.wanted o (yielded ops a.tmps) = true) (he:(execOp a.eval o).run P w = .ok (.enter f args) w)
    (k:∀ e w',R e w' → ∃ v,e = .returned v ∧ S w' ∧ (S w' → HA P ops Q S (i :: L) (a.put o.dst v) w')):HA P ops Q S L a w:=by
  refine HA.one i ho hr fun K' hK => ?_
  rw [if_pos hw]
  unfold Oper.wp
  rw [he]
  refine hc.mono fun e w' hR => ?_
  obtain ⟨v,rfl,hS,h⟩:=k e w' hR
  exact hK.out _ _ hS h
theorem XA.call {L:List Nat} {a:Act} {w:World} (i:Nat) {f:FuncId} {args:Array Value} {R:Ending → World → Prop} (hc:Calls P f args w R) {o:Oper} (ho:ops[i]? = some o) (hr:readyF ops L = [i])
    (hw:Region.wanted o (yielded ops a.tmps) = true) (he:(execOp a.eval o).run P w = .ok (.enter f args) w)
    (k:∀ e w',R e w' → ∃ v,e = .returned v ∧ S w' ∧ (S w' → XA P ops Q S n (i :: L) (a.put o.dst v) w')):XA P ops Q S n L a w:=by
  refine XA.one i ho hr fun K' hK => ?_
  rw [if_pos hw]
  unfold Oper.wp
  rw [he]
  refine hc.mono fun e w' hR => ?_
  obtain ⟨v,rfl,hS,h⟩:=k e w' hR
  exact hK.out _ _ hS h
theorem XA.tail {l:List Oper} {L:List Nat} {a:Act} {w:World} (hf:unl (marked l.toArray.size L) = (l.drop n).length) (hB:seqF l.toArray (l.drop n).length n L = true) (h:wpList P l.toArray Q (l.drop n) a w) :
    XA P l.toArray Q S n L a w:=by
  refine ⟨?_⟩
  exact wpAnyX_tail hf (by rw [seqF_eq];exact hB) h
theorem HA.g {id:Nat} {a:Act} {w:World} (S:World → Prop) (h:HA P ops Q S [] a w.drew) (hm:P.follows .mixedOrders = true:=by decide +kernel):(Code.region id ops true).wp P Q a w:=HA.go S hm h
theorem XA.g {id:Nat} {a:Act} {w:World} (n:Nat) (S:World → Prop) (h:XA P ops Q S n [] a w.drew) (hm:P.follows .mixedOrders = true:=by decide +kernel):(Code.region id ops true).wp P Q a w:=XA.go n S hm h
theorem HA.t (a':Act) (is:List Nat) {L:List Nat} {a:Act} {w:World} (hS:S w) (h:HA P ops Q S (is.reverse ++ L) a' w)
    (hs:Region.noSelect ops = true:=by decide +kernel) (hQ:∀ c a w d v,Q (.panic c) (Act.put a d v) w → Q (.panic c) a w:=by (intro _ _ _ d _ h;cases d <;> exact h)) (hc:takesB ops L is = true:=by decide +kernel)
    (hy:Ys P ops S is a a':=by (try simp only [List.getElem_toArray,List.getElem_cons_succ,List.getElem_cons_zero,Act.put,List.setIfInBounds_toArray,List.set_cons_zero,List.set_cons_succ]);(repeat ((first | (refine Ys.cons (v:=?_) (by (simp only [List.getElem?_toArray,List.getElem?_cons_succ,List.getElem?_cons_zero];rfl)) (Or.inl ⟨by rfl,?_⟩) ?_;rotate_left;(· (intro w9 hS9;(try dsimp only at hS9);(try (have u9:=bx15 hS9.1));go_simp;(try with_reducible rfl)))) | refine Ys.cons (v:=undef) (by (simp only [List.getElem?_toArray,List.getElem?_cons_succ,List.getElem?_cons_zero];rfl)) (Or.inr ⟨by rfl,rfl⟩) ?_);simp only [List.getElem_toArray,List.getElem_cons_succ,List.getElem_cons_zero,Act.put,List.setIfInBounds_toArray,List.set_cons_zero,List.set_cons_succ]));exact Ys.nil):HA P ops Q S L a w:=HA.takes hs hQ hS is hc hy h
theorem XA.t (a':Act) (is:List Nat) {L:List Nat} {a:Act} {w:World} (hS:S w) (h:XA P ops Q S n (is.reverse ++ L) a' w)
    (hs:Region.noSelect ops = true:=by decide +kernel) (hQ:∀ c a w d v,Q (.panic c) (Act.put a d v) w → Q (.panic c) a w:=by (intro _ _ _ d _ h;cases d <;> exact h)) (hc:takesX ops n L is = true:=by decide +kernel)
    (hy:Ys P ops S is a a':=by (try simp only [List.getElem_toArray,List.getElem_cons_succ,List.getElem_cons_zero,Act.put,List.setIfInBounds_toArray,List.set_cons_zero,List.set_cons_succ]);(repeat ((first | (refine Ys.cons (v:=?_) (by (simp only [List.getElem?_toArray,List.getElem?_cons_succ,List.getElem?_cons_zero];rfl)) (Or.inl ⟨by rfl,?_⟩) ?_;rotate_left;(· (intro w9 hS9;(try dsimp only at hS9);(try (have u9:=bx15 hS9.1));go_simp;(try with_reducible rfl)))) | refine Ys.cons (v:=undef) (by (simp only [List.getElem?_toArray,List.getElem?_cons_succ,List.getElem?_cons_zero];rfl)) (Or.inr ⟨by rfl,rfl⟩) ?_);simp only [List.getElem_toArray,List.getElem_cons_succ,List.getElem_cons_zero,Act.put,List.setIfInBounds_toArray,List.set_cons_zero,List.set_cons_succ]));exact Ys.nil):XA P ops Q S n L a w:=XA.takes hs hQ hS is hc hy h
theorem XA.t0 (a':Act) (is:List Nat) {L:List Nat} {a:Act} {w:World} (hS:S w) (h:XA P ops Q S n (is.reverse ++ L) a' w)
    (hs:Region.noSelect ops = true:=by decide +kernel) (hQ:∀ c a w d v,Q (.panic c) (Act.put a d v) w → Q (.panic c) a w:=by (intro _ _ _ d _ h;cases d <;> exact h)) (hc:YthamijnggdjaoaaGreatDoor.takes0 ops n L is = true:=by decide +kernel)
    (hy:Ys P ops (fun _ => True) is a a':=by (try simp only [List.getElem_toArray,List.getElem_cons_succ,List.getElem_cons_zero,Act.put,List.setIfInBounds_toArray,List.set_cons_zero,List.set_cons_succ]);(repeat ((first | (refine Ys.cons (v:=?_) (by (simp only [List.getElem?_toArray,List.getElem?_cons_succ,List.getElem?_cons_zero];rfl)) (Or.inl ⟨by rfl,?_⟩) ?_;rotate_left;(· (intro w9 _;go_simp;(try with_reducible rfl)))) | refine Ys.cons (v:=undef) (by (simp only [List.getElem?_toArray,List.getElem?_cons_succ,List.getElem?_cons_zero];rfl)) (Or.inr ⟨by rfl,rfl⟩) ?_);simp only [List.getElem_toArray,List.getElem_cons_succ,List.getElem_cons_zero,Act.put,List.setIfInBounds_toArray,List.set_cons_zero,List.set_cons_succ]));exact Ys.nil):XA P ops Q S n L a w:=XA.takes0 hs hQ hS is hc hy h
theorem HA.c {L:List Nat} {a:Act} {w:World} (i:Nat) {f:FuncId} {args:Array Value} {R:Ending → World → Prop} {o:Oper} (hc:Calls P f args w R)
    (k:∀ e w',R e w' → ∃ v,e = .returned v ∧ S w' ∧ (S w' → HA P ops Q S (i :: L) (a.put o.dst v) w')) (ho:ops[i]? = some o:=by (simp only [List.getElem?_toArray,List.getElem?_cons_succ,List.getElem?_cons_zero];rfl)) (hr:readyF ops L = [i]:=by decide +kernel)
    (hw:Region.wanted o (yielded ops a.tmps) = true:=by rfl) (he:(execOp a.eval o).run P w = .ok (.enter f args) w:=by go_simp):HA P ops Q S L a w:=HA.call i hc ho hr hw he k
theorem XA.c {L:List Nat} {a:Act} {w:World} (i:Nat) {f:FuncId} {args:Array Value} {R:Ending → World → Prop} {o:Oper} (hc:Calls P f args w R)
    (k:∀ e w',R e w' → ∃ v,e = .returned v ∧ S w' ∧ (S w' → XA P ops Q S n (i :: L) (a.put o.dst v) w')) (ho:ops[i]? = some o:=by (simp only [List.getElem?_toArray,List.getElem?_cons_succ,List.getElem?_cons_zero];rfl)) (hr:readyF ops L = [i]:=by decide +kernel)
    (hw:Region.wanted o (yielded ops a.tmps) = true:=by rfl) (he:(execOp a.eval o).run P w = .ok (.enter f args) w:=by go_simp):XA P ops Q S n L a w:=XA.call i hc ho hr hw he k
theorem HA.d {L:List Nat} {a:Act} {w:World} (h:Q .normal a w) (hr:readyF ops L = []:=by decide +kernel):HA P ops Q S L a w:=⟨wpAnyH_done (by rw [readyF_eq];exact hr) h _⟩
theorem XA.e {l:List Oper} {L:List Nat} {a:Act} {w:World} (h:wpList P l.toArray Q (l.drop n) a w) (hf:unl (marked l.toArray.size L) = (l.drop n).length:=by rfl) (hB:seqF l.toArray (l.drop n).length n L = true:=by decide +kernel) :
    XA P l.toArray Q S n L a w:=XA.tail hf hB h
theorem HA.o {L:List Nat} {a:Act} {w:World} {o:Oper} (i:Nat)
    (h:∀ K':Act → World → Prop,Shut (∀ a w,S w → (S w → HA P ops Q S (i :: L) a w) → K' a w) → if Region.wanted o (yielded ops a.tmps) = true then Oper.wp P o a w K' Q else K' (a.put o.dst undef) w)
    (ho:ops[i]? = some o:=by (simp only [List.getElem?_toArray,List.getElem?_cons_succ,List.getElem?_cons_zero];rfl)) (hr:readyF ops L = [i]:=by decide +kernel):HA P ops Q S L a w:=HA.one i ho hr h
theorem XA.o {L:List Nat} {a:Act} {w:World} {o:Oper} (i:Nat)
    (h:∀ K':Act → World → Prop,Shut (∀ a w,S w → (S w → XA P ops Q S n (i :: L) a w) → K' a w) → if Region.wanted o (yielded ops a.tmps) = true then Oper.wp P o a w K' Q else K' (a.put o.dst undef) w)
    (ho:ops[i]? = some o:=by (simp only [List.getElem?_toArray,List.getElem?_cons_succ,List.getElem?_cons_zero];rfl)) (hr:readyF ops L = [i]:=by decide +kernel):XA P ops Q S n L a w:=XA.one i ho hr h
theorem HA.s {L:List Nat} {a:Act} {w:World} {o:Oper} (i:Nat) (w':World) (hS:S w') (k:HA P ops Q S (i :: L) (a.put o.dst undef) w') (ho:ops[i]? = some o:=by (simp only [List.getElem?_toArray,List.getElem?_cons_succ,List.getElem?_cons_zero];rfl))
    (hr:readyF ops L = [i]:=by decide +kernel) (hw:Region.wanted o (yielded ops a.tmps) = true:=by rfl) (he:(execOp a.eval o).run P w = .ok .skip w':=by go_simp):HA P ops Q S L a w:=by
  refine HA.one i ho hr fun K' hK => ?_
  rw [if_pos hw]
  unfold Oper.wp
  rw [he]
  exact hK.out _ _ hS fun _ => k
theorem HA.v {L:List Nat} {a:Act} {w:World} {o:Oper} (i:Nat) (w':World) (v:Value) (hS:S w') (k:HA P ops Q S (i :: L) (a.put o.dst v) w') (ho:ops[i]? = some o:=by (simp only [List.getElem?_toArray,List.getElem?_cons_succ,List.getElem?_cons_zero];rfl))
    (hr:readyF ops L = [i]:=by decide +kernel) (hw:Region.wanted o (yielded ops a.tmps) = true:=by rfl) (he:(execOp a.eval o).run P w = .ok (.value v) w':=by go_simp):HA P ops Q S L a w:=by
  refine HA.one i ho hr fun K' hK => ?_
  rw [if_pos hw]
  unfold Oper.wp
  rw [he]
  exact hK.out _ _ hS fun _ => k
end
end Go.Proofs.YthamijnggdjaoaaGreatDoor
namespace Go.Proofs.YthamijnggdjaoaaGreatDoor
open Go.RowKit Go.ChangeShapes Go.WideShapes Go.ChangeAt
abbrev Reader (α:Type):=World → List Value → α → Prop
def Stays {α:Type} (R:Reader α):Prop:=∀ {w w':World} {cs:List Value} {a:α},Below w.heap.size w w' → R w cs a → R w' cs a
def rowOf (l:List (List Value)) (j:Nat):List Value:=l.getD j []
theorem rowOf_get {l:List (List Value)} {j:Nat} (h:j < l.length):rowOf l j = l[j]:=by simp [rowOf,h]
theorem flat_get {rows:List (List Value)} {k:Nat} (h:∀ r ∈ rows,r.length = k) (i t:Nat) (hi:i < rows.length) (ht:t < k):(List.flatten rows)[i * k + t]? = (rowOf rows i)[t]?:=by
  induction rows generalizing i with
  | nil => simp at hi
  | cons r l ih =>
    have hr:r.length = k:=h r (by simp)
    cases i with
    | zero =>
      rw [List.flatten_cons,Nat.zero_mul,Nat.zero_add,List.getElem?_append_left (by omega)]
      simp [rowOf]
    | succ i =>
      rw [List.flatten_cons,List.getElem?_append_right (by rw [hr,Nat.add_mul];omega),hr,show (i + 1) * k + t - k = i * k + t by rw [Nat.add_mul];omega,ih (fun r hr => h r (by simp [hr])) i (by simpa using hi)]
      simp [rowOf]
theorem flat_len {rows:List (List Value)} {k:Nat} (h:∀ r ∈ rows,r.length = k):(List.flatten rows).length = rows.length * k:=by
  induction rows with
  | nil => simp
  | cons r l ih => rw [List.flatten_cons,List.length_append,h r (by simp),ih (fun r hr => h r (by simp [hr])),List.length_cons,Nat.add_mul];omega
def SlRd {α:Type} (R:Reader α) (size:Nat) (w:World) (A:Option Addr) (l:List α):Prop:=
  ∃ rows,Rd w A (List.flatten rows) ∧ rows.length = l.length ∧ (∀ r ∈ rows,r.length = size) ∧ ∀ j x,l[j]? = some x → R w (rowOf rows j) x
def rSl {α:Type} (R:Reader α) (size:Nat):Reader (List α):=fun w cs l => ∃ A c,cs = [.slice A l.length c] ∧ l.length ≤ c ∧ c ≤ 9223372036854775807 ∧ l.length ≤ 17592186043904 ∧ SlRd R size w A l
def rInt (k:IntKind):Reader Int:=fun _ cs n => cs = [.int k n] ∧ (Lit.int k n).wf = true
def rNums (q:IntKind):Reader (List Int):=fun w cs zs => ∃ A c,cs = [.slice A zs.length c] ∧ zs.length ≤ c ∧ c ≤ 9223372036854775807 ∧ zs.length ≤ 17592186043904 ∧ Rd w A (nums q zs) ∧ ∀ z ∈ zs,(Lit.int q z).wf = true
section
variable {α:Type} {R:Reader α} {size:Nat} {w w':World} {A:Option Addr} {l:List α}
theorem SlRd.below (hR:Stays R) (h:SlRd R size w A l) (hb:Below w.heap.size w w'):SlRd R size w' A l:=by
  obtain ⟨rows,h1,h2,h3,h4⟩:=h
  exact ⟨rows,h1.below hb,h2,h3,fun j x hx => hR hb (h4 j x hx)⟩
theorem SlRd.nil (R:Reader α) (size:Nat) (w:World) (A:Option Addr):SlRd R size w A []:=⟨[],Rd.nil _ _,rfl,by simp,by simp⟩
theorem SlRd.get (h:SlRd R size w A l) (hs:0 < size) {j:Nat} {x:α} (hx:l[j]? = some x) :
    ∃ b o cs,A = some ⟨b,o,none⟩ ∧ b < w.heap.size ∧ cs.length = size ∧ R w cs x ∧ w.cell? ⟨b,o + j * size,none⟩ = cs[0]? ∧ ∀ t,t < size → w.cell? ⟨b,o + j * size + t,none⟩ = cs[t]?:=by
  obtain ⟨rows,h1,h2,h3,h4⟩:=h
  have hj:j < rows.length:=by rw [h2];exact (List.getElem?_eq_some_iff.1 hx).1
  have hrl:(rowOf rows j).length = size:=h3 _ (by rw [rowOf_get hj];exact List.getElem_mem hj)
  have hx0:∀ t,t < size → ∃ u,(rowOf rows j)[t]? = some u:=fun t ht => ⟨_,List.getElem?_eq_getElem (by omega)⟩
  obtain ⟨u0,hu0⟩:=hx0 0 hs
  obtain ⟨b,o,rfl,c0⟩:=h1 (j * size + 0) u0 ((flat_get h3 j 0 hj hs).trans hu0)
  have hc:∀ t,t < size → w.cell? ⟨b,o + j * size + t,none⟩ = (rowOf rows j)[t]?:=fun t ht => by
    obtain ⟨u,hu⟩:=hx0 t ht
    obtain ⟨b',o',e',c⟩:=h1 (j * size + t) u ((flat_get h3 j t hj ht).trans hu)
    injection e' with e';injection e' with e1 e2 _
    subst e1;subst e2
    rw [Nat.add_assoc,c,hu]
  refine ⟨b,o,rowOf rows j,rfl,lt_of_cell c0,hrl,h4 j x hx,?_,hc⟩
  have:=hc 0 hs
  rwa [Nat.add_zero] at this
end
def Light {H:Type} (P:Program) (t:TypeId) (d:DataW H):Prop:=∀ n ∈ d.weights P t,n ≤ 140737488351232
theorem light_all {H:Type} {P:Program} {e:TypeId}:∀ {l:List (DataW H)},(∀ n ∈ DataW.weightsAll P e l,n ≤ 140737488351232) → ∀ (i:Nat) (d:DataW H),l[i]? = some d → Light P e d:=by
  intro l
  induction l with
  | nil => intro _ i d h;simp at h
  | cons x r ih =>
    intro h i d hi
    unfold DataW.weightsAll at h
    cases i with
    | zero =>
      simp at hi;subst hi
      exact fun n hn => h n (List.mem_append.2 (.inl hn))
    | succ i => exact ih (fun n hn => h n (List.mem_append.2 (.inr hn))) i d (by simpa using hi)
theorem light_each {H:Type} {P:Program}:∀ {ts:List TypeId} {l:List (DataW H)},(∀ n ∈ DataW.weightsEach P ts l,n ≤ 140737488351232) → ∀ (i:Nat) (t:TypeId) (d:DataW H),ts[i]? = some t → l[i]? = some d → Light P t d:=by
  intro ts
  induction ts with
  | nil => intro l _ i t d h;simp at h
  | cons t0 ts ih =>
    intro l h i t d ht hd
    cases l with
    | nil => simp at hd
    | cons x r =>
      unfold DataW.weightsEach at h
      cases i with
      | zero =>
        simp at ht hd;subst ht;subst hd
        exact fun n hn => h n (List.mem_append.2 (.inl hn))
      | succ i => exact ih (fun n hn => h n (List.mem_append.2 (.inr hn))) i t d (by simpa using ht) (by simpa using hd)
theorem light_of_all {H:Type} {P:Program} {ts:List TypeId} {l:List (DataW H)} (h:(DataW.weightsEach P ts l).all (· ≤ reachBytes) = true) {i:Nat} {t:TypeId} {d:DataW H} (ht:ts[i]? = some t) (hd:l[i]? = some d):Light P t d:=
  light_each (fun n hn => by have h2:n ≤ reachBytes:=of_decide_eq_true (List.all_eq_true.1 h n hn);exact h2) i t d ht hd
def Opens (P:Program) (t:TypeId) (size:Nat) {α:Type} (R:Reader α):Prop:=
  P.cellsOf t = size ∧ ∀ {H:Type} {enc:TypeId × Value → H} {W:World} {fuel:Nat} {cs:List Value} {x:DataW H × List MemPlace},DataW.trod enc P W 0 (fun _ => true) true fuel t cs = some x → Light P t x.1 → cs.length = size ∧ ∃ a,R W cs a
theorem opens_int {P:Program} {t:TypeId} {k:IntKind} (ht:P.underlying t = some (.int k)) (hc:P.cellsOf t = 1):Opens P t 1 (rInt k):=⟨hc,fun h _ => by
  obtain ⟨n,rfl,_,hw⟩:=DataW.trod_int ht h
  exact ⟨rfl,n,rfl,hw⟩⟩
theorem rd_adds {w:World} {a:Addr} {xs:List Value} (h:∀ i u,xs[i]? = some u → w.cell? (a.add i) = some u):Rd w (some a) xs:=fun k u hu => by
  have h0:∃ u0,xs[0]? = some u0:=by
    have:=(List.getElem?_eq_some_iff.1 hu).1
    exact ⟨xs[0],List.getElem?_eq_getElem (by omega)⟩
  obtain ⟨u0,hu0⟩:=h0
  have h00:=h 0 u0 hu0
  have e:a.add 0 = a:=by simp [Addr.add]
  rw [e] at h00
  have ha:a = ⟨a.block,a.off,none⟩:=by
    obtain ⟨b,o,s⟩:=a
    unfold World.cell? at h00
    split at h00
    · cases s with
      | none => rfl
      | some x => simp at h00
    · cases h00
  refine ⟨a.block,a.off,by rw [← ha],?_⟩
  have hk:=h k u hu
  rw [ha,Addr.add_lit] at hk
  exact hk
theorem opens_nums {P:Program} {t e:TypeId} {q:IntKind} (ht:P.underlying t = some (.slice e)) (he:P.underlying e = some (.int q)) (hc:P.cellsOf e = 1) (hct:P.cellsOf t = 1) (hb:P.bytesOf e = 8):Opens P t 1 (rNums q):=⟨hct,fun {H enc W fuel cs y} h hlt => by
  have hlen:∀ a l c,cs = [.slice a l c] → l ≤ 17592186043904:=fun a l c hcs => by
    rcases Go.Deep.open_slice ht h with ⟨h0,_⟩ | ⟨a',len,cap,m,n,D,Pl,h0,_,hl,_,hmm,hx,_⟩
    · rw [hcs] at h0;injection h0 with h0;injection h0 with _ h0;omega
    · rw [hcs] at h0;injection h0 with h0;injection h0 with _ h0;subst h0
      have hw:=hlt ((l + (m - l)) * 8) (by rw [hx];simp [DataW.weights,ht,hb])
      omega
  rcases open_ints ht he hc h with ⟨rfl,_⟩ | ⟨x,l,c,zs,rfl,_,hl,hm,hz,_,hcell,hwz⟩
  · exact ⟨rfl,[],none,0,rfl,Nat.le_refl _,by omega,by simp,Rd.nil _ _,by simp⟩
  · have hll:=hlen _ _ _ rfl
    refine ⟨rfl,zs.take l,some x,c,?_,by simp;omega,by unfold maxLen at hm;exact hm,by simp;omega,?_,fun z hz => hwz z (List.mem_of_mem_take hz)⟩
    · rw [List.length_take];simp at hz;rw [Nat.min_eq_left (by omega)]
    · refine rd_adds fun i u hu => ?_
      rw [← nums_take,List.getElem?_take] at hu
      split at hu
      · rename_i hi
        have hi':i < zs.length:=by simp at hz;omega
        rw [nums_get q zs i hi'] at hu
        rw [hcell i hi',← hu,nth_eq zs i hi']
        simp [List.getD,hi']
      · cases hu⟩
theorem opens_slice {P:Program} {t e:TypeId} {size:Nat} {α:Type} {R:Reader α} (ht:P.underlying t = some (.slice e)) (hR:Opens P e size R) (hct:P.cellsOf t = 1) (hb:8 ≤ P.bytesOf e):Opens P t 1 (rSl R size):=⟨hct,fun {H enc W fuel cs x} h hlt => by
  rcases Go.Deep.open_slice ht h with ⟨rfl,_⟩ | ⟨a,len,cap,m,n,D,Pl,rfl,_,hl,hm,hmm,hx,hi⟩
  · exact ⟨rfl,[],none,0,rfl,Nat.le_refl _,by omega,by simp,SlRd.nil _ _ _ _⟩
  · simp at hmm
    subst hmm
    obtain ⟨hsz,hop⟩:=hR
    rw [hsz] at hi
    have hlen:len ≤ 17592186043904:=by
      have hw:=hlt ((len + (m - len)) * P.bytesOf e) (by rw [hx];simp [DataW.weights,ht])
      have:=Nat.mul_le_mul_left (len + (m - len)) hb
      omega
    have hel:∀ i,i < len → Light P e (D i):=fun i hil => by
      refine light_all (l:=(List.range len).map D) (fun n hn => hlt n ?_) i (D i) (by simp [hil])
      rw [hx];simp only [DataW.weights,ht]
      exact List.mem_cons_of_mem _ (List.mem_append.2 (.inl hn))
    classical
    have hall:∀ i,i < len → ∃ cs' x,W.cells? 0 (a.add (i * size)) size = some cs' ∧ cs'.length = size ∧ R W cs' x:=fun i hlt => by
      obtain ⟨cs',h1,h2⟩:=hi i (by omega)
      obtain ⟨h3,x,h4⟩:=hop h2 (hel i hlt)
      exact ⟨cs',x,h1,h3,h4⟩
    let rw1:Nat → List Value:=fun i => if hlt:i < len then Classical.choose (hall i hlt) else []
    have hrw:∀ i (hlt:i < len),∃ x,W.cells? 0 (a.add (i * size)) size = some (rw1 i) ∧ (rw1 i).length = size ∧ R W (rw1 i) x:=fun i hlt => by
      have:=Classical.choose_spec (hall i hlt)
      simp only [rw1,dif_pos hlt]
      exact this
    let el:(i:Nat) → i < len → α:=fun i hlt => Classical.choose (hrw i hlt)
    let l:List α:=List.ofFn (n:=len) fun i => el i.1 i.2
    have hll:l.length = len:=by simp [l]
    refine ⟨rfl,l,some a,m,by rw [hll],by rw [hll];exact hl,by unfold maxLen at hm;exact hm,by rw [hll];exact hlen,(List.range len).map rw1,?_,by simp [l],?_,?_⟩
    · have h3:∀ r ∈ (List.range len).map rw1,r.length = size:=by
        intro r hr
        obtain ⟨i,hi',rfl⟩:=List.mem_map.1 hr
        obtain ⟨x,_,h,_⟩:=hrw i (List.mem_range.1 hi')
        exact h
      refine rd_adds fun i u hu => ?_
      have hlt:=(List.getElem?_eq_some_iff.1 hu).1
      rw [flat_len h3,List.length_map,List.length_range] at hlt
      have hspos:0 < size:=by
        rcases Nat.eq_zero_or_pos size with h | h
        · rw [h] at hlt;omega
        · exact h
      have hdm:i = i / size * size + i % size:=by rw [Nat.mul_comm];exact (Nat.div_add_mod i size).symm
      have hq:i / size < len:=Nat.div_lt_of_lt_mul (by rw [Nat.mul_comm];exact hlt)
      have hr:=Nat.mod_lt i hspos
      obtain ⟨x,hx1,hx2,_⟩:=hrw _ hq
      obtain ⟨_,_,hx3⟩:=World.cells?_some hx1
      rw [hdm,flat_get h3 _ _ (by simpa using hq) hr] at hu
      have e:rowOf ((List.range len).map rw1) (i / size) = rw1 (i / size):=by simp [rowOf,hq]
      rw [e,← hx3 _ hr] at hu
      rw [hdm]
      rw [Go.Deep.add_add] at hu
      exact hu
    · intro r hr
      obtain ⟨i,hi',rfl⟩:=List.mem_map.1 hr
      obtain ⟨x,_,h,_⟩:=hrw i (List.mem_range.1 hi')
      exact h
    · intro j x hx
      have hj:j < len:=by rw [← hll];exact (List.getElem?_eq_some_iff.1 hx).1
      have e:rowOf ((List.range len).map rw1) j = rw1 j:=by simp [rowOf,hj]
      rw [e]
      have hx':x = el j hj:=by
        have:=List.getElem?_eq_some_iff.1 hx
        obtain ⟨h1,h2⟩:=this
        rw [← h2]
        simp [l]
      rw [hx']
      exact (Classical.choose_spec (hrw j hj)).2.2⟩
theorem field_opens {P:Program} {t ts:TypeId} {fs:Array Field} {size:Nat} {α:Type} {R:Reader α} (hR:Opens P t size R) (hts:P.underlying ts = some (.struct fs)) {H:Type} {enc:TypeId × Value → H} {W:World} {n off:Nat} {cs:List Value} {x:DataW H × List MemPlace} {xs:List (DataW H × List MemPlace)} (hx:x = (.agg (xs.map (·.1)),xs.flatMap (·.2))) (hl:Light P ts x.1) {i:Nat}
    (h:DataW.trod enc P W 0 (fun _ => true) true n t ((cs.drop off).take (P.cellsOf t)) = xs[i]?) (hi:i < xs.length) (hft:(fs.toList.map (·.type))[i]? = some t):∃ a,R W ((cs.drop off).take size) a:=by
  obtain ⟨hc,hop⟩:=hR
  rw [hc,List.getElem?_eq_getElem hi] at h
  refine (hop h ?_).2
  subst hx
  simp only [Light,DataW.weights,hts] at hl
  exact light_each hl i t _ hft (by simp [List.getElem?_eq_getElem hi])
theorem opens_param {P:Program} {t:TypeId} {size:Nat} {α:Type} {R:Reader α} (hR:Opens P t size R) {H:Type} {enc:TypeId × Value → H} {W:World} {v:Value} {d:DataW H} {p:List MemPlace} (h:DataW.Trod enc P W 0 (fun _ => true) true t v d p) (hl:Light P t d):∃ a,R W v.cells.toList a ∧ v.cells.toList.length = size:=by
  obtain ⟨fuel,hf⟩:=h
  obtain ⟨h1,a,h2⟩:=hR.2 hf hl
  exact ⟨a,h2,h1⟩
end Go.Proofs.YthamijnggdjaoaaGreatDoor
namespace Go.Proofs.YthamijnggdjaoaaGreatDoor
open Go.RowKit
def topW (B:Nat) (w:World):World:={ w with heap:=w.heap.mapIdx fun k o => if k < B then .cells #[] 0 (0,0) else o }
theorem top_size (B:Nat) (w:World):(topW B w).heap.size = w.heap.size:=by simp [topW]
theorem top_blk {B k:Nat} {w:World} (h:B ≤ k):(topW B w).heap[k]? = w.heap[k]?:=by
  simp only [topW,Array.getElem?_mapIdx]
  have h':¬ k < B:=by omega
  simp [h']
theorem top_low {B k:Nat} {w:World} (h:k < B) (hk:k < w.heap.size):(topW B w).heap[k]? = some (.cells #[] 0 (0,0)):=by
  simp only [topW,Array.getElem?_mapIdx]
  simp [h,hk]
theorem top_keep (B:Nat) (w:World):Keep (fun j => j < B) w (topW B w):=⟨rfl,rfl,rfl,by rw [top_size];exact Nat.le_refl _,fun k _ hn => top_blk (by omega)⟩
theorem own_top {w:World} {B base:Nat} {e:TypeId} {size:Nat} {v:Value} {n:Nat} {xs:List Value} (h:w.ownsRow base e size v n xs) (hB:B ≤ base):(topW B w).ownsRow base e size v n xs:=
  (top_keep B w).own h fun k hk hl => by have:=(h.lt k hk).1;omega
theorem top_below {B:Nat} {w w':World} (h:Below w.heap.size w w'):Below (topW B w).heap.size (topW B w) (topW B w'):=
  ⟨h.os,h.tape,h.output,by rw [top_size,top_size];exact h.size,fun k hk => by
    rw [top_size] at hk
    rcases Nat.lt_or_ge k B with hb | hb
    · rw [top_low hb (Nat.lt_of_lt_of_le hk h.size),top_low hb hk]
    · rw [top_blk hb,top_blk hb,h.block k hk]⟩
def Agr (B:Nat) (u v:World):Prop:=∀ k,B ≤ k → k < u.heap.size → v.heap[k]? = u.heap[k]?
theorem Agr.refl (B:Nat) (u:World):Agr B u u:=fun _ _ _ => rfl
theorem top_cell {B:Nat} {u v:World} {a:Addr} {x:Value} (h:(topW B u).cell? a = some x) (hv:Agr B u v):v.cell? a = some x:=by
  have hl:=lt_of_cell h
  rw [top_size] at hl
  rcases Nat.lt_or_ge a.block B with hb | hb
  · have h0:=top_low (w:=u) hb hl
    rw [World.cell?] at h
    simp only [h0] at h
    simp at h
  · exact (World.cell?_of_block (w:=topW B u) ((hv _ hb hl).trans (top_blk hb).symm)).trans h
theorem top_heap {B:Nat} {u v:World} {b:Nat} {x:Value} {xs:List Value} {t:TypeId} {fr:Nat × Nat} (h:(topW B u).heap[b]? = some (.cells (x :: xs).toArray t fr)) (hv:Agr B u v):v.heap[b]? = some (.cells (x :: xs).toArray t fr):=by
  have hl:=lt_of_block h
  rw [top_size] at hl
  rcases Nat.lt_or_ge b B with hb | hb
  · rw [top_low hb hl] at h
    simp at h
  · rw [hv b hb hl,← top_blk hb];exact h
theorem top_rd {B:Nat} {u v:World} {A:Option Addr} {xs:List Value} (h:Rd (topW B u) A xs) (hv:Agr B u v):Rd v A xs:=fun k x hx => by
  obtain ⟨b,o,e,hc⟩:=h k x hx
  exact ⟨b,o,e,top_cell hc hv⟩
theorem agr_top {B B1:Nat} {u:World} (h:B ≤ B1):Agr B1 u (topW B u):=fun k hk _ => top_blk (by omega)
def Tops {α:Type} (R:Reader α):Prop:=∀ {B:Nat} {u v:World} {cs:List Value} {x:α},R (topW B u) cs x → Agr B u v → R v cs x
theorem top_sl {α:Type} {R:Reader α} {size B:Nat} {u v:World} {A:Option Addr} {l:List α} (hR:Tops R) (h:SlRd R size (topW B u) A l) (hv:Agr B u v):SlRd R size v A l:=by
  obtain ⟨rows,h1,h2,h3,h4⟩:=h
  exact ⟨rows,top_rd h1 hv,h2,h3,fun j x hx => hR (h4 j x hx) hv⟩
end Go.Proofs.YthamijnggdjaoaaGreatDoor
namespace Go.Proofs.YthamijnggdjaoaaGreatDoor
open Go.RowKit
def mulQ (a b q:Int):Int:=if q < 0 ∨ 62 < q then 0 else wrap64 (a * b / 2 ^ q.toNat)
def uw (x:Int):Int:=x % 18446744073709551616
theorem uw_bd (x:Int):0 ≤ uw x ∧ uw x < 18446744073709551616:=by unfold uw;omega
theorem wrap64_bd (x:Int):-9223372036854775808 ≤ wrap64 x ∧ wrap64 x ≤ 9223372036854775807:=by unfold wrap64;omega
theorem wrap64_uw (x:Int):wrap64 (uw x) = wrap64 x:=by unfold wrap64 uw;omega
theorem wrap64_eq {x y:Int} (h:∃ k:Int,x = y + k * 18446744073709551616):wrap64 x = wrap64 y:=by
  obtain ⟨k,rfl⟩:=h
  unfold wrap64;omega
theorem wrap64_id {x:Int} (h1:-9223372036854775808 ≤ x) (h2:x ≤ 9223372036854775807):wrap64 x = x:=by unfold wrap64;omega
def prodHi (a b:Int):Int:=a * b / 18446744073709551616
def prodLo (a b:Int):Int:=uw (a * b)
theorem prod_eq (a b:Int):prodHi a b * 18446744073709551616 + prodLo a b = a * b:=by unfold prodHi prodLo uw;omega
theorem mul_bd {a b:Int} (ha:-9223372036854775808 ≤ a ∧ a ≤ 9223372036854775807) (hb:-9223372036854775808 ≤ b ∧ b ≤ 9223372036854775807):-85070591730234615865843651857942052864 ≤ a * b ∧ a * b ≤ 85070591730234615865843651857942052864:=by
  have h1:a.natAbs ≤ 9223372036854775808:=by omega
  have h2:b.natAbs ≤ 9223372036854775808:=by omega
  have h3:=Nat.mul_le_mul h1 h2
  rw [← Int.natAbs_mul] at h3
  omega
theorem prodHi_bd {a b:Int} (ha:-9223372036854775808 ≤ a ∧ a ≤ 9223372036854775807) (hb:-9223372036854775808 ≤ b ∧ b ≤ 9223372036854775807):-9223372036854775808 ≤ prodHi a b ∧ prodHi a b ≤ 9223372036854775807:=by
  have:=mul_bd ha hb
  unfold prodHi;omega
theorem shift_eq (a b:Int) (q:Nat) (hq:q ≤ 62):prodHi a b * 2 ^ (64 - q) + prodLo a b / 2 ^ q = a * b / 2 ^ q:=by
  have e:(18446744073709551616:Int) = 2 ^ (64 - q) * 2 ^ q:=by rw [← Int.pow_add,show 64 - q + q = 64 by omega];rfl
  have hp:(2:Int) ^ q ≠ 0:=by have:=Int.pow_pos (n:=2) (m:=q) (by decide);omega
  have h:=prod_eq a b
  rw [← h,e,← Int.mul_assoc,Int.add_comm (prodHi a b * 2 ^ (64 - q) * 2 ^ q),Int.add_mul_ediv_right _ _ hp,Int.add_comm]
theorem wrap64_sub (x y:Int):wrap64 (wrap64 x - y) = wrap64 (x - y):=by unfold wrap64;omega
theorem wrap64_add (x y:Int):wrap64 (wrap64 x + y) = wrap64 (x + y):=by unfold wrap64;omega
theorem words_mul (a b:Int) (ha:-9223372036854775808 ≤ a ∧ a ≤ 9223372036854775807) (hb:-9223372036854775808 ≤ b ∧ b ≤ 9223372036854775807) :
    uw a * uw b = a * b + ((if a < 0 then b else 0) + (if b < 0 then a else 0) + (if a < 0 ∧ b < 0 then 18446744073709551616 else 0)) * 18446744073709551616:=by
  by_cases h1:a < 0
  · have e1:uw a = a + 18446744073709551616:=by unfold uw;omega
    by_cases h2:b < 0
    · have e2:uw b = b + 18446744073709551616:=by unfold uw;omega
      rw [e1,e2,if_pos h1,if_pos h2,if_pos ⟨h1,h2⟩,Int.add_mul,Int.mul_add]
      omega
    · have e2:uw b = b:=by unfold uw;omega
      rw [e1,e2,if_pos h1,if_neg h2,if_neg (fun h => h2 h.2),Int.add_mul]
      omega
  · have e1:uw a = a:=by unfold uw;omega
    by_cases h2:b < 0
    · have e2:uw b = b + 18446744073709551616:=by unfold uw;omega
      rw [e1,e2,if_neg h1,if_pos h2,if_neg (fun h => h1 h.1),Int.mul_add]
      omega
    · have e2:uw b = b:=by unfold uw;omega
      rw [e1,e2,if_neg h1,if_neg h2,if_neg (fun h => h1 h.1)]
      omega
theorem words_hi (a b:Int) (ha:-9223372036854775808 ≤ a ∧ a ≤ 9223372036854775807) (hb:-9223372036854775808 ≤ b ∧ b ≤ 9223372036854775807) :
    wrap64 (uw a * uw b / 18446744073709551616 - (if a < 0 then b else 0) - (if b < 0 then a else 0)) = prodHi a b:=by
  rw [words_mul a b ha hb,Int.add_mul_ediv_right _ _ (by decide)]
  have h:=prodHi_bd ha hb
  rw [← wrap64_id h.1 h.2]
  refine wrap64_eq ⟨if a < 0 ∧ b < 0 then 1 else 0,?_⟩
  unfold prodHi
  by_cases h1:a < 0
  · by_cases h2:b < 0
    · simp only [h1,h2,if_true,and_self];omega
    · simp only [h1,h2,if_true,if_false,and_false];omega
  · by_cases h2:b < 0
    · simp only [h1,h2,if_true,if_false,false_and];omega
    · simp only [h1,h2,if_false,false_and];omega
theorem words_lo (a b:Int) (ha:-9223372036854775808 ≤ a ∧ a ≤ 9223372036854775807) (hb:-9223372036854775808 ≤ b ∧ b ≤ 9223372036854775807):uw (uw a * uw b) = prodLo a b:=by
  rw [words_mul a b ha hb]
  unfold prodLo uw
  rw [Int.add_mul_emod_self_right]
theorem uw_nat (a:Int):∃ X:Nat,uw a = X ∧ X < 18446744073709551616:=⟨(uw a).toNat,by have:=uw_bd a;omega,by have:=uw_bd a;omega⟩
end Go.Proofs.YthamijnggdjaoaaGreatDoor
namespace Go.Proofs.YthamijnggdjaoaaGreatDoor
open Go.RowKit
def W64 (l:List Int):Prop:=∀ k,k < l.length → -9223372036854775808 ≤ nth l k ∧ nth l k ≤ 9223372036854775807
theorem nth_mem {l:List Int} {k:Nat} (h:k < l.length):nth l k ∈ l:=by rw [nth_eq l k h];exact List.getElem_mem h
theorem nth_set (l:List Int) (k:Nat) (v:Int) (j:Nat):nth (l.set k v) j = if j = k ∧ k < l.length then v else nth l j:=by
  unfold nth
  simp only [List.getD_eq_getElem?_getD,List.getElem?_set]
  by_cases h:k = j
  · subst h
    by_cases h2:k < l.length
    · simp [h2]
    · simp [h2,List.getElem?_eq_none (show l.length ≤ k by omega)]
  · simp [h,Ne.symm h]
theorem ext_nth {a b:List Int} (hl:a.length = b.length) (h:∀ k,k < a.length → nth a k = nth b k):a = b:=by
  refine List.ext_getElem hl fun k h1 h2 => ?_
  rw [← nth_eq a k h1,← nth_eq b k h2]
  exact h k h1
def upTo (n:Nat) (f:Nat → Int):List Int:=(List.range n).map f
theorem upTo_len (n:Nat) (f:Nat → Int):(upTo n f).length = n:=by simp [upTo]
theorem upTo_nth {n k:Nat} (f:Nat → Int) (h:k < n):nth (upTo n f) k = f k:=by rw [nth_eq _ _ (by rw [upTo_len];exact h)];simp [upTo]
theorem upTo_succ (n:Nat) (f:Nat → Int):upTo (n + 1) f = upTo n f ++ [f n]:=by simp [upTo,List.range_succ]
theorem upTo_W64 {n:Nat} {f:Nat → Int} (h:∀ k,k < n → -9223372036854775808 ≤ f k ∧ f k ≤ 9223372036854775807):W64 (upTo n f):=fun k hk => by
  rw [upTo_len] at hk
  rw [upTo_nth f hk];exact h k hk
theorem upTo_congr {n:Nat} {f g:Nat → Int} (h:∀ k,k < n → f k = g k):upTo n f = upTo n g:=by
  unfold upTo;exact List.map_congr_left fun k hk => h k (List.mem_range.1 hk)
theorem eq_upTo {l:List Int} {n:Nat} {f:Nat → Int} (hl:l.length = n) (h:∀ k,k < n → nth l k = f k):l = upTo n f:=
  ext_nth (by rw [upTo_len,hl]) fun k hk => by rw [upTo_nth f (by omega)];exact h k (by omega)
def mixed (l:List Int) (k:Nat) (f:Nat → Int):List Int:=upTo l.length fun j => if j < k then f j else nth l j
theorem mixed_len (l:List Int) (k:Nat) (f:Nat → Int):(mixed l k f).length = l.length:=upTo_len _ _
theorem mixed_zero (l:List Int) (f:Nat → Int):mixed l 0 f = l:=(eq_upTo rfl fun k _ => by rw [if_neg (by omega)]).symm
theorem mixed_nth {l:List Int} {k:Nat} (f:Nat → Int) {j:Nat} (hj:j < l.length):nth (mixed l k f) j = if j < k then f j else nth l j:=upTo_nth _ hj
theorem mixed_set {l:List Int} {k:Nat} (f:Nat → Int) (hk:k < l.length):(mixed l k f).set k (f k) = mixed l (k + 1) f:=by
  refine ext_nth (by simp [mixed_len]) fun j hj => ?_
  rw [List.length_set,mixed_len] at hj
  rw [nth_set,mixed_nth f hj,mixed_nth f hj,mixed_len]
  by_cases h1:j = k
  · subst h1;simp [hk]
  · by_cases h2:j < k
    · simp [h1,h2,show j < k + 1 by omega]
    · simp [h1,h2,show ¬ j < k + 1 by omega]
theorem mixed_all (l:List Int) (f:Nat → Int):mixed l l.length f = upTo l.length f:=by
  unfold mixed;exact upTo_congr fun k hk => by rw [if_pos hk]
def dotN (xs ys:List Int) (q:Int):Nat → Int
  | 0 => 0
  | k + 1 => wrap64 (dotN xs ys q k + mulQ (nth xs k) (nth ys k) q)
def dotL (xs ys:List Int) (q:Int):Int:=dotN xs ys q xs.length
def scaleL (xs:List Int) (a q:Int):List Int:=upTo xs.length fun k => mulQ (nth xs k) a q
def addL (xs ys:List Int):List Int:=upTo xs.length fun k => wrap64 (nth xs k + nth ys k)
end Go.Proofs.YthamijnggdjaoaaGreatDoor
namespace Go.Proofs.YthamijnggdjaoaaGreatDoor
open Go.RowKit
def szN (sz:List Int) (k:Nat):Nat:=(nth sz k).toNat
def cntN (sz:List Int):Nat → Nat
  | 0 => 0
  | k + 1 => cntN sz k + (szN sz k + 1) * szN sz (k + 1)
def midN (sz:List Int) (k:Nat):Nat:=cntN sz k + szN sz (k + 1) * szN sz k
def RightSz (sz:List Int):Prop:=(2 ≤ sz.length ∧ sz.length ≤ 16) ∧ ∀ k,k < sz.length → 1 ≤ nth sz k ∧ nth sz k ≤ 1048576
def GoodSz (sz:List Int):Prop:=RightSz sz ∧ cntN sz (sz.length - 1) ≤ 1048576
theorem RightSz.at {sz:List Int} (h:RightSz sz) {k:Nat} (hk:k < sz.length):1 ≤ szN sz k ∧ szN sz k ≤ 1048576 ∧ nth sz k = (szN sz k:Int):=by
  have:=h.2 k hk
  unfold szN;omega
theorem midN_eq (sz:List Int) (k:Nat):midN sz k + szN sz (k + 1) = cntN sz (k + 1):=by
  unfold midN
  rw [cntN,Nat.add_mul,Nat.one_mul,Nat.mul_comm (szN sz k)];omega
theorem RightSz.mul {sz:List Int} (h:RightSz sz) {k:Nat} (hk:k + 1 < sz.length):szN sz (k + 1) * szN sz k ≤ 1099511627776:=by
  have h1:=h.at hk
  have h2:=h.at (k:=k) (by omega)
  exact Nat.mul_le_mul h1.2.1 h2.2.1
theorem RightSz.cnt {sz:List Int} (h:RightSz sz):∀ k,k < sz.length → cntN sz k ≤ k * 1099512676352:=by
  intro k
  induction k with
  | zero => intro _;simp [cntN]
  | succ k ih =>
    intro hk
    have h1:=ih (by omega)
    have h2:=h.mul hk
    have h3:=(h.at hk).2.1
    have h4:=midN_eq sz k
    unfold midN at h4
    omega
theorem cntN_mono (sz:List Int) {j k:Nat} (h:j ≤ k):cntN sz j ≤ cntN sz k:=by
  induction h with
  | refl => exact Nat.le_refl _
  | step _ ih => rw [cntN];omega
theorem RightSz.bound {sz:List Int} (h:RightSz sz) {k:Nat} (hk:k < sz.length):cntN sz k ≤ 17592202821632:=by
  have h1:=h.cnt k hk
  have h2:=h.1.2
  have:k * 1099512676352 ≤ 16 * 1099512676352:=Nat.mul_le_mul_right _ (by omega)
  omega
theorem GoodSz.bound {sz:List Int} (h:GoodSz sz) {k:Nat} (hk:k < sz.length):cntN sz k ≤ 1048576:=Nat.le_trans (cntN_mono sz (by omega)) h.2
theorem GoodSz.mul {sz:List Int} (h:GoodSz sz) {k:Nat} (hk:k + 1 < sz.length):szN sz (k + 1) * szN sz k ≤ 1048576:=by
  have h1:=h.bound hk
  have h2:=midN_eq sz k
  unfold midN at h2
  omega
def wVals (sz:List Int) (k:Nat):List Value:=(List.range k).flatMap fun j => [.int .i64 (cntN sz j:Int),.int .i64 (midN sz j:Int)]
def bVals (sz:List Int) (k:Nat):List Value:=(List.range k).flatMap fun j => [.int .i64 (midN sz j:Int),.int .i64 (cntN sz (j + 1):Int)]
theorem wVals_succ (sz:List Int) (k:Nat):wVals sz (k + 1) = wVals sz k ++ [.int .i64 (cntN sz k:Int),.int .i64 (midN sz k:Int)]:=by simp [wVals,List.range_succ,List.flatMap_append]
theorem bVals_succ (sz:List Int) (k:Nat):bVals sz (k + 1) = bVals sz k ++ [.int .i64 (midN sz k:Int),.int .i64 (cntN sz (k + 1):Int)]:=by simp [bVals,List.range_succ,List.flatMap_append]
theorem wVals_len (sz:List Int) (k:Nat):(wVals sz k).length = k * 2:=by
  induction k with
  | zero => rfl
  | succ k ih => rw [wVals_succ,List.length_append,ih];simp;omega
theorem bVals_len (sz:List Int) (k:Nat):(bVals sz k).length = k * 2:=by
  induction k with
  | zero => rfl
  | succ k ih => rw [bVals_succ,List.length_append,ih];simp;omega
theorem wVals_at (sz:List Int) {j n:Nat} (h:j < n):(wVals sz n)[j * 2]? = some (.int .i64 (cntN sz j:Int)) ∧ (wVals sz n)[j * 2 + 1]? = some (.int .i64 (midN sz j:Int)):=by
  induction n with
  | zero => omega
  | succ n ih =>
    rw [wVals_succ]
    by_cases hj:j < n
    · have:=ih hj
      rw [List.getElem?_append_left (by rw [wVals_len];omega),List.getElem?_append_left (by rw [wVals_len];omega)]
      exact this
    · obtain rfl:j = n:=by omega
      rw [List.getElem?_append_right (by rw [wVals_len];omega),List.getElem?_append_right (by rw [wVals_len];omega),wVals_len]
      simp
theorem bVals_at (sz:List Int) {j n:Nat} (h:j < n):(bVals sz n)[j * 2]? = some (.int .i64 (midN sz j:Int)) ∧ (bVals sz n)[j * 2 + 1]? = some (.int .i64 (cntN sz (j + 1):Int)):=by
  induction n with
  | zero => omega
  | succ n ih =>
    rw [bVals_succ]
    by_cases hj:j < n
    · have:=ih hj
      rw [List.getElem?_append_left (by rw [bVals_len];omega),List.getElem?_append_left (by rw [bVals_len];omega)]
      exact this
    · obtain rfl:j = n:=by omega
      rw [List.getElem?_append_right (by rw [bVals_len];omega),List.getElem?_append_right (by rw [bVals_len];omega),bVals_len]
      simp
def ShapeAt (T:TypeId) (w:World) (b:Nat) (sz:List Int):Prop:=∃ A1 c1 A2 c2 A3 c3,
  w.heap[b]? = some (.cells #[.slice A1 sz.length c1,.slice A2 (sz.length - 1) c2,.slice A3 (sz.length - 1) c3,.int .i64 (cntN sz (sz.length - 1):Int)] T (0,0)) ∧
  Rd w A1 (nums .i64 sz) ∧ Rd w A2 (wVals sz (sz.length - 1)) ∧ Rd w A3 (bVals sz (sz.length - 1))
theorem ShapeAt.below {T:TypeId} {w w':World} {b:Nat} {sz:List Int} (h:ShapeAt T w b sz) (hb:Below w.heap.size w w'):ShapeAt T w' b sz:=by
  obtain ⟨A1,c1,A2,c2,A3,c3,h0,h1,h2,h3⟩:=h
  exact ⟨A1,c1,A2,c2,A3,c3,(hb.block b (lt_of_block h0)).trans h0,h1.below hb,h2.below hb,h3.below hb⟩
theorem ShapeAt.lt {T:TypeId} {w:World} {b:Nat} {sz:List Int} (h:ShapeAt T w b sz):b < w.heap.size:=by
  obtain ⟨A1,c1,A2,c2,A3,c3,h0,_⟩:=h
  exact lt_of_block h0
end Go.Proofs.YthamijnggdjaoaaGreatDoor
namespace Go.Proofs.YthamijnggdjaoaaGreatDoor
open Go.RowKit
theorem block_notrow {W:World} {b:Nat} {cs:Array Value} {t e:TypeId} {sg:Nat × Nat} (h:W.heap[b]? = some (.cells cs t sg)) (hte:t ≠ e) {base size k:Nat} {v:Value} {xs:List Value} (hr:W.ownsRow base e size v k xs):some b ≠ v.ownBlock:=by
  rcases hr.2 with ⟨rfl,_⟩ | ⟨g,cap,cur,rfl,_,hgb,_⟩
  · simp [Value.ownBlock]
  · intro e'
    obtain rfl:b = g:=by simpa [Value.ownBlock] using e'
    have:=h.symm.trans hgb
    simp at this
    exact hte this.2.1
theorem block_grown {W W':World} {b:Nat} {cs:Array Value} {t e:TypeId} {sg:Nat × Nat} {o:Obj} (h:W.heap[b]? = some (.cells cs t sg)) (hte:t ≠ e) {base size k:Nat} {v:Value} {xs:List Value} (hr:W.ownsRow base e size v k xs) (hg:(W.alloc o).grownBy W' v.ownBlock):W'.heap[b]? = some (.cells cs t sg):=
  (hg.block b (by have:=lt_of_block h;simp;omega) (block_notrow h hte hr)).trans ((Below.heap_alloc W o b (lt_of_block h)).trans h)
theorem cell_grown {W W':World} {b o:Nat} {u:Value} {e:TypeId} {ob:Obj} (h:W.cell? ⟨b,o,none⟩ = some u) {base size k:Nat} {v:Value} {xs:List Value} (hb:b < base) (hr:W.ownsRow base e size v k xs) (hg:(W.alloc ob).grownBy W' v.ownBlock):W'.cell? ⟨b,o,none⟩ = some u:=
  hg.cell ((World.cell?_of_block (w:=W) (Below.heap_alloc W ob b (lt_of_cell h))).trans h) (fun e => by
    have e':v.ownBlock = some b:=e.symm
    have:=(hr.lt b e').1
    omega)
theorem own_other {W W':World} {base':Nat} {e':TypeId} {size' m:Nat} {v v' u:Value} {ys:List Value} {o:Obj} (hu:W.ownsRow base' e' size' u m ys) (hne:∀ i,v.ownBlock = some i → u.ownBlock ≠ some i)
    (hg:(W.alloc o).grownBy W' v.ownBlock) (hv:v'.ownBlock = v.ownBlock ∨ v'.ownBlock = some (W.alloc o).heap.size):W'.ownsRow base' e' size' u m ys ∧ ∀ i,v'.ownBlock = some i → u.ownBlock ≠ some i:=by
  refine ⟨(hu.alloc o).kept hg ?_,fun i hi => ?_⟩
  · cases hub:u.ownBlock with
    | none => exact .inl rfl
    | some k => exact .inr fun e => hne k e.symm hub
  · rcases hv with hv | hv
    · exact hne i (hv ▸ hi)
    · intro e
      have h1:=(hu.lt i e).2
      rw [hi] at hv
      simp at hv
      omega
theorem cell_alloc {W:World} {p:Addr} {u:Value} (h:W.cell? p = some u) (o:Obj):(W.alloc o).cell? p = some u:=
  (World.cell?_of_block (w:=W) (Below.heap_alloc W o _ (lt_of_cell h))).trans h
theorem cell_below {w w':World} {p:Addr} {u:Value} (hb:Below w.heap.size w w') (h:w.cell? p = some u):w'.cell? p = some u:=(World.cell?_of_block (w:=w) (hb.block _ (lt_of_cell h))).trans h
theorem own_types {W:World} {b1 b2 e1 e2 s1 s2 n1 n2:Nat} {v1 v2:Value} {xs1 xs2:List Value} (h1:W.ownsRow b1 e1 s1 v1 n1 xs1) (h2:W.ownsRow b2 e2 s2 v2 n2 xs2) (hne:e1 ≠ e2):∀ i,v1.ownBlock = some i → v2.ownBlock ≠ some i:=by
  intro i hi e
  rcases h1.2 with ⟨rfl,_⟩ | ⟨g,cap,cur,rfl,_,hgb,_⟩
  · cases hi
  · obtain rfl:g = i:=by simpa [Value.ownBlock] using hi
    exact block_notrow hgb hne h2 e.symm
theorem own_past {W W':World} {e' e size' size n m:Nat} {v u y:Value} {xs ys:List Value} {o:Obj} {base base' B j:Nat} {cs:Array Value} {t:TypeId} (hu:W.ownsRow base' e' size' u m ys) (hv:W.ownsRow base e size v n xs) (hg:(W.alloc o).grownBy W' v.ownBlock)
    (hB:W'.heap[B]? = some (.cells cs t (0,0))) (h1:e ≠ e') (h2:t ≠ e'):(W'.setCell ⟨B,j,none⟩ y).ownsRow base' e' size' u m ys:=by
  have h3:W'.ownsRow base' e' size' u m ys:=by
    refine (hu.alloc o).kept hg ?_
    cases hub:u.ownBlock with
    | none => exact .inl rfl
    | some k => exact .inr fun e9 => own_types hv hu h1 k e9.symm hub
  exact (Keep.setCell (S:=fun i => i = B) (Keep.refl _ W') ⟨B,j,none⟩ (.inr rfl) y).own h3 (fun i hi e9 => block_notrow hB h2 h3 (by rw [hi,e9]))
theorem grown_undrew {W W':World} {r:Option Nat} (h:W.drew.grownBy W' r):W.grownBy W' r:=⟨h.os,h.tape,h.output,h.size,h.block⟩
end Go.Proofs.YthamijnggdjaoaaGreatDoor
namespace Go.Proofs.YthamijnggdjaoaaGreatDoor
open Go.RowKit
theorem rrng_hi (a b:Int) (w:World):Sem.run Tryz.prog (Instr.field 347 (.agg #[.int .i64 a,.int .i64 b]) 1) w = .ok (.int .i64 b) w:=by kernel_rfl
theorem rrng_lo (a b:Int) (w:World):Sem.run Tryz.prog (Instr.field 347 (.agg #[.int .i64 a,.int .i64 b]) 0) w = .ok (.int .i64 a) w:=by kernel_rfl
theorem rcount_any (A:Option Addr) (sz:List Int) (m c:Nat) (w:World) (hA:Rd w A (nums .i64 sz)) (hR:RightSz sz) (h1:1 ≤ m) (hm:m ≤ sz.length) :
    Calls Tryz.prog 48 #[.slice A m c] w fun e w' => e = .returned (.int .i64 (cntN sz (m - 1):Int)) ∧ ∃ n,w' = w.drewN n:=by
  have hmb:m ≤ 16:=by have:=hR.1.2;omega
  have HAz:=Lib.hid hA;have HR:=Lib.hid hR;have Hm:=Lib.hid hm;clear hA hR hm
  go_enter Tryz.func48,Tryz.ntmps48
  go_wp2_with fail
  go_loopw [3,4] (fun v i wr => ∃ k:Nat,k + 1 ≤ m ∧ i = .int .i64 k ∧ v = .int .i64 (cntN sz k:Int) ∧ ∃ n,wr = w.drewN n) (fun _ i _ => m - (intOf i).toNat)
  case atStart => exact ⟨0,h1,rfl,rfl,0,rfl⟩
  case round =>
    obtain ⟨k,hk,rfl,rfl,n,rfl⟩:=hrel
    by_cases hlt:k + 1 < m
    · have hm:=Hm.out
      have z0:=HR.out.at (k:=k) (by omega)
      have z1:=HR.out.at (k:=k + 1) (by omega)
      obtain ⟨b,o,rfl,p0⟩:=HAz.out.num (show k < sz.length by omega)
      obtain ⟨_,_,e',p1⟩:=HAz.out.num (show k + 1 < sz.length by omega)
      injection e' with e';injection e' with e1 e2 _;subst e1;subst e2
      have hb:=HR.out.bound (k:=k + 1) (by omega)
      rw [z0.2.2] at p0
      rw [z1.2.2] at p1
      have hc:cntN sz (k + 1) = cntN sz k + (szN sz k + 1) * szN sz (k + 1):=rfl
      obtain ⟨a,ha⟩:∃ a,szN sz k = a:=⟨_,rfl⟩
      obtain ⟨d,hd⟩:∃ d,szN sz (k + 1) = d:=⟨_,rfl⟩
      obtain ⟨N,hN⟩:∃ N,cntN sz k = N:=⟨_,rfl⟩
      obtain ⟨M,hM⟩:∃ M,cntN sz (k + 1) = M:=⟨_,rfl⟩
      obtain ⟨p,hp⟩:∃ p,(a + 1) * d = p:=⟨_,rfl⟩
      rw [ha] at p0 z0 hc
      rw [hd] at p1 z1 hc
      rw [hN,hM,hp] at hc
      rw [hM] at hb
      rw [hN]
      have HM:=Lib.hid hM
      clear hM hN ha hd
      have hi1:(k:Int) + 1 < m:=by omega
      have hi0:(k:Int) < m:=by omega
      have hi2:(0:Int) ≤ (k:Int) + 1:=by omega
      have hi3:((k:Int) + 1).toNat = k + 1:=by omega
      have hw0:IntKind.i64.wrap ((k:Int) + 1) = (k:Int) + 1:=IntWalk.i64_in _ (by omega)
      have hw1:IntKind.i64.wrap ((a:Int) + 1) = (a:Int) + 1:=IntWalk.i64_in _ (by omega)
      have hpp:((a:Int) + 1) * (d:Int) = (p:Int):=by rw [← hp];push_cast;rfl
      have hw2:IntKind.i64.wrap (((a:Int) + 1) * (d:Int)) = (p:Int):=by rw [hpp];exact IntWalk.i64_in _ (by omega)
      have hw3:IntKind.i64.wrap ((N:Int) + (p:Int)) = (M:Int):=by rw [IntWalk.i64_in _ (by omega)];omega
      clear hpp hp hc hb z0 z1
      go_wp2_with fail
      go_quiet (fail)
      clear hw0 hw1 hw2 hw3 hi0 hi1 hi2 hi3
      go_wp2_with fail
      go_roundw
      case rel => exact ⟨k + 1,by omega,by go_num,by rw [HM.out],_,by first | rfl | exact World.drewN_drewN _ _ _⟩
      case measure => simp [intOf];omega
    · obtain rfl:k = m - 1:=by omega
      have hwk:IntKind.i64.wrap (((m - 1:Nat):Int) + 1) = (m:Int):=by rw [IntWalk.i64_in _ (by omega)];omega
      go_wp2_with fail
      go_ret
      exact ⟨rfl,n,rfl⟩
theorem rcheck_short (A:Option Addr) (sz:List Int) (c:Nat) (w:World) (hl:sz.length ≤ 17592186043904) (h:¬ (2 ≤ sz.length ∧ sz.length ≤ 16)) :
    Calls Tryz.prog 96 #[.slice A sz.length c] w fun e w' => e = .returned (.int .i64 5) ∧ w = w':=by
  by_cases h1:sz.length < 2
  · go_enter Tryz.func96,Tryz.ntmps96
    go_wp2
    go_ret
    exact ⟨rfl,rfl⟩
  · have h2:16 < sz.length:=by omega
    go_enter Tryz.func96,Tryz.ntmps96
    go_wp2
    go_ret
    exact ⟨rfl,rfl⟩
def codeN (sz:List Int):Int:=if 1048576 < cntN sz (sz.length - 1) then 4 else 0
theorem rcheck_long (A:Option Addr) (sz:List Int) (c:Nat) (w:World) (hA:Rd w A (nums .i64 sz)) (h:2 ≤ sz.length ∧ sz.length ≤ 16) :
    Calls Tryz.prog 96 #[.slice A sz.length c] w fun e w' => ((RightSz sz ∧ e = .returned (.int .i64 (codeN sz))) ∨ (¬ RightSz sz ∧ e = .returned (.int .i64 5))) ∧ ∃ n,w' = w.drewN n:=by
  obtain ⟨h1,h2⟩:=h
  obtain ⟨n,hn⟩:∃ n,sz.length = n:=⟨_,rfl⟩
  have hct:=fun (hR:RightSz sz) => rcount_any A sz n c w hA hR (by omega) (by omega)
  have hR:(∀ k,k < n → 1 ≤ nth sz k ∧ nth sz k ≤ 1048576) → RightSz sz:=fun h => ⟨by omega,by rw [hn];exact h⟩
  have hRn:RightSz sz → ∀ k,k < n → 1 ≤ nth sz k ∧ nth sz k ≤ 1048576:=fun h => by rw [← hn];exact h.2
  have hcd:codeN sz = if 1048576 < cntN sz (n - 1) then 4 else 0:=by unfold codeN;rw [hn]
  rw [hn] at h1 h2 ⊢
  have HAz:=Lib.hid hA;have Hct:=Lib.hid hct;have HR:=Lib.hid hR;have HRn:=Lib.hid hRn;have Hn:=Lib.hid hn;have Hcd:=Lib.hid hcd;clear hA hct hR hRn hn hcd
  go_enter Tryz.func96,Tryz.ntmps96
  go_wp2_with fail
  go_loop [3] (fun i => ∃ k:Nat,k ≤ n ∧ i = .int .i64 k ∧ Hid (∀ j,j < k → 1 ≤ nth sz j ∧ nth sz j ≤ 1048576)) (fun i => n - (intOf i).toNat)
  case atStart => exact ⟨0,Nat.zero_le _,rfl,Lib.hid fun j hj => by omega⟩
  case round =>
    obtain ⟨k,hk,rfl,Hall⟩:=hrel
    by_cases hlt:k < n
    · obtain ⟨b,o,rfl,p⟩:=HAz.out.num (show k < sz.length by rw [Hn.out];exact hlt)
      by_cases hz1:nth sz k < 1
      · have hno:¬ RightSz sz:=fun h => by have:=HRn.out h k hlt;omega
        have Hno:=Lib.hid hno;clear hno
        go_wp2_with fail
        go_ret
        exact ⟨.inr ⟨Hno.out,rfl⟩,0,rfl⟩
      · by_cases hz2:1048576 < nth sz k
        · have hno:¬ RightSz sz:=fun h => by have:=HRn.out h k hlt;omega
          have Hno:=Lib.hid hno;clear hno
          go_wp2_with fail
          go_ret
          exact ⟨.inr ⟨Hno.out,rfl⟩,0,rfl⟩
        · have Hz:=Lib.hid (show 1 ≤ nth sz k ∧ nth sz k ≤ 1048576 by omega)
          go_wp2_with fail
          go_round
          case rel => exact ⟨k + 1,by omega,by go_num,Lib.hid (p:=∀ j,j < k + 1 → 1 ≤ nth sz j ∧ nth sz j ≤ 1048576) fun j hj => by
            rcases Nat.lt_or_ge j k with h | h
            · exact Hall.out j h
            · obtain rfl:j = k:=by omega
              exact Hz.out⟩
          case measure => simp [intOf];omega
    · obtain rfl:k = n:=by omega
      have hR:=HR.out Hall.out
      have hb:=hR.bound (k:=k - 1) (by rw [Hn.out];omega)
      have HRR:=Lib.hid hR;clear hR
      by_cases hbig:1048576 < cntN sz (k - 1)
      · have hbi:(1048576:Int) < cntN sz (k - 1):=by omega
        have hcv:codeN sz = 4:=by rw [Hcd.out,if_pos hbig]
        have Hcv:=Lib.hid hcv;clear hcv
        go_wp2_with fail
        refine (Hct.out HRR.out).mono ?_
        rintro e w' ⟨rfl,m,rfl⟩
        go_wp2_with fail
        go_ret
        exact ⟨.inl ⟨HRR.out,by rw [Hcv.out];rfl⟩,m,rfl⟩
      · have hbi:¬ (1048576:Int) < cntN sz (k - 1):=by omega
        have hcv:codeN sz = 0:=by rw [Hcd.out,if_neg hbig]
        have Hcv:=Lib.hid hcv;clear hcv
        go_wp2_with fail
        refine (Hct.out HRR.out).mono ?_
        rintro e w' ⟨rfl,m,rfl⟩
        go_wp2_with fail
        go_ret
        exact ⟨.inl ⟨HRR.out,by rw [Hcv.out];rfl⟩,m,rfl⟩
set_option maxHeartbeats 400000 in
theorem rweights_any (A:Option Addr) (sz:List Int) (k c:Nat) (w:World) (hA:Rd w A (nums .i64 sz)) (hR:RightSz sz) (hk:k + 1 < sz.length) (hc:sz.length ≤ c) :
    Calls Tryz.prog 212 #[.slice A sz.length c,.int .i64 k] w fun e w' => e = .returned (.agg #[.int .i64 (cntN sz k:Int),.int .i64 (midN sz k:Int)]) ∧ Below w.heap.size w w':=by
  have hl16:=hR.1.2
  have z0:=hR.at (k:=k) (by omega)
  have z1:=hR.at hk
  obtain ⟨b,o,rfl,p0⟩:=hA.num (show k < sz.length by omega)
  obtain ⟨_,_,e',p1⟩:=hA.num hk
  injection e' with e';injection e' with e1 e2 _;subst e1;subst e2
  have hct:=fun w' (h:Below w.heap.size w w') => rcount_any (some ⟨b,o,none⟩) sz (k + 1) c w' (hA.below h) hR (by omega) (by omega)
  have hb:=hR.bound (k:=k + 1) hk
  have hm:midN sz k = cntN sz k + szN sz (k + 1) * szN sz k:=rfl
  have hm2:=midN_eq sz k
  simp only [Nat.add_sub_cancel] at hct
  rw [z0.2.2] at p0
  rw [z1.2.2] at p1
  obtain ⟨a,ha⟩:∃ a,szN sz k = a:=⟨_,rfl⟩
  obtain ⟨d,hd⟩:∃ d,szN sz (k + 1) = d:=⟨_,rfl⟩
  obtain ⟨N,hN⟩:∃ N,cntN sz k = N:=⟨_,rfl⟩
  obtain ⟨M,hM⟩:∃ M,midN sz k = M:=⟨_,rfl⟩
  obtain ⟨p,hp⟩:∃ p,d * a = p:=⟨_,rfl⟩
  obtain ⟨n,hn⟩:∃ n,sz.length = n:=⟨_,rfl⟩
  rw [ha] at p0 z0 hm
  rw [hd] at p1 z1 hm hm2
  rw [hN,hM,hp] at hm
  rw [hM] at hm2
  rw [hN] at hct ⊢
  rw [hM]
  rw [hn] at hk hc hl16 ⊢
  have hbl:b < w.heap.size:=lt_of_cell p0
  have Hct:=Lib.hid hct
  clear hct hA hR
  have hi1:(k:Int) + 1 < n:=by omega
  have hi0:(k:Int) < n:=by omega
  have hi2:(0:Int) ≤ (k:Int) + 1:=by omega
  have hi3:((k:Int) + 1).toNat = k + 1:=by omega
  have hi4:((n - 1:Nat):Int) = (n:Int) - 1:=by omega
  have hi5:¬ ((n:Int) - 1 ≤ k):=by omega
  have hi6:k + 1 ≤ c:=by omega
  have hpp:(a:Int) * (d:Int) = (p:Int):=by rw [← hp,Nat.mul_comm];push_cast;rfl
  have hw2:IntKind.i64.wrap ((a:Int) * (d:Int)) = (p:Int):=by rw [hpp];exact IntWalk.i64_in _ (by omega)
  have hw3:IntKind.i64.wrap ((N:Int) + (p:Int)) = (M:Int):=by rw [IntWalk.i64_in _ (by omega)];omega
  have Hw2:=Lib.hid hw2;have Hw3:=Lib.hid hw3
  clear hpp hp hb z0 z1 hm hm2 hM hN ha hd hn hw2 hw3
  go_enter Tryz.func212,Tryz.ntmps212
  go_wp2_with fail
  refine (Hct.out _ ?_).mono ?_
  · (focus (repeat' (first | (with_reducible exact Below.refl _ _) | (with_reducible assumption) | (with_reducible refine Below.setCell ?_ ?_ _) | (with_reducible refine Below.alloc ?_ ?_ _) | (with_reducible refine below_drewN ?_ _) | (with_reducible refine Below.drew ?_) | (with_reducible exact Nat.le_refl _) | omega | (simp;done) | (simp;omega))))
  rintro e w' ⟨rfl,m,rfl⟩
  have hw2:=Hw2.out
  have hw3:=Hw3.out
  go_wp2_with fail
  go_region
  all_goals clear hw2 hw3
  all_goals go_wp2_with fail
  all_goals
    refine bodyPost_ret (v:=.agg #[.int .i64 N,.int .i64 M]) (by simp [results,Tryz.results212,go_sem]) rfl ⟨rfl,?_⟩
    (focus (repeat' (first | (with_reducible exact Below.refl _ _) | (with_reducible assumption) | (with_reducible refine Below.setCell ?_ ?_ _) | (with_reducible refine Below.alloc ?_ ?_ _) | (with_reducible refine below_drewN ?_ _) | (with_reducible refine Below.drew ?_) | (with_reducible exact Nat.le_refl _) | omega | (simp;done) | (simp;omega))))
set_option maxHeartbeats 400000 in
theorem rbiases_any (A:Option Addr) (sz:List Int) (k c:Nat) (w:World) (hA:Rd w A (nums .i64 sz)) (hR:RightSz sz) (hk:k + 1 < sz.length) (hc:sz.length ≤ c) :
    Calls Tryz.prog 250 #[.slice A sz.length c,.int .i64 k] w fun e w' => e = .returned (.agg #[.int .i64 (midN sz k:Int),.int .i64 (cntN sz (k + 1):Int)]) ∧ Below w.heap.size w w':=by
  have hl16:=hR.1.2
  have hwt:=fun w' (h:Below w.heap.size w w') => rweights_any A sz k c w' (hA.below h) hR hk hc
  have hct:=fun w' (h:Below w.heap.size w w') => rcount_any A sz (k + 2) c w' (hA.below h) hR (by omega) (by omega)
  simp only [show k + 2 - 1 = k + 1 by omega] at hct
  obtain ⟨b,o,rfl,p0⟩:=hA.num (show k < sz.length by omega)
  obtain ⟨n,hn⟩:∃ n,sz.length = n:=⟨_,rfl⟩
  obtain ⟨N,hN⟩:∃ N,cntN sz (k + 1) = N:=⟨_,rfl⟩
  obtain ⟨M,hM⟩:∃ M,midN sz k = M:=⟨_,rfl⟩
  rw [hN] at hct ⊢
  have hNN:cntN sz k = cntN sz k:=rfl
  clear hNN
  rw [hM] at hwt ⊢
  rw [hn] at hwt hk hc hl16 ⊢
  have Hwt:=Lib.hid hwt;have Hct:=Lib.hid hct
  clear hwt hct hA hR p0 hn hN hM
  have hi5:¬ ((n:Int) - 1 ≤ k):=by omega
  have hi7:(k:Int) + 2 ≤ c:=by omega
  have hi2:(0:Int) ≤ (k:Int) + 2:=by omega
  have hi3:((k:Int) + 2).toNat = k + 2:=by omega
  have hw0:IntKind.i64.wrap ((k:Int) + 2) = (k:Int) + 2:=IntWalk.i64_in _ (by omega)
  have hfd:=rrng_hi
  go_enter Tryz.func250,Tryz.ntmps250
  go_wp2_with fail
  have hSw:(fun _:World => True) (w.alloc (.cells #[.int .i64 0,.int .i64 0] 347)).drew:=trivial
  refine HA.g (fun _:World => True) ?_
  refine HA.t ?_ [0,1,4,5,6,7] hSw ?_
  refine HA.o 2 (fun K hK => ?_)
  go_simp
  refine (Hwt.out _ ?_).mono ?_
  · (focus (repeat' (first | (with_reducible exact Below.refl _ _) | (with_reducible assumption) | (with_reducible refine Below.setCell ?_ ?_ _) | (with_reducible refine Below.alloc ?_ ?_ _) | (with_reducible refine below_drewN ?_ _) | (with_reducible refine Below.drew ?_) | (with_reducible exact Nat.le_refl _) | omega | (simp;done) | (simp;omega))))
  rintro e w1 ⟨rfl,hb1⟩
  have hB1:Below w.heap.size w w1:=(((Below.refl _ w).alloc (Nat.le_refl _) _).drew).trans (hb1.mono (by simp))
  have hbx:=(hb1.block w.heap.size (by simp)).trans (heap_alloc_new w (.cells #[.int .i64 0,.int .i64 0] 347))
  obtain ⟨⟨k0,k1⟩,kf⟩:=bx2 hbx
  have l1:w.heap.size < w1.heap.size:=lt_of_block hbx
  have Hbx:=Lib.hid hbx
  clear hb1 hbx
  dsimp only
  refine hK.out _ _ trivial (fun hSw => ?_)
  clear hK K
  refine HA.t ?_ [3] hSw ?_
  refine HA.o 8 (fun K hK => ?_)
  go_simp
  refine (Hct.out _ hB1).mono ?_
  rintro e w2 ⟨rfl,m,rfl⟩
  dsimp only
  refine hK.out _ _ trivial (fun hSw => ?_)
  clear hK K
  refine HA.t ?_ [9] hSw ?_
  refine HA.o 10 (fun K hK => ?_)
  go_simp
  refine hK.out _ _ trivial (fun hSw => ?_)
  clear hK K
  refine HA.d ?_
  go_wp2_with fail
  have e1:=heap_setCell_same (w1.drewN m) w.heap.size 0 _ _ (.int .i64 M) Hbx.out
  have e2:=heap_setCell_same _ w.heap.size 1 _ _ (.int .i64 N) e1
  have hb9:Below w.heap.size w (((w1.drewN m).setCell ⟨w.heap.size,0,none⟩ (.int .i64 M)).setCell ⟨w.heap.size,1,none⟩ (.int .i64 N)):=by (focus (repeat' (first | (with_reducible exact Below.refl _ _) | (with_reducible assumption) | (with_reducible refine Below.setCell ?_ ?_ _) | (with_reducible refine Below.alloc ?_ ?_ _) | (with_reducible refine below_drewN ?_ _) | (with_reducible refine Below.drew ?_) | (with_reducible exact Nat.le_refl _) | omega | (simp;done) | (simp;omega))))
  obtain ⟨W9,hW9⟩:∃ W9,W9 = ((w1.drewN m).setCell ⟨w.heap.size,0,none⟩ (.int .i64 M)).setCell ⟨w.heap.size,1,none⟩ (.int .i64 N):=⟨_,rfl⟩
  rw [← hW9] at e2 hb9 ⊢
  have e3:W9.heap[w.heap.size]? = some (.cells #[.int .i64 M,.int .i64 N] 347 (0,0)):=e2
  obtain ⟨⟨x0,x1⟩,xf⟩:=bx2 e3
  exact bodyPost_ret (v:=.agg #[.int .i64 M,.int .i64 N]) (by simp [results,Tryz.results250,go_sem,x0,x1]) rfl ⟨rfl,hb9⟩
end Go.Proofs.YthamijnggdjaoaaGreatDoor
