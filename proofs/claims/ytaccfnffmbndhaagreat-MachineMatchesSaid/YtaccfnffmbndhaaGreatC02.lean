/- No condition. -/
import Derived.Test.YtaccfnffmbndhaaGreatC00
import Derived.Test.YtaccfnffmbndhaaGreatC01
import Derived.StillTail
import Derived.OrdersHeld
import Derived.Deep.RegionHeld
import Derived.Test.YtaccfnffmbndhaaGreatProg
import Derived.WalkSpells
import Derived.BigQuiet
import Derived.Deep.QuietTactic
import Derived.RegionTactic
set_option linter.unusedSimpArgs false
set_option linter.unusedVariables false
set_option maxRecDepth 100000
set_option maxHeartbeats 4000000
namespace Go.Proofs.YtaccfnffmbndhaaGreat
theorem wK (m k:Nat) (i:0<k):(m%k+1<k→(m+1)/k=m/k∧(m+1)%k=m%k+1)∧(¬m%k+1<k→(m+1)/k=m/k+1∧(m+1)%k=0):=by
 have h1:=Nat.div_add_mod m k
 have j:=Nat.mod_lt m i
 constructor
 ·intro h
  have e:m+1=(m%k+1)+k*(m/k):=by omega
  rw [e,Nat.add_mul_div_left _ _ i,Nat.add_mul_mod_self_left,Nat.div_eq_of_lt h,Nat.mod_eq_of_lt h]
  omega
 ·intro h
  have e:m+1=k*(m/k+1):=by rw [Nat.mul_succ];omega
  rw [e,Nat.mul_div_cancel_left _ i,Nat.mul_mod_right]
  exact ⟨rfl,rfl⟩
def szE (k m i:Nat):Nat:=m/k+if i<m%k then 1 else 0
theorem Dh {k:Nat} (i:Nat):szE k 0 i=0:=by simp [szE]
theorem Di {k m i:Nat} (o:i<k):szE k (m+1) i=szE k m i+if i=m%k then 1 else 0:=by
 obtain ⟨h1,j⟩:=wK m k (by omega)
 have hm:=Nat.mod_lt m (show 0<k by omega)
 unfold szE
 by_cases h:m%k+1<k
 ·rw [(h1 h).1,(h1 h).2]
  split<;>split<;>split<;>omega
 ·rw [(j h).1,(j h).2]
  split<;>split<;>split<;>omega
theorem nU (n k i:Nat):bdN n k (i+1)=bdN n k i+szE k n i:=by
 unfold bdN szE
 rw [Kx]
 split<;>omega
theorem H9 (n k:Nat) (i:0<k):bdN n k k=n:=by
 unfold bdN
 have h1:=Nat.div_add_mod n k
 have j:=Nat.mod_lt n i
 omega
theorem nV (n k:Nat) {i j:Nat} (h:i≤j):bdN n k i≤bdN n k j:=by
 unfold bdN
 have:=KH (n/k) h
 omega
theorem fD (n k i:Nat) (j:0<k) (h:i≤k):bdN n k i≤n:=by
 have:=nV n k h
 rwa [H9 n k j] at this
theorem rx (n k m:Nat):(List.range (m+1)).map (fun i=>(bdN n k i,bdN n k (i+1)))=(List.range m).map (fun i=>(bdN n k i,bdN n k (i+1)))++[(bdN n k m,bdN n k (m+1))]:=by
 rw [Kw,List.map_append];rfl
end Go.Proofs.YtaccfnffmbndhaaGreat
namespace Go.Proofs.YtaccfnffmbndhaaGreat
open Go.RowKit
section
variable {P:Program} {ops:Array Oper} {Q:Exit→Act→World→Prop} {md:Region.Mode} {S:World→Prop} {n:Nat}
def dE (P:Program) (md:Region.Mode) (ops:Array Oper) (Q:Exit→Act→World→Prop) (S:World→Prop) (n:Nat):Nat→Array Bool→Act→World→Prop
 | 0,listed,a,w=>Region.ready md ops listed=[]∧Q .normal a w
 | fuel+1,listed,a,w=>
  (Region.ready md ops listed=[]→Q .normal a w)∧
  ∀i∈Region.ready md ops listed,wpOp P ops Q i (fun o j=>((listed.setIfInBounds i true).getD n true=false→S j)∧dE P md ops Q S n fuel (listed.setIfInBounds i true) o j) a w
theorem mJ:∀(j:Nat) (o:Array Bool) (a:Act) (w:World),dE P md ops Q S n j o a w→wpAny P md ops Q j o a w
 | 0,_,_,_,h=>h
 | j+1,_,_,_,h=>⟨h.1,fun i v=>wpOp_mono (fun u q p=>mJ j _ u q p.2) (h.2 i v)⟩
theorem DT {o:Array Bool} {i j:Nat} (hB:Region.waitsFor md ops n i=true) (B:i∈Region.ready md ops o) (A:j∈Region.ready md ops o):j≠n:=fun v=>by
 subst v
 obtain ⟨_,H,u,p⟩:=mem_ready.1 A
 obtain ⟨D,x,e,he,C,q⟩:=Region.waitsFor_spec hB
 have:D=H:=Option.some.inj (x.symm.trans u)
 subst this
 have y:=p e he C
 rw [q,getD_both (mem_ready.1 B).1] at y
 cases y
theorem tM {i:Nat} {I:Oper} {v:Value} (hB:Region.waitsFor md ops n i=true) (a2:i≠n) (hi:ops[i]?=some I) (C:∀(j:Nat) (o:Oper) O b,ops[j]?=some o→o.op≠.select O b)
  (hQ:∀c a w,Q (.panic c) (a.put I.dst v) w→Q (.panic c) a w):
  ∀(u:Nat) (p:Array Bool) (a:Act) (w:World),
   (∀j J,ops[j]?=some J→j≠i→p.getD j true=false→(∀e∈J.after,Region.binds md e=true→e.on≠i)→I.apart ops J=true)→
   i∈Region.ready md ops p→YieldsIf P ops S I v a→p.getD n true=false→S w→
   dE P md ops Q S n u (p.setIfInBounds i true) (a.put I.dst v) w→dE P md ops Q S n (u+1) p a w:=by
 intro u
 induction u with
 | zero=>
  intro p a w _ hr Y hn X H
  refine ⟨fun h=>(by rw [h] at hr;cases hr),fun j V=>?_⟩
  by_cases q:j=i
  ·subst q;exact Y.wpOp hi X ⟨fun _=>X,H⟩
  ·have:=ready_mono V q
   rw [H.1] at this
   cases this
 | succ u ih=>
  intro p a w y hr Y hn X H
  refine ⟨fun h=>(by rw [h] at hr;cases hr),fun j V=>?_⟩
  by_cases q:j=i
  ·subst q;exact Y.wpOp hi X ⟨fun _=>X,H⟩
  ·have h1:=H.2 j (ready_mono V q)
   have R:=DT hB hr V
   have x:(p.setIfInBounds j true).getD n true=false→((p.setIfInBounds i true).setIfInBounds j true).getD n true=false:=fun h=>by
    rw [Array.setIfInBounds_comm _ _ (Ne.symm q),getD_set_ne true a2];exact h
   obtain ⟨B,J,D,U⟩:=mem_ready.1 V
   have N:∀e∈J.after,Region.binds md e=true→e.on≠i:=fun e he hb heq=>by
    have h1:=U e he hb
    rw [heq,getD_both (mem_ready.1 hr).1] at h1
    cases h1
   have h2:=wpOp_putIf D (y j J D q B N) (fun O b=>C i I O b hi) (fun O b=>C j J O b D) hQ Y h1
   have A:∀k ok,ops[k]?=some ok→k≠i→(p.setIfInBounds j true).getD k true=false→
     (∀e∈ok.after,Region.binds md e=true→e.on≠i)→I.apart ops ok=true:=fun k ok hk a1 T a0=>by
    refine y k ok hk a1 ?_ a0
    by_cases L:j=k
    ·subst L;exact B
    ·rw [getD_set_ne true L] at T;exact T
   refine wpOp_mono (fun a' w' Z=>⟨(fun h=>Z.2.1 (x h)),ih (p.setIfInBounds j true) a' w' A (ready_mono hr (Ne.symm q)) Z.1 (by rw [getD_set_ne true R];exact hn) (Z.2.1 (x (by rw [getD_set_ne true R];exact hn))) ?_⟩) h2
   rw [Array.setIfInBounds_comm _ _ q]
   exact Z.2.2
theorem rT {i:Nat} {J:Oper} {v:Value} (a1:i≠n) (hi:ops[i]?=some J) (D:∀(j:Nat) (o:Oper) R b,ops[j]?=some o→o.op≠.select R b)
  (hQ:∀c a w,Q (.panic c) (a.put J.dst v) w→Q (.panic c) a w):
  ∀(u:Nat) (p:Array Bool) (a:Act) (w:World),
   (∀j L,ops[j]?=some L→j≠i→p.getD j true=false→(∀e∈L.after,Region.binds md e=true→e.on≠i)→J.apart ops L=true)→
   i∈Region.ready md ops p→YieldsIf P ops (fun _=>True) J v a→(p.getD n true=false→S w)→
   dE P md ops Q S n u (p.setIfInBounds i true) (a.put J.dst v) w→dE P md ops Q S n (u+1) p a w:=by
 intro u
 induction u with
 | zero=>
  intro p a w _ hr V hS H
  refine ⟨fun h=>(by rw [h] at hr;cases hr),fun j Y=>?_⟩
  by_cases q:j=i
  ·subst q;exact V.wpOp hi trivial ⟨fun h=>hS (by
    by_cases A:j=n
    ·subst A;exact (mem_ready.1 hr).1
    ·rwa [getD_set_ne true A] at h),H⟩
  ·have:=ready_mono Y q
   rw [H.1] at this
   cases this
 | succ u ih=>
  intro p a w y hr V hS H
  refine ⟨fun h=>(by rw [h] at hr;cases hr),fun j Y=>?_⟩
  by_cases q:j=i
  ·subst q;exact V.wpOp hi trivial ⟨fun h=>hS (by
    by_cases A:j=n
    ·subst A;exact (mem_ready.1 hr).1
    ·rwa [getD_set_ne true A] at h),H⟩
  ·have h1:=H.2 j (ready_mono Y q)
   have x:(p.setIfInBounds j true).getD n true=false→((p.setIfInBounds i true).setIfInBounds j true).getD n true=false:=fun h=>by
    rw [Array.setIfInBounds_comm _ _ (Ne.symm q),getD_set_ne true a1];exact h
   obtain ⟨C,L,I,U⟩:=mem_ready.1 Y
   have O:∀e∈L.after,Region.binds md e=true→e.on≠i:=fun e he hb heq=>by
    have h1:=U e he hb
    rw [heq,getD_both (mem_ready.1 hr).1] at h1
    cases h1
   have h2:=wpOp_putIf I (y j L I q C O) (fun R b=>D i J R b hi) (fun R b=>D j L R b I) hQ V h1
   have B:∀k ok,ops[k]?=some ok→k≠i→(p.setIfInBounds j true).getD k true=false→
     (∀e∈ok.after,Region.binds md e=true→e.on≠i)→J.apart ops ok=true:=fun k ok hk a0 T Z=>by
    refine y k ok hk a0 ?_ Z
    by_cases N:j=k
    ·subst N;exact C
    ·rw [getD_set_ne true N] at T;exact T
   refine wpOp_mono (fun a' w' X=>⟨(fun h=>X.2.1 (x h)),ih (p.setIfInBounds j true) a' w' B (ready_mono hr (Ne.symm q)) X.1 (fun h=>X.2.1 (x h)) ?_⟩) h2
   rw [Array.setIfInBounds_comm _ _ q]
   exact X.2.2
theorem pB {i:Nat} {p:Oper} {v:Value} {o:Nat} {j:Array Bool} {a:Act} {w:World} (u:ops[i]?=some p) (hB:Region.waitsFor md ops n i=true) (q:i≠n) (hn:j.getD n true=false)
  (hs:Region.noSelect ops=true) (x:Region.free md ops j i=true) (hr:(Region.ready md ops j).contains i=true)
  (B:∀c a w,Q (.panic c) (a.put p.dst v) w→Q (.panic c) a w) (y:YieldsIf P ops S p v a) (A:S w)
  (h:dE P md ops Q S n o (j.setIfInBounds i true) (a.put p.dst v) w):dE P md ops Q S n (o+1) j a w:=
 tM hB q u (Region.noSelect_spec hs) B o j a w (Region.free_spec u x) (by simpa using hr) y hn A h
theorem ng {i:Nat} {p:Oper} {v:Value} {o:Nat} {j:Array Bool} {a:Act} {w:World} (u:ops[i]?=some p) (q:i≠n)
  (hs:Region.noSelect ops=true) (x:Region.free md ops j i=true) (hr:(Region.ready md ops j).contains i=true)
  (y:∀c a w,Q (.panic c) (a.put p.dst v) w→Q (.panic c) a w) (A:YieldsIf P ops (fun _=>True) p v a) (B:S w)
  (h:dE P md ops Q S n o (j.setIfInBounds i true) (a.put p.dst v) w):dE P md ops Q S n (o+1) j a w:=
 rT q u (Region.noSelect_spec hs) y o j a w (Region.free_spec u x) (by simpa using hr) A (fun _=>B) h
theorem wX {q:Oper} {v:Value} {p:Nat} {j:Array Bool} {a:Act} {w:World} (i:Nat) (A:S w) (h:dE P .any ops Q S n p (j.setIfInBounds i true) (a.put q.dst v) w) (B:ops[i]?=some q:=by rfl) (hB:Region.waitsFor .any ops n i=true:=by kernel_rfl) (hni:i≠n:=by decide) (hn:j.getD n true=false:=by kernel_rfl)
  (hs:Region.noSelect ops=true:=by kernel_rfl) (hf:Region.free .any ops j i=true:=by kernel_rfl) (hr:(Region.ready .any ops j).contains i=true:=by kernel_rfl) (hQ:∀c a w,Q (.panic c) (a.put q.dst v) w→Q (.panic c) a w:=by exact fun _ _ _ h=>h)
  (hy:YieldsIf P ops S q v a:=by (refine Or.inl ⟨by rfl,?_⟩;intro C o;(try dsimp only at o);(first | obtain ⟨u,s2,x,y,D⟩:=o | obtain ⟨u,s2,x,y⟩:=o | obtain ⟨u,s2,x⟩:=o | obtain ⟨u,s2⟩:=o | skip);go_simp;(try with_reducible rfl))):dE P .any ops Q S n (p+1) j a w:=pB B hB hni hn hs hf hr hQ hy A h
theorem wX0 {p:Oper} {v:Value} {o:Nat} {j:Array Bool} {a:Act} {w:World} (i:Nat) (q:S w) (h:dE P .any ops Q S n o (j.setIfInBounds i true) (a.put p.dst v) w) (u:ops[i]?=some p:=by rfl) (hni:i≠n:=by decide)
  (hs:Region.noSelect ops=true:=by kernel_rfl) (hf:Region.free .any ops j i=true:=by kernel_rfl) (hr:(Region.ready .any ops j).contains i=true:=by kernel_rfl) (hQ:∀c a w,Q (.panic c) (a.put p.dst v) w→Q (.panic c) a w:=by exact fun _ _ _ h=>h)
  (hy:YieldsIf P ops (fun _=>True) p v a:=by (refine Or.inl ⟨by rfl,?_⟩;intro x _;go_simp;(try with_reducible rfl))):dE P .any ops Q S n (o+1) j a w:=ng u hni hs hf hr hQ hy q h
def aL (P:Program) (md:Region.Mode) (ops:Array Oper) (Q:Exit→Act→World→Prop) (S:World→Prop) (n:Nat) (o:Nat) (j:Array Bool) (a:Act) (w:World) (rs:List Nat):Prop:=
 ∀i∈rs,wpOp P ops Q i (fun q p=>((j.setIfInBounds i true).getD n true=false→S p)∧dE P md ops Q S n o (j.setIfInBounds i true) q p) a w
theorem aL.nil {j:Nat} {i:Array Bool} {a:Act} {w:World}:aL P md ops Q S n j i a w []:=fun _ h=>by cases h
theorem aL.cons {q:Nat} {p:Array Bool} {a:Act} {w:World} {i:Nat} {o:Oper} {rs:List Nat} (A:ops[i]?=some o)
  (h:∀u:Act→World→Prop,Shut (∀a w,S w→(S w→dE P md ops Q S n q (p.setIfInBounds i true) a w)→u a w)→if Region.wanted o (yielded ops a.tmps)=true then Oper.wp P o a w u Q else u (a.put o.dst undef) w)
  (hs:aL P md ops Q S n q p a w rs):aL P md ops Q S n q p a w (i::rs):=fun j v=>by
 rcases List.mem_cons.1 v with rfl | v
 ·exact wpOp_step A (fun u B=>h u (fun a w x y=>B a w ⟨fun _=>x,y x⟩))
 ·exact hs j v
theorem cn {rs:List Nat} {j:Nat} {i:Array Bool} {a:Act} {w:World} (hr:Region.ready md ops i=rs) (o:rs≠[])
  (h:aL P md ops Q S n j i a w rs):dE P md ops Q S n (j+1) i a w:=⟨fun p=>absurd (hr▸p) o,hr▸h⟩
theorem qm:∀(l:List Oper) (k:Nat) (p:Array Bool) (a:Act) (w:World),(k≠n→p.getD n true=true)→(∀j,l[j]?=ops[k+j]?)→
  Region.seqB md ops l.length k p=true→wpList P ops Q l a w→dE P md ops Q S n l.length p a w
 | [],_,_,_,_,_,_,hB,h=>⟨by simpa [Region.seqB] using hB,h⟩
 | o::l,k,p,a,w,hk,hl,hB,h=>by
  have C:ops[k]?=some o:=by simpa using (hl 0).symm
  simp only [List.length_cons,Region.seqB,Bool.and_eq_true,KF] at hB
  have q:(p.setIfInBounds k true).getD n true=true:=by
   by_cases u:k=n
   ·subst u
    rcases JR k p.size with v | v
    ·simp [v]
    ·simp [Nat.not_lt.2 v]
   ·rw [getD_set_ne true u];exact hk u
  refine ⟨fun h1=>(by rw [hB.1] at h1;cases h1),fun i y=>?_⟩
  rw [hB.1] at y
  have x:i=k:=by simpa using y
  subst x
  have hw:wpOp P ops Q i (wpList P ops Q l) a w:=by unfold wpOp;simp only [C];exact h
  exact wpOp_mono (fun B A v=>⟨fun h=>(by rw [q] at h;cases h),qm l (i+1) _ B A (fun _=>q) (fun j=>by have:=hl (j+1);simpa [Ky,Nat.add_comm 1 j] using this) hB.2 v⟩) hw
theorem dV {l:List Oper} {o:Nat} {i:Array Bool} {a:Act} {w:World} (p:o=(l.drop n).length) (hB:Region.seqB md l.toArray (l.drop n).length n i=true) (h:wpList P l.toArray Q (l.drop n) a w):
  dE P md l.toArray Q S n o i a w:=by
 subst p
 exact qm (l.drop n) n i a w (fun h=>absurd rfl h) (fun j=>by simp [List.getElem?_drop]) hB h
theorem bF {t e:TypeId} {z:Value} {size i:Nat} (T:dq P t e z size i) {w:World} {o:Oper} {B:Array Value} {a:Act} {K:Act→World→Prop} {E:Prop}
  (s x:Operand) (j:o.guard=none) (C:o.op=.call {callee:=.builtin .append,args:=#[s,x],argTypes:=#[t,t]})
  (base:Nat) (v:Value) (n:Nat) (xs:List Value) (hs:a.eval s=v) (hown:w.ownsRow base e size v n xs)
  (A:Option Addr) (m c:Nat) (us:List Value) (hx:a.eval x=.slice A m c) (hr:Rd w A us) (hus:us.length=m*size) (h1:∀u∈us,u.oneCell'=true)
  (hb:(n+m)*i≤140737488355328) (h63:n+m≤maxLen) (hbase:base≤w.heap.size)
  (h:∀y q p,p.ownsRow base e size (.slice y (n+m) q) (n+m) (xs++us)→Below base w p→w.grownBy p v.ownBlock→((Value.slice y (n+m) q).ownBlock=v.ownBlock∨(Value.slice y (n+m) q).ownBlock=some w.heap.size)→K (a.put o.dst (.slice y (n+m) q)) p):
  if Region.wanted o (yielded ops B)=true then Oper.wp P o a w K Q else E:=by
 rw [if_pos (by simp [Region.wanted,j])]
 have:=ij (ops:=ops) (K:=K) (Q:=Q) (E:=E) T j s x C base v n xs hs hown A m c us hx hr hus h1 hb h63 hbase h
 rwa [if_pos (by simp [Region.wanted,j])] at this
theorem jq (n:Nat) (S:World→Prop) {id:Nat} {a:Act} {w:World} (hm:P.follows .mixedOrders=true)
  (h:dE P .any ops Q S n ops.size (Array.replicate ops.size false) a w.drew):(Code.region id ops true).wp P Q a w:=
 wp_region_any hm (mJ _ _ _ _ h)
end
end Go.Proofs.YtaccfnffmbndhaaGreat
namespace Go.Proofs.YtaccfnffmbndhaaGreat
section
variable {P:Program} {ops:Array Oper} {Q:Exit→Act→World→Prop} {S:World→Prop} {n:Nat}
def unl (l:Array Bool):Nat:=l.toList.count false
theorem FT {l:Array Bool} {i:Nat} (h:l.getD i true=false):unl l=unl (l.setIfInBounds i true)+1:=by
 have j:i<l.size:=by
  rcases JR i l.size with o | o
  ·exact o
  ·simp [Array.getElem?_eq_none o] at h
 have hl:l.toList[i]'(by simpa using j)=false:=by simpa [j] using h
 have p:List.count false (l.toList.set i true)=List.count false l.toList-1:=by
  rw [List.count_set (by simpa using j)]
  simp [hl]
 have h1:0<List.count false l.toList:=List.count_pos_iff.2 (by rw [←hl];exact List.getElem_mem _)
 unfold unl
 rw [Array.toList_setIfInBounds,p]
 omega
def bE (m:Nat) (L:List Nat):Array Bool:=L.foldr (fun i l=>l.setIfInBounds i true) (Array.replicate m false)
theorem pQ (m:Nat):∀L:List Nat,(bE m L).size=m
 | []=>by simp [bE]
 | a::L=>by simp only [bE,List.foldr_cons,Array.size_setIfInBounds];exact pQ m L
theorem jh (m i:Nat) (d:Bool):∀L:List Nat,(bE m L).getD i d=if i<m then L.contains i else d
 | []=>by simp only [bE,List.foldr_nil,List.contains_nil];split<;>simp_all [Array.getElem?_replicate]
 | a::L=>by
  have o:=jh m i d L
  have hs:=pQ m L
  show ((bE m L).setIfInBounds a true).getD i d=_
  by_cases h:i<m
  ·rw [if_pos h] at o ⊢
   by_cases j:a=i
   ·subst j;simp [hs,h]
   ·rw [getD_set_ne d j,o];simp [Ne.symm j]
  ·rw [if_neg h] at o ⊢
   by_cases j:a=i
   ·subst j;simp [hs,h]
   ·rw [getD_set_ne d j,o]
def cM (ops:Array Oper) (L:List Nat):List Nat:=
 (List.range ops.size).filter fun i=> !L.contains i&&((ops[i]?).map (·.after.all fun e=> !Region.binds .any e||(L.contains e.on&&decide (e.on<ops.size)))).getD false
theorem dt (L:List Nat):Region.ready .any ops (bE ops.size L)=cM ops L:=by
 unfold Region.ready cM
 refine List.filter_congr fun i j=>?_
 rw [jh,if_pos (List.mem_range.1 j)]
 congr 3
 funext o
 congr 1
 funext e
 rw [jh]
 by_cases h:e.on<ops.size<;>simp [h]
def wB (ops:Array Oper) (L:List Nat) (i:Nat):Bool:=
 match ops[i]? with
 | none=>false
 | some oi=>(List.range ops.size).all fun j=>j==i||L.contains j||match ops[j]? with
   | some oj=>oj.after.any (fun e=>Region.binds .any e&&e.on==i)||oi.apart ops oj
   | none=>true
theorem rp (L:List Nat) (i:Nat):Region.free .any ops (bE ops.size L) i=wB ops L i:=by
 unfold Region.free wB
 cases ops[i]? with
 | none=>rfl
 | some oi=>
  dsimp only
  rw [Bool.eq_iff_iff,List.all_eq_true,List.all_eq_true]
  refine forall_congr' fun j=>forall_congr' fun o=>?_
  rw [jh,if_pos (List.mem_range.1 o)]
  exact Iff.rfl
def AP (ops:Array Oper):Nat→Nat→List Nat→Bool
 | 0,_,L=>(cM ops L).isEmpty
 | g+1,k,L=>decide (cM ops L=[k])&&AP ops g (k+1) (k::L)
theorem zx:∀(g k:Nat) (L:List Nat),Region.seqB .any ops g k (bE ops.size L)=AP ops g k L
 | 0,k,L=>by simp only [Region.seqB,AP,dt]
 | g+1,k,L=>by
  simp only [Region.seqB,AP,dt]
  rw [←zx g (k+1) (k::L)];rfl
inductive Ys (P:Program) (ops:Array Oper) (S:World→Prop):List Nat→Act→Act→Prop
 | nil {a:Act}:Ys P ops S [] a a
 | cons {i:Nat} {is:List Nat} {o:Oper} {v:Value} {a a':Act} (ho:ops[i]?=some o) (hy:YieldsIf P ops S o v a) (ht:Ys P ops S is (a.put o.dst v) a'):Ys P ops S (i::is) a a'
def j4 (ops:Array Oper):List Nat→List Nat→Bool
 | _,[]=>true
 | L,i::is=>(wB ops L i&&(cM ops L).contains i)&&j4 ops (i::L) is
def ou (ops:Array Oper) (n:Nat):List Nat→List Nat→Bool
 | _,[]=>true
 | L,i::is=>(Region.waitsFor .any ops n i&&decide (i≠n)&&(decide (n<ops.size)&& !L.contains n)&&wB ops L i&&(cM ops L).contains i)&&ou ops n (i::L) is
structure HA (P:Program) (ops:Array Oper) (Q:Exit→Act→World→Prop) (S:World→Prop) (L:List Nat) (a:Act) (w:World):Prop where
 out:wpAnyH P .any ops Q S (unl (bE ops.size L)) (bE ops.size L) a w
structure XA (P:Program) (ops:Array Oper) (Q:Exit→Act→World→Prop) (S:World→Prop) (n:Nat) (L:List Nat) (a:Act) (w:World):Prop where
 out:dE P .any ops Q S n (unl (bE ops.size L)) (bE ops.size L) a w
theorem j2 (m:Nat):unl (bE m [])=m:=by simp [unl,bE,List.count_replicate]
theorem HA.go {id:Nat} {a:Act} {w:World} (S:World→Prop) (hm:P.follows .mixedOrders=true) (h:HA P ops Q S [] a w.drew):(Code.region id ops true).wp P Q a w:=by
 refine wp_region_held (S:=S) hm ?_
 have i:=h.out
 rw [j2] at i
 exact i
theorem XA.go {id:Nat} {a:Act} {w:World} (n:Nat) (S:World→Prop) (hm:P.follows .mixedOrders=true) (h:XA P ops Q S n [] a w.drew):(Code.region id ops true).wp P Q a w:=by
 refine jq n S hm ?_
 have i:=h.out
 rw [j2] at i
 exact i
theorem cQ {L:List Nat} {i:Nat} (h:(cM ops L).contains i=true):unl (bE ops.size L)=unl (bE ops.size (i::L))+1:=
 FT (mem_ready.1 (show i∈Region.ready .any ops (bE ops.size L) by rw [dt];simpa using h)).1
theorem HA.takes (hs:Region.noSelect ops=true) (q:∀c a w d v,Q (.panic c) (Act.put a d v) w→Q (.panic c) a w) {w:World} (p:S w):
  ∀(j:List Nat) {L:List Nat} {a o:Act},j4 ops L j=true→Ys P ops S j a o→HA P ops Q S (j.reverse++L) o w→HA P ops Q S L a w
 | [],_,_,_,_,.nil,h=>h
 | i::j,L,a,o,hc,.cons ho hy ht,h=>by
  simp only [j4,Bool.and_eq_true] at hc
  have u:=HA.takes hs q p j (L:=i::L) hc.2 ht (by simpa using h)
  refine ⟨?_⟩
  rw [cQ hc.1.2]
  exact wpAnyH_take ho hs (by rw [rp];exact hc.1.1) (by rw [dt];exact hc.1.2) (fun c a w=>q c a w _ _) hy p u.out
theorem XA.takes (hs:Region.noSelect ops=true) (q:∀c a w d v,Q (.panic c) (Act.put a d v) w→Q (.panic c) a w) {w:World} (p:S w):
  ∀(j:List Nat) {L:List Nat} {a o:Act},ou ops n L j=true→Ys P ops S j a o→XA P ops Q S n (j.reverse++L) o w→XA P ops Q S n L a w
 | [],_,_,_,_,.nil,h=>h
 | i::j,L,a,o,hc,.cons ho hy ht,h=>by
  simp only [ou,Bool.and_eq_true,KF,Bool.not_eq_true'] at hc
  have u:=XA.takes hs q p j (L:=i::L) hc.2 ht (by simpa using h)
  refine ⟨?_⟩
  rw [cQ hc.1.2]
  exact pB ho hc.1.1.1.1.1 hc.1.1.1.1.2 (by rw [jh,if_pos hc.1.1.1.2.1,hc.1.1.1.2.2]) hs (by rw [rp];exact hc.1.1.2) (by rw [dt];exact hc.1.2) (fun c a w=>q c a w _ _) hy p u.out
def It (ops:Array Oper) (n:Nat):List Nat→List Nat→Bool
 | _,[]=>true
 | L,i::is=>(decide (i≠n)&&wB ops L i&&(cM ops L).contains i)&&It ops n (i::L) is
theorem XA.takes0 (hs:Region.noSelect ops=true) (p:∀c a w d v,Q (.panic c) (Act.put a d v) w→Q (.panic c) a w) {w:World} (q:S w):
  ∀(j:List Nat) {L:List Nat} {a o:Act},It ops n L j=true→Ys P ops (fun _=>True) j a o→XA P ops Q S n (j.reverse++L) o w→XA P ops Q S n L a w
 | [],_,_,_,_,.nil,h=>h
 | i::j,L,a,o,hc,.cons ho hy ht,h=>by
  simp only [It,Bool.and_eq_true,KF] at hc
  have u:=XA.takes0 hs p q j (L:=i::L) hc.2 ht (by simpa using h)
  refine ⟨?_⟩
  rw [cQ hc.1.2]
  exact ng ho hc.1.1.1 hs (by rw [rp];exact hc.1.1.2) (by rw [dt];exact hc.1.2) (fun c a w=>p c a w _ _) hy q u.out
theorem sF {L:List Nat} {i:Nat} (hr:cM ops L=[i]):unl (bE ops.size L)=unl (bE ops.size (i::L))+1:=
 cQ (by rw [hr];simp)
theorem HA.one {L:List Nat} {a:Act} {w:World} (i:Nat) {o:Oper} (q:ops[i]?=some o) (hr:cM ops L=[i])
  (h:∀j:Act→World→Prop,Shut (∀a w,S w→(S w→HA P ops Q S (i::L) a w)→j a w)→if Region.wanted o (yielded ops a.tmps)=true then Oper.wp P o a w j Q else j (a.put o.dst undef) w):HA P ops Q S L a w:=by
 refine ⟨?_⟩
 rw [sF hr]
 exact wpAnyH_ready (by rw [dt];exact hr) (by simp) (AllReadyH.cons q (fun j v=>h j fun a w u hw=>v.out a w u fun p=>(hw p).out) AllReadyH.nil)
theorem XA.one {L:List Nat} {a:Act} {w:World} (i:Nat) {o:Oper} (q:ops[i]?=some o) (hr:cM ops L=[i])
  (h:∀j:Act→World→Prop,Shut (∀a w,S w→(S w→XA P ops Q S n (i::L) a w)→j a w)→if Region.wanted o (yielded ops a.tmps)=true then Oper.wp P o a w j Q else j (a.put o.dst undef) w):XA P ops Q S n L a w:=by
 refine ⟨?_⟩
 rw [sF hr]
 exact cn (by rw [dt];exact hr) (by simp) (aL.cons q (fun j v=>h j fun a w u hw=>v.out a w u fun p=>(hw p).out) aL.nil)
theorem HA.call {L:List Nat} {a:Act} {w:World} (i:Nat) {f:FuncId} {args:Array Value} {R:Ending→World→Prop} (hc:Calls P f args w R) {o:Oper} (p:ops[i]?=some o) (hr:cM ops L=[i])
  (hw:Region.wanted o (yielded ops a.tmps)=true) (he:(execOp a.eval o).run P w=.ok (.enter f args) w)
  (k:∀e j,R e j→∃v,e=.returned v∧S j∧(S j→HA P ops Q S (i::L) (a.put o.dst v) j)):HA P ops Q S L a w:=by
 refine HA.one i p hr fun x u=>?_
 rw [if_pos hw]
 unfold Oper.wp
 rw [he]
 refine hc.mono fun e j hR=>?_
 obtain ⟨v,rfl,q,h⟩:=k e j hR
 exact u.out _ _ q h
theorem XA.call {L:List Nat} {a:Act} {w:World} (i:Nat) {f:FuncId} {args:Array Value} {R:Ending→World→Prop} (hc:Calls P f args w R) {o:Oper} (p:ops[i]?=some o) (hr:cM ops L=[i])
  (hw:Region.wanted o (yielded ops a.tmps)=true) (he:(execOp a.eval o).run P w=.ok (.enter f args) w)
  (k:∀e j,R e j→∃v,e=.returned v∧S j∧(S j→XA P ops Q S n (i::L) (a.put o.dst v) j)):XA P ops Q S n L a w:=by
 refine XA.one i p hr fun x u=>?_
 rw [if_pos hw]
 unfold Oper.wp
 rw [he]
 refine hc.mono fun e j hR=>?_
 obtain ⟨v,rfl,q,h⟩:=k e j hR
 exact u.out _ _ q h
theorem HA.done {L:List Nat} {a:Act} {w:World} (hr:cM ops L=[]) (h:Q .normal a w):HA P ops Q S L a w:=⟨wpAnyH_done (by rw [dt];exact hr) h _⟩
theorem XA.tail {l:List Oper} {L:List Nat} {a:Act} {w:World} (i:unl (bE l.toArray.size L)=(l.drop n).length) (hB:AP l.toArray (l.drop n).length n L=true) (h:wpList P l.toArray Q (l.drop n) a w):
  XA P l.toArray Q S n L a w:=by
 refine ⟨?_⟩
 exact dV i (by rw [zx];exact hB) h
theorem HA.g {id:Nat} {a:Act} {w:World} (S:World→Prop) (h:HA P ops Q S [] a w.drew) (hm:P.follows .mixedOrders=true:=by decide +kernel):(Code.region id ops true).wp P Q a w:=HA.go S hm h
theorem XA.g {id:Nat} {a:Act} {w:World} (n:Nat) (S:World→Prop) (h:XA P ops Q S n [] a w.drew) (hm:P.follows .mixedOrders=true:=by decide +kernel):(Code.region id ops true).wp P Q a w:=XA.go n S hm h
theorem HA.t (o:Act) (j:List Nat) {L:List Nat} {a:Act} {w:World} (p:S w) (h:HA P ops Q S (j.reverse++L) o w)
  (hs:Region.noSelect ops=true:=by decide +kernel) (hQ:∀c a w d v,Q (.panic c) (Act.put a d v) w→Q (.panic c) a w:=by (intro _ _ _ d _ h;cases d<;>exact h)) (hc:j4 ops L j=true:=by decide +kernel)
  (hy:Ys P ops S j a o:=by (try simp only [JT,JU,JV,Act.put,JW,JX,J0]);(repeat ((first | (refine Ys.cons (v:=?_) (by (simp only [J1,Ka,Kb];rfl)) (Or.inl ⟨by rfl,?_⟩) ?_;rotate_left;(· (intro q i;(try dsimp only at i);(try (have u:=jM i.1));go_simp;(try with_reducible rfl)))) | refine Ys.cons (v:=undef) (by (simp only [J1,Ka,Kb];rfl)) (Or.inr ⟨by rfl,rfl⟩) ?_);simp only [JT,JU,JV,Act.put,JW,JX,J0]));exact Ys.nil):HA P ops Q S L a w:=HA.takes hs hQ p j hc hy h
theorem XA.t (o:Act) (j:List Nat) {L:List Nat} {a:Act} {w:World} (p:S w) (h:XA P ops Q S n (j.reverse++L) o w)
  (hs:Region.noSelect ops=true:=by decide +kernel) (hQ:∀c a w d v,Q (.panic c) (Act.put a d v) w→Q (.panic c) a w:=by (intro _ _ _ d _ h;cases d<;>exact h)) (hc:ou ops n L j=true:=by decide +kernel)
  (hy:Ys P ops S j a o:=by (try simp only [JT,JU,JV,Act.put,JW,JX,J0]);(repeat ((first | (refine Ys.cons (v:=?_) (by (simp only [J1,Ka,Kb];rfl)) (Or.inl ⟨by rfl,?_⟩) ?_;rotate_left;(· (intro q i;(try dsimp only at i);(try (have u:=jM i.1));go_simp;(try with_reducible rfl)))) | refine Ys.cons (v:=undef) (by (simp only [J1,Ka,Kb];rfl)) (Or.inr ⟨by rfl,rfl⟩) ?_);simp only [JT,JU,JV,Act.put,JW,JX,J0]));exact Ys.nil):XA P ops Q S n L a w:=XA.takes hs hQ p j hc hy h
theorem XA.t0 (j:Act) (i:List Nat) {L:List Nat} {a:Act} {w:World} (o:S w) (h:XA P ops Q S n (i.reverse++L) j w)
  (hs:Region.noSelect ops=true:=by decide +kernel) (hQ:∀c a w d v,Q (.panic c) (Act.put a d v) w→Q (.panic c) a w:=by (intro _ _ _ d _ h;cases d<;>exact h)) (hc:It ops n L i=true:=by decide +kernel)
  (hy:Ys P ops (fun _=>True) i a j:=by (try simp only [JT,JU,JV,Act.put,JW,JX,J0]);(repeat ((first | (refine Ys.cons (v:=?_) (by (simp only [J1,Ka,Kb];rfl)) (Or.inl ⟨by rfl,?_⟩) ?_;rotate_left;(· (intro p _;go_simp;(try with_reducible rfl)))) | refine Ys.cons (v:=undef) (by (simp only [J1,Ka,Kb];rfl)) (Or.inr ⟨by rfl,rfl⟩) ?_);simp only [JT,JU,JV,Act.put,JW,JX,J0]));exact Ys.nil):XA P ops Q S n L a w:=XA.takes0 hs hQ o i hc hy h
theorem HA.c {L:List Nat} {a:Act} {w:World} (i:Nat) {f:FuncId} {args:Array Value} {R:Ending→World→Prop} {o:Oper} (hc:Calls P f args w R)
  (k:∀e j,R e j→∃v,e=.returned v∧S j∧(S j→HA P ops Q S (i::L) (a.put o.dst v) j)) (p:ops[i]?=some o:=by (simp only [J1,Ka,Kb];rfl)) (hr:cM ops L=[i]:=by decide +kernel)
  (hw:Region.wanted o (yielded ops a.tmps)=true:=by rfl) (he:(execOp a.eval o).run P w=.ok (.enter f args) w:=by go_simp):HA P ops Q S L a w:=HA.call i hc p hr hw he k
theorem XA.c {L:List Nat} {a:Act} {w:World} (i:Nat) {f:FuncId} {args:Array Value} {R:Ending→World→Prop} {o:Oper} (hc:Calls P f args w R)
  (k:∀e j,R e j→∃v,e=.returned v∧S j∧(S j→XA P ops Q S n (i::L) (a.put o.dst v) j)) (p:ops[i]?=some o:=by (simp only [J1,Ka,Kb];rfl)) (hr:cM ops L=[i]:=by decide +kernel)
  (hw:Region.wanted o (yielded ops a.tmps)=true:=by rfl) (he:(execOp a.eval o).run P w=.ok (.enter f args) w:=by go_simp):XA P ops Q S n L a w:=XA.call i hc p hr hw he k
theorem HA.d {L:List Nat} {a:Act} {w:World} (h:Q .normal a w) (hr:cM ops L=[]:=by decide +kernel):HA P ops Q S L a w:=⟨wpAnyH_done (by rw [dt];exact hr) h _⟩
theorem XA.e {l:List Oper} {L:List Nat} {a:Act} {w:World} (h:wpList P l.toArray Q (l.drop n) a w) (i:unl (bE l.toArray.size L)=(l.drop n).length:=by rfl) (hB:AP l.toArray (l.drop n).length n L=true:=by decide +kernel):
  XA P l.toArray Q S n L a w:=XA.tail i hB h
theorem HA.o {L:List Nat} {a:Act} {w:World} {o:Oper} (i:Nat)
  (h:∀j:Act→World→Prop,Shut (∀a w,S w→(S w→HA P ops Q S (i::L) a w)→j a w)→if Region.wanted o (yielded ops a.tmps)=true then Oper.wp P o a w j Q else j (a.put o.dst undef) w)
  (p:ops[i]?=some o:=by (simp only [J1,Ka,Kb];rfl)) (hr:cM ops L=[i]:=by decide +kernel):HA P ops Q S L a w:=HA.one i p hr h
theorem XA.o {L:List Nat} {a:Act} {w:World} {o:Oper} (i:Nat)
  (h:∀j:Act→World→Prop,Shut (∀a w,S w→(S w→XA P ops Q S n (i::L) a w)→j a w)→if Region.wanted o (yielded ops a.tmps)=true then Oper.wp P o a w j Q else j (a.put o.dst undef) w)
  (p:ops[i]?=some o:=by (simp only [J1,Ka,Kb];rfl)) (hr:cM ops L=[i]:=by decide +kernel):XA P ops Q S n L a w:=XA.one i p hr h
theorem HA.s {L:List Nat} {a:Act} {w:World} {o:Oper} (i:Nat) (j:World) (q:S j) (k:HA P ops Q S (i::L) (a.put o.dst undef) j) (p:ops[i]?=some o:=by (simp only [J1,Ka,Kb];rfl))
  (hr:cM ops L=[i]:=by decide +kernel) (hw:Region.wanted o (yielded ops a.tmps)=true:=by rfl) (he:(execOp a.eval o).run P w=.ok .skip j:=by go_simp):HA P ops Q S L a w:=by
 refine HA.one i p hr fun v u=>?_
 rw [if_pos hw]
 unfold Oper.wp
 rw [he]
 exact u.out _ _ q fun _=>k
theorem HA.v {L:List Nat} {a:Act} {w:World} {o:Oper} (i:Nat) (j:World) (v:Value) (q:S j) (k:HA P ops Q S (i::L) (a.put o.dst v) j) (p:ops[i]?=some o:=by (simp only [J1,Ka,Kb];rfl))
  (hr:cM ops L=[i]:=by decide +kernel) (hw:Region.wanted o (yielded ops a.tmps)=true:=by rfl) (he:(execOp a.eval o).run P w=.ok (.value v) j:=by go_simp):HA P ops Q S L a w:=by
 refine HA.one i p hr fun x u=>?_
 rw [if_pos hw]
 unfold Oper.wp
 rw [he]
 exact u.out _ _ q fun _=>k
end
end Go.Proofs.YtaccfnffmbndhaaGreat
namespace Go.Proofs.YtaccfnffmbndhaaGreat
open Go.RowKit
def szN (sz:List Int) (k:Nat):Nat:=(nth sz k).toNat
def aZ (sz:List Int):Nat→Nat
 | 0=>0
 | k+1=>aZ sz k+(szN sz k+1)*szN sz (k+1)
def cW (sz:List Int) (k:Nat):Nat:=aZ sz k+szN sz (k+1)*szN sz k
def cG (sz:List Int):Prop:=(2≤sz.length∧sz.length≤16)∧∀k,k<sz.length→1≤nth sz k∧nth sz k≤1048576
def dy (sz:List Int):Prop:=cG sz∧aZ sz (sz.length-1)≤1048576
theorem cG.at {sz:List Int} (h:cG sz) {k:Nat} (i:k<sz.length):1≤szN sz k∧szN sz k≤1048576∧nth sz k=(szN sz k:Int):=by
 have:=h.2 k i
 unfold szN;omega
theorem eP (sz:List Int) (k:Nat):cW sz k+szN sz (k+1)=aZ sz (k+1):=by
 unfold cW
 rw [aZ,Nat.add_mul,Nat.one_mul,Nat.mul_comm (szN sz k)];omega
theorem cG.mul {sz:List Int} (h:cG sz) {k:Nat} (j:k+1<sz.length):szN sz (k+1)*szN sz k≤1099511627776:=by
 have h1:=h.at j
 have i:=h.at (k:=k) (by omega)
 exact Nat.mul_le_mul h1.2.1 i.2.1
theorem cG.cnt {sz:List Int} (h:cG sz):∀k,k<sz.length→aZ sz k≤k*1099512676352:=by
 intro k
 induction k with
 | zero=>intro _;simp [aZ]
 | succ k ih=>
  intro i
  have h1:=ih (by omega)
  have o:=h.mul i
  have p:=(h.at i).2.1
  have j:=eP sz k
  unfold cW at j
  omega
theorem fv (sz:List Int) {j k:Nat} (h:j≤k):aZ sz j≤aZ sz k:=by
 induction h with
 | refl=>exact JD _
 | step _ ih=>rw [aZ];omega
theorem cG.bound {sz:List Int} (h:cG sz) {k:Nat} (i:k<sz.length):aZ sz k≤17592202821632:=by
 have h1:=h.cnt k i
 have j:=h.1.2
 have:k*1099512676352≤16*1099512676352:=KH _ (by omega)
 omega
theorem dy.bound {sz:List Int} (h:dy sz) {k:Nat} (i:k<sz.length):aZ sz k≤1048576:=JJ (fv sz (by omega)) h.2
theorem dy.mul {sz:List Int} (h:dy sz) {k:Nat} (j:k+1<sz.length):szN sz (k+1)*szN sz k≤1048576:=by
 have h1:=h.bound j
 have i:=eP sz k
 unfold cW at i
 omega
def nj (sz:List Int) (k:Nat):List Value:=(List.range k).flatMap fun j=>[KL (aZ sz j:Int),KL (cW sz j:Int)]
def nW (sz:List Int) (k:Nat):List Value:=(List.range k).flatMap fun j=>[KL (cW sz j:Int),KL (aZ sz (j+1):Int)]
theorem mK (sz:List Int) (k:Nat):nj sz (k+1)=nj sz k++[KL (aZ sz k:Int),KL (cW sz k:Int)]:=by simp [nj,Kw,List.flatMap_append]
theorem m7 (sz:List Int) (k:Nat):nW sz (k+1)=nW sz k++[KL (cW sz k:Int),KL (aZ sz (k+1):Int)]:=by simp [nW,Kw,List.flatMap_append]
theorem jQ (sz:List Int) (k:Nat):(nj sz k).length=k*2:=by
 induction k with
 | zero=>rfl
 | succ k ih=>rw [mK,Kf,ih];simp;omega
theorem jZ (sz:List Int) (k:Nat):(nW sz k).length=k*2:=by
 induction k with
 | zero=>rfl
 | succ k ih=>rw [m7,Kf,ih];simp;omega
theorem C7 (sz:List Int) {j n:Nat} (h:j<n):(nj sz n)[j*2]?=some (KL (aZ sz j:Int))∧(nj sz n)[j*2+1]?=some (KL (cW sz j:Int)):=by
 induction n with
 | zero=>omega
 | succ n ih=>
  rw [mK]
  by_cases i:j<n
  ·have:=ih i
   rw [Ki (by rw [jQ];omega),Ki (by rw [jQ];omega)]
   exact this
  ·obtain rfl:j=n:=by omega
   rw [Kj (by rw [jQ];omega),Kj (by rw [jQ];omega),jQ]
   simp
theorem FE (sz:List Int) {j n:Nat} (h:j<n):(nW sz n)[j*2]?=some (KL (cW sz j:Int))∧(nW sz n)[j*2+1]?=some (KL (aZ sz (j+1):Int)):=by
 induction n with
 | zero=>omega
 | succ n ih=>
  rw [m7]
  by_cases i:j<n
  ·have:=ih i
   rw [Ki (by rw [jZ];omega),Ki (by rw [jZ];omega)]
   exact this
  ·obtain rfl:j=n:=by omega
   rw [Kj (by rw [jZ];omega),Kj (by rw [jZ];omega),jZ]
   simp
def bY (T:TypeId) (w:World) (b:Nat) (sz:List Int):Prop:=∃A1 c1 i c2 j c3,
 w.heap[b]?=some (.cells #[.slice A1 sz.length c1,.slice i (sz.length-1) c2,.slice j (sz.length-1) c3,KL (aZ sz (sz.length-1):Int)] T (0,0))∧
 Rd w A1 (aq .i64 sz)∧Rd w i (nj sz (sz.length-1))∧Rd w j (nW sz (sz.length-1))
theorem bY.below {T:TypeId} {w j:World} {b:Nat} {sz:List Int} (h:bY T w b sz) (i:Below w.heap.size w j):bY T j b sz:=by
 obtain ⟨A1,c1,q,c2,p,c3,o,h1,u,v⟩:=h
 exact ⟨A1,c1,q,c2,p,c3,(i.block b (JC o)).trans o,h1.below i,u.below i,v.below i⟩
theorem bY.lt {T:TypeId} {w:World} {b:Nat} {sz:List Int} (h:bY T w b sz):b<w.heap.size:=by
 obtain ⟨A1,c1,o,c2,j,c3,i,_⟩:=h
 exact JC i
theorem gq:dq Tryz.prog 22 3 (KL 0) 1 8:=⟨Tryz.underlying22,info_parts (by kernel_rfl),rfl,by decide⟩
theorem kw (A:Option Addr) (zs:List Int) (c:Nat) (w:World) (hA:Rd w A (aq .i64 zs)) (hl:zs.length≤17592186043904):
  Calls Tryz.prog 68 #[.slice A zs.length c] w fun e x=>∃v,e=.returned v∧x.ownsRow w.heap.size 3 1 v zs.length (aq .i64 zs)∧Below w.heap.size w x:=by
 have q:=fun (w:World)=>Lib.run_eql_slice_nil (P:=Tryz.prog) w 22 3 A zs.length c 0 0 Tryz.underlying22
 cases A with
 | none=>
  have B:zs=[]:=by
   cases zs with
   | nil=>rfl
   | cons z l=>obtain ⟨b,o,h,_⟩:=hA 0 _ rfl;cases h
  subst B
  clear q
  have q:=fun (w:World)=>Lib.run_eql_slice_nil (P:=Tryz.prog) w 22 3 none 0 c 0 0 Tryz.underlying22
  simp only [Option.isNone_none] at q
  rw [List.length_nil]
  go_enter Tryz.func68,Tryz.ntmps68
  go_wp2
  go_ret
  exact ⟨_,rfl,JO _ _ _ _,JG _ _⟩
 | some a=>
  go_enter Tryz.func68,Tryz.ntmps68
  go_wp2_with (at_builtin;refine dX gq _ rfl (.tmp 5) (.tmp 6) rfl w.heap.size _ 0 [] rfl (fq w 3 1) _ zs.length c (aq .i64 zs) rfl (hA.alloc _) (by rw [a9];omega) (bP _ _) (by omega) (by unfold maxLen;omega) (by simp) ?_)
  intro H D C i y _ _
  have p:=((JG _ w).alloc (JD _) (.cells #[] 3)).trans y
  obtain ⟨j,u⟩:=ae i p;clear i y p
  go_wp2
  go_ret
  exact ⟨_,rfl,j.out,u.out⟩
theorem pI (b:Nat) (sz:List Int) (w:World) (h:bY 186 w b sz) (hl:sz.length≤17592186043904):
  Calls Tryz.prog 168 #[.pointer (some ⟨b,0,none⟩)] w fun e p=>∃A c,e=.returned (.slice A sz.length c)∧p.ownsRow w.heap.size 3 1 (.slice A sz.length c) sz.length (aq .i64 sz)∧Below w.heap.size w p:=by
 obtain ⟨A1,c1,T,c2,R,c3,q,h1,y,J⟩:=h
 obtain ⟨⟨D,B,L,x⟩,H⟩:=bx4 q
 have hc:=kw A1 sz c1 w h1 hl
 have C:=aa hc;clear hc q h1 y J
 go_enter Tryz.func168,Tryz.ntmps168
 go_wp2_with fail
 refine C.out.mono ?_
 rintro e N ⟨v,rfl,i,u⟩
 obtain ⟨Q,O,rfl,o⟩:=aw i
 obtain ⟨j,I⟩:=ae i u;clear i u o;clear D B L x H
 go_wp2
 go_ret
 exact ⟨_,_,rfl,j.out,I.out⟩
theorem ju (b:Nat) (sz:List Int) (w:World) (h:bY 186 w b sz):
  Calls Tryz.prog 169 #[.pointer (some ⟨b,0,none⟩)] w fun e j=>e=.returned (KL ((sz.length-1:Nat):Int))∧w=j:=by
 obtain ⟨A1,c1,x,c2,u,c3,i,h1,o,p⟩:=h
 obtain ⟨⟨A,y,q,v⟩,B⟩:=bx4 i
 clear i h1 o p
 go_enter Tryz.func169,Tryz.ntmps169
 go_wp2
 go_ret
 exact ⟨rfl,rfl⟩
theorem jv (b:Nat) (sz:List Int) (w:World) (h:bY 186 w b sz):
  Calls Tryz.prog 46 #[.pointer (some ⟨b,0,none⟩)] w fun e j=>e=.returned (KL (aZ sz (sz.length-1):Int))∧w=j:=by
 obtain ⟨A1,c1,x,c2,u,c3,i,h1,o,p⟩:=h
 obtain ⟨⟨A,y,q,v⟩,B⟩:=bx4 i
 clear i h1 o p
 go_enter Tryz.func46,Tryz.ntmps46
 go_wp2
 go_ret
 exact ⟨rfl,rfl⟩
theorem mw (b:Nat) (sz:List Int) (k:Nat) (w:World) (h:bY 186 w b sz) (hl:sz.length≤17592186043904) (x:k<sz.length-1):
  Calls Tryz.prog 170 #[.pointer (some ⟨b,0,none⟩),KL k] w fun e j=>e=.returned (.agg #[KL (aZ sz k:Int),KL (cW sz k:Int)])∧Below w.heap.size w j:=by
 have i:=fun j (J:Below w.heap.size w j)=>ju b sz j (h.below J)
 have N:=h.lt
 obtain ⟨A1,c1,A2,c2,A3,c3,q,h1,o,B⟩:=h
 obtain ⟨n,hn⟩:∃n,sz.length-1=n:=⟨_,rfl⟩
 rw [hn] at q o B x i
 obtain ⟨⟨V,U,Z,T⟩,X⟩:=bx4 q
 obtain ⟨C,A⟩:=C7 sz x
 obtain ⟨Y,y,rfl,O⟩:=o _ _ C
 obtain ⟨L,D,u,I⟩:=o _ _ A
 injection u with u;injection u with e3 e4 _
 subst e3;subst e4
 rw [show y+(k*2+1)=y+k*2+1 by omega] at I
 have R:=ar O
 have p:=aa i
 have Q:n≤17592186043904:=by omega
 clear i q h1 o B C A hn hl
 go_enter Tryz.func170,Tryz.ntmps170
 go_wp2_with fail
 refine (p.out _ ?_).mono ?_
 ·exact al
 rintro e j ⟨rfl,rfl⟩
 have H:(k:Int)<n:=by omega
 go_wp2_with fail
 refine JQ (v:=.agg #[KL (aZ sz k:Int),KL (cW sz k:Int)]) (by simp [results,Tryz.results170,go_sem]) rfl ⟨rfl,?_⟩
 exact al
theorem nr (b:Nat) (sz:List Int) (k:Nat) (w:World) (h:bY 186 w b sz) (hl:sz.length≤17592186043904) (y:k<sz.length-1):
  Calls Tryz.prog 171 #[.pointer (some ⟨b,0,none⟩),KL k] w fun e j=>e=.returned (.agg #[KL (cW sz k:Int),KL (aZ sz (k+1):Int)])∧Below w.heap.size w j:=by
 have i:=fun j (J:Below w.heap.size w j)=>ju b sz j (h.below J)
 have N:=h.lt
 obtain ⟨A1,c1,A2,c2,A3,c3,q,h1,x,o⟩:=h
 obtain ⟨n,hn⟩:∃n,sz.length-1=n:=⟨_,rfl⟩
 rw [hn] at q x o y i
 obtain ⟨⟨V,U,Z,T⟩,X⟩:=bx4 q
 obtain ⟨C,B⟩:=FE sz y
 obtain ⟨Y,A,rfl,O⟩:=o _ _ C
 obtain ⟨L,D,u,I⟩:=o _ _ B
 injection u with u;injection u with e3 e4 _
 subst e3;subst e4
 rw [show A+(k*2+1)=A+k*2+1 by omega] at I
 have R:=ar O
 have p:=aa i
 have Q:n≤17592186043904:=by omega
 clear i q h1 x o C B hn hl
 go_enter Tryz.func171,Tryz.ntmps171
 go_wp2_with fail
 refine (p.out _ ?_).mono ?_
 ·exact al
 rintro e j ⟨rfl,rfl⟩
 have H:(k:Int)<n:=by omega
 go_wp2_with fail
 refine JQ (v:=.agg #[KL (cW sz k:Int),KL (aZ sz (k+1):Int)]) (by simp [results,Tryz.results171,go_sem]) rfl ⟨rfl,?_⟩
 exact al
theorem AC (n:Int) (w:World):Calls Tryz.prog 91 #[KL n] w fun e i=>e=.returned (.bool (!decide (1≤n∧n≤1048576)))∧w=i:=by
 by_cases h1:n<1
 ·go_enter Tryz.func91,Tryz.ntmps91
  go_wp2
  go_ret
  exact ⟨cP (by first | (simp;omega) | (simp;done)),rfl⟩
 ·by_cases j:1048576<n
  ·go_enter Tryz.func91,Tryz.ntmps91
   go_wp2
   go_ret
   exact ⟨cP (by first | (simp;omega) | (simp;done)),rfl⟩
  ·go_enter Tryz.func91,Tryz.ntmps91
   go_wp2
   go_ret
   exact ⟨cP (by first | (simp;omega) | (simp;done)),rfl⟩
def If (sz:List Int) (e:Ending):Prop:=∃d:Int,e=.returned (KL d)∧ -1≤d∧(d<0↔∀k,k<sz.length→1≤nth sz k∧nth sz k≤1048576)
theorem te (A:Option Addr) (sz:List Int) (c:Nat) (w:World) (hA:Rd w A (aq .i64 sz)) (hl:sz.length≤17592186043904):
  Calls Tryz.prog 137 #[.slice A sz.length c,.func (.func 91) #[] #[]] w fun e B=>If sz e∧w=B:=by
 obtain ⟨n,hn⟩:∃n,sz.length=n:=⟨_,rfl⟩
 have hw:=fun z=>AC z w
 rw [hn] at hl ⊢
 obtain ⟨HA,D,H⟩:=af hA hn hw;clear hA hn hw
 go_enter Tryz.func137,Tryz.ntmps137
 go_wp2_with fail
 go_loop [5,8] (fun _ i=>∃k:Nat,k≤n∧i=KL k∧Hid (∀j,j<k→1≤nth sz j∧nth sz j≤1048576)) (fun _ i=>n-(intOf i).toNat)
 case atStart=>exact ⟨0,JH _,rfl,Lib.hid fun j I=>by omega⟩
 case round=>
  obtain ⟨k,J,rfl,q⟩:=hrel
  by_cases y:k<n
  ·obtain ⟨b,o,rfl,p⟩:=HA.out.num (show k<sz.length by rw [D.out];exact y)
   by_cases v:1≤nth sz k∧nth sz k≤1048576
   ·have x:(!decide (1≤nth sz k∧nth sz k≤1048576))=false:=by simp [v.1,v.2]
    have hw:=H.out (nth sz k)
    rw [x] at hw
    obtain ⟨C,u⟩:=ae v hw;clear v hw x
    go_wp2_with fail
    refine u.out.mono ?_
    rintro e B ⟨rfl,rfl⟩
    go_wp2_with fail
    go_round
    case rel=>exact ⟨k+1,by omega,by go_num,Lib.hid (p:=∀j,j<k+1→1≤nth sz j∧nth sz j≤1048576) fun j I=>by
     rcases JR j k with h | h
     ·exact q.out j h
     ·obtain rfl:j=k:=by omega
      exact C.out⟩
    case measure=>simp [intOf];omega
   ·have x:(!decide (1≤nth sz k∧nth sz k≤1048576))=true:=by simp;omega
    have hw:=H.out (nth sz k)
    rw [x] at hw
    obtain ⟨C,u⟩:=ae v hw;clear v hw x
    go_wp2_with fail
    refine u.out.mono ?_
    rintro e B ⟨rfl,rfl⟩
    go_wp2_with fail
    go_ret
    exact ⟨⟨k,rfl,by omega,fun h=>by omega,fun h=>absurd (h k (by rw [D.out];exact y)) C.out⟩,rfl⟩
  ·obtain rfl:k=n:=by omega
   go_wp2_with fail
   go_ret
   exact ⟨⟨-1,rfl,by omega,fun _=>by rw [D.out];exact q.out,fun _=>by omega⟩,rfl⟩
theorem uz (A:Option Addr) (sz:List Int) (c:Nat) (w:World) (hA:Rd w A (aq .i64 sz)) (hl:sz.length≤17592186043904) (h:¬∀k,k<sz.length→1≤nth sz k∧nth sz k≤1048576):
  Calls Tryz.prog 92 #[.slice A sz.length c,.func (.func 91) #[] #[]] w fun e j=>e=.returned (.bool true)∧w=j:=by
 have o:=te A sz c w hA hl
 obtain ⟨q,H⟩:=ae o h;clear o hA h
 go_enter Tryz.func92,Tryz.ntmps92
 go_wp2_with fail
 refine q.out.mono ?_
 rintro e j ⟨⟨d,rfl,u,i⟩,rfl⟩
 have p:0≤d:=by
  rcases Int.lt_or_le d 0 with h | h
  ·exact absurd (i.1 h) H.out
  ·exact h
 clear i
 go_wp2
 go_ret
 exact ⟨cP (by simp [p]),rfl⟩
theorem wQ (A:Option Addr) (sz:List Int) (c:Nat) (w:World) (hA:Rd w A (aq .i64 sz)) (hl:sz.length≤17592186043904) (h:∀k,k<sz.length→1≤nth sz k∧nth sz k≤1048576):
  Calls Tryz.prog 92 #[.slice A sz.length c,.func (.func 91) #[] #[]] w fun e j=>e=.returned (.bool false)∧w=j:=by
 have o:=te A sz c w hA hl
 obtain ⟨p,H⟩:=ae o h;clear o hA h
 go_enter Tryz.func92,Tryz.ntmps92
 go_wp2_with fail
 refine p.out.mono ?_
 rintro e j ⟨⟨d,rfl,q,i⟩,rfl⟩
 have u:d<0:=i.2 H.out
 clear i
 go_wp2
 go_ret
 exact ⟨cP (by simp;omega),rfl⟩
theorem vH (m N:Nat) (P S:Nat) (v0 v1 v2:Value) (w:World) (hP:w.heap[P]?=some (.cells #[.pointer (some ⟨S,0,none⟩)] 109 (0,0)))
  (j:w.heap[S]?=some (.cells #[v0,v1,v2,KL N] 186 (0,0))) (H:N≤17592202821632) (hm:m≤17592202821632):
  Calls Tryz.prog 93 #[KL m,.pointer (some ⟨P,0,none⟩)] w fun e o=>e=.returned (.agg #[KL N,KL ((N+m:Nat):Int)])∧o.heap[S]?=some (.cells #[v0,v1,v2,KL ((N+m:Nat):Int)] 186 (0,0))∧Keep (fun i=>i=S) w o:=by
 obtain ⟨A,D⟩:=bx1 hP
 obtain ⟨⟨s0,B,s2,y⟩,C⟩:=bx4 j
 have u:=JC hP
 have q:=JC j
 have x:=aa j;clear j hP
 rw [Int.natCast_add]
 go_enter Tryz.func93,Tryz.ntmps93
 go_wp2_with fail
 go_region
 all_goals go_wp2_with fail
 refine JQ (v:=.agg #[KL N,KL ((N:Int)+(m:Int))]) (by simp [results,Tryz.results93,go_sem]) rfl ⟨rfl,?_,?_⟩
 ·have h1:(w.setCell ⟨S,3,none⟩ (KL ((N:Int)+(m:Int)))).heap[S]?=some (.cells #[v0,v1,v2,KL ((N:Int)+(m:Int))] 186 (0,0)):=KG w S 3 _ _ _ x.out
  have p:=JC h1
  exact (JP _ _ S (by simp at p ⊢;omega)).trans ((JP _ _ S p).trans h1)
 ·exact (((Keep.setCell (S:=fun i=>i=S) (Keep.refl _ w) ⟨S,3,none⟩ (.inr rfl) _).alloc _).alloc _).drew
theorem an {W:World} {b:Nat} {p:Array Value} {t e:TypeId} {u:Nat×Nat} (h:W.heap[b]?=some (.cells p t u)) (j:t≠e) {base size k:Nat} {v:Value} {xs:List Value} (hr:W.ownsRow base e size v k xs):some b≠v.ownBlock:=by
 rcases hr.2 with ⟨rfl,_⟩ | ⟨g,cap,o,rfl,_,i,_⟩
 ·simp [Value.ownBlock]
 ·intro q
  obtain rfl:b=g:=by simpa [Value.ownBlock] using q
  have:=h.symm.trans i
  simp at this
  exact j this.2.1
theorem dm {W j:World} {b:Nat} {q:Array Value} {t e:TypeId} {p:Nat×Nat} {o:Obj} (h:W.heap[b]?=some (.cells q t p)) (i:t≠e) {base size k:Nat} {v:Value} {xs:List Value} (hr:W.ownsRow base e size v k xs) (hg:(W.alloc o).grownBy j v.ownBlock):j.heap[b]?=some (.cells q t p):=
 (hg.block b (by have:=JC h;simp;omega) (an h i hr)).trans ((JP W o b (JC h)).trans h)
theorem ze {W j:World} {b o:Nat} {u:Value} {e:TypeId} {i:Obj} (h:W.cell? ⟨b,o,none⟩=some u) {base size k:Nat} {v:Value} {xs:List Value} (q:b<base) (hr:W.ownsRow base e size v k xs) (hg:(W.alloc i).grownBy j v.ownBlock):j.cell? ⟨b,o,none⟩=some u:=
 hg.cell ((World.cell?_of_block (w:=W) (JP W i b (ar h))).trans h) (fun e=>by
  have p:v.ownBlock=some b:=e.symm
  have:=(hr.lt b p).1
  omega)
theorem sL {W x:World} {base':Nat} {q:TypeId} {j m:Nat} {v v' u:Value} {ys:List Value} {o:Obj} (hu:W.ownsRow base' q j u m ys) (p:∀i,v.ownBlock=some i→u.ownBlock≠some i)
  (hg:(W.alloc o).grownBy x v.ownBlock) (hv:v'.ownBlock=v.ownBlock∨v'.ownBlock=some (W.alloc o).heap.size):x.ownsRow base' q j u m ys∧∀i,v'.ownBlock=some i→u.ownBlock≠some i:=by
 refine ⟨(hu.alloc o).kept hg ?_,fun i y=>?_⟩
 ·cases hub:u.ownBlock with
  | none=>exact .inl rfl
  | some k=>exact .inr fun e=>p k e.symm hub
 ·rcases hv with hv | hv
  ·exact p i (hv▸y)
  ·intro e
   have h1:=(hu.lt i e).2
   rw [y] at hv
   simp at hv
   omega
theorem aA {W:World} {p:Addr} {u:Value} (h:W.cell? p=some u) (o:Obj):(W.alloc o).cell? p=some u:=
 (World.cell?_of_block (w:=W) (JP W o _ (ar h))).trans h
theorem am {w i:World} {p:Addr} {u:Value} (j:Below w.heap.size w i) (h:w.cell? p=some u):i.cell? p=some u:=(World.cell?_of_block (w:=w) (j.block _ (ar h))).trans h
theorem iO {W:World} {A H u x D s2 C I:Nat} {v1 v2:Value} {q o:List Value} (h1:W.ownsRow A u D v1 C q) (B:W.ownsRow H x s2 v2 I o) (p:u≠x):∀i,v1.ownBlock=some i→v2.ownBlock≠some i:=by
 intro i v e
 rcases h1.2 with ⟨rfl,_⟩ | ⟨g,cap,y,rfl,_,j,_⟩
 ·cases v
 ·obtain rfl:g=i:=by simpa [Value.ownBlock] using v
  exact an j p B e.symm
theorem vB {W x:World} {q e p size n m:Nat} {v u y:Value} {xs ys:List Value} {o:Obj} {base base' B j:Nat} {H:Array Value} {t:TypeId} (hu:W.ownsRow base' q p u m ys) (hv:W.ownsRow base e size v n xs) (hg:(W.alloc o).grownBy x v.ownBlock)
  (hB:x.heap[B]?=some (.cells H t (0,0))) (h1:e≠q) (D:t≠q):(x.setCell ⟨B,j,none⟩ y).ownsRow base' q p u m ys:=by
 have C:x.ownsRow base' q p u m ys:=by
  refine (hu.alloc o).kept hg ?_
  cases hub:u.ownBlock with
  | none=>exact .inl rfl
  | some k=>exact .inr fun A=>iO hv hu h1 k A.symm hub
 exact (Keep.setCell (S:=fun i=>i=B) (Keep.refl _ x) ⟨B,j,none⟩ (.inr rfl) y).own C (fun i I A=>an hB D C (by rw [I,A]))
theorem nM {W i:World} {r:Option Nat} (h:W.drew.grownBy i r):W.grownBy i r:=⟨h.os,h.tape,h.output,h.size,h.block⟩
theorem lK {T:TypeId} {B:Nat} {u v:World} {b:Nat} {sz:List Int} (h:bY T (fB B u) b sz) (hv:Agr B u v):bY T v b sz:=by
 obtain ⟨A1,c1,j,c2,i,c3,p,h1,o,q⟩:=h
 exact ⟨A1,c1,j,c2,i,c3,qp p hv,j3 h1 hv,j3 o hv,j3 q hv⟩
theorem kF:dq Tryz.prog 120 52 (.agg #[KL 0,KL 0]) 2 16:=⟨Tryz.underlying120,info_parts (by kernel_rfl),rfl,by decide⟩
def Jv (sz:List Int) (o:Value) (P S:Nat) (k:Nat) (p w:World):Prop:=
 ∃A1 c1 j c2,w.heap[P]?=some (.cells #[.pointer (some ⟨S,0,none⟩)] 109 (0,0))∧w.heap[S]?=some (.cells #[o,.slice A1 k c1,.slice j k c2,KL (aZ sz k:Int)] 186 (0,0))∧
  w.ownsRow S 52 2 (.slice A1 k c1) k (nj sz k)∧w.ownsRow S 52 2 (.slice j k c2) k (nW sz k)∧(∀i,(Value.slice A1 k c1).ownBlock=some i→(Value.slice j k c2).ownBlock≠some i)∧Below S p w
theorem xC (A:Option Addr) (sz:List Int) (c:Nat) (w:World) (hc:sz.length≤c) (hm:c≤9223372036854775807) (h:¬(2≤sz.length∧sz.length≤16)):
  Calls Tryz.prog 43 #[.slice A sz.length c] w fun e i=>e=.returned (.tuple #[.pointer none,KL 5])∧w=i:=by
 by_cases h1:sz.length<2
 ·go_enter Tryz.func43,Tryz.ntmps43
  go_wp2
  go_ret2
  exact ⟨rfl,rfl⟩
 ·have j:16<sz.length:=by omega
  go_enter Tryz.func43,Tryz.ntmps43
  go_wp2
  go_ret2
  exact ⟨rfl,rfl⟩
theorem xB (A:Option Addr) (sz:List Int) (c:Nat) (w:World) (hA:Rd w A (aq .i64 sz)) (hc:sz.length≤c) (hm:c≤9223372036854775807) (h:2≤sz.length∧sz.length≤16) (p:¬∀k,k<sz.length→1≤nth sz k∧nth sz k≤1048576):
  Calls Tryz.prog 43 #[.slice A sz.length c] w fun e o=>e=.returned (.tuple #[.pointer none,KL 5])∧w=o:=by
 obtain ⟨h1,q⟩:=h
 have i:=uz A sz c w hA (by omega) p
 have j:=aa i;clear i p hA
 go_enter Tryz.func43,Tryz.ntmps43
 go_wp2_with fail
 refine j.out.mono ?_
 rintro e o ⟨rfl,rfl⟩
 go_wp2
 go_ret2
 exact ⟨rfl,rfl⟩
theorem uT (A:Option Addr) (sz:List Int) (c:Nat) (w:World) (hA:Rd w A (aq .i64 sz)) (hc:sz.length≤c) (hm:c≤9223372036854775807) (h:cG sz):
  Calls Tryz.prog 43 #[.slice A sz.length c] w fun e y=>Below w.heap.size w y∧((1048576<aZ sz (sz.length-1)∧e=.returned (.tuple #[.pointer none,KL 4]))∨
   (aZ sz (sz.length-1)≤1048576∧∃b,e=.returned (.tuple #[.pointer (some ⟨b,0,none⟩),KL 0])∧bY 186 (fB w.heap.size y) b sz∧w.heap.size≤b)):=by
 obtain ⟨b,o,rfl,_⟩:=hA.num (show 0<sz.length by have:=h.1.1;omega)
 have b5:=wQ (some ⟨b,o,none⟩) sz c w hA (by have:=h.1.2;omega) h.2
 have b8:=kw (some ⟨b,o,none⟩) sz c w hA (by have:=h.1.2;omega)
 obtain ⟨n,hn⟩:∃n,sz.length=n:=⟨_,rfl⟩
 obtain ⟨h1,h2⟩:=h.1
 rw [hn] at h1 h2 b5 b8 hc ⊢
 have e5:¬(c=1):=by omega
 have e3:1≤c:=by omega
 obtain ⟨d9,dk,cj,HR,Hn⟩:=ah b5 b8 hA h hn;clear b5 b8 hA h hn
 go_enter Tryz.func43,Tryz.ntmps43
 go_wp2_with fail
 refine d9.out.mono ?_
 rintro e y ⟨rfl,rfl⟩
 go_wp2_with fail
 refine dk.out.mono ?_
 rintro e j ⟨v,rfl,Q,hb⟩
 obtain ⟨Ac,cc,rfl,cd⟩:=aw Q
 obtain ⟨cl,Hb,e4⟩:=af Q hb cd;clear Q hb cd
 go_wp2_with fail
 go_loopw [30] (fun i wr=>∃k:Nat,k≤n-1∧i=KL k∧Jv sz (.slice Ac n cc) (j.heap.size+1) j.heap.size k j wr) (fun i _=>n-(intOf i).toNat)
 case atStart=>
  refine ⟨0,JH _,rfl,none,0,none,0,?_,?_,JO _ _ _ _,JO _ _ _ _,(fun i u=>by cases u),?_⟩
  ·have:=JE (j.alloc (.cells #[.slice Ac n cc,KN,KN,KL 0] 186)) (.cells #[.pointer (some ⟨j.heap.size,0,none⟩)] 109)
   simpa using this
  ·exact (JP _ _ _ (by simp)).trans (JE j _)
  ·exact al
 case round=>
  obtain ⟨k,hk,rfl,A1,c1,A2,c2,hP,hS,bV,bA,b9,hW⟩:=hrel
  have a7:k<sz.length:=by rw [Hn.out];omega
  have d6:=HR.out.bound a7
  obtain ⟨x0,xf⟩:=bx1 hP
  obtain ⟨⟨s0,s1,s2,s3⟩,sf⟩:=bx4 hS
  have cA:=JC hP
  have d0:=JC hS
  obtain ⟨HP,HS,ab,ao,HN,HW⟩:=ai hP hS bV bA b9 hW;clear hP hS bV bA b9 hW
  by_cases dT:k<n-1
  ·have x:k+1<sz.length:=by rw [Hn.out];omega
   have bU:=HR.out.mul x
   have z0:=HR.out.at a7
   have z1:=HR.out.at x
   obtain ⟨_,_,e',p0⟩:=cj.out.num a7
   injection e' with e';injection e' with e1 e2 _;subst e1;subst e2
   obtain ⟨_,_,e',p1⟩:=cj.out.num x
   injection e' with e';injection e' with e1 e2 _;subst e1;subst e2
   have bn:b<w.heap.size:=ar p0
   have cb:b<j.heap.size:=by have:=Hb.out.size;omega
   have b3:=((Hb.out.trans (HW.out.mono Hb.out.size)).cell (p:=⟨b,o+k,none⟩) bn).trans p0
   have d2:=((Hb.out.trans (HW.out.mono Hb.out.size)).cell (p:=⟨b,o+(k+1),none⟩) bn).trans p1
   rw [z0.2.2] at b3
   rw [z1.2.2,show o+(k+1)=o+1+k by omega] at d2
   have D:cW sz k=aZ sz k+szN sz (k+1)*szN sz k:=rfl
   obtain ⟨p,hp⟩:∃p,szN sz (k+1)*szN sz k=p:=⟨_,rfl⟩
   rw [hp] at bU D
   have hnx:=fun W (h1:W.heap[j.heap.size+1]?=_) (h2:W.heap[j.heap.size]?=_)=>vH p (aZ sz k) (j.heap.size+1) j.heap.size (.slice Ac n cc) (.slice A1 k c1) (.slice A2 k c2) W h1 h2 d6 (by omega)
   rw [←D] at hnx
   have d7:(szN sz (k+1):Int)*(szN sz k:Int)=(p:Int):=by rw [←Int.natCast_mul,hp]
   have d5:IntKind.i64.wrap (p:Int)=(p:Int):=JI _ (by omega)
   obtain ⟨c9,ds⟩:=ae hnx D;clear hnx p0 p1 z0 z1 D
   have e0:(k:Int)<n:=by omega
   go_wp2_with fail
   have q:(fun y:World=>y.cell? ⟨j.heap.size+1,0,none⟩=some (.pointer (some ⟨j.heap.size,0,none⟩))∧y.cell? ⟨j.heap.size,1,none⟩=some (.slice A1 k c1)∧y.cell? ⟨b,o+k,none⟩=some (KL (szN sz k))) wr.drew:=⟨x0,s1,b3⟩
   refine XA.g 15 (fun y:World=>y.cell? ⟨j.heap.size+1,0,none⟩=some (.pointer (some ⟨j.heap.size,0,none⟩))∧y.cell? ⟨j.heap.size,1,none⟩=some (.slice A1 k c1)∧y.cell? ⟨b,o+k,none⟩=some (KL (szN sz k))) ?_
   refine XA.t ?_ [0,1,2,3,4,5,6,7,8,9,10,11] q ?_
   refine XA.o 12 (fun K C=>?_)
   go_simp
   refine (c9.out wr.drew HP.out HS.out).mono ?_
   rintro e w3 ⟨rfl,a8,Z⟩
   have g0:=Z.cell (p:=⟨j.heap.size+1,0,none⟩) x0 (by simp)
   have g1:=JF w3 _ 1 _ _ _ a8
   have g2:=Z.cell (p:=⟨b,o+k,none⟩) b3 (by simp;omega)
   have l0:j.heap.size+1<w3.heap.size:=ar g0
   have l1:j.heap.size<w3.heap.size:=ar g1
   have l2:b<w3.heap.size:=ar g2
   obtain ⟨bs,O⟩:=ae a8 Z;clear a8 Z
   dsimp only
   refine C.out _ _ ⟨g0,g1,g2⟩ (fun q=>?_)
   clear C K
   refine XA.o 13 (fun K C=>?_)
   go_simp
   refine C.out _ _ ⟨aA g0 _,aA g1 _,aA g2 _⟩ (fun q=>?_)
   clear C K
   have bM:=O.out.own (bC ab.out 1) (fun i u e=>an HS.out (by decide) ab.out (by rw [u,e]))
   have bI:=(O.out.block _ (JC HP.out) (by omega)).trans HP.out
   obtain ⟨U,bi⟩:=ae bM bI;clear bM bI
   refine XA.o 14 (fun K C=>?_)
   refine bF kF (.tmp 39) (.tmp 48) rfl rfl j.heap.size (.slice A1 k c1) k (nj sz k) rfl (U.out.alloc _) (some ⟨w3.heap.size,0,none⟩) 1 1 [KL (aZ sz k:Int),KL (cW sz k:Int)] rfl (dZ w3 _ _ _ rfl) rfl (by simp [Value.oneCell']) (by omega) (by unfold maxLen;omega) (by simp;omega) ?_
   intro A4 c4 X ci ct T bh
   have aM:=dm bi.out (by decide) U.out T
   have a2:=dm bs.out (by decide) U.out T
   have i0:=JF X _ 0 _ _ _ aM
   have i1:=JF X _ 1 _ _ _ a2
   have i2:=ze g2 cb U.out T
   have i3:=JM X _ 1 _ _ a2
   obtain ⟨aP,bl,Y,bG,bX,bd⟩:=ai ci aM a2 T bh ct;clear ci aM a2 T bh ct
   dsimp only
   refine C.out _ _ ⟨i0,i1,i2⟩ (fun q=>?_)
   clear C K q
   refine XA.e ?_
   simp only [Kc,Ke]
   go_wp2_with fail
   obtain ⟨H,a1⟩:=sL (O.out.own (bC ao.out 1) (fun i u e=>an HS.out (by decide) ao.out (by rw [u,e]))) HN.out bG.out bX.out
   have J:=(Below.heap_setCell X ⟨j.heap.size,1,none⟩ (.slice A4 (k+1) c4) (j.heap.size+1) (by simp)).trans bl.out
   have L:=KG X j.heap.size 1 _ _ (.slice A4 (k+1) c4) Y.out
   have b0:Keep (fun i=>i=j.heap.size) X (X.setCell ⟨j.heap.size,1,none⟩ (.slice A4 (k+1) c4)):=Keep.setCell (S:=fun i=>i=j.heap.size) (Keep.refl _ _) ⟨j.heap.size,1,none⟩ (.inr rfl) _
   have V:=b0.own aP.out (fun i u e=>an Y.out (by decide) aP.out (by rw [u,e]))
   have R:=b0.own H (fun i u e=>an Y.out (by decide) H (by rw [u,e]))
   have b1:Below j.heap.size j (X.setCell ⟨j.heap.size,1,none⟩ (.slice A4 (k+1) c4)):=
    ((HW.out.drew.trans ((O.out.toBelow (B:=j.heap.size) (by simp;omega) (fun i u=>by omega)))).trans ((((JG _ w3).alloc (by omega) _)).trans bd.out)).setCell (by simp) _
   rw [←mK] at V
   obtain ⟨w5,bz⟩:∃w5,w5=X.setCell ⟨j.heap.size,1,none⟩ (.slice A4 (k+1) c4):=⟨_,rfl⟩
   rw [←bz] at J L V R b1 ⊢
   clear bz b0 H i0 i1 i2 i3 g0 g1 g2 l0 l1 l2 x0 xf s0 s1 s2 s3 sf
   obtain ⟨x0,xf⟩:=bx1 J
   have y2:=JF w5 _ 2 _ _ _ L
   have av:=eP sz k
   have z1:=(HR.out.at x).2.1
   have dv:=HR.out.bound x
   have hnx:=fun W (h1:W.heap[j.heap.size+1]?=_) (h2:W.heap[j.heap.size]?=_)=>vH (szN sz (k+1)) (cW sz k) (j.heap.size+1) j.heap.size (.slice Ac n cc) (.slice A4 (k+1) c4) (.slice A2 k c2) W h1 h2 (by omega) (by omega)
   rw [av] at hnx
   have cA:=JC J
   have d0:=JC L
   obtain ⟨dc,b4,aG,bf,a5,cO,da,dG⟩:=ak hnx J L V R a1 b1 av;clear hnx J L V R a1 b1 av c9 O bs U bi aP bl Y bG bX bd d7 d5
   go_wp2_with fail
   have q:(fun y:World=>y.cell? ⟨j.heap.size+1,0,none⟩=some (.pointer (some ⟨j.heap.size,0,none⟩))∧y.cell? ⟨j.heap.size,2,none⟩=some (.slice A2 k c2)) w5.drew:=⟨x0,y2⟩
   refine XA.g 10 (fun y:World=>y.cell? ⟨j.heap.size+1,0,none⟩=some (.pointer (some ⟨j.heap.size,0,none⟩))∧y.cell? ⟨j.heap.size,2,none⟩=some (.slice A2 k c2)) ?_
   refine XA.t ?_ [0,1,2,3,4,5,6] q ?_
   refine XA.o 7 (fun K C=>?_)
   go_simp
   refine (dc.out w5.drew b4.out aG.out).mono ?_
   rintro e w6 ⟨rfl,b6,ad⟩
   have g0:=ad.cell (p:=⟨j.heap.size+1,0,none⟩) x0 (by simp)
   have g1:=JF w6 _ 2 _ _ _ b6
   have l0:j.heap.size+1<w6.heap.size:=ar g0
   obtain ⟨d4,a4⟩:=ae b6 ad;clear b6 ad
   dsimp only
   refine C.out _ _ ⟨g0,g1⟩ (fun q=>?_)
   clear C K
   refine XA.o 8 (fun K C=>?_)
   go_simp
   refine C.out _ _ ⟨aA g0 _,aA g1 _⟩ (fun q=>?_)
   clear C K
   have cf:=a4.out.own (bC a5.out 1) (fun i u e=>an aG.out (by decide) a5.out (by rw [u,e]))
   have bN:=(a4.out.block _ (JC b4.out) (by omega)).trans b4.out
   obtain ⟨b2,d3⟩:=ae cf bN;clear cf bN
   refine XA.o 9 (fun K C=>?_)
   refine bF kF (.tmp 56) (.tmp 60) rfl rfl j.heap.size (.slice A2 k c2) k (nW sz k) rfl (b2.out.alloc _) (some ⟨w6.heap.size,0,none⟩) 1 1 [KL (cW sz k:Int),KL (aZ sz (k+1):Int)] rfl (dZ w6 _ _ _ rfl) rfl (by simp [Value.oneCell']) (by omega) (by unfold maxLen;omega) (by simp;omega) ?_
   intro A7 c7 w7 bo cr a0 c6
   have aR:=dm d3.out (by decide) b2.out a0
   have a3:=dm d4.out (by decide) b2.out a0
   have i0:=JF w7 _ 0 _ _ _ aR
   have i1:=JF w7 _ 2 _ _ _ a3
   have i3:=JM w7 _ 2 _ _ a3
   obtain ⟨bv,cx,b7,cw,dr,d1⟩:=ai bo aR a3 a0 c6 cr;clear bo aR a3 a0 c6 cr
   dsimp only
   refine C.out _ _ ⟨i0,i1⟩ (fun q=>?_)
   clear C K q
   refine XA.e ?_
   simp only [Kc,Ke]
   go_wp2_with fail
   obtain ⟨H,a1⟩:=sL (a4.out.own (bC bf.out 1) (fun i u e=>an aG.out (by decide) bf.out (by rw [u,e]))) (fun i u e=>cO.out i e u) cw.out dr.out
   have dn:=(Below.heap_setCell w7 ⟨j.heap.size,2,none⟩ (.slice A7 (k+1) c7) (j.heap.size+1) (by simp)).trans cx.out
   have cv:=KG w7 j.heap.size 2 _ _ (.slice A7 (k+1) c7) b7.out
   have bO:Keep (fun i=>i=j.heap.size) w7 (w7.setCell ⟨j.heap.size,2,none⟩ (.slice A7 (k+1) c7)):=Keep.setCell (S:=fun i=>i=j.heap.size) (Keep.refl _ _) ⟨j.heap.size,2,none⟩ (.inr rfl) _
   have bb:=bO.own bv.out (fun i u e=>an b7.out (by decide) bv.out (by rw [u,e]))
   have c8:=bO.own H (fun i u e=>an b7.out (by decide) H (by rw [u,e]))
   have d8:Below j.heap.size j (w7.setCell ⟨j.heap.size,2,none⟩ (.slice A7 (k+1) c7)):=
    ((da.out.drew.trans ((a4.out.toBelow (B:=j.heap.size) (by simp;omega) (fun i u=>by omega)))).trans ((((JG _ w6).alloc (by omega) _)).trans d1.out)).setCell (by simp) _
   rw [←m7] at bb
   go_roundw
   case rel=>exact ⟨k+1,by omega,by go_num,A4,c4,A7,c7,dn,cv,c8,bb,fun i u e=>a1 i e u,d8⟩
   case measure=>simp [intOf];omega
  ·obtain rfl:k=n-1:=by omega
   have I:sz.length-1=n-1:=by rw [Hn.out]
   have cs:bY 186 (fB w.heap.size wr) j.heap.size sz:=by
    have dp:=Hb.out.size
    refine ⟨Ac,cc,A1,c1,A2,c2,?_,?_,?_,?_⟩
    ·rw [Hn.out,gY dp];exact HS.out
    ·exact Rd.own (eO (ap cl.out HW.out) (JD _))
    ·rw [I];exact Rd.own (eO ab.out (by omega))
    ·rw [I];exact Rd.own (eO ao.out (by omega))
   have a6:Below w.heap.size w wr:=Hb.out.trans (HW.out.mono Hb.out.size)
   obtain ⟨bw,N,be⟩:=af cs a6 Hb.out.size;clear cs a6 I
   by_cases co:1048576<aZ sz (n-1)
   ·have cy:(1048576:Int)<aZ sz (n-1):=by omega
    go_wp2_with fail
    go_ret2
    exact ⟨N.out,.inl ⟨co,rfl⟩⟩
   ·have cy:¬(1048576:Int)<aZ sz (n-1):=by omega
    go_wp2_with fail
    go_ret2
    first | exact ⟨N.out,by omega,_,rfl,bw.out,be.out⟩ | exact ⟨N.out,.inr ⟨by omega,_,rfl,bw.out,be.out⟩⟩
end Go.Proofs.YtaccfnffmbndhaaGreat
