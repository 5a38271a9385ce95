/- No condition. -/
import Derived.Test.YtgmajkppbhiopaaGreatA00
import Derived.Test.YtgmajkppbhiopaaGreatA01
import Derived.Test.YtgmajkppbhiopaaGreatProg
import Derived.Deep.MidRow
import Derived.RowKit
import Derived.ProofKit
import Derived.OpenShut
import Derived.Deep.Slices
import Derived.WalkSpells
import Derived.BigQuiet
import Derived.Deep.QuietTactic
set_option linter.unusedSimpArgs false
set_option linter.unusedVariables false
set_option maxRecDepth 100000
set_option maxHeartbeats 4000000
namespace Go.Proofs.YtgmajkppbhiopaaGreat
open Go.RowKit
theorem iK {i:Func} {t u v x:Tmp} (h:i.results=#[.tmp t,.tmp u,.tmp v,.tmp x]) (tmps:Array Value) (P:Program) (w:World):
  (results i tmps).run P w=.ok (.tuple #[tmps.getD t undef,tmps.getD u undef,tmps.getD v undef,tmps.getD x undef]) w:=by
 simp [results,h]
theorem CD {X:Nat} {x o:Option Addr} {y v n:Nat} {u:Value} {z:Int} {w:World} (hb:w.heap[X]?=some (.cells #[.slice x n y,.slice o n v,u] 96 (0,0))) (C:z<0∨(n:Int)≤z):
  Calls Tryz.prog 47 #[.pointer (some ⟨X,0,none⟩),FQ z] w fun e i=>e=.returned (.tuple #[.nilIface,.pointer none,.pointer none,.bool false])∧Below w.heap.size w i:=by
 have t:=fun i q=>bx3 (sb hb i q)
 have A:=br w
 clear hb
 by_cases h:z<0
 ·go_enter Tryz.func47,Tryz.ntmps47
  go_wp2_with fail
  (try simp only [Exit.inBlock,Exit.then]);refine E7 (iK rfl _ _ _) rfl ?_
  exact ⟨rfl,br w⟩
 ·have B:(n:Int)≤z:=by omega
  go_enter Tryz.func47,Tryz.ntmps47
  go_wp2_with fail
  (try simp only [Exit.inBlock,Exit.then]);refine E7 (iK rfl _ _ _) rfl ?_
  exact ⟨rfl,br w⟩
theorem DJ {X:Nat} {J B:Option Addr} {Q T n z p:Nat} {O v l N:Value} {I u:List Value} {w:World} (hb:w.heap[X]?=some (.cells #[.slice J n Q,.slice B n T,O] 96 (0,0))) (H:Rd w J I) (x:Rd w B u) (hz:z<n) (hn:n≤1000) (y:(z+n-1)%n=p)
  (L:I[z]?=some v) (hl:u[p]?=some l) (o:u[z]?=some N):
  Calls Tryz.prog 47 #[.pointer (some ⟨X,0,none⟩),FQ (z:Nat)] w fun e h=>e=.returned (.tuple #[v,l,N,.bool true])∧Below w.heap.size w h:=by
 have R:p<n:=by rw [←y];exact Nat.mod_lt _ (by omega)
 obtain ⟨b1,o1,rfl,c1⟩:=H _ _ L
 obtain ⟨b2,o2,rfl,c2⟩:=x _ _ hl
 obtain ⟨b3,o3,U,c3⟩:=x _ _ o
 cases U
 have t:=fun h q=>bx3 (sb hb h q)
 have t1:=fun h (q:Below w.heap.size w h)=>(World.cell?_of_block (q.block _ (au c1))).trans c1
 have t2:=fun h (q:Below w.heap.size w h)=>(World.cell?_of_block (q.block _ (au c2))).trans c2
 have Z:=fun h (q:Below w.heap.size w h)=>(World.cell?_of_block (q.block _ (au c3))).trans c3
 have i:((z:Int)+(n:Int)-1).tmod (n:Int)=(p:Int):=by
  rw [←y,Int.tmod_eq_emod_of_nonneg (by omega),Int.natCast_emod,show ((z+n-1:Nat):Int)=(z:Int)+n-1 by omega]
 have A:((z:Int)+(n:Int)-1)%(n:Int)=(p:Int):=by rw [←Int.tmod_eq_emod_of_nonneg (by omega)];exact i
 have V:¬(n=0):=by omega
 have h1:0≤(z:Int):=by omega
 have h2:(z:Int)<(n:Int):=by omega
 have h3:0≤(p:Int):=by omega
 have h4:(p:Int)<(n:Int):=by omega
 have Y:IntKind.i64.wrap ((z:Int)+n)=(z:Int)+n:=ER _ (by omega)
 have w2:IntKind.i64.wrap ((z:Int)+n-1)=(z:Int)+n-1:=ER _ (by omega)
 have D:IntKind.i64.wrap (p:Int)=(p:Int):=ER _ (by omega)
 have w5:IntKind.i64.wrap (((z:Int)+n-1).tmod n)=(p:Int):=by rw [i];exact D
 have w6:IntKind.i64.wrap (((z:Int)+n-1)%n)=(p:Int):=by rw [A];exact D
 have C:=br w
 clear hb H x y L hl o c1 c2 c3
 go_enter Tryz.func47,Tryz.ntmps47
 go_wp2_with fail
 refine HA.g (fun h:World=>Below w.heap.size w h) ?_
 refine HA.t ?_ [0,1,2,3,4,5,6,7,8,9,10,11,12,13,14,15,16,17,18,19,20,21,22,23,24,25,26,27,28,29] C.drew ?_
 refine HA.d ?_
 have K:=aa C.drew
 go_wp2_with fail
 (try simp only [Exit.inBlock,Exit.then]);refine E7 (iK rfl _ _ _) rfl ?_
 exact ⟨rfl,K.out⟩
end Go.Proofs.YtgmajkppbhiopaaGreat
namespace Go.Proofs.YtgmajkppbhiopaaGreat
section
variable {P:Program} {ops:Array Oper} {Q:Exit→Act→World→Prop} {S:World→Prop}
structure HAS (P:Program) (ops:Array Oper) (Q:Exit→Act→World→Prop) (S:World→Prop) (i:Nat) (L:List Nat) (a:Act) (w:World):Prop where
 out:∃o,ops[i]?=some o∧∀K':Act→World→Prop,Shut (∀a w,S w→(S w→HA P ops Q S (i::L) a w)→K' a w)→if Region.wanted o (yielded ops a.tmps)=true then Oper.wp P o a w K' Q else K' (a.put o.dst undef) w
theorem HAS.c {L:List Nat} {a:Act} {w:World} {i:Nat} {f:FuncId} {args:Array Value} {R:Ending→World→Prop} {o:Oper} (hc:Calls P f args w R)
  (k:∀e u,R e u→∃v,e=.returned v∧S u∧(S u→HA P ops Q S (i::L) (a.put o.dst v) u)) (x:ops[i]?=some o:=by (simp only [Fj,Fk,Fl];rfl))
  (hw:Region.wanted o (yielded ops a.tmps)=true:=by rfl) (he:(execOp a.eval o).run P w=.ok (.enter f args) w:=by go_simp):HAS P ops Q S i L a w:=by
 refine ⟨o,x,fun C B=>?_⟩
 rw [if_pos hw]
 unfold Oper.wp
 rw [he]
 refine hc.mono fun e u A=>?_
 obtain ⟨v,rfl,y,h⟩:=k e u A
 exact B.out _ _ y h
theorem HAS.v {L:List Nat} {a:Act} {w:World} {i:Nat} {o:Oper} (h:World) (v:Value) (x:S h) (k:HA P ops Q S (i::L) (a.put o.dst v) h) (u:ops[i]?=some o:=by (simp only [Fj,Fk,Fl];rfl))
  (hw:Region.wanted o (yielded ops a.tmps)=true:=by rfl) (he:(execOp a.eval o).run P w=.ok (.value v) h:=by go_simp):HAS P ops Q S i L a w:=by
 refine ⟨o,u,fun A y=>?_⟩
 rw [if_pos hw]
 unfold Oper.wp
 rw [he]
 exact y.out _ _ x fun _=>k
theorem HA.two {L:List Nat} {a:Act} {w:World} (i j:Nat) (A:HAS P ops Q S i L a w) (u:HAS P ops Q S j L a w) (hr:bW ops L=[i,j]:=by decide +kernel):HA P ops Q S L a w:=by
 obtain ⟨I,y,A⟩:=A
 obtain ⟨J,o,u⟩:=u
 have C:unl (aL ops.size L)=unl (aL ops.size (i::L))+1:=bQ (by rw [hr];simp)
 have H:unl (aL ops.size L)=unl (aL ops.size (j::L))+1:=bQ (by rw [hr];simp)
 have D:unl (aL ops.size (j::L))=unl (aL ops.size (i::L)):=by omega
 refine ⟨?_⟩
 rw [C]
 refine wpAnyH_ready (by rw [cD];exact hr) (by simp) (AllReadyH.cons y (fun B x=>A B fun a w v hw=>x.out a w v fun h=>(hw h).out) (AllReadyH.cons o (fun B x=>u B fun a w v hw=>x.out a w v fun h=>?_) AllReadyH.nil))
 have:=(hw h).out
 rw [D] at this
 exact this
theorem HA.three {L:List Nat} {a:Act} {w:World} (i j k:Nat) (C:HAS P ops Q S i L a w) (A:HAS P ops Q S j L a w) (hk:HAS P ops Q S k L a w) (hr:bW ops L=[i,j,k]:=by decide +kernel):HA P ops Q S L a w:=by
 obtain ⟨O,B,C⟩:=C
 obtain ⟨R,y,A⟩:=A
 obtain ⟨ok,x,hk⟩:=hk
 have H:unl (aL ops.size L)=unl (aL ops.size (i::L))+1:=bQ (by rw [hr];simp)
 have J:unl (aL ops.size L)=unl (aL ops.size (j::L))+1:=bQ (by rw [hr];simp)
 have N:unl (aL ops.size L)=unl (aL ops.size (k::L))+1:=bQ (by rw [hr];simp)
 have D:unl (aL ops.size (j::L))=unl (aL ops.size (i::L)):=by omega
 have I:unl (aL ops.size (k::L))=unl (aL ops.size (i::L)):=by omega
 refine ⟨?_⟩
 rw [H]
 refine wpAnyH_ready (by rw [cD];exact hr) (by simp) (AllReadyH.cons B (fun v u=>C v fun a w o hw=>u.out a w o fun h=>(hw h).out) (AllReadyH.cons y (fun v u=>A v fun a w o hw=>u.out a w o fun h=>?_) (AllReadyH.cons x (fun v u=>hk v fun a w o hw=>u.out a w o fun h=>?_) AllReadyH.nil)))
 ·have:=(hw h).out
  rw [D] at this
  exact this
 ·have:=(hw h).out
  rw [I] at this
  exact this
end
end Go.Proofs.YtgmajkppbhiopaaGreat
namespace Go.Proofs.YtgmajkppbhiopaaGreat
open Go.RowKit
section
variable {P:Program}
structure dt (P:Program) (t:TypeId) (n:Nat):Prop where
 d:∃d,P.underlying t=some d∧d.isRow=true
 s:(P.info? t).map (·.size)=some n
theorem fu {w:World} {b:Nat} {xs:Array Value} {t:TypeId} {y:Nat×Nat} (h:w.heap[b]?=some (.cells xs t y)) (o:Nat) {u:List Value} (x:(xs.toList.drop o).take u.length=u):w.rangeAt b o u:=fun j v i=>by
 rw [EO w b (o+j) xs t y h]
 rw [←x,List.getElem?_take] at i
 split at i
 ·rw [List.getElem?_drop] at i;simpa using i
 ·cases i
theorem jf (w:World) (g:Nat) (i:Array Value):Keep (fun j=>j=g) w (w.setRow g i):=by
 refine ⟨rfl,rfl,rfl,by simp [World.setRow],fun k hk h=>?_⟩
 simp only [World.setRow,Array.getElem?_modify]
 rw [if_neg (fun e=>h e.symm)]
theorem cE {ops:Array Oper} {rest:List Oper} {op:Oper} {a:Act} {w:World} {Q:Exit→Act→World→Prop} {y:TypeId} {x:Operand} {b o:Nat} {xs:Array Value} {t:TypeId} {I:Nat×Nat} (i:Array Value)
  (hb:w.heap[b]?=some (.cells xs t I)) (hr:dt P y i.size) (u:op.guard=none) (A:op.op=.load y x) (H:a.eval x=.pointer (some ⟨b,o,none⟩)) (v:(xs.toList.drop o).take i.toList.length=i.toList)
  (h:wpList P ops Q rest (a.put op.dst (.agg i)) w):wpList P ops Q (op::rest) a w:=by
 obtain ⟨⟨d,C,B⟩,D⟩:=hr
 exact wpList_load_mid u y x A b o H i.toList d (fu hb o v) C B (by simpa using D) (by simpa using h)
theorem cS {ops:Array Oper} {rest:List Oper} {op:Oper} {a:Act} {w:World} {Q:Exit→Act→World→Prop} {v:TypeId} {x y:Operand} {b n:Nat} {xs i:Array Value} {t:TypeId}
  (hb:w.heap[b]?=some (.cells xs t (0,0))) (hr:dt P v n) (o:op.guard=none) (A:op.op=.store v x y) (I:a.eval x=.pointer (some ⟨b,0,none⟩)) (B:a.eval y=.agg i)
  (hn:i.size=n) (H:xs.size=i.size) (D:i.toList.all (·.oneCell')=true)
  (h:∀u,u.heap[b]?=some (.cells i t (0,0))→Keep (fun j=>j=b) w u→wpList P ops Q rest (a.put op.dst undef) u):wpList P ops Q (op::rest) a w:=by
 refine wpList_plain o fun K C=>?_
 unfold Oper.wp execOp
 simp only [A,I,B,Instr.storeAt,Instr.sureAddr,Sem.run_bind,Sem.run_pure,Result.andThen_ok,run_storeVar_row w b t v xs i hb (by rw [hn];exact hr.s) H (by rw [←Array.all_toList];exact D)]
 exact C _ _ (h _ (setRow_heap w b xs i t (0,0) hb) (jf w b i))
theorem zZ {f:Func} {x:Tmp} {o:TypeId} (h:f.results=#[.cell x o]) {tmps:Array Value} {w:World} {b:Nat} {xs:Array Value} {t:TypeId} {B:Nat×Nat} (A:tmps.getD x undef=.pointer (some ⟨b,0,none⟩))
  (hb:w.heap[b]?=some (.cells xs t B)) (hr:dt P o xs.size):(results f tmps).run P w=.ok (.agg xs) w:=by
 obtain ⟨⟨d,v,u⟩,y⟩:=hr
 have:=run_loadVar_mid (P:=P) w b 0 o xs.toList d (fu hb 0 (by rw [Fo,FB])) v u (by simpa using y)
 rw [Array.toArray_toList] at this
 have i:tmps[x]?.getD undef=.pointer (some ⟨b,0,none⟩):=by simpa using A
 simp [results,h,i,asAddr,this]
theorem qq {f:Func} {x y:Tmp} {o:TypeId} (h:f.results=#[.cell x o,.tmp y]) {tmps:Array Value} {w:World} {b:Nat} {xs:Array Value} {t:TypeId} {C:Nat×Nat} (B:tmps.getD x undef=.pointer (some ⟨b,0,none⟩))
  (hb:w.heap[b]?=some (.cells xs t C)) (hr:dt P o xs.size):(results f tmps).run P w=.ok (.tuple #[.agg xs,tmps.getD y undef]) w:=by
 obtain ⟨⟨d,v,u⟩,A⟩:=hr
 have:=run_loadVar_mid (P:=P) w b 0 o xs.toList d (fu hb 0 (by rw [Fo,FB])) v u (by simpa using A)
 rw [Array.toArray_toList] at this
 have i:tmps[x]?.getD undef=.pointer (some ⟨b,0,none⟩):=by simpa using B
 simp [results,h,i,asAddr,this]
end
section
variable {P:Program} {ops:Array Oper} {Q:Exit→Act→World→Prop} {S:World→Prop} {n:Nat}
theorem oK {S:World→Prop} {a:Act} {o:Oper} {A:TypeId} {x:Operand} {b h:Nat} {xs:Array Value} {t:TypeId} {J:Nat×Nat} (i:Array Value) (hb:∀u,S u→u.heap[b]?=some (.cells xs t J)) (hr:dt P A i.size)
  (v:o.op=.load A x) (I:a.eval x=.pointer (some ⟨b,h,none⟩)) (y:(xs.toList.drop h).take i.toList.length=i.toList) (H:Region.wanted o (yielded ops a.tmps)=true):YieldsIf P ops S o (.agg i) a:=by
 obtain ⟨⟨d,C,B⟩,D⟩:=hr
 have:=yieldsIf_load_mid (P:=P) (ops:=ops) (S:=S) (op:=o) (a:=a) H A x v b h I i.toList d (fun u q=>fu (hb u q) h y) C B (by simpa using D)
 simpa using this
theorem HA.ld {L:List Nat} {a:Act} {w:World} (i:Nat) (y:Array Value) {o:Oper} {B:TypeId} {x:Operand} {b u:Nat} {xs:Array Value} {t:TypeId} {H:Nat×Nat} (hb:∀A,S A→A.heap[b]?=some (.cells xs t H)) (hr:dt P B y.size) (D:S w)
  (k:HA P ops Q S (i::L) (a.put o.dst (.agg y)) w)
  (C:ops[i]?=some o:=by (simp only [Fj,Fk,Fl];rfl)) (hop:o.op=.load B x:=by rfl) (hx:a.eval x=.pointer (some ⟨b,u,none⟩):=by rfl) (hcs:(xs.toList.drop u).take y.toList.length=y.toList:=by rfl) (hg:Region.wanted o (yielded ops a.tmps)=true:=by rfl)
  (hs:Region.noSelect ops=true:=by decide +kernel) (hQ:∀c a w d v,Q (.panic c) (Act.put a d v) w→Q (.panic c) a w:=by (intro _ _ _ d _ h;cases d<;>exact h)) (hc:mG ops L [i]=true:=by decide +kernel):HA P ops Q S L a w:=
 HA.takes hs hQ D [i] hc (Ys.cons C (oK y hb hr hop hx hcs hg) Ys.nil) (by simpa using k)
theorem XA.ld {L:List Nat} {a:Act} {w:World} (i:Nat) (y:Array Value) {o:Oper} {B:TypeId} {x:Operand} {b u:Nat} {xs:Array Value} {t:TypeId} {H:Nat×Nat} (hb:∀A,S A→A.heap[b]?=some (.cells xs t H)) (hr:dt P B y.size) (D:S w)
  (k:XA P ops Q S n (i::L) (a.put o.dst (.agg y)) w)
  (C:ops[i]?=some o:=by (simp only [Fj,Fk,Fl];rfl)) (hop:o.op=.load B x:=by rfl) (hx:a.eval x=.pointer (some ⟨b,u,none⟩):=by rfl) (hcs:(xs.toList.drop u).take y.toList.length=y.toList:=by rfl) (hg:Region.wanted o (yielded ops a.tmps)=true:=by rfl)
  (hs:Region.noSelect ops=true:=by decide +kernel) (hQ:∀c a w d v,Q (.panic c) (Act.put a d v) w→Q (.panic c) a w:=by (intro _ _ _ d _ h;cases d<;>exact h)) (hc:mD ops n L [i]=true:=by decide +kernel):XA P ops Q S n L a w:=
 XA.takes hs hQ D [i] hc (Ys.cons C (oK y hb hr hop hx hcs hg) Ys.nil) (by simpa using k)
theorem HA.st {L:List Nat} {a:Act} {w:World} (i:Nat) {o:Oper} {v:TypeId} {x y:Operand} {b m:Nat} {xs h:Array Value} {t:TypeId} (hb:w.heap[b]?=some (.cells xs t (0,0))) (hr:dt P v m)
  (k:∀u,u.heap[b]?=some (.cells h t (0,0))→Keep (fun j=>j=b) w u→S u∧HA P ops Q S (i::L) (a.put o.dst undef) u)
  (A:ops[i]?=some o:=by (simp only [Fj,Fk,Fl];rfl)) (hop:o.op=.store v x y:=by rfl) (hx:a.eval x=.pointer (some ⟨b,0,none⟩):=by rfl) (hy:a.eval y=.agg h:=by rfl)
  (hn:h.size=m:=by rfl) (hs:xs.size=h.size:=by rfl) (h1:h.toList.all (·.oneCell')=true:=by rfl) (hrd:bW ops L=[i]:=by decide +kernel) (hw:Region.wanted o (yielded ops a.tmps)=true:=by rfl):HA P ops Q S L a w:=by
 obtain ⟨B,k⟩:=k _ (setRow_heap w b xs h t (0,0) hb) (jf w b h)
 refine HA.s i _ B k A hrd hw ?_
 unfold execOp
 simp only [hop,hx,hy,Instr.storeAt,Instr.sureAddr,Sem.run_bind,Sem.run_pure,Result.andThen_ok,run_storeVar_row w b t v xs h hb (by rw [hn];exact hr.s) hs (by rw [←Array.all_toList];exact h1)]
end
def gH (a b q:Int):Int:=if q<0∨62<q then 0 else wrap64 (a*b/2^q.toNat)
def uw (x:Int):Int:=x%18446744073709551616
theorem za (x:Int):0≤uw x∧uw x<18446744073709551616:=by unfold uw;omega
theorem fM (x:Int): -9223372036854775808≤wrap64 x∧wrap64 x≤9223372036854775807:=by unfold wrap64;omega
theorem oN {x y:Int} (h:∃k:Int,x=y+k*18446744073709551616):wrap64 x=wrap64 y:=by
 obtain ⟨k,rfl⟩:=h
 unfold wrap64;omega
theorem wH {x:Int} (h: -9223372036854775808≤x) (i:x≤9223372036854775807):wrap64 x=x:=by unfold wrap64;omega
def dY (a b:Int):Int:=a*b/18446744073709551616
def iL (a b:Int):Int:=uw (a*b)
theorem CM (a b:Int):dY a b*18446744073709551616+iL a b=a*b:=by unfold dY iL uw;omega
theorem DP {a b:Int} (u: -9223372036854775808≤a∧a≤9223372036854775807) (hb: -9223372036854775808≤b∧b≤9223372036854775807): -85070591730234615865843651857942052864≤a*b∧a*b≤85070591730234615865843651857942052864:=by
 have h:a.natAbs≤9223372036854775808:=by omega
 have i:b.natAbs≤9223372036854775808:=by omega
 have o:=Nat.mul_le_mul h i
 rw [←Int.natAbs_mul] at o
 omega
theorem pB {a b:Int} (h: -9223372036854775808≤a∧a≤9223372036854775807) (hb: -9223372036854775808≤b∧b≤9223372036854775807): -9223372036854775808≤dY a b∧dY a b≤9223372036854775807:=by
 have:=DP h hb
 unfold dY;omega
theorem zx (a b:Int) (q:Nat) (o:q≤62):dY a b*2^(64-q)+iL a b/2^q=a*b/2^q:=by
 have e:(18446744073709551616:Int)=2^(64-q)*2^q:=by rw [←Int.pow_add,show 64-q+q=64 by omega];rfl
 have i:(2:Int)^q≠0:=by have:=Int.pow_pos (n:=2) (m:=q) (by decide);omega
 have h:=CM a b
 rw [←h,e,←Int.mul_assoc,Int.add_comm (dY a b*2^(64-q)*2^q),Int.add_mul_ediv_right _ _ i,Int.add_comm]
theorem jI (x y:Int):wrap64 (wrap64 x-y)=wrap64 (x-y):=by unfold wrap64;omega
theorem oT (a b:Int) (x: -9223372036854775808≤a∧a≤9223372036854775807) (hb: -9223372036854775808≤b∧b≤9223372036854775807):
  uw a*uw b=a*b+((if a<0 then b else 0)+(if b<0 then a else 0)+(if a<0∧b<0 then 18446744073709551616 else 0))*18446744073709551616:=by
 by_cases o:a<0
 ·have v:uw a=a+18446744073709551616:=by unfold uw;omega
  by_cases i:b<0
  ·have u:uw b=b+18446744073709551616:=by unfold uw;omega
   rw [v,u,if_pos o,if_pos i,if_pos ⟨o,i⟩,Int.add_mul,Int.mul_add]
   omega
  ·have u:uw b=b:=by unfold uw;omega
   rw [v,u,if_pos o,if_neg i,if_neg (fun h=>i h.2),Int.add_mul]
   omega
 ·have v:uw a=a:=by unfold uw;omega
  by_cases i:b<0
  ·have u:uw b=b+18446744073709551616:=by unfold uw;omega
   rw [v,u,if_neg o,if_pos i,if_neg (fun h=>o h.1),Int.mul_add]
   omega
  ·have u:uw b=b:=by unfold uw;omega
   rw [v,u,if_neg o,if_neg i,if_neg (fun h=>o h.1)]
   omega
theorem yU (a b:Int) (u: -9223372036854775808≤a∧a≤9223372036854775807) (hb: -9223372036854775808≤b∧b≤9223372036854775807):
  wrap64 (uw a*uw b/18446744073709551616-(if a<0 then b else 0)-(if b<0 then a else 0))=dY a b:=by
 rw [oT a b u hb,Int.add_mul_ediv_right _ _ (by decide)]
 have h:=pB u hb
 rw [←wH h.1 h.2]
 refine oN ⟨if a<0∧b<0 then 1 else 0,?_⟩
 unfold dY
 by_cases o:a<0
 ·by_cases i:b<0
  ·simp only [o,i,if_true,and_self];omega
  ·simp only [o,i,if_true,if_false,and_false];omega
 ·by_cases i:b<0
  ·simp only [o,i,if_true,if_false,false_and];omega
  ·simp only [o,i,if_false,false_and];omega
theorem yT (a b:Int) (h: -9223372036854775808≤a∧a≤9223372036854775807) (hb: -9223372036854775808≤b∧b≤9223372036854775807):uw (uw a*uw b)=iL a b:=by
 rw [oT a b h hb]
 unfold iL uw
 rw [Int.add_mul_emod_self_right]
theorem th (a:Int):∃X:Nat,uw a=X∧X<18446744073709551616:=⟨(uw a).toNat,by have:=za a;omega,by have:=za a;omega⟩
def W64 (l:List Int):Prop:=∀k,k<l.length→ -9223372036854775808≤nth l k∧nth l k≤9223372036854775807
theorem vO {l:List Int} {k:Nat} (h:k<l.length):nth l k∈l:=by rw [cW l k h];exact List.getElem_mem h
theorem eN (l:List Int) (k:Nat) (v:Int) (j:Nat):nth (l.set k v) j=if j=k∧k<l.length then v else nth l j:=by
 unfold nth
 simp only [List.getD_eq_getElem?_getD,List.getElem?_set]
 by_cases h:k=j
 ·subst h
  by_cases i:k<l.length
  ·simp [i]
  ·simp [i,List.getElem?_eq_none (show l.length≤k by omega)]
 ·simp [h,Ne.symm h]
theorem W64.set {l:List Int} (h:W64 l) {k:Nat} {v:Int} (i: -9223372036854775808≤v∧v≤9223372036854775807):W64 (l.set k v):=fun j o=>by
 rw [eN]
 split
 ·exact i
 ·exact h j (by simpa using o)
theorem gW {a b:List Int} (hl:a.length=b.length) (h:∀k,k<a.length→nth a k=nth b k):a=b:=by
 refine List.ext_getElem hl fun k i o=>?_
 rw [←cW a k i,←cW b k o]
 exact h k i
def di (n:Nat) (f:Nat→Int):List Int:=(List.range n).map f
theorem aU (n:Nat) (f:Nat→Int):(di n f).length=n:=by simp [di]
theorem cu {n k:Nat} (f:Nat→Int) (h:k<n):nth (di n f) k=f k:=by rw [cW _ _ (by rw [aU];exact h)];simp [di]
theorem kO (n:Nat) (f:Nat→Int):di (n+1) f=di n f++[f n]:=by simp [di,FF]
theorem dZ {n:Nat} {f:Nat→Int} (h:∀k,k<n→ -9223372036854775808≤f k∧f k≤9223372036854775807):W64 (di n f):=fun k hk=>by
 rw [aU] at hk
 rw [cu f hk];exact h k hk
theorem fV {n:Nat} {f g:Nat→Int} (h:∀k,k<n→f k=g k):di n f=di n g:=by
 unfold di;exact List.map_congr_left fun k hk=>h k (List.mem_range.1 hk)
theorem dQ {l:List Int} {n:Nat} {f:Nat→Int} (hl:l.length=n) (h:∀k,k<n→nth l k=f k):l=di n f:=
 gW (by rw [aU,hl]) fun k hk=>by rw [cu f (by omega)];exact h k (by omega)
def iw (l:List Int) (k:Nat) (f:Nat→Int):List Int:=di l.length fun j=>if j<k then f j else nth l j
theorem lm (l:List Int) (k:Nat) (f:Nat→Int):(iw l k f).length=l.length:=aU _ _
theorem gn (l:List Int) (f:Nat→Int):iw l 0 f=l:=(dQ rfl fun k _=>by rw [if_neg (by omega)]).symm
theorem fe {l:List Int} {k:Nat} (f:Nat→Int) {j:Nat} (h:j<l.length):nth (iw l k f) j=if j<k then f j else nth l j:=cu _ h
theorem iu {l:List Int} {k:Nat} (f:Nat→Int) (hk:k<l.length):(iw l k f).set k (f k)=iw l (k+1) f:=by
 refine gW (by simp [lm]) fun j i=>?_
 rw [List.length_set,lm] at i
 rw [eN,fe f i,fe f i,lm]
 by_cases h:j=k
 ·subst h;simp [hk]
 ·by_cases o:j<k
  ·simp [h,o,show j<k+1 by omega]
  ·simp [h,o,show ¬j<k+1 by omega]
theorem iv (l:List Int) (f:Nat→Int):iw l l.length f=di l.length f:=by
 unfold iw;exact fV fun k hk=>by rw [if_pos hk]
def Dj (xs h:List Int) (q:Int):Nat→Int
 | 0=>0
 | k+1=>wrap64 (Dj xs h q k+gH (nth xs k) (nth h k) q)
def qH (xs h:List Int) (q:Int):Int:=Dj xs h q xs.length
def mR (xs:List Int) (a q:Int):List Int:=di xs.length fun k=>gH (nth xs k) a q
def qN (xs h:List Int):List Int:=di xs.length fun k=>wrap64 (nth xs k+nth h k)
def bT (n size:Nat):Nat:=if n=0 then 0 else (n-1)/size+1
theorem yz (n s:Nat) (hn:1≤n):((n:Int)-1)/(s:Int)=(((n-1)/s:Nat):Int):=by
 rw [show ((n:Int)-1)=((n-1:Nat):Int) by omega,←Int.natCast_ediv]
theorem dR (n size:Nat):bT n size≤n:=by
 unfold bT
 split
 ·omega
 ·have:=Nat.div_le_self (n-1) size
  omega
theorem ft {n size k:Nat} (h:k<bT n size):k*size<n:=by
 unfold bT at h
 split at h
 ·omega
 ·have i:k≤(n-1)/size:=by omega
  have o:=FO size i
  have u:=Nat.div_mul_le_self (n-1) size
  omega
def dS (n size k:Nat):List Value:=(List.range k).flatMap fun j=>[FQ ((j*size:Nat):Int),FQ ((min (j*size+size) n:Nat):Int)]
theorem fK (n size k:Nat):dS n size (k+1)=dS n size k++[FQ ((k*size:Nat):Int),FQ ((min (k*size+size) n:Nat):Int)]:=by simp [dS,FF,List.flatMap_append]
theorem mh (n size k:Nat):(dS n size k).length=k*2:=by
 induction k with
 | zero=>simp [dS]
 | succ k ih=>rw [fK,Fp,ih];simp;omega
theorem ve (n size:Nat) {j k:Nat} (h:j<k):(dS n size k)[j*2]?=some (FQ ((j*size:Nat):Int))∧(dS n size k)[j*2+1]?=some (FQ ((min (j*size+size) n:Nat):Int)):=by
 induction k with
 | zero=>omega
 | succ k ih=>
  rw [fK]
  rcases Fa j k with i | i
  ·obtain ⟨o,u⟩:=ih i
   have hl:=mh n size k
   rw [Ft (by omega),Ft (by omega)]
   exact ⟨o,u⟩
  ·obtain rfl:j=k:=by omega
   have hl:=mh n size j
   rw [Fu (by omega),Fu (by omega),hl]
   simp
theorem uZ (n batch:Nat) (hb:1≤batch) (hn:batch≤n):bT (n-n%batch) batch=n/batch:=by
 have v:=Nat.div_add_mod n batch
 have h:=Nat.div_pos hn hb
 have o:n-n%batch=batch*(n/batch):=by omega
 have u:1≤batch*(n/batch):=Nat.mul_pos hb h
 unfold bT
 rw [if_neg (by omega),o]
 have i:batch*(n/batch)-1=batch*(n/batch-1)+(batch-1):=by
  have:batch*(n/batch)=batch*(n/batch-1)+batch:=by rw [←Nat.mul_succ];congr 1;omega
  omega
 rw [i,Nat.mul_add_div hb,show (batch-1)/batch=0 from Nat.div_eq_of_lt (by omega)]
 omega
theorem wN (n batch j:Nat) (hb:1≤batch) (h:j<n/batch):min (j*batch+batch) (n-n%batch)=j*batch+batch:=by
 have o:=Nat.div_add_mod n batch
 have i:(j+1)*batch≤(n/batch)*batch:=FO _ h
 rw [FG] at i
 have u:(n/batch)*batch=batch*(n/batch):=Nat.mul_comm _ _
 omega
theorem mz (n batch j:Nat) (h:j<n/batch):j*batch+batch≤n:=by
 have o:=Nat.div_mul_le_self n batch
 have i:(j+1)*batch≤(n/batch)*batch:=FO _ h
 rw [FG] at i
 omega
theorem qL (n size:Nat) (h:1≤size):bT n size=(n+size-1)/size:=by
 unfold bT
 split
 ·subst_vars;rw [FI,Nat.div_eq_of_lt (by omega)]
 ·rw [show n+size-1=(n-1)+size by omega,Nat.add_div_right _ h]
abbrev Rg:=Nat×Nat
def az (l:List Rg):List Value:=l.flatMap fun r=>[FQ (r.1:Int),FQ (r.2:Int)]
theorem fb (a b:List Rg):az (a++b)=az a++az b:=by simp [az]
theorem jQ:∀l:List Rg,(az l).length=l.length*2
 | []=>rfl
 | r::l=>by have:=jQ l;simp only [az,List.flatMap_cons,Fp,List.length_cons,List.length_nil] at *;omega
theorem ju:∀{l:List Rg} {j:Nat} {r:Rg},l[j]?=some r→(az l)[j*2]?=some (FQ (r.1:Int))∧(az l)[j*2+1]?=some (FQ (r.2:Int))
 | [],_,_,h=>by simp at h
 | x::l,0,r,h=>by simp only [Fl,Option.some.injEq] at h;subst h;exact ⟨rfl,rfl⟩
 | x::l,j+1,r,h=>by
  simp only [Fk] at h
  have:=ju h
  have e:az (x::l)=[FQ (x.1:Int),FQ (x.2:Int)]++az l:=by simp [az]
  rw [e,Fu (by simp;omega),Fu (by simp;omega)]
  simp only [List.length_cons,List.length_nil]
  rw [show (j+1)*2-(0+1+1)=j*2 by omega,show (j+1)*2+1-(0+1+1)=j*2+1 by omega]
  exact this
def dA (n s:Nat):List Rg:=(List.range (bT n s)).map fun j=>(j*s,min (j*s+s) n)
theorem cY (n s:Nat):(dA n s).length=bT n s:=by simp [dA]
theorem lB (n s:Nat):az (dA n s)=dS n s (bT n s):=by simp [az,dA,dS,List.flatMap_map]
def bdN (n k i:Nat):Nat:=i*(n/k)+min i (n%k)
def eh (n k:Nat):List Rg:=(List.range k).map fun i=>(bdN n k i,bdN n k (i+1))
theorem dy (n k:Nat):(eh n k).length=k:=by simp [eh]
def shR (d:Nat) (l:List Rg):List Rg:=l.map fun r=>(r.1+d,r.2+d)
theorem iG (d:Nat) (l:List Rg):(shR d l).length=l.length:=by simp [shR]
def cG (b:Rg) (W:Nat):List Rg:=shR b.1 (eh (b.2-b.1) W)
theorem kg (b:Rg) (W:Nat):(cG b W).length=W:=by rw [cG,iG,dy]
def chR (s:Rg) (c:Nat):List Rg:=shR s.1 (dA (s.2-s.1) c)
def j0 (n s:Nat):List Rg:=(dA n s).reverse
theorem jn (n s:Nat):(j0 n s).length=bT n s:=by rw [j0,List.length_reverse,cY]
def ay (l:List Rg) (j:Nat):Rg:=l.getD j (0,0)
def gS (b:Rg) (W c:Nat):Nat:=((cG b W).map fun s=>(chR s c).length).sum
structure Acn where
 send:Bool
 add:Bool
 st:Nat
 bk:Nat
 ph:Nat
 rd:Nat
 ch:Nat
 at':Rg
def cU (W w ph r:Nat):Nat:=(w+(2*W+ph-r))%W
def dV (W w ph r:Nat):Nat:=(w+(2*W+ph-r-1))%W
def fA (x y:List Rg) (f g:Nat→Rg→Acn):List Acn:=
 (List.range (max x.length y.length)).flatMap fun i=>(if i<x.length then [f i (ay x i)] else [])++(if i<y.length then [g i (ay y i)] else [])
theorem ui (x y:List Rg) (f g:Nat→Rg→Acn):(fA x y f g).length=x.length+y.length:=by
 have h:∀m,((List.range m).flatMap fun i=>(if i<x.length then [f i (ay x i)] else [])++(if i<y.length then [g i (ay y i)] else [])).length=min m x.length+min m y.length:=by
  intro m
  induction m with
  | zero=>simp
  | succ m ih=>
   rw [FF,List.flatMap_append,Fp,ih]
   simp only [List.flatMap_cons,List.flatMap_nil,List.append_nil,Fp]
   by_cases o:m<x.length<;>by_cases u:m<y.length<;>simp [o,u]<;>omega
 unfold fA
 rw [h];omega
def bH (st bk:Nat) (b:Rg) (W c w ph r:Nat):List Acn:=
 fA (chR (ay (cG b W) (cU W w ph r)) c) (chR (ay (cG b W) (dV W w ph r)) c) (fun i s=>⟨true,false,st,bk,ph,r,i,s⟩) (fun i s=>⟨false,ph==0,st,bk,ph,r,i,s⟩)
structure Pln where
 W:Nat
 mi:Nat
 bu:Nat
 ck:Nat
 wi:Nat
 n:Nat
structure Itm where
 kind:Nat
 st:Nat
 n:Nat
 a:Option Acn
def Pln.buks (p:Pln):List Rg:=j0 p.n p.bu
def Pln.grps (p:Pln):List Rg:=dA p.buks.length p.wi
def eO (st:Nat) (a:Acn):Itm:=⟨if a.send then 3 else 4,st,0,some a⟩
def aN (p:Pln) (w st ph r j:Nat):List Itm:=(bH st j (ay p.buks j) p.W p.ck w ph r).map (eO st)
def bU (p:Pln) (w st:Nat) (g:Rg):List Itm:=
 (List.range' g.1 (g.2-g.1)).map (fun j=>⟨2,st,j,none⟩)++
 ((List.range 2).flatMap fun ph=>(List.range (p.W-1)).flatMap fun r=>(List.range' g.1 (g.2-g.1)).flatMap fun j=>aN p w st ph r j)++
 (List.range' g.1 (g.2-g.1)).map (fun j=>⟨5,st,j,none⟩)
def aw (p:Pln) (w st:Nat):List Itm:=
 (List.range p.mi).map (fun a=>⟨1,st,a,none⟩)++p.grps.flatMap (bU p w st)++[⟨6,st,0,none⟩]
def aH (n:Nat) (f:Nat→Nat):Nat:=((List.range n).map f).sum
theorem cJ (n:Nat) (f:Nat→Nat):aH (n+1) f=aH n f+f n:=by simp [aH,FF]
theorem cA {n:Nat} {f g:Nat→Nat} (h:∀k,k<n→f k=g k):aH n f=aH n g:=by
 unfold aH;congr 1;exact List.map_congr_left fun k hk=>h k (List.mem_range.1 hk)
theorem fN (n:Nat) (f g:Nat→Nat):aH n (fun k=>f k+g k)=aH n f+aH n g:=by
 induction n with
 | zero=>rfl
 | succ n ih=>rw [cJ,cJ,cJ,ih];omega
theorem dh (n c:Nat):aH n (fun _=>c)=n*c:=by
 induction n with
 | zero=>simp [aH]
 | succ n ih=>rw [cJ,ih,FG]
theorem fa (n m:Nat) (f:Nat→Nat→Nat):aH n (fun i=>aH m (f i))=aH m (fun j=>aH n (fun i=>f i j)):=by
 induction n with
 | zero=>simp only [aH,List.range_zero,List.map_nil,List.sum_nil];rw [show (fun _:Nat=>0)=fun _=>0 from rfl];exact (dh m 0).symm
 | succ n ih=>rw [cJ,ih,←fN];exact cA fun j _=>(cJ n (fun i=>f i j)).symm
theorem gM (a b:Nat) (f:Nat→Nat):aH (a+b) f=aH a f+aH b (fun k=>f (a+k)):=by
 induction b with
 | zero=>simp [aH]
 | succ b ih=>rw [←FH,cJ,ih,cJ];omega
theorem mK (W a:Nat) (f:Nat→Nat):aH W (fun w=>f ((w+a)%W))=aH W f:=by
 rcases Nat.eq_zero_or_pos W with rfl | u
 ·rfl
 have h:∀d,d<W→aH W (fun w=>f ((w+d)%W))=aH W f:=by
  intro d v
  have i:=gM (W-d) d (fun w=>f ((w+d)%W))
  have o:=gM d (W-d) f
  rw [show W-d+d=W by omega] at i
  rw [show d+(W-d)=W by omega] at o
  rw [i,o,Nat.add_comm]
  congr 1
  ·exact cA fun k hk=>by
    congr 1
    rw [show W-d+k+d=k+W by omega,Nat.add_mod_right,Nat.mod_eq_of_lt (by omega)]
  ·exact cA fun k hk=>by rw [Nat.mod_eq_of_lt (by omega),Nat.add_comm]
 rw [←h (a%W) (Nat.mod_lt _ u)]
 exact cA fun k _=>by rw [Nat.add_mod_mod]
theorem mL {α:Type} (l:List α) (d:α) (f:α→Nat):(l.map f).sum=aH l.length fun k=>f (l.getD k d):=by
 induction l with
 | nil=>rfl
 | cons x l ih=>
  rw [List.map_cons,List.sum_cons,ih,List.length_cons,Nat.add_comm l.length 1,gM 1]
  have:aH 1 (fun k=>f ((x::l).getD k d))=f x:=by simp [aH]
  rw [this]
  congr 1
  exact cA fun k _=>by rw [Nat.add_comm 1 k,List.getD_cons_succ]
theorem uQ {β:Type} (n:Nat) (f:Nat→List β):((List.range n).flatMap f).length=aH n fun k=>(f k).length:=by
 rw [List.length_flatMap];rfl
theorem sD {β:Type} (a n:Nat) (f:Nat→List β):((List.range' a n).flatMap f).length=aH n fun k=>(f (a+k)).length:=by
 rw [List.length_flatMap]
 unfold aH
 rw [List.range'_eq_map_range,List.map_map];rfl
theorem Cb (n s:Nat) (o:1≤s) (f:Nat→Nat):((dA n s).map fun g=>aH (g.2-g.1) fun k=>f (g.1+k)).sum=aH n f:=by
 have h:∀m,m≤bT n s→(((List.range m).map fun j=>(j*s,min (j*s+s) n)).map fun g:Rg=>aH (g.2-g.1) fun k=>f (g.1+k)).sum=aH (min (m*s) n) f:=by
  intro m
  induction m with
  | zero=>intro _;simp [aH]
  | succ m ih=>
   intro hm
   have i:=ft (n:=n) (size:=s) (k:=m) (by omega)
   rw [FF,List.map_append,List.map_append,List.sum_append,ih (by omega)]
   simp only [List.map_cons,List.map_nil,List.sum_cons,List.sum_nil,Nat.add_zero]
   rw [show min (m*s) n=m*s by omega,FG]
   have:=gM (m*s) (min (m*s+s) n-m*s) f
   rw [show m*s+(min (m*s+s) n-m*s)=min (m*s+s) n by omega] at this
   exact this.symm
 have:=h (bT n s) (EM _)
 unfold dA
 rw [this]
 congr 1
 rcases Nat.eq_zero_or_pos n with rfl | hn
 ·simp
 ·have:n≤bT n s*s:=by
   unfold bT
   rw [if_neg (by omega),FG]
   have:=Nat.div_add_mod (n-1) s
   have:=Nat.mod_lt (n-1) (show 0<s by omega)
   have:s*((n-1)/s)=(n-1)/s*s:=Nat.mul_comm _ _
   omega
  omega
theorem fZ (st bk:Nat) (b:Rg) (W c w ph r:Nat):(bH st bk b W c w ph r).length=(chR (ay (cG b W) (cU W w ph r)) c).length+(chR (ay (cG b W) (dV W w ph r)) c).length:=ui _ _ _ _
theorem rS (b:Rg) (W c:Nat):gS b W c=aH W fun s=>(chR (ay (cG b W) s) c).length:=by
 unfold gS
 rw [mL _ (0,0),kg];rfl
theorem tU (st bk:Nat) (b:Rg) (W c ph r:Nat):aH W (fun w=>(bH st bk b W c w ph r).length)=2*gS b W c:=by
 simp only [fZ,fN]
 unfold cU dV
 rw [mK W _ (fun s=>(chR (ay (cG b W) s) c).length),mK W _ (fun s=>(chR (ay (cG b W) s) c).length),←rS]
 omega
theorem uK (p:Pln) (w st:Nat) (g:Rg):(bU p w st g).length=aH (g.2-g.1) fun k=>2+aH 2 fun ph=>aH (p.W-1) fun r=>(aN p w st ph r (g.1+k)).length:=by
 unfold bU
 simp only [Fp,List.length_map,List.length_range',uQ,sD]
 rw [fN,dh]
 have e:(aH 2 fun ph=>aH (p.W-1) fun r=>aH (g.2-g.1) fun k=>(aN p w st ph r (g.1+k)).length)=aH (g.2-g.1) fun k=>aH 2 fun ph=>aH (p.W-1) fun r=>(aN p w st ph r (g.1+k)).length:=by
  rw [cA (g:=fun ph=>aH (g.2-g.1) fun k=>aH (p.W-1) fun r=>(aN p w st ph r (g.1+k)).length) (fun ph _=>fa _ _ _),fa]
 rw [e];omega
theorem jY (p:Pln) (w st:Nat) (hw:1≤p.wi):(aw p w st).length=p.mi+1+aH p.buks.length fun j=>2+aH 2 fun ph=>aH (p.W-1) fun r=>(aN p w st ph r j).length:=by
 unfold aw
 simp only [Fp,List.length_map,List.length_range,List.length_flatMap,List.length_cons,List.length_nil]
 have:((p.grps.map fun a=>(bU p w st a).length)).sum=aH p.buks.length fun j=>2+aH 2 fun ph=>aH (p.W-1) fun r=>(aN p w st ph r j).length:=by
  simp only [uK]
  exact Cb p.buks.length p.wi hw fun j=>2+aH 2 fun ph=>aH (p.W-1) fun r=>(aN p w st ph r j).length
 rw [this];omega
theorem yk (p:Pln) (st:Nat) (hw:1≤p.wi):aH p.W (fun w=>(aw p w st).length)=p.W*(p.mi+2*p.buks.length+1)+(p.buks.map fun b=>4*(p.W-1)*gS b p.W p.ck).sum:=by
 simp only [jY p _ st hw]
 rw [fN,dh,fa]
 have e:∀j,aH p.W (fun w=>2+aH 2 fun ph=>aH (p.W-1) fun r=>(aN p w st ph r j).length)=2*p.W+4*(p.W-1)*gS (ay p.buks j) p.W p.ck:=by
  intro j
  rw [fN,dh,fa]
  have:(aH 2 fun ph=>aH p.W fun w=>aH (p.W-1) fun r=>(aN p w st ph r j).length)=aH 2 fun _=>(p.W-1)*(2*gS (ay p.buks j) p.W p.ck):=by
   refine cA fun ph _=>?_
   rw [fa,←dh]
   refine cA fun r _=>?_
   unfold aN
   simp only [List.length_map]
   exact tU _ _ _ _ _ _ _
  rw [this,dh,Nat.mul_comm p.W 2,show 2*((p.W-1)*(2*gS (ay p.buks j) p.W p.ck))=4*(p.W-1)*gS (ay p.buks j) p.W p.ck by rw [Nat.mul_left_comm (p.W-1) 2,←Nat.mul_assoc,←Nat.mul_assoc]]
 rw [cA (fun j _=>e j),fN,dh,mL _ (0,0)]
 unfold ay
 have:p.W*(p.mi+1)+p.buks.length*(2*p.W)=p.W*(p.mi+2*p.buks.length+1):=by
  rw [show p.mi+2*p.buks.length+1=p.mi+1+2*p.buks.length by omega,Nat.mul_add p.W (p.mi+1),show p.buks.length*(2*p.W)=p.W*(2*p.buks.length) by rw [Nat.mul_left_comm,Nat.mul_comm p.buks.length,Nat.mul_left_comm]]
 omega
end Go.Proofs.YtgmajkppbhiopaaGreat
namespace Go.Proofs.YtgmajkppbhiopaaGreat
theorem sJ (m k:Nat) (hk:0<k):(m%k+1<k→(m+1)/k=m/k∧(m+1)%k=m%k+1)∧(¬m%k+1<k→(m+1)/k=m/k+1∧(m+1)%k=0):=by
 have i:=Nat.div_add_mod m k
 have o:=Nat.mod_lt m hk
 constructor
 ·intro h
  have e:m+1=(m%k+1)+k*(m/k):=by omega
  rw [e,Nat.add_mul_div_left _ _ hk,Nat.add_mul_mod_self_left,Nat.div_eq_of_lt h,Nat.mod_eq_of_lt h]
  omega
 ·intro h
  have e:m+1=k*(m/k+1):=by rw [Nat.mul_succ];omega
  rw [e,Nat.mul_div_cancel_left _ hk,Nat.mul_mod_right]
  exact ⟨rfl,rfl⟩
def szE (k m i:Nat):Nat:=m/k+if i<m%k then 1 else 0
theorem zh {k:Nat} (i:Nat):szE k 0 i=0:=by simp [szE]
theorem zj {k m i:Nat} (v:i<k):szE k (m+1) i=szE k m i+if i=m%k then 1 else 0:=by
 obtain ⟨o,u⟩:=sJ m k (by omega)
 have hm:=Nat.mod_lt m (show 0<k by omega)
 unfold szE
 by_cases h:m%k+1<k
 ·rw [(o h).1,(o h).2]
  split<;>split<;>split<;>omega
 ·rw [(u h).1,(u h).2]
  split<;>split<;>split<;>omega
theorem n4 (n k i:Nat):bdN n k (i+1)=bdN n k i+szE k n i:=by
 unfold bdN szE
 rw [FG]
 split<;>omega
theorem Dp (n k:Nat) (hk:0<k):bdN n k k=n:=by
 unfold bdN
 have h:=Nat.div_add_mod n k
 have i:=Nat.mod_lt n hk
 omega
theorem n5 (n k:Nat) {i j:Nat} (h:i≤j):bdN n k i≤bdN n k j:=by
 unfold bdN
 have:=FO (n/k) h
 omega
theorem eT (n k i:Nat) (hk:0<k) (h:i≤k):bdN n k i≤n:=by
 have:=n5 n k h
 rwa [Dp n k hk] at this
theorem nK (n k m:Nat):(List.range (m+1)).map (fun i=>(bdN n k i,bdN n k (i+1)))=(List.range m).map (fun i=>(bdN n k i,bdN n k (i+1)))++[(bdN n k m,bdN n k (m+1))]:=by
 rw [FF,List.map_append];rfl
end Go.Proofs.YtgmajkppbhiopaaGreat
namespace Go.Proofs.YtgmajkppbhiopaaGreat
open Go.RowKit Go.ChangeShapes Go.WideShapes Go.ChangeAt
abbrev dO (α:Type):=World→List Value→α→Prop
def DE {α:Type} (R:dO α):Prop:=∀{w w':World} {cs:List Value} {a:α},Below w.heap.size w w'→R w cs a→R w' cs a
def bK (l:List (List Value)) (j:Nat):List Value:=l.getD j []
theorem pp {l:List (List Value)} {j:Nat} (h:j<l.length):bK l j=l[j]:=by simp [bK,h]
theorem jm {rows:List (List Value)} {k:Nat} (h:∀r∈rows,r.length=k) (i t:Nat) (o:i<rows.length) (u:t<k):(List.flatten rows)[i*k+t]?=(bK rows i)[t]?:=by
 induction rows generalizing i with
 | nil=>simp at o
 | cons r l ih=>
  have hr:r.length=k:=h r (by simp)
  cases i with
  | zero=>
   rw [List.flatten_cons,Nat.zero_mul,FI,Ft (by omega)]
   simp [bK]
  | succ i=>
   rw [List.flatten_cons,Fu (by rw [hr,Nat.add_mul];omega),hr,show (i+1)*k+t-k=i*k+t by rw [Nat.add_mul];omega,ih (fun r hr=>h r (by simp [hr])) i (by simpa using o)]
   simp [bK]
theorem Bs {rows:List (List Value)} {k:Nat} (h:∀r∈rows,r.length=k):(List.flatten rows).length=rows.length*k:=by
 induction rows with
 | nil=>simp
 | cons r l ih=>rw [List.flatten_cons,Fp,h r (by simp),ih (fun r hr=>h r (by simp [hr])),List.length_cons,Nat.add_mul];omega
theorem yx {rows:List (List Value)} {k:Nat} (h:∀r∈rows,r.length=k):∀n,(List.flatten rows).drop (n*k)=List.flatten (rows.drop n):=by
 induction rows with
 | nil=>intro n;simp
 | cons r l ih=>
  intro n
  cases n with
  | zero=>simp
  | succ n=>
   have hr:=h r (by simp)
   rw [List.flatten_cons,List.drop_append,List.drop_of_length_le (by rw [hr,Nat.add_mul];omega),List.nil_append,hr,show (n+1)*k-k=n*k by rw [Nat.add_mul];omega,ih (fun r hr=>h r (by simp [hr])) n,Fm]
theorem yw {rows:List (List Value)} {k:Nat} (h:∀r∈rows,r.length=k):∀n,(List.flatten rows).take (n*k)=List.flatten (rows.take n):=by
 induction rows with
 | nil=>intro n;simp
 | cons r l ih=>
  intro n
  cases n with
  | zero=>simp
  | succ n=>
   have hr:=h r (by simp)
   rw [List.flatten_cons,List.take_append,List.take_of_length_le (by rw [hr,Nat.add_mul];omega),hr,show (n+1)*k-k=n*k by rw [Nat.add_mul];omega,ih (fun r hr=>h r (by simp [hr])) n,List.take_succ_cons,List.flatten_cons]
def cZ {α:Type} (R:dO α) (size:Nat) (w:World) (A:Option Addr) (l:List α):Prop:=
 ∃rows,Rd w A (List.flatten rows)∧rows.length=l.length∧(∀r∈rows,r.length=size)∧∀j x,l[j]?=some x→R w (bK rows j) x
def rSl {α:Type} (R:dO α) (size:Nat):dO (List α):=fun w h l=>∃A c,h=[.slice A l.length c]∧l.length≤c∧c≤9223372036854775807∧l.length≤17592186043904∧cZ R size w A l
def DM (k:IntKind):dO Int:=fun _ h n=>h=[.int k n]∧(Lit.int k n).wf=true
def vK (q:IntKind):dO (List Int):=fun w h zs=>∃A c,h=[.slice A zs.length c]∧zs.length≤c∧c≤9223372036854775807∧zs.length≤17592186043904∧Rd w A (ar q zs)∧∀z∈zs,(Lit.int q z).wf=true
section
variable {α:Type} {R:dO α} {size:Nat} {w w':World} {A:Option Addr} {l:List α}
theorem cZ.below (u:DE R) (h:cZ R size w A l) (hb:Below w.heap.size w w'):cZ R size w' A l:=by
 obtain ⟨rows,v,i,y,o⟩:=h
 exact ⟨rows,v.below hb,i,y,fun j x B=>u hb (o j x B)⟩
theorem cZ.nil (R:dO α) (size:Nat) (w:World) (A:Option Addr):cZ R size w A []:=⟨[],Rd.nil _ _,rfl,by simp,by simp⟩
theorem cZ.get (h:cZ R size w A l) (H:0<size) {j:Nat} {x:α} (N:l[j]?=some x):
  ∃b o y,A=some ⟨b,o,none⟩∧b<w.heap.size∧y.length=size∧R w y x∧w.cell? ⟨b,o+j*size,none⟩=y[0]?∧∀t,t<size→w.cell? ⟨b,o+j*size+t,none⟩=y[t]?:=by
 obtain ⟨rows,J,O,D,Q⟩:=h
 have v:j<rows.length:=by rw [O];exact (Fq.1 N).1
 have hrl:(bK rows j).length=size:=D _ (by rw [pp v];exact List.getElem_mem v)
 have i:∀t,t<size→∃u,(bK rows j)[t]?=some u:=fun t B=>⟨_,Fr (by omega)⟩
 obtain ⟨T,I⟩:=i 0 H
 obtain ⟨b,o,rfl,c0⟩:=J (j*size+0) T ((jm D j 0 v H).trans I)
 have hc:∀t,t<size→w.cell? ⟨b,o+j*size+t,none⟩=(bK rows j)[t]?:=fun t B=>by
  obtain ⟨u,L⟩:=i t B
  obtain ⟨U,V,C,c⟩:=J (j*size+t) u ((jm D j t v B).trans L)
  injection C with C;injection C with e1 e2 _
  subst e1;subst e2
  rw [FH,c,L]
 refine ⟨b,o,bK rows j,rfl,au c0,hrl,Q j x N,?_,hc⟩
 have:=hc 0 H
 rwa [Nat.add_zero] at this
theorem cZ.drop (h:cZ R size w A l) (C:0<size) (n:Nat) (u:Option Addr) (D:∀b o,A=some ⟨b,o,none⟩→u=some ⟨b,o+n*size,none⟩):cZ R size w u (l.drop n):=by
 by_cases hn:n<l.length
 ·obtain ⟨b,o,_,rfl,_⟩:=h.get C (Fr (show 0<l.length by omega))
  obtain rfl:=D b o rfl
  obtain ⟨rows,B,v,i,y⟩:=h
  refine ⟨rows.drop n,?_,by simp [v],fun r hr=>i r (List.mem_of_mem_drop hr),fun j x H=>?_⟩
  ·rw [←yx i];exact B.drop _
  ·have:=y (n+j) x (by simpa using H)
   simpa [bK] using this
 ·rw [List.drop_of_length_le (by omega)];exact cZ.nil _ _ _ _
theorem cZ.take (h:cZ R size w A l) (n:Nat):cZ R size w A (l.take n):=by
 obtain ⟨rows,B,v,o,y⟩:=h
 refine ⟨rows.take n,?_,by simp [v],fun r hr=>o r (List.mem_of_mem_take hr),fun j x i=>?_⟩
 ·rw [←yw o];exact B.take _
 ·rw [List.getElem?_take] at i
  split at i
  ·rename_i u
   have:=y j x i
   simpa [bK,List.getElem?_take,u] using this
  ·cases i
end
def fH {H:Type} (P:Program) (t:TypeId) (d:DataW H):Prop:=∀n∈d.weights P t,n≤140737488351232
theorem yh {H:Type} {P:Program} {e:TypeId}:∀{l:List (DataW H)},(∀n∈DataW.weightsAll P e l,n≤140737488351232)→∀(i:Nat) (d:DataW H),l[i]?=some d→fH P e d:=by
 intro l
 induction l with
 | nil=>intro _ i d h;simp at h
 | cons x r ih=>
  intro h i d o
  unfold DataW.weightsAll at h
  cases i with
  | zero=>
   simp at o;subst o
   exact fun n hn=>h n (FE.2 (.inl hn))
  | succ i=>exact ih (fun n hn=>h n (FE.2 (.inr hn))) i d (by simpa using o)
theorem no {H:Type} {P:Program}:∀{o:List TypeId} {l:List (DataW H)},(∀n∈DataW.weightsEach P o l,n≤140737488351232)→∀(i:Nat) (t:TypeId) (d:DataW H),o[i]?=some t→l[i]?=some d→fH P t d:=by
 intro o
 induction o with
 | nil=>intro l _ i t d h;simp at h
 | cons t0 o ih=>
  intro l h i t d v u
  cases l with
  | nil=>simp at u
  | cons x r=>
   unfold DataW.weightsEach at h
   cases i with
   | zero=>
    simp at v u;subst v;subst u
    exact fun n hn=>h n (FE.2 (.inl hn))
   | succ i=>exact ih (fun n hn=>h n (FE.2 (.inr hn))) i t d (by simpa using v) (by simpa using u)
theorem iS {H:Type} {P:Program} {o:List TypeId} {l:List (DataW H)} (h:(DataW.weightsEach P o l).all (· ≤reachBytes)=true) {i:Nat} {t:TypeId} {d:DataW H} (x:o[i]?=some t) (u:l[i]?=some d):fH P t d:=
 no (fun n hn=>by have v:n≤reachBytes:=of_decide_eq_true (List.all_eq_true.1 h n hn);exact v) i t d x u
def gD (P:Program) (t:TypeId) (size:Nat) {α:Type} (R:dO α):Prop:=
 P.cellsOf t=size∧∀{H:Type} {enc:TypeId×Value→H} {W:World} {fuel:Nat} {cs:List Value} {x:DataW H×List MemPlace},DataW.trod enc P W 0 (fun _=>true) true fuel t cs=some x→fH P t x.1→cs.length=size∧∃a,R W cs a
theorem pH {P:Program} {t:TypeId} {k:IntKind} (i:P.underlying t=some (.int k)) (hc:P.cellsOf t=1):gD P t 1 (DM k):=⟨hc,fun h _=>by
 obtain ⟨n,rfl,_,hw⟩:=DataW.trod_int i h
 exact ⟨rfl,n,rfl,hw⟩⟩
theorem vI {w:World} {a:Addr} {xs:List Value} (h:∀i u,xs[i]?=some u→w.cell? (a.add i)=some u):Rd w (some a) xs:=fun k u C=>by
 have D:∃y,xs[0]?=some y:=by
  have:=(Fq.1 C).1
  exact ⟨xs[0],Fr (by omega)⟩
 obtain ⟨y,A⟩:=D
 have v:=h 0 y A
 have e:a.add 0=a:=by simp [Addr.add]
 rw [e] at v
 have B:a=⟨a.block,a.off,none⟩:=by
  obtain ⟨b,o,s⟩:=a
  unfold World.cell? at v
  split at v
  ·cases s with
   | none=>rfl
   | some x=>simp at v
  ·cases v
 refine ⟨a.block,a.off,by rw [←B],?_⟩
 have hk:=h k u C
 rw [B,Addr.add_lit] at hk
 exact hk
theorem jU {P:Program} {t e:TypeId} {q:IntKind} (N:P.underlying t=some (.slice e)) (he:P.underlying e=some (.int q)) (hc:P.cellsOf e=1) (O:P.cellsOf t=1) (hb:P.bytesOf e=8):gD P t 1 (vK q):=⟨O,fun {H Y W R V y} h L=>by
 have B:∀a l c,V=[.slice a l c]→l≤17592186043904:=fun a l c I=>by
  rcases Go.Deep.open_slice N h with ⟨o,_⟩ | ⟨a',a0,cap,m,n,D,Pl,o,_,hl,_,U,Z,_⟩
  ·rw [I] at o;injection o with o;injection o with _ o;omega
  ·rw [I] at o;injection o with o;injection o with _ o;subst o
   have hw:=L ((l+(m-l))*8) (by rw [Z];simp [DataW.weights,N,hb])
   omega
 rcases open_ints N he hc h with ⟨rfl,_⟩ | ⟨x,l,c,zs,rfl,_,hl,hm,J,_,A,Q⟩
 ·exact ⟨rfl,[],none,0,rfl,EM _,by omega,by simp,Rd.nil _ _,by simp⟩
 ·have T:=B _ _ _ rfl
  refine ⟨rfl,zs.take l,some x,c,?_,by simp;omega,by unfold maxLen at hm;exact hm,by simp;omega,?_,fun z J=>Q z (List.mem_of_mem_take J)⟩
  ·rw [Fv];simp at J;rw [Nat.min_eq_left (by omega)]
  ·refine vI fun i u C=>?_
   rw [←du,List.getElem?_take] at C
   split at C
   ·rename_i hi
    have v:i<zs.length:=by simp at J;omega
    rw [ji q zs i v] at C
    rw [A i v,←C,cW zs i v]
    simp [List.getD,v]
   ·cases C⟩
theorem rJ {P:Program} {t e:TypeId} {size:Nat} {α:Type} {R:dO α} (ht:P.underlying t=some (.slice e)) (hR:gD P e size R) (a2:P.cellsOf t=1) (hb:8≤P.bytesOf e):gD P t 1 (rSl R size):=⟨a2,fun {H a8 W a6 cs x} h v=>by
 rcases Go.Deep.open_slice ht h with ⟨rfl,_⟩ | ⟨a,o,cap,m,n,D,Pl,rfl,_,hl,hm,N,U,hi⟩
 ·exact ⟨rfl,[],none,0,rfl,EM _,by omega,by simp,cZ.nil _ _ _ _⟩
 ·simp at N
  subst N
  obtain ⟨a4,a0⟩:=hR
  rw [a4] at hi
  have Q:o≤17592186043904:=by
   have hw:=v ((o+(m-o))*P.bytesOf e) (by rw [U];simp [DataW.weights,ht])
   have:=Nat.mul_le_mul_left (o+(m-o)) hb
   omega
  have a1:∀i,i<o→fH P e (D i):=fun i a5=>by
   refine yh (l:=(List.range o).map D) (fun n hn=>v n ?_) i (D i) (by simp [a5])
   rw [U];simp only [DataW.weights,ht]
   exact List.mem_cons_of_mem _ (FE.2 (.inl hn))
  classical
  have I:∀i,i<o→∃B x,W.cells? 0 (a.add (i*size)) size=some B∧B.length=size∧R W B x:=fun i v=>by
   obtain ⟨B,h1,h2⟩:=hi i (by omega)
   obtain ⟨V,x,h4⟩:=a0 h2 (a1 i v)
   exact ⟨B,x,h1,V,h4⟩
  let y:Nat→List Value:=fun i=>if v:i<o then Classical.choose (I i v) else []
  have A:∀i (v:i<o),∃x,W.cells? 0 (a.add (i*size)) size=some (y i)∧(y i).length=size∧R W (y i) x:=fun i v=>by
   have:=Classical.choose_spec (I i v)
   simp only [y,dif_pos v]
   exact this
  let el:(i:Nat)→i<o→α:=fun i v=>Classical.choose (A i v)
  let l:List α:=List.ofFn (n:=o) fun i=>el i.1 i.2
  have C:l.length=o:=by simp [l]
  refine ⟨rfl,l,some a,m,by rw [C],by rw [C];exact hl,by unfold maxLen at hm;exact hm,by rw [C];exact Q,(List.range o).map y,?_,by simp [l],?_,?_⟩
  ·have V:∀r∈(List.range o).map y,r.length=size:=by
    intro r hr
    obtain ⟨i,L,rfl⟩:=List.mem_map.1 hr
    obtain ⟨x,_,h,_⟩:=A i (List.mem_range.1 L)
    exact h
   refine vI fun i u T=>?_
   have v:=(Fq.1 T).1
   rw [Bs V,List.length_map,List.length_range] at v
   have J:0<size:=by
    rcases Nat.eq_zero_or_pos size with h | h
    ·rw [h] at v;omega
    ·exact h
   have O:i=i/size*size+i%size:=by rw [Nat.mul_comm];exact (Nat.div_add_mod i size).symm
   have hq:i/size<o:=Nat.div_lt_of_lt_mul (by rw [Nat.mul_comm];exact v)
   have hr:=Nat.mod_lt i J
   obtain ⟨x,a3,a7,_⟩:=A _ hq
   obtain ⟨_,_,Z⟩:=World.cells?_some a3
   rw [O,jm V _ _ (by simpa using hq) hr] at T
   have e:bK ((List.range o).map y) (i/size)=y (i/size):=by simp [bK,hq]
   rw [e,←Z _ hr] at T
   rw [O]
   rw [Go.Deep.add_add] at T
   exact T
  ·intro r hr
   obtain ⟨i,L,rfl⟩:=List.mem_map.1 hr
   obtain ⟨x,_,h,_⟩:=A i (List.mem_range.1 L)
   exact h
  ·intro j x U
   have hj:j<o:=by rw [←C];exact (Fq.1 U).1
   have e:bK ((List.range o).map y) j=y j:=by simp [bK,hj]
   rw [e]
   have Y:x=el j hj:=by
    have:=Fq.1 U
    obtain ⟨h1,h2⟩:=this
    rw [←h2]
    simp [l]
   rw [Y]
   exact (Classical.choose_spec (A j hj)).2.2⟩
theorem aR {P:Program} {t B:TypeId} {D:Array Field} {size:Nat} {α:Type} {R:dO α} (J:gD P t size R) (u:P.underlying B=some (.struct D)) {H:Type} {A:TypeId×Value→H} {W:World} {n o:Nat} {C:List Value} {x:DataW H×List MemPlace} {xs:List (DataW H×List MemPlace)} (L:x=(.agg (xs.map (·.1)),xs.flatMap (·.2))) (hl:fH P B x.1) {i:Nat}
  (h:DataW.trod A P W 0 (fun _=>true) true n t ((C.drop o).take (P.cellsOf t))=xs[i]?) (I:i<xs.length) (y:(D.toList.map (·.type))[i]?=some t):∃a,R W ((C.drop o).take size) a:=by
 obtain ⟨hc,v⟩:=J
 rw [hc,Fr I] at h
 refine (v h ?_).2
 subst L
 simp only [fH,DataW.weights,u] at hl
 exact no hl i t _ y (by simp [Fr I])
theorem lW {P:Program} {t:TypeId} {size:Nat} {α:Type} {R:dO α} (y:gD P t size R) {H:Type} {i:TypeId×Value→H} {W:World} {v:Value} {d:DataW H} {p:List MemPlace} (h:DataW.Trod i P W 0 (fun _=>true) true t v d p) (hl:fH P t d):∃a,R W v.cells.toList a∧v.cells.toList.length=size:=by
 obtain ⟨o,u⟩:=h
 obtain ⟨A,a,x⟩:=y.2 u hl
 exact ⟨a,x,A⟩
end Go.Proofs.YtgmajkppbhiopaaGreat
namespace Go.Proofs.YtgmajkppbhiopaaGreat
open Go.RowKit
def dX (B:Nat) (w:World):World:={w with heap:=w.heap.mapIdx fun k o=>if k<B then .cells #[] 0 (0,0) else o}
theorem fW (B:Nat) (w:World):(dX B w).heap.size=w.heap.size:=by simp [dX]
theorem fh {B k:Nat} {w:World} (h:B≤k):(dX B w).heap[k]?=w.heap[k]?:=by
 simp only [dX,Array.getElem?_mapIdx]
 have i:¬k<B:=by omega
 simp [i]
theorem kc {B k:Nat} {w:World} (h:k<B) (hk:k<w.heap.size):(dX B w).heap[k]?=some (.cells #[] 0 (0,0)):=by
 simp only [dX,Array.getElem?_mapIdx]
 simp [h,hk]
theorem mA (B:Nat) (w:World):Keep (fun j=>j<B) w (dX B w):=⟨rfl,rfl,rfl,by rw [fW];exact EM _,fun k _ hn=>fh (by omega)⟩
theorem dC {w:World} {B base:Nat} {e:TypeId} {size:Nat} {v:Value} {n:Nat} {xs:List Value} (h:w.ownsRow base e size v n xs) (hB:B≤base):(dX B w).ownsRow base e size v n xs:=
 (mA B w).own h fun k hk hl=>by have:=(h.lt k hk).1;omega
theorem wR {B:Nat} {w i:World} (h:Below w.heap.size w i):Below (dX B w).heap.size (dX B w) (dX B i):=
 ⟨h.os,h.tape,h.output,by rw [fW,fW];exact h.size,fun k hk=>by
  rw [fW] at hk
  rcases Fa k B with hb | hb
  ·rw [kc hb (ET hk h.size),kc hb hk]
  ·rw [fh hb,fh hb,h.block k hk]⟩
def Agr (B:Nat) (u v:World):Prop:=∀k,B≤k→k<u.heap.size→v.heap[k]?=u.heap[k]?
theorem Agr.refl (B:Nat) (u:World):Agr B u u:=fun _ _ _=>rfl
theorem zd {B:Nat} {u v:World} {a:Addr} {x:Value} (h:(dX B u).cell? a=some x) (i:Agr B u v):v.cell? a=some x:=by
 have hl:=au h
 rw [fW] at hl
 rcases Fa a.block B with hb | hb
 ·have o:=kc (w:=u) hb hl
  rw [World.cell?] at h
  simp only [o] at h
  simp at h
 ·exact (World.cell?_of_block (w:=dX B u) ((i _ hb hl).trans (fh hb).symm)).trans h
theorem mC {B:Nat} {u v:World} {b:Nat} {x:Value} {xs:List Value} {t:TypeId} {i:Nat×Nat} (h:(dX B u).heap[b]?=some (.cells (x::xs).toArray t i)) (o:Agr B u v):v.heap[b]?=some (.cells (x::xs).toArray t i):=by
 have hl:=EL h
 rw [fW] at hl
 rcases Fa b B with hb | hb
 ·rw [kc hb hl] at h
  simp at h
 ·rw [o b hb hl,←fh hb];exact h
theorem iE {B:Nat} {u v:World} {A:Option Addr} {xs:List Value} (h:Rd (dX B u) A xs) (i:Agr B u v):Rd v A xs:=fun k x y=>by
 obtain ⟨b,o,e,hc⟩:=h k x y
 exact ⟨b,o,e,zd hc i⟩
theorem wA {B i:Nat} {u:World} (h:B≤i):Agr i u (dX B u):=fun k hk _=>fh (by omega)
def szN (sz:List Int) (k:Nat):Nat:=(nth sz k).toNat
def aZ (sz:List Int):Nat→Nat
 | 0=>0
 | k+1=>aZ sz k+(szN sz k+1)*szN sz (k+1)
def cX (sz:List Int) (k:Nat):Nat:=aZ sz k+szN sz (k+1)*szN sz k
def bE (sz:List Int):Prop:=(2≤sz.length∧sz.length≤16)∧∀k,k<sz.length→1≤nth sz k∧nth sz k≤1048576
def cO (sz:List Int):Prop:=bE sz∧aZ sz (sz.length-1)≤1048576
theorem bE.at {sz:List Int} (h:bE sz) {k:Nat} (hk:k<sz.length):1≤szN sz k∧szN sz k≤1048576∧nth sz k=(szN sz k:Int):=by
 have:=h.2 k hk
 unfold szN;omega
theorem fl (sz:List Int) (k:Nat):cX sz k+szN sz (k+1)=aZ sz (k+1):=by
 unfold cX
 rw [aZ,Nat.add_mul,Nat.one_mul,Nat.mul_comm (szN sz k)];omega
theorem bE.mul {sz:List Int} (h:bE sz) {k:Nat} (hk:k+1<sz.length):szN sz (k+1)*szN sz k≤1099511627776:=by
 have i:=h.at hk
 have o:=h.at (k:=k) (by omega)
 exact Nat.mul_le_mul i.2.1 o.2.1
theorem bE.cnt {sz:List Int} (h:bE sz):∀k,k<sz.length→aZ sz k≤k*1099512676352:=by
 intro k
 induction k with
 | zero=>intro _;simp [aZ]
 | succ k ih=>
  intro hk
  have u:=ih (by omega)
  have o:=h.mul hk
  have v:=(h.at hk).2.1
  have i:=fl sz k
  unfold cX at i
  omega
theorem fg (sz:List Int) {j k:Nat} (h:j≤k):aZ sz j≤aZ sz k:=by
 induction h with
 | refl=>exact EM _
 | step _ ih=>rw [aZ];omega
theorem bE.bound {sz:List Int} (h:bE sz) {k:Nat} (hk:k<sz.length):aZ sz k≤17592202821632:=by
 have i:=h.cnt k hk
 have o:=h.1.2
 have:k*1099512676352≤16*1099512676352:=FO _ (by omega)
 omega
theorem cO.bound {sz:List Int} (h:cO sz) {k:Nat} (hk:k<sz.length):aZ sz k≤1048576:=ES (fg sz (by omega)) h.2
theorem cO.mul {sz:List Int} (h:cO sz) {k:Nat} (hk:k+1<sz.length):szN sz (k+1)*szN sz k≤1048576:=by
 have o:=h.bound hk
 have i:=fl sz k
 unfold cX at i
 omega
def j8 (sz:List Int) (k:Nat):List Value:=(List.range k).flatMap fun j=>[FQ (aZ sz j:Int),FQ (cX sz j:Int)]
def kF (sz:List Int) (k:Nat):List Value:=(List.range k).flatMap fun j=>[FQ (cX sz j:Int),FQ (aZ sz (j+1):Int)]
theorem jK (sz:List Int) (k:Nat):j8 sz (k+1)=j8 sz k++[FQ (aZ sz k:Int),FQ (cX sz k:Int)]:=by simp [j8,FF,List.flatMap_append]
theorem j4 (sz:List Int) (k:Nat):kF sz (k+1)=kF sz k++[FQ (cX sz k:Int),FQ (aZ sz (k+1):Int)]:=by simp [kF,FF,List.flatMap_append]
theorem ii (sz:List Int) (k:Nat):(j8 sz k).length=k*2:=by
 induction k with
 | zero=>rfl
 | succ k ih=>rw [jK,Fp,ih];simp;omega
theorem iz (sz:List Int) (k:Nat):(kF sz k).length=k*2:=by
 induction k with
 | zero=>rfl
 | succ k ih=>rw [j4,Fp,ih];simp;omega
theorem yW (sz:List Int) {j n:Nat} (h:j<n):(j8 sz n)[j*2]?=some (FQ (aZ sz j:Int))∧(j8 sz n)[j*2+1]?=some (FQ (cX sz j:Int)):=by
 induction n with
 | zero=>omega
 | succ n ih=>
  rw [jK]
  by_cases i:j<n
  ·have:=ih i
   rw [Ft (by rw [ii];omega),Ft (by rw [ii];omega)]
   exact this
  ·obtain rfl:j=n:=by omega
   rw [Fu (by rw [ii];omega),Fu (by rw [ii];omega),ii]
   simp
theorem Cg (sz:List Int) {j n:Nat} (h:j<n):(kF sz n)[j*2]?=some (FQ (cX sz j:Int))∧(kF sz n)[j*2+1]?=some (FQ (aZ sz (j+1):Int)):=by
 induction n with
 | zero=>omega
 | succ n ih=>
  rw [j4]
  by_cases i:j<n
  ·have:=ih i
   rw [Ft (by rw [iz];omega),Ft (by rw [iz];omega)]
   exact this
  ·obtain rfl:j=n:=by omega
   rw [Fu (by rw [iz];omega),Fu (by rw [iz];omega),iz]
   simp
def aY (T:TypeId) (w:World) (b:Nat) (sz:List Int):Prop:=∃A1 c1 h c2 i c3,
 w.heap[b]?=some (.cells #[.slice A1 sz.length c1,.slice h (sz.length-1) c2,.slice i (sz.length-1) c3,FQ (aZ sz (sz.length-1):Int)] T (0,0))∧
 Rd w A1 (ar .i64 sz)∧Rd w h (j8 sz (sz.length-1))∧Rd w i (kF sz (sz.length-1))
theorem aY.below {T:TypeId} {w i:World} {b:Nat} {sz:List Int} (h:aY T w b sz) (hb:Below w.heap.size w i):aY T i b sz:=by
 obtain ⟨A1,c1,v,c2,u,c3,o,y,x,A⟩:=h
 exact ⟨A1,c1,v,c2,u,c3,(hb.block b (EL o)).trans o,y.below hb,x.below hb,A.below hb⟩
theorem aY.lt {T:TypeId} {w:World} {b:Nat} {sz:List Int} (h:aY T w b sz):b<w.heap.size:=by
 obtain ⟨A1,c1,u,c2,o,c3,i,_⟩:=h
 exact EL i
theorem fq:cH Tryz.prog 22 3 (FQ 0) 1 8:=⟨Tryz.underlying22,info_parts (by kernel_rfl),rfl,by decide⟩
theorem iU (A:Option Addr) (zs:List Int) (c:Nat) (w:World) (C:Rd w A (ar .i64 zs)) (hl:zs.length≤17592186043904):
  Calls Tryz.prog 40 #[.slice A zs.length c] w fun e B=>∃v,e=.returned v∧B.ownsRow w.heap.size 3 1 v zs.length (ar .i64 zs)∧Below w.heap.size w B:=by
 have q:=fun (w:World)=>Lib.run_eql_slice_nil (P:=Tryz.prog) w 22 3 A zs.length c 0 0 Tryz.underlying22
 cases A with
 | none=>
  have D:zs=[]:=by
   cases zs with
   | nil=>rfl
   | cons z l=>obtain ⟨b,o,h,_⟩:=C 0 _ rfl;cases h
  subst D
  clear q
  have q:=fun (w:World)=>Lib.run_eql_slice_nil (P:=Tryz.prog) w 22 3 none 0 c 0 0 Tryz.underlying22
  simp only [Option.isNone_none] at q
  rw [List.length_nil]
  go_enter Tryz.func40,Tryz.ntmps40
  go_wp2
  go_ret
  exact ⟨_,rfl,EZ _ _ _ _,EP _ _⟩
 | some a=>
  go_enter Tryz.func40,Tryz.ntmps40
  go_wp2_with (at_builtin;refine dE fq _ rfl (.tmp 5) (.tmp 6) rfl w.heap.size _ 0 [] rfl (fP w 3 1) _ zs.length c (ar .i64 zs) rfl (C.alloc _) (by rw [aK];omega) (bj _ _) (by omega) (by unfold maxLen;omega) (by simp) ?_)
  intro J I H i hb _ _
  have x:=((EP _ w).alloc (EM _) (.cells #[] 3)).trans hb
  obtain ⟨u,y⟩:=ab i x;clear i hb x
  go_wp2
  go_ret
  exact ⟨_,rfl,u.out,y.out⟩
theorem lQ (b:Nat) (sz:List Int) (w:World) (h:aY 212 w b sz) (hl:sz.length≤17592186043904):
  Calls Tryz.prog 240 #[.pointer (some ⟨b,0,none⟩)] w fun e x=>∃A c,e=.returned (.slice A sz.length c)∧x.ownsRow w.heap.size 3 1 (.slice A sz.length c) sz.length (ar .i64 sz)∧Below w.heap.size w x:=by
 obtain ⟨A1,c1,Y,c2,V,c3,y,B,D,O⟩:=h
 obtain ⟨⟨J,H,Q,C⟩,L⟩:=bx4 y
 have hc:=iU A1 sz c1 w B hl
 have I:=aa hc;clear hc y B D O
 go_enter Tryz.func240,Tryz.ntmps240
 go_wp2_with fail
 refine I.out.mono ?_
 rintro e R ⟨v,rfl,i,hb⟩
 obtain ⟨U,T,rfl,u⟩:=av i
 obtain ⟨o,N⟩:=ab i hb;clear i hb u;clear J H Q C L
 go_wp2
 go_ret
 exact ⟨_,_,rfl,o.out,N.out⟩
theorem gN (b:Nat) (sz:List Int) (w:World) (h:aY 212 w b sz):
  Calls Tryz.prog 241 #[.pointer (some ⟨b,0,none⟩)] w fun e o=>e=.returned (FQ ((sz.length-1:Nat):Int))∧w=o:=by
 obtain ⟨A1,c1,C,c2,A,c3,i,v,u,x⟩:=h
 obtain ⟨⟨H,D,y,B⟩,I⟩:=bx4 i
 clear i v u x
 go_enter Tryz.func241,Tryz.ntmps241
 go_wp2
 go_ret
 exact ⟨rfl,rfl⟩
theorem gO (b:Nat) (sz:List Int) (w:World) (h:aY 212 w b sz):
  Calls Tryz.prog 79 #[.pointer (some ⟨b,0,none⟩)] w fun e o=>e=.returned (FQ (aZ sz (sz.length-1):Int))∧w=o:=by
 obtain ⟨A1,c1,C,c2,A,c3,i,v,u,x⟩:=h
 obtain ⟨⟨H,D,y,B⟩,I⟩:=bx4 i
 clear i v u x
 go_enter Tryz.func79,Tryz.ntmps79
 go_wp2
 go_ret
 exact ⟨rfl,rfl⟩
theorem jF (b:Nat) (sz:List Int) (k:Nat) (w:World) (h:aY 212 w b sz) (hl:sz.length≤17592186043904) (hk:k<sz.length-1):
  Calls Tryz.prog 242 #[.pointer (some ⟨b,0,none⟩),FQ k] w fun e o=>e=.returned (.agg #[FQ (aZ sz k:Int),FQ (cX sz k:Int)])∧Below w.heap.size w o:=by
 have i:=fun o (hb:Below w.heap.size w o)=>gN b sz o (h.below hb)
 have Q:=h.lt
 obtain ⟨A1,c1,A2,c2,A3,c3,y,O,u,D⟩:=h
 obtain ⟨n,hn⟩:∃n,sz.length-1=n:=⟨_,rfl⟩
 rw [hn] at y u D hk i
 obtain ⟨⟨Z,Y,r2,V⟩,rf⟩:=bx4 y
 obtain ⟨H,C⟩:=yW sz hk
 obtain ⟨b2,B,rfl,R⟩:=u _ _ H
 obtain ⟨N,I,A,L⟩:=u _ _ C
 injection A with A;injection A with e3 e4 _
 subst e3;subst e4
 rw [show B+(k*2+1)=B+k*2+1 by omega] at L
 have U:=au R
 have x:=aa i
 have T:n≤17592186043904:=by omega
 clear i y O u D H C hn hl
 go_enter Tryz.func242,Tryz.ntmps242
 go_wp2_with fail
 refine (x.out _ ?_).mono ?_
 ·exact ak
 rintro e o ⟨rfl,rfl⟩
 have J:(k:Int)<n:=by omega
 go_wp2_with fail
 refine E7 (v:=.agg #[FQ (aZ sz k:Int),FQ (cX sz k:Int)]) (by simp [results,Tryz.results242,go_sem]) rfl ⟨rfl,?_⟩
 exact ak
theorem kf (b:Nat) (sz:List Int) (k:Nat) (w:World) (h:aY 212 w b sz) (hl:sz.length≤17592186043904) (hk:k<sz.length-1):
  Calls Tryz.prog 243 #[.pointer (some ⟨b,0,none⟩),FQ k] w fun e o=>e=.returned (.agg #[FQ (cX sz k:Int),FQ (aZ sz (k+1):Int)])∧Below w.heap.size w o:=by
 have i:=fun o (hb:Below w.heap.size w o)=>gN b sz o (h.below hb)
 have Q:=h.lt
 obtain ⟨A1,c1,A2,c2,A3,c3,y,O,B,u⟩:=h
 obtain ⟨n,hn⟩:∃n,sz.length-1=n:=⟨_,rfl⟩
 rw [hn] at y B u hk i
 obtain ⟨⟨Z,Y,r2,V⟩,rf⟩:=bx4 y
 obtain ⟨H,D⟩:=Cg sz hk
 obtain ⟨b2,C,rfl,R⟩:=u _ _ H
 obtain ⟨N,I,A,L⟩:=u _ _ D
 injection A with A;injection A with e3 e4 _
 subst e3;subst e4
 rw [show C+(k*2+1)=C+k*2+1 by omega] at L
 have U:=au R
 have x:=aa i
 have T:n≤17592186043904:=by omega
 clear i y O B u H D hn hl
 go_enter Tryz.func243,Tryz.ntmps243
 go_wp2_with fail
 refine (x.out _ ?_).mono ?_
 ·exact ak
 rintro e o ⟨rfl,rfl⟩
 have J:(k:Int)<n:=by omega
 go_wp2_with fail
 refine E7 (v:=.agg #[FQ (cX sz k:Int),FQ (aZ sz (k+1):Int)]) (by simp [results,Tryz.results243,go_sem]) rfl ⟨rfl,?_⟩
 exact ak
end Go.Proofs.YtgmajkppbhiopaaGreat
