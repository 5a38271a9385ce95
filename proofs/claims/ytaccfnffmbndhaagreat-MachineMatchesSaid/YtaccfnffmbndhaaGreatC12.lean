/- No condition. -/
import Derived.Test.YtaccfnffmbndhaaGreatC00
import Derived.Test.YtaccfnffmbndhaaGreatC10
import Derived.Test.YtaccfnffmbndhaaGreatC03
import Derived.Test.YtaccfnffmbndhaaGreatC02
import Derived.Deep.MidRow
import Derived.Test.YtaccfnffmbndhaaGreatC11
set_option linter.unusedSimpArgs false
set_option linter.unusedVariables false
set_option maxRecDepth 100000
set_option maxHeartbeats 4000000
namespace Go.Proofs.YtaccfnffmbndhaaGreat
open Go.RowKit
theorem xu (S n b steps t:Nat) (l:List Int) (w:World) (h:eN w S n b steps l) (hb:1≤b) (hn:n≤1048576) (q:1≤n/b) (Q:steps≤1048576) (ht:t<steps):
  Calls Tryz.prog 175 #[.pointer (some ⟨S,0,none⟩),KL t] w fun e w'=>∃A c,e=.returned (.slice A b c)∧b≤c∧Rd w' A (aq .i64 (db l n b t))∧Below w.heap.size w w':=by
 have o:=xD S n b steps t l w h hn q Q ht
 obtain ⟨Ab,cb,Ao,co,vs,h1,J,h3,h4,h5⟩:=h
 have U:=Nat.div_le_self n b
 have he:=wJ (n:=n) (b:=b) ht
 have hm:=Nat.mod_lt t q
 have B:=nh n b _ hm
 have H:=AD n b _ hb hm
 have i:=zh (n-n%b) b hm
 rw [H] at i
 obtain ⟨A1,c1,Z,k2,L⟩:=h5 _ he
 have x:db l n b t=((fz l n ((t/(n/b))*(n-1))).drop (t%(n/b)*b)).take b:=rfl
 rw [x]
 have V:epN n b steps≤steps:=fu _ _
 obtain ⟨pl,u⟩:∃pl,fz l n ((t/(n/b))*(n-1))=pl:=⟨_,rfl⟩
 have a0:pl.length=n:=by rw [←u];exact iN _ _ _
 rw [u] at L ⊢
 obtain ⟨E,hE⟩:∃E,epN n b steps=E:=⟨_,rfl⟩
 rw [hE] at he h1 h4 V
 obtain ⟨O,v⟩:∃O,t/(n/b)=O:=⟨_,rfl⟩
 obtain ⟨N,I⟩:∃N,t%(n/b)=N:=⟨_,rfl⟩
 rw [v] at o he Z
 rw [I] at o hm B i ⊢
 obtain ⟨nb,hnb'⟩:∃nb,n/b=nb:=⟨_,rfl⟩
 rw [hnb'] at h1 J q hm U i
 obtain ⟨lo,C⟩:∃lo,N*b=lo:=⟨_,rfl⟩
 rw [C] at B i ⊢
 obtain ⟨bb,ob,rfl,q0⟩:=J _ _ i.1
 obtain ⟨_,_,X,q1⟩:=J _ _ i.2
 injection X with X;injection X with i1 i2 _;subst i1;subst i2
 obtain ⟨bo,oo,rfl,Y⟩:=h3 _ _ Z
 obtain ⟨bg,og,rfl,q3⟩:=L.num (show 0<pl.length by omega)
 rw [←Ky] at q1
 have a6:(N:Int)<nb:=by omega
 have aM:(O:Int)<E:=by omega
 have a3:(lo:Int)≤((lo+b:Nat):Int):=by omega
 have ab:((lo+b:Nat):Int)≤c1:=by omega
 have a7:lo≤lo+b:=by omega
 have ad:lo+b≤c1:=by omega
 have aG:¬(c1=lo):=by omega
 have b1:bo<w.heap.size:=ar Y
 have b2:bb<w.heap.size:=ar q0
 obtain ⟨⟨r0,r1,r2,r3⟩,rf⟩:=bx4 h1
 have b3:S<w.heap.size:=JC h1
 obtain ⟨H1,R,K3⟩:=af h1 o L;clear o L h1 J h3 h4 h5 hE v I hnb' C u a0 i Z q3 H x
 go_enter Tryz.func175,Tryz.ntmps175
 go_wp2_with fail
 refine R.out.mono ?_
 rintro e w' ⟨rfl,d,rfl⟩
 have j:Below w.heap.size w (w.drewN d):=JN (JG _ _) d
 have p:(w.drewN d).heap.size=w.heap.size:=by simp
 generalize w.drewN d=w1 at j p ⊢
 have a8:=am j q0
 have a5:=am j q1
 have aR:=am j Y
 have y:=(j.block _ b3).trans H1.out
 obtain ⟨⟨y0,y1,y2,y3⟩,yf⟩:=bx4 y
 rw [←p] at b1 b2 b3
 obtain ⟨D,T⟩:=ae j p;clear q0 q1 Y r0 r1 r2 r3 rf j p y
 go_wp2_with fail
 have ao:(lo:Int)+b≤c1:=by omega
 have av:((lo:Int)+b).toNat=lo+b:=by omega
 have a2:(0:Int)≤(lo:Int)+b:=by omega
 have aP:(lo:Int)≤(lo:Int)+b:=by omega
 have a1:lo+b-lo=b:=by omega
 have a4:¬(lo+b=lo):=by omega
 go_quiet (fail)
 go_wp2_with fail
 go_ret
 refine ⟨_,_,rfl,JD _,?_,JN (D.out.alloc (by have:=T.out;omega) _) _⟩
 have:=((((K3.out.below D.out).alloc (.cells #[KL (lo:Int),KL ((lo:Int)+b)] 52)).drewN nq).drop lo).take b
 rwa [cV,cK] at this
def cH (l:List Int) (k i:Nat):List Int:=(l.drop (bdN l.length k i)).take (bdN l.length k (i+1)-bdN l.length k i)
theorem ja (l:List Int) {k i:Nat} (o:1≤k) (j:i<k):(cH l k i).length=bdN l.length k (i+1)-bdN l.length k i:=by
 have h1:=fD l.length k (i+1) o j
 simp only [cH,Kk,Kn]
 omega
def gQ (l:List Int) (W x mi a:Nat):List Int:=cH (cH l W x) mi a
def xh (L:List Int) (m:Nat) (w:World) (e:Ending) (i:World):Prop:=∃j o,e=.returned (.slice j m o)∧m≤o∧Rd i j (aq .i64 L)∧Below w.heap.size w i
theorem sK (A:Option Addr) (l:List Int) (c k i:Nat) (w:World) (hA:Rd w A (aq .i64 l)) (hc:l.length≤c) (hl:l.length≤1048576) (hn:0<l.length) (J:1≤k) (I:k≤1048576) (H:i<k):
  Calls Tryz.prog 176 #[.slice A l.length c,KL i,KL k] w (xh (cH l k i) (cH l k i).length w):=by
 have q:=wF l.length k w J I hl
 obtain ⟨b,o,rfl,_⟩:=hA.num hn
 have u:=ja l J H
 have D:cH l k i=(l.drop (bdN l.length k i)).take (bdN l.length k (i+1)-bdN l.length k i):=rfl
 have h1:=nV l.length k (Nat.le_succ i)
 have O:=fD l.length k (i+1) J H
 have hg:=dH (l:=fA l.length k) (j:=i) (by rw [ft];exact H)
 have hr:aO (fA l.length k) i=(bdN l.length k i,bdN l.length k (i+1)):=by
  rw [cF _ _ (by rw [ft];exact H)];simp [fA]
 rw [hr] at hg
 rw [u]
 obtain ⟨P,hP⟩:∃P,cH l k i=P:=⟨_,rfl⟩
 obtain ⟨lo,C⟩:∃lo,bdN l.length k i=lo:=⟨_,rfl⟩
 obtain ⟨p,x⟩:∃p,bdN l.length k (i+1)=p:=⟨_,rfl⟩
 simp only [Nat.succ_eq_add_one] at h1
 rw [hP] at D ⊢
 rw [C,x] at D h1 hg ⊢
 rw [x] at O
 obtain ⟨V,R⟩:∃V,aF (fA l.length k)=V:=⟨_,rfl⟩
 rw [R] at q hg
 obtain ⟨n,B⟩:∃n,l.length=n:=⟨_,rfl⟩
 rw [B] at q hc hl hn O ⊢
 have Z:(i:Int)<k:=by omega
 have a0:¬(i:Int)<0:=by omega
 obtain ⟨L,HA,Q,T⟩:=ag q hA hg D;clear q hA hg D hr u hP C x B R
 go_enter Tryz.func176,Tryz.ntmps176
 go_wp2_with fail
 refine L.out.mono ?_
 rintro e w1 ⟨v,rfl,ov,N⟩
 obtain ⟨g,cv,rfl,_⟩:=ov.form (by omega)
 have c0:=ov.cellAt (i*2) (by omega)
 have c1:=ov.cellAt (i*2+1) (by omega)
 rw [Q.out.1] at c0
 rw [Q.out.2] at c1
 have lg:=(ov.lt g rfl).2
 have y:=aa N;clear ov N
 by_cases X:p=lo
 ·subst X
  go_wp2_with fail
  go_ret
  refine ⟨_,0,by rw [Nat.sub_self];rfl,by omega,?_,y.out.alloc y.out.size _⟩
  rw [T.out,Nat.sub_self,List.take_zero]
  exact Rd.nil _ _
 ·have U:¬(p:Int)=lo:=by omega
  have Y:¬p-lo=0:=by omega
  go_wp2_with fail
  go_ret
  refine ⟨_,_,rfl,JD _,?_,y.out.alloc y.out.size _⟩
  have:=(((HA.out.below y.out).alloc (.cells #[KL (lo:Int),KL (p:Int)] 52)).drop lo).take (p-lo)
  rwa [cV,cK,←T.out] at this
theorem Cc (S n b steps t W x mi a:Nat) (l:List Int) (w:World) (h:eN w S n b steps l) (hb:1≤b) (a3:b≤n) (hn:n≤1048576) (Y:steps≤1048576) (ht:t<steps) (Z:1≤W) (a5:W≤b) (hx:x<W) (hm:1≤mi) (a0:mi≤1048576) (ha:a<mi):
  Calls Tryz.prog 147 #[.pointer (some ⟨S,0,none⟩),KL t,KL x,KL W,KL a,KL mi] w (xh (gQ (db l n b t) W x mi a) (gQ (db l n b t) W x mi a).length w):=by
 have O:1≤n/b:=Nat.div_pos a3 hb
 have p:=gX l (t:=t) O
 have hv:=fun i (q:Below w.heap.size w i)=>xu S n b steps t l i (h.below q) hb hn O Y ht
 obtain ⟨B,hB⟩:∃B,db l n b t=B:=⟨_,rfl⟩
 rw [hB] at p hv ⊢
 have hP:=ja B Z hx
 have T:bdN B.length W x+1≤bdN B.length W (x+1):=by
  rw [nU]
  have:1≤B.length/W:=Nat.div_pos (by omega) (by omega)
  unfold szE
  omega
 have j:=fun A c i (hA:Rd i A (aq .i64 B)) (hc:B.length≤c)=>sK A B c W x i hA hc (by omega) (by omega) Z (by omega) hx
 obtain ⟨Q,V⟩:∃Q,cH B W x=Q:=⟨_,rfl⟩
 have H:gQ B W x mi a=cH Q mi a:=by unfold gQ;rw [V]
 rw [V] at hP j
 have C:Q.length≤1048576:=by have:=fD B.length W (x+1) Z hx;omega
 have o:=fun A c i (hA:Rd i A (aq .i64 Q)) (hc:Q.length≤c)=>sK A Q c mi a i hA hc C (by omega) hm a0 ha
 have N:=ja Q hm ha
 have U:=fD Q.length mi (a+1) hm ha
 rw [H]
 obtain ⟨M,hM⟩:∃M,cH Q mi a=M:=⟨_,rfl⟩
 rw [hM] at o N ⊢
 have u:=fun A c i (hA:Rd i A (aq .i64 M))=>kw A M c i hA (by omega)
 rw [p] at j
 obtain ⟨qn,y⟩:∃qn,Q.length=qn:=⟨_,rfl⟩
 rw [y] at j o
 obtain ⟨R,L⟩:∃R,M.length=R:=⟨_,rfl⟩
 rw [L] at o u ⊢
 obtain ⟨Hv,X,a1,a2⟩:=ag hv j o u;clear hv j o u h N U hP T p C L y hM H V hB
 go_enter Tryz.func147,Tryz.ntmps147
 go_wp2_with fail
 refine (Hv.out w (br w)).mono ?_
 rintro e w1 ⟨A1,c1,rfl,D,r1,k1⟩
 obtain ⟨H1,K1⟩:=ae (X.out A1 c1 w1 r1 D) k1;clear D r1 k1
 go_wp2_with fail
 refine H1.out.mono ?_
 rintro e w2 ⟨A2,c2,rfl,J,r2,k2⟩
 obtain ⟨H2,K2⟩:=ae (a1.out A2 c2 w2 r2 J) (bt K1.out k2);clear J r2 k2
 go_wp2_with fail
 refine H2.out.mono ?_
 rintro e w3 ⟨A3,c3,rfl,a4,r3,k3⟩
 obtain ⟨H3,K3⟩:=ae (a2.out A3 c3 w3 r3) (bt K2.out k3);clear a4 r3 k3
 go_wp2_with fail
 refine H3.out.mono ?_
 rintro e w4 ⟨v,rfl,o4,k4⟩
 obtain ⟨A4,c4,rfl,I⟩:=aw o4
 have HP:=aa (⟨A4,c4,rfl,I,Rd.own o4,bt K3.out k4⟩:xh M R w (.returned (.slice A4 R c4)) w4);clear o4 k4 I
 go_wp2_with fail
 go_ret
 exact HP.out
end Go.Proofs.YtaccfnffmbndhaaGreat
namespace Go.Proofs.YtaccfnffmbndhaaGreat
section
variable {P:Program} {ops:Array Oper} {Q:Exit→Act→World→Prop} {S:World→Prop}
structure HAS (P:Program) (ops:Array Oper) (Q:Exit→Act→World→Prop) (S:World→Prop) (i:Nat) (L:List Nat) (a:Act) (w:World):Prop where
 out:∃o,ops[i]?=some o∧∀K':Act→World→Prop,Shut (∀a w,S w→(S w→HA P ops Q S (i::L) a w)→K' a w)→if Region.wanted o (yielded ops a.tmps)=true then Oper.wp P o a w K' Q else K' (a.put o.dst undef) w
theorem HAS.c {L:List Nat} {a:Act} {w:World} {i:Nat} {f:FuncId} {args:Array Value} {R:Ending→World→Prop} {o:Oper} (hc:Calls P f args w R)
  (k:∀e j,R e j→∃v,e=.returned v∧S j∧(S j→HA P ops Q S (i::L) (a.put o.dst v) j)) (p:ops[i]?=some o:=by (simp only [J1,Ka,Kb];rfl))
  (hw:Region.wanted o (yielded ops a.tmps)=true:=by rfl) (he:(execOp a.eval o).run P w=.ok (.enter f args) w:=by go_simp):HAS P ops Q S i L a w:=by
 refine ⟨o,p,fun x u=>?_⟩
 rw [if_pos hw]
 unfold Oper.wp
 rw [he]
 refine hc.mono fun e j hR=>?_
 obtain ⟨v,rfl,q,h⟩:=k e j hR
 exact u.out _ _ q h
theorem HAS.v {L:List Nat} {a:Act} {w:World} {i:Nat} {o:Oper} (j:World) (v:Value) (q:S j) (k:HA P ops Q S (i::L) (a.put o.dst v) j) (p:ops[i]?=some o:=by (simp only [J1,Ka,Kb];rfl))
  (hw:Region.wanted o (yielded ops a.tmps)=true:=by rfl) (he:(execOp a.eval o).run P w=.ok (.value v) j:=by go_simp):HAS P ops Q S i L a w:=by
 refine ⟨o,p,fun x u=>?_⟩
 rw [if_pos hw]
 unfold Oper.wp
 rw [he]
 exact u.out _ _ q fun _=>k
theorem HA.two {L:List Nat} {a:Act} {w:World} (i j:Nat) (y:HAS P ops Q S i L a w) (q:HAS P ops Q S j L a w) (hr:cM ops L=[i,j]:=by decide +kernel):HA P ops Q S L a w:=by
 obtain ⟨H,x,y⟩:=y
 obtain ⟨I,p,q⟩:=q
 have B:unl (bE ops.size L)=unl (bE ops.size (i::L))+1:=cQ (by rw [hr];simp)
 have D:unl (bE ops.size L)=unl (bE ops.size (j::L))+1:=cQ (by rw [hr];simp)
 have C:unl (bE ops.size (j::L))=unl (bE ops.size (i::L)):=by omega
 refine ⟨?_⟩
 rw [B]
 refine wpAnyH_ready (by rw [dt];exact hr) (by simp) (AllReadyH.cons x (fun A v=>y A fun a w u hw=>v.out a w u fun o=>(hw o).out) (AllReadyH.cons p (fun A v=>q A fun a w u hw=>v.out a w u fun o=>?_) AllReadyH.nil))
 have:=(hw o).out
 rw [C] at this
 exact this
theorem HA.three {L:List Nat} {a:Act} {w:World} (i j k:Nat) (B:HAS P ops Q S i L a w) (A:HAS P ops Q S j L a w) (y:HAS P ops Q S k L a w) (hr:cM ops L=[i,j,k]:=by decide +kernel):HA P ops Q S L a w:=by
 obtain ⟨O,C,B⟩:=B
 obtain ⟨R,x,A⟩:=A
 obtain ⟨ok,v,y⟩:=y
 have H:unl (bE ops.size L)=unl (bE ops.size (i::L))+1:=cQ (by rw [hr];simp)
 have J:unl (bE ops.size L)=unl (bE ops.size (j::L))+1:=cQ (by rw [hr];simp)
 have N:unl (bE ops.size L)=unl (bE ops.size (k::L))+1:=cQ (by rw [hr];simp)
 have D:unl (bE ops.size (j::L))=unl (bE ops.size (i::L)):=by omega
 have I:unl (bE ops.size (k::L))=unl (bE ops.size (i::L)):=by omega
 refine ⟨?_⟩
 rw [H]
 refine wpAnyH_ready (by rw [dt];exact hr) (by simp) (AllReadyH.cons C (fun u q=>B u fun a w p hw=>q.out a w p fun o=>(hw o).out) (AllReadyH.cons x (fun u q=>A u fun a w p hw=>q.out a w p fun o=>?_) (AllReadyH.cons v (fun u q=>y u fun a w p hw=>q.out a w p fun o=>?_) AllReadyH.nil)))
 ·have:=(hw o).out
  rw [D] at this
  exact this
 ·have:=(hw o).out
  rw [I] at this
  exact this
end
end Go.Proofs.YtaccfnffmbndhaaGreat
namespace Go.Proofs.YtaccfnffmbndhaaGreat
open Go.RowKit
section
variable {P:Program}
structure cL (P:Program) (t:TypeId) (n:Nat):Prop where
 d:∃d,P.underlying t=some d∧d.isRow=true
 s:(P.info? t).map (·.size)=some n
theorem dW {w:World} {b:Nat} {xs:Array Value} {t:TypeId} {p:Nat×Nat} (h:w.heap[b]?=some (.cells xs t p)) (o:Nat) {i:List Value} (hcs:(xs.toList.drop o).take i.length=i):w.rangeAt b o i:=fun j v hv=>by
 rw [JF w b (o+j) xs t p h]
 rw [←hcs,List.getElem?_take] at hv
 split at hv
 ·rw [List.getElem?_drop] at hv;simpa using hv
 ·cases hv
theorem kZ (w:World) (g:Nat) (i:Array Value):Keep (fun j=>j=g) w (w.setRow g i):=by
 refine ⟨rfl,rfl,rfl,by simp [World.setRow],fun k o hs=>?_⟩
 simp only [World.setRow,Array.getElem?_modify]
 rw [if_neg (fun e=>hs e.symm)]
theorem aJ {ops:Array Oper} {rest:List Oper} {op:Oper} {a:Act} {w:World} {Q:Exit→Act→World→Prop} {p:TypeId} {x:Operand} {b o:Nat} {xs:Array Value} {t:TypeId} {A:Nat×Nat} (i:Array Value)
  (y:w.heap[b]?=some (.cells xs t A)) (hr:cL P p i.size) (j:op.guard=none) (q:op.op=.load p x) (hx:a.eval x=.pointer (some ⟨b,o,none⟩)) (hcs:(xs.toList.drop o).take i.toList.length=i.toList)
  (h:wpList P ops Q rest (a.put op.dst (.agg i)) w):wpList P ops Q (op::rest) a w:=by
 obtain ⟨⟨d,h1,u⟩,v⟩:=hr
 exact wpList_load_mid j p x q b o hx i.toList d (dW y o hcs) h1 u (by simpa using v) (by simpa using h)
theorem dN {ops:Array Oper} {rest:List Oper} {op:Oper} {a:Act} {w:World} {Q:Exit→Act→World→Prop} {p:TypeId} {x:Operand} {b o:Nat} {i:List Value}
  (y:w.rangeAt b o i) (hr:cL P p i.length) (j:op.guard=none) (q:op.op=.load p x) (hx:a.eval x=.pointer (some ⟨b,o,none⟩))
  (h:wpList P ops Q rest (a.put op.dst (.agg i.toArray)) w):wpList P ops Q (op::rest) a w:=by
 obtain ⟨⟨d,h1,u⟩,v⟩:=hr
 exact wpList_load_mid j p x q b o hx i d y h1 u v h
theorem az {ops:Array Oper} {rest:List Oper} {op:Oper} {a:Act} {w:World} {Q:Exit→Act→World→Prop} {p:TypeId} {x y:Operand} {b n:Nat} {xs ys:Array Value} {t:TypeId}
  (q:w.heap[b]?=some (.cells xs t (0,0))) (hr:cL P p n) (i:op.guard=none) (u:op.op=.store p x y) (hx:a.eval x=.pointer (some ⟨b,0,none⟩)) (v:a.eval y=.agg ys)
  (hn:ys.size=n) (hs:xs.size=ys.size) (h1:ys.toList.all (·.oneCell')=true)
  (h:∀o,o.heap[b]?=some (.cells ys t (0,0))→Keep (fun j=>j=b) w o→wpList P ops Q rest (a.put op.dst undef) o):wpList P ops Q (op::rest) a w:=by
 refine wpList_plain i fun K A=>?_
 unfold Oper.wp execOp
 simp only [u,hx,v,Instr.storeAt,Instr.sureAddr,Sem.run_bind,Sem.run_pure,Result.andThen_ok,run_storeVar_row w b t p xs ys q (by rw [hn];exact hr.s) hs (by rw [←Array.all_toList];exact h1)]
 exact A _ _ (h _ (setRow_heap w b xs ys t (0,0) q) (kZ w b ys))
theorem ny {f:Func} {x:Tmp} {j:TypeId} (h:f.results=#[.cell x j]) {tmps:Array Value} {w:World} {b:Nat} {xs:Array Value} {t:TypeId} {u:Nat×Nat} (hx:tmps.getD x undef=.pointer (some ⟨b,0,none⟩))
  (q:w.heap[b]?=some (.cells xs t u)) (hr:cL P j xs.size):(results f tmps).run P w=.ok (.agg xs) w:=by
 obtain ⟨⟨d,h1,o⟩,p⟩:=hr
 have:=run_loadVar_mid (P:=P) w b 0 j xs.toList d (dW q 0 (by rw [Ke,Ks])) h1 o (by simpa using p)
 rw [Array.toArray_toList] at this
 have i:tmps[x]?.getD undef=.pointer (some ⟨b,0,none⟩):=by simpa using hx
 simp [results,h,i,asAddr,this]
theorem iE {f:Func} {x y:Tmp} {j:TypeId} (h:f.results=#[.cell x j,.tmp y]) {tmps:Array Value} {w:World} {b:Nat} {xs:Array Value} {t:TypeId} {u:Nat×Nat} (hx:tmps.getD x undef=.pointer (some ⟨b,0,none⟩))
  (q:w.heap[b]?=some (.cells xs t u)) (hr:cL P j xs.size):(results f tmps).run P w=.ok (.tuple #[.agg xs,tmps.getD y undef]) w:=by
 obtain ⟨⟨d,h1,o⟩,p⟩:=hr
 have:=run_loadVar_mid (P:=P) w b 0 j xs.toList d (dW q 0 (by rw [Ke,Ks])) h1 o (by simpa using p)
 rw [Array.toArray_toList] at this
 have i:tmps[x]?.getD undef=.pointer (some ⟨b,0,none⟩):=by simpa using hx
 simp [results,h,i,asAddr,this]
end
section
variable {P:Program} {ops:Array Oper} {Q:Exit→Act→World→Prop} {S:World→Prop} {n:Nat}
theorem rZ {S:World→Prop} {a:Act} {o:Oper} {u:TypeId} {x:Operand} {b i:Nat} {xs:Array Value} {t:TypeId} {B:Nat×Nat} (j:Array Value) (A:∀p,S p→p.heap[b]?=some (.cells xs t B)) (hr:cL P u j.size)
  (hop:o.op=.load u x) (hx:a.eval x=.pointer (some ⟨b,i,none⟩)) (hcs:(xs.toList.drop i).take j.toList.length=j.toList) (hg:Region.wanted o (yielded ops a.tmps)=true):YieldsIf P ops S o (.agg j) a:=by
 obtain ⟨⟨d,h1,v⟩,y⟩:=hr
 have:=yieldsIf_load_mid (P:=P) (ops:=ops) (S:=S) (op:=o) (a:=a) hg u x hop b i hx j.toList d (fun p q=>dW (A p q) i hcs) h1 v (by simpa using y)
 simpa using this
theorem HA.ld {L:List Nat} {a:Act} {w:World} (i:Nat) (p:Array Value) {o:Oper} {u:TypeId} {x:Operand} {b j:Nat} {xs:Array Value} {t:TypeId} {C:Nat×Nat} (B:∀q,S q→q.heap[b]?=some (.cells xs t C)) (hr:cL P u p.size) (A:S w)
  (k:HA P ops Q S (i::L) (a.put o.dst (.agg p)) w)
  (y:ops[i]?=some o:=by (simp only [J1,Ka,Kb];rfl)) (hop:o.op=.load u x:=by rfl) (hx:a.eval x=.pointer (some ⟨b,j,none⟩):=by rfl) (hcs:(xs.toList.drop j).take p.toList.length=p.toList:=by rfl) (hg:Region.wanted o (yielded ops a.tmps)=true:=by rfl)
  (hs:Region.noSelect ops=true:=by decide +kernel) (hQ:∀c a w d v,Q (.panic c) (Act.put a d v) w→Q (.panic c) a w:=by (intro _ _ _ d _ h;cases d<;>exact h)) (hc:j4 ops L [i]=true:=by decide +kernel):HA P ops Q S L a w:=
 HA.takes hs hQ A [i] hc (Ys.cons y (rZ p B hr hop hx hcs hg) Ys.nil) (by simpa using k)
theorem XA.ld {L:List Nat} {a:Act} {w:World} (i:Nat) (p:Array Value) {o:Oper} {u:TypeId} {x:Operand} {b j:Nat} {xs:Array Value} {t:TypeId} {C:Nat×Nat} (B:∀q,S q→q.heap[b]?=some (.cells xs t C)) (hr:cL P u p.size) (A:S w)
  (k:XA P ops Q S n (i::L) (a.put o.dst (.agg p)) w)
  (y:ops[i]?=some o:=by (simp only [J1,Ka,Kb];rfl)) (hop:o.op=.load u x:=by rfl) (hx:a.eval x=.pointer (some ⟨b,j,none⟩):=by rfl) (hcs:(xs.toList.drop j).take p.toList.length=p.toList:=by rfl) (hg:Region.wanted o (yielded ops a.tmps)=true:=by rfl)
  (hs:Region.noSelect ops=true:=by decide +kernel) (hQ:∀c a w d v,Q (.panic c) (Act.put a d v) w→Q (.panic c) a w:=by (intro _ _ _ d _ h;cases d<;>exact h)) (hc:ou ops n L [i]=true:=by decide +kernel):XA P ops Q S n L a w:=
 XA.takes hs hQ A [i] hc (Ys.cons y (rZ p B hr hop hx hcs hg) Ys.nil) (by simpa using k)
theorem HA.lr {L:List Nat} {a:Act} {w:World} (i:Nat) {p:List Value} {o:Oper} {q:TypeId} {x:Operand} {b j:Nat} (D:∀u,S u→u.rangeAt b j p) (hr:cL P q p.length) (B:S w)
  (k:HA P ops Q S (i::L) (a.put o.dst (.agg p.toArray)) w)
  (y:ops[i]?=some o:=by (simp only [J1,Ka,Kb];rfl)) (hop:o.op=.load q x:=by rfl) (hx:a.eval x=.pointer (some ⟨b,j,none⟩):=by rfl) (hg:Region.wanted o (yielded ops a.tmps)=true:=by rfl)
  (hs:Region.noSelect ops=true:=by decide +kernel) (hQ:∀c a w d v,Q (.panic c) (Act.put a d v) w→Q (.panic c) a w:=by (intro _ _ _ d _ h;cases d<;>exact h)) (hc:j4 ops L [i]=true:=by decide +kernel):HA P ops Q S L a w:=by
 obtain ⟨⟨d,h1,A⟩,C⟩:=hr
 exact HA.takes hs hQ B [i] hc (Ys.cons y (yieldsIf_load_mid hg q x hop b j hx p d D h1 A C) Ys.nil) (by simpa using k)
theorem HA.st {L:List Nat} {a:Act} {w:World} (i:Nat) {o:Oper} {q:TypeId} {x y:Operand} {b m:Nat} {xs ys:Array Value} {t:TypeId} (u:w.heap[b]?=some (.cells xs t (0,0))) (hr:cL P q m)
  (k:∀p,p.heap[b]?=some (.cells ys t (0,0))→Keep (fun j=>j=b) w p→S p∧HA P ops Q S (i::L) (a.put o.dst undef) p)
  (v:ops[i]?=some o:=by (simp only [J1,Ka,Kb];rfl)) (hop:o.op=.store q x y:=by rfl) (hx:a.eval x=.pointer (some ⟨b,0,none⟩):=by rfl) (hy:a.eval y=.agg ys:=by rfl)
  (hn:ys.size=m:=by rfl) (hs:xs.size=ys.size:=by rfl) (h1:ys.toList.all (·.oneCell')=true:=by rfl) (hrd:cM ops L=[i]:=by decide +kernel) (hw:Region.wanted o (yielded ops a.tmps)=true:=by rfl):HA P ops Q S L a w:=by
 obtain ⟨A,k⟩:=k _ (setRow_heap w b xs ys t (0,0) u) (kZ w b ys)
 refine HA.s i _ A k v hrd hw ?_
 unfold execOp
 simp only [hop,hx,hy,Instr.storeAt,Instr.sureAddr,Sem.run_bind,Sem.run_pure,Result.andThen_ok,run_storeVar_row w b t q xs ys u (by rw [hn];exact hr.s) hs (by rw [←Array.all_toList];exact h1)]
end
section
variable {P:Program} {ops:Array Oper} {Q:Exit→Act→World→Prop} {S:World→Prop}
theorem HA.sole {L:List Nat} {a:Act} {w:World} (i:Nat) (j:HAS P ops Q S i L a w) (hr:cM ops L=[i]:=by decide +kernel):HA P ops Q S L a w:=by
 obtain ⟨o,p,h⟩:=j
 exact HA.one i p hr h
theorem HAS.st {L:List Nat} {a:Act} {w:World} {i:Nat} {o:Oper} {q:TypeId} {x y:Operand} {b m:Nat} {xs ys:Array Value} {t:TypeId} (u:w.heap[b]?=some (.cells xs t (0,0))) (hr:cL P q m)
  (k:∀p,p.heap[b]?=some (.cells ys t (0,0))→Keep (fun j=>j=b) w p→S p∧HA P ops Q S (i::L) (a.put o.dst undef) p)
  (v:ops[i]?=some o:=by (simp only [J1,Ka,Kb];rfl)) (hop:o.op=.store q x y:=by rfl) (hx:a.eval x=.pointer (some ⟨b,0,none⟩):=by rfl) (hy:a.eval y=.agg ys:=by rfl)
  (hn:ys.size=m:=by rfl) (hs:xs.size=ys.size:=by rfl) (h1:ys.toList.all (·.oneCell')=true:=by rfl) (hw:Region.wanted o (yielded ops a.tmps)=true:=by rfl):HAS P ops Q S i L a w:=by
 obtain ⟨A,k⟩:=k _ (setRow_heap w b xs ys t (0,0) u) (kZ w b ys)
 refine ⟨o,v,fun C B=>?_⟩
 rw [if_pos hw]
 unfold Oper.wp
 have he:(execOp a.eval o).run P w=.ok .skip (w.setRow b ys):=by
  unfold execOp
  simp only [hop,hx,hy,Instr.storeAt,Instr.sureAddr,Sem.run_bind,Sem.run_pure,Result.andThen_ok,run_storeVar_row w b t q xs ys u (by rw [hn];exact hr.s) hs (by rw [←Array.all_toList];exact h1)]
 rw [he]
 exact B.out _ _ A fun _=>k
end
theorem ue {w u o i:World} {U V:Nat} {x y:Array Value} {t:TypeId} (ne:U≠V) (A:w.heap.size≤U) (p:w.heap.size≤V) (C:Below w.heap.size w u) (B:o.heap[U]?=some (.cells x t (0,0))) (D:Keep (fun j=>j=U) u o)
  (H:i.heap[V]?=some (.cells y t (0,0))) (q:Keep (fun j=>j=V) o i):i.heap[U]?=some (.cells x t (0,0))∧i.heap[V]?=some (.cells y t (0,0))∧U≠V∧w.heap.size≤U∧w.heap.size≤V∧Below w.heap.size w i:=
 have v:=C.trans (D.toBelow C.size (fun j e=>by rw [e];exact A))
 ⟨(q.block U (JC B) ne).trans B,H,ne,A,p,v.trans (q.toBelow v.size (fun j e=>by rw [e];exact p))⟩
theorem iq {w i:World} {B U:Nat} {W1:World} (q:Below B W1 w) (k:Keep (fun j=>j=U) w i) (hB:B≤w.heap.size) (o:B≤U):Below B W1 i:=q.trans (k.toBelow hB (fun j e=>by rw [e];exact o))
theorem I6 {w:World} {b:Nat} {t:TypeId} {C v p B q A y x o u i j v0 v1 v2 v3 v4 v5 v6 v7 v8 v9 v10 v11:Value} (h:w.heap[b]?=some (.cells #[C,v,p,B,q,A,y,x,o,u,i,j] t (0,0))):
  ((((((((((((w.setCell ⟨b,0,none⟩ v0).setCell ⟨b,1,none⟩ v1).setCell ⟨b,2,none⟩ v2).setCell ⟨b,3,none⟩ v3).setCell ⟨b,4,none⟩ v4).setCell ⟨b,5,none⟩ v5).setCell ⟨b,6,none⟩ v6).setCell ⟨b,7,none⟩ v7).setCell ⟨b,8,none⟩ v8).setCell ⟨b,9,none⟩ v9).setCell ⟨b,10,none⟩ v10).setCell ⟨b,11,none⟩ v11).heap[b]?=some (.cells #[v0,v1,v2,v3,v4,v5,v6,v7,v8,v9,v10,v11] t (0,0)):=ss (ss (ss (ss (ss (ss (ss (ss (ss (ss (ss (ss h rfl) rfl) rfl) rfl) rfl) rfl) rfl) rfl) rfl) rfl) rfl) (by simp)
theorem jl (x:Itm):(aN x).length=12:=by
 rcases x with ⟨k,s,n,a⟩
 cases a<;>rfl
theorem Ad {w:World} {A:Option Addr} {l:List Itm} (h:Rd w A (bH l)) {i:Nat} {y:Itm} (u:l[i]?=some y):∃b o,A=some ⟨b,o,none⟩∧∀f,f<12→w.cell? ⟨b,o+(i*12+f),none⟩=(aN y)[f]?:=by
 have v:=qg jl u 0 (by omega)
 obtain ⟨b,o,e,_⟩:=h _ ((aN y)[0]'(by rw [jl];omega)) (v.trans (Kh _))
 refine ⟨b,o,e,fun f p=>?_⟩
 have h1:=qg jl u f p
 have q:(aN y)[f]?=some ((aN y)[f]'(by rw [jl];exact p)):=Kh _
 obtain ⟨x,B,j,c⟩:=h _ _ (h1.trans q)
 rw [e] at j
 injection j with j
 injection j with e1 e2 _
 subst e1;subst e2
 rw [c,q]
theorem zU (b nx il ic u x:Nat) (c0 c1 c2 c3 c4 c5 c6 c7 c8 c9 a2 ad a5 ao a0 a7 a3:Value) (X V I:Int) (D J:Bool) (O U R Q H N T:Int) (w:World)
  (hb:w.heap[b]?=some (.cells #[c0,c1,c2,c3,c4,c5,c6,c7,c8,c9,a2,ad,a5,ao,a0,.slice (some ⟨u,x,none⟩) il ic,KL (nx:Nat),a7,a3] 130 (0,0))) (hx:nx<il)
  (hc:w.cell? ⟨u,x+nx*12,none⟩=some (KL X)∧w.cell? ⟨u,x+nx*12+1,none⟩=some (KL V)∧w.cell? ⟨u,x+nx*12+2,none⟩=some (KL I)∧w.cell? ⟨u,x+nx*12+3,none⟩=some (.bool D)∧w.cell? ⟨u,x+nx*12+4,none⟩=some (.bool J)∧w.cell? ⟨u,x+nx*12+5,none⟩=some (KL O)∧w.cell? ⟨u,x+nx*12+6,none⟩=some (KL U)∧w.cell? ⟨u,x+nx*12+7,none⟩=some (KL R)∧w.cell? ⟨u,x+nx*12+8,none⟩=some (KL Q)∧w.cell? ⟨u,x+nx*12+9,none⟩=some (KL H)∧w.cell? ⟨u,x+nx*12+10,none⟩=some (KL N)∧w.cell? ⟨u,x+nx*12+11,none⟩=some (KL T)):
  Calls Tryz.prog 16 #[.pointer (some ⟨b,0,none⟩)] w fun e o=>e=.returned (.tuple #[.agg #[KL X,KL V,KL I,.bool D,.bool J,KL O,KL U,KL R,KL Q,KL H,KL N,KL T],.bool true])∧Below w.heap.size w o:=by
 obtain ⟨p,hW0⟩:∃p,w.alloc (.cells KR 56)=p:=⟨_,rfl⟩
 have g0:p.heap[w.heap.size]?=some (.cells KR 56 (0,0)):=by rw [←hW0];exact JE w _
 have i:Below w.heap.size w p:=by rw [←hW0];exact (br w).alloc (JD _) _
 have hs:=JC hb
 have kb:=fun o (q:Keep (fun j=>j=w.heap.size) p o)=>(q.block b (by have:=i.size;omega) (by omega)).trans (sb hb p i)
 have tb:=fun o q=>zg (kb o q)
 obtain ⟨h0,h1,h2,h3,h4,h5,h6,h7,h8,h9,L,Y⟩:=hc
 have aP:u<w.heap.size:=ar h0
 have y:¬u=w.heap.size:=by omega
 have d0:=fun o (q:Keep (fun j=>j=w.heap.size) p o)=>q.cell (am i h0) y
 have d1:=fun o (q:Keep (fun j=>j=w.heap.size) p o)=>q.cell (am i h1) y
 have d2:=fun o (q:Keep (fun j=>j=w.heap.size) p o)=>q.cell (am i h2) y
 have d3:=fun o (q:Keep (fun j=>j=w.heap.size) p o)=>q.cell (am i h3) y
 have d4:=fun o (q:Keep (fun j=>j=w.heap.size) p o)=>q.cell (am i h4) y
 have d5:=fun o (q:Keep (fun j=>j=w.heap.size) p o)=>q.cell (am i h5) y
 have d6:=fun o (q:Keep (fun j=>j=w.heap.size) p o)=>q.cell (am i h6) y
 have d7:=fun o (q:Keep (fun j=>j=w.heap.size) p o)=>q.cell (am i h7) y
 have d8:=fun o (q:Keep (fun j=>j=w.heap.size) p o)=>q.cell (am i h8) y
 have d9:=fun o (q:Keep (fun j=>j=w.heap.size) p o)=>q.cell (am i h9) y
 have av:=fun o (q:Keep (fun j=>j=w.heap.size) p o)=>q.cell (am i L) y
 have a1:=fun o (q:Keep (fun j=>j=w.heap.size) p o)=>q.cell (am i Y) y
 have q0:Keep (fun j=>j=w.heap.size) p p:=Keep.refl _ _
 have aG:(nx:Int)<il:=by omega
 have aR:¬((il:Int)≤nx):=by omega
 obtain ⟨ab,a6,G0⟩:=af hW0 i g0;clear hW0 i g0 kb hb h0 h1 h2 h3 h4 h5 h6 h7 h8 h9 L Y
 go_enter Tryz.func16,Tryz.ntmps16
 go_wp2_with fail
 rw [ab.out]
 refine HA.g (fun o:World=>Keep (fun j=>j=w.heap.size) p o) ?_
 refine HA.t ?_ [0,1,2,3,4,5,6,7,8,9,10,11,12,13] q0.drew ?_
 refine HA.d ?_
 try simp only [Exit.then]
 have q1:=q0.drew
 go_wp2_with fail
 refine HA.g (fun o:World=>Keep (fun j=>j=w.heap.size) p o) ?_
 refine HA.t ?_ [0,1,2,3,4,5,6,7,8,9] q1.drew ?_
 obtain ⟨W1,A⟩:∃W1,p.drew.drew=W1:=⟨_,rfl⟩
 have g1:W1.heap[w.heap.size]?=some (.cells KR 56 (0,0)):=by rw [←A];exact G0.out
 have q2:Keep (fun j=>j=w.heap.size) p W1:=by rw [←A];exact q0.drew.drew
 have Z:Below w.heap.size w W1:=by rw [←A];exact (a6.out.drew).drew
 rw [A]
 clear A
 have C:=I6 (v0:=(KL X)) (v1:=(KL V)) (v2:=(KL I)) (v3:=(.bool D)) (v4:=(.bool J)) (v5:=(KL O)) (v6:=(KL U)) (v7:=(KL R)) (v8:=(KL Q)) (v9:=(KL H)) (v10:=(KL N)) (v11:=(KL T)) g1
 obtain ⟨W9,B⟩:∃W9,((((((((((((W1.setCell ⟨w.heap.size,0,none⟩ (KL X)).setCell ⟨w.heap.size,1,none⟩ (KL V)).setCell ⟨w.heap.size,2,none⟩ (KL I)).setCell ⟨w.heap.size,3,none⟩ (.bool D)).setCell ⟨w.heap.size,4,none⟩ (.bool J)).setCell ⟨w.heap.size,5,none⟩ (KL O)).setCell ⟨w.heap.size,6,none⟩ (KL U)).setCell ⟨w.heap.size,7,none⟩ (KL R)).setCell ⟨w.heap.size,8,none⟩ (KL Q)).setCell ⟨w.heap.size,9,none⟩ (KL H)).setCell ⟨w.heap.size,10,none⟩ (KL N)).setCell ⟨w.heap.size,11,none⟩ (KL T))=W9:=⟨_,rfl⟩
 have k9:Keep (fun j=>j=w.heap.size) W1 W9:=by rw [←B];exact Keep.setCell (S:=fun j=>j=w.heap.size) (Keep.setCell (S:=fun j=>j=w.heap.size) (Keep.setCell (S:=fun j=>j=w.heap.size) (Keep.setCell (S:=fun j=>j=w.heap.size) (Keep.setCell (S:=fun j=>j=w.heap.size) (Keep.setCell (S:=fun j=>j=w.heap.size) (Keep.setCell (S:=fun j=>j=w.heap.size) (Keep.setCell (S:=fun j=>j=w.heap.size) (Keep.setCell (S:=fun j=>j=w.heap.size) (Keep.setCell (S:=fun j=>j=w.heap.size) (Keep.setCell (S:=fun j=>j=w.heap.size) (Keep.setCell (S:=fun j=>j=w.heap.size) (Keep.refl _ _) _ (.inr rfl) _) _ (.inr rfl) _) _ (.inr rfl) _) _ (.inr rfl) _) _ (.inr rfl) _) _ (.inr rfl) _) _ (.inr rfl) _) _ (.inr rfl) _) _ (.inr rfl) _) _ (.inr rfl) _) _ (.inr rfl) _) _ (.inr rfl) _
 rw [B] at C
 have u0:=jN g1
 have lu:=JC g1
 refine HA.s 10 W9 (q2.trans k9) ?_ (he:=by subst B;go_simp)
 refine HA.t ?_ [11] (q2.trans k9) ?_
 refine HA.d ?_
 obtain ⟨⟨r0,r1,r2,r3,r4,r5,r6,r7,r8,r9,a8,a4⟩,rf⟩:=jN C
 have HB:=aa (Z.trans (k9.toBelow Z.size (fun j hj=>by omega)))
 have aM:=JC C
 clear C k9 g1 u0 lu q0 q1 q2 tb B d0 d1 d2 d3 d4 d5 d6 d7 d8 d9 av a1
 go_wp2_with fail
 exact JQ (v:=.tuple #[.agg #[KL X,KL V,KL I,.bool D,.bool J,KL O,KL U,KL R,KL Q,KL H,KL N,KL T],.bool true]) (by simp [results,Tryz.results16,go_sem,r0,r1,r2,r3,r4,r5,r6,r7,r8,r9,a8,a4]) rfl ⟨rfl,HB.out⟩
theorem iP {H:Nat→Prop} {w:World} {b x:Nat} {i:Inp} {a:MAd} {m:Mst} (h:aI H w b i x a m) {y:Itm} (u:(bZ i x m.st)[m.nx]?=some y):
  Calls Tryz.prog 16 #[.pointer (some ⟨b,0,none⟩)] w fun e A=>e=.returned (.tuple #[.agg (aN y).toArray,.bool true])∧Below w.heap.size w A:=by
 have hl:m.nx<(bZ i x m.st).length:=(Kg.1 u).1
 obtain ⟨q,o,e,hc⟩:=Ad (aU h.it (cJ _ w)) u
 have p:=h.blk
 rw [e] at p
 have j:∀f,f<12→w.cell? ⟨q,o+m.nx*12+f,none⟩=(aN y)[f]?:=fun f j=>by rw [Ky];exact hc f j
 rcases y with ⟨B,st,n,v⟩
 cases v with
 | none=>
  exact zU b m.nx _ _ q o _ _ _ _ _ _ _ _ _ _ _ _ _ _ _ _ _ _ _ _ _ _ _ _ _ _ _ _ _ w p hl ⟨j 0 (by omega),j 1 (by omega),j 2 (by omega),j 3 (by omega),j 4 (by omega),j 5 (by omega),j 6 (by omega),j 7 (by omega),j 8 (by omega),j 9 (by omega),j 10 (by omega),j 11 (by omega)⟩
 | some v=>
  exact zU b m.nx _ _ q o _ _ _ _ _ _ _ _ _ _ _ _ _ _ _ _ _ _ _ _ _ _ _ _ _ _ _ _ _ w p hl ⟨j 0 (by omega),j 1 (by omega),j 2 (by omega),j 3 (by omega),j 4 (by omega),j 5 (by omega),j 6 (by omega),j 7 (by omega),j 8 (by omega),j 9 (by omega),j 10 (by omega),j 11 (by omega)⟩
theorem qd {H:Nat→Prop} {w:World} {b x:Nat} {i:Inp} {a:MAd} {m:Mst} (h:aI H w b i x a m) (hn:(bZ i x m.st).length≤m.nx):
  Calls Tryz.prog 16 #[.pointer (some ⟨b,0,none⟩)] w fun e A=>e=.returned (.tuple #[.agg KR,.bool false])∧Below w.heap.size w A:=by
 obtain ⟨N,B⟩:∃N,(bZ i x m.st).length=N:=⟨_,rfl⟩
 have Q:=h.blk
 rw [B] at Q hn
 obtain ⟨o,hW0⟩:∃o,w.alloc (.cells KR 56)=o:=⟨_,rfl⟩
 have g0:o.heap[w.heap.size]?=some (.cells KR 56 (0,0)):=by rw [←hW0];exact JE w _
 have y:Below w.heap.size w o:=by rw [←hW0];exact (br w).alloc (JD _) _
 have tb:=fun A q=>zg (sb (sb Q o y) A q)
 obtain ⟨n,C⟩:∃n,m.nx=n:=⟨_,rfl⟩
 rw [C] at tb hn
 have a2:(N:Int)≤n:=by omega
 have X:=br o
 obtain ⟨R,O,G0⟩:=af hW0 y g0;clear hW0 y g0 Q h B C
 go_enter Tryz.func16,Tryz.ntmps16
 go_wp2_with fail
 rw [R.out]
 refine HA.g (fun A:World=>Below o.heap.size o A) ?_
 refine HA.t ?_ [0,1,2,3,4,5,6,7,8,9,10,11,12,13] X.drew ?_
 refine HA.d ?_
 try simp only [Exit.then]
 obtain ⟨W1,p⟩:∃W1,o.drew=W1:=⟨_,rfl⟩
 have L:W1.heap[w.heap.size]?=some (.cells KR 56 (0,0)):=by rw [←p];exact G0.out
 have D:Below w.heap.size w W1:=by rw [←p];exact O.out.drew
 rw [p]
 clear p X tb
 obtain ⟨⟨u0,u1,u2,u3,u4,u5,u6,u7,u8,u9,a1,a0⟩,uf⟩:=jN L
 have lu:=JC L
 have J:=I6 (v0:=KL 0) (v1:=KL 0) (v2:=KL 0) (v3:=.bool false) (v4:=.bool false) (v5:=KL 0) (v6:=KL 0) (v7:=KL 0) (v8:=KL 0) (v9:=KL 0) (v10:=KL 0) (v11:=KL 0) L
 have V:=aa J
 have kk:Keep (fun j=>j=w.heap.size) W1 (((((((((((((W1.setCell ⟨w.heap.size,0,none⟩ (KL 0)).setCell ⟨w.heap.size,1,none⟩ (KL 0)).setCell ⟨w.heap.size,2,none⟩ (KL 0)).setCell ⟨w.heap.size,3,none⟩ (.bool false)).setCell ⟨w.heap.size,4,none⟩ (.bool false)).setCell ⟨w.heap.size,5,none⟩ (KL 0)).setCell ⟨w.heap.size,6,none⟩ (KL 0)).setCell ⟨w.heap.size,7,none⟩ (KL 0)).setCell ⟨w.heap.size,8,none⟩ (KL 0)).setCell ⟨w.heap.size,9,none⟩ (KL 0)).setCell ⟨w.heap.size,10,none⟩ (KL 0)).setCell ⟨w.heap.size,11,none⟩ (KL 0))):=Keep.setCell (S:=fun j=>j=w.heap.size) (Keep.setCell (S:=fun j=>j=w.heap.size) (Keep.setCell (S:=fun j=>j=w.heap.size) (Keep.setCell (S:=fun j=>j=w.heap.size) (Keep.setCell (S:=fun j=>j=w.heap.size) (Keep.setCell (S:=fun j=>j=w.heap.size) (Keep.setCell (S:=fun j=>j=w.heap.size) (Keep.setCell (S:=fun j=>j=w.heap.size) (Keep.setCell (S:=fun j=>j=w.heap.size) (Keep.setCell (S:=fun j=>j=w.heap.size) (Keep.setCell (S:=fun j=>j=w.heap.size) (Keep.setCell (S:=fun j=>j=w.heap.size) (Keep.refl _ _) _ (.inr rfl) _) _ (.inr rfl) _) _ (.inr rfl) _) _ (.inr rfl) _) _ (.inr rfl) _) _ (.inr rfl) _) _ (.inr rfl) _) _ (.inr rfl) _) _ (.inr rfl) _) _ (.inr rfl) _) _ (.inr rfl) _) _ (.inr rfl) _
 obtain ⟨KK,I⟩:=ae kk D;clear J kk L D
 go_wp2_with fail
 obtain ⟨W9,u⟩:∃W9,((((((((((((W1.setCell ⟨w.heap.size,0,none⟩ (KL 0)).setCell ⟨w.heap.size,1,none⟩ (KL 0)).setCell ⟨w.heap.size,2,none⟩ (KL 0)).setCell ⟨w.heap.size,3,none⟩ (.bool false)).setCell ⟨w.heap.size,4,none⟩ (.bool false)).setCell ⟨w.heap.size,5,none⟩ (KL 0)).setCell ⟨w.heap.size,6,none⟩ (KL 0)).setCell ⟨w.heap.size,7,none⟩ (KL 0)).setCell ⟨w.heap.size,8,none⟩ (KL 0)).setCell ⟨w.heap.size,9,none⟩ (KL 0)).setCell ⟨w.heap.size,10,none⟩ (KL 0)).setCell ⟨w.heap.size,11,none⟩ (KL 0))=W9:=⟨_,rfl⟩
 rw [u]
 have Y:=V.out
 rw [u] at Y
 obtain ⟨⟨r0,r1,r2,r3,r4,r5,r6,r7,r8,r9,T,U⟩,rf⟩:=jN Y
 have Z:=KK.out
 rw [u] at Z
 have HB:=I.out.trans (Z.toBelow I.out.size (fun j hj=>by omega))
 exact JQ (v:=.tuple #[.agg KR,.bool false]) (by simp [results,Tryz.results16,go_sem,r0,r1,r2,r3,r4,r5,r6,r7,r8,r9,T,U]) rfl ⟨rfl,HB⟩
theorem yI {H:Nat→Prop} {w:World} {b x:Nat} {i:Inp} {a:MAd} {m:Mst} (h:aI H w b i x a m):
  Calls Tryz.prog 19 #[.pointer (some ⟨b,0,none⟩)] w fun e o=>e=.returned (KL (aW i x m:Nat))∧w=o:=by
 obtain ⟨n,hn⟩:∃n,aW i x m=n:=⟨_,rfl⟩
 have j:=h.blk
 rw [hn] at j ⊢
 have p:=zg j
 clear h j hn
 go_enter Tryz.func19,Tryz.ntmps19
 go_wp2
 go_ret
 exact ⟨rfl,rfl⟩
theorem Ce {H:Nat→Prop} {w:World} {b x:Nat} {i:Inp} {a:MAd} {m:Mst} (h:aI H w b i x a m) (hn:i.start.length≤60):
  Calls Tryz.prog 21 #[.pointer (some ⟨b,0,none⟩)] w fun e u=>∃v o,e=.returned (.slice v i.start.length o)∧i.start.length≤o∧u.ownsRow w.heap.size 2 1 (.slice v i.start.length o) i.start.length (aq .i64 m.G)∧Below w.heap.size w u:=by
 have hc:=dY (some ⟨a.bg,0,none⟩) m.G a.cg w (Rd.own h.oG) (by rw [h.wG.1];omega)
 rw [h.wG.1] at hc
 have A:=zg h.blk
 obtain ⟨n,j⟩:∃n,i.start.length=n:=⟨_,rfl⟩
 rw [j] at hc A ⊢
 have D:=aa hc;clear h hc j hn
 go_enter Tryz.func21,Tryz.ntmps21
 go_wp2_with fail
 refine D.out.mono ?_
 rintro e I ⟨A1,c1,rfl,p,y,q⟩
 obtain ⟨C,B⟩:=ae y q;clear y q
 go_wp2_with fail
 go_ret
 exact ⟨_,_,rfl,p,C.out,B.out⟩
theorem BV {H:Nat→Prop} {w:World} {b x:Nat} {i:Inp} {a:MAd} {m:Mst} (h:aI H w b i x a m) (hn:m.op.length≤60):
  Calls Tryz.prog 22 #[.pointer (some ⟨b,0,none⟩)] w fun e q=>∃v,e=.returned v∧q.ownsRow w.heap.size 3 1 v m.op.length (aq .i64 (dw m.op))∧Below w.heap.size w q:=by
 obtain ⟨A,c,hv,_⟩:=aw h.oO
 have hc:=kw A (dw m.op) c w (by have:=h.oO;rw [hv] at this;exact Rd.own this) (by rw [jV];omega)
 rw [jV] at hc
 have p:=zg h.blk
 rw [hv] at p
 obtain ⟨n,j⟩:∃n,m.op.length=n:=⟨_,rfl⟩
 rw [j] at hc p ⊢
 have C:=aa hc;clear h hc j hn hv
 go_enter Tryz.func22,Tryz.ntmps22
 go_wp2_with fail
 refine C.out.mono ?_
 rintro e D ⟨v,rfl,u,o⟩
 obtain ⟨B,y⟩:=ae u o;clear u o
 go_wp2_with fail
 go_ret
 exact ⟨_,rfl,B.out,y.out⟩
def Jc (n:Nat) (P M:List Int) (w:World) (e:Ending) (o:World):Prop:=∃A1 c1 i c2,e=.returned (.agg #[.slice A1 n c1,.slice i n c2])∧n≤c1∧n≤c2∧o.ownsRow w.heap.size 2 1 (.slice A1 n c1) n (aq .i64 P)∧o.ownsRow w.heap.size 2 1 (.slice i n c2) n (aq .i64 M)∧
 (∀j,(Value.slice A1 n c1).ownBlock=some j→(Value.slice i n c2).ownBlock≠some j)∧Below w.heap.size w o
theorem yA {H:Nat→Prop} {w:World} {b x:Nat} {i:Inp} {a:MAd} {m:Mst} (h:aI H w b i x a m) (hn:i.start.length≤60):
  Calls Tryz.prog 23 #[.pointer (some ⟨b,0,none⟩)] w (Jc i.start.length m.P m.M w):=by
 obtain ⟨J,hW0⟩:∃J,w.alloc (.cells #[KN,KN] 68)=J:=⟨_,rfl⟩
 have g0:J.heap[w.heap.size]?=some (.cells #[KN,KN] 68 (0,0)):=by rw [←hW0];exact JE w _
 have p:Below w.heap.size w J:=by rw [←hW0];exact (br w).alloc (JD _) _
 have B:=jt (some ⟨a.bp,0,none⟩) (some ⟨a.bm,0,none⟩) i.start.length a.cp a.cm m.P m.M J ((Rd.own h.oP).below p) ((Rd.own h.oM).below p) h.wP.1 h.wM.1 (by omega)
 have tb:=zg h.blk
 have lb:=JC h.blk
 unfold Jc
 obtain ⟨n,L⟩:∃n,i.start.length=n:=⟨_,rfl⟩
 rw [L] at B tb ⊢
 obtain ⟨a0,a1,o,G0⟩:=ag B hW0 p g0;clear h B hn L hW0 p g0
 go_enter Tryz.func23,Tryz.ntmps23
 go_wp2_with fail
 rw [a1.out]
 refine a0.out.mono ?_
 rintro e V ⟨A1,c1,I,c2,rfl,U,N,y,C,q,A⟩
 have D:=sb G0.out V A
 have O:=aa (o.out.trans (A.mono o.out.size))
 obtain ⟨⟨z0,z1⟩,zf⟩:=bx2 D
 have lz:=JC D
 have e3:=ss2 (v:=.slice A1 n c1) (u:=.slice I n c2) (i:=0) (j:=1) (cs':=#[.slice A1 n c1,.slice I n c2]) D
 have X:Keep (fun j=>j=w.heap.size) V ((V.setCell ⟨w.heap.size,0,none⟩ (.slice A1 n c1)).setCell ⟨w.heap.size,1,none⟩ (.slice I n c2)):=Keep.setCell (S:=fun j=>j=w.heap.size) (Keep.setCell (S:=fun j=>j=w.heap.size) (Keep.refl _ _) ⟨w.heap.size,0,none⟩ (.inr rfl) _) ⟨w.heap.size,1,none⟩ (.inr rfl) _
 have T:=X.own y (fun j Y e=>an D (by decide) y (by rw [Y,e]))
 have Q:=X.own C (fun j Y e=>an D (by decide) C (by rw [Y,e]))
 obtain ⟨E3,HK,a5,Z,R,a4,a3⟩:=aj e3 X (ax (base':=w.heap.size) T o.out.size) (ax (base':=w.heap.size) Q o.out.size) q U N;clear e3 X T Q q U N D A y C tb
 go_wp2_with fail
 obtain ⟨W9,a2⟩:∃W9,W9=(V.setCell ⟨w.heap.size,0,none⟩ (.slice A1 n c1)).setCell ⟨w.heap.size,1,none⟩ (.slice I n c2):=⟨_,rfl⟩
 have e9:=E3.out;have k9:=HK.out;have p9:=a5.out;have m9:=Z.out
 rw [←a2] at e9 k9 p9 m9 ⊢
 obtain ⟨⟨x0,x1⟩,xf⟩:=bx2 e9
 exact JQ (v:=.agg #[.slice A1 n c1,.slice I n c2]) (by simp [results,Tryz.results23,go_sem,x0,x1]) rfl ⟨A1,c1,I,c2,rfl,a4.out,a3.out,p9,m9,R.out,O.out.trans (k9.toBelow O.out.size (fun j Y=>by omega))⟩
def StL (base:Nat) (w:World) (l:List Ex) (v:Value):Prop:=∃i:List (List Value),w.ownsRow base 68 2 v l.length (List.flatten i)∧i.length=l.length∧(∀r∈i,r.length=2)∧∀j x,l[j]?=some x→dz w base (bq i j) x
theorem StL.form {base:Nat} {w:World} {l:List Ex} {v:Value} (h:StL base w l v):∃A c,v=.slice A l.length c∧l.length≤c:=by
 obtain ⟨i,h1,_⟩:=h
 exact aw h1
theorem StL.below {base:Nat} {w o:World} {l:List Ex} {v:Value} (h:StL base w l v) (p:Below w.heap.size w o):StL base o l v:=by
 obtain ⟨i,h1,q,y,u⟩:=h
 exact ⟨i,ap h1 p,q,y,fun j x hx=>(u j x hx).keep (S:=fun _=>False) (Keep.below p) (fun _ h=>h.elim)⟩
theorem StL.rd {base:Nat} {w:World} {l:List Ex} {A:Option Addr} {n c:Nat} (h:StL base w l (.slice A n c)):cE rEx 2 w A l:=by
 obtain ⟨i,h1,o,q,p⟩:=h
 obtain ⟨v,u,e,_⟩:=aw h1
 injection e with e1 e2 e3
 subst e2
 exact ⟨i,Rd.own h1,o,q,fun j x hx=>(p j x hx).rd⟩
theorem StL.nil (base:Nat) (w:World):StL base w [] (KN):=⟨[],JO _ _ _ _,rfl,by simp,by simp⟩
theorem StL.push {base:Nat} {w u:World} {l:List Ex} {x:Ex} {v v' p o:Value} {i:List (List Value)} (h1:w.ownsRow base 68 2 v l.length (List.flatten i)) (A:i.length=l.length) (H:∀r∈i,r.length=2) (D:∀j x,l[j]?=some x→dz w base (bq i j) x)
  (hu:dz w base [p,o] x) (B:u.ownsRow base 68 2 v' (l.length+1) (List.flatten i++[p,o])) (hg:w.grownBy u v.ownBlock):StL base u (l++[x]) v':=by
 refine ⟨i++[[p,o]],?_,by simp [A],?_,?_⟩
 ·rw [Kf,Kr,List.flatten_cons,List.flatten_nil,List.append_nil];exact B
 ·intro r hr
  rcases Kv.1 hr with hr | hr
  ·exact H r hr
  ·rw [List.mem_singleton.1 hr];rfl
 ·intro j y q
  rcases JR j l.length with h | h
  ·rw [Ki h] at q
   have e:bq (i++[[p,o]]) j=bq i j:=by simp [bq,Ki (show j<i.length by omega)]
   rw [e];exact (D j y q).pushed h1 hg (by decide)
  ·have C:j=l.length:=by have:=(Kg.1 q).1;simp at this;omega
   subst C
   simp at q
   subst q
   have e:bq (i++[[p,o]]) l.length=[p,o]:=by rw [←A];simp [bq]
   rw [e];exact hu.pushed h1 hg (by decide)
theorem tE.rd {H:Nat→Prop} {w:World} {b x:Nat} {i:Inp} {a:MAd} {m:Mst} (h:aI H w b i x a m):cE rEx 2 w (some ⟨a.rb,0,none⟩) m.rc:=by
 obtain ⟨o,h1,p,u,q⟩:=h.re
 exact ⟨o,Rd.own h1,p,u,fun j x hx=>bW (q j x hx) (cJ _ w)⟩
theorem GU {l:List Ex} {k:Nat} {x:Ex} (h:l[k]?=some x):l.take (k+1)=l.take k++[x]:=by
 obtain ⟨i,e⟩:=Kg.1 h
 rw [List.take_succ_eq_append_getElem i,e]
theorem BT {H:Nat→Prop} {w:World} {b x:Nat} {i:Inp} {a:MAd} {m:Mst} (h:aI H w b i x a m) (hn:∀y∈m.rc,y.1.length=i.start.length∧y.2.length=i.start.length) (hi:i.start.length≤60) (hl:m.rc.length≤100):
  Calls Tryz.prog 20 #[.pointer (some ⟨b,0,none⟩)] w fun e w'=>∃v,e=.returned v∧StL w.heap.size w' m.rc v∧Below w.heap.size w w':=by
 have tb:=zg h.blk
 have lb:=JC h.blk
 have hr:=tE.rd h
 obtain ⟨N,hN⟩:∃N,m.rc.length=N:=⟨_,rfl⟩
 obtain ⟨n,O⟩:∃n,i.start.length=n:=⟨_,rfl⟩
 rw [hN] at tb hl
 rw [O] at hn hi
 obtain ⟨Hr,HN,Hn⟩:=af hr hN hn;clear hr h hN hn O
 go_enter Tryz.func20,Tryz.ntmps20
 go_wp2_with fail
 clear tb
 go_loopw [3,13] (fun v y wr=>∃k:Nat,k≤N∧y=KL k∧StL w.heap.size wr (m.rc.take k) v∧Below w.heap.size w wr) (fun _ y _=>N-(intOf y).toNat)
 case atStart=>exact ⟨0,JH _,rfl,StL.nil _ _,JG _ _⟩
 case round=>
  obtain ⟨k,hk,rfl,hs,q⟩:=hrel
  by_cases a2:k<N
  ·have a4:(k:Int)<N:=by omega
   have aR:IntKind.i64.wrap ((k:Int)+1)=((k+1:Nat):Int):=by rw [JI _ (by omega)];push_cast;rfl
   obtain ⟨y,hx⟩:∃x,m.rc[k]?=some x:=⟨_,Kh (by rw [HN.out];exact a2)⟩
   have j:=Hn.out y (List.mem_of_getElem? hx)
   have Y:=GU hx
   obtain ⟨bb,o,A1,c1,A2,c2,e,R,p1,p2,r1,r2⟩:=fl Hr.out hx
   injection e with e
   injection e with e1 e2
   subst e1;subst e2
   rw [j.1] at p1
   rw [j.2] at p2
   have q1:=(q.cell (p:=⟨a.rb,0+k*2,none⟩) R).trans p1
   have q2:=(q.cell (p:=⟨a.rb,0+k*2+1,none⟩) R).trans p2
   rw [Kz] at q1 q2
   obtain ⟨W1,A⟩:∃W1,wr.alloc (.cells #[.slice A1 n c1,.slice A2 n c2] 68)=W1:=⟨_,rfl⟩
   have g1:W1.heap[wr.heap.size]?=some (.cells #[.slice A1 n c1,.slice A2 n c2] 68 (0,0)):=by rw [←A];exact JE wr _
   have k1:Below wr.heap.size wr W1:=by rw [←A];exact (br wr).alloc (JD _) _
   have qW:Below w.heap.size w W1:=q.trans (k1.mono q.size)
   have Z:=jt A1 A2 n c1 c2 y.1 y.2 W1 (r1.hr.below qW) (r2.hr.below qW) j.1 j.2 (by omega)
   have B:=JL r1.hw r2.hw
   have U:=hs.below k1
   have lr:=q.size
   have tg:=bx2 g1
   obtain ⟨aM,aG,QW,ao,ad,L,C⟩:=aj Z A qW U Y j B;clear Z A qW U Y j B g1 k1 r1 r2 p1 p2 hx q
   have b0:a.rb<wr.heap.size:=by omega
   have I:(m.rc.take k).length=k:=by rw [Kk,HN.out];omega
   have u:=aa I
   obtain ⟨Av,cv,e,_⟩:=hs.form
   rw [I] at e
   subst e
   clear hs I
   go_wp2_with fail
   rw [aG.out]
   refine aM.out.mono ?_
   rintro e w3 ⟨B1,d1,B2,d2,rfl,av,ab,o1,o2,X,k3⟩
   have a0:=ao.out.below k3
   obtain ⟨aP,u1,u2,u3,u4⟩:=a0
   have D:=QW.out.trans (k3.mono QW.out.size)
   have hu:=Dp (base:=w.heap.size) (x:=y) o1 o2 QW.out.size L.out.1 L.out.2 (by omega) C.out.1 C.out.2
   rw [u.out] at u1 u2
   obtain ⟨J,a7,a8,a6,Hu,a5⟩:=ai u1 u2 u3 u4 hu D
   have a1:=D.size
   clear u1 u2 u3 u4 hu D X o1 o2 k3 av ab tg q1 q2
   go_wp2_with (at_builtin;refine aQ EU _ rfl (.tmp 17) (.tmp 20) rfl w.heap.size (.slice Av k cv) k _ rfl J.out [.slice B1 n d1,.slice B2 n d2] rfl rfl (by simp [Value.oneCell']) (by omega) (by unfold maxLen;omega) a1 ?_)
   intro g6 c6 w6 Q T V
   have hp:=StL.push (x:=y) (v':=.slice (some ⟨g6,0,none⟩) (k+1) c6) (by rw [u.out];exact J.out) (by rw [u.out];exact a7.out) a8.out a6.out Hu.out (by rw [u.out];exact Q) V
   rw [←ad.out] at hp
   obtain ⟨Hp,a3⟩:=ae hp (a5.out.trans T);clear hp Q T V
   go_wp2_with fail
   go_roundw
   case rel=>exact ⟨k+1,by omega,by go_num,Hp.out,a3.out⟩
   case measure=>simp [intOf];omega
  ·have a4:¬((k:Int)<N):=by omega
   rw [List.take_of_length_le (by rw [HN.out];omega)] at hs
   obtain ⟨Hs,Hq⟩:=ae hs q;clear hs q
   go_wp2_with fail
   go_ret
   exact ⟨_,rfl,Hs.out,Hq.out⟩
end Go.Proofs.YtaccfnffmbndhaaGreat
